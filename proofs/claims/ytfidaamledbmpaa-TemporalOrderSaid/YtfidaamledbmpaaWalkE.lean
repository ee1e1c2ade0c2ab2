/- The happenings of all ticks: the map that the program makes, and the ticks in ascending order. Conditions: the launches are of jobs of the task, at small times. -/
import Derived.Test.YtfidaamledbmpaaWalkD
import Derived.Test.YtfidaamledbmpaaMap
import Derived.Test.YtfidaamledbmpaaShelf
import Derived.Sort.OwnSortedInts
namespace Go.Proofs.Ytfidaamledbmpaa
open Go.Lx Go.RowKit
attribute [local instance 10] Classical.propDecidable

/-! ### slices.Sort at []int, in place -/
def sortM (zs : List Int) : List Int := zs.mergeSort fun x y => decide (x ≤ y)

theorem sort_f {fz : FZ} {v : Value} {n : Nat} {zs : List Int} {Hs : HP} (h : OwnS 3 1 v n (zs.map (Value.int .i64)) Hs) (hn : n ≤ 1000000) :
    GFn Try.prog 53 [v] fz Hs fun u fz' H' => u = .tuple #[] ∧ fz' = fz ∧ OwnS 3 1 v n ((sortM zs).map (Value.int .i64)) H' := by
  have hl : zs.length = n := by have := h.1; simpa using this
  have hc : Callable Try.prog 53 := ⟨_, Try.func53, by decide, by decide⟩
  refine GFn.of hc fun w hw => ?_
  rcases h.2 with ⟨rfl, h2, rfl⟩ | ⟨g, cap, cur, rfl, rfl, h3, h4, h5, h6⟩
  · subst h2
    have hz : zs = [] := List.eq_nil_of_length_eq_zero hl
    subst hz
    refine (Try.slices_Sort_int_none none 0 w).mono fun e w' ⟨he, hw'⟩ => ⟨_, fz, [], he, ⟨rfl, rfl, by simpa [sortM] using OwnS.nil _ _⟩, by subst hw'; exact hw, by subst hw'; exact Fr.refl _ _, ⟨fun _ _ h => h, fun _ _ _ => rfl, by simp⟩⟩
  · have hb := (hw.own (g, .cells cur 3 (0, 0)) (by simp)).1
    have hlt := lt_of_heap hb
    have hh : Sort.Holds (Value.int .i64) w g 0 zs.toArray := holds_of_blockI hb (by rw [hl]; simpa using h6)
    have := Try.slices_Sort_int g 0 cap zs w hh hlt (by omega)
    rw [hl] at this
    refine this.mono fun e w' ⟨he, k, os, hw'⟩ => ?_
    have hlen : (sortM zs).length = zs.length := by simp [sortM]
    have hg := grownBy_sortedI (w := w) (g := g) (n := k) (os := os) (sortM zs).toArray
    have ho := ownsRow_sortedI (w := w) (base := 0) (g := g) (cap := cap) (n := k) (e := 3) (os := os) (cur := cur) (ss := zs) (ts := sortM zs) hlen (Nat.zero_le _) hb (by omega) h4 h5
    change w' = Sort.grow (Sort.putRow (Value.int .i64) (Sort.ahead w k) g 0 (sortM zs).toArray) os at hw'
    rw [← hw'] at hg ho
    rw [hl] at ho
    have hform := ho.2
    rcases hform with ⟨h7, _⟩ | ⟨g', cap', cur', h7, _, h9, h10, h11, h12, h13⟩
    · cases h7
    · injection h7 with h7 h8 h8'
      injection h7 with h7
      injection h7 with h7
      subst h7 h8'
      refine ⟨_, fz, [(g, .cells cur' 3 (0, 0))], he, ⟨rfl, rfl, ho.1, .inr ⟨g, cap, cur', rfl, rfl, h10, h11, h12, h13⟩⟩, ⟨fun b o hbo => ?_, (fun p hp => by simp only [List.mem_singleton] at hp; subst hp; exact ⟨h9, (hw.own (g, .cells cur 3 (0, 0)) (by simp)).2⟩), by simp⟩, ⟨hg.os, hg.tape, hg.output, hg.size, fun b hb' hn' => hg.block b hb' (fun he => hn' (by injection he with he; simp [he]))⟩, ⟨fun _ _ h => h, fun _ _ _ => rfl, fun p hp => .inl (by simp at hp; subst hp; simp)⟩⟩
      have h14 := hw.keep b o hbo
      rw [hg.block b (lt_of_heap h14) (fun he => by
        injection he with he; subst he
        have := (hw.own (b, .cells cur 3 (0, 0)) (by simp)).2
        rw [hbo] at this; cases this)]
      exact h14

/-! ### happenings -/
abbrev Hap := Int × Bool
def cellsH (hs : List Hap) : List Value := hs.flatMap fun h => [.int .i64 h.1, .bool h.2]
theorem cellsH_len (hs : List Hap) : (cellsH hs).length = hs.length * 2 := by
  induction hs with
  | nil => rfl
  | cons h r ih => simp only [cellsH, List.flatMap_cons, List.length_append, List.length_cons, List.length_nil] at *; omega
theorem cellsH_snoc (hs : List Hap) (h : Hap) : cellsH (hs ++ [h]) = cellsH hs ++ [.int .i64 h.1, .bool h.2] := by simp [cellsH]
def hapL : Lay Hap where
  size := 2
  rep := fun _ h cs => cs = [.int .i64 h.1, .bool h.2] ∧ I64 h.1
  len := fun h => by simp [h.1]
  mono := fun _ h => h

/-- a map of rows: at x it has the happenings f x -/
structure MR (m : List (Int × Value)) (rows : HP) (f : Int → List Hap) : Prop where
  nd : (m.map (·.1)).Nodup
  own : ∃ bs : List HP, rows = bs.flatten ∧ bs.length = m.length ∧ ∀ (i : Nat) (p : Int × Value), m[i]? = some p → ∃ b, bs[i]? = some b ∧ OwnS 86 2 p.2 (f p.1).length (cellsH (f p.1)) b
  has : ∀ x, f x ≠ [] ↔ ∃ p ∈ m, p.1 = x

theorem MR.nil : MR [] [] (fun _ => []) := ⟨by simp, ⟨[], rfl, rfl, by simp⟩, by simp⟩

theorem nodup_idx {l : List Int} (h : l.Nodup) {i j : Nat} {x : Int} (hi : l[i]? = some x) (hj : l[j]? = some x) : i = j := by
  obtain ⟨h1, h2⟩ := List.getElem?_eq_some_iff.1 hi
  obtain ⟨h3, h4⟩ := List.getElem?_eq_some_iff.1 hj
  rcases Nat.lt_trichotomy i j with hlt | he | hlt
  · exact absurd (h2.trans h4.symm) (List.pairwise_iff_getElem.1 h i j h1 h3 hlt)
  · exact he
  · exact absurd (h4.trans h2.symm) (List.pairwise_iff_getElem.1 h j i h3 h1 hlt)
theorem flatten_set_perm {bs : List HP} {i : Nat} {b : HP} (h : bs[i]? = some b) : ∃ Hr, bs.flatten.Perm (Hr ++ b) ∧ ∀ b', (bs.set i b').flatten.Perm (Hr ++ b') := by
  obtain ⟨hi, he⟩ := List.getElem?_eq_some_iff.1 h
  have hsplit : bs = bs.take i ++ b :: bs.drop (i + 1) := by
    rw [← he, List.getElem_cons_drop, List.take_append_drop]
  refine ⟨(bs.take i).flatten ++ (bs.drop (i + 1)).flatten, ?_, fun b' => ?_⟩
  · conv => lhs; rw [hsplit]
    simp only [List.flatten_append, List.flatten_cons, List.append_assoc]
    exact List.Perm.append_left _ List.perm_append_comm
  · rw [List.set_eq_take_append_cons_drop, if_pos hi]
    simp only [List.flatten_append, List.flatten_cons, List.append_assoc]
    exact List.Perm.append_left _ List.perm_append_comm

theorem MR.step {m : List (Int × Value)} {rows : HP} {f : Int → List Hap} (h : MR m rows f) (x : Int) (a : Hap) :
    ∃ Hr b, rows.Perm (Hr ++ b) ∧ OwnS 86 2 ((fndM m x 0).elim (.slice none 0 0) (·.2)) (f x).length (cellsH (f x)) b ∧
      ∀ v' b', OwnS 86 2 v' ((f x).length + 1) (cellsH (f x) ++ [.int .i64 a.1, .bool a.2]) b' → ∃ rows', rows'.Perm (Hr ++ b') ∧ MR (updM m x v') rows' (fun y => if y = x then f x ++ [a] else f y) := by
  obtain ⟨hnd, ⟨bs, rfl, hlen, hown⟩, hsome⟩ := h
  cases hf : fndM m x 0 with
  | none =>
    have hno := fndM_none m x 0 hf
    have hfx : f x = [] := by
      cases hc : f x with
      | nil => rfl
      | cons u r => obtain ⟨p, hp, he⟩ := (hsome x).1 (by rw [hc]; simp); exact absurd he (hno p hp)
    refine ⟨bs.flatten, [], by simp, by rw [hfx]; exact OwnS.nil _ _, fun v' b' hO => ⟨bs.flatten ++ b', List.Perm.refl _, ?_⟩⟩
    have hupd : updM m x v' = m ++ [(x, v')] := by simp [updM, hf]
    rw [hupd]
    refine ⟨?_, ⟨bs ++ [b'], by simp, by simp [hlen], fun i p hp => ?_⟩, fun y => ?_⟩
    · rw [List.map_append, List.nodup_append]
      refine ⟨hnd, by simp, fun u hu w hw huw => ?_⟩
      obtain ⟨p, hp, rfl⟩ := List.mem_map.1 hu
      simp at hw
      exact hno p hp (huw.trans hw)
    · by_cases hi : i < m.length
      · rw [List.getElem?_append_left hi] at hp
        obtain ⟨b, h1, h2⟩ := hown i p hp
        have hne : p.1 ≠ x := hno p (List.mem_of_getElem? hp)
        exact ⟨b, by rw [List.getElem?_append_left (by omega)]; exact h1, by rw [if_neg hne]; exact h2⟩
      · rw [List.getElem?_append_right (by omega)] at hp
        have hi0 : i - m.length = 0 := by
          have := lt_of_get hp; simp at this; omega
        rw [hi0] at hp
        simp at hp
        subst hp
        refine ⟨b', by rw [List.getElem?_append_right (by omega), hlen, hi0]; rfl, ?_⟩
        simp only [if_true]
        rw [cellsH_snoc]
        simpa using hO
    · by_cases hy : y = x
      · subst hy
        simp
      · rw [if_neg hy, hsome y]
        constructor
        · rintro ⟨p, hp, he⟩; exact ⟨p, by simp [hp], he⟩
        · rintro ⟨p, hp, he⟩
          rcases List.mem_append.1 hp with hp | hp
          · exact ⟨p, hp, he⟩
          · simp at hp; subst hp; exact absurd he.symm hy
  | some q =>
    obtain ⟨i, v⟩ := q
    have hfs := (fndM_some m x 0 i v hf).2
    simp only [Nat.sub_zero] at hfs
    obtain ⟨b, hb, hO0⟩ := hown i (x, v) hfs
    obtain ⟨Hr, hp1, hp2⟩ := flatten_set_perm hb
    refine ⟨Hr, b, hp1, hO0, fun v' b' hO => ⟨(bs.set i b').flatten, hp2 b', ?_⟩⟩
    have hupd : updM m x v' = m.set i (x, v') := by simp [updM, hf]
    rw [hupd]
    have hil := lt_of_get hfs
    have hkeys : (m.set i (x, v')).map (·.1) = m.map (·.1) := by
      rw [List.map_set]
      refine List.ext_getElem? fun j => ?_
      by_cases hj : i = j
      · subst hj; rw [List.getElem?_set_self (by simpa using hil), List.getElem?_map, hfs]; rfl
      · rw [List.getElem?_set_ne hj]
    refine ⟨by rw [hkeys]; exact hnd, ⟨bs.set i b', rfl, by simp [hlen], fun j p hp => ?_⟩, fun y => ?_⟩
    · by_cases hj : i = j
      · subst hj
        rw [List.getElem?_set_self hil] at hp
        injection hp with hp
        subst hp
        refine ⟨b', by rw [List.getElem?_set_self (by omega)], ?_⟩
        simp only [if_true]
        rw [cellsH_snoc]
        simpa using hO
      · rw [List.getElem?_set_ne hj] at hp
        obtain ⟨c, h1, h2⟩ := hown j p hp
        have hne : p.1 ≠ x := fun he => hj (by
          have e1 : (m.map (·.1))[i]? = some x := by rw [List.getElem?_map, hfs]; rfl
          have e2 : (m.map (·.1))[j]? = some x := by rw [List.getElem?_map, hp]; simp [he]
          exact nodup_idx hnd e1 e2)
        exact ⟨c, by rw [List.getElem?_set_ne hj]; exact h1, by rw [if_neg hne]; exact h2⟩
    · have hmem : ∀ z, (∃ p ∈ m.set i (x, v'), p.1 = z) ↔ ∃ p ∈ m, p.1 = z := fun z => by
        have : ∀ l : List (Int × Value), (∃ p ∈ l, p.1 = z) ↔ z ∈ l.map (·.1) := fun l => by simp
        rw [this, this, hkeys]
      rw [hmem]
      by_cases hy : y = x
      · subst hy
        simp only [if_true]
        exact ⟨fun _ => ⟨(y, v), List.mem_of_getElem? hfs, rfl⟩, fun _ => by simp⟩
      · rw [if_neg hy]; exact hsome y

/-- the happenings of a tick, by launches -/
def hapsL (t : Temporal) (l : Launch) (tick : Int) : List Hap := (if l.at_ = tick then [(l.job, false)] else []) ++ (if endM t l = tick then [(l.job, true)] else [])
def hapsM (t : Temporal) (ls : List Launch) (tick : Int) : List Hap := ls.flatMap fun l => hapsL t l tick
theorem haps_snoc (t : Temporal) (ls : List Launch) (l : Launch) (tick : Int) : hapsM t (ls ++ [l]) tick = hapsM t ls tick ++ hapsL t l tick := by simp [hapsM]
theorem haps_len (t : Temporal) (ls : List Launch) (tick : Int) : (hapsM t ls tick).length ≤ 2 * ls.length := by
  induction ls with
  | nil => simp [hapsM]
  | cons l r ih =>
    have : (hapsL t l tick).length ≤ 2 := by unfold hapsL; split <;> split <;> simp
    simp only [hapsM, List.flatMap_cons, List.length_append, List.length_cons] at *
    omega
theorem haps_two {t : Temporal} {ls : List Launch} {l : Launch} (hne : l.at_ ≠ endM t l) (f : Int → List Hap) (hf : f = hapsM t ls) :
    (fun y => if y = endM t l then (fun y => if y = l.at_ then f l.at_ ++ [(l.job, false)] else f y) (endM t l) ++ [(l.job, true)] else (fun y => if y = l.at_ then f l.at_ ++ [(l.job, false)] else f y) y) = hapsM t (ls ++ [l]) := by
  subst hf
  funext y
  rw [haps_snoc]
  unfold hapsL
  by_cases h1 : y = endM t l
  · subst h1
    simp [Ne.symm hne, hne]
  · by_cases h2 : y = l.at_
    · subst h2
      simp [h1, Ne.symm h1]
    · simp [h1, h2, Ne.symm h1, Ne.symm h2]

/-! ### the keys of a map that is ranged over -/
def keysAt (m : List (Int × Value)) (seen : List Nat) : List Int := seen.map fun i => ((m[i]?).map (·.1)).getD 0
theorem nodup_len : ∀ {n : Nat} {l : List Nat}, l.Nodup → (∀ i ∈ l, i < n) → l.length ≤ n := by
  intro n
  induction n with
  | zero => intro l _ h; cases l with
    | nil => simp
    | cons x r => exact absurd (h x (by simp)) (by omega)
  | succ n ih =>
    intro l hd h
    have h1 : (l.filter fun i => decide (i ≠ n)).length ≤ n := ih (hd.filter _) (fun i hi => by
      obtain ⟨h2, h3⟩ := List.mem_filter.1 hi
      have := h i h2
      have h4 : i ≠ n := by simpa using h3
      omega)
    have h2 : l.length ≤ (l.filter fun i => decide (i ≠ n)).length + 1 := by
      clear ih h h1
      induction l with
      | nil => simp
      | cons x r ihr =>
        rw [List.nodup_cons] at hd
        by_cases hx : x = n
        · subst hx
          have : (r.filter fun i => decide (i ≠ x)) = r := List.filter_eq_self.2 fun i hi => by
            have : i ≠ x := fun he => hd.1 (he ▸ hi)
            simpa using this
          simp only [List.length_cons, List.filter_cons, ne_eq, not_true, decide_false, Bool.false_eq_true, if_false] at this ⊢
          rw [this]
          omega
        · have := ihr hd.2
          simp [hx] at this ⊢
          omega
    omega
theorem MR.size {t : Temporal} {ls : List Launch} {m : List (Int × Value)} {rows : HP} (h : MR m rows (hapsM t ls)) : m.length ≤ 2 * ls.length := by
  have hsub : ∀ p ∈ m, ∃ l ∈ ls, p.1 = l.at_ ∨ p.1 = endM t l := fun p hp => by
    have := (h.has p.1).2 ⟨p, hp, rfl⟩
    cases hh : hapsM t ls p.1 with
    | nil => exact absurd hh this
    | cons x r =>
      have hx : x ∈ hapsM t ls p.1 := by rw [hh]; simp
      obtain ⟨l, hl, hx⟩ := List.mem_flatMap.1 hx
      refine ⟨l, hl, ?_⟩
      unfold hapsL at hx
      rcases List.mem_append.1 hx with hx | hx
      · split at hx
        · rename_i he; exact .inl he.symm
        · cases hx
      · split at hx
        · rename_i he; exact .inr he.symm
        · cases hx
  have hm : m.length = (m.map (·.1)).length := by simp
  rw [hm]
  have hk : ∀ (ks cs : List Int), ks.Nodup → (∀ k ∈ ks, k ∈ cs) → ks.length ≤ cs.length := by
    intro ks
    induction ks with
    | nil => intro cs _ _; simp
    | cons k r ih =>
      intro cs hd hs
      rw [List.nodup_cons] at hd
      have := ih (cs.erase k) hd.2 (fun x hx => (List.mem_erase_of_ne (fun he : x = k => hd.1 (by rw [← he]; exact hx))).2 (hs x (by simp [hx])))
      rw [List.length_erase_of_mem (hs k (by simp))] at this
      have hpos : 0 < cs.length := List.length_pos_of_mem (hs k (by simp))
      simp
      omega
  have := hk (m.map (·.1)) (ls.flatMap fun l => [l.at_, endM t l]) h.nd (fun k hk => by
    obtain ⟨p, hp, rfl⟩ := List.mem_map.1 hk
    obtain ⟨l, hl, he⟩ := hsub p hp
    exact List.mem_flatMap.2 ⟨l, hl, by rcases he with he | he <;> simp [he]⟩)
  have h2 : (ls.flatMap fun l => [l.at_, endM t l]).length = 2 * ls.length := by
    clear this hk hm hsub h
    induction ls with
    | nil => rfl
    | cons l r ih => simp only [List.flatMap_cons, List.length_append, List.length_cons, List.length_nil, ih]; omega
  omega

theorem keysAt_snoc {m : List (Int × Value)} {seen : List Nat} {i : Nat} {p : Int × Value} (h : m[i]? = some p) : keysAt m (seen ++ [i]) = keysAt m seen ++ [p.1] := by simp [keysAt, h]
theorem keysAt_nodup {m : List (Int × Value)} {seen : List Nat} (hm : (m.map (·.1)).Nodup) (hs : seen.Nodup) (hl : ∀ i ∈ seen, i < m.length) : (keysAt m seen).Nodup := by
  unfold keysAt
  induction seen with
  | nil => simp
  | cons x r ih =>
    rw [List.nodup_cons] at hs
    simp only [List.map_cons, List.nodup_cons]
    refine ⟨fun hc => ?_, ih hs.2 (fun i hi => hl i (by simp [hi]))⟩
    obtain ⟨y, hy, he⟩ := List.mem_map.1 hc
    obtain ⟨a, ha⟩ := get_some (l := m) (hl x (by simp))
    obtain ⟨b, hb⟩ := get_some (l := m) (hl y (by simp [hy]))
    simp [ha, hb] at he
    have e1 : (m.map (·.1))[x]? = some a.1 := by rw [List.getElem?_map, ha]; rfl
    have e2 : (m.map (·.1))[y]? = some a.1 := by rw [List.getElem?_map, hb]; simp [he]
    have := nodup_idx hm e1 e2
    subst this
    exact hs.1 hy
theorem keysAt_mem {m : List (Int × Value)} {seen : List Nat} (hl : ∀ i ∈ seen, i < m.length) (hall : ∀ i, i < m.length → i ∈ seen) (x : Int) : x ∈ keysAt m seen ↔ ∃ p ∈ m, p.1 = x := by
  unfold keysAt
  constructor
  · intro hx
    obtain ⟨i, hi, he⟩ := List.mem_map.1 hx
    obtain ⟨p, hp⟩ := get_some (l := m) (hl i hi)
    simp [hp] at he
    exact ⟨p, List.mem_of_getElem? hp, he⟩
  · rintro ⟨p, hp, rfl⟩
    obtain ⟨i, hi⟩ := List.mem_iff_getElem?.1 hp
    exact List.mem_map.2 ⟨i, hall i (lt_of_get hi), by simp [hi]⟩
theorem sortM_mem (zs : List Int) (x : Int) : x ∈ sortM zs ↔ x ∈ zs := (List.mergeSort_perm zs _).mem_iff
theorem sortM_lt {zs : List Int} (h : zs.Nodup) : (sortM zs).Pairwise (· < ·) := by
  have h1 : (sortM zs).Pairwise (fun x y => decide (x ≤ y) = true) := List.pairwise_mergeSort (fun a b c h1 h2 => by simp at *; omega) (fun a b => by simp; omega) zs
  have h2 : (sortM zs).Nodup := (List.mergeSort_perm zs _).nodup_iff.2 h
  exact h1.imp₂ (fun a b h3 h4 => by have := of_decide_eq_true h3; omega) h2
theorem haps_mem {t : Temporal} {ls : List Launch} {x : Int} {h : Hap} (hh : h ∈ hapsM t ls x) : ∃ l ∈ ls, h.1 = l.job ∧ ((h.2 = false ∧ x = l.at_) ∨ (h.2 = true ∧ x = endM t l)) := by
  obtain ⟨l, hl, hx⟩ := List.mem_flatMap.1 hh
  refine ⟨l, hl, ?_⟩
  unfold hapsL at hx
  rcases List.mem_append.1 hx with hx | hx
  · split at hx
    · rename_i he; simp at hx; subst hx; exact ⟨rfl, .inl ⟨rfl, he.symm⟩⟩
    · cases hx
  · split at hx
    · rename_i he; simp at hx; subst hx; exact ⟨rfl, .inr ⟨rfl, he.symm⟩⟩
    · cases hx
theorem cellsH_get : ∀ (hs : List Hap) (i : Nat) (h : Hap), hs[i]? = some h → (cellsH hs)[i * 2 + 0]? = some (.int .i64 h.1) ∧ (cellsH hs)[i * 2 + 1]? = some (.bool h.2)
  | [], _, _, hh => by simp at hh
  | g :: r, 0, h, hh => by simp at hh; subst hh; simp [cellsH]
  | g :: r, i + 1, h, hh => by
    have := cellsH_get r i h (by simpa using hh)
    have e : cellsH (g :: r) = .int .i64 g.1 :: .bool g.2 :: cellsH r := by simp [cellsH]
    rw [e, show (i + 1) * 2 + 0 = (i * 2 + 0) + 1 + 1 from by omega, show (i + 1) * 2 + 1 = (i * 2 + 1) + 1 + 1 from by omega]
    simpa using this
theorem sl_haps {fz : FZ} {v : Value} {hs : List Hap} {b : HP} {fz' : FZ} (hO : OwnS 86 2 v hs.length (cellsH hs) b) (hf : ∀ p ∈ b, fz' p.1 = some p.2) (hn : hs.length ≤ 140737488355328) (hi : ∀ h ∈ hs, I64 h.1) (_ : Le fz fz') : ∃ A c, v = .slice A hs.length c ∧ Sl hapL fz' A hs.length c hs := by
  obtain ⟨A, c, h1, h2, h3, h4⟩ := hO.row hf
  refine ⟨A, c, h1, h4.sl h2 h3 hn rfl fun i h hh => ⟨[.int .i64 h.1, .bool h.2], ⟨rfl, hi h (List.mem_of_getElem? hh)⟩, fun j u hu => ?_⟩⟩
  obtain ⟨g1, g2⟩ := cellsH_get hs i h hh
  match j, hu with
  | 0, hu => simp at hu; subst hu; exact g1
  | 1, hu => simp at hu; subst hu; exact g2
  | j + 2, hu => simp at hu
theorem sl_ints {v : Value} {zs : List Int} {n : Nat} {b : HP} {fz' : FZ} (hO : OwnS 3 1 v n (zs.map (Value.int .i64)) b) (hf : ∀ p ∈ b, fz' p.1 = some p.2) (hn : n ≤ 140737488355328) (hi : ∀ z ∈ zs, I64 z) : ∃ A c, v = .slice A n c ∧ Sl intL fz' A n c zs := by
  obtain ⟨A, c, h1, h2, h3, h4⟩ := hO.row hf
  refine ⟨A, c, h1, h4.sl h2 h3 hn (by have := hO.1; simpa using this) fun i z hz => ⟨[.int .i64 z], ⟨rfl, hi z (List.mem_of_getElem? hz)⟩, fun j u hu => ?_⟩⟩
  cases j with
  | zero => simp at hu; subst hu; simp [intL, hz]
  | succ j => simp at hu

/-- the memory of such a map, kept as it is -/
structure MapR (fz : FZ) (g : Nat) (f : Int → List Hap) : Prop where
  at_ : ∃ m, fz g = some (mapB m) ∧ ∀ x, ∃ A n c, (fndM m x 0).elim (.slice none 0 0) (·.2) = .slice A n c ∧ Sl hapL fz A n c (f x)

set_option maxHeartbeats 1000000 in
theorem happenings_f {fz : FZ} {t : Temporal} {A1 : Option Addr} {n1 c1 : Nat} {A2 : Option Addr} {n2 c2 : Nat} {A3 : Option Addr} {n3 c3 : Nat} {A4 : Option Addr} {n4 c4 : Nat} (ht : TempR fz t A1 n1 c1 A2 n2 c2 A3 n3 c3 A4 n4 c4)
    {B : Option Addr} {n d : Nat} {ls : List Launch} (hl : Sl launchL fz B n d ls) (hd : DurOk t) (hok : ∀ l ∈ ls, LaunchOk t l) (hn : n ≤ 4096) :
    GFn Try.prog 30 [.agg #[.slice A1 n1 c1, .slice A2 n2 c2, .slice A3 n3 c3, .slice A4 n4 c4], .slice B n d] fz [] fun v fz' H' => H' = [] ∧ ∃ g A k c ticks, v = .tuple #[.map (some g), .slice A k c] ∧ MapR fz' g (hapsM t ls) ∧ Sl intL fz' A k c ticks ∧ ticks.Pairwise (· < ·) ∧ ∀ x, x ∈ ticks ↔ hapsM t ls x ≠ [] := by
  (refine GFn.of_wp Try.func30 rfl Try.ntmps30 rfl rfl (fun w0 => ?_))
  have l1 := hl.len
  refine Wp.seq (Wp.region (Seq.stepK (by exact rfl) (k_box _ (by exact rfl) (by exact rfl) (fun gt => ?_))))
  ((refine Seq.q (by exact rfl) ?_; refine q_assign (by exact rfl) ?_; refine Seq.q (by exact rfl) ?_; refine q_assign (by exact rfl) ?_; refine Seq.done ?_; refine Wp.seq ?_; refine Wp.region ?_))
  refine Seq.stepK (by exact rfl) (k_makeMap (fun gm => ?_))
  (first | refine Wp.perm (List.Perm.swap _ _ _) ?_ | refine Seq.perm (List.Perm.swap _ _ _) ?_)
  ((refine Seq.q (by exact rfl) ?_; refine q_assign (by exact rfl) ?_; refine Seq.done ?_; refine Wp.seq ?_; refine Wp.seq ?_; refine Wp.region ?_; refine Seq.q (by exact rfl) ?_; refine q_move (by exact rfl) ?_; refine Seq.q (by exact rfl) ?_; refine q_len_slice T (by exact rfl) (by exact rfl) (by exact rfl) ?_; refine Seq.q (by exact rfl) ?_; refine q_move (by exact rfl) ?_; refine Seq.done ?_; refine Wp.block ?_))
  refine Wp.loop (fun q σ fz' H' => ∃ (k : Nat) (m : List (Int × Value)) (rows : HP), k ≤ n ∧ q = n - k ∧ σ = [(14, .int .i64 k), (13, .int .i64 n), (12, .slice B n d), (2, .pointer (some ⟨gt, 0, none⟩)), (6, .map (some gm))] ∧ fz = fz' ∧ H' = (gt, .cells #[.slice A1 n1 c1, .slice A2 n2 c2, .slice A3 n3 c3, .slice A4 n4 c4] 26 (0, 0)) :: (gm, mapB m) :: rows ∧ MR m rows (hapsM t (ls.take k))) ⟨0, [], [], Nat.zero_le _, rfl, rfl, rfl, rfl, MR.nil⟩ (by repeat (first | exact trivial | refine ⟨by exact rfl, ?_⟩)) (by repeat (first | exact List.Sublist.refl _ | exact List.nil_sublist _ | refine List.Sublist.cons_cons _ ?_ | refine List.Sublist.cons _ ?_)) ?_
  rintro q σ fz' H' ⟨k, m, rows, hk, rfl, rfl, rfl, rfl, hM⟩
  ((refine Wp.seq ?_; refine Wp.region ?_))
  (((refine Seq.q (by exact rfl) ?_)); (refine q_lssD (by exact rfl) (by exact rfl) (fun hlt => ?_) (fun hge => ?_)))
  · ((refine Seq.done ?_; refine Wp.seq ?_; refine Wp.cond_true (by exact rfl) ?_; refine Wp.skip ?_; refine thenN ?_; refine Wp.seq ?_; refine Wp.block ?_; refine Wp.seq ?_; refine Wp.region ?_))
    obtain ⟨l, hx⟩ := get_some (l := ls) (k := k) (by omega)
    (((refine Seq.q (by exact rfl) ?_)); refine q_index T k (by exact rfl) (by exact rfl) (by exact rfl) (by exact rfl) (by exact rfl) (by exact rfl) hl (by first | rfl | omega) hx (fun p hp => ?_))
    (((refine Seq.q (by exact rfl) ?_)); refine q_load_at T (by exact rfl) (by exact rfl) (by exact rfl) hp (by exact rfl) ?_)
    rintro _ ⟨rfl, i1, i2⟩
    have hlo := hok l (List.mem_of_getElem? hx)
    obtain ⟨kk, j, hkk, hj, he⟩ := launch_job hlo
    have hb := end_bd hlo hd
    have hat := hlo.2.2
    have hle1 := haps_len t (ls.take k)
    have htk : (ls.take k).length ≤ k := List.length_take_le _ _
    refine Seq.stepK (by exact rfl) (k_alloc T (by exact rfl) (by exact rfl) (fun g8 => ?_))
    ((refine Seq.stepK0 (k_store0 T (by exact rfl) (by exact rfl) (by exact rfl) (by exact rfl) (by exact rfl) (by exact rfl) ?_); refine Seq.done ?_; refine Wp.seq ?_))
    obtain ⟨Hr, b, hp1, hO1, hstep⟩ := hM.step l.at_ (l.job, false)
    refine Wp.drawK (Hq := [_, _, _]) T.mixed (by kernel_rfl) (by kernel_rfl) (by repeat (first | exact List.Sublist.refl _ | exact List.nil_sublist _ | refine List.Sublist.cons_cons _ ?_ | refine List.Sublist.cons _ ?_)) ?_
    ((refine QK.q ?_; refine q_move (by exact rfl) ?_; refine QK.q ?_; refine q_fieldAddr T (by exact rfl) (by exact rfl) (by exact rfl) (by exact rfl) (by exact rfl) (by exact rfl) ?_; refine QK.q ?_; refine q_load_own T 0 (by exact rfl) (by exact rfl) (by exact rfl) (by exact rfl) (by exact rfl) ?_; refine QK.q ?_; refine q_move (by exact rfl) ?_; refine QK.q ?_; refine q_fieldAddr T (by exact rfl) (by exact rfl) (by exact rfl) (by exact rfl) (by exact rfl) (by exact rfl) ?_; refine QK.q ?_; refine q_load_own T 0 (by exact rfl) (by exact rfl) (by exact rfl) (by exact rfl) (by exact rfl) ?_))
    ((refine QK.q ?_)); refine q_lookup_own T 2 (by exact rfl) (by exact rfl) (by exact rfl) (by exact rfl) (by exact rfl) (by exact rfl) (by exact rfl) (by exact rfl) ?_
    ((refine QK.q ?_; refine q_fieldAddr T (by exact rfl) (by exact rfl) (by exact rfl) (by exact rfl) (by exact rfl) (by exact rfl) ?_; refine QK.q ?_; refine q_load_own T 0 (by exact rfl) (by exact rfl) (by exact rfl) (by exact rfl) (by exact rfl) ?_; refine QK.q ?_; refine q_build T (by exact rfl) (by exact rfl) (by exact rfl) (by exact rfl) (by exact rfl) ?_))
    refine QK.later (QK.later (QK.later (QK.done ⟨by kernel_rfl, ?_⟩)))
    refine Ch.soft (k_buildSlice T (cs := [_, _]) (by exact rfl) (by exact rfl) (by exact rfl) (by exact rfl) (by exact rfl) (by exact rfl) (by exact rfl) (by exact rfl) (fun gb => ⟨(⟨Le.refl _, by intro p hp; simp only [List.mem_cons, List.not_mem_nil, or_false] at hp; rcases hp with rfl | rfl | rfl <;> simp⟩), ?_⟩))
    refine Ch.soft (k_append T (Hr := _ :: _ :: _ :: _ :: Hr) (by exact rfl) (by exact rfl) (by exact rfl) (by exact rfl) (by exact rfl) (by exact rfl) (by exact rfl) ((((hp1.cons _).cons _).cons _).cons _) hO1 rfl (src_own (.head _)) (by intro u hu; simp at hu; rcases hu with rfl | rfl <;> rfl) (by show _ * 16 ≤ _; have := hle1 l.at_; omega) (by have := hle1 l.at_; omega) (fun v1 b1 hO2 => ⟨(⟨Le.refl _, by intro p hp; simp only [List.mem_cons, List.not_mem_nil, or_false] at hp; rcases hp with rfl | rfl | rfl <;> simp⟩), ?_⟩))
    obtain ⟨rows1, hp2, hM1⟩ := hstep v1 b1 hO2
    refine Ch.hard0 (by kernel_rfl) (k_mapUpdate T (pre := [_, _, _]) (post := Hr ++ b1) (by exact rfl) (by exact rfl) (by exact rfl) (by exact rfl) (by exact rfl) (by exact rfl) (by exact rfl) (List.Perm.refl _) ?_)
    refine Ch.done (thenN ?_)
    refine Wp.perm (((hp2.cons _).cons _).cons _ |>.cons _) ?_
    clear hO1 hstep hp1 hO2 hp2 hM
    obtain ⟨Hr, b, hp1, hO1, hstep⟩ := hM1.step (endM t l) (l.job, true)
    have hle2 : (if endM t l = l.at_ then hapsM t (List.take k ls) l.at_ ++ [(l.job, false)] else hapsM t (List.take k ls) (endM t l)).length ≤ 2 * k + 1 := by
      have h1 := hle1 l.at_
      have h2 := hle1 (endM t l)
      split
      · simp; omega
      · omega
    refine Wp.drawK (Hq := [_, _, _, _]) T.mixed (by kernel_rfl) (by kernel_rfl) (by repeat (first | exact List.Sublist.refl _ | exact List.nil_sublist _ | refine List.Sublist.cons_cons _ ?_ | refine List.Sublist.cons _ ?_)) ?_
    ((refine QK.q ?_; refine q_move (by exact rfl) ?_; refine QK.q ?_; refine q_load_own_all T 2 (by exact rfl) (by exact rfl) (by exact rfl) (by exact rfl) (by exact rfl) ?_; refine QK.q ?_; refine q_load_own_all T 1 (by exact rfl) (by exact rfl) (by exact rfl) (by exact rfl) (by exact rfl) ?_))
    (((refine QK.q ?_)); refine q_call (by exact rfl) (by exact rfl) (tend_q ht hkk hj (by unfold I64; omega)) ?_)
    ((refine QK.q ?_; refine q_move (by exact rfl) ?_; refine QK.q ?_; refine q_load_own_all T 2 (by exact rfl) (by exact rfl) (by exact rfl) (by exact rfl) (by exact rfl) ?_; refine QK.q ?_; refine q_load_own_all T 1 (by exact rfl) (by exact rfl) (by exact rfl) (by exact rfl) (by exact rfl) ?_))
    (((refine QK.q ?_)); refine q_call (by exact rfl) (by exact rfl) (tend_q ht hkk hj (by unfold I64; omega)) ?_)
    rw [← he]
    ((refine QK.q ?_)); refine q_lookup_own T 3 (by exact rfl) (by exact rfl) (by exact rfl) (by exact rfl) (by exact rfl) (by exact rfl) (by exact rfl) (by exact rfl) ?_
    ((refine QK.q ?_; refine q_fieldAddr T (by exact rfl) (by exact rfl) (by exact rfl) (by exact rfl) (by exact rfl) (by exact rfl) ?_; refine QK.q ?_; refine q_load_own T 1 (by exact rfl) (by exact rfl) (by exact rfl) (by exact rfl) (by exact rfl) ?_; refine QK.q ?_; refine q_build T (by exact rfl) (by exact rfl) (by exact rfl) (by exact rfl) (by exact rfl) ?_))
    refine QK.later (QK.later (QK.later (QK.done ⟨by kernel_rfl, ?_⟩)))
    refine Ch.soft (k_buildSlice T (cs := [_, _]) (by exact rfl) (by exact rfl) (by exact rfl) (by exact rfl) (by exact rfl) (by exact rfl) (by exact rfl) (by exact rfl) (fun gb2 => ⟨(⟨Le.refl _, by intro p hp; simp only [List.mem_cons, List.not_mem_nil, or_false] at hp; rcases hp with rfl | rfl | rfl | rfl <;> simp⟩), ?_⟩))
    refine Ch.soft (k_append T (Hr := _ :: _ :: _ :: _ :: _ :: Hr) (by exact rfl) (by exact rfl) (by exact rfl) (by exact rfl) (by exact rfl) (by exact rfl) (by exact rfl) (((((hp1.cons _).cons _).cons _).cons _).cons _) hO1 rfl (src_own (.head _)) (by intro u hu; simp at hu; rcases hu with rfl | rfl <;> rfl) (by show _ * 16 ≤ _; omega) (by omega) (fun v2 b2 hO2 => ⟨(⟨Le.refl _, by intro p hp; simp only [List.mem_cons, List.not_mem_nil, or_false] at hp; rcases hp with rfl | rfl | rfl | rfl <;> simp⟩), ?_⟩))
    obtain ⟨rows2, hp2, hM2⟩ := hstep v2 b2 hO2
    refine Ch.hard0 (by kernel_rfl) (k_mapUpdate T (pre := [_, _, _, _]) (post := Hr ++ b2) (by exact rfl) (by exact rfl) (by exact rfl) (by exact rfl) (by exact rfl) (by exact rfl) (by exact rfl) (List.Perm.refl _) ?_)
    refine Ch.done (blkN (thenN ?_))
    refine Wp.perm (((((hp2.cons _).cons _).cons _).cons _).cons _) ?_
    ((refine Wp.region ?_; refine Seq.q (by exact rfl) ?_; refine q_add (by exact rfl) (by exact rfl) (wrap_in (by omega)) ?_; refine Seq.q (by exact rfl) ?_; refine q_move (by exact rfl) ?_; refine Seq.end_ ?_))
    refine loopN ⟨k + 1, _, rows2, by omega, rfl, rfl, rfl, rfl, ?_⟩ (by omega) (by repeat (first | exact trivial | refine ⟨by exact rfl, ?_⟩)) (by repeat (first | exact List.Sublist.refl _ | exact List.nil_sublist _ | refine List.Sublist.cons_cons _ ?_ | refine List.Sublist.cons _ ?_))
    rw [List.take_add_one, hx]
    simp only [Option.toList]
    rw [← haps_two (t := t) (l := l) (by omega) _ rfl]
    exact hM2
  · have hkn : k = n := by omega
    subst hkn
    rw [List.take_of_length_le (by omega)] at hM
    ((refine Seq.done ?_; refine Wp.seq ?_; refine Wp.cond_false (by exact rfl) ?_; refine Wp.exit ?_; refine thenX ?_; refine loopX ?_; refine blkX (by exact rfl) ?_; refine thenN ?_; refine Wp.seq ?_; refine Wp.region ?_; refine Seq.q (by exact rfl) ?_; refine q_assign (by exact rfl) ?_; refine Seq.done ?_; refine Wp.seq ?_; refine Wp.seq ?_; refine Wp.region ?_; refine Seq.q (by exact rfl) ?_; refine q_move (by exact rfl) ?_))
    refine Seq.stepK (by exact rfl) (k_range T 1 (by exact rfl) (by exact rfl) (by exact rfl) (by exact rfl) (fun gi => ?_))
    ((refine Seq.done ?_; refine Wp.block ?_))
    refine Wp.loop (fun q σ fz' H' => ∃ (seen : List Nat) (v : Value) (b : HP), q = (List.range m.length).countP (fun i => !seen.contains i) ∧ σ = [(46, .pointer (some ⟨gi, 0, none⟩)), (6, .map (some gm)), (9, v)] ∧ fz = fz' ∧
        H' = (gi, iterB gm m.length seen) :: (gt, .cells #[.slice A1 n1 c1, .slice A2 n2 c2, .slice A3 n3 c3, .slice A4 n4 c4] 26 (0, 0)) :: (gm, mapB m) :: (rows ++ b) ∧ OwnS 3 1 v seen.length ((keysAt m seen).map (Value.int .i64)) b ∧ seen.Nodup ∧ ∀ i ∈ seen, i < m.length)
      ⟨[], _, [], rfl, rfl, rfl, by rw [List.append_nil], OwnS.nil _ _, by simp, by simp⟩ (by repeat (first | exact trivial | refine ⟨by exact rfl, ?_⟩)) (by repeat (first | exact List.Sublist.refl _ | exact List.nil_sublist _ | refine List.Sublist.cons_cons _ ?_ | refine List.Sublist.cons _ ?_)) ?_
    rintro q σ fz' H' ⟨seen, v, b, rfl, rfl, rfl, rfl, hO, hnd, hlt'⟩
    have hlen := nodup_len hnd hlt'
    have hml := hM.size
    ((refine Wp.seq ?_; refine Wp.region ?_))
    refine Seq.stepK (by exact rfl) (k_next 1 (by exact rfl) (by exact rfl) (fun hall => ?_) (fun i p hp hi => ?_))
    · ((refine Seq.q (by exact rfl) ?_; refine q_extract (by exact rfl) (by exact rfl) ?_; refine Seq.done ?_; refine Wp.seq ?_; refine Wp.cond_false (by exact rfl) ?_; refine Wp.exit ?_; refine thenX ?_; refine loopX ?_; refine blkX (by exact rfl) ?_; refine thenN ?_; refine Wp.seq ?_; refine Wp.region ?_; refine Seq.q (by exact rfl) ?_; refine q_move (by exact rfl) ?_))
      refine Seq.perm (H' := b ++ (_ :: _ :: _ :: rows)) List.perm_append_comm ?_
      refine Seq.stepK (by exact rfl) (k_call b _ rfl (by exact rfl) (by exact rfl) (sort_f hO (by omega)) (fun u fz2 H2 hle2 hR => ?_))
      obtain ⟨rfl, rfl, hO2⟩ := hR
      ((refine Seq.done ?_; refine Wp.seq ?_; refine Wp.region ?_; refine Seq.q (by exact rfl) ?_; refine q_move (by exact rfl) ?_; refine Seq.q (by exact rfl) ?_; refine q_move (by exact rfl) ?_; refine Seq.q (by exact rfl) ?_; refine q_assign (by exact rfl) ?_; refine Seq.q (by exact rfl) ?_; refine q_assign (by exact rfl) ?_; refine Seq.done ?_; refine Wp.ret ?_))
      refine ret2F rfl rfl rfl (fun fz3 hle3 hf => ?_)
      obtain ⟨hnd2, ⟨bs, rfl, hbl, hown⟩, hhas⟩ := hM
      have hkd := keysAt_nodup hnd2 hnd hlt'
      have hkm := keysAt_mem hlt' hall
      have hk64 : ∀ z ∈ sortM (keysAt m seen), I64 z := fun z hz => by
        rw [sortM_mem, hkm, ← hhas] at hz
        cases hh : hapsM t ls z with
        | nil => exact absurd hh hz
        | cons h r =>
          obtain ⟨l, hl1, _, h2⟩ := haps_mem (h := h) (t := t) (ls := ls) (x := z) (by rw [hh]; simp)
          have h3 := hok l hl1
          have h4 := end_bd h3 hd
          have h5 := h3.2.2
          unfold I64
          rcases h2 with ⟨_, h2⟩ | ⟨_, h2⟩ <;> omega
      obtain ⟨A, c, rfl, hsl⟩ := sl_ints hO2 (fun p hp => hf p (List.mem_append.2 (.inl hp))) (by omega) hk64
      refine ⟨rfl, gm, A, _, c, _, rfl, ⟨m, hf (gm, mapB m) (by simp), fun x => ?_⟩, hsl, sortM_lt hkd, fun x => by rw [sortM_mem, hkm, hhas]⟩
      cases hfx : fndM m x 0 with
      | none =>
        have hno := fndM_none m x 0 hfx
        have hx0 : hapsM t ls x = [] := by
          cases hc : hapsM t ls x with
          | nil => rfl
          | cons u r => obtain ⟨p, hp, he⟩ := (hhas x).1 (by rw [hc]; simp); exact absurd he (hno p hp)
        rw [hx0]
        exact ⟨none, 0, 0, rfl, Sl.nil (by omega)⟩
      | some q =>
        obtain ⟨i, v⟩ := q
        have hfs := (fndM_some m x 0 i v hfx).2
        simp only [Nat.sub_zero] at hfs
        obtain ⟨b', hb1, hb2⟩ := hown i (x, v) hfs
        have hsub : ∀ p ∈ b', fz3 p.1 = some p.2 := fun p hp => hf p (List.mem_append.2 (.inr (by
          simp only [List.mem_cons]
          exact .inr (.inr (.inr (List.mem_flatten.2 ⟨b', List.mem_of_getElem? hb1, hp⟩))))))
        have hlx := haps_len t ls x
        obtain ⟨A', c', h1, h2⟩ := sl_haps hb2 hsub (by simp only; omega) (fun h hh => by
          obtain ⟨l, hl1, h3, _⟩ := haps_mem hh
          have h4 := hok l hl1
          have h5 := ht.jobs.short
          have h6 := ht.jobs.len
          have := h4.1
          have := h4.2.1
          unfold I64
          omega) hle3
        exact ⟨A', _, c', h1, h2⟩
    · ((refine Seq.q (by exact rfl) ?_; refine q_extract (by exact rfl) (by exact rfl) ?_; refine Seq.done ?_; refine Wp.seq ?_; refine Wp.cond_true (by exact rfl) ?_; refine Wp.skip ?_; refine thenN ?_; refine Wp.block ?_; refine Wp.seq ?_; refine Wp.region ?_))
      ((refine Seq.q (by exact rfl) ?_)); refine q_entry 0 2 (by exact rfl) (by exact rfl) (by exact rfl) hp ?_
      ((refine Seq.q (by exact rfl) ?_; refine q_extract (by exact rfl) (by exact rfl) ?_; refine Seq.q (by exact rfl) ?_; refine q_assign (by exact rfl) ?_; refine Seq.done ?_; refine Wp.region ?_; refine Seq.q (by exact rfl) ?_; refine q_move (by exact rfl) ?_; refine Seq.q (by exact rfl) ?_; refine q_move (by exact rfl) ?_))
      (refine Seq.stepK (by exact rfl) (k_buildSlice T (cs := [_]) (by exact rfl) (by exact rfl) (by exact rfl) (by exact rfl) (by exact rfl) (by exact rfl) (by exact rfl) (by exact rfl) (fun gb => ?_)))
      refine Seq.stepK (by exact rfl) (k_append T (Hr := _ :: _ :: _ :: _ :: rows) (by exact rfl) (by exact rfl) (by exact rfl) (by exact rfl) (by exact rfl) (by exact rfl) (by exact rfl) (List.Perm.refl _) hO rfl (src_own (.head _)) (by intro u hu; simp at hu; subst hu; rfl) (by show _ * 8 ≤ _; omega) (by omega) (fun v1 b1 hO1 => ?_))
      ((refine Seq.q (by exact rfl) ?_; refine q_assign (by exact rfl) ?_; refine Seq.end_ ?_; refine blkN ?_))
      have hil := lt_of_get hp
      refine loopN ⟨seen ++ [i], v1, b1, rfl, rfl, rfl, rfl, ?_, ?_, ?_⟩ ?_ (by repeat (first | exact trivial | refine ⟨by exact rfl, ?_⟩)) (by repeat (first | exact List.Sublist.refl _ | exact List.nil_sublist _ | refine List.Sublist.cons_cons _ ?_ | refine List.Sublist.cons _ ?_))
      · rw [keysAt_snoc hp, List.map_append, List.length_append]
        exact hO1
      · rw [List.nodup_append]
        exact ⟨hnd, by simp, fun a ha c hc he => hi (by simp at hc; rw [← hc, ← he]; exact ha)⟩
      · intro x hx
        rcases List.mem_append.1 hx with hx | hx
        · exact hlt' x hx
        · simp at hx; omega
      · refine countP_lt _ i (by simpa using hil) (fun x hx => ?_) (by simpa using hi) (by simp)
        simp at hx ⊢
        exact hx.1
end Go.Proofs.Ytfidaamledbmpaa
