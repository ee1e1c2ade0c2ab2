/- Plain laws of plans: the order of the launches, launches that are moved, plans of at most one launch. Conditions: none. -/
import Derived.Test.YtfidaamledbmpaaPlainA
namespace Go.Proofs.Ytfidaamledbmpaa
open Go.Lx Go.RowKit
attribute [local instance 10] Classical.propDecidable

/-! ### the order of the launches -/
def OvO (t : Temporal) (tick : Int) (a b : Launch) : Prop := a.at_ = tick ∧ a.job = b.job ∧ b.at_ ≤ tick ∧ tick ≤ endM t b
theorem over_iff {t : Temporal} {ls : List Launch} {tick : Int} : OverP t ls tick ↔ ¬ ls.Pairwise fun a b => ¬ (OvO t tick a b ∨ OvO t tick b a) := by
  rw [List.pairwise_iff_getElem]
  constructor
  · rintro ⟨i, a, ha, h1, k, b, hb, hne, h2, h3, h4⟩ hc
    obtain ⟨hi, rfl⟩ := List.getElem?_eq_some_iff.1 ha
    obtain ⟨hk, rfl⟩ := List.getElem?_eq_some_iff.1 hb
    rcases Nat.lt_or_gt_of_ne hne with h | h
    · exact hc i k hi hk h (.inl ⟨h1, h2, h3, h4⟩)
    · exact hc k i hk hi h (.inr ⟨h1, h2, h3, h4⟩)
  · intro hc
    refine Classical.byContradiction fun hn => hc fun i j hi hj hij h => hn ?_
    rcases h with ⟨h1, h2, h3, h4⟩ | ⟨h1, h2, h3, h4⟩
    · exact ⟨i, ls[i], List.getElem?_eq_getElem hi, h1, j, ls[j], List.getElem?_eq_getElem hj, by omega, h2, h3, h4⟩
    · exact ⟨j, ls[j], List.getElem?_eq_getElem hj, h1, i, ls[i], List.getElem?_eq_getElem hi, by omega, h2, h3, h4⟩
theorem over_perm {t : Temporal} {a b : List Launch} {tick : Int} (h : a.Perm b) : OverP t a tick ↔ OverP t b tick := by
  rw [over_iff, over_iff, h.pairwise_iff (fun {x y} hxy hc => hxy hc.symm)]
theorem ovr_perm {t : Temporal} {a b : List Launch} {tick : Int} {s : List Int} (h : a.Perm b) : OvrP t a tick s ↔ OvrP t b tick s := ⟨fun hp x hx => hp x (h.mem_iff.2 hx), fun hp x hx => hp x (h.mem_iff.1 hx)⟩
theorem haps_perm {t : Temporal} {a b : List Launch} {tick : Int} (h : a.Perm b) : (hapsM t a tick).Perm (hapsM t b tick) := h.flatMap_right _
theorem sel_perm {a b : List Hap} (h : a.Perm b) (e : Bool) (j : Nat) : selH a e j = selH b e j := by
  have hp : (selH a e j).Perm (selH b e j) := h.filter _
  have hr : ∀ l : List Hap, selH l e j = List.replicate (selH l e j).length ((j : Int), e) := fun l => by
    rw [List.eq_replicate_iff]
    refine ⟨rfl, fun x hx => ?_⟩
    have := of_decide_eq_true (List.mem_filter.1 hx).2
    obtain ⟨x1, x2⟩ := x
    simp at this
    rw [this.1, this.2]
  rw [hr a, hr b, hp.length_eq]
theorem after_perm {t : Temporal} {s : List Int} {a b : List Hap} (h : a.Perm b) : afterM t s a = afterM t s b := by
  have : ∀ e, ordE t a e = ordE t b e := fun e => by
    unfold ordE
    rw [show selH a e = selH b e from funext fun j => sel_perm h e j]
  unfold afterM
  rw [show ordE t a = ordE t b from funext this]
theorem tick_perm2 {t : Temporal} {a b : List Launch} {tick : Int} {s s' : List Int} {hs : List Hap} (h : a.Perm b) : tickM t a tick s hs s' = tickM t b tick s hs s' := by
  unfold tickM
  simp only [over_perm h, ovr_perm h]
theorem run_perm {t : Temporal} {a b : List Launch} (h : a.Perm b) : ∀ (ticks : List Int) (s : List Int), runM t a ticks s = runM t b ticks s
  | [], _ => rfl
  | x :: r, s => by
    have h1 : tickM t a x s (hapsM t a x) (afterM t s (hapsM t a x)) = tickM t b x s (hapsM t b x) (afterM t s (hapsM t b x)) := by
      rw [after_perm (haps_perm h), tick_perm (haps_perm h), tick_perm2 h]
    rw [runM, runM, h1, after_perm (haps_perm h), run_perm h r]
theorem span_perm {t : Temporal} {a b : List Launch} (h : a.Perm b) : ∀ m : Int, a.foldl (fun m l => max m (endM t l)) m = b.foldl (fun m l => max m (endM t l)) m := by
  induction h with
  | nil => intro m; rfl
  | cons x _ ih => intro m; exact ih _
  | swap x y l =>
    intro m
    simp only [List.foldl_cons]
    rw [show max (max m (endM t y)) (endM t x) = max (max m (endM t x)) (endM t y) by omega]
  | trans _ _ h1 h2 => intro m; exact (h1 m).trans (h2 m)
theorem launches_perm {t : Temporal} {a b : List Launch} (h : a.Perm b) : launchesM t a = launchesM t b := by
  unfold launchesM
  have : (∀ l ∈ a, LaunchOk t l) ↔ ∀ l ∈ b, LaunchOk t l := ⟨fun hp x hx => hp x (h.mem_iff.2 hx), fun hp x hx => hp x (h.mem_iff.1 hx)⟩
  simp only [h.length_eq, this]
theorem valid_perm {code : Int} {t : Temporal} {a b : List Launch} (h : a.Perm b) (ticks : List Int) : validM code t a ticks = validM code t b ticks := by
  unfold validM
  rw [launches_perm h, run_perm h, show spanM t a = spanM t b from span_perm h 0]
theorem ticks_perm {t : Temporal} {a b : List Launch} (h : a.Perm b) {ticks : List Int} (ht : TicksR t a ticks) : TicksR t b ticks :=
  ⟨ht.1, fun x => by rw [ht.2, haps_ne, haps_ne]; simp only [h.mem_iff]⟩

/-! ### launches that are moved -/
def mvL (b : Int) (l : Launch) : Launch := ⟨l.at_ + b, l.job⟩
theorem end_mv (t : Temporal) (b : Int) (l : Launch) : endM t (mvL b l) = endM t l + b := by
  simp only [endM, durM, mvL]; omega
theorem hapsL_mv (t : Temporal) (b : Int) (l : Launch) (x : Int) : hapsL t (mvL b l) (x + b) = hapsL t l x := by
  unfold hapsL
  have h1 : (mvL b l).at_ = x + b ↔ l.at_ = x := by simp only [mvL]; omega
  have h2 : endM t (mvL b l) = x + b ↔ endM t l = x := by rw [end_mv]; omega
  simp only [h1, h2]
  rfl
theorem haps_mv (t : Temporal) (b : Int) (ls : List Launch) (x : Int) : hapsM t (ls.map (mvL b)) (x + b) = hapsM t ls x := by
  unfold hapsM
  rw [List.flatMap_map]
  congr 1
  funext l
  exact hapsL_mv t b l x
theorem over_mv (t : Temporal) (b : Int) (ls : List Launch) (x : Int) : OverP t (ls.map (mvL b)) (x + b) ↔ OverP t ls x := by
  rw [over_iff, over_iff, List.pairwise_map]
  have : ∀ u v, OvO t (x + b) (mvL b u) (mvL b v) ↔ OvO t x u v := fun u v => by
    unfold OvO
    rw [end_mv]
    simp only [mvL]
    constructor <;> (rintro ⟨h1, h2, h3, h4⟩; exact ⟨by omega, h2, by omega, by omega⟩)
  simp only [this]
theorem ovr_mv (t : Temporal) (b : Int) (ls : List Launch) (x : Int) (s : List Int) : OvrP t (ls.map (mvL b)) (x + b) s ↔ OvrP t ls x s := by
  constructor
  · intro h l hl h1 h2
    exact h (mvL b l) (List.mem_map.2 ⟨l, hl, rfl⟩) (by simp only [mvL]; omega) (by rw [end_mv]; omega)
  · intro h l' hl' h1 h2
    obtain ⟨l, hl, rfl⟩ := List.mem_map.1 hl'
    rw [end_mv] at h2
    simp only [mvL] at h1
    exact h l hl (by omega) (by omega)
theorem run_mv (t : Temporal) (b : Int) (ls : List Launch) : ∀ (ticks : List Int) (s : List Int), runM t (ls.map (mvL b)) (ticks.map (· + b)) s = runM t ls ticks s
  | [], _ => rfl
  | x :: r, s => by
    have h1 : ∀ hs s', tickM t (ls.map (mvL b)) (x + b) s hs s' = tickM t ls x s hs s' := fun hs s' => by
      unfold tickM
      simp only [over_mv, ovr_mv]
    rw [List.map_cons, runM, runM, haps_mv, h1, run_mv t b ls r]
theorem ticks_mv {t : Temporal} {b : Int} {ls : List Launch} {ticks : List Int} (h : TicksR t ls ticks) : TicksR t (ls.map (mvL b)) (ticks.map (· + b)) := by
  refine ⟨List.pairwise_map.2 (h.1.imp fun {x y} hxy => by omega), fun x => ?_⟩
  rw [show hapsM t (ls.map (mvL b)) x = hapsM t ls (x - b) by rw [← haps_mv t b ls (x - b), Int.sub_add_cancel], ← h.2]
  constructor
  · intro hx
    obtain ⟨y, hy, rfl⟩ := List.mem_map.1 hx
    rw [Int.add_sub_cancel]; exact hy
  · intro hx
    exact List.mem_map.2 ⟨x - b, hx, by omega⟩
theorem span_mv (t : Temporal) (b : Int) : ∀ (ls : List Launch) (m : Int), (ls.map (mvL b)).foldl (fun m l => max m (endM t l)) (m + b) = ls.foldl (fun m l => max m (endM t l)) m + b
  | [], _ => rfl
  | l :: r, m => by
    simp only [List.map_cons, List.foldl_cons]
    rw [end_mv, show max (m + b) (endM t l + b) = max m (endM t l) + b by omega, span_mv t b r]
theorem launches_mv {t : Temporal} {b : Int} {ls : List Launch} (hb : 0 ≤ b) (hb2 : b ≤ 65535) (h : ∀ l ∈ ls, 0 ≤ l.at_ ∧ l.at_ ≤ 1000) : launchesM t (ls.map (mvL b)) = launchesM t ls := by
  unfold launchesM
  have : (∀ l ∈ ls.map (mvL b), LaunchOk t l) ↔ ∀ l ∈ ls, LaunchOk t l := by
    constructor
    · intro hp l hl
      have h1 := hp (mvL b l) (List.mem_map.2 ⟨l, hl, rfl⟩)
      have h2 := h l hl
      exact ⟨h1.1, h1.2.1, h2.1, by omega⟩
    · intro hp l' hl'
      obtain ⟨l, hl, rfl⟩ := List.mem_map.1 hl'
      have h1 := hp l hl
      have h2 := h l hl
      exact ⟨h1.1, h1.2.1, by simp only [mvL]; omega, by simp only [mvL]; omega⟩
  simp only [List.length_map, this]
theorem valid_mv {code : Int} {t : Temporal} {b : Int} {ls : List Launch} (hd : code = 0 → DurOk t) (hb : 0 ≤ b) (hb2 : b ≤ 65535) (h : ∀ l ∈ ls, 0 ≤ l.at_ ∧ l.at_ ≤ 1000) (ticks : List Int) :
    (validM code t (ls.map (mvL b)) (ticks.map (· + b))).2 = (validM code t ls ticks).2 ∧ (ls ≠ [] → (validM code t ls ticks).2 = 0 → (validM code t (ls.map (mvL b)) (ticks.map (· + b))).1 = (validM code t ls ticks).1 + b) := by
  unfold validM
  rw [launches_mv hb hb2 h, run_mv]
  by_cases h0 : code ≠ 0
  · rw [if_pos h0, if_pos h0]
    exact ⟨rfl, fun _ hc => absurd hc h0⟩
  rw [if_neg h0, if_neg h0]
  by_cases h1 : launchesM t ls ≠ 0
  · rw [if_pos h1, if_pos h1]
    exact ⟨rfl, fun _ hc => absurd hc h1⟩
  rw [if_neg h1, if_neg h1]
  by_cases h2 : (runM t ls ticks t.init).1 ≠ 0
  · rw [if_pos h2, if_pos h2]
    exact ⟨rfl, fun _ hc => absurd hc h2⟩
  rw [if_neg h2, if_neg h2]
  by_cases h3 : ¬ HoldsP t.goal (runM t ls ticks t.init).2
  · rw [if_pos h3, if_pos h3]
    exact ⟨rfl, fun _ hc => absurd hc (by decide)⟩
  rw [if_neg h3, if_neg h3]
  refine ⟨rfl, fun hn _ => ?_⟩
  cases ls with
  | nil => exact absurd rfl hn
  | cons l r =>
    have hok := (launches_ok (Classical.not_not.1 h1)).2 l (by simp)
    have := end_bd hok (hd (Classical.not_not.1 h0))
    have := hok.2.2
    show spanM t (List.map (mvL b) (l :: r)) = spanM t (l :: r) + b
    unfold spanM
    simp only [List.map_cons, List.foldl_cons]
    rw [end_mv, show max 0 (endM t l + b) = max 0 (endM t l) + b by omega, span_mv]

/-! ### plans of at most one launch -/
theorem valid_nil (t : Temporal) : ∃ c, validM 0 t [] [] = (0, c) ∧ (HoldsP t.goal t.init → c = 0) ∧ (¬ HoldsP t.goal t.init → c = 13) := by
  have h1 : launchesM t [] = 0 := by simp [launchesM]
  unfold validM
  rw [if_neg (fun h => h rfl), if_neg (fun h => h h1)]
  simp only [runM]
  by_cases h : HoldsP t.goal t.init
  · exact ⟨0, by simp [h, spanM], fun _ => rfl, fun hc => absurd h hc⟩
  · exact ⟨13, by simp [h], fun hc => absurd hc h, fun _ => rfl⟩
theorem after_one {t : Temporal} {k : Nat} {j : Job} (hj : t.jobs[k]? = some j) (e : Bool) (s : List Int) : afterM t s [((k : Int), e)] = putF s (wrJ j e) := by
  have hok : ∀ h ∈ [((k : Int), e)], HapOk t h := fun h hh => by
    simp at hh; subst hh
    exact ⟨by simp, by have := lt_of_get hj; simp; omega⟩
  have := List.perm_singleton.1 (ord_perm hok)
  unfold afterM
  rw [this]
  simp [putHs, wrH, hj]
theorem over_one (t : Temporal) (l : Launch) (x : Int) : ¬ OverP t [l] x := by
  rw [over_iff, Classical.not_not]
  exact List.pairwise_singleton _ _
theorem pair_one (t : Temporal) (h : Hap) : ¬ PairI t [h] := by
  rw [pair_iff, Classical.not_not]
  exact List.pairwise_singleton _ _
theorem tick_one {t : Temporal} {l : Launch} {k : Nat} {j : Job} (hk : l.job = k) (hj : t.jobs[k]? = some j) (x : Int) (e : Bool) (s s' : List Int) :
    tickM t [l] x s [((k : Int), e)] s' = if ¬ HoldsP (rdJ j e) s then 12 else if l.at_ ≤ x ∧ x < endM t l ∧ ¬ HoldsP j.over s' then 16 else 0 := by
  unfold tickM
  rw [if_neg (over_one t l x), if_neg (pair_one t _)]
  have h1 : PreP t s [((k : Int), e)] ↔ HoldsP (rdJ j e) s := by simp [PreP, rdH, hj]
  have h2 : OvrP t [l] x s' ↔ ¬ (l.at_ ≤ x ∧ x < endM t l ∧ ¬ HoldsP j.over s') := by
    have ho : overL t l = j.over := by simp [overL, hk, hj]
    simp only [OvrP, List.mem_singleton, forall_eq, ho, not_and, Classical.not_not]
  simp only [h1, h2, Classical.not_not]
theorem valid_one {t : Temporal} (hcode : CheckR t 0) {l : Launch} {k : Nat} {j : Job} (hk : l.job = k) (hj : t.jobs[k]? = some j) (h1 : 0 ≤ l.at_) (h2 : l.at_ ≤ 65535) :
    TicksR t [l] [l.at_, l.at_ + j.dur] ∧ validM 0 t [l] [l.at_, l.at_ + j.dur] =
      if ¬ HoldsP j.start t.init then (0, 12) else if ¬ HoldsP j.over (putF t.init j.atStart) then (0, 16) else if ¬ HoldsP j.fin (putF t.init j.atStart) then (0, 12) else if ¬ HoldsP t.goal (putF (putF t.init j.atStart) j.atEnd) then (0, 13) else (l.at_ + j.dur, 0) := by
  have hd := (good_of hcode).dur j (List.mem_of_getElem? hj)
  have he : endM t l = l.at_ + j.dur := by simp [endM, durM, hk, hj]
  have hlt := lt_of_get hj
  have hok : LaunchOk t l := ⟨by omega, by omega, h1, by omega⟩
  have hl : launchesM t [l] = 0 := by
    unfold launchesM
    rw [if_neg (by simp), if_pos (fun x hx => by simp at hx; subst hx; exact hok)]
  have hp1 : hapsM t [l] l.at_ = [((k : Int), false)] := by
    simp only [hapsM, List.flatMap_cons, List.flatMap_nil, List.append_nil, hapsL, if_true, hk]
    rw [if_neg (by omega)]; rfl
  have hp2 : hapsM t [l] (l.at_ + j.dur) = [((k : Int), true)] := by
    simp only [hapsM, List.flatMap_cons, List.flatMap_nil, List.append_nil, hapsL, he, if_true, hk]
    rw [if_neg (by omega)]; rfl
  refine ⟨⟨by simp; omega, fun x => ?_⟩, ?_⟩
  · rw [haps_ne]
    simp only [List.mem_cons, List.not_mem_nil, or_false, exists_eq_left, he]
  · have e1 : rdJ j false = j.start := rfl
    have e2 : wrJ j false = j.atStart := rfl
    have e3 : rdJ j true = j.fin := rfl
    have e4 : wrJ j true = j.atEnd := rfl
    have c5 : l.at_ < l.at_ + j.dur := by omega
    have hsp : spanM t [l] = l.at_ + j.dur := by
      simp only [spanM, List.foldl_cons, List.foldl_nil, he]; omega
    have hr : runM t [l] [l.at_, l.at_ + j.dur] t.init = if ¬ HoldsP j.start t.init then (12, t.init) else if ¬ HoldsP j.over (putF t.init j.atStart) then (16, t.init) else if ¬ HoldsP j.fin (putF t.init j.atStart) then (12, putF t.init j.atStart) else (0, putF (putF t.init j.atStart) j.atEnd) := by
      simp only [runM, hp1, hp2, after_one hj, tick_one hk hj, e1, e2, e3, e4, he]
      by_cases c1 : HoldsP j.start t.init
      · by_cases c2 : HoldsP j.over (putF t.init j.atStart)
        · by_cases c3 : HoldsP j.fin (putF t.init j.atStart)
          · simp [c1, c2, c3]
          · simp [c1, c2, c3]
        · simp [c1, c2, c5]
      · simp [c1]
    unfold validM
    rw [if_neg (fun h => h rfl), if_neg (fun h => h hl), hr, hsp]
    by_cases c1 : HoldsP j.start t.init
    · by_cases c2 : HoldsP j.over (putF t.init j.atStart)
      · by_cases c3 : HoldsP j.fin (putF t.init j.atStart)
        · by_cases c4 : HoldsP t.goal (putF (putF t.init j.atStart) j.atEnd)
          · simp [c1, c2, c3, c4]
          · simp [c1, c2, c3, c4]
        · simp [c1, c2, c3]
      · simp [c1, c2]
    · simp [c1]
theorem valid_one' {t : Temporal} (hcode : CheckR t 0) {l : Launch} {k : Nat} {j : Job} (hk : l.job = k) (hj : t.jobs[k]? = some j) (h1 : 0 ≤ l.at_) (h2 : l.at_ ≤ 65535) :
    ∃ n c, validM 0 t [l] [l.at_, l.at_ + j.dur] = (n, c) ∧ (¬ HoldsP j.start t.init → c = 12) ∧ (HoldsP j.start t.init → ¬ HoldsP j.over (putF t.init j.atStart) → c = 16) ∧
      (HoldsP j.start t.init → HoldsP j.over (putF t.init j.atStart) → ¬ HoldsP j.fin (putF t.init j.atStart) → c = 12) ∧
      (HoldsP j.start t.init → HoldsP j.over (putF t.init j.atStart) → HoldsP j.fin (putF t.init j.atStart) → ¬ HoldsP t.goal (putF (putF t.init j.atStart) j.atEnd) → c = 13) ∧
      (HoldsP j.start t.init → HoldsP j.over (putF t.init j.atStart) → HoldsP j.fin (putF t.init j.atStart) → HoldsP t.goal (putF (putF t.init j.atStart) j.atEnd) → c = 0 ∧ n = l.at_ + j.dur) := by
  have hv := (valid_one hcode hk hj h1 h2).2
  generalize validM 0 t [l] [l.at_, l.at_ + j.dur] = x at hv ⊢
  obtain ⟨n, c⟩ := x
  refine ⟨n, c, rfl, fun a => ?_, fun a b => ?_, fun a b d => ?_, fun a b d e => ?_, fun a b d e => ?_⟩
  · rw [if_pos a] at hv; injection hv
  · rw [if_neg (fun h => h a), if_pos b] at hv; injection hv
  · rw [if_neg (fun h => h a), if_neg (fun h => h b), if_pos d] at hv; injection hv
  · rw [if_neg (fun h => h a), if_neg (fun h => h b), if_neg (fun h => h d), if_pos e] at hv; injection hv
  · rw [if_neg (fun h => h a), if_neg (fun h => h b), if_neg (fun h => h d), if_neg (fun h => h e)] at hv
    injection hv with g1 g2
    exact ⟨g2, g1⟩
end Go.Proofs.Ytfidaamledbmpaa
