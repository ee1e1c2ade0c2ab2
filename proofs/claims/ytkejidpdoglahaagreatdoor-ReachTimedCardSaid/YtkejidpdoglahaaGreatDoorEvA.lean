/- The next entry of a map that is ranged over. Conditions: none. -/
import Derived.Test.YtkejidpdoglahaaGreatDoorEvB
namespace Go.Ev
open Go.Lx Go.RowKit

section
variable {P : Program} {cx : Cx} {tT : TT} {T : Tab P} {fz : FZ}

theorem mem_every {l : List (AV × AV × Nat)} {c : AV × AV × Nat → Bool} (h : every l c = true) : ∀ e ∈ l, c e = true := by
  induction l with
  | nil => intro e he; cases he
  | cons x r ih =>
    have h' : br false (every r c) (c x) = true := h
    rw [br_eq] at h'
    split at h'
    · rename_i hx
      intro e he
      cases he with
      | head => exact hx
      | tail _ he => exact ih h' e he
    · cases h'
theorem hasN_eq : ∀ (l : List Nat) (n : Nat), hasN l n = l.contains n
  | [], _ => rfl
  | x :: r, n => by
    simp only [hasN, List.contains_cons]
    rw [hasN_eq r n]
    cases hb : Nat.beq x n with
    | true => simp [Nat.eq_of_beq_eq_true hb]
    | false =>
      have : (n == x) = false := by
        rw [Bool.eq_false_iff]
        intro h
        rw [beq_iff_eq] at h
        subst h
        rw [Nat.beq_refl] at hb; cases hb
      rw [this, Bool.false_or]
theorem ges_filter {ν : Nu} {p : Nat → Bool} : ∀ {l : List (AV × AV × Nat)} {a : List MapEntry}, ges ν l = some a → ges ν (l.filter fun e => p e.2.2) = some (a.filter fun e => p e.born)
  | [], a, h => by simp [ges] at h; subst h; simp [ges]
  | e :: l, a, h => by
    obtain ⟨k, v, q, h1, h2, h3, rfl⟩ := ges_cons h
    have ih := ges_filter (p := p) h3
    cases hp : p e.2.2 with
    | true => simp [hp, ges, h1, h2, ih]
    | false => simp [hp, ih]
theorem ges_all {ν : Nu} {p : Nat → Bool} : ∀ {l : List (AV × AV × Nat)} {a : List MapEntry}, ges ν l = some a → (a.all fun e => p e.born) = l.all fun e => p e.2.2
  | [], a, h => by simp [ges] at h; subst h; rfl
  | e :: l, a, h => by
    obtain ⟨k, v, q, h1, h2, h3, rfl⟩ := ges_cons h
    simp [ges_all (p := p) h3]
theorem ges_mem {ν : Nu} : ∀ {l : List (AV × AV × Nat)} {a : List MapEntry} {x : MapEntry}, ges ν l = some a → x ∈ a → ∃ e ∈ l, gv ν e.1 = some x.key ∧ gv ν e.2.1 = some x.val ∧ e.2.2 = x.born
  | [], a, x, h, hx => by simp [ges] at h; subst h; cases hx
  | e :: l, a, x, h, hx => by
    obtain ⟨k, v, q, h1, h2, h3, rfl⟩ := ges_cons h
    cases hx with
    | head => exact ⟨e, by simp, h1, h2, rfl⟩
    | tail _ hx =>
      obtain ⟨e', he, h4⟩ := ges_mem h3 hx
      exact ⟨e', by simp [he], h4⟩
theorem it_eq {o : AO} {it : It} (h : oIt o = some it) : o = .mit it.m it.since it.seen it.stepped := by
  cases o with
  | mit m a l b => simp [oIt] at h; subst h; rfl
  | cells _ _ _ _ => simp [oIt] at h
  | map _ _ => simp [oIt] at h
theorem map_eq {o : AO} {es : List (AV × AV × Nat) × Nat} (h : oMap o = some es) : o = .map es.1 es.2 := by
  cases o with
  | map a n => simp [oMap] at h; subst h; rfl
  | cells _ _ _ _ => simp [oMap] at h
  | mit _ _ _ _ => simp [oMap] at h
theorem choose_next (n : Nat) (hn : 0 < n) (w : World) : ∃ k w1, (choose (.mapNext n)).run P w = .ok k w1 ∧ k < n ∧ w1.os = w.os ∧ w1.tape = w.tape ∧ w1.output = w.output ∧ w1.heap = w.heap := by
  by_cases h : n ≤ 1
  · exact ⟨0, w, by simp [choose, Sem.run, Question.forced, h], hn, rfl, rfl, rfl, rfl⟩
  · exact ⟨w.tape w.drawn (.mapNext n) % n, { w with drawn := w.drawn + 1 }, by simp [choose, Sem.run, Question.forced, Question.cut, h], Nat.mod_lt _ hn, rfl, rfl, rfl, rfl⟩
/-- the model's step of a range, in general -/
theorem run_next {b bm since stepped clock : Nat} {seen : List Nat} {l : List MapEntry} {ty : TypeId} {w : World} {pre post : HP} (hi : Inv cx fz (pre ++ (b, .mapIter (some bm) since seen.toArray stepped) :: post) w) (hm : (bm, Obj.map l.toArray clock) ∈ pre ++ (b, .mapIter (some bm) since seen.toArray stepped) :: post)
    (hcond : seen = [] ∨ l = [] ∨ ∃ e ∈ l, e.born < stepped) (hold : ∀ e ∈ l.filter (fun e => !seen.contains e.born), e.born < since) :
    ∃ w1, w1.os = w.os ∧ w1.tape = w.tape ∧ w1.output = w.output ∧ w1.heap = w.heap ∧
      ((l.filter (fun e => !seen.contains e.born) = [] ∧ (Instr.next (.pointer (some ⟨b, 0, none⟩)) false ty).run P w = .ok (.tuple #[.bool false]) w1) ∨
       ∃ e ∈ l.filter (fun e => !seen.contains e.born), (Instr.next (.pointer (some ⟨b, 0, none⟩)) false ty).run P w = .ok (.tuple #[.bool true, e.key, e.val]) { w1 with heap := w1.heap.setIfInBounds b (.mapIter (some bm) since (seen ++ [e.born]).toArray clock) }) := by
  have hit := (hi.hp.own (b, .mapIter (some bm) since seen.toArray stepped) (by simp)).1
  simp only at hit
  have hget := getObj_own (P := P) hi (b := b) (o := .mapIter (some bm) since seen.toArray stepped) (by simp) (by simp)
  have hgm := getObj_own (P := P) hi hm (by simp)
  have hcond' : (!seen.toArray.isEmpty && !l.toArray.isEmpty && l.toArray.all (fun e => decide (e.born ≥ stepped))) = false := by
    rcases hcond with h | h | ⟨e, he, hlt⟩
    · subst h; rfl
    · subst h; simp
    · have : (l.toArray.all fun e => decide (e.born ≥ stepped)) = false := by
        rw [List.all_toArray, List.all_eq_false]
        exact ⟨e, he, by simpa using hlt⟩
      rw [this, Bool.and_false]
  generalize hleft : l.filter (fun e => !seen.contains e.born) = left at hold ⊢
  have hleftA : l.toArray.filter (fun e => !seen.toArray.contains e.born) = left.toArray := by
    rw [← hleft, List.filter_toArray]
    simp
  have holdA : left.toArray.filter (fun e => decide (e.born < since)) = left.toArray := by
    rw [List.filter_toArray, List.filter_eq_self.2 (fun e he => by simpa using hold e he)]
  have hnewA : left.toArray.filter (fun e => decide (e.born ≥ since)) = #[] := by
    rw [List.filter_toArray, List.filter_eq_nil_iff.2 (fun e he => by have := hold e he; simpa using this)]
  have hset : ∀ (w1 : World) (o' : Obj), w1.heap = w.heap → (Go.setObj b o').run P w1 = .ok () { w1 with heap := w1.heap.setIfInBounds b o' } := fun w1 o' hw => by
    simp [Go.setObj, Sem.run, hw, hit]
  by_cases hl : left = []
  · obtain ⟨k, w1, hc, hk, e1, e2, e3, e4⟩ := choose_next (P := P) 1 (by omega) w
    have hk0 : k = 0 := by omega
    subst hk0
    refine ⟨w1, e1, e2, e3, e4, .inl ⟨hl, ?_⟩⟩
    simp only [Instr.next, Sem.run_bind, hget, hgm, Result.andThen_ok, hcond', Bool.false_eq_true, if_false, hleftA, holdA, hnewA]
    have hcand : (((if left.toArray.isEmpty = true then #[none] else #[]) ++ Array.map some (left.toArray ++ #[])) : Array (Option MapEntry)) = #[none] := by simp [hl]
    have hsz : (#[none] : Array (Option MapEntry)).size = 1 := rfl
    have hget' : (#[none] : Array (Option MapEntry))[0]? = some none := rfl
    simp only [hcand, hsz, hc, Result.andThen_ok, hget', Sem.run_pure]
  · have hpos : 0 < left.length := List.length_pos_iff.2 hl
    obtain ⟨k, w1, hc, hk, e1, e2, e3, e4⟩ := choose_next (P := P) left.length hpos w
    refine ⟨w1, e1, e2, e3, e4, .inr ⟨left[k], List.getElem_mem hk, ?_⟩⟩
    have hemp : left.toArray.isEmpty = false := by simp [hl]
    have hcand : (((if left.toArray.isEmpty = true then #[none] else #[]) ++ Array.map some (left.toArray ++ #[])) : Array (Option MapEntry)) = (left.map some).toArray := by simp [hemp]
    simp only [Instr.next, Sem.run_bind, hget, hgm, Result.andThen_ok, hcond', Bool.false_eq_true, if_false, hleftA, holdA, hnewA, hcand]
    have hsz : (left.map some).toArray.size = left.length := by simp
    have hget' : (left.map some).toArray[k]? = some (some left[k]) := by simp [hk]
    simp only [hsz, hc, Result.andThen_ok, hget', Sem.run_bind, hset w1 _ e4, Sem.run_pure, List.push_toArray]
theorem k_next_s (x : Operand) (str : Bool) : KS P cx tT fz (kNext x str) (.next x str) := fun ν ar r h nx H Fm c dst ty pos af gd hr hh hfr hf => by
  unfold kNext at hf
  cases str with
  | true => cases hf
  | false =>
  rw [br_false] at hf
  obtain ⟨a, ha, hf⟩ := fO_iff hf
  obtain ⟨p, hp, hf⟩ := fO_iff hf
  obtain ⟨h0, hf⟩ := fT_iff hf
  replace h0 := Nat.eq_of_beq_eq_true h0
  unfold nxt at hf
  obtain ⟨o, ho, hf⟩ := fO_iff hf
  obtain ⟨it, hit, hf⟩ := fO_iff hf
  obtain ⟨u, h1, h2⟩ := hr x a ha
  obtain ⟨b, hb, rfl⟩ := asP_iff hp h1
  rw [h0] at h2
  obtain ⟨b', xo, pre, post, hb2, hgo, rfl⟩ := hh.split ho
  rw [hb] at hb2; injection hb2 with hb2; subst hb2
  have hoe := it_eq hit
  rw [hoe] at ho hgo
  simp only [go] at hgo
  cases him : it.m with
  | none =>
    rw [him] at hgo hf
    simp [gM] at hgo; subst hgo
    rw [oE_none] at hf
    refine Does.of fun ρ w hρ hi => ?_
    have hget := getObj_own (P := P) hi (b := b) (o := .mapIter none it.since it.seen.toArray it.stepped) (by simp) (by simp)
    have : (execOp ρ ⟨dst, .next x false, ty, pos, af, gd⟩).run P w = .ok (.value (.tuple #[.bool false])) w := by
      simp only [execOp, hρ _ _ h2, Sem.run_bind, Instr.next, hget, Result.andThen_ok, Sem.run_pure]
    rw [this]
    exact ⟨fz, _, hi, rfl, ν, _, h, nx, Nu.le.refl _, Nat.le_refl _, hf, by simp [gv, gvs], hh, hfr⟩
  | some g =>
    rw [him] at hgo hf
    rw [oE_some] at hf
    obtain ⟨q, hq, hf⟩ := fO_iff hf
    obtain ⟨es, hes, hf⟩ := fO_iff hf
    obtain ⟨hcl, hf⟩ := fT_iff hf
    simp only [Bool.and_eq_true] at hcl
    obtain ⟨hcl1, hcl2⟩ := hcl
    replace hcl1 := Nat.eq_of_beq_eq_true hcl1
    replace hcl2 := Nat.eq_of_beq_eq_true hcl2
    obtain ⟨bm, l, hbm, hl, hmem⟩ := hh.map hq hes
    simp [gM, hbm] at hgo; subst hgo
    unfold nxM at hf
    obtain ⟨hguard, hf⟩ := fT_iff hf
    have hfil := ges_filter (p := fun b => !hasN it.seen b) hl
    have hsame : (fun e : MapEntry => !hasN it.seen e.born) = fun e => !it.seen.contains e.born := by funext e; rw [hasN_eq]
    rw [hsame] at hfil
    have hguard' : it.seen = [] ∨ l = [] ∨ ∃ e ∈ l, e.born < it.stepped := by
      simp only [Bool.or_eq_true, List.isEmpty_iff] at hguard
      rcases hguard with hg | hg | hg
      · exact .inl hg
      · rw [hg] at hl
        simp [ges] at hl
        exact .inr (.inl hl)
      · obtain ⟨e, he, hlt⟩ := List.any_eq_true.1 hg
        rw [Nat.blt_eq] at hlt
        obtain ⟨i, hi⟩ := List.mem_iff_getElem?.1 he
        obtain ⟨k, v, _, _, g3⟩ := ges_get hl hi
        exact .inr (.inr ⟨_, List.mem_of_getElem? g3, hlt⟩)
    generalize hcand : es.1.filter (fun e => !hasN it.seen e.2.2) = cand at hf hfil
    generalize hleft : l.filter (fun e => !it.seen.contains e.born) = left at hfil
    have hold : ∀ e ∈ l.filter (fun e => !it.seen.contains e.born), e.born < it.since := by
      rw [hleft]
      intro e he
      obtain ⟨a', ha', _, _, hb'⟩ := ges_mem hfil he
      cases cand with
      | nil => cases ha'
      | cons y r =>
        rw [lE_cons] at hf
        obtain ⟨hall, _⟩ := fT_iff hf
        have := List.all_eq_true.1 hall a' ha'
        rw [Nat.blt_eq] at this
        omega
    refine Does.of fun ρ w hρ hi => ?_
    obtain ⟨w1, e1, e2, e3, e4, hrun⟩ := run_next (P := P) (ty := ty) hi hmem hguard' hold
    have hi1 := hi.world e1 e2 e3 e4
    rw [hleft] at hrun
    have hexec : ∀ v w', (Instr.next (.pointer (some ⟨b, 0, none⟩)) false ty).run P w = .ok v w' → (execOp ρ ⟨dst, .next x false, ty, pos, af, gd⟩).run P w = .ok (.value v) w' := fun v w' hv => by
      simp only [execOp, hρ _ _ h2, Sem.run_bind, hv, Result.andThen_ok, Sem.run_pure]
    rcases hrun with ⟨hl0, hr0⟩ | ⟨e, he, hr0⟩
    · rw [hexec _ _ hr0]
      have hc0 : cand = [] := by
        cases cand with
        | nil => rfl
        | cons y r => rw [hl0] at hfil; obtain ⟨_, _, _, _, _, _, hx⟩ := ges_cons hfil; cases hx
      rw [hc0, lE_nil] at hf
      exact ⟨fz, _, hi1, rfl, ν, _, h, nx, Nu.le.refl _, Nat.le_refl _, hf, by simp [gv, gvs], hh, hfr⟩
    · rw [hexec _ _ hr0]
      obtain ⟨a', ha', q1, q2, q3⟩ := ges_mem hfil he
      cases cand with
      | nil => cases ha'
      | cons y r =>
        rw [lE_cons] at hf
        obtain ⟨_, hf⟩ := fT_iff hf
        have hf' := mem_every hf a' ha'
        rw [fL_eq] at hf'
        obtain ⟨h', hu, hc⟩ := Tr.setK_iff _ _ _ _ _ hf'
        have hgo' : go ν (.mit (some g) it.since (it.seen ++ [a'.2.2]) es.2) = some (.mapIter (some bm) it.since (it.seen ++ [e.born]).toArray es.2) := by
          simp [go, gM, hbm, q3]
        refine ⟨fz, _, Inv.setObj' hi1, rfl, ν, _, h', nx, Nu.le.refl _, Nat.le_refl _, hc, ?_, hh.set hi.hp.nd ho hb hgo' hu (fun _ _ _ _ he => by cases he), hfr⟩
        simp [gv, gvs, q1, q2]
end
end Go.Ev
