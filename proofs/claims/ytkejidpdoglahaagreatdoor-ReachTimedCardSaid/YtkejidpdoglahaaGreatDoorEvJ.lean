/- Operations that only read, the last of them: entries of an iteration, built-in functions, conversions; and all of them together. Conditions: none. -/
import Derived.Test.YtkejidpdoglahaaGreatDoorEvK
namespace Go.Ev
open Go.Lx Go.RowKit

section
variable {P : Program} {cx : Cx} {tT : TT} {T : Tab P} {fz : FZ}

theorem HR.it {ν : Nu} {h : Tr AO} {H Fm : HP} (hh : HR tT ν h H Fm) {id : Nat} {o : AO} {it : It} (hg : h.get id = some o) (hc : oIt o = some it) :
    ∃ b m, ν.blk id = some b ∧ gM ν it.m = some m ∧ (b, Obj.mapIter m it.since it.seen.toArray it.stepped) ∈ H := by
  obtain ⟨b, x, h1, h2, h3⟩ := hh.own id o hg
  cases o with
  | mit m a l s =>
    simp [oIt] at hc; subst hc
    simp only [go] at h2
    cases hv : gM ν m with
    | none => simp [hv] at h2
    | some q => simp [hv] at h2; subst h2; exact ⟨b, q, h1, by first | exact hv | rfl, h3⟩
  | cells _ _ _ _ => simp [oIt] at hc
  | map _ _ => simp [oIt] at hc
theorem lastN_iff : ∀ {l : List Nat} {z : Nat}, lastN l = some z → l.getLast? = some z
  | [], _, h => by cases h
  | [x], z, h => by simpa [lastN] using h
  | x :: y :: r, z, h => by
    have : lastN (y :: r) = some z := h
    have := lastN_iff this
    simpa using this
theorem fndB_s {ν : Nu} {z : Nat} : ∀ {es : List (AV × AV × Nat)} {l : List MapEntry} {e : AV × AV × Nat}, ges ν es = some l → fndB z es = some e → ∃ k v n, gv ν e.1 = some k ∧ gv ν e.2.1 = some v ∧ l.find? (·.born == z) = some ⟨k, v, n⟩
  | [], _, _, _, h => by cases h
  | a :: es, l, e, hl, h => by
    obtain ⟨k, v, q, h1, h2, h3, rfl⟩ := ges_cons hl
    simp only [fndB] at h
    cases hb : Nat.beq a.2.2 z with
    | true =>
      rw [hb] at h
      injection h with h; subst h
      exact ⟨k, v, a.2.2, h1, h2, by simp [Nat.eq_of_beq_eq_true hb]⟩
    | false =>
      rw [hb] at h
      obtain ⟨k', v', n, g1, g2, g3⟩ := fndB_s h3 h
      refine ⟨k', v', n, g1, g2, ?_⟩
      have hne : (a.2.2 == z) = false := by
        rw [beq_eq_false_iff_ne]; intro he; rw [he, Nat.beq_refl] at hb; cases hb
      simp only [List.find?_cons, hne]
      exact g3
theorem s_ent (x : Operand) : QS P cx tT fz (qEnt x) (.entry x) := fun ν ar r h H Fm c dst ty pos af gd hr hh hf => by
  obtain ⟨a, ha, hf⟩ := fO_iff hf
  obtain ⟨p, hp, hf⟩ := fO_iff hf
  obtain ⟨hp0, hf⟩ := fT_iff hf
  obtain ⟨o, ho, hf⟩ := fO_iff hf
  obtain ⟨it, hit, hf⟩ := fO_iff hf
  obtain ⟨g, hg, hf⟩ := fO_iff hf
  obtain ⟨q, hq, hf⟩ := fO_iff hf
  obtain ⟨es, hes, hf⟩ := fO_iff hf
  obtain ⟨z, hz, hf⟩ := fO_iff hf
  obtain ⟨hcl, hf⟩ := fT_iff hf
  obtain ⟨e, he, hf⟩ := fO_iff hf
  obtain ⟨u, h1, h2⟩ := hr x a ha
  obtain ⟨b, hb, rfl⟩ := asP_iff hp h1
  obtain ⟨b', m, hb', hm, hmem⟩ := hh.it ho hit
  rw [hb] at hb'; injection hb' with hb'; subst hb'
  obtain ⟨bm, l, hbm, hl, hmem2⟩ := hh.map hq hes
  rw [hg] at hm
  simp [gM, hbm] at hm; subst hm
  obtain ⟨k, v, n, g1, g2, g3⟩ := fndB_s hl he
  have hp0' := Nat.eq_of_beq_eq_true hp0
  refine ⟨_, .tuple #[k, v], hf, by simp [gv, gvs, g1, g2], fun ρ w hρ hi => ?_⟩
  have hlast : it.seen.toArray.back? = some z := by
    have := lastN_iff hz
    simpa using this
  have hcl' : (es.2 != it.stepped) = false := by simp [Nat.eq_of_beq_eq_true hcl]
  rw [hp0'] at h2
  have hfind : l.toArray.find? (fun x => x.born == z) = some ⟨k, v, n⟩ := by simpa using g3
  simp only [execOp, hρ _ _ h2, Instr.entry, Sem.run_bind, getObj_own hi hmem (by simp), Result.andThen_ok, hlast, getObj_own hi hmem2 (by simp), hcl', Bool.false_eq_true, if_false, Sem.run_pure, hfind]
  exact ⟨rfl, Fr.refl _ _⟩

/-! ### built-in functions -/
theorem one_iff {α : Type} {l : List α} {c : α → Bool} (h : one_ l c = true) : ∃ x, l = [x] ∧ c x = true := by
  cases l with
  | nil => cases h
  | cons x r =>
    cases r with
    | nil => exact ⟨x, rfl, h⟩
    | cons y q => cases h
theorem two_iff {α : Type} {l : List α} {c : α → α → Bool} (h : two_ l c = true) : ∃ x y, l = [x, y] ∧ c x y = true := by
  cases l with
  | nil => cases h
  | cons x r =>
    obtain ⟨y, rfl, h⟩ := one_iff h
    exact ⟨x, y, rfl, h⟩
theorem args1 {r : Operand → Option Value} {xs : List Operand} {vs : List Value} {u : Value} (h : rds r xs = some vs) (hv : vs = [u]) : ∃ x, xs = [x] ∧ r x = some u := by
  subst hv
  cases xs with
  | nil => cases h
  | cons x q =>
    simp only [rds] at h
    cases hx : r x with
    | none => simp [hx] at h
    | some v =>
      cases hq : rds r q with
      | none => simp [hx, hq] at h
      | some l =>
        simp only [hx, hq] at h
        injection h with h
        injection h with h1 h2
        subst h1 h2
        cases q with
        | nil => exact ⟨x, rfl, hx⟩
        | cons y q =>
          simp only [rds] at hq
          cases hy : r y with
          | none => simp [hy] at hq
          | some w =>
            cases hz : rds r q with
            | none => simp [hy, hz] at hq
            | some _ => simp [hy, hz] at hq
theorem args2 {r : Operand → Option Value} {xs : List Operand} {vs : List Value} {u w : Value} (h : rds r xs = some vs) (hv : vs = [u, w]) : ∃ x y, xs = [x, y] ∧ r x = some u ∧ r y = some w := by
  subst hv
  cases xs with
  | nil => cases h
  | cons x q =>
    simp only [rds] at h
    cases hx : r x with
    | none => simp [hx] at h
    | some v =>
      cases hq : rds r q with
      | none => simp [hx, hq] at h
      | some l =>
        simp only [hx, hq] at h
        injection h with h
        injection h with h1 h2
        subst h1 h2
        obtain ⟨y, rfl, hy⟩ := args1 hq rfl
        exact ⟨x, y, rfl, hx, hy⟩
theorem gvs_one {ν : Nu} {a : AV} {vs : List Value} (h : gvs ν [a] = some vs) : ∃ v, gv ν a = some v ∧ vs = [v] := by
  obtain ⟨x, l, hx, hl, rfl⟩ := gvs_cons h
  simp [gvs] at hl; subst hl
  exact ⟨x, hx, rfl⟩
theorem gvs_two {ν : Nu} {a b : AV} {vs : List Value} (h : gvs ν [a, b] = some vs) : ∃ v w, gv ν a = some v ∧ gv ν b = some w ∧ vs = [v, w] := by
  obtain ⟨x, l, hx, hl, rfl⟩ := gvs_cons h
  obtain ⟨w, hw, rfl⟩ := gvs_one hl
  exact ⟨x, w, hx, hw, rfl⟩

theorem s_bi (hT : TA tT T) (b : Builtin) (xs : Array Operand) (ats : Array TypeId) : QS P cx tT fz (qBi b xs.toList ats.toList) (.call { callee := .builtin b, args := xs, argTypes := ats }) := fun ν ar r h H Fm c dst ty pos af gd hr hh hf => by
  obtain ⟨vs, hvs, hf⟩ := fO_iff hf
  obtain ⟨us, h1, h2⟩ := hr.all hvs
  have hmm : ∀ (f : Int → Int → Int), bMax f vs c = true → ∃ x y k m n, xs = #[x, y] ∧ r x = some (.int k m) ∧ r y = some (.int k n) ∧ c (.i k (f m n)) = true := by
    intro f hf
    obtain ⟨p, q, rfl, hf⟩ := two_iff hf
    obtain ⟨z1, hz1, hf⟩ := fO_iff hf
    obtain ⟨z2, hz2, hf⟩ := fO_iff hf
    obtain ⟨hk, hf⟩ := fT_iff hf
    obtain ⟨v, w, hv, hw, rfl⟩ := gvs_two h1
    obtain ⟨x, y, hxy, hx, hy⟩ := args2 h2 rfl
    have e1 := asI_iff hz1 hv
    have e2 := asI_iff hz2 hw
    subst e1 e2
    rw [← kEq_iff hk] at hy
    exact ⟨x, y, _, _, _, by rw [← Array.toArray_toList (xs := xs), hxy], hx, hy, rI_iff hf⟩
  cases b with
  | len =>
    obtain ⟨t, ht, hf2⟩ := one_iff hf
    obtain ⟨v, rfl, hf3⟩ := one_iff hf2
    clear hf hf2
    obtain ⟨u, hu, rfl⟩ := gvs_one h1
    obtain ⟨x, hx, hxr⟩ := args1 h2 rfl
    have ex : xs = #[x] := by rw [← Array.toArray_toList (xs := xs), hx]
    have et : ats = #[t] := by rw [← Array.toArray_toList (xs := ats), ht]
    subst ex et
    obtain ⟨A, hA, hf⟩ := fO_iff hf3
    obtain ⟨X, hX, hR⟩ := hT t A hA
    cases hk4 : Nat.beq A.k 4 with
    | true =>
      rw [hk4, br_true] at hf
      obtain ⟨s, hs, hf⟩ := fO_iff hf
      obtain ⟨A1, c1, _, _, _, rfl⟩ := asL_iff hs hu
      exact qs_of hf (gv_i _ _ _) (q_len_slice T hX (hR.d4 (Nat.eq_of_beq_eq_true hk4)) hxr rfl)
    | false =>
      rw [hk4, br_false] at hf
      cases hk2 : Nat.beq A.k 2 with
      | true =>
        rw [hk2, br_true] at hf
        obtain ⟨s, hs, hf⟩ := fO_iff hf
        obtain ⟨rfl, _⟩ := asS_iff hs hu
        exact qs_of (rN_iff hf) (gv_i _ _ _) (q_len_string T hX (hR.d2 (Nat.eq_of_beq_eq_true hk2)) hxr (by rw [bs_size]; rfl))
      | false =>
        rw [hk2, br_false] at hf
        cases hk5 : Nat.beq A.k 5 with
        | true =>
          rw [hk5, br_true] at hf
          have hu5 := und_plain T hX (hR.d5 (Nat.eq_of_beq_eq_true hk5)) rfl
          refine qs_of hf (gv_i _ _ _) (doesQ_of (fun ρ w hρ => ?_) rfl)
          have : ∀ z, (Builtin.len_ #[t] ty #[z]).run P w = .ok (.int .i64 A.n) w := fun z => by
            simp [Builtin.len_, run_underlying hu5, goInt]
          simp only [execOp, resolve, invoke, builtin, Sem.run_bind, Sem.run_pure, Result.andThen_ok, List.map_toArray, List.map_cons, List.map_nil, this]
          rfl
        | false =>
          rw [hk5, br_false] at hf
          obtain ⟨hk6, hf⟩ := fT_iff hf
          obtain ⟨q, hq, hf⟩ := fO_iff hf
          obtain ⟨m, hm, rfl⟩ := asM_iff hq hu
          have hu6 := und_plain T hX (hR.d6 (Nat.eq_of_beq_eq_true hk6)) rfl
          cases q with
          | none =>
            simp [gM] at hm; subst hm
            rw [oE_none] at hf
            refine qs_of (rN_iff hf) (gv_i _ _ _) (doesQ_of (fun ρ w hρ => ?_) rfl)
            simp [execOp, resolve, invoke, builtin, hρ _ _ hxr, Builtin.len_, run_underlying hu6, goInt]
          | some id =>
            rw [oE_some] at hf
            obtain ⟨o, ho, hf⟩ := fO_iff hf
            obtain ⟨es, hes, hf⟩ := fO_iff hf
            obtain ⟨bb, l, hbb, hl, hmem⟩ := hh.map ho hes
            simp [gM, hbb] at hm; subst hm
            refine ⟨_, .int .i64 l.length, rN_iff hf, by rw [gv_i, ges_len hl]; rfl, fun ρ w hρ hi => ?_⟩
            have : (Builtin.len_ #[t] ty #[.map (some bb)]).run P w = .ok (.int .i64 l.length) w := by
              simp [Builtin.len_, run_underlying hu6, getObj_own hi hmem (by simp), goInt]
            simp only [execOp, resolve, invoke, builtin, Sem.run_bind, Sem.run_pure, Result.andThen_ok, List.map_toArray, List.map_cons, List.map_nil, hρ _ _ hxr, this]
            exact ⟨rfl, Fr.refl _ _⟩
  | cap =>
    obtain ⟨t, ht, hf2⟩ := one_iff hf
    obtain ⟨v, rfl, hf3⟩ := one_iff hf2
    clear hf hf2
    obtain ⟨u, hu, rfl⟩ := gvs_one h1
    obtain ⟨x, hx, hxr⟩ := args1 h2 rfl
    have ex : xs = #[x] := by rw [← Array.toArray_toList (xs := xs), hx]
    have et : ats = #[t] := by rw [← Array.toArray_toList (xs := ats), ht]
    subst ex et
    obtain ⟨A, X, hA, hX, hR, hk, hf⟩ := tyK_iff hT hf3
    obtain ⟨s, hs, hf⟩ := fO_iff hf
    obtain ⟨hsy, hf⟩ := fT_iff hf
    obtain ⟨A1, c1, _, hC, _, rfl⟩ := asL_iff hs hu
    have hsy' : s.sym = none := by simpa using hsy
    rw [hsy'] at hC
    simp [gC] at hC; subst hC
    have hu4 := und_plain T hX (hR.d4 hk) rfl
    refine qs_of hf (gv_i _ _ _) (doesQ_of (fun ρ w hρ => ?_) rfl)
    simp [execOp, resolve, invoke, builtin, hρ _ _ hxr, Builtin.cap_, run_underlying hu4, goInt]
  | max =>
    obtain ⟨x, y, k, m, n, rfl, hx, hy, hc⟩ := hmm imax hf
    refine qs_of hc (gv_i _ _ _) (doesQ_of (fun ρ w hρ => ?_) rfl)
    simp [execOp, resolve, invoke, builtin, hρ _ _ hx, hρ _ _ hy, Builtin.max_, Builtin.max2, imax, br_eq, iLt_eq]
  | min =>
    obtain ⟨x, y, k, m, n, rfl, hx, hy, hc⟩ := hmm imin hf
    refine qs_of hc (gv_i _ _ _) (doesQ_of (fun ρ w hρ => ?_) rfl)
    simp [execOp, resolve, invoke, builtin, hρ _ _ hx, hρ _ _ hy, Builtin.min_, Builtin.min2, imin, br_eq, iLt_eq]
  | _ => cases hf
end
end Go.Ev
