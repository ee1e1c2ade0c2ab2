/- Operations that only read, continued: values built of parts, type assertions, built-in functions, conversions. Conditions: none. -/
import Derived.Test.YtkejidpdoglahaaGreatDoorEvN
namespace Go.Ev
open Go.Lx Go.RowKit

section
variable {P : Program} {cx : Cx} {tT : TT} {T : Tab P} {fz : FZ}

/-! ### zero values -/
theorem zeroV_s {X : Ty} {A : TyA} (hR : TR X A) {ν : Nu} {c : QC} (h : zeroV A c = true) : ∃ av, c av = true ∧ gv ν av = some X.zero := by
  unfold zeroV at h
  cases hag : A.agg with
  | true =>
    rw [hag, br_true] at h
    obtain ⟨zs, hz, hzc⟩ := hR.zero
    obtain ⟨cs, hcs⟩ := hR.zagg hag
    refine ⟨_, h, ?_⟩
    simp only [gv, hz ν, Option.map_some]
    rw [hcs] at hzc ⊢
    simp only [Value.cells] at hzc
    rw [hzc]
  | false =>
    rw [hag, br_false] at h
    obtain ⟨z, hz, hg⟩ := hR.zone hag
    rw [hz] at h
    exact ⟨z, h, hg ν⟩

/-! ### values built of parts -/
theorem wrL_mk : ∀ (vs : List Value) (off : Nat) (q : List Value), off + q.length ≤ vs.length → wrL vs off q = some (vs.take off ++ q ++ vs.drop (off + q.length))
  | [], off, q, h => by
    simp at h
    obtain ⟨h1, h2⟩ := h
    subst h1 h2
    simp [wrL]
  | v :: vs, 0, [], _ => by simp [wrL]
  | v :: vs, 0, a :: q, h => by
    simp at h
    simp only [wrL, wrL_mk vs 0 q (by omega)]
    simp
  | v :: vs, off + 1, q, h => by
    simp at h
    simp only [wrL, wrL_mk vs off q (by omega)]
    rw [show off + 1 + q.length = (off + q.length) + 1 from by omega]
    simp
theorem fill_s {ν : Nu} {place : Nat → Option (Nat × Nat)} : ∀ {ps : List (Nat × AV)} {us : List (Nat × Value)} {cells cs : List AV} {vs : List Value}, ps.map Prod.fst = us.map Prod.fst → gvs ν (ps.map Prod.snd) = some (us.map Prod.snd) → gvs ν cells = some vs → fill_ place cells ps = some cs →
    ∃ ws, gvs ν cs = some ws ∧ fillL place vs us = some ws
  | [], [], cells, cs, vs, _, _, hv, h => by
    injection h with h; subst h; exact ⟨vs, hv, rfl⟩
  | [], _ :: _, _, _, _, h, _, _, _ => by simp at h
  | _ :: _, [], _, _, _, h, _, _, _ => by simp at h
  | q :: ps, (i, u) :: us, cells, cs, vs, h1, h2, hv, h => by
    simp only [List.map_cons, List.cons.injEq] at h1
    simp only [List.map_cons] at h2
    obtain ⟨x, l, hx, hl, he⟩ := gvs_cons h2
    simp only [List.cons.injEq] at he
    obtain ⟨rfl, rfl⟩ := he
    simp only [fill_] at h
    obtain ⟨z, hz, h⟩ := oB_iff h
    obtain ⟨hb, h⟩ := oT_iff h
    obtain ⟨c1, hc1, h⟩ := oB_iff h
    have hcells := gv_cells hx
    obtain ⟨g1, g2⟩ := gvs_wr hv hcells hc1
    obtain ⟨ws, g3, g4⟩ := fill_s h1.2 hl g2 h
    refine ⟨ws, g3, ?_⟩
    obtain ⟨off, size⟩ := z
    simp only [fillL]
    rw [← h1.1, hz]
    simp only
    have hlen := gvs_len hcells
    rw [hlen, hb]
    simp only
    have hwr := wrL_mk vs off u.cells.toList g1
    rw [hwr]
    exact g4
theorem zip_fst : ∀ (ps : List (Nat × Operand)) (l : List AV), l.length = ps.length → (zip_ ps l).map Prod.fst = ps.map Prod.fst ∧ (zip_ ps l).map Prod.snd = l
  | [], [], _ => ⟨rfl, rfl⟩
  | [], _ :: _, h => by simp at h
  | _ :: _, [], h => by simp at h
  | q :: ps, v :: l, h => by
    obtain ⟨h1, h2⟩ := zip_fst ps l (by simpa using h)
    simp [zip_, h1, h2]
theorem rdos_len {ar : RD} : ∀ {xs : List Operand} {l : List AV}, rdos ar xs = some l → l.length = xs.length
  | [], l, h => by injection h with h; subst h; rfl
  | x :: xs, l, h => by
    obtain ⟨a, _, h⟩ := oB_iff h
    obtain ⟨q, hq, h⟩ := oB_iff h
    injection h with h; subst h
    simp [rdos_len hq]
theorem zipV_fst : ∀ (ps : List Nat) (l : List Value), l.length = ps.length → (ps.zip l).map Prod.fst = ps ∧ (ps.zip l).map Prod.snd = l
  | [], [], _ => ⟨rfl, rfl⟩
  | [], _ :: _, h => by simp at h
  | _ :: _, [], h => by simp at h
  | q :: ps, v :: l, h => by
    obtain ⟨h1, h2⟩ := zipV_fst ps l (by simpa using h)
    simp [h1, h2]
theorem plc_s (hT : TA tT T) : ∀ {fs : List Field} {l : List (Nat × Nat)}, plc tT (fs.map fun f => (f.type, f.offset)) = some l → places T fs = some l
  | [], l, h => by injection h with h; subst h; rfl
  | f :: r, l, h => by
    simp only [List.map_cons, plc] at h
    obtain ⟨Y, hY, h⟩ := oB_iff h
    obtain ⟨q, hq, h⟩ := oB_iff h
    injection h with h; subst h
    obtain ⟨X, hX, hR⟩ := hT f.type Y hY
    simp only [places, hX, plc_s hT hq, hR.size]
theorem at_fun {l : List (Nat × Nat)} : (fun i => l[i]?) = at_ l := by
  funext i
  induction l generalizing i with
  | nil => simp [at_]
  | cons x r ih =>
    cases i with
    | zero => simp [at_]
    | succ i => simpa [at_] using ih i
theorem s_bld (hT : TA tT T) (t : TypeId) (ps : Array (Nat × Operand)) : QS P cx tT fz (qBld t ps.toList) (.build t ps) := fun ν ar r h H Fm c dst ty pos af gd hr hh hf => by
  obtain ⟨A, hA, hf⟩ := fO_iff hf
  obtain ⟨vs, hvs, hf⟩ := fO_iff hf
  obtain ⟨X, hX, hR⟩ := hT t A hA
  obtain ⟨us, h1, h2⟩ := hr.all hvs
  have hlen : vs.length = ps.toList.length := by rw [rdos_len hvs]; simp
  have hlen' : us.length = (ps.toList.map (·.1)).length := by rw [gvs_len h1, hlen]; simp
  obtain ⟨e1, e2⟩ := zip_fst ps.toList vs hlen
  obtain ⟨e3, e4⟩ := zipV_fst (ps.toList.map (·.1)) us hlen'
  obtain ⟨zs, hz, hzc⟩ := hR.zero
  have hzl : X.zero.cells.toList = zs := by rw [hzc]
  cases hk : Nat.beq A.k 9 with
  | true =>
    rw [hk, br_true] at hf
    obtain ⟨pl, hpl, hf⟩ := fO_iff hf
    obtain ⟨cs, hcs, hf⟩ := fO_iff hf
    rw [fL_eq] at hf
    obtain ⟨fs, hd, hfs⟩ := hR.d9 (Nat.eq_of_beq_eq_true hk)
    rw [← hfs] at hpl
    obtain ⟨ws, g1, g2⟩ := fill_s (us := (ps.toList.map (·.1)).zip us) (by rw [e1, e3]) (by rw [e2, e4]; exact h1) (hz ν) hcs
    refine qs_of hf (v := .agg ws.toArray) (by simp [gv, g1]) ?_
    have := q_build T (ps := ps.toList) (dst := dst) (ty := ty) (pos := pos) (af := af) (gd := gd) (cx := cx) (fz := fz) (H := H) hX hd (plc_s hT hpl) h2 (by rw [at_fun, hzl]; exact g2) (V := fun u => u = .agg ws.toArray) rfl
    simpa using this
  | false =>
    rw [hk, br_false] at hf
    obtain ⟨hk5, hf⟩ := fT_iff hf
    obtain ⟨Y, hY, hf⟩ := fO_iff hf
    obtain ⟨cs, hcs, hf⟩ := fO_iff hf
    rw [fL_eq] at hf
    obtain ⟨Z, hZ, hRZ⟩ := hT A.e Y hY
    obtain ⟨ws, g1, g2⟩ := fill_s (us := (ps.toList.map (·.1)).zip us) (by rw [e1, e3]) (by rw [e2, e4]; exact h1) (hz ν) hcs
    have hu := und_plain T hX (hR.d5 (Nat.eq_of_beq_eq_true hk5)) rfl
    refine qs_of hf (v := .agg ws.toArray) (by simp [gv, g1]) (doesQ_of (fun ρ w hρ => ?_) rfl)
    have hz' := run_zero T hX w
    have hs := Go.Lx.run_sizeOf T hZ w
    rw [hRZ.size] at hs
    have hps' : (ps.map fun x => match x with | (i, x) => (i, ρ x)).toList = (ps.toList.map (·.1)).zip us := by
      rw [← reads_parts hρ ps.toList us h2]; simp
    have hc' : Instr.fill (fun i => some (i * Y.size, Y.size)) X.zero.cells ((ps.toList.map (·.1)).zip us) = some ws.toArray := by
      have := fill_eq _ _ _ g2
      rw [hzc]
      exact this
    simp only [execOp, Instr.build, Sem.run_bind, hz', Result.andThen_ok, run_underlying hu w, hs, hps', hc', Sem.run_pure]

theorem s_ta (hT : TA tT T) (x : Operand) (t' t : TypeId) (ok : Bool) : QS P cx tT fz (qTA x t ok) (.typeAssert x t' t ok) := fun ν ar r h H Fm c dst ty pos af gd hr hh hf => by
  obtain ⟨A, hA, hf⟩ := fO_iff hf
  obtain ⟨X, hX, hR⟩ := hT t A hA
  cases hk : Nat.beq A.k 7 with
  | true => rw [hk] at hf; cases hf
  | false =>
    rw [hk, br_false] at hf
    obtain ⟨a, ha, hf⟩ := fO_iff hf
    obtain ⟨u, h1, h2⟩ := hr x a ha
    have hnif := hR.nif (fun he => by rw [he] at hk; cases hk)
    obtain ⟨d, hu, hi⟩ := und_any T hX
    rw [hnif] at hi
    cases a with
    | ni =>
      simp only [gv] at h1; injection h1 with h1; subst h1
      obtain ⟨hok, hf⟩ := fT_iff hf
      subst hok
      obtain ⟨av, hc, hg⟩ := zeroV_s hR (ν := ν) hf
      refine qs_of hc (v := .tuple #[X.zero, .bool false]) (by simp [gv, gvs, hg]) (doesQ_of (fun ρ w hρ => ?_) rfl)
      have hz := run_zero T hX w
      simp only [execOp, hρ _ _ h2, Instr.typeAssert, Sem.run_bind, run_underlying hu, Result.andThen_ok]
      cases d <;> simp_all [isIfaceD]
    | ifc v2 vv =>
      simp only [gv] at h1
      cases hv : gv ν vv with
      | none => simp [hv] at h1
      | some V =>
        simp [hv] at h1; subst h1
        cases hb : Nat.beq v2 t with
        | true =>
          have e := Nat.eq_of_beq_eq_true hb
          subst e
          have hf' : okv ok true vv c = true := by
            have : br (fT ok (zeroV A fun z => c (.tup [z, .b false]))) (okv ok true vv c) (Nat.beq v2 v2) = true := hf
            rw [hb, br_true] at this
            exact this
          cases ok with
          | true =>
            refine qs_of hf' (v := .tuple #[V, .bool true]) (by simp [gv, gvs, hv]) (doesQ_of (fun ρ w hρ => ?_) rfl)
            simp only [execOp, hρ _ _ h2, Instr.typeAssert, Sem.run_bind, run_underlying hu, Result.andThen_ok]
            cases d <;> simp_all [isIfaceD]
          | false =>
            refine qs_of hf' hv (doesQ_of (fun ρ w hρ => ?_) rfl)
            simp only [execOp, hρ _ _ h2, Instr.typeAssert, Sem.run_bind, run_underlying hu, Result.andThen_ok]
            cases d <;> simp_all [isIfaceD]
        | false =>
          have hf' : fT ok (zeroV A fun z => c (.tup [z, .b false])) = true := by
            have : br (fT ok (zeroV A fun z => c (.tup [z, .b false]))) (okv ok true vv c) (Nat.beq v2 t) = true := hf
            rw [hb, br_false] at this
            exact this
          obtain ⟨hok, hf'⟩ := fT_iff hf'
          subst hok
          have hne : v2 ≠ t := fun he => by rw [he, Nat.beq_refl] at hb; cases hb
          obtain ⟨av, hc, hg⟩ := zeroV_s hR (ν := ν) hf'
          refine qs_of hc (v := .tuple #[X.zero, .bool false]) (by simp [gv, gvs, hg]) (doesQ_of (fun ρ w hρ => ?_) rfl)
          have hz := run_zero T hX w
          simp only [execOp, hρ _ _ h2, Instr.typeAssert, Sem.run_bind, run_underlying hu, Result.andThen_ok]
          cases d <;> simp_all [isIfaceD]
    | _ => cases hf
end
end Go.Ev
