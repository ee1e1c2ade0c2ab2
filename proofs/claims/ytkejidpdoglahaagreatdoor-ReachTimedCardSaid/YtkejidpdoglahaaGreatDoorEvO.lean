/- Operations that only read, continued: fields, elements, slices. Conditions: none. -/
import Derived.Test.YtkejidpdoglahaaGreatDoorEvP
namespace Go.Ev
open Go.Lx Go.RowKit

section
variable {P : Program} {cx : Cx} {tT : TT} {T : Tab P} {fz : FZ}

theorem add_iff {a : Nat × Nat} {n : Nat} {c : Nat × Nat → Bool} (h : add_ a n c = true) : c (a.1, a.2 + n) = true := by unfold add_ at h; rwa [fN_eq] at h
theorem gv_ptr {ν : Nu} {id off b : Nat} (h : ν.blk id = some b) : gv ν (.p (some (id, off))) = some (.pointer (some ⟨b, off, none⟩)) := by simp [gv, gA, h]

theorem field_of {fs : Array Field} {l : List (Nat × Nat)} {i : Nat} {q : Nat × Nat} (h : fs.toList.map (fun f => (f.type, f.offset)) = l) (hi : at_ l i = some q) : ∃ f, fs[i]? = some f ∧ f.type = q.1 ∧ f.offset = q.2 := by
  have := at_iff hi
  rw [← h, List.getElem?_map] at this
  cases hf : fs.toList[i]? with
  | none => simp [hf] at this
  | some f =>
    simp [hf] at this
    subst this
    exact ⟨f, by simpa using hf, rfl, rfl⟩
theorem s_fa (hT : TA tT T) (t : TypeId) (x : Operand) (i : Nat) : QS P cx tT fz (qFA t x i) (.fieldAddr t x i) := fun ν ar r h H Fm c dst ty pos af gd hr hh hf => by
  obtain ⟨A, X, hA, hX, hR, hk, hf⟩ := tyK_iff hT hf
  obtain ⟨a, ha, hf⟩ := fO_iff hf
  obtain ⟨p, hp, hf⟩ := fO_iff hf
  obtain ⟨q, hq, hf⟩ := fO_iff hf
  obtain ⟨Y, hY, hf⟩ := fO_iff hf
  obtain ⟨u, h1, h2⟩ := hr x a ha
  obtain ⟨b, hb, rfl⟩ := asP_iff hp h1
  obtain ⟨fs, hd, hfs⟩ := hR.d9 hk
  obtain ⟨f, hf1, hf2, hf3⟩ := field_of hfs hq
  obtain ⟨Z, hZ, hRZ⟩ := hT q.1 Y hY
  cases hz : Nat.beq Y.size 0 with
  | true => rw [hz] at hf; cases hf
  | false =>
    rw [hz, br_false] at hf
    exact qs_of (add_iff hf) (gv_ptr hb) (q_fieldAddr T hX hd hf1 (by rw [hf2]; exact hZ) (by rw [hRZ.size]; exact hz) h2 (by rw [addr_add, hf3]))

/-- a part of a value in cells -/
theorem prt_s (hT : TA tT T) {ν : Nu} {t : TypeId} {cs : List AV} {vs : List Value} {off : Nat} {c : QC} (hv : gvs ν cs = some vs) (h : prt tT t cs off c = true) :
    ∃ av v, c av = true ∧ gv ν av = some v ∧ ∀ w, (part t vs.toArray off).run P w = .ok v w := by
  obtain ⟨Y, hY, h⟩ := fO_iff h
  obtain ⟨X, hX, hR⟩ := hT t Y hY
  cases hag : Y.agg with
  | false =>
    rw [hag] at h
    obtain ⟨z, hz, hc⟩ := fO_iff h
    obtain ⟨v, h3, h4⟩ := gvs_get hv (at_iff hz)
    refine ⟨z, v, hc, h4, fun w => ?_⟩
    have := run_isAgg T hX w
    rw [hR.agg, hag] at this
    simp [part, this, h3]
  | true =>
    rw [hag] at h
    obtain ⟨q, hq, h⟩ := fO_iff h
    rw [fL_eq] at h
    obtain ⟨h3, h4⟩ := gvs_part hv hq
    refine ⟨.agg q, .agg ((vs.drop off).take Y.size).toArray, h, by simp [gv, h4], fun w => ?_⟩
    have h5 := run_isAgg T hX w
    rw [hR.agg, hag] at h5
    have h6 := Go.Lx.run_sizeOf T hX w
    rw [hR.size] at h6
    simp only [part, Sem.run_bind, h5, Result.andThen_ok, if_true, h6, Sem.run_pure]
    congr 2
    simp
theorem s_fld (hT : TA tT T) (t : TypeId) (x : Operand) (i : Nat) : QS P cx tT fz (qFld t x i) (.field t x i) := fun ν ar r h H Fm c dst ty pos af gd hr hh hf => by
  obtain ⟨A, X, hA, hX, hR, hk, hf⟩ := tyK_iff hT hf
  obtain ⟨a, ha, hf⟩ := fO_iff hf
  obtain ⟨cs, hcs, hf⟩ := fO_iff hf
  obtain ⟨q, hq, hf⟩ := fO_iff hf
  obtain ⟨u, h1, h2⟩ := hr x a ha
  obtain ⟨vs, hvs, rfl⟩ := asA_iff hcs h1
  obtain ⟨fs, hd, hfs⟩ := hR.d9 hk
  obtain ⟨fs', hu', hs'⟩ := und_struct T hX hd
  obtain ⟨f, hf1, hf2, hf3⟩ := field_of hfs hq
  obtain ⟨av, v, hc, hg, hrun⟩ := prt_s (P := P) hT hvs hf
  refine qs_of hc hg (doesQ_of (fun ρ w hr => ?_) rfl)
  subst hs'
  rw [Array.getElem?_map] at hf1
  cases hf' : fs'[i]? with
  | none => simp [hf'] at hf1
  | some f' =>
    simp [hf', strip] at hf1
    subst hf1
    simp only [fld] at hf2 hf3
    simp only [execOp, hr _ _ h2, Instr.field, Sem.run_bind, run_underlying hu' w, Result.andThen_ok, hf', asAgg, Sem.run_pure, hf2, hf3, hrun w]

theorem s_ixa (hT : TA tT T) (t : TypeId) (x i : Operand) : QS P cx tT fz (qIxA t x i) (.indexAddr t x i) := fun ν ar r h H Fm c dst ty pos af gd hr hh hf => by
  obtain ⟨a, ha, hf⟩ := fO_iff hf
  obtain ⟨j, hj, hf⟩ := fO_iff hf
  obtain ⟨n, hn, hf⟩ := fO_iff hf
  obtain ⟨A, hA, hf⟩ := fO_iff hf
  obtain ⟨Y, hY, hf⟩ := fO_iff hf
  obtain ⟨u, h1, h2⟩ := hr x a ha
  obtain ⟨ju, h3, h4⟩ := hr i j hj
  obtain ⟨k, rfl⟩ := asN_iff hn h3
  obtain ⟨X, hX, hR⟩ := hT t A hA
  obtain ⟨Z, hZ, hRZ⟩ := hT A.e Y hY
  cases hk : Nat.beq A.k 4 with
  | true =>
    rw [hk] at hf
    obtain ⟨s, hs, hf⟩ := fO_iff hf
    obtain ⟨q, hq, hf⟩ := fO_iff hf
    obtain ⟨hlt, hf⟩ := fT_iff hf
    obtain ⟨A1, c1, hA1, _, _, rfl⟩ := asL_iff hs h1
    rw [hq] at hA1
    simp only [gA] at hA1
    cases hb : ν.blk q.1 with
    | none => simp [hb] at hA1
    | some b =>
      simp [hb] at hA1; subst hA1
      rw [Nat.blt_eq] at hlt
      refine qs_of (add_iff hf) (gv_ptr hb) (q_indexAddr T hX (hR.d4 (Nat.eq_of_beq_eq_true hk)) hZ h2 h4 (by omega) (by omega) ?_)
      rw [addr_add, hRZ.size]; simp
  | false =>
    rw [hk] at hf
    obtain ⟨hk5, hf⟩ := fT_iff hf
    obtain ⟨q, hq, hf⟩ := fO_iff hf
    obtain ⟨hlt, hf⟩ := fT_iff hf
    obtain ⟨b, hb, rfl⟩ := asP_iff hq h1
    rw [Nat.blt_eq] at hlt
    have hu := und_plain T hX (hR.d5 (Nat.eq_of_beq_eq_true hk5)) rfl
    refine qs_of (add_iff hf) (gv_ptr hb) (doesQ_of (fun ρ w hr => ?_) rfl)
    have hs := Go.Lx.run_sizeOf T hZ w
    rw [hRZ.size] at hs
    simp [execOp, hr _ _ h2, hr _ _ h4, Instr.indexAt, asIntOf, run_underlying hu, hs, Instr.sureAddr, hlt, addr_add]

theorem bs_get {l : List Nat} {n z : Nat} (h : l[n]? = some z) : (bs l)[n]? = some (UInt8.ofNat z) := by
  have : (bs l).data[n]? = some (UInt8.ofNat z) := by
    show ((l.map UInt8.ofNat).toArray)[n]? = _
    rw [List.getElem?_toArray, List.getElem?_map, h]; rfl
  have hlt : n < (bs l).size := by rw [bs_size]; exact (List.getElem?_eq_some_iff.1 h).1
  rw [getElem?_pos (bs l) n hlt]
  have hlt2 : n < (bs l).data.size := hlt
  rw [Array.getElem?_eq_getElem hlt2] at this
  exact this
theorem s_idx (hT : TA tT T) (t : TypeId) (x i : Operand) : QS P cx tT fz (qIdx t x i) (.index t x i) := fun ν ar r h H Fm c dst ty pos af gd hr hh hf => by
  obtain ⟨A, hA, hf⟩ := fO_iff hf
  obtain ⟨j, hj, hf⟩ := fO_iff hf
  obtain ⟨n, hn, hf⟩ := fO_iff hf
  obtain ⟨a, ha, hf⟩ := fO_iff hf
  obtain ⟨u, h1, h2⟩ := hr x a ha
  obtain ⟨ju, h3, h4⟩ := hr i j hj
  obtain ⟨k, rfl⟩ := asN_iff hn h3
  obtain ⟨X, hX, hR⟩ := hT t A hA
  cases hk : Nat.beq A.k 2 with
  | true =>
    rw [hk] at hf
    obtain ⟨s, hs, hf⟩ := fO_iff hf
    obtain ⟨z, hz, hf⟩ := fO_iff hf
    obtain ⟨rfl, hall⟩ := asS_iff hs h1
    have hz' := at_iff hz
    have hzlt : z < 256 := by
      have := List.all_eq_true.1 hall z (List.mem_of_getElem? hz')
      simpa [Nat.blt_eq] using this
    refine qs_of hf (gv_i _ _ _) (q_index_string T hX (hR.d2 (Nat.eq_of_beq_eq_true hk)) h2 h4 (by omega) (b := UInt8.ofNat z) (by simpa using bs_get hz') ?_)
    simp; omega
  | false =>
    rw [hk] at hf
    obtain ⟨hk5, hf⟩ := fT_iff hf
    obtain ⟨cs, hcs, hf⟩ := fO_iff hf
    obtain ⟨Y, hY, hf⟩ := fO_iff hf
    obtain ⟨hlt, hf⟩ := fT_iff hf
    obtain ⟨vs, hvs, rfl⟩ := asA_iff hcs h1
    obtain ⟨Z, hZ, hRZ⟩ := hT A.e Y hY
    rw [Nat.blt_eq] at hlt
    have hu := und_plain T hX (hR.d5 (Nat.eq_of_beq_eq_true hk5)) rfl
    obtain ⟨av, v, hc, hg, hrun⟩ := prt_s (P := P) hT hvs hf
    refine qs_of hc hg (doesQ_of (fun ρ w hr => ?_) rfl)
    have hs := Go.Lx.run_sizeOf T hZ w
    rw [hRZ.size] at hs
    simp only [execOp, hr _ _ h2, hr _ _ h4, Instr.index, asIntOf, Sem.run_bind, Sem.run_pure, Result.andThen_ok, run_underlying hu w]
    have hc2 : (0 : Int) ≤ (n : Int) ∧ (n : Int) < (A.n : Int) := ⟨by omega, by omega⟩
    rw [if_pos hc2]
    simp only [Sem.run_bind, hs, Result.andThen_ok, Int.toNat_natCast]
    have := hrun w
    rw [show Nat.mul n Y.size = n * Y.size from rfl] at this
    rw [this]
    simp
end
end Go.Ev
