/- Allocations: new variables, boxes, slices and maps. Conditions: none. -/
import Derived.Test.YtkejidpdoglahaaGreatDoorEvH
namespace Go.Ev
open Go.Lx Go.RowKit

section
variable {P : Program} {cx : Cx} {tT : TT} {T : Tab P} {fz : FZ}

def Mk.real : Mk → Nat → Value
  | .ptr, g => .pointer (some ⟨g, 0, none⟩)
  | .sl n q, g => .slice (some ⟨g, 0, none⟩) n q
  | .map, g => .map (some g)
def Mk.ok : Mk → Prop
  | .sl n q => n ≤ q
  | _ => True
theorem Mk.gv_of {mk : Mk} (h : mk.ok) {ν : Nu} {i g : Nat} (hb : ν.blk i = some g) : gv ν (mk.of i) = some (mk.real g) := by
  cases mk with
  | ptr => simp [Mk.of, Mk.real, gv, gA, hb]
  | sl n q =>
    have h' : n ≤ q := h
    simp only [Mk.of, Mk.real, gv, gA, hb, gC, Option.map_some]
    rw [if_pos h']
  | map => simp [Mk.of, Mk.real, gv, gM, hb]
def NoSl (ao : AO) : Prop := ∀ cs e j fr, ao ≠ .cells cs e (some j) fr
theorem noSl {cs : List AV} {e : Nat} {fr : Bool} : NoSl (.cells cs e none fr) := fun _ _ _ _ h => by cases h
/-- an allocation whose block is known -/
def LS (P : Program) (tT : TT) (f : LF) (op : Op) : Prop := ∀ (ν : Nu) (ar : RD) (r : Operand → Option Value) (ao : AO) (mk : Mk), RR ν ar r → f tT ar = some (ao, mk) →
  mk.ok ∧ NoSl ao ∧ ∃ x, go ν ao = some x ∧ ∀ (dst : Option Nat) (ty : TypeId) (pos : String) (af : Array Edge) (gd : Option (Nat × Bool)) ρ w, Reads r ρ → (execOp ρ ⟨dst, op, ty, pos, af, gd⟩).run P w = .ok (.value (mk.real w.heap.size)) (w.alloc x)
theorem go_cells {ν : Nu} {cs : List AV} {vs : List Value} {e : Nat} (h : gvs ν cs = some vs) : go ν (.cells cs e none false) = some (.cells vs.toArray e (0, 0)) := by
  simp [go, h, gS, frz]

theorem l_alloc (hT : TA tT T) (t : TypeId) : LS P tT (floA t) (.alloc t) := fun ν ar r ao mk hr hf => by
  obtain ⟨A, hA, hf⟩ := oB_iff hf
  obtain ⟨_, hf⟩ := oT_iff hf
  injection hf with hf
  injection hf with h1 h2
  subst h1 h2
  obtain ⟨X, hX, hR⟩ := hT t A hA
  obtain ⟨zs, hz, hzc⟩ := hR.zero
  refine ⟨trivial, noSl, _, go_cells (hz ν), fun dst ty pos af gd ρ w hρ => ?_⟩
  have := run_zero T hX w
  simp [execOp, Instr.alloc, this, newVar, newRow, newObj, Sem.run, hzc, Mk.real]
theorem l_box (t : TypeId) (x : Operand) : LS P tT (floB t x) (.box t x) := fun ν ar r ao mk hr hf => by
  obtain ⟨a, ha, hf⟩ := oB_iff hf
  obtain ⟨_, hf⟩ := oT_iff hf
  injection hf with hf
  injection hf with h1 h2
  subst h1 h2
  obtain ⟨v, h1, h2⟩ := hr x a ha
  refine ⟨trivial, noSl, _, go_cells (gv_cells h1), fun dst ty pos af gd ρ w hρ => ?_⟩
  simp [execOp, Instr.box, hρ _ _ h2, newVar, newRow, newObj, Sem.run, Mk.real]
theorem l_map (t : TypeId) : LS P tT floE (.makeMap t none) := fun ν ar r ao mk hr hf => by
  injection hf with hf
  injection hf with h1 h2
  subst h1 h2
  refine ⟨trivial, (fun _ _ _ _ h => by cases h), .map #[] 0, by simp [go, ges], fun dst ty pos af gd ρ w hρ => ?_⟩
  simp [execOp, Instr.makeMap, newObj, Sem.run, Mk.real]
theorem rep_s {ν : Nu} {z : List AV} {zs : List Value} (h : gvs ν z = some zs) : ∀ n, gvs ν (rep z n) = some (repZ zs n)
  | 0 => by simp [rep, repZ, gvs]
  | n + 1 => by
    simp only [rep, repZ]
    exact gvs_append h (rep_s h n)
theorem repZ_arr {z : Array Value} {zs : List Value} {n size : Nat} (hz : z = zs.toArray) (hs : zs.length = size) : (Array.range (n * size)).map ((if n * size = 0 then #[] else z)[· % (if n * size = 0 then #[] else z).size]!) = (repZ zs n).toArray := by
  by_cases h0 : n * size = 0
  · have hl : (repZ zs n).length = 0 := by rw [repZ_len, hs]; exact h0
    have : repZ zs n = [] := List.eq_nil_of_length_eq_zero hl
    rw [this, h0]
    simp
  · simp only [if_neg h0]
    have := repZ_eq z n size (by rw [hz]; simpa using hs)
    rw [this, hz]
theorem l_slice (hT : TA tT T) (t : TypeId) (len : Nat) (ps : Array (Nat × Operand)) : LS P tT (floS t len ps.toList) (.buildSlice t len ps) := fun ν ar r ao mk hr hf => by
  obtain ⟨A, hA, hf⟩ := oB_iff hf
  obtain ⟨hk, hf⟩ := oT_iff hf
  obtain ⟨Y, hY, hf⟩ := oB_iff hf
  obtain ⟨vs, hvs, hf⟩ := oB_iff hf
  obtain ⟨hb, hf⟩ := oT_iff hf
  obtain ⟨cs, hcs, hf⟩ := oB_iff hf
  obtain ⟨_, hf⟩ := oT_iff hf
  injection hf with hf
  injection hf with e1 e2
  subst e1 e2
  simp only [Bool.and_eq_true, Nat.ble_eq] at hb
  obtain ⟨X, hX, hR⟩ := hT t A hA
  obtain ⟨Z, hZ, hRZ⟩ := hT A.e Y hY
  obtain ⟨us, h1, h2⟩ := hr.all hvs
  have hlen : vs.length = ps.toList.length := by rw [rdos_len hvs]; simp
  have hlen' : us.length = (ps.toList.map (·.1)).length := by rw [gvs_len h1, hlen]; simp
  obtain ⟨e1, e2⟩ := zip_fst ps.toList vs hlen
  obtain ⟨e3, e4⟩ := zipV_fst (ps.toList.map (·.1)) us hlen'
  obtain ⟨zs, hz, hzc⟩ := hRZ.zero
  obtain ⟨ws, g1, g2⟩ := fill_s (us := (ps.toList.map (·.1)).zip us) (by rw [e1, e3]) (by rw [e2, e4]; exact h1) (rep_s (hz ν) len) hcs
  refine ⟨Nat.le_refl _, noSl, _, go_cells g1, fun dst ty pos af gd ρ w hρ => ?_⟩
  have hu := und_plain T hX (hR.d4 (Nat.eq_of_beq_eq_true hk)) rfl
  have hsz := Go.Lx.run_sizeOf T hZ w
  rw [hRZ.size] at hsz
  have hzr := run_zero T hZ w
  have hl' : ¬ len * Y.size > 2 ^ 24 := by have := hb.1; simp only [Nat.mul_eq] at this; omega
  have hzl : zs.length = Y.size := by rw [gvs_len (hz ν)]; exact Nat.eq_of_beq_eq_true hb.2
  have hps' : (ps.map fun x => match x with | (i, x) => (i, ρ x)).toList = (ps.toList.map (·.1)).zip us := by
    rw [← reads_parts hρ ps.toList us h2]; simp
  have hc' : Instr.fill (fun i => some (i * Y.size, Y.size)) ((Array.range (len * Y.size)).map ((if len * Y.size = 0 then #[] else Z.zero.cells)[· % (if len * Y.size = 0 then #[] else Z.zero.cells).size]!)) ((ps.toList.map (·.1)).zip us) = some ws.toArray := by
    rw [repZ_arr hzc hzl]
    exact fill_eq _ _ _ g2
  by_cases h0 : len * Y.size = 0
  · rw [if_pos h0] at hc'
    simp only [execOp, Instr.buildSlice, Sem.run_bind, run_underlying hu w, Result.andThen_ok, hsz, if_neg hl', if_pos h0, Sem.run_pure, hps', hc', newRow, newObj, Sem.run]
    rfl
  · rw [if_neg h0] at hc'
    simp only [execOp, Instr.buildSlice, Sem.run_bind, run_underlying hu w, Result.andThen_ok, hsz, if_neg hl', if_neg h0, Sem.run_pure, hzr, hps', hc', newRow, newObj, Sem.run]
    rfl
theorem l_make (hT : TA tT T) (t : TypeId) (l q : Operand) : LS P tT (floM t l q) (.makeSlice t l q) := fun ν ar r ao mk hr hf => by
  obtain ⟨A, hA, hf⟩ := oB_iff hf
  obtain ⟨hk, hf⟩ := oT_iff hf
  obtain ⟨Y, hY, hf⟩ := oB_iff hf
  obtain ⟨al, hal, hf⟩ := oB_iff hf
  obtain ⟨nl, hnl, hf⟩ := oB_iff hf
  obtain ⟨aq, haq, hf⟩ := oB_iff hf
  obtain ⟨nq, hnq, hf⟩ := oB_iff hf
  obtain ⟨hb, hf⟩ := oT_iff hf
  injection hf with hf
  injection hf with e1 e2
  subst e1 e2
  simp only [Bool.and_eq_true, Nat.ble_eq, Nat.blt_eq] at hb
  obtain ⟨hb1, hb2, hb3, _⟩ := hb
  obtain ⟨X, hX, hR⟩ := hT t A hA
  obtain ⟨Z, hZ, hRZ⟩ := hT A.e Y hY
  obtain ⟨ul, g1, g2⟩ := hr l al hal
  obtain ⟨uq, g3, g4⟩ := hr q aq haq
  obtain ⟨k1, rfl⟩ := asN_iff hnl g1
  obtain ⟨k2, rfl⟩ := asN_iff hnq g3
  obtain ⟨zs, hz, hzc⟩ := hRZ.zero
  have hzl : zs.length = Y.size := by rw [gvs_len (hz ν)]; exact Nat.eq_of_beq_eq_true hb3
  refine ⟨hb1, noSl, _, go_cells (rep_s (hz ν) nq), fun dst ty pos af gd ρ w hρ => ?_⟩
  have hu := und_plain T hX (hR.d4 (Nat.eq_of_beq_eq_true hk)) rfl
  have hsz := Go.Lx.run_sizeOf T hZ w
  rw [hRZ.size] at hsz
  have hzr := run_zero T hZ w
  obtain ⟨inf, hi, i1, i2, i3⟩ := (T.ok_ hZ).info
  have hbb : inf.bytes = Y.bytes := by rw [i2, hRZ.bytes]
  have hmul : nq * (Y.bytes + 1) < 1099511627776 := hb2
  have hq2 : nq * Y.bytes ≤ nq * (Y.bytes + 1) := Nat.mul_le_mul_left _ (by omega)
  have hq3 : nq ≤ nq * (Y.bytes + 1) := by rw [Nat.mul_add]; omega
  have hwq : IntKind.i64.wrap (nq : Int) = nq := wrap_in (by simp [inK, kHi, Nat.blt_eq]; omega)
  have hwl : IntKind.i64.wrap (nl : Int) = nl := wrap_in (by simp [inK, kHi, Nat.blt_eq]; omega)
  have hcomm : Y.bytes * nq = nq * Y.bytes := Nat.mul_comm _ _
  have hti : (typeInfo A.e).run P w = .ok inf w := by simp [typeInfo, hi]
  have hrow := repZ_arr (n := nq) hzc hzl
  have hroom : ∀ w, (askRoom (nq * Y.bytes)).run P w = .ok () w := fun w => by
    unfold askRoom roomBytes
    rw [if_neg (by omega)]; rfl
  have hcond : (((decide ((nq : Int) < 0) || decide (((Y.bytes : Int)) * (nq : Int) > 2 ^ 48)) || decide ((nl : Int) < 0)) || decide ((nl : Int) > (nq : Int))) = false := by
    have h5 : ¬ ((Y.bytes : Int) * (nq : Int) > 2 ^ 48) := by
      have : ((Y.bytes * nq : Nat) : Int) ≤ 1099511627776 := by omega
      rw [Int.natCast_mul] at this
      omega
    simp; omega
  simp only [execOp, hρ _ _ g2, hρ _ _ g4, Instr.makeSlice, Sem.run_bind, run_underlying hu w, Result.andThen_ok, asInt, asIntOf, Sem.run_pure, hti, hbb, hwq, hwl]
  rw [if_neg (by rw [hcond]; simp)]
  simp only [Sem.run_bind, Int.toNat_natCast, hroom, Result.andThen_ok, hsz]
  by_cases h0 : nq * Y.size = 0
  · simp only [if_pos h0] at hrow
    simp only [if_pos h0, Sem.run_bind, Sem.run_pure, Result.andThen_ok, hrow, newRow, newObj, Sem.run]
    rfl
  · simp only [if_neg h0] at hrow
    simp only [if_neg h0, Sem.run_bind, Sem.run_pure, Result.andThen_ok, hzr, hrow, newRow, newObj, Sem.run]
    rfl
end
end Go.Ev
