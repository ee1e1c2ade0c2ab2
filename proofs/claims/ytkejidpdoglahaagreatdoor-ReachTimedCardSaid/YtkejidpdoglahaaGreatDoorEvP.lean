/- Operations that only read, continued: loads, fields, elements, slices, maps, conversions. Conditions: none. -/
import Derived.Test.YtkejidpdoglahaaGreatDoorEvQ
namespace Go.Ev
open Go.Lx Go.RowKit

section
variable {P : Program} {cx : Cx} {tT : TT} {T : Tab P} {fz : FZ}

theorem s_bin (hT : TA tT T) (op : BinOp) (t t' : TypeId) (x y : Operand) : QS P cx tT fz (qBin op t x y) (.binOp op t x y t') := fun ν ar r h H Fm c dst ty pos af gd hr _ hf => by
  obtain ⟨a, ha, hf⟩ := fO_iff hf
  obtain ⟨b, hb, hf⟩ := fO_iff hf
  obtain ⟨u, h1, h2⟩ := hr x a ha
  obtain ⟨w, h3, h4⟩ := hr y b hb
  have other : eqo op tT t (isC x || isC y) a b c = true → ∃ av v, c av = true ∧ gv ν av = some v ∧ Quiet P cx ⟨dst, .binOp op t x y t', ty, pos, af, gd⟩ r fz H v := by
    intro he
    cases op with
    | eql => exact eqv_s hT (neg := false) h1 h3 h2 h4 he
    | neq => exact eqv_s hT (neg := true) h1 h3 h2 h4 he
    | _ => cases he
  cases a with
  | i k m =>
    obtain ⟨z, hz, hf⟩ := fO_iff hf
    obtain ⟨hk, hf⟩ := fT_iff hf
    have e1 : u = .int k m := by simp only [gv] at h1; injection h1 with h1; exact h1.symm
    have e2 := asI_iff hz h3
    subst e1 e2
    exact ibin_s h2 h4 hk hf
  | s l =>
    obtain ⟨q, hq, hf⟩ := fO_iff hf
    obtain ⟨rfl, hl⟩ := asS_iff (a := .s l) rfl h1
    obtain ⟨rfl, hq'⟩ := asS_iff hq h3
    exact sbin_s hl hq' h2 h4 hf
  | b _ => exact other hf
  | p _ => exact other hf
  | sl _ _ _ _ => exact other hf
  | m _ => exact other hf
  | f _ _ _ => exact other hf
  | nf => exact other hf
  | ifc _ _ => exact other hf
  | ni => exact other hf
  | agg _ => exact other hf
  | tup _ => exact other hf

theorem s_un (op : UnOp) (t : TypeId) (x : Operand) : QS P cx tT fz (qUn op x) (.unOp op t x) := fun ν ar r h H Fm c dst ty pos af gd hr _ hf => by
  cases op with
  | not =>
    obtain ⟨a, ha, hf⟩ := fO_iff hf
    obtain ⟨b, hb, hf⟩ := fO_iff hf
    obtain ⟨u, h1, h2⟩ := hr x a ha
    have := asB_iff hb h1; subst this
    exact qs_of (rB_iff hf) (gv_b _ _) (q_not h2 rfl)
  | neg =>
    obtain ⟨a, ha, hf⟩ := fO_iff hf
    obtain ⟨z, hz, hf⟩ := fO_iff hf
    obtain ⟨u, h1, h2⟩ := hr x a ha
    have := asI_iff hz h1; subst this
    refine qs_of (rI_iff hf) (gv_i _ _ _) (doesQ_of (fun ρ w hr => ?_) rfl)
    simp [execOp, hr _ _ h2, Op.unary, Op.intArith, wrp_eq]
  | _ => cases hf

theorem s_nil (x : Operand) : QS P cx tT fz (qNil x) (.nilCheck x) := fun ν ar r h H Fm c dst ty pos af gd hr _ hf => by
  obtain ⟨a, ha, hf⟩ := fO_iff hf
  obtain ⟨u, h1, h2⟩ := hr x a ha
  cases a with
  | p q =>
    obtain ⟨q, rfl, hf⟩ := fO_iff hf
    obtain ⟨b, hb, rfl⟩ := asP_iff (a := .p (some q)) rfl h1
    exact qs_of hf h1 (doesQ_of (fun ρ w hr => by simp [execOp, hr _ _ h2]) rfl)
  | f g xs ys =>
    obtain ⟨us, vs, _, _, rfl⟩ := asF_iff (a := .f g xs ys) rfl h1
    exact qs_of hf h1 (doesQ_of (fun ρ w hr => by simp [execOp, hr _ _ h2]) rfl)
  | _ => cases hf

theorem s_mkI (hT : TA tT T) (t : TypeId) (x : Operand) : QS P cx tT fz (qMkI t x) (.makeInterface t x) := fun ν ar r h H Fm c dst ty pos af gd hr _ hf => by
  obtain ⟨A, hA, hf⟩ := fO_iff hf
  obtain ⟨X, hX, hR⟩ := hT t A hA
  cases hk : Nat.beq A.k 7 with
  | true => rw [hk] at hf; cases hf
  | false =>
    rw [hk] at hf
    obtain ⟨a, ha, hf⟩ := fO_iff hf
    obtain ⟨u, h1, h2⟩ := hr x a ha
    exact qs_of hf (v := .iface t u) (by simp [gv, h1]) (q_makeInterface T hX (hR.nif (fun he => by rw [he] at hk; cases hk)) h2 rfl)

theorem s_mkF (fn : Fn) (xs ys : Array Operand) : QS P cx tT fz (qMkF fn xs.toList ys.toList) (.makeFunc fn xs ys) := fun ν ar r h H Fm c dst ty pos af gd hr _ hf => by
  cases fn with
  | func f =>
    obtain ⟨l, hl, hf⟩ := fO_iff hf
    rw [fL_eq] at hf
    obtain ⟨q, hq, hf⟩ := fO_iff hf
    rw [fL_eq] at hf
    obtain ⟨us, h1, h2⟩ := hr.all hl
    obtain ⟨vs, h3, h4⟩ := hr.all hq
    exact qs_of hf (v := .func (.func f) us.toArray vs.toArray) (by simp [gv, h1, h3]) (q_makeFunc (xs := xs.toList) (ys := ys.toList) h2 h4 rfl)
  | _ => cases hf

theorem s_ext (x : Operand) (i : Nat) : QS P cx tT fz (qExt x i) (.extract x i) := fun ν ar r h H Fm c dst ty pos af gd hr _ hf => by
  obtain ⟨a, ha, hf⟩ := fO_iff hf
  obtain ⟨vs, hvs, hf⟩ := fO_iff hf
  obtain ⟨z, hz, hc⟩ := fO_iff hf
  obtain ⟨u, h1, h2⟩ := hr x a ha
  obtain ⟨l, hl, rfl⟩ := asT_iff hvs h1
  obtain ⟨v, h3, h4⟩ := gvs_get hl (at_iff hz)
  exact qs_of hc h4 (q_extract h2 (by simpa using h3) rfl)

/-! ### memory that is read -/
theorem addr_add (b off j : Nat) : (⟨b, off, none⟩ : Addr).add j = ⟨b, off + j, none⟩ := by
  unfold Addr.add
  split
  · rename_i h; subst h; rfl
  · rfl
theorem cell_own {H : HP} {w : World} (hi : Inv cx fz H w) {b : Nat} {arr : Array Value} {e : TypeId} {f : Nat × Nat} (hm : (b, Obj.cells arr e f) ∈ H) (j : Nat) : w.cell? ⟨b, j, none⟩ = arr[j]? := by
  have := (hi.hp.own _ hm).1
  simp only at this
  simp [World.cell?, this]
/-- the cells of a block that the evaluator knows -/
theorem HR.cells {ν : Nu} {h : Tr AO} {H Fm : HP} (hh : HR tT ν h H Fm) {id : Nat} {o : AO} {cs : List AV} (hg : h.get id = some o) (hc : oCells o = some cs) :
    ∃ b vs l e f, ν.blk id = some b ∧ gvs ν cs = some vs ∧ (b, Obj.cells (vs ++ l).toArray e f) ∈ H := by
  obtain ⟨b, x, h1, h2, h3⟩ := hh.own id o hg
  cases o with
  | cells cs' e sl fr =>
    simp [oCells] at hc; subst hc
    simp only [go] at h2
    cases hv : gvs ν cs' with
    | none => simp [hv] at h2
    | some vs =>
      cases hs : gS ν sl with
      | none => simp [hv, hs] at h2
      | some l =>
        simp [hv, hs] at h2; subst h2
        exact ⟨b, vs, l, _, _, h1, rfl, by simpa using h3⟩
  | map _ _ => simp [oCells] at hc
  | mit _ _ _ _ => simp [oCells] at hc
theorem s_load (hT : TA tT T) (t : TypeId) (x : Operand) : QS P cx tT fz (qLoad t x) (.load t x) := fun ν ar r h H Fm c dst ty pos af gd hr hh hf => by
  obtain ⟨a, ha, hf⟩ := fO_iff hf
  obtain ⟨p, hp, hf⟩ := fO_iff hf
  obtain ⟨o, ho, hf⟩ := fO_iff hf
  obtain ⟨cs, hcs, hf⟩ := fO_iff hf
  obtain ⟨Y, hY, hf⟩ := fO_iff hf
  obtain ⟨u, h1, h2⟩ := hr x a ha
  obtain ⟨b, hb, rfl⟩ := asP_iff hp h1
  obtain ⟨X, hX, hR⟩ := hT t Y hY
  obtain ⟨b', vs, l, e, f, hb', hvs, hm⟩ := hh.cells ho hcs
  rw [hb] at hb'; injection hb' with hb'; subst hb'
  cases hag : Y.agg with
  | false =>
    rw [hag] at hf
    obtain ⟨z, hz, hc⟩ := fO_iff hf
    obtain ⟨v, h3, h4⟩ := gvs_get hvs (at_iff hz)
    refine ⟨z, v, hc, h4, fun ρ w hr hi => ?_⟩
    have hcell : w.cell? ⟨b, p.2, none⟩ = some v := by
      rw [cell_own hi hm]
      have hlt : p.2 < vs.length := (List.getElem?_eq_some_iff.1 h3).1
      simp only [List.getElem?_toArray]
      rw [List.getElem?_append_left hlt]; exact h3
    have := run_load1 T hX (by rw [hR.agg, hag]) hcell
    simp only [execOp, hr _ _ h2, Instr.loadAt, Instr.sureAddr, Sem.run_bind, Sem.run_pure, Result.andThen_ok, this]
    exact ⟨rfl, Fr.refl _ _⟩
  | true =>
    rw [hag] at hf
    obtain ⟨q, hq, hf⟩ := fO_iff hf
    rw [fL_eq] at hf
    obtain ⟨h3, h4⟩ := gvs_part hvs hq
    refine ⟨.agg q, .agg ((vs.drop p.2).take Y.size).toArray, hf, by simp [gv, h4], fun ρ w hr hi => ?_⟩
    have hc : ∀ j v, ((vs.drop p.2).take Y.size)[j]? = some v → w.cell? ((⟨b, p.2, none⟩ : Addr).add j) = some v := fun j v hj => by
      rw [addr_add, cell_own hi hm]
      rw [List.getElem?_take] at hj
      split at hj
      · rename_i hlt
        rw [List.getElem?_drop] at hj
        have hlt' : p.2 + j < vs.length := (List.getElem?_eq_some_iff.1 hj).1
        simp only [List.getElem?_toArray]
        rw [List.getElem?_append_left hlt']; exact hj
      · cases hj
    have := run_loadN T hX (by rw [hR.agg, hag]) (cs := (vs.drop p.2).take Y.size) (by rw [hR.size]; simp; omega) hc
    simp only [execOp, hr _ _ h2, Instr.loadAt, Instr.sureAddr, Sem.run_bind, Sem.run_pure, Result.andThen_ok, this]
    exact ⟨rfl, Fr.refl _ _⟩
end
end Go.Ev
