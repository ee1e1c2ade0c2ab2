/- Allocations that may run early; what waits, and what is known, in a region whose order is drawn. Conditions: none. -/
import Derived.Test.YtkejidpdoglahaaGreatDoorEvU
import Derived.Test.YtkejidpdoglahaaGreatDoorDraw
namespace Go.Ev
open Go.Lx Go.RowKit

/-! ### allocations whose operands may not be known yet -/
/-- a value, or one that is not known and fills one cell -/
def PG (ν : Nu) (a : AV) (v : Value) : Prop := gv ν a = some v ∨ (a = .p none ∧ plainV v = true)
theorem PG.len {ν : Nu} {a : AV} {v : Value} (h : PG ν a v) : v.cells.toList.length = a.cells.length := by
  rcases h with h | ⟨rfl, h⟩
  · exact gvs_len (gv_cells h)
  · cases v <;> first | rfl | cases h
theorem PG.num {ν : Nu} {a : AV} {v : Value} {n : Nat} (h : PG ν a v) (hn : asN a = some n) : ∃ k, v = .int k n := by
  rcases h with h | ⟨rfl, h⟩
  · exact asN_iff hn h
  · cases hn
inductive PGs (ν : Nu) : List AV → List Value → Prop where
  | nil : PGs ν [] []
  | cons {a : AV} {v : Value} {l : List AV} {vs : List Value} : PG ν a v → PGs ν l vs → PGs ν (a :: l) (v :: vs)
theorem PGs.len {ν : Nu} {l : List AV} {vs : List Value} (h : PGs ν l vs) : vs.length = l.length := by
  induction h with
  | nil => rfl
  | cons _ _ ih => simp [ih]
/-- reads, some of which are not known yet -/
def RG (ν : Nu) (ar : RD) (r : Operand → Option Value) : Prop := ∀ x a, ar x = some a → ∃ v, r x = some v ∧ PG ν a v
theorem RG.all {ν : Nu} {ar : RD} {r : Operand → Option Value} (h : RG ν ar r) : ∀ {xs : List Operand} {l : List AV}, rdos ar xs = some l → ∃ vs, rds r xs = some vs ∧ PGs ν l vs
  | [], l, hl => by
    have : l = [] := by injection hl with hl; exact hl.symm
    subst this; exact ⟨[], rfl, .nil⟩
  | x :: xs, l, hl => by
    obtain ⟨a, ha, hl⟩ := oB_iff hl
    obtain ⟨q, hq, hl⟩ := oB_iff hl
    injection hl with hl
    subst hl
    obtain ⟨v, h1, h2⟩ := h x a ha
    obtain ⟨vs, h3, h4⟩ := RG.all h hq
    exact ⟨v :: vs, by simp only [rds, h1, h3], .cons h2 h4⟩
theorem fill_len {ν : Nu} {place : Nat → Option (Nat × Nat)} : ∀ {ns : List Nat} {l : List AV} {vs : List Value} {cells : List AV} {us : List Value} {cs : List AV}, PGs ν l vs → ns.length = l.length → us.length = cells.length → fill_ place cells (ns.zip l) = some cs →
    ∃ cs', fillL place us (ns.zip vs) = some cs'
  | [], l, vs, cells, us, cs, _, _, _, _ => ⟨us, by simp [fillL]⟩
  | n :: ns, [], vs, cells, us, cs, hp, hl, _, _ => by simp at hl
  | n :: ns, a :: l, vs, cells, us, cs, hp, hl, hu, h => by
    cases hp with
    | cons h1 h2 =>
      rename_i v vs
      simp only [List.zip_cons_cons, fill_] at h
      obtain ⟨z, hz, h⟩ := oB_iff h
      obtain ⟨hb, h⟩ := oT_iff h
      obtain ⟨c1, hc1, h⟩ := oB_iff h
      obtain ⟨h3, h4⟩ := wr_iff hc1
      have h5 := h1.len
      have hw := wrL_mk us z.1 v.cells.toList (by rw [h5, hu]; exact h3)
      have hlen : (us.take z.1 ++ v.cells.toList ++ us.drop (z.1 + v.cells.toList.length)).length = c1.length := by
        rw [h4]
        simp only [List.length_append, List.length_take, List.length_drop]
        rw [h5, hu]
      obtain ⟨cs', h6⟩ := fill_len h2 (by simpa using hl) hlen h
      refine ⟨cs', ?_⟩
      simp only [List.zip_cons_cons, fillL, hz]
      have hb' : Nat.beq v.cells.toList.length z.2 = true := by rw [h5]; exact hb
      rw [hb']
      simp only [hw]
      exact h6
theorem zip_eq : ∀ (ps : List (Nat × Operand)) (l : List AV), zip_ ps l = (ps.map (·.1)).zip l
  | [], l => by simp [zip_]
  | q :: ps, [] => by simp [zip_]
  | q :: ps, v :: l => by simp [zip_, zip_eq ps l]

section
variable {P : Program} {tT : TT} {T : Tab P}

/-- an allocation succeeds -/
def LE (P : Program) (tT : TT) (f : LF) (op : Op) : Prop := ∀ (ν : Nu) (ar : RD) (r : Operand → Option Value) (z : AO × Mk), RG ν ar r → f tT ar = some z →
  ∃ (obj : Obj) (mk : Nat → Value), (∀ g, plainV (mk g) = true) ∧ ∀ (dst : Option Nat) (ty : TypeId) (pos : String) (af : Array Edge) (gd : Option (Nat × Bool)) ρ w, Reads r ρ → (execOp ρ ⟨dst, op, ty, pos, af, gd⟩).run P w = .ok (.value (mk w.heap.size)) (w.alloc obj)
theorem e_alloc (hT : TA tT T) (t : TypeId) : LE P tT (floA t) (.alloc t) := fun ν ar r z hr hf => by
  obtain ⟨A, hA, hf⟩ := oB_iff hf
  obtain ⟨X, hX, hR⟩ := hT t A hA
  refine ⟨.cells X.zero.cells t (0, 0), fun g => .pointer (some ⟨g, 0, none⟩), fun _ => rfl, fun dst ty pos af gd ρ w hρ => ?_⟩
  have := run_zero T hX w
  simp [execOp, Instr.alloc, this, newVar, newRow, newObj, Sem.run]
theorem e_box (t : TypeId) (x : Operand) : LE P tT (floB t x) (.box t x) := fun ν ar r z hr hf => by
  obtain ⟨a, ha, hf⟩ := oB_iff hf
  obtain ⟨v, h1, h2⟩ := hr x a ha
  refine ⟨.cells v.cells t (0, 0), fun g => .pointer (some ⟨g, 0, none⟩), fun _ => rfl, fun dst ty pos af gd ρ w hρ => ?_⟩
  simp [execOp, Instr.box, hρ _ _ h1, newVar, newRow, newObj, Sem.run]
theorem e_map (t : TypeId) : LE P tT floE (.makeMap t none) := fun ν ar r z hr hf => by
  refine ⟨.map #[] 0, fun g => .map (some g), fun _ => rfl, fun dst ty pos af gd ρ w hρ => ?_⟩
  simp [execOp, Instr.makeMap, newObj, Sem.run]
theorem e_make (hT : TA tT T) (t : TypeId) (l q : Operand) : LE P tT (floM t l q) (.makeSlice t l q) := fun ν ar r z hr hf => by
  have hf0 := hf
  obtain ⟨A, hA, hf⟩ := oB_iff hf
  obtain ⟨hk, hf⟩ := oT_iff hf
  obtain ⟨Y, hY, hf⟩ := oB_iff hf
  obtain ⟨al, hal, hf⟩ := oB_iff hf
  obtain ⟨nl, hnl, hf⟩ := oB_iff hf
  obtain ⟨aq, haq, hf⟩ := oB_iff hf
  obtain ⟨nq, hnq, hf⟩ := oB_iff hf
  obtain ⟨ul, g1, g2⟩ := hr l al hal
  obtain ⟨uq, g3, g4⟩ := hr q aq haq
  have k1 : gv ν al = some ul := by
    rcases g2 with h | ⟨rfl, _⟩
    · exact h
    · cases hnl
  have k2 : gv ν aq = some uq := by
    rcases g4 with h | ⟨rfl, _⟩
    · exact h
    · cases hnq
  -- reads of these two alone
  let ar' : RD := fun x => open Classical in if x = l then some al else if x = q then some aq else none
  have hl' : ar' l = some al := by simp [ar']
  have hq' : ar' q = some aq := by
    by_cases he : q = l
    · subst he
      simp only [ar', if_true]
      rw [hal] at haq; exact haq
    · simp [ar', he]
  have hr' : RR ν ar' r := fun x a hx => by
    simp only [ar'] at hx
    split at hx
    · rename_i he; subst he; injection hx with hx; subst hx; exact ⟨ul, k1, g1⟩
    · split at hx
      · rename_i he; subst he; injection hx with hx; subst hx; exact ⟨uq, k2, g3⟩
      · cases hx
  have hf' : floM t l q tT ar' = some z := by
    rw [← hf0]
    unfold floM
    rw [hl', hq', hal, haq]
  obtain ⟨_, _, x, _, hrun⟩ := l_make (P := P) hT t l q ν ar' r z.1 z.2 hr' hf'
  refine ⟨x, z.2.real, fun g => ?_, hrun⟩
  have : z.2 = .sl nl nq := by
    obtain ⟨_, hf⟩ := oT_iff hf
    injection hf with hf
    rw [← hf]
  rw [this]
  rfl
theorem e_slice (hT : TA tT T) (t : TypeId) (len : Nat) (ps : Array (Nat × Operand)) : LE P tT (floS t len ps.toList) (.buildSlice t len ps) := fun ν ar r z hr hf => by
  obtain ⟨A, hA, hf⟩ := oB_iff hf
  obtain ⟨hk, hf⟩ := oT_iff hf
  obtain ⟨Y, hY, hf⟩ := oB_iff hf
  obtain ⟨vs, hvs, hf⟩ := oB_iff hf
  obtain ⟨hb, hf⟩ := oT_iff hf
  obtain ⟨cs, hcs, hf⟩ := oB_iff hf
  simp only [Bool.and_eq_true, Nat.ble_eq] at hb
  obtain ⟨X, hX, hR⟩ := hT t A hA
  obtain ⟨Z, hZ, hRZ⟩ := hT A.e Y hY
  obtain ⟨us, h2, h1⟩ := hr.all hvs
  obtain ⟨zs, hz, hzc⟩ := hRZ.zero
  have hzl : zs.length = Y.size := by rw [gvs_len (hz ⟨fun _ => none, fun _ => none, fun _ => none⟩)]; exact Nat.eq_of_beq_eq_true hb.2
  rw [zip_eq] at hcs
  obtain ⟨ws, g2⟩ := fill_len (us := repZ zs len) h1 (by rw [rdos_len hvs]; simp) (by
    have := gvs_len (rep_s (hz ⟨fun _ => none, fun _ => none, fun _ => none⟩) len)
    exact this) hcs
  refine ⟨.cells ws.toArray A.e (0, 0), fun g => .slice (some ⟨g, 0, none⟩) len len, fun _ => rfl, fun dst ty pos af gd ρ w hρ => ?_⟩
  have hu := und_plain T hX (hR.d4 (Nat.eq_of_beq_eq_true hk)) rfl
  have hsz := Go.Lx.run_sizeOf T hZ w
  rw [hRZ.size] at hsz
  have hzr := run_zero T hZ w
  have hl' : ¬ len * Y.size > 2 ^ 24 := by have := hb.1; simp only [Nat.mul_eq] at this; omega
  have hps' : (ps.map fun x => match x with | (i, x) => (i, ρ x)).toList = (ps.toList.map (·.1)).zip us := by
    rw [← reads_parts hρ ps.toList us h2]; simp
  have hc' : Instr.fill (fun i => some (i * Y.size, Y.size)) ((Array.range (len * Y.size)).map ((if len * Y.size = 0 then #[] else Z.zero.cells)[· % (if len * Y.size = 0 then #[] else Z.zero.cells).size]!)) ((ps.toList.map (·.1)).zip us) = some ws.toArray := by
    rw [repZ_arr hzc hzl]
    exact fill_eq _ _ _ g2
  by_cases h0 : len * Y.size = 0
  · rw [if_pos h0] at hc'
    simp only [execOp, Instr.buildSlice, Sem.run_bind, run_underlying hu w, Result.andThen_ok, hsz, if_neg hl', if_pos h0, Sem.run_pure, hps', hc', newRow, newObj, Sem.run]
    rfl
  · rw [if_neg h0] at hc'
    simp only [execOp, Instr.buildSlice, Sem.run_bind, run_underlying hu w, Result.andThen_ok, hsz, if_neg hl', if_neg h0, Sem.run_pure, hzr, hps', hc', newRow, newObj, Sem.run]
    rfl
theorem flo_e (hT : TA tT T) (op : Op) : ∀ f, ox op = .l f → LE P tT f op := by
  intro f hf
  cases op with
  | alloc t => injection hf with hf; subst hf; exact e_alloc hT t
  | box t x => injection hf with hf; subst hf; exact e_box t x
  | buildSlice t n ps => injection hf with hf; subst hf; exact e_slice hT t n ps
  | makeMap t r =>
    cases r with
    | none => injection hf with hf; subst hf; exact e_map t
    | some y => cases hf
  | makeSlice t l q => injection hf with hf; subst hf; exact e_make hT t l q
  | call k =>
    obtain ⟨cal, xs, ats⟩ := k
    cases cal with
    | value => cases hf
    | invoke => cases hf
    | builtin b => cases b <;> cases hf
  | _ => cases hf

/-! ### what an allocation makes, as a function of what has run -/
def FlSpec (P : Program) (all : List Oper) (σ : Env) (i : Nat) (o : Oper) (ve : Env) (x : Obj × (Nat → Value)) : Prop :=
  o.guard = none ∧ (∀ g, plainV (x.2 g) = true) ∧ ∀ ρ w, Reads (rdg all i o σ ve) ρ → (execOp ρ o).run P w = .ok (.value (x.2 w.heap.size)) (w.alloc x.1)
theorem FlSpec.uniq {all : List Oper} {σ : Env} {i : Nat} {o : Oper} {ve : Env} {x y : Obj × (Nat → Value)} (hx : FlSpec P all σ i o ve x) (hy : FlSpec P all σ i o ve y) : x = y := by
  have key : ∀ g : Nat, x.2 g = y.2 g ∧ x.1 = y.1 := fun g => by
    let w : World := { heap := Array.replicate g (.cells #[] 0), tape := fun _ _ => 0, drawn := 0, os := default, output := #[] }
    have hsz : w.heap.size = g := by simp [w]
    have hr : Reads (rdg all i o σ ve) (fun x => (rdg all i o σ ve x).getD undef) := fun z v hz => by simp [hz]
    have h1 := hx.2.2 _ w hr
    rw [hy.2.2 _ w hr] at h1
    rw [hsz] at h1
    injection h1 with h1 h2
    injection h1 with h1
    refine ⟨h1.symm, ?_⟩
    have h3 := congrArg (fun w : World => w.heap[g]?) h2
    have h4 : ∀ o : Obj, (w.alloc o).heap[g]? = some o := fun o => by rw [← hsz]; exact heap_alloc_new w o
    simp only [h4] at h3
    injection h3 with h3
    exact h3.symm
  obtain ⟨a, b⟩ := x
  obtain ⟨c, d⟩ := y
  have e1 : a = c := (key 0).2
  have e2 : b = d := funext fun g => (key g).1
  rw [e1, e2]
open Classical in
noncomputable def flD (P : Program) (all : List Oper) (σ : Env) : Fl := fun i o ve => if h : ∃ x, FlSpec P all σ i o ve x then some h.choose else none
theorem flD_of {all : List Oper} {σ : Env} {i : Nat} {o : Oper} {ve : Env} {x : Obj × (Nat → Value)} (h : FlSpec P all σ i o ve x) : flD P all σ i o ve = some x := by
  have hex : ∃ x, FlSpec P all σ i o ve x := ⟨x, h⟩
  unfold flD
  rw [dif_pos hex]
  rw [FlSpec.uniq hex.choose_spec h]
theorem flD_spec {all : List Oper} {σ : Env} {i : Nat} {o : Oper} {ve : Env} {x : Obj × (Nat → Value)} (h : flD P all σ i o ve = some x) : FlSpec P all σ i o ve x := by
  unfold flD at h
  split at h
  · rename_i hex; injection h with h; subst h; exact hex.choose_spec
  · cases h
theorem flD_mono {all : List Oper} {σ : Env} (i : Nat) (o : Oper) (a b : Env) (x : Obj × (Nat → Value)) (hab : VExt a b) (h : flD P all σ i o a = some x) : flD P all σ i o b = some x := by
  obtain ⟨h1, h2, h3⟩ := flD_spec h
  exact flD_of ⟨h1, h2, fun ρ w hr => h3 ρ w fun x v hx => hr x v (rdg_ext hab x v hx)⟩
end
end Go.Ev
