/- Operations that only read: what the evaluator finds is what the model gives. Conditions: none. -/
import Derived.Test.YtkejidpdoglahaaGreatDoorEvL
namespace Go.Ev
open Go.Lx Go.RowKit

/-! ### numbers -/
theorem nbeq (a b : Nat) : Nat.beq a b = decide (a = b) := by
  by_cases h : a = b
  · subst h; simp
  · rw [beq_false h]; simp [h]
theorem iEq_eq (a b : Int) : iEq a b = decide (a = b) := by
  cases a with
  | ofNat a =>
    cases b with
    | ofNat b => simp only [iEq, nbeq, Int.ofNat.injEq]
    | negSucc b => simp [iEq]
  | negSucc a =>
    cases b with
    | ofNat b => simp [iEq]
    | negSucc b => simp only [iEq, nbeq, Int.negSucc.injEq]
theorem iLt_eq (a b : Int) : iLt a b = decide (a < b) := by
  cases a with
  | ofNat a =>
    cases b with
    | ofNat b => simp only [iLt]; rw [Bool.eq_iff_iff, Nat.blt_eq, decide_eq_true_iff]; simp
    | negSucc b => simp only [iLt]; symm; rw [decide_eq_false_iff_not]; simp only [Int.ofNat_eq_natCast]; omega
  | negSucc a =>
    cases b with
    | ofNat b => simp only [iLt]; symm; rw [decide_eq_true_iff]; simp only [Int.ofNat_eq_natCast]; omega
    | negSucc b => simp only [iLt]; rw [Bool.eq_iff_iff, Nat.blt_eq, decide_eq_true_iff]; omega
theorem dle (a b : Int) : decide (a ≤ b) = !decide (b < a) := by
  rw [Bool.eq_iff_iff]; simp
theorem kEq_iff {a b : IntKind} (h : kEq a b = true) : a = b := by
  cases a <;> cases b <;> first | rfl | cases h
theorem wrap_in {k : IntKind} {n : Int} (h : inK k n = true) : k.wrap n = n := by
  cases n with
  | ofNat n =>
    simp only [inK, Nat.blt_eq] at h
    cases k <;> simp only [kHi] at h <;> simp only [IntKind.wrap, IntKind.bits, IntKind.signed] <;> simp <;> omega
  | negSucc n =>
    simp only [inK, Nat.blt_eq] at h
    cases k <;> simp only [kLo] at h <;> simp only [IntKind.wrap, IntKind.bits, IntKind.signed] <;> simp <;> omega
theorem wrp_eq (k : IntKind) (n : Int) : wrp k n = k.wrap n := by
  unfold wrp
  cases h : inK k n with
  | false => rfl
  | true => exact (wrap_in h).symm

/-! ### strings -/
theorem sEq_iff : ∀ {x y : List Nat}, sEq x y = true ↔ x = y
  | [], [] => by simp [sEq]
  | [], _ :: _ => by simp [sEq]
  | _ :: _, [] => by simp [sEq]
  | a :: x, b :: y => by
    simp only [sEq]
    cases h : Nat.beq a b with
    | true => simp only [Nat.eq_of_beq_eq_true h, List.cons.injEq, true_and]; exact sEq_iff
    | false =>
      simp only [List.cons.injEq]
      constructor
      · intro h; cases h
      · rintro ⟨rfl, _⟩; rw [Nat.beq_refl] at h; cases h
theorem bs_toList (x : List Nat) : (bs x).toList = x.map UInt8.ofNat := by
  simp [bs, ByteArray.toList_eq]
theorem bs_size (x : List Nat) : (bs x).size = x.length := by simp [bs, ByteArray.size]
theorem ofNat_inj {a b : Nat} (ha : a < 256) (hb : b < 256) (h : UInt8.ofNat a = UInt8.ofNat b) : a = b := by
  have := congrArg UInt8.toNat h
  simp at this
  omega
theorem bs_inj : ∀ {x y : List Nat}, x.all (fun n => Nat.blt n 256) = true → y.all (fun n => Nat.blt n 256) = true → x.map UInt8.ofNat = y.map UInt8.ofNat → x = y
  | [], [], _, _, _ => rfl
  | [], _ :: _, _, _, h => by simp at h
  | _ :: _, [], _, _, h => by simp at h
  | a :: x, b :: y, hx, hy, h => by
    simp only [List.all_cons, Bool.and_eq_true, Nat.blt_eq] at hx hy
    simp only [List.map_cons, List.cons.injEq] at h
    rw [ofNat_inj hx.1 hy.1 h.1, bs_inj hx.2 hy.2 h.2]
theorem bs_eq {x y : List Nat} (hx : x.all (fun n => Nat.blt n 256) = true) (hy : y.all (fun n => Nat.blt n 256) = true) : decide (bs x = bs y) = sEq x y := by
  rw [Bool.eq_iff_iff, decide_eq_true_iff, sEq_iff]
  constructor
  · intro h
    have := congrArg ByteArray.toList h
    rw [bs_toList, bs_toList] at this
    exact bs_inj hx hy this
  · rintro rfl; rfl
theorem bs_append (x y : List Nat) : bs x ++ bs y = bs (x ++ y) := by
  apply ByteArray.ext
  simp [bs]
theorem sLt_eq : ∀ {x y : List Nat}, x.all (fun n => Nat.blt n 256) = true → y.all (fun n => Nat.blt n 256) = true → Op.bytesLess (x.map UInt8.ofNat) (y.map UInt8.ofNat) = sLt x y
  | [], [], _, _ => rfl
  | [], _ :: _, _, _ => rfl
  | _ :: _, [], _, _ => rfl
  | a :: x, b :: y, hx, hy => by
    simp only [List.all_cons, Bool.and_eq_true, Nat.blt_eq] at hx hy
    simp only [List.map_cons, Op.bytesLess, sLt]
    have e1 : decide (UInt8.ofNat a < UInt8.ofNat b) = Nat.blt a b := by
      rw [Bool.eq_iff_iff, decide_eq_true_iff, Nat.blt_eq, UInt8.lt_iff_toNat_lt]
      simp
      rw [Nat.mod_eq_of_lt hx.1, Nat.mod_eq_of_lt hy.1]
    have e2 : (UInt8.ofNat a == UInt8.ofNat b) = Nat.beq a b := by
      rw [Bool.eq_iff_iff, beq_iff_eq]
      constructor
      · intro h; rw [ofNat_inj hx.1 hy.1 h]; exact Nat.beq_refl _
      · intro h; rw [Nat.eq_of_beq_eq_true h]
    rw [e1, e2, sLt_eq hx.2 hy.2]
    cases Nat.blt a b <;> cases Nat.beq a b <;> simp

/-! ### the form of what is to be shown -/
section
variable {P : Program} {cx : Cx} {tT : TT} {T : Tab P} {fz : FZ}

def QS (P : Program) (cx : Cx) (tT : TT) (fz : FZ) (f : QF) (op : Op) : Prop := ∀ (ν : Nu) (ar : RD) (r : Operand → Option Value) (h : Tr AO) (H Fm : HP) (c : QC) (dst : Option Nat) (ty : TypeId) (pos : String) (af : Array Edge) (gd : Option (Nat × Bool)),
  RR ν ar r → HR tT ν h H Fm → f tT ar h c = true → ∃ av v, c av = true ∧ gv ν av = some v ∧ Quiet P cx ⟨dst, op, ty, pos, af, gd⟩ r fz H v
theorem qs_of {ν : Nu} {c : QC} {av : AV} {v : Value} {o : Oper} {r : Operand → Option Value} {H : HP} (hc : c av = true) (hg : gv ν av = some v) (hd : DoesQ P cx o r fz H fun u => u = v) :
    ∃ av v, c av = true ∧ gv ν av = some v ∧ Quiet P cx o r fz H v := by
  unfold DoesQ at hd
  obtain ⟨v', rfl, hq⟩ := hd
  exact ⟨av, _, hc, hg, hq⟩

theorem s_move (x : Operand) : QS P cx tT fz (qMove x) (.move x) := fun ν ar r h H Fm c dst ty pos af gd hr _ hf => by
  obtain ⟨a, ha, hc⟩ := fO_iff hf
  obtain ⟨v, h1, h2⟩ := hr x a ha
  exact qs_of hc h1 (q_move h2 rfl)
theorem s_assign (x : Operand) : QS P cx tT fz (qMove x) (.assign x) := fun ν ar r h H Fm c dst ty pos af gd hr _ hf => by
  obtain ⟨a, ha, hc⟩ := fO_iff hf
  obtain ⟨v, h1, h2⟩ := hr x a ha
  exact qs_of hc h1 (q_assign h2 rfl)
theorem s_pick (d x y : Operand) : QS P cx tT fz (qPick d x y) (.pick d x y) := fun ν ar r h H Fm c dst ty pos af gd hr _ hf => by
  obtain ⟨a, ha, hf⟩ := fO_iff hf
  obtain ⟨b, hb, hf⟩ := fO_iff hf
  obtain ⟨v, h1, h2⟩ := hr d a ha
  have hv := asB_iff hb h1
  subst hv
  cases b with
  | true =>
    obtain ⟨z, hz, hc⟩ := fO_iff hf
    obtain ⟨u, h3, h4⟩ := hr x z hz
    exact qs_of hc h3 (q_pick_true h2 h4 rfl)
  | false =>
    obtain ⟨z, hz, hc⟩ := fO_iff hf
    obtain ⟨u, h3, h4⟩ := hr y z hz
    exact qs_of hc h3 (q_pick_false h2 h4 rfl)

/-! results -/
theorem rI_iff {k : IntKind} {c : QC} {n : Int} (h : rI k c n = true) : c (.i k n) = true := by unfold rI at h; rwa [fI_eq] at h
theorem rB_iff {c : QC} {b : Bool} (h : rB c b = true) : c (.b b) = true := by unfold rB at h; cases b <;> exact h
theorem rN_iff {c : QC} {n : Nat} (h : rN c n = true) : c (.i .i64 (.ofNat n)) = true := by unfold rN at h; rwa [fN_eq] at h
theorem gv_i (ν : Nu) (k : IntKind) (n : Int) : gv ν (.i k n) = some (.int k n) := by simp [gv]
theorem gv_b (ν : Nu) (b : Bool) : gv ν (.b b) = some (.bool b) := by simp [gv]

/-! integers -/
section
variable {r : Operand → Option Value} {H : HP} {V : Value → Prop} {dst : Option Nat} {ty : TypeId} {pos : String} {af : Array Edge} {gd : Option (Nat × Bool)} {t t' : TypeId} {x y : Operand} {k : IntKind} {a b : Int}
theorem q_quo (hx : r x = some (.int k a)) (hy : r y = some (.int k b)) (hb : b ≠ 0) (h : V (.int k (k.wrap (a.tdiv b)))) : DoesQ P cx ⟨dst, .binOp .quo t x y t', ty, pos, af, gd⟩ r fz H V :=
  doesQ_of (fun ρ w hr => by simp [execOp, hr _ _ hx, hr _ _ hy, eqGuard, binOp, Op.intDiv, hb]) h
theorem q_remK (hx : r x = some (.int k a)) (hy : r y = some (.int k b)) (hb : b ≠ 0) (h : V (.int k (a.tmod b))) : DoesQ P cx ⟨dst, .binOp .rem t x y t', ty, pos, af, gd⟩ r fz H V :=
  doesQ_of (fun ρ w hr => by simp [execOp, hr _ _ hx, hr _ _ hy, eqGuard, binOp, Op.intDiv, hb]) h
theorem q_and (hx : r x = some (.int k a)) (hy : r y = some (.int k b)) (h : V (.int k (k.wrap (BitVec.ofInt k.bits a &&& BitVec.ofInt k.bits b).toNat))) : DoesQ P cx ⟨dst, .binOp .and t x y t', ty, pos, af, gd⟩ r fz H V :=
  doesQ_of (fun ρ w hr => by simp [execOp, hr _ _ hx, hr _ _ hy, eqGuard, binOp, Op.intBits]) h
theorem q_or (hx : r x = some (.int k a)) (hy : r y = some (.int k b)) (h : V (.int k (k.wrap (BitVec.ofInt k.bits a ||| BitVec.ofInt k.bits b).toNat))) : DoesQ P cx ⟨dst, .binOp .or t x y t', ty, pos, af, gd⟩ r fz H V :=
  doesQ_of (fun ρ w hr => by simp [execOp, hr _ _ hx, hr _ _ hy, eqGuard, binOp, Op.intBits]) h
theorem q_xor (hx : r x = some (.int k a)) (hy : r y = some (.int k b)) (h : V (.int k (k.wrap (BitVec.ofInt k.bits a ^^^ BitVec.ofInt k.bits b).toNat))) : DoesQ P cx ⟨dst, .binOp .xor t x y t', ty, pos, af, gd⟩ r fz H V :=
  doesQ_of (fun ρ w hr => by simp [execOp, hr _ _ hx, hr _ _ hy, eqGuard, binOp, Op.intBits]) h
theorem q_andNot (hx : r x = some (.int k a)) (hy : r y = some (.int k b)) (h : V (.int k (k.wrap (BitVec.ofInt k.bits a &&& ~~~BitVec.ofInt k.bits b).toNat))) : DoesQ P cx ⟨dst, .binOp .andNot t x y t', ty, pos, af, gd⟩ r fz H V :=
  doesQ_of (fun ρ w hr => by simp [execOp, hr _ _ hx, hr _ _ hy, eqGuard, binOp, Op.intBits]) h
theorem q_shl {k' : IntKind} (hx : r x = some (.int k a)) (hy : r y = some (.int k' b)) (hb : ¬ b < 0) (h : V (.int k (k.wrap (a * 2 ^ (min b.toNat k.bits))))) : DoesQ P cx ⟨dst, .binOp .shl t x y t', ty, pos, af, gd⟩ r fz H V :=
  doesQ_of (fun ρ w hr => by simp [execOp, hr _ _ hx, hr _ _ hy, eqGuard, binOp, Op.shift, hb]) h
theorem q_shr {k' : IntKind} (hx : r x = some (.int k a)) (hy : r y = some (.int k' b)) (hb : ¬ b < 0) (h : V (.int k (a.fdiv (2 ^ (min b.toNat k.bits))))) : DoesQ P cx ⟨dst, .binOp .shr t x y t', ty, pos, af, gd⟩ r fz H V :=
  doesQ_of (fun ρ w hr => by simp [execOp, hr _ _ hx, hr _ _ hy, eqGuard, binOp, Op.shift, hb]) h
end

section
variable {ν : Nu} {r : Operand → Option Value} {H : HP} {c : QC} {dst : Option Nat} {ty : TypeId} {pos : String} {af : Array Edge} {gd : Option (Nat × Bool)} {t t' : TypeId} {x y : Operand}

theorem ibin_s {op : BinOp} {k k' : IntKind} {a b : Int} (hx : r x = some (.int k a)) (hy : r y = some (.int k' b)) (hk : (isSh op || kEq k k') = true) (h : ibin op k a b c = true) :
    ∃ av v, c av = true ∧ gv ν av = some v ∧ Quiet P cx ⟨dst, .binOp op t x y t', ty, pos, af, gd⟩ r fz H v := by
  have hk' : isSh op = false → k = k' := fun hs => by rw [hs] at hk; exact kEq_iff hk
  cases op with
  | add => have e := hk' rfl; subst e; exact qs_of (rI_iff h) (gv_i _ _ _) (q_add hx hy (wrp_eq _ _).symm rfl)
  | sub => have e := hk' rfl; subst e; exact qs_of (rI_iff h) (gv_i _ _ _) (q_sub hx hy (wrp_eq _ _).symm rfl)
  | mul => have e := hk' rfl; subst e; exact qs_of (rI_iff h) (gv_i _ _ _) (q_mul hx hy (wrp_eq _ _).symm rfl)
  | quo =>
    have e := hk' rfl; subst e
    have h' : br (rI k c (wrp k (a.tdiv b))) false (iEq b 0) = true := h
    cases hb : iEq b 0 with
    | true => rw [hb] at h'; cases h'
    | false =>
      rw [hb] at h'
      rw [iEq_eq, decide_eq_false_iff_not] at hb
      refine qs_of (rI_iff h') (gv_i _ _ _) (q_quo hx hy hb ?_)
      rw [wrp_eq]
  | rem =>
    have e := hk' rfl; subst e
    have h' : br (rI k c (a.tmod b)) false (iEq b 0) = true := h
    cases hb : iEq b 0 with
    | true => rw [hb] at h'; cases h'
    | false =>
      rw [hb] at h'
      rw [iEq_eq, decide_eq_false_iff_not] at hb
      exact qs_of (rI_iff h') (gv_i _ _ _) (q_remK hx hy hb rfl)
  | and => have e := hk' rfl; subst e; exact qs_of (rI_iff h) (gv_i _ _ _) (q_and hx hy rfl)
  | or => have e := hk' rfl; subst e; exact qs_of (rI_iff h) (gv_i _ _ _) (q_or hx hy rfl)
  | xor => have e := hk' rfl; subst e; exact qs_of (rI_iff h) (gv_i _ _ _) (q_xor hx hy rfl)
  | andNot => have e := hk' rfl; subst e; exact qs_of (rI_iff h) (gv_i _ _ _) (q_andNot hx hy rfl)
  | shl =>
    have h' : br (rI k c (k.wrap (a * 2 ^ (min b.toNat k.bits)))) false (iLt b 0) = true := h
    cases hb : iLt b 0 with
    | true => rw [hb] at h'; cases h'
    | false =>
      rw [hb] at h'
      rw [iLt_eq, decide_eq_false_iff_not] at hb
      exact qs_of (rI_iff h') (gv_i _ _ _) (q_shl hx hy hb rfl)
  | shr =>
    have h' : br (rI k c (a.fdiv (2 ^ (min b.toNat k.bits)))) false (iLt b 0) = true := h
    cases hb : iLt b 0 with
    | true => rw [hb] at h'; cases h'
    | false =>
      rw [hb] at h'
      rw [iLt_eq, decide_eq_false_iff_not] at hb
      exact qs_of (rI_iff h') (gv_i _ _ _) (q_shr hx hy hb rfl)
  | eql => have e := hk' rfl; subst e; exact qs_of (rB_iff h) (gv_b _ _) (q_eql hx hy (by rw [iEq_eq]))
  | neq => have e := hk' rfl; subst e; exact qs_of (rB_iff h) (gv_b _ _) (q_neq hx hy (by rw [iEq_eq]; simp))
  | lss => have e := hk' rfl; subst e; exact qs_of (rB_iff h) (gv_b _ _) (q_lss hx hy (by rw [iLt_eq]))
  | leq => have e := hk' rfl; subst e; exact qs_of (rB_iff h) (gv_b _ _) (q_leq hx hy (by rw [iLt_eq, dle]))
  | gtr => have e := hk' rfl; subst e; exact qs_of (rB_iff h) (gv_b _ _) (q_gtr hx hy (by rw [iLt_eq]))
  | geq => have e := hk' rfl; subst e; exact qs_of (rB_iff h) (gv_b _ _) (q_geq hx hy (by rw [iLt_eq, dle]))

/-! strings -/
theorem q_strOp {op : BinOp} {u w : ByteArray} {V : Value → Prop} {v : Value} (ho : op ≠ .shl ∧ op ≠ .shr) (hx : r x = some (.string u)) (hy : r y = some (.string w)) (hs : ∀ w0, (Op.stringOp op u w).run P w0 = .ok v w0) (h : V v) :
    DoesQ P cx ⟨dst, .binOp op t x y t', ty, pos, af, gd⟩ r fz H V :=
  doesQ_of (fun ρ w0 hr => by
    have hg : ∀ w0, (eqGuard op t x y (.string u) (.string w)).run P w0 = .ok () w0 := fun w0 => by
      unfold eqGuard; cases op <;> simp
    have hb : binOp op t (.string u) (.string w) = Op.stringOp op u w := by cases op <;> rfl
    simp only [execOp, hr _ _ hx, hr _ _ hy, Sem.run_bind, hg, Result.andThen_ok, hb, hs, Sem.run_pure]) h
theorem sbin_s {op : BinOp} {a b : List Nat} (ha : a.all (fun n => Nat.blt n 256) = true) (hb : b.all (fun n => Nat.blt n 256) = true) (hx : r x = some (.string (bs a))) (hy : r y = some (.string (bs b))) (h : sbin op a b c = true) :
    ∃ av v, c av = true ∧ gv ν av = some v ∧ Quiet P cx ⟨dst, .binOp op t x y t', ty, pos, af, gd⟩ r fz H v := by
  have hl : Op.bytesLess (bs a).toList (bs b).toList = sLt a b := by rw [bs_toList, bs_toList]; exact sLt_eq ha hb
  have he : ((bs a).toList == (bs b).toList) = sEq a b := by rw [str_beq]; exact bs_eq ha hb
  cases op with
  | add =>
    have h' : sCat a b c = true := h
    unfold sCat at h'
    rw [fS_eq] at h'
    obtain ⟨h1, h2⟩ := fT_iff h'
    rw [Nat.blt_eq] at h1
    refine qs_of h2 (v := .string (bs (a ++ b))) (by simp only [gv]; rw [if_pos (by simp [ha, hb])]) (q_strOp (by simp) hx hy (fun w0 => ?_) rfl)
    have : ¬ (((bs a).size + (bs b).size : Nat) : Int) > IntKind.i64.max := by
      rw [bs_size, bs_size]
      simp only [List.length_append] at h1
      simp [IntKind.max, IntKind.signed, IntKind.bits]
      omega
    simp only [Op.stringOp, if_neg this, bs_append, Sem.run_pure]
  | eql => exact qs_of (rB_iff h) (gv_b _ _) (q_strOp (by simp) hx hy (fun w0 => by simp only [Op.stringOp, he, Sem.run_pure]) rfl)
  | neq => exact qs_of (rB_iff h) (gv_b _ _) (q_strOp (by simp) hx hy (fun w0 => by simp only [Op.stringOp, he, Sem.run_pure]) rfl)
  | lss => exact qs_of (rB_iff h) (gv_b _ _) (q_strOp (by simp) hx hy (fun w0 => by simp only [Op.stringOp, hl, Sem.run_pure]) rfl)
  | leq => exact qs_of (rB_iff h) (gv_b _ _) (q_strOp (by simp) hx hy (fun w0 => by simp only [Op.stringOp, hl, he, Sem.run_pure]; rfl) rfl)
  | gtr => exact qs_of (rB_iff h) (gv_b _ _) (q_strOp (by simp) hx hy (fun w0 => by simp only [Op.stringOp, hl, he, Sem.run_pure]; rfl) rfl)
  | geq => exact qs_of (rB_iff h) (gv_b _ _) (q_strOp (by simp) hx hy (fun w0 => by simp only [Op.stringOp, hl, Sem.run_pure]) rfl)
  | sub => cases h
  | mul => cases h
  | quo => cases h
  | rem => cases h
  | and => cases h
  | or => cases h
  | xor => cases h
  | shl => cases h
  | shr => cases h
  | andNot => cases h

/-! equality with nil -/
/-- an equality whose answer is known -/
theorem q_eqv {neg z : Bool} {u w : Value} {V : Value → Prop} (hx : r x = some u) (hy : r y = some w) (hg : ∀ op w0, (eqGuard op t x y u w).run P w0 = .ok () w0) (he : ∀ w0, (Op.equal t u w).run P w0 = .ok z w0)
    (hb : binOp (br .eql .neq neg) t u w = br (do pure (.bool (← Op.equal t u w))) (do pure (.bool (!(← Op.equal t u w)))) neg) (h : V (.bool (z != neg))) :
    DoesQ P cx ⟨dst, .binOp (br .eql .neq neg) t x y t', ty, pos, af, gd⟩ r fz H V :=
  doesQ_of (fun ρ w0 hr => by
    simp only [execOp, hr _ _ hx, hr _ _ hy, Sem.run_bind, hg, Result.andThen_ok, hb]
    cases neg <;> simp only [br_true, br_false, Sem.run_bind, he, Result.andThen_ok, Sem.run_pure] <;> cases z <;> rfl) h
theorem guard_any {op : BinOp} {u w : Value} (h1 : ¬ (u = .nilIface ∧ w = .nilIface)) (h2 : ∀ c, u ≠ .agg c) (w0 : World) : (eqGuard op t x y u w).run P w0 = .ok () w0 := by
  unfold eqGuard
  cases op <;> simp only [Bool.not_true, Bool.not_false, if_true, Bool.false_eq_true, if_false, Sem.run_pure] <;>
    (split <;> first | rfl | (exact absurd ⟨rfl, rfl⟩ h1) | (exact absurd rfl (h2 _)) | simp_all)

theorem eq_step {d : TypeDesc} {u w : Value} {z : Bool} (w0 : World) (hu : P.underlying t = some d) (h : ∀ n, (match d, u, w with
    | .bool, .bool a, .bool b => pure (a == b)
    | .pointer _, .pointer none, .pointer b => pure b.isNone
    | .pointer _, .pointer _, .pointer none => pure false
    | .interface _, .nilIface, .nilIface => pure true
    | .interface _, .nilIface, .iface _ _ | .interface _, .iface _ _, .nilIface => pure false
    | .slice _, .slice none _ _, .slice b _ _ => pure b.isNone
    | .slice _, .slice _ _ _, .slice none _ _ => pure false
    | .map _ _, .map none, .map b => pure b.isNone
    | .map _ _, .map _, .map none => pure false
    | .func _ _ _, .nilFunc, .nilFunc => pure true
    | .func _ _ _, .nilFunc, .func _ _ _ | .func _ _ _, .func _ _ _, .nilFunc => pure false
    | _, _, _ => Op.equalIn n t u w : Sem Bool).run P w0 = .ok z w0) : (Op.equal t u w).run P w0 = .ok z w0 := by
  have : ∀ n, (Op.equalIn (n + 1) t u w).run P w0 = .ok z w0 := fun n => by
    have hn := h (n + 1)
    split at hn
    all_goals first
      | (unfold Op.equalIn; simp only [Sem.run_bind, run_underlying hu, Result.andThen_ok]; exact hn)
      | exact hn
  exact this 9999

theorem eqv_s (hT : TA tT T) {neg : Bool} {a b : AV} {u w : Value} (ha : gv ν a = some u) (hb : gv ν b = some w) (hx : r x = some u) (hy : r y = some w) (h : eqv tT neg t (isC x || isC y) a b c = true) :
    ∃ av v, c av = true ∧ gv ν av = some v ∧ Quiet P cx ⟨dst, .binOp (br .eql .neq neg) t x y t', ty, pos, af, gd⟩ r fz H v := by
  obtain ⟨A, hA, h⟩ := fO_iff h
  obtain ⟨z, hz, h⟩ := fO_iff h
  obtain ⟨X, hX, hR⟩ := hT t A hA
  have fin : ∀ (d : TypeDesc), P.underlying t = some d → (¬ (u = .nilIface ∧ w = .nilIface)) → (∀ c, u ≠ .agg c) → (∀ w0, (Op.equal t u w).run P w0 = .ok z w0) →
      (binOp (br .eql .neq neg) t u w = br (do pure (.bool (← Op.equal t u w))) (do pure (.bool (!(← Op.equal t u w)))) neg) →
      ∃ av v, c av = true ∧ gv ν av = some v ∧ Quiet P cx ⟨dst, .binOp (br .eql .neq neg) t x y t', ty, pos, af, gd⟩ r fz H v := fun d hu h1 h2 h3 h4 =>
    qs_of (rB_iff h) (gv_b _ _) (q_eqv hx hy (fun op w0 => guard_any h1 h2 w0) h3 h4 rfl)
  cases a with
  | b p =>
    obtain ⟨hk, hz⟩ := oT_iff hz
    obtain ⟨q, hq, hz⟩ := oB_iff hz
    injection hz with hz; subst hz
    have e1 : u = .bool p := by simp only [gv] at ha; injection ha with ha; exact ha.symm
    have e2 := asB_iff hq hb
    subst e1 e2
    have hu := und_plain T hX (hR.d0 (Nat.eq_of_beq_eq_true hk)) rfl
    exact fin _ hu (by simp) (by simp) (fun w0 => eq_step w0 hu (fun n => by simp)) (by cases neg <;> rfl)
  | p p =>
    obtain ⟨hk, hz⟩ := oT_iff hz
    have hu := und_plain T hX (hR.d3 (Nat.eq_of_beq_eq_true hk)) rfl
    cases b with
    | p q =>
      simp only at hz
      simp only [gv] at ha hb
      cases hp : gA ν p with
      | none => simp [hp] at ha
      | some P1 =>
        cases hq : gA ν q with
        | none => simp [hq] at hb
        | some Q1 =>
          simp [hp] at ha; simp [hq] at hb
          subst ha hb
          cases p with
          | none =>
            cases q with
            | none =>
              simp [gA] at hp hq; subst hp hq
              injection hz with hz; subst hz
              exact fin _ hu (by simp) (by simp) (fun w0 => eq_step w0 hu (fun n => by simp)) (by cases neg <;> rfl)
            | some q =>
              simp [gA] at hp; subst hp
              injection hz with hz; subst hz
              cases Q1 with
              | none => simp [gA] at hq
              | some Q => exact fin _ hu (by simp) (by simp) (fun w0 => eq_step w0 hu (fun n => by simp)) (by cases neg <;> rfl)
          | some p =>
            cases q with
            | none =>
              simp [gA] at hq; subst hq
              injection hz with hz; subst hz
              cases P1 with
              | none => simp [gA] at hp
              | some Q => exact fin _ hu (by simp) (by simp) (fun w0 => eq_step w0 hu (fun n => by simp)) (by cases neg <;> rfl)
            | some q => cases hz
    | _ => simp at hz
  | ni =>
    obtain ⟨hk, hz⟩ := oT_iff hz
    obtain ⟨ms, hd⟩ := hR.d7 (Nat.eq_of_beq_eq_true hk)
    have hu := und_interface T hX hd
    simp only [gv] at ha; injection ha with ha; subst ha
    cases b with
    | ifc tt vv =>
      simp only [gv] at hb
      cases hv : gv ν vv with
      | none => simp [hv] at hb
      | some V =>
        simp [hv] at hb; subst hb
        simp only at hz
        injection hz with hz; subst hz
        exact fin _ hu (by simp) (by simp) (fun w0 => eq_step w0 hu (fun n => by simp)) (by cases neg <;> rfl)
    | ni =>
      obtain ⟨hcon, hz⟩ := oT_iff hz
      injection hz with hz; subst hz
      simp only [gv] at hb; injection hb with hb; subst hb
      refine qs_of (rB_iff h) (gv_b _ _) (q_eqv hx hy (fun op w0 => ?_) (fun w0 => eq_step w0 hu (fun n => by simp)) (by cases neg <;> rfl) rfl)
      unfold eqGuard
      cases x <;> cases y <;> simp [isC] at hcon <;> cases op <;> simp
    | _ => simp at hz
  | ifc tt vv =>
    obtain ⟨hk, hz⟩ := oT_iff hz
    obtain ⟨ms, hd⟩ := hR.d7 (Nat.eq_of_beq_eq_true hk)
    have hu := und_interface T hX hd
    simp only [gv] at ha
    cases hv : gv ν vv with
    | none => simp [hv] at ha
    | some V =>
      simp [hv] at ha; subst ha
      cases b with
      | ni =>
        simp only at hz
        injection hz with hz; subst hz
        simp only [gv] at hb; injection hb with hb; subst hb
        exact fin _ hu (by simp) (by simp) (fun w0 => eq_step w0 hu (fun n => by simp)) (by cases neg <;> rfl)
      | _ => simp at hz
  | sl p n lo sy =>
    obtain ⟨hk, hz⟩ := oT_iff hz
    obtain ⟨q, hq, hz⟩ := oB_iff hz
    obtain ⟨hqn, hz⟩ := oT_iff hz
    injection hz with hz; subst hz
    have hu := und_plain T hX (hR.d4 (Nat.eq_of_beq_eq_true hk)) rfl
    obtain ⟨A1, c1, h1, _, _, rfl⟩ := asL_iff (a := .sl p n lo sy) rfl ha
    obtain ⟨A2, c2, h2, _, _, rfl⟩ := asL_iff hq hb
    have hqa : q.a = none := by simpa using hqn
    rw [hqa] at h2
    simp [gA] at h2; subst h2
    simp only at h1
    cases p with
    | none =>
      simp [gA] at h1; subst h1
      exact fin _ hu (by simp) (by simp) (fun w0 => eq_step w0 hu (fun n => by simp)) (by cases neg <;> rfl)
    | some p =>
      cases A1 with
      | none => simp [gA] at h1
      | some A1 => exact fin _ hu (by simp) (by simp) (fun w0 => eq_step w0 hu (fun n => by simp)) (by cases neg <;> rfl)
  | m p =>
    obtain ⟨hk, hz⟩ := oT_iff hz
    obtain ⟨q, hq, hz⟩ := oB_iff hz
    obtain ⟨hqn, hz⟩ := oT_iff hz
    injection hz with hz; subst hz
    have hu := und_plain T hX (hR.d6 (Nat.eq_of_beq_eq_true hk)) rfl
    obtain ⟨A1, h1, rfl⟩ := asM_iff (a := .m p) rfl ha
    obtain ⟨A2, h2, rfl⟩ := asM_iff hq hb
    have hqa : q = none := by simpa using hqn
    subst hqa
    simp [gM] at h2; subst h2
    cases p with
    | none =>
      simp [gM] at h1; subst h1
      exact fin _ hu (by simp) (by simp) (fun w0 => eq_step w0 hu (fun n => by simp)) (by cases neg <;> rfl)
    | some p =>
      cases A1 with
      | none => simp [gM] at h1
      | some A1 => exact fin _ hu (by simp) (by simp) (fun w0 => eq_step w0 hu (fun n => by simp)) (by cases neg <;> rfl)
  | nf =>
    obtain ⟨hk, hz⟩ := oT_iff hz
    obtain ⟨f1, f2, f3, hd⟩ := hR.d8 (Nat.eq_of_beq_eq_true hk)
    obtain ⟨d', hu, hdd⟩ := (T.ok_ hX).und
    rw [hd] at hdd
    simp only [gv] at ha; injection ha with ha; subst ha
    cases b with
    | nf =>
      simp only at hz
      injection hz with hz; subst hz
      simp only [gv] at hb; injection hb with hb; subst hb
      cases d' with
      | func a1 a2 a3 => exact fin _ hu (by simp) (by simp) (fun w0 => eq_step w0 hu (fun n => by simp)) (by cases neg <;> rfl)
      | _ => exact absurd hdd (by intro hc; cases hc)
    | _ => simp at hz
  | f g xs ys =>
    obtain ⟨hk, hz⟩ := oT_iff hz
    obtain ⟨f1, f2, f3, hd⟩ := hR.d8 (Nat.eq_of_beq_eq_true hk)
    obtain ⟨d', hu, hdd⟩ := (T.ok_ hX).und
    rw [hd] at hdd
    obtain ⟨us, vs, _, _, rfl⟩ := asF_iff (a := .f g xs ys) rfl ha
    cases b with
    | nf =>
      simp only at hz
      injection hz with hz; subst hz
      simp only [gv] at hb; injection hb with hb; subst hb
      cases d' with
      | func a1 a2 a3 => exact fin _ hu (by simp) (by simp) (fun w0 => eq_step w0 hu (fun n => by simp)) (by cases neg <;> rfl)
      | _ => exact absurd hdd (by intro hc; cases hc)
    | _ => simp at hz
  | i _ _ => cases hz
  | s _ => cases hz
  | agg _ => cases hz
  | tup _ => cases hz
end
end
end Go.Ev
