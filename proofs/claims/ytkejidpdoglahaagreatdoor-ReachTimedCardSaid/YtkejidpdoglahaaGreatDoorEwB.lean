/- The evaluator is sound: if it answers true, every run of the model's code ends as asked. Conditions: none. -/
import Derived.Test.YtkejidpdoglahaaGreatDoorEwA
namespace Go.Ev
open Go.Lx Go.RowKit

section
variable {P : Program} {tT : TT} {T : Tab P}

def M (P : Program) (tT : TT) (n : Nat) : Wk → St → CK → Prop
  | .code c => fun s k => MCode P tT c s k
  | .ops all l => fun s k => MOps P tT all l s k
  | .call g args => fun s k => MCall P tT g args s k
  | .dr all σ rem ve pend kept => fun s k => MDr P tT n all σ rem ve pend kept s k
  | .ds all σ ve pend kept => fun s k => MDs P tT n all σ ve pend kept s k

theorem sThen_s {cx : Cx} {c : Code} {n : Nat} {ih : IH} {fz : FZ} {ν0 : Nu} {nx0 nt : Nat} {Fm : HP} {k : CK} {x : Exit} {σ : Env} {fz' : FZ} {H : HP} (hcode : ∀ c s k, ih (.code c) s k = true → MCode P tT c s k) (hnt : nt = n)
    (h : QE tT fz ν0 nx0 nt Fm (sThen ih (.code c) k) x σ fz' H) : andThen P cx n c (QE tT fz ν0 nx0 nt Fm k) x σ fz' H := by
  obtain ⟨h1, ν', s', h2, h3, h4, h5, h6, h7, h8⟩ := h
  subst h1 hnt
  unfold andThen
  cases x with
  | normal =>
    have := hcode _ _ _ h8 cx fz' ν0 nx0 ν' σ H Fm h2 h3 h5 h6 h7
    rw [h4] at this
    exact this
  | _ => exact ⟨rfl, ν', s', h2, h3, h4, h5, h6, h7, h8⟩
theorem sBlk_s {id : Nat} {fz : FZ} {ν0 : Nu} {nx0 nt : Nat} {Fm : HP} {k : CK} {x : Exit} {σ : Env} {fz' : FZ} {H : HP} (h : QE tT fz ν0 nx0 nt Fm (sBlk id k) x σ fz' H) : blkQ id (QE tT fz ν0 nx0 nt Fm k) x σ fz' H := by
  obtain ⟨h1, ν', s', h2, h3, h4, h5, h6, h7, h8⟩ := h
  unfold blkQ
  cases x with
  | exit i =>
    have h8' : br (k (.exit i) s') (k .normal s') (Nat.beq i id) = true := h8
    simp only
    cases hb : Nat.beq i id with
    | true => rw [hb] at h8'; exact ⟨h1, ν', s', h2, h3, h4, h5, h6, h7, h8'⟩
    | false => rw [hb] at h8'; exact ⟨h1, ν', s', h2, h3, h4, h5, h6, h7, h8'⟩
  | _ => exact ⟨h1, ν', s', h2, h3, h4, h5, h6, h7, h8⟩
/-- slots, each once -/
def dd : Env → Env
  | [] => []
  | (i, v) :: r => (i, v) :: (dd r).filter fun p => !Nat.beq p.1 i
theorem lk_filter {i j : Nat} (h : i ≠ j) : ∀ σ : Env, lk (σ.filter fun p => !Nat.beq p.1 i) j = lk σ j
  | [] => rfl
  | (k, v) :: r => by
    by_cases hk : k = i
    · subst hk
      rw [List.filter_cons_of_neg (by simp), lk_filter h r, lk_cons_ne _ _ h]
    · rw [List.filter_cons_of_pos (by simp; exact beq_false hk)]
      by_cases hj : k = j
      · subst hj; rw [lk_cons_same, lk_cons_same]
      · rw [lk_cons_ne _ _ hj, lk_cons_ne _ _ hj, lk_filter h r]
theorem lk_dd : ∀ (σ : Env) (j : Nat), lk (dd σ) j = lk σ j
  | [], _ => rfl
  | (i, v) :: r, j => by
    unfold dd
    by_cases hij : i = j
    · subst hij; rw [lk_cons_same, lk_cons_same]
    · rw [lk_cons_ne _ _ hij, lk_cons_ne _ _ hij, lk_filter hij, lk_dd r]
theorem mem_dd : ∀ (σ : Env) (p : Nat × Value), p ∈ dd σ → lk σ p.1 = some p.2
  | [], p, h => by cases h
  | (i, v) :: r, p, h => by
    unfold dd at h
    cases h with
    | head => exact lk_cons_same _ _ _
    | tail _ h =>
      obtain ⟨h1, h2⟩ := List.mem_filter.1 h
      have hne : i ≠ p.1 := fun he => by rw [← he, Nat.beq_refl] at h2; cases h2
      rw [lk_cons_ne _ _ hne]
      exact mem_dd r p h1
theorem sub_of : ∀ (l σ : Env), (∀ p ∈ l, lk σ p.1 = some p.2) → Sub l σ
  | [], _, _ => trivial
  | (i, v) :: r, σ, h => ⟨h (i, v) (by simp), sub_of r σ fun p hp => h p (by simp [hp])⟩
theorem sub_dd (σ : Env) : Sub (dd σ) σ := sub_of _ _ (mem_dd σ)
theorem ER.dd {ν : Nu} {e : Tr AV} {σ : Env} (h : ER ν e σ) : ER ν e (dd σ) := h.ext fun i v hv => by rw [lk_dd]; exact hv
theorem sCode_s {F : FF} {n : Nat} {c : Code} {s : St} {k : CK} (hm : P.follows .mixedOrders = true) (ihs : ∀ m, m ≤ n → ∀ w s k, ev tT F m w s k = true → M P tT m w s k) (hf : sCode c (ev tT F n) s k = true) : MCode P tT c s k := fun cx fz ν0 nx0 ν σ H Fm hle hnx he hh hfr => by
  have hcode : ∀ c s k, ev tT F n (.code c) s k = true → MCode P tT c s k := fun c s k h => ihs n (Nat.le_refl _) (.code c) s k h
  cases c with
  | skip => exact Wp.skip (QE.of hle hnx he hh hfr hf)
  | region id ops draw =>
    have hf' : sReg ops.toList draw (ev tT F n) s k = true := hf
    unfold sReg at hf'
    have e : ops = ops.toList.toArray := by simp
    rw [e]
    cases draw with
    | false =>
      rw [br_false] at hf'
      have := ihs n (Nat.le_refl _) (.ops ops.toList ops.toList) s k hf' cx fz ν0 nx0 ν σ H Fm hle hnx he hh hfr
      exact Wp.region this
    | true =>
      rw [br_true] at hf'
      obtain ⟨hc, hf'⟩ := fT_iff hf'
      simp only [Bool.and_eq_true] at hc
      have := ihs n (Nat.le_refl _) (.dr ops.toList s.env (num 0 ops.toList) .lf [] []) s k hf' cx fz ν0 nx0 ν σ [] σ [] H Fm hle hnx he (VR.e ν) he trivial hh hfr
      exact Wp.drawG (fk := fk) (fl := flD P ops.toList σ) hm hc.1 hc.2 flD_mono (fun i o ve obj mk h => ⟨(flD_spec h).1, (flD_spec h).2.2⟩) (fun i o ve obj mk h => (flD_spec h).2.1) (Dr_succ this)
  | seq a b =>
    have hf' : ev tT F n (.code a) s (sThen (ev tT F n) (.code b) k) = true := hf
    exact Wp.seq ((hcode _ _ _ hf' cx fz ν0 nx0 ν σ H Fm hle hnx he hh hfr).mono fun x σ' fz' H' h => sThen_s hcode rfl h)
  | cond c a b =>
    obtain ⟨v, hv, hf⟩ := fO_iff (show (fO (rdo s.env c) fun v => fO (asB v) fun t => br (ev tT F n (.code b) s k) (ev tT F n (.code a) s k) t) = true from hf)
    obtain ⟨t, ht, hf⟩ := fO_iff hf
    obtain ⟨u, h1, h2⟩ := he.rr c v hv
    have e := asB_iff ht h1
    subst e
    cases t with
    | true => exact Wp.cond_true h2 (hcode _ _ _ hf cx fz ν0 nx0 ν σ H Fm hle hnx he hh hfr)
    | false => exact Wp.cond_false h2 (hcode _ _ _ hf cx fz ν0 nx0 ν σ H Fm hle hnx he hh hfr)
  | block id c =>
    have hf' : ev tT F n (.code c) s (sBlk id k) = true := hf
    exact Wp.block ((hcode _ _ _ hf' cx fz ν0 nx0 ν σ H Fm hle hnx he hh hfr).mono fun x σ' fz' H' h => sBlk_s h)
  | loop c =>
    have hf' : ev tT F n (.code c) s (sThen (ev tT F n) (.code (.loop c)) k) = true := hf
    -- the rounds: as long as there is fuel
    let I : Nat → Env → FZ → HP → Prop := fun m σ' fz' H' => m ≤ n + 1 ∧ fz' = fz ∧ ∃ ν' s', ν0.le ν' ∧ nx0 ≤ s'.nx ∧ s'.nt = s.nt ∧ ER ν' s'.env σ' ∧ HR tT ν' s'.heap H' Fm ∧ Fresh ν' s'.nx ∧ ev tT F m (.code (.loop c)) s' k = true
    refine Wp.loop I (m0 := n + 1) (σ0 := dd σ) (H0 := H) ⟨Nat.le_refl _, rfl, ν, s, hle, hnx, rfl, he.dd, hh, hfr, hf⟩ (sub_dd σ) (List.Sublist.refl _) ?_
    rintro m σ1 fz1 H1 ⟨hmn, e1, ν', s', h2, h3, h4, h5, h6, h7, h8⟩
    subst e1
    cases m with
    | zero => cases h8
    | succ m =>
      have h8' : ev tT F m (.code c) s' (sThen (ev tT F m) (.code (.loop c)) k) = true := h8
      have := ihs m (by omega) (.code c) s' _ h8' cx fz1 ν0 nx0 ν' σ1 H1 Fm h2 h3 h5 h6 h7
      rw [h4] at this
      refine this.mono fun x σ' fz' H' ⟨g1, ν2, s2, g2, g3, g4, g5, g6, g7, g8⟩ => ?_
      subst g1
      unfold loopQ
      cases x with
      | normal => exact ⟨m, dd σ', H', by omega, sub_dd σ', List.Sublist.refl _, by omega, rfl, ν2, s2, g2, g3, g4, g5.dd, g6, g7, g8⟩
      | _ => exact ⟨rfl, ν2, s2, g2, g3, g4, g5, g6, g7, g8⟩
  | rangeFunc => cases hf
  | exit id => exact Wp.exit (QE.of hle hnx he hh hfr hf)
  | scope => cases hf
  | label id => exact Wp.label (QE.of hle hnx he hh hfr hf)
  | goto => cases hf
  | ret => exact Wp.ret (QE.of hle hnx he hh hfr hf)
  | refuse => cases hf

/-- the evaluator is sound -/
theorem ev_s {F : FF} (hT : TA tT T) (hF : FA P tT F) (hm : P.follows .mixedOrders = true) : ∀ n w s k, ev tT F n w s k = true → M P tT n w s k := by
  intro n
  induction n using Nat.strongRecOn with
  | _ n ih =>
    intro w s k hf
    cases n with
    | zero => cases hf
    | succ n =>
      have hf' : step w tT F (ev tT F n) s k = true := hf
      have ihs : ∀ m, m ≤ n → ∀ w s k, ev tT F m w s k = true → M P tT m w s k := fun m hmn => ih m (by omega)
      have hn := ihs n (Nat.le_refl _)
      have hcode : ∀ c s k, ev tT F n (.code c) s k = true → MCode P tT c s k := fun c s k h => hn (.code c) s k h
      have hcall : ∀ g args s k, ev tT F n (.call g args) s k = true → MCall P tT g args s k := fun g args s k h => hn (.call g args) s k h
      have hops : ∀ all l s k, ev tT F n (.ops all l) s k = true → MOps P tT all l s k := fun all l s k h => hn (.ops all l) s k h
      have hdr : ∀ all σA rem veA pendA kept s k, ev tT F n (.dr all σA rem veA pendA kept) s k = true → MDr P tT n all σA rem veA pendA kept s k := fun all σA rem veA pendA kept s k h => hn (.dr all σA rem veA pendA kept) s k h
      have hds : ∀ all σA veA pendA kept s k, ev tT F n (.ds all σA veA pendA kept) s k = true → MDs P tT n all σA veA pendA kept s k := fun all σA veA pendA kept s k h => hn (.ds all σA veA pendA kept) s k h
      cases w with
      | code c => exact sCode_s hm ihs hf'
      | ops all l => exact sOps_s hT hcall hops hf'
      | call g args => exact sCall_s hT hF hcode hf'
      | dr all σ rem ve pend kept => exact sDr_s hT hdr hds hf'
      | ds all σ ve pend kept => exact sDs_s hT hcall hdr hf'

/-- a call with closed arguments that do not name memory -/
theorem evCall_s {F : FF} {n : Nat} {f : FuncId} {args : List AV} {vs : List Value} {k : AV → Bool} {fz : FZ} (hT : TA tT T) (hF : FA P tT F) (hm : P.follows .mixedOrders = true) (hv : ∀ ν, gvs ν args = some vs) (hf : evCall tT F n f args k = true) :
    GFn P f vs fz [] fun v fz' _ => fz' = fz ∧ ∃ ν av, gv ν av = some v ∧ k av = true := by
  let ν : Nu := ⟨fun _ => none, fun _ => none, fun _ => none⟩
  have := ev_s hT hF hm n (.call f args) ⟨.lf, .lf, 0, 0⟩ _ hf fz ν vs [] [] (hv ν) ⟨(fun _ _ h => by cases h), (fun _ _ _ _ _ h => by cases h), by simp, (fun _ _ _ _ _ h => by cases h)⟩ (fun _ _ => ⟨rfl, rfl, rfl⟩)
  refine this.mono fun v fz' H' ⟨h1, ν', av, h', nx', e, h2, h3, h4, h5, h6, h7, h8⟩ => ⟨h1, ν', av, h4, ?_⟩
  simp only [h7] at h8
  exact h8
/-- a call that was evaluated is known from then on -/
theorem evMem_s {F : FF} {n : Nat} {f : FuncId} {m : Mem} (hT : TA tT T) (hF : FA P tT F) (hm : P.follows .mixedOrders = true) (hf : evMem tT F n f m = true) : MemoOk P tT f m := by
  obtain ⟨h0, hf, hg⟩ := setAll_s hf
  refine ⟨h0, fun id o ho => (hg id o ho).elim (fun h => h) (fun h => by cases h), fun fz ν vs H Fm hv hh hfr => ?_⟩
  refine (ev_s hT hF hm n (.call f m.args) ⟨.lf, h0, m.nx, 0⟩ _ hf fz ν vs H Fm hv hh hfr).mono fun v fz' H' ⟨h1, ν', av, h', nx', e, h2, h3, h4, h5, h6, h7, h8⟩ => ?_
  have h8' : (fO (e.get 0) fun v => avEq v m.res && (subH h' m.h' && Nat.ble nx' m.nx')) = true := h8
  rw [h7] at h8'
  have h9 : (avEq av m.res && (subH h' m.h' && Nat.ble nx' m.nx')) = true := h8'
  simp only [Bool.and_eq_true, Nat.ble_eq] at h9
  have := avEq_iff _ _ h9.1
  subst this
  exact ⟨h1, ν', h', h2, h4, h5, subH_s h9.2.1, fun i hi => h6 i (Nat.le_trans h9.2.2 hi)⟩
end
end Go.Ev
#print axioms Go.Ev.evCall_s
