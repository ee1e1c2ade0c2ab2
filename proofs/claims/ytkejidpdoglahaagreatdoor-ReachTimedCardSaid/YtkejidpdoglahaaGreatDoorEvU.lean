/- The evaluator's steps and what they mean: code, rows of operations, calls. Conditions: none. -/
import Derived.Test.YtkejidpdoglahaaGreatDoorEvT
namespace Go.Ev
open Go.Lx Go.RowKit

/-! ### equality of values is known by looking -/
theorem oEq_iff : ∀ {a b : Option (Nat × Nat)}, oEq a b = true → a = b
  | none, none, _ => rfl
  | none, some _, h => by cases h
  | some _, none, h => by cases h
  | some (a, b), some (c, d), h => by
    simp only [oEq, Bool.and_eq_true] at h
    rw [Nat.eq_of_beq_eq_true h.1, Nat.eq_of_beq_eq_true h.2]
mutual
theorem avEq_iff : ∀ (a b : AV), avEq a b = true → a = b
  | .b x, b, h => by
    cases b with
    | b y => simp only [avEq, beq_iff_eq] at h; rw [h]
    | _ => cases h
  | .i k x, b, h => by
    cases b with
    | i k' y => simp only [avEq, Bool.and_eq_true, iEq_eq, decide_eq_true_iff] at h; rw [kEq_iff h.1, h.2]
    | _ => cases h
  | .s x, b, h => by
    cases b with
    | s y => simp only [avEq, sEq_iff] at h; rw [h]
    | _ => cases h
  | .p x, b, h => by
    cases b with
    | p y => simp only [avEq] at h; rw [oEq_iff h]
    | _ => cases h
  | .sl a n c s, b, h => by
    cases b with
    | sl a' n' c' s' =>
      simp only [avEq, Bool.and_eq_true] at h
      rw [oEq_iff h.1, Nat.eq_of_beq_eq_true h.2.1, Nat.eq_of_beq_eq_true h.2.2.1, oEq_iff h.2.2.2]
    | _ => cases h
  | .m x, b, h => by
    cases b with
    | m y =>
      cases x with
      | none =>
        cases y with
        | none => rfl
        | some _ => cases h
      | some x =>
        cases y with
        | none => cases h
        | some y => simp only [avEq] at h; rw [Nat.eq_of_beq_eq_true h]
    | _ => cases x <;> cases h
  | .f g x y, b, h => by
    cases b with
    | f g' x' y' =>
      simp only [avEq, Bool.and_eq_true] at h
      rw [Nat.eq_of_beq_eq_true h.1, avsEq_iff _ _ h.2.1, avsEq_iff _ _ h.2.2]
    | _ => cases h
  | .nf, b, h => by
    cases b with
    | nf => rfl
    | _ => cases h
  | .ifc t v, b, h => by
    cases b with
    | ifc t' v' =>
      simp only [avEq, Bool.and_eq_true] at h
      rw [Nat.eq_of_beq_eq_true h.1, avEq_iff _ _ h.2]
    | _ => cases h
  | .ni, b, h => by
    cases b with
    | ni => rfl
    | _ => cases h
  | .agg x, b, h => by
    cases b with
    | agg y => simp only [avEq] at h; rw [avsEq_iff _ _ h]
    | _ => cases h
  | .tup x, b, h => by
    cases b with
    | tup y => simp only [avEq] at h; rw [avsEq_iff _ _ h]
    | _ => cases h
theorem avsEq_iff : ∀ (a b : List AV), avsEq a b = true → a = b
  | [], b, h => by
    cases b with
    | nil => rfl
    | cons _ _ => cases h
  | x :: r, b, h => by
    cases b with
    | nil => cases h
    | cons y q =>
      simp only [avsEq, Bool.and_eq_true] at h
      rw [avEq_iff _ _ h.1, avsEq_iff _ _ h.2]
end
theorem esEq_iff : ∀ {a b : List (AV × AV × Nat)}, esEq a b = true → a = b
  | [], [], _ => rfl
  | [], _ :: _, h => by cases h
  | _ :: _, [], h => by cases h
  | (a, b, n) :: r, (a', b', n') :: q, h => by
    simp only [esEq, Bool.and_eq_true] at h
    rw [avEq_iff _ _ h.1, avEq_iff _ _ h.2.1, Nat.eq_of_beq_eq_true h.2.2.1, esEq_iff h.2.2.2]
theorem onEq_iff : ∀ {a b : Option Nat}, onEq a b = true → a = b
  | none, none, _ => rfl
  | none, some _, h => by cases h
  | some _, none, h => by cases h
  | some a, some b, h => by rw [Nat.eq_of_beq_eq_true h]
theorem aoEq_iff {a b : AO} (h : aoEq a b = true) : a = b := by
  cases a with
  | cells x e s f =>
    cases b with
    | cells y e' s' f' =>
      simp only [aoEq, Bool.and_eq_true, beq_iff_eq] at h
      rw [avsEq_iff _ _ h.1, Nat.eq_of_beq_eq_true h.2.1, onEq_iff h.2.2.1, h.2.2.2]
    | _ => cases h
  | map x c =>
    cases b with
    | map y c' =>
      simp only [aoEq, Bool.and_eq_true] at h
      rw [esEq_iff h.1, Nat.eq_of_beq_eq_true h.2]
    | _ => cases h
  | mit m a l z =>
    cases b with
    | mit m' a' l' b' =>
      simp only [aoEq, Bool.and_eq_true, sEq_iff] at h
      rw [onEq_iff h.1, Nat.eq_of_beq_eq_true h.2.1, h.2.2.1, Nat.eq_of_beq_eq_true h.2.2.2]
    | _ => cases h
/-- where the evaluator goes on -/
def QE (tT : TT) (fz : FZ) (ν : Nu) (nx nt : Nat) (Fm : HP) (k : CK) : QQ := fun x σ' fz' H' =>
  fz' = fz ∧ ∃ ν' s', ν.le ν' ∧ nx ≤ s'.nx ∧ s'.nt = nt ∧ ER ν' s'.env σ' ∧ HR tT ν' s'.heap H' Fm ∧ Fresh ν' s'.nx ∧ k x s' = true
def MCode (P : Program) (tT : TT) (c : Code) (s : St) (k : CK) : Prop := ∀ cx fz ν0 nx0 ν σ H Fm, ν0.le ν → nx0 ≤ s.nx → ER ν s.env σ → HR tT ν s.heap H Fm → Fresh ν s.nx → Wp P cx s.nt c σ fz H (QE tT fz ν0 nx0 s.nt Fm k)
def MOps (P : Program) (tT : TT) (all l : List Oper) (s : St) (k : CK) : Prop := ∀ cx fz ν0 nx0 ν σ H Fm, ν0.le ν → nx0 ≤ s.nx → ER ν s.env σ → HR tT ν s.heap H Fm → Fresh ν s.nx → Seq P cx s.nt all.toArray l σ fz H (QE tT fz ν0 nx0 s.nt Fm k)

theorem QE.of {tT : TT} {fz : FZ} {ν0 ν : Nu} {nx0 : Nat} {σ : Env} {H Fm : HP} {s : St} {k : CK} {x : Exit} (hle : ν0.le ν) (hnx : nx0 ≤ s.nx) (he : ER ν s.env σ) (hh : HR tT ν s.heap H Fm) (hfr : Fresh ν s.nx) (hk : k x s = true) : QE tT fz ν0 nx0 s.nt Fm k x σ fz H :=
  ⟨rfl, ν, s, hle, hnx, rfl, he, hh, hfr, hk⟩

section
variable {P : Program} {tT : TT} {T : Tab P}

/-! ### rows of operations -/
theorem Seq.stepG {cx : Cx} {n : Nat} {ops : Array Oper} {rest : List Oper} {σ : Env} {fz : FZ} {H : HP} {Q : QQ} {o : Oper} (hw : ∀ a, Sat n σ a → Region.wanted o (yielded ops a.tmps) = true) 
    (h : Does P cx o (rd σ) fz H fun v fz' H' => (∀ d, o.dst = some d → d < n) ∧ Seq P cx n ops rest (putT o.dst v σ) fz' H' Q) : Seq P cx n ops (o :: rest) σ fz H Q :=
  Seq.of fun a w hs hi => by
    unfold wpList
    rw [if_pos (hw a hs)]
    refine .inl (OpPost.wp ((h.run a.eval w hs.reads hi).mono fun v w' ⟨fz', H', h1, hd, h2⟩ => ?_))
    refine h2.run _ _ ?_ h1
    cases hdst : o.dst with
    | none => exact hs
    | some d => exact hs.put d (hd d hdst) v
theorem Seq.stepOff {cx : Cx} {n : Nat} {ops : Array Oper} {rest : List Oper} {σ : Env} {fz : FZ} {H : HP} {Q : QQ} {o : Oper} (hw : ∀ a, Sat n σ a → Region.wanted o (yielded ops a.tmps) = false) (hd : ∀ d, o.dst = some d → d < n)
    (h : Seq P cx n ops rest (putT o.dst undef σ) fz H Q) : Seq P cx n ops (o :: rest) σ fz H Q :=
  Seq.of fun a w hs hi => by
    unfold wpList
    rw [if_neg (by rw [hw a hs]; simp)]
    refine h.run _ _ ?_ hi
    cases hdst : o.dst with
    | none => exact hs
    | some d => exact hs.put d (hd d hdst) undef
/-- what a guard says -/
theorem gateV_s {ν : Nu} {a : AV} {v : Value} {b c : Bool} (h : gateV a b = some c) (hv : gv ν a = some v) : (∃ x, v = .bool x ∧ c = (x == b)) ∨ (v = undef ∧ c = false) := by
  cases a with
  | b x =>
    injection h with h; subst h
    simp only [gv] at hv; injection hv with hv
    exact .inl ⟨x, hv.symm, rfl⟩
  | tup l =>
    cases l with
    | nil =>
      injection h with h; subst h
      simp only [gv, gvs] at hv; injection hv with hv
      exact .inr ⟨hv.symm, rfl⟩
    | cons x r => cases h
  | _ => cases h
theorem gate_s {ν : Nu} {all : List Oper} {env : Tr AV} {σ : Env} {n : Nat} {o : Oper} {c : Bool} (he : ER ν env σ) (h : gate all env o.guard = some c) : ∀ a, Sat n σ a → Region.wanted o (yielded all.toArray a.tmps) = c := fun a hs => by
  unfold Region.wanted
  cases hg : o.guard with
  | none => rw [hg] at h; injection h
  | some jb =>
    obtain ⟨j, b⟩ := jb
    rw [hg] at h
    obtain ⟨oj, hoj, h⟩ := oB_iff (show (oB (at_ all j) fun o => oB o.dst fun d => oB (env.get d) fun v => gateV v b) = some c from h)
    obtain ⟨d, hd, h⟩ := oB_iff h
    obtain ⟨av, hav, h⟩ := oB_iff h
    obtain ⟨v, h1, h2⟩ := he d av hav
    have hj : (all.toArray[j]?).bind (·.dst) = some d := by
      have := at_iff hoj
      simp [this, hd]
    have hslot := hs.slot d v h2
    rcases gateV_s h h1 with ⟨x, rfl, rfl⟩ | ⟨rfl, rfl⟩
    · simp only
      have : yielded all.toArray a.tmps j = some x := by
        unfold yielded
        rw [hj]
        simp [hslot]
      rw [this]
      cases x <;> cases b <;> rfl
    · simp only
      have : yielded all.toArray a.tmps j = none := by
        unfold yielded
        rw [hj]
        simp [hslot, undef]
      rw [this]
      rfl
theorem sOps_s {ih : IH} {all l : List Oper} {s : St} {k : CK} (hT : TA tT T) (hcall : ∀ g args s k, ih (.call g args) s k = true → MCall P tT g args s k) (hops : ∀ all l s k, ih (.ops all l) s k = true → MOps P tT all l s k)
    (hf : sOps all l tT ih s k = true) : MOps P tT all l s k := fun cx fz ν0 nx0 ν σ H Fm hle hnx he hh hfr => by
  cases l with
  | nil => exact Seq.nil (QE.of hle hnx he hh hfr hf)
  | cons o r =>
    obtain ⟨b, hb, hf⟩ := fO_iff (show (fO (gate all s.env o.guard) fun b => br (setE s o.dst (.tup []) fun s => ih (.ops all r) s k) (sGo tT ih all o r s k) b) = true from hf)
    have hw := gate_s (n := s.nt) he hb
    cases b with
    | false =>
      rw [br_false] at hf
      obtain ⟨e, h1, h2, h3⟩ := setE_s (v := undef) he (by simp [gv, gvs, undef]) hf
      exact Seq.stepOff hw h2 (hops _ _ _ _ h3 cx fz ν0 nx0 ν _ H Fm hle hnx h1 hh hfr)
    | true =>
      rw [br_true] at hf
      obtain ⟨x, hx, hxs, _⟩ := oxT_s hT (show (oxT tT o.op fun x => sDo x tT ih (rdo s.env) s fun v h nx => setE ⟨s.env, h, nx, s.nt⟩ o.dst v fun s => ih (.ops all r) s k) = true from hf)
      have hdo := DoesF.does (sDo_s (cx := cx) (fz := fz) hT hcall hxs he.rr hh hfr hx)
      refine Seq.stepG hw ?_
      refine Does.of fun ρ w hr hi => (hdo.run ρ w hr hi).mono fun v w' ⟨fz', H', hi', e1, ν', av, h', nx', g1, g2, g3, g4, g5, g6⟩ => ⟨fz', H', hi', ?_⟩
      subst e1
      obtain ⟨e, h1, h2, h3⟩ := setE_s (s := ⟨s.env, h', nx', s.nt⟩) (he.mono g1) g4 g3
      exact ⟨h2, hops _ _ _ _ h3 cx fz' ν0 nx0 ν' _ H' Fm (hle.trans g1) (Nat.le_trans hnx g2) h1 g5 g6⟩
/-! ### functions -/
theorem args_s {ν : Nu} : ∀ {l : List AV} {vs : List Value} {i : Nat} {t : Tr AV} {c : Tr AV → Bool}, gvs ν l = some vs → args_ l i t c = true → ∃ t', c t' = true ∧ ∀ j, t'.get j = if i ≤ j ∧ j < i + l.length then l[j - i]? else t.get j
  | [], vs, i, t, c, _, h => ⟨t, h, fun j => by rw [if_neg (fun hc => by simp at hc; omega)]⟩
  | a :: r, vs, i, t, c, hv, h => by
    obtain ⟨x, l, _, hl, rfl⟩ := gvs_cons hv
    obtain ⟨t1, hu, h1⟩ := Tr.setK_iff _ _ _ _ _ (show Tr.setK envd t i (some a) (fun t => args_ r (Nat.succ i) t c) = true from h)
    obtain ⟨t', hc, hg⟩ := args_s hl h1
    refine ⟨t', hc, fun j => ?_⟩
    rw [hg j]
    by_cases h2 : Nat.succ i ≤ j ∧ j < Nat.succ i + r.length
    · rw [if_pos h2, if_pos (by simp; omega)]
      rw [show j - i = (j - Nat.succ i) + 1 from by omega]
      simp
    · rw [if_neg h2, hu j]
      by_cases h3 : j = i
      · subst h3
        rw [if_pos rfl, if_pos (by simp)]
        simp
      · rw [if_neg h3, if_neg (by simp; omega)]
theorem lk_envOf_get : ∀ (vs : List Value) (k i : Nat) (v : Value), vs[i]? = some v → lk (envOf vs k) (k + i) = some v
  | [], _, _, _, h => by simp at h
  | u :: r, k, 0, v, h => by simp at h; subst h; unfold envOf; exact lk_cons_same _ _ _
  | u :: r, k, i + 1, v, h => by
    unfold envOf
    rw [lk_cons_ne _ _ (by omega)]
    have := lk_envOf_get r (k + 1) i v (by simpa using h)
    rwa [show k + 1 + i = k + (i + 1) from by omega] at this
theorem args_er {ν : Nu} {l : List AV} {vs : List Value} {c : Tr AV → Bool} (hv : gvs ν l = some vs) (h : args_ l 0 .lf c = true) : ∃ e, ER ν e (envOf vs 0) ∧ c e = true := by
  obtain ⟨e, hc, hg⟩ := args_s hv h
  refine ⟨e, fun i a ha => ?_, hc⟩
  rw [hg i] at ha
  split at ha
  · simp only [Nat.sub_zero] at ha
    obtain ⟨v, h1, h2⟩ := gvs_get hv ha
    refine ⟨v, h2, ?_⟩
    have := lk_envOf_get vs 0 i v h1
    rwa [Nat.zero_add] at this
  · cases ha

/-! results -/
theorem ldv_s (hT : TA tT T) {cx : Cx} {fz : FZ} {ν : Nu} {h : Tr AO} {H Fm : HP} {t : TypeId} {a : Nat × Nat} {b : Nat} {c : QC} (hh : HR tT ν h H Fm) (hb : ν.blk a.1 = some b) (hf : ldv tT h t a c = true) :
    ∃ av v, c av = true ∧ gv ν av = some v ∧ ∀ w, Inv cx fz H w → (loadVar t ⟨b, a.2, none⟩).run P w = .ok v w := by
  obtain ⟨o, ho, hf⟩ := fO_iff hf
  obtain ⟨cs, hcs, hf⟩ := fO_iff hf
  obtain ⟨Y, hY, hf⟩ := fO_iff hf
  obtain ⟨X, hX, hR⟩ := hT t Y hY
  obtain ⟨b', vs, l, e, f, hb', hvs, hm⟩ := hh.cells ho hcs
  rw [hb] at hb'; injection hb' with hb'; subst hb'
  cases hag : Y.agg with
  | false =>
    rw [hag] at hf
    obtain ⟨z, hz, hc⟩ := fO_iff hf
    obtain ⟨v, h3, h4⟩ := gvs_get hvs (at_iff hz)
    refine ⟨z, v, hc, h4, fun w hi => ?_⟩
    have hcell : w.cell? ⟨b, a.2, none⟩ = some v := by
      rw [cell_own hi hm]
      have hlt : a.2 < vs.length := (List.getElem?_eq_some_iff.1 h3).1
      simp only [List.getElem?_toArray]
      rw [List.getElem?_append_left hlt]; exact h3
    exact run_load1 T hX (by rw [hR.agg, hag]) hcell
  | true =>
    rw [hag] at hf
    obtain ⟨q, hq, hf⟩ := fO_iff hf
    rw [fL_eq] at hf
    obtain ⟨h3, h4⟩ := gvs_part hvs hq
    refine ⟨.agg q, .agg ((vs.drop a.2).take Y.size).toArray, hf, by simp [gv, h4], fun w hi => ?_⟩
    have hc : ∀ j v, ((vs.drop a.2).take Y.size)[j]? = some v → w.cell? ((⟨b, a.2, none⟩ : Addr).add j) = some v := fun j v hj => by
      rw [addr_add, cell_own hi hm]
      rw [List.getElem?_take] at hj
      split at hj
      · rename_i hlt
        rw [List.getElem?_drop] at hj
        have hlt' : a.2 + j < vs.length := (List.getElem?_eq_some_iff.1 hj).1
        simp only [List.getElem?_toArray]
        rw [List.getElem?_append_left hlt']; exact hj
      · cases hj
    exact run_loadN T hX (by rw [hR.agg, hag]) (cs := (vs.drop a.2).take Y.size) (by rw [hR.size]; simp; omega) hc
theorem ress_s (hT : TA tT T) {cx : Cx} {fz : FZ} {ν : Nu} {H Fm : HP} {s : St} {σ : Env} (he : ER ν s.env σ) (hh : HR tT ν s.heap H Fm) : ∀ {l : List ResultVar} {c : List AV → Bool}, ress tT s l c = true →
    ∃ as vs, c as = true ∧ gvs ν as = some vs ∧ ∀ a w, Sat s.nt σ a → Inv cx fz H w → (l.mapM fun
      | .tmp t => pure (a.tmps.getD t undef)
      | .cell u t => do loadVar t (← asAddr (a.tmps.getD u undef)) : Sem (List Value)).run P w = .ok vs w
  | [], c, h => ⟨[], [], h, by simp [gvs], fun a w _ _ => by simp⟩
  | .tmp t :: l, c, h => by
    obtain ⟨av, hav, h⟩ := fO_iff (show (fO (s.env.get t) fun v => ress tT s l fun l => c (v :: l)) = true from h)
    obtain ⟨as, vs, h1, h2, h3⟩ := ress_s hT (cx := cx) (fz := fz) he hh h
    obtain ⟨v, h4, h5⟩ := he t av hav
    refine ⟨_, v :: vs, h1, gvs_mk h4 h2, fun a w hs hi => ?_⟩
    rw [List.mapM_cons]
    have := h3 a w hs hi
    simp only [Sem.run_bind, Sem.run_pure, Result.andThen_ok, this]
    simp [hs.slot t v h5]
  | .cell u t :: l, c, h => by
    obtain ⟨av, hav, h⟩ := fO_iff (show (fO (s.env.get u) fun v => fO (asP v) fun a => ldv tT s.heap t a fun v => ress tT s l fun l => c (v :: l)) = true from h)
    obtain ⟨p, hp, h⟩ := fO_iff h
    obtain ⟨v, h4, h5⟩ := he u av hav
    obtain ⟨b, hb, rfl⟩ := asP_iff hp h4
    obtain ⟨av2, v2, h6, h7, h8⟩ := ldv_s (P := P) hT (cx := cx) (fz := fz) hh hb h
    obtain ⟨as, vs, h1, h2, h3⟩ := ress_s hT (cx := cx) (fz := fz) he hh h6
    refine ⟨_, v2 :: vs, h1, gvs_mk h7 h2, fun a w hs hi => ?_⟩
    rw [List.mapM_cons]
    have h9 := h3 a w hs hi
    have h10 := h8 w hi
    have hg : a.tmps.getD u undef = .pointer (some ⟨b, p.2, none⟩) := by simp [hs.slot u _ h5]
    have hgs : (asAddr (.pointer (some ⟨b, p.2, none⟩))).run P w = .ok ⟨b, p.2, none⟩ w := by simp [asAddr]
    simp only [Sem.run_bind, Sem.run_pure, Result.andThen_ok, hg, hgs, h10, h9]
theorem resl_s (hT : TA tT T) {cx : Cx} {fz : FZ} {ν : Nu} {H Fm : HP} {s : St} {σ : Env} {fn : Func} {c : QC} (he : ER ν s.env σ) (hh : HR tT ν s.heap H Fm) (h : resl tT s fn.results.toList c = true) :
    ∃ a v, c a = true ∧ gv ν a = some v ∧ ∀ a w, Sat s.nt σ a → Inv cx fz H w → (results fn a.tmps).run P w = .ok v w := by
  obtain ⟨as, vs, h1, h2, h3⟩ := ress_s (P := P) hT (cx := cx) (fz := fz) he hh h
  have hrun : ∀ a w, Sat s.nt σ a → Inv cx fz H w → (results fn a.tmps).run P w = .ok (if hsz : vs.toArray.size = 1 then vs.toArray[0] else .tuple vs.toArray) w := fun a w hs hi => by
    have := h3 a w hs hi
    unfold results
    rw [Array.mapM_eq_mapM_toList]
    simp only [Sem.run_bind, map_eq_pure_bind, bind_assoc, pure_bind, Sem.run_pure]
    exact congrArg (fun r : Result (List Value) => r.andThen fun a w' => Result.ok (if h : a.toArray.size = 1 then a.toArray[0] else Value.tuple a.toArray) w') this
  cases as with
  | nil =>
    simp [gvs] at h2; subst h2
    exact ⟨_, .tuple #[], h1, by simp [gv, gvs], fun a w hs hi => by rw [hrun a w hs hi]; rfl⟩
  | cons x r =>
    obtain ⟨v, q, g1, g2, rfl⟩ := gvs_cons h2
    cases r with
    | nil =>
      simp [gvs] at g2; subst g2
      exact ⟨x, v, h1, g1, fun a w hs hi => by rw [hrun a w hs hi]; rfl⟩
    | cons y r =>
      obtain ⟨v2, q2, g3, g4, rfl⟩ := gvs_cons g2
      refine ⟨_, .tuple (v :: v2 :: q2).toArray, h1, by simp only [gv, h2, Option.map_some], fun a w hs hi => ?_⟩
      rw [hrun a w hs hi]
      rw [dif_neg (by simp)]

/-- a call that is known -/
def MemoOk (P : Program) (tT : TT) (g : FuncId) (m : Mem) : Prop := ∃ h0 : Tr AO, (∀ id o, h0.get id = some o → (id, o) ∈ m.h) ∧ ∀ fz ν vs H Fm, gvs ν m.args = some vs → HR tT ν h0 H Fm → Fresh ν m.nx →
  GFn P g vs fz H fun v fz' H' => fz' = fz ∧ ∃ ν' h', ν.le ν' ∧ gv ν' m.res = some v ∧ HR tT ν' h' H' Fm ∧ (∀ z ∈ m.h', h'.get z.1 = some z.2) ∧ Fresh ν' m.nx'
def FnOk (P : Program) (g : FuncId) (fn : Func) : Prop := P.funcs[g]? = some fn ∧ (fn.name == "runtime.NumGoroutine") = false
/-- what is known of the functions -/
def FOk (P : Program) (tT : TT) (g : FuncId) : FE → Prop
  | .fn fn => FnOk P g fn
  | .ibs => ∀ fz (l : List Nat) (n : Nat), l.all (fun n => Nat.blt n 256) = true → n < 256 → QFn P g [.string (bs l), .int .u8 n] fz (.int .i64 ((l.findIdx? (Nat.beq n)).elim (-1) fun i => (i : Int)))
  | .memo ms fn => FnOk P g fn ∧ ∀ m ∈ ms, MemoOk P tT g m
def FA (P : Program) (tT : TT) (F : FF) : Prop := ∀ g f, F g = some f → FOk P tT g f
theorem subH_s {h : Tr AO} : ∀ {l : List (Nat × AO)}, subH h l = true → ∀ z ∈ l, h.get z.1 = some z.2
  | [], _, z, hz => by cases hz
  | y :: r, hs, z, hz => by
    unfold subH at hs
    split at hs
    · rename_i o ho
      split at hs
      · rename_i he
        cases hz with
        | head => rw [ho, aoEq_iff he]
        | tail _ hz => exact subH_s hs z hz
      · cases hs
    · cases hs
theorem setAll_s : ∀ {l : List (Nat × AO)} {h : Tr AO} {c : Tr AO → Bool}, setAll l h c = true → ∃ h', c h' = true ∧ ∀ id o, h'.get id = some o → (id, o) ∈ l ∨ h.get id = some o
  | [], h, c, hf => ⟨h, hf, fun _ _ h => .inr h⟩
  | z :: r, h, c, hf => by
    obtain ⟨h1, hu, hf⟩ := Tr.setK_iff _ _ _ _ _ (show Tr.setK dep h z.1 (some z.2) (fun h => setAll r h c) = true from hf)
    obtain ⟨h', hc, hg⟩ := setAll_s hf
    refine ⟨h', hc, fun id o ho => ?_⟩
    rcases hg id o ho with h2 | h2
    · exact .inl (by simp [h2])
    · rw [hu id] at h2
      split at h2
      · rename_i hid; injection h2 with h2; subst hid h2; exact .inl (by simp)
      · exact .inr h2
theorem dropAll_s : ∀ {l : List (Nat × AO)} {h : Tr AO} {c : Tr AO → Bool}, dropAll l h c = true → ∃ h', c h' = true ∧ ∀ id o, h'.get id = some o → (∀ z ∈ l, z.1 ≠ id) ∧ h.get id = some o
  | [], h, c, hf => ⟨h, hf, fun _ _ h => ⟨by simp, h⟩⟩
  | z :: r, h, c, hf => by
    obtain ⟨h1, hu, hf⟩ := Tr.setK_iff _ _ _ _ _ (show Tr.setK dep h z.1 none (fun h => dropAll r h c) = true from hf)
    obtain ⟨h', hc, hg⟩ := dropAll_s hf
    refine ⟨h', hc, fun id o ho => ?_⟩
    obtain ⟨h2, h3⟩ := hg id o ho
    rw [hu id] at h3
    split at h3
    · cases h3
    · rename_i hid
      exact ⟨fun y hy => by
        cases hy with
        | head => exact fun hc => hid hc.symm
        | tail _ hy => exact h2 y hy, h3⟩
theorem fits_s {args : List AV} {s : St} {m : Mem} : ∀ {ms : List Mem}, fits args s ms = some m → m ∈ ms ∧ m.args = args ∧ s.nx ≤ m.nx ∧ m.nx ≤ m.nx' ∧ ∀ z ∈ m.h, s.heap.get z.1 = some z.2
  | [], h => by cases h
  | y :: r, h => by
    unfold fits at h
    split at h
    · rename_i ha
      split at h
      · rename_i hb
        injection h with h; subst h
        simp only [Bool.and_eq_true, Nat.ble_eq] at hb
        exact ⟨by simp, avsEq_iff _ _ ha, hb.1, hb.2.1, subH_s hb.2.2⟩
      · obtain ⟨h1, h2⟩ := fits_s h
        exact ⟨by simp [h1], h2⟩
    · obtain ⟨h1, h2⟩ := fits_s h
      exact ⟨by simp [h1], h2⟩
theorem quiet_g {f : FuncId} {args : List Value} {fz : FZ} {v : Value} {H : HP} {R : Value → FZ → HP → Prop} (h : QFn P f args fz v) (hR : R v fz H) : GFn P f args fz H R := by
  have hc : Callable P f := by unfold QFn at h; exact h.1
  refine GFn.of hc fun w hw => (h.out w ⟨hw.keep, by simp, by simp⟩).mono fun e w' ⟨he, hfr⟩ => ⟨v, fz, H, he, hR, ?_, ?_, ⟨fun _ _ h => h, fun _ _ _ => rfl, fun p hp => .inl (List.mem_map.2 ⟨p, hp, rfl⟩)⟩⟩
  · refine ⟨fun b o hb => ?_, fun p hp => ?_, hw.nd⟩
    · have := hw.keep b o hb
      rw [hfr.block b (lt_of_heap this) (by simp)]; exact this
    · have := hw.own p hp
      exact ⟨by rw [hfr.block p.1 (lt_of_heap this.1) (by simp)]; exact this.1, this.2⟩
  · exact ⟨hfr.os, hfr.tape, hfr.output, hfr.size, fun b hb _ => hfr.block b hb (by simp)⟩
theorem sFn_s {ih : IH} {g : FuncId} {fn : Func} {args : List AV} {s : St} {k : CK} (hT : TA tT T) (hok : FnOk P g fn) (hcode : ∀ c s k, ih (.code c) s k = true → MCode P tT c s k) (hf : sFn fn tT ih args s k = true) : MCall P tT g args s k := fun fz ν vs H Fm hv hh hfr => by
  obtain ⟨hle, hf⟩ := fT_iff hf
  obtain ⟨body, hbody, hf⟩ := fO_iff hf
  obtain ⟨e, he, hf⟩ := args_er hv hf
  refine GFn.of_wp hok.1 hbody rfl (by rw [gvs_len hv]; exact hle) hok.2 fun w0 => ?_
  refine (hcode _ _ _ hf ⟨w0, H.map Prod.fst, fz⟩ fz ν s.nx ν (envOf vs 0) H Fm (Nu.le.refl _) (Nat.le_refl _) he hh hfr).mono fun x σ' fz' H' ⟨h1, ν', s', h2, h3, h4, h5, h6, h7, h8⟩ => ?_
  subst h1
  obtain ⟨hret, h8⟩ := fT_iff h8
  have hnt : s'.nt = fn.ntmps := h4
  obtain ⟨a, v, q1, q2, q3⟩ := resl_s (P := P) hT (cx := ⟨w0, H.map Prod.fst, fz'⟩) (fz := fz') h5 h6 h8
  rw [hnt] at q3
  have hR : RK tT fz' ν s.nx s.nt Fm k v fz' H' := ⟨rfl, ν', a, s'.heap, s'.nx, _, h2, h3, q2, h6, h7, rfl, q1⟩
  cases x with
  | normal => unfold retQ; exact ⟨v, q3, fun w hi => ⟨fz', H', hi, hR⟩⟩
  | ret => unfold retQ; exact ⟨v, q3, fun w hi => ⟨fz', H', hi, hR⟩⟩
  | _ => cases hret
open Classical in
theorem sMemo_s {ih : IH} {g : FuncId} {fn : Func} {ms : List Mem} {args : List AV} {s : St} {k : CK} (hT : TA tT T) (hok : FOk P tT g (.memo ms fn)) (hcode : ∀ c s k, ih (.code c) s k = true → MCode P tT c s k) (hf : sMemo ms fn tT ih args s k = true) : MCall P tT g args s k := by
  unfold sMemo at hf
  cases hm : fits args s ms with
  | none => rw [hm, oE_none] at hf; exact sFn_s hT hok.1 hcode hf
  | some m =>
    rw [hm, oE_some] at hf
    obtain ⟨hin, rfl, hnx, hnx', hsub⟩ := fits_s hm
    obtain ⟨h1, hf, hg1⟩ := dropAll_s hf
    obtain ⟨h2, hf, hg2⟩ := setAll_s hf
    obtain ⟨h0, hh0, hmem⟩ := hok.2 m hin
    intro fz ν vs H Fm hv hh hfr
    have h0s : ∀ id o, h0.get id = some o → s.heap.get id = some o := fun id o ho => hsub _ (hh0 id o ho)
    -- what the call does not look at
    let F : HP := H.filter fun p => decide (∃ id o, h1.get id = some o ∧ ν.blk id = some p.1 ∧ go ν o = some p.2)
    have hFin : ∀ p, p ∈ F ↔ p ∈ H ∧ ∃ id o, h1.get id = some o ∧ ν.blk id = some p.1 ∧ go ν o = some p.2 := fun p => by
      simp only [F, List.mem_filter, decide_eq_true_iff]
    have hHR : HR tT ν h0 H (Fm ++ F) := by
      refine ⟨fun id o ho => hh.own id o (h0s id o ho), fun id id' o o' b g1 g2 => hh.inj id id' o o' b (h0s _ _ g1) (h0s _ _ g2), fun p hp => ?_, fun id cs e j fr hq => hh.cap id cs e j fr (h0s _ _ hq)⟩
      rcases List.mem_append.1 hp with hp | hp
      · exact ⟨(hh.fm p hp).1, fun id o ho => (hh.fm p hp).2 id o (h0s id o ho)⟩
      · obtain ⟨hpH, id', o', k1, k2, _⟩ := (hFin p).1 hp
        refine ⟨hpH, fun id o ho hb => ?_⟩
        obtain ⟨k3, k4⟩ := hg1 id' o' k1
        have hid := hh.inj id id' o o' p.1 (h0s id o ho) k4 hb k2
        exact k3 (id, o) (hh0 id o ho) hid
    refine (hmem fz ν vs H (Fm ++ F) hv hHR (fun i hi => hfr i (Nat.le_trans hnx hi))).mono fun v fz' H' ⟨e1, ν', h', q1, q2, q3, q4, q5⟩ => ?_
    have hold : ∀ id o, h1.get id = some o → ∃ b x, ν'.blk id = some b ∧ go ν' o = some x ∧ (b, x) ∈ H' ∧ ∀ id' o', h'.get id' = some o' → ν'.blk id' ≠ some b := fun id o ho => by
      obtain ⟨_, k4⟩ := hg1 id o ho
      obtain ⟨b, x, g1, g2, g3⟩ := hh.own id o k4
      have hF : (b, x) ∈ F := (hFin (b, x)).2 ⟨g3, id, o, ho, g1, g2⟩
      obtain ⟨k5, k6⟩ := q3.fm (b, x) (List.mem_append.2 (.inr hF))
      exact ⟨b, x, q1.blk _ _ g1, go_mono q1 g2, k5, k6⟩
    have hnew : ∀ id o, h2.get id = some o → h'.get id = some o ∨ h1.get id = some o := fun id o ho => by
      rcases hg2 id o ho with k1 | k1
      · exact .inl (q4 _ k1)
      · exact .inr k1
    refine ⟨e1, ν', m.res, h2, m.nx', _, q1, ?_, q2, ⟨fun id o ho => ?_, fun id id' o o' b g1 g2 b1 b2 => ?_, fun p hp => ?_, fun id cs e j fr hq => ?_⟩, q5, rfl, hf⟩
    · exact Nat.le_trans hnx hnx'
    · rcases hnew id o ho with k | k
      · exact q3.own id o k
      · obtain ⟨b, x, k1, k2, k3, _⟩ := hold id o k
        exact ⟨b, x, k1, k2, k3⟩
    · rcases hnew id o g1 with k | k
      · rcases hnew id' o' g2 with k' | k'
        · exact q3.inj id id' o o' b k k' b1 b2
        · obtain ⟨b', x, j1, _, _, j4⟩ := hold id' o' k'
          rw [j1] at b2; injection b2 with b2; subst b2
          exact absurd b1 (j4 id o k)
      · obtain ⟨b', x, j1, _, _, j4⟩ := hold id o k
        rw [j1] at b1; injection b1 with b1; subst b1
        rcases hnew id' o' g2 with k' | k'
        · exact absurd b2 (j4 id' o' k')
        · obtain ⟨c1, x1, i1, _, _⟩ := hh.own id o (hg1 id o k).2
          obtain ⟨c2, x2, i2, _, _⟩ := hh.own id' o' (hg1 id' o' k').2
          have e1 := q1.blk _ _ i1
          have e2 := q1.blk _ _ i2
          rw [j1] at e1; injection e1 with e1
          rw [b2] at e2; injection e2 with e2
          exact hh.inj id id' o o' c1 (hg1 id o k).2 (hg1 id' o' k').2 i1 (by rw [i2, ← e1, ← e2])
    · refine ⟨(q3.fm p (List.mem_append.2 (.inl hp))).1, fun id o ho => ?_⟩
      rcases hnew id o ho with k | k
      · exact (q3.fm p (List.mem_append.2 (.inl hp))).2 id o k
      · obtain ⟨b, x, i1, _, _⟩ := hh.own id o (hg1 id o k).2
        rw [q1.blk _ _ i1]
        intro hc
        injection hc with hc
        exact (hh.fm p hp).2 id o (hg1 id o k).2 (by rw [i1, hc])
    · rcases hnew id _ hq with k | k
      · exact q3.cap id cs e j fr k
      · exact (hh.cap id cs e j fr (hg1 id _ k).2).mono q1
theorem sCall_s {F : FF} {ih : IH} {g : FuncId} {args : List AV} {s : St} {k : CK} (hT : TA tT T) (hF : FA P tT F) (hcode : ∀ c s k, ih (.code c) s k = true → MCode P tT c s k) (hf : sCall g args tT F ih s k = true) : MCall P tT g args s k := by
  obtain ⟨fe, hfe, hf⟩ := fO_iff hf
  have hok := hF g fe hfe
  cases fe with
  | fn fn => exact sFn_s hT hok hcode hf
  | memo ms fn => exact sMemo_s hT hok hcode hf
  | ibs =>
    intro fz ν vs H Fm hv hh hfr
    obtain ⟨a, b, rfl, hf⟩ := two_iff (show (two_ args fun x y => fO (asS x) fun l => fO (byteOf y) fun n => oE ((fun v => k .ret ⟨.n .lf (some v) .lf, s.heap, s.nx, s.nt⟩) (.i .i64 (.negSucc 0))) (fun i => rN (fun v => k .ret ⟨.n .lf (some v) .lf, s.heap, s.nx, s.nt⟩) i) (l.findIdx? (Nat.beq n))) = true from hf)
    obtain ⟨l, hl, hf⟩ := fO_iff hf
    obtain ⟨n, hn, hf⟩ := fO_iff hf
    obtain ⟨u1, u2, h1, h2, rfl⟩ := gvs_two hv
    obtain ⟨rfl, hall⟩ := asS_iff hl h1
    obtain ⟨rfl, hlt⟩ := byteOf_s hn h2
    refine quiet_g (hok fz l n hall hlt) ?_
    cases hi : l.findIdx? (Nat.beq n) with
    | none =>
      rw [hi, oE_none] at hf
      exact ⟨rfl, ν, _, s.heap, s.nx, _, Nu.le.refl _, Nat.le_refl _, gv_i _ _ _, hh, hfr, rfl, hf⟩
    | some i =>
      rw [hi, oE_some] at hf
      exact ⟨rfl, ν, _, s.heap, s.nx, _, Nu.le.refl _, Nat.le_refl _, gv_i _ _ _, hh, hfr, rfl, rN_iff hf⟩
end
end Go.Ev
