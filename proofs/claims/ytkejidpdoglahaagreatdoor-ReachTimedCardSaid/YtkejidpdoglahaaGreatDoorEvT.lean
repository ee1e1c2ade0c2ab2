/- The evaluator's steps and what they mean: operations in any surroundings, constants, reads. Conditions: none. -/
import Derived.Test.YtkejidpdoglahaaGreatDoorEvS
namespace Go.Ev
open Go.Lx Go.RowKit

/-! ### constants, and what may be read -/
theorem ofV1_s {v : Value} {a : AV} (h : ofV1 v = some a) (ν : Nu) : gv ν a = some v := by
  cases v with
  | bool b => injection h with h; subst h; rfl
  | int k n => injection h with h; subst h; simp [gv]
  | string s =>
    injection h with h; subst h
    have hall : (s.data.toList.map UInt8.toNat).all (fun n => Nat.blt n 256) = true := by
      rw [List.all_eq_true]
      intro n hn
      obtain ⟨b, _, rfl⟩ := List.mem_map.1 hn
      rw [Nat.blt_eq]
      exact b.toNat_lt
    simp only [gv]
    rw [if_pos hall]
    congr 2
    apply ByteArray.ext
    apply Array.ext'
    simp [bs, Function.comp_def]
  | pointer p =>
    cases p with
    | none => injection h with h; subst h; simp [gv, gA]
    | some _ => cases h
  | slice p n c =>
    cases p with
    | none =>
      cases n with
      | zero =>
        cases c with
        | zero => injection h with h; subst h; simp [gv, gA, gC]
        | succ _ => cases h
      | succ _ => cases h
    | some _ => cases h
  | map p =>
    cases p with
    | none => injection h with h; subst h; simp [gv, gM]
    | some _ => cases h
  | nilFunc => injection h with h; subst h; simp [gv]
  | nilIface => injection h with h; subst h; simp [gv]
  | _ => cases h
theorem ofVs_s : ∀ {l : List Value} {as : List AV}, ofVs l = some as → ∀ ν, gvs ν as = some l
  | [], as, h, ν => by injection h with h; subst h; simp [gvs]
  | v :: r, as, h, ν => by
    simp only [ofVs] at h
    cases h1 : ofV1 v with
    | none => simp [h1] at h
    | some a =>
      cases h2 : ofVs r with
      | none => simp [h1, h2] at h
      | some l =>
        simp only [h1, h2] at h
        injection h with h; subst h
        exact gvs_mk (ofV1_s h1 ν) (ofVs_s h2 ν)
theorem ofV_s {v : Value} {a : AV} (h : ofV v = some a) (ν : Nu) : gv ν a = some v := by
  cases v with
  | agg cs =>
    simp only [ofV] at h
    cases h1 : ofVs cs.toList with
    | none => simp [h1] at h
    | some l =>
      simp [h1] at h; subst h
      simp only [gv, ofVs_s h1 ν, Option.map_some]
  | tuple cs =>
    simp only [ofV] at h
    cases h1 : cs.toList with
    | nil =>
      simp [h1] at h; subst h
      have : cs = #[] := Array.ext' h1
      subst this
      simp [gv, gvs]
    | cons x r => simp [h1] at h
  | _ => exact ofV1_s (by simpa only [ofV] using h) ν
theorem gv_fn (ν : Nu) (f : FuncId) : gv ν (.f f [] []) = some (.func (.func f) #[] #[]) := by simp [gv, gvs]
theorem ER.rr {ν : Nu} {e : Tr AV} {σ : Env} (h : ER ν e σ) : RR ν (rdo e) (rd σ) := fun x a hx => by
  cases x with
  | tmp t =>
    obtain ⟨v, h1, h2⟩ := h t a hx
    exact ⟨v, h1, h2⟩
  | const c => exact ⟨c, ofV_s hx ν, rfl⟩
  | func f => injection hx with hx; subst hx; exact ⟨_, gv_fn ν f, rfl⟩
  | global g => cases hx
theorem ER.mono {ν ν' : Nu} {e : Tr AV} {σ : Env} (h : ER ν e σ) (hle : ν.le ν') : ER ν' e σ := fun i a hi => by
  obtain ⟨v, h1, h2⟩ := h i a hi
  exact ⟨v, gv_mono hle _ _ h1, h2⟩
theorem ER.put {ν : Nu} {e e' : Tr AV} {σ : Env} {d : Nat} {a : AV} {v : Value} (h : ER ν e σ) (hu : e.upd d (some a) e') (hv : gv ν a = some v) : ER ν e' ((d, v) :: σ) := fun i b hi => by
  rw [hu i] at hi
  split at hi
  · rename_i hd; subst hd
    injection hi with hi; subst hi
    exact ⟨v, hv, lk_cons_same _ _ _⟩
  · rename_i hd
    obtain ⟨u, h1, h2⟩ := h i b hi
    exact ⟨u, h1, by rw [lk_cons_ne _ _ (fun he => hd he.symm)]; exact h2⟩
theorem setE_s {ν : Nu} {s : St} {d : Option Nat} {a : AV} {v : Value} {σ : Env} {c : St → Bool} (h : ER ν s.env σ) (hv : gv ν a = some v) (hf : setE s d a c = true) :
    ∃ e, ER ν e (putT d v σ) ∧ (∀ x, d = some x → x < s.nt) ∧ c ⟨e, s.heap, s.nx, s.nt⟩ = true := by
  cases d with
  | none => exact ⟨s.env, h, (fun x hx => by cases hx), hf⟩
  | some d =>
    obtain ⟨hlt, hf⟩ := fT_iff (show fT (Nat.blt d s.nt) (Tr.setK envd s.env d (some a) fun e => c ⟨e, s.heap, s.nx, s.nt⟩) = true from hf)
    obtain ⟨e, hu, hc⟩ := Tr.setK_iff _ _ _ _ _ hf
    rw [Nat.blt_eq] at hlt
    exact ⟨e, h.put hu hv, fun x hx => by injection hx with hx; subst hx; exact hlt, hc⟩

section
variable {P : Program} {tT : TT} {T : Tab P}

/-! ### an operation, whatever else is owned -/
theorem HR.nodup_frame {ν : Nu} {h : Tr AO} {H Fm Hx : HP} (hh : HR tT ν h H Fm) (hnd : ((Hx ++ H).map Prod.fst).Nodup) : HR tT ν h (Hx ++ H) (Hx ++ Fm) := by
  refine ⟨fun id o ho => ?_, hh.inj, fun p hp => ?_, hh.cap⟩
  · obtain ⟨b, x, h1, h2, h3⟩ := hh.own id o ho
    exact ⟨b, x, h1, h2, List.mem_append.2 (.inr h3)⟩
  · rcases List.mem_append.1 hp with hp | hp
    · refine ⟨List.mem_append.2 (.inl hp), fun id o ho hc => ?_⟩
      obtain ⟨b, x, h1, h2, h3⟩ := hh.own id o ho
      rw [h1] at hc; injection hc with hc
      rw [List.map_append, List.nodup_append] at hnd
      exact hnd.2.2 p.1 (List.mem_map.2 ⟨p, hp, rfl⟩) b (List.mem_map.2 ⟨(b, x), h3, rfl⟩) hc.symm
    · exact ⟨List.mem_append.2 (.inr (hh.fm p hp).1), (hh.fm p hp).2⟩
/-- what is owned besides can be set apart again -/
theorem HR.unframe {ν : Nu} {h : Tr AO} {H' Fm Hx : HP} (hh : HR tT ν h H' (Hx ++ Fm)) (hnd : (H'.map Prod.fst).Nodup) (hnx : (Hx.map Prod.fst).Nodup) (hfx : ∀ p ∈ Fm, ∀ q ∈ Hx, p.1 ≠ q.1) :
    ∃ H1, H'.Perm (Hx ++ H1) ∧ HR tT ν h H1 Fm := by
  have hsub : ∀ p ∈ Hx, p ∈ H' := fun p hp => (hh.fm p (List.mem_append.2 (.inl hp))).1
  have key : ∀ (Hx H' : HP), (H'.map Prod.fst).Nodup → (Hx.map Prod.fst).Nodup → (∀ p ∈ Hx, p ∈ H') → ∃ H1, H'.Perm (Hx ++ H1) := by
    intro Hx
    induction Hx with
    | nil => intro H' _ _ _; exact ⟨H', List.Perm.refl _⟩
    | cons x r ih =>
      intro H' h1 h2 h3
      obtain ⟨s, t, rfl⟩ := List.append_of_mem (h3 x (by simp))
      have hp : (s ++ x :: t).Perm (x :: (s ++ t)) := List.perm_middle
      have h1' := (hp.map Prod.fst).nodup h1
      simp only [List.map_cons, List.nodup_cons] at h1' h2
      obtain ⟨H1, hp1⟩ := ih (s ++ t) h1'.2 h2.2 (fun p hp' => by
        have := hp.subset (h3 p (by simp [hp']))
        cases this with
        | head => exact absurd (List.mem_map.2 ⟨_, hp', rfl⟩) h2.1
        | tail _ h => exact h)
      exact ⟨H1, hp.trans (hp1.cons x)⟩
  obtain ⟨H1, hp⟩ := key Hx H' hnd hnx hsub
  refine ⟨H1, hp, ?_⟩
  have hh' := hh.perm hp
  have hmem : ∀ p ∈ Hx ++ H1, (∀ q ∈ Hx, p.1 ≠ q.1) → p ∈ H1 := fun p hp hne => by
    rcases List.mem_append.1 hp with h | h
    · exact absurd rfl (hne p h)
    · exact h
  refine ⟨fun id o ho => ?_, hh'.inj, fun p hp' => ⟨hmem p (hh'.fm p (List.mem_append.2 (.inr hp'))).1 (fun q hq => hfx p hp' q hq), (hh'.fm p (List.mem_append.2 (.inr hp'))).2⟩, hh'.cap⟩
  obtain ⟨b, x, h1, h2, h3⟩ := hh'.own id o ho
  refine ⟨b, x, h1, h2, hmem _ h3 fun q hq hc => ?_⟩
  exact (hh'.fm q (List.mem_append.2 (.inl hq))).2 id o ho (by rw [h1]; exact congrArg some hc)

theorem does_frame {cx : Cx} {fz : FZ} {ν : Nu} {h : Tr AO} {nx : Nat} {H Fm : HP} {c : KC} {o : Oper} {r : Operand → Option Value} (hh : HR tT ν h H Fm)
    (hd : ∀ H Fm, HR tT ν h H Fm → Does P cx o r fz H (KPost tT ν nx Fm c fz)) : DoesF P cx o r fz H (KPost tT ν nx Fm c fz) := by
  intro Hx
  refine Does.of fun ρ w hr hi => ?_
  have hnd := hi.hp.nd
  have hfx : ∀ p ∈ Fm, ∀ q ∈ Hx, p.1 ≠ q.1 := fun p hp q hq hc => by
    rw [List.map_append, List.nodup_append] at hnd
    exact hnd.2.2 q.1 (List.mem_map.2 ⟨q, hq, rfl⟩) p.1 (List.mem_map.2 ⟨p, (hh.fm p hp).1, rfl⟩) hc.symm
  have hnx : (Hx.map Prod.fst).Nodup := by
    rw [List.map_append, List.nodup_append] at hnd
    exact hnd.1
  refine ((hd _ _ (hh.nodup_frame hnd)).run ρ w hr hi).mono fun v w' ⟨fz', H', hi', he, ν', av, h', nx', g1, g2, g3, g4, g5, g6⟩ => ?_
  obtain ⟨H1, hp, g7⟩ := g5.unframe hi'.hp.nd hnx hfx
  exact ⟨fz', _, hi'.perm hp.symm, H1, rfl, he, ν', av, h', nx', g1, g2, g3, g4, g7, g6⟩

theorem can {f : FuncId} {args : List Value} {fz : FZ} {H : HP} {R : Value → FZ → HP → Prop} (h : GFn P f args fz H R) : Callable P f := by unfold GFn at h; exact h.1
/-- what a call leaves -/
def RK (tT : TT) (fz : FZ) (ν : Nu) (nx nt : Nat) (Fm : HP) (k : CK) (v : Value) (fz' : FZ) (H' : HP) : Prop :=
  fz' = fz ∧ ∃ ν' av h' nx' e, ν.le ν' ∧ nx ≤ nx' ∧ gv ν' av = some v ∧ HR tT ν' h' H' Fm ∧ Fresh ν' nx' ∧ e.get 0 = some av ∧ k .ret ⟨e, h', nx', nt⟩ = true
def MCall (P : Program) (tT : TT) (g : FuncId) (args : List AV) (s : St) (k : CK) : Prop :=
  ∀ fz ν vs H Fm, gvs ν args = some vs → HR tT ν s.heap H Fm → Fresh ν s.nx → GFn P g vs fz H (RK tT fz ν s.nx s.nt Fm k)
/-- an operation, as it stands in the text -/
theorem sDo_s {cx : Cx} {fz : FZ} {ih : IH} {ν : Nu} {H Fm : HP} {s : St} {c : KC} {o : Oper} {ar : RD} {r : Operand → Option Value} {x : OX} (_hT : TA tT T) (hcall : ∀ g args s k, ih (.call g args) s k = true → MCall P tT g args s k)
    (hx : XS P tT o.op x) (hr : RR ν ar r) (hh : HR tT ν s.heap H Fm) (hfr : Fresh ν s.nx) (hf : sDo x tT ih ar s c = true) : DoesF P cx o r fz H (KPost tT ν s.nx Fm c fz) := by
  obtain ⟨dst, op, ty, pos, af, gd⟩ := o
  cases x with
  | q f =>
    refine does_frame hh fun H Fm hh => ?_
    obtain ⟨av, v, h1, h2, h3⟩ := hx cx fz ν ar r s.heap H Fm _ dst ty pos af gd hr hh hf
    exact Does.of fun ρ w hρ hi => (h3 ρ w hρ hi).mono fun v' w' ⟨he, hfr'⟩ => ⟨fz, H, hi.quiet hfr', rfl, ν, av, s.heap, s.nx, Nu.le.refl _, Nat.le_refl _, h1, by rw [he]; exact h2, hh, hfr⟩
  | l f =>
    refine does_frame hh fun H Fm hh => ?_
    exact ks_new (f := f) hx ν ar r s.heap s.nx H Fm c dst ty pos af gd hr hh hfr hf
  | k f =>
    refine does_frame hh fun H Fm hh => ?_
    exact hx cx fz ν ar r s.heap s.nx H Fm c dst ty pos af gd hr hh hfr hf
  | call f xs =>
    obtain ⟨ats, hop⟩ := hx
    have hop' : op = .call { callee := .value f, args := xs.toArray, argTypes := ats } := hop
    subst hop'
    have hf' : sVal f xs ih ar s c = true := hf
    unfold sVal at hf'
    obtain ⟨a, ha, hf'⟩ := fO_iff hf'
    obtain ⟨g, hg, hf'⟩ := fO_iff hf'
    obtain ⟨as, has, hf'⟩ := fO_iff hf'
    rw [fL_eq] at hf'
    obtain ⟨u, h1, h2⟩ := hr f a ha
    obtain ⟨us, h3, h4⟩ := hr.all has
    obtain ⟨fs, cs, h5, h6, rfl⟩ := asF_iff hg h1
    have hq := hcall _ _ _ _ hf' fz ν _ H Fm (gvs_append h5 (gvs_append h3 h6)) hh hfr
    intro Hx
    refine Does.of fun ρ w hρ hi => ?_
    have hi2 := hi.perm (List.perm_append_comm : (H ++ Hx).Perm (Hx ++ H))
    rw [run_call hρ h2 h4 (vs := fs ++ (us ++ cs)) (by simp) (can hq)]
    refine (hq.out w ⟨hi2.hp.keep, fun p hp => hi2.hp.own p (by simp [hp]), ?_⟩).mono fun e w' ⟨v, fz', H', he, hR, g1, g2, g3⟩ => ⟨v, he, fz', _, (hi2.called g1 g2 g3).perm (List.perm_append_comm : (Hx ++ H').Perm (H' ++ Hx)), H', rfl, ?_⟩
    · have := hi2.hp.nd
      rw [List.map_append, List.nodup_append] at this
      exact this.1
    · obtain ⟨e1, ν', av, h', nx', e', q1, q2, q3, q4, q5, q6, q7⟩ := hR
      refine ⟨e1, ν', av, h', nx', q1, q2, ?_, q3, q4, q5⟩
      simp only [q6] at q7
      exact q7
  | cv => cases hf
  | bad => cases hf
theorem DoesF.does {cx : Cx} {fz : FZ} {H : HP} {o : Oper} {r : Operand → Option Value} {K : Value → FZ → HP → Prop} (h : DoesF P cx o r fz H K) : Does P cx o r fz H K :=
  Does.of fun ρ w hr hi => ((h []).run ρ w hr (by simpa using hi)).mono fun v w' ⟨fz', H', hi', H1, e, hk⟩ => ⟨fz', H', hi', by simp at e; subst e; exact hk⟩
end
end Go.Ev
