/- A region whose order is drawn: what the evaluator knows of it, and steps that only read. Conditions: none. -/
import Derived.Test.YtkejidpdoglahaaGreatDoorEvW
namespace Go.Ev
open Go.Lx Go.RowKit

/-! ### values by number -/
def VR (ν : Nu) (a : Tr AV) (ve : Env) : Prop := ER ν a ve ∧ ∀ i, a.get i = none → lk ve i = none
theorem VR.e (ν : Nu) : VR ν .lf [] := ⟨(fun _ _ h => by cases h), fun _ _ => rfl⟩
theorem VR.put {ν : Nu} {a a' : Tr AV} {ve : Env} {i : Nat} {x : AV} {v : Value} (h : VR ν a ve) (hu : a.upd i (some x) a') (hv : gv ν x = some v) : VR ν a' ((i, v) :: ve) := by
  refine ⟨h.1.put hu hv, fun j hj => ?_⟩
  rw [hu j] at hj
  split at hj
  · cases hj
  · rename_i hne
    rw [lk_cons_ne _ _ (fun he => hne he.symm)]
    exact h.2 j hj
theorem VR.mono {ν ν' : Nu} {a : Tr AV} {ve : Env} (h : VR ν a ve) (hle : ν.le ν') : VR ν' a ve := ⟨h.1.mono hle, h.2⟩
theorem ER.ext {ν : Nu} {a : Tr AV} {σ σ' : Env} (h : ER ν a σ) (he : VExt σ σ') : ER ν a σ' := fun i x hx => by
  obtain ⟨v, h1, h2⟩ := h i x hx
  exact ⟨v, h1, he _ _ h2⟩

/-! ### what has been looked at, and has not run yet -/
def PR (ν : Nu) (h : Tr AO) : Pn → Pend → Prop
  | [], [] => True
  | q :: r, p :: t => q.1 = p.1 ∧ (∀ bx ∈ p.2, ∃ id ∈ q.2, ∃ o, h.get id = some o ∧ ν.blk id = some bx.1 ∧ go ν o = some bx.2) ∧ PR ν h r t
  | _, _ => False
theorem PR.left {ν : Nu} {h : Tr AO} {o : Oper} : ∀ {q : Pn} {p : Pend}, PR ν h q p → PR ν h (leftP q o) (leftOver p o)
  | [], [], _ => trivial
  | [], _ :: _, h => h.elim
  | _ :: _, [], h => h.elim
  | q :: r, p :: t, ⟨h1, h2, h3⟩ => by
    have ih := PR.left (o := o) h3
    unfold leftP leftOver at ih ⊢
    rw [List.filter_cons, List.filter_cons, h1]
    cases waits o p.1 with
    | true => exact ih
    | false => exact ⟨h1, h2, ih⟩
theorem PR.move {ν ν' : Nu} {h h' : Tr AO} : ∀ {q : Pn} {p : Pend}, PR ν h q p → ν.le ν' → (∀ z ∈ q, ∀ id ∈ z.2, ∀ o, h.get id = some o → ν.blk id ≠ none → h'.get id = some o) → PR ν' h' q p
  | [], [], _, _, _ => trivial
  | [], _ :: _, h, _, _ => h.elim
  | _ :: _, [], h, _, _ => h.elim
  | q :: r, p :: t, ⟨h1, h2, h3⟩, hle, hs => by
    refine ⟨h1, fun bx hbx => ?_, PR.move h3 hle fun z hz => hs z (by simp [hz])⟩
    obtain ⟨id, hid, o, g1, g2, g3⟩ := h2 bx hbx
    exact ⟨id, hid, o, hs q (by simp) id hid o g1 (by rw [g2]; simp), hle.blk _ _ g2, go_mono hle g3⟩
theorem PR.mem {tT : TT} {ν : Nu} {h : Tr AO} {H Fm : HP} (hh : HR tT ν h H Fm) : ∀ {q : Pn} {p : Pend}, PR ν h q p → ∀ z ∈ p, ∀ bx ∈ z.2, bx ∈ H
  | [], [], _, z, hz => by cases hz
  | [], _ :: _, h, _, _ => h.elim
  | _ :: _, [], h, _, _ => h.elim
  | q :: r, p :: t, ⟨h1, h2, h3⟩, z, hz => by
    intro bx hbx
    cases hz with
    | head =>
      obtain ⟨id, _, o, g1, g2, g3⟩ := h2 bx hbx
      obtain ⟨b, x, k1, k2, k3⟩ := hh.own id o g1
      rw [g2] at k1; injection k1 with k1
      rw [g3] at k2; injection k2 with k2
      obtain ⟨b', x'⟩ := bx
      simp only at k1 k2
      subst k1 k2
      exact k3
    | tail _ hz => exact PR.mem hh h3 z hz bx hbx

theorem same_s {h h' : Tr AO} : ∀ {l : List Nat}, same h h' l = true → ∀ id ∈ l, ∃ o, h.get id = some o ∧ h'.get id = some o
  | [], _, id, hid => by cases hid
  | i :: r, hs, id, hid => by
    obtain ⟨a, ha, hs⟩ := fO_iff (show (fO (h.get i) fun a => fO (h'.get i) fun b => fT (aoEq a b) (same h h' r)) = true from hs)
    obtain ⟨b, hb, hs⟩ := fO_iff hs
    obtain ⟨he, hs⟩ := fT_iff hs
    cases hid with
    | head => exact ⟨a, ha, by rw [hb, aoEq_iff he]⟩
    | tail _ hid => exact same_s hs id hid
theorem sameP_s {h h' : Tr AO} : ∀ {q : Pn}, sameP h h' q = true → ∀ z ∈ q, ∀ id ∈ z.2, ∃ o, h.get id = some o ∧ h'.get id = some o
  | [], _, z, hz => by cases hz
  | q :: r, hs, z, hz => by
    obtain ⟨h1, h2⟩ := fT_iff (show fT (same h h' q.2) (sameP h h' r) = true from hs)
    cases hz with
    | head => exact same_s h1
    | tail _ hz => exact sameP_s h2 z hz
theorem PR.same {ν ν' : Nu} {h h' : Tr AO} {q : Pn} {p : Pend} (hp : PR ν h q p) (hs : sameP h h' q = true) (hle : ν.le ν') : PR ν' h' q p :=
  hp.move hle fun z hz id hid o ho _ => by
    obtain ⟨o', h1, h2⟩ := sameP_s hs z hz id hid
    rw [ho] at h1; injection h1 with h1
    rw [h2, h1]

/-! ### memory, as far as it is looked at -/
theorem restr_s {h : Tr AO} : ∀ {l : List Nat} {t : Tr AO} {c : Tr AO → Bool}, restr h l t c = true → ∃ t', c t' = true ∧ ∀ id o, t'.get id = some o → (id ∈ l ∧ h.get id = some o) ∨ t.get id = some o
  | [], t, c, hf => ⟨t, hf, fun _ _ h => .inr h⟩
  | i :: r, t, c, hf => by
    obtain ⟨o, ho, hf⟩ := fO_iff (show (fO (h.get i) fun o => Tr.setK dep t i (some o) fun t => restr h r t c) = true from hf)
    obtain ⟨t1, hu, hf⟩ := Tr.setK_iff _ _ _ _ _ hf
    obtain ⟨t', hc, hg⟩ := restr_s hf
    refine ⟨t', hc, fun id x hx => ?_⟩
    rcases hg id x hx with ⟨h1, h2⟩ | h1
    · exact .inl ⟨by simp [h1], h2⟩
    · rw [hu id] at h1
      split at h1
      · rename_i hid; subst hid
        injection h1 with h1; subst h1
        exact .inl ⟨by simp, ho⟩
      · exact .inr h1
open Classical in
theorem HR.restrict {tT : TT} {ν : Nu} {h t : Tr AO} {H Fm : HP} {ws : List Nat} (hh : HR tT ν h H Fm) (ht : ∀ id o, t.get id = some o → id ∈ ws ∧ h.get id = some o) :
    ∃ H0, H0.Sublist H ∧ HR tT ν t H0 [] ∧ ∀ bx ∈ H0, ∃ id ∈ ws, ∃ o, h.get id = some o ∧ ν.blk id = some bx.1 ∧ go ν o = some bx.2 := by
  refine ⟨H.filter fun bx => decide (∃ id ∈ ws, ∃ o, h.get id = some o ∧ ν.blk id = some bx.1 ∧ go ν o = some bx.2), List.filter_sublist, ⟨fun id o ho => ?_, fun id id' o o' b h1 h2 => hh.inj id id' o o' b (ht _ _ h1).2 (ht _ _ h2).2, by simp, fun id cs e j fr hq => hh.cap id cs e j fr (ht _ _ hq).2⟩, fun bx hbx => ?_⟩
  · obtain ⟨h1, h2⟩ := ht id o ho
    obtain ⟨b, x, g1, g2, g3⟩ := hh.own id o h2
    exact ⟨b, x, g1, g2, List.mem_filter.2 ⟨g3, by simpa using ⟨id, h1, o, h2, g1, g2⟩⟩⟩
  · simpa using (List.mem_filter.1 hbx).2

/-- of what an operation waits for, what is known -/
def VRo (ν : Nu) (o : Oper) (a : Tr AV) (ve : Env) : Prop := ∀ j, waits o j = true → (∀ x, a.get j = some x → ∃ v, gv ν x = some v ∧ lk ve j = some v) ∧ (a.get j = none → lk ve j = none)
theorem VR.vro {ν : Nu} {o : Oper} {a : Tr AV} {ve : Env} (h : VR ν a ve) : VRo ν o a ve := fun j _ => ⟨h.1 j, h.2 j⟩
/-! ### reads -/
theorem rdQ_rro {ν : Nu} {all : List Oper} {i : Nat} {o : Oper} {σA veA : Tr AV} {σ ve : Env} (hσ : ER ν σA σ) (hv : ∀ j, waits o j = true → ∀ a, veA.get j = some a → ∃ v, gv ν a = some v ∧ lk ve j = some v) : RR ν (rdQ all i o σA veA) (rdg all i o σ ve) := fun x a hx => by
  cases x with
  | tmp t =>
    have hx' : oE (σA.get t) (fun j => br (oB (at_ all j) fun oj => oT (waits oj i) (σA.get t)) (veA.get j) (waits o j)) (whose all t 0) = some a := hx
    cases hw : whose all t 0 with
    | none =>
      rw [hw, oE_none] at hx'
      simp only [rdg, hw]
      exact hσ t a hx'
    | some j =>
      rw [hw, oE_some] at hx'
      cases hwt : waits o j with
      | true =>
        rw [hwt, br_true] at hx'
        simp only [rdg, hw, hwt]
        exact hv j hwt a hx'
      | false =>
        rw [hwt, br_false] at hx'
        obtain ⟨oj, hoj, hx'⟩ := oB_iff hx'
        obtain ⟨hwi, hx'⟩ := oT_iff hx'
        simp only [rdg, hw, hwt, at_iff hoj, hwi]
        exact hσ t a hx'
  | const c => exact ⟨c, ofV_s hx ν, rfl⟩
  | func f => injection hx with hx; subst hx; exact ⟨_, gv_fn ν f, rfl⟩
  | global g => cases hx
theorem rdQ_rr {ν : Nu} {all : List Oper} {i : Nat} {o : Oper} {σA veA : Tr AV} {σ ve : Env} (hσ : ER ν σA σ) (hv : VR ν veA ve) : RR ν (rdQ all i o σA veA) (rdg all i o σ ve) := rdQ_rro hσ fun j _ => hv.1 j
theorem rdD_rg {ν : Nu} {all : List Oper} {i : Nat} {o : Oper} {σA veA : Tr AV} {σ ve ve' : Env} (hσ : ER ν σA σ) (hv : VRo ν o veA ve) (hext : VExt ve ve') (hpl : ∀ k v, lk ve' k = some v → lk ve k = none → plainV v = true) (hk : ∀ e ∈ o.after, Region.binds .any e = true → lk ve' e.on ≠ none) :
    RG ν (rdD all i o σA veA) (rdg all i o σ ve') := fun x a hx => by
  cases x with
  | tmp t =>
    cases hw : whose all t 0 with
    | none =>
      simp only [rdD, hw] at hx
      simp only [rdg, hw]
      obtain ⟨v, h1, h2⟩ := hσ t a hx
      exact ⟨v, h2, .inl h1⟩
    | some j =>
      cases hwt : waits o j with
      | true =>
        simp only [rdD, hw, hwt] at hx
        simp only [rdg, hw, hwt]
        cases hg : veA.get j with
        | some b =>
          simp only [hg] at hx
          injection hx with hx; subst hx
          obtain ⟨v, h1, h2⟩ := (hv j hwt).1 b hg
          exact ⟨v, hext _ _ h2, .inl h1⟩
        | none =>
          simp only [hg] at hx
          injection hx with hx; subst hx
          have hn := (hv j hwt).2 hg
          obtain ⟨e, he, heb⟩ := List.any_eq_true.1 hwt
          simp only [Bool.and_eq_true] at heb
          have hne := hk e (by simpa using he) heb.2
          rw [Nat.eq_of_beq_eq_true heb.1] at hne
          cases hl : lk ve' j with
          | none => exact absurd hl hne
          | some v => exact ⟨v, rfl, .inr ⟨rfl, hpl j v hl hn⟩⟩
      | false =>
        simp only [rdD, hw, hwt] at hx
        obtain ⟨oj, hoj, hx⟩ := oB_iff hx
        obtain ⟨hwi, hx⟩ := oT_iff hx
        simp only [rdg, hw, hwt, at_iff hoj, hwi]
        obtain ⟨v, h1, h2⟩ := hσ t a hx
        exact ⟨v, h2, .inl h1⟩
  | const c => exact ⟨c, rfl, .inl (ofV_s hx ν)⟩
  | func f => injection hx with hx; subst hx; exact ⟨_, rfl, .inl (gv_fn ν f)⟩
  | global g => cases hx
theorem gateQ_s {ν : Nu} {o : Oper} {veA : Tr AV} {ve : Env} {c : Bool} (hv : VR ν veA ve) (h : gateQ o veA = some c) : wantq o ve = some c := by
  unfold gateQ at h
  unfold wantq
  cases hg : o.guard with
  | none => rw [hg, oE_none] at h; exact h
  | some jb =>
    obtain ⟨j, b⟩ := jb
    rw [hg, oE_some] at h
    obtain ⟨hw, h⟩ := oT_iff h
    obtain ⟨a, ha, h⟩ := oB_iff h
    obtain ⟨v, h1, h2⟩ := hv.1 j a ha
    simp only at hw h ⊢
    rw [hw]
    simp only [h2]
    rcases gateV_s h h1 with ⟨x, rfl, rfl⟩ | ⟨rfl, rfl⟩
    · cases x <;> cases b <;> rfl
    · cases b <;> rfl

section
variable {P : Program} {tT : TT} {T : Tab P}
theorem fk_iff {o : Oper} (h : fk o = true) : o.guard = none ∧ ∃ f, ox o.op = .l f := by
  simp only [fk, Bool.and_eq_true, Option.isNone_iff_eq_none] at h
  refine ⟨h.2, ?_⟩
  cases ho : ox o.op with
  | l f => exact ⟨f, rfl⟩
  | _ => rw [ho] at h; cases h.1
theorem early_s (hT : TA tT T) {ν : Nu} {all : List Oper} {i : Nat} {o : Oper} {σA veA : Tr AV} {σ ve : Env} (hσ : ER ν σA σ) (hv : VRo ν o veA ve) (hk : fk o = true) (hf : (flo (ox o.op) tT (rdD all i o σA veA)).isSome = true) :
    Early fk (flD P all σ) ve (i, o) := by
  refine ⟨hk, fun ve' hext hpl hed => ?_⟩
  obtain ⟨hg, f, hox⟩ := fk_iff hk
  rw [hox] at hf
  obtain ⟨z, hz⟩ := Option.isSome_iff_exists.1 hf
  obtain ⟨obj, mk, h1, h2⟩ := flo_e (P := P) hT o.op f hox ν _ _ z (rdD_rg (all := all) (i := i) hσ hv hext hpl hed) hz
  rw [flD_of (x := (obj, mk)) ⟨hg, h1, fun ρ w hr => h2 o.dst o.type o.pos o.after o.guard ρ w hr⟩]
  rfl
/-- those that wait only for allocations are among fls, if the others wait for something else -/
theorem clo_sub {ve : Env} {kept : List (Nat × Oper)} {fls : List Nat} (h : ∀ p ∈ kept, fk p.2 = true → p.1 ∉ fls → ∃ e ∈ p.2.after, Region.binds .any e = true ∧ lk ve e.on = none ∧ e.on ∉ fls) : ∀ k, Clo fk ve kept k → k ∈ fls := by
  intro k hk
  induction hk with
  | mk p hp hf _ ih =>
    by_cases hin : p.1 ∈ fls
    · exact hin
    · obtain ⟨e, he, h1, h2, h3⟩ := h p hp hf hin
      exact absurd (ih e he h1 h2) h3
theorem hasN_mem {l : List Nat} {n : Nat} : hasN l n = true ↔ n ∈ l := by rw [hasN_eq]; simp
theorem stuckA_s {ν : Nu} {veA : Tr AV} {ve : Env} {fls : List Nat} {o : Oper} (hv : VR ν veA ve) (h : stuckA veA fls o = true) : ∃ e ∈ o.after, Region.binds .any e = true ∧ lk ve e.on = none ∧ e.on ∉ fls := by
  obtain ⟨e, he, h1⟩ := List.any_eq_true.1 h
  simp only [Bool.and_eq_true, Option.isNone_iff_eq_none, Bool.not_eq_true'] at h1
  refine ⟨e, by simpa using he, h1.1, hv.2 _ h1.2.1, fun hc => ?_⟩
  rw [hasN_mem.2 hc] at h1
  cases h1.2.2
theorem stuckBy_of {ve : Env} {fls : List Nat} {o : Oper} (h : ∃ e ∈ o.after, Region.binds .any e = true ∧ lk ve e.on = none ∧ e.on ∉ fls) : stuckBy ve fls o = true := by
  obtain ⟨e, he, h1, h2, h3⟩ := h
  refine List.any_eq_true.2 ⟨e, by simpa using he, ?_⟩
  rw [h1, h2]
  simp only [Option.isNone_none, Bool.true_and, Bool.not_eq_true']
  rw [Bool.eq_false_iff]
  intro hc
  obtain ⟨x, hx, hb⟩ := List.any_eq_true.1 hc
  rw [Nat.eq_of_beq_eq_true hb] at h3
  exact h3 hx
theorem restOk_s (hT : TA tT T) {ν : Nu} {all : List Oper} {σA veA : Tr AV} {σ ve : Env} {fls : List Nat} {r : List (Nat × Oper)} (hσ : ER ν σA σ) (hv : VR ν veA ve) (h : restOk tT all σA veA fls r = true) :
    ∀ p ∈ r, (p.1 ∈ fls ∧ Early fk (flD P all σ) ve p) ∨ (p.1 ∉ fls ∧ ∃ e ∈ p.2.after, Region.binds .any e = true ∧ lk ve e.on = none ∧ e.on ∉ fls) := fun p hp => by
  have := List.all_eq_true.1 h p hp
  cases hn : hasN fls p.1 with
  | true =>
    rw [hn] at this
    simp only [Bool.and_eq_true] at this
    exact .inl ⟨hasN_mem.1 hn, early_s hT hσ hv.vro this.1 this.2⟩
  | false =>
    rw [hn] at this
    exact .inr ⟨(fun hc => by rw [hasN_mem.2 hc] at hn; cases hn), stuckA_s hv this⟩
end
end Go.Ev
