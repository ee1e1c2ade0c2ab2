/- A region whose order is drawn: the evaluator's steps and what they mean. Conditions: none. -/
import Derived.Test.YtkejidpdoglahaaGreatDoorEvX
namespace Go.Ev
open Go.Lx Go.RowKit

section
variable {P : Program} {tT : TT} {T : Tab P}

/-- what may come next -/
def KQ (P : Program) (cx : Cx) (l : List Oper) (σ : Env) (Q : QQ) (m : Nat) (fz : FZ) (H : HP) : Env → Env → Pend → List (Nat × Oper) → Prop := fun ve τ pend kept => (kept = [] ∧ Q .normal τ fz H) ∨
      ((∃ p ∈ kept, fk p.2 = false) ∧ ∃ fls : List Nat, (∀ k, Clo fk ve kept k → k ∈ fls) ∧ ∀ p ∈ kept, (p.1 ∈ fls ∧ Early fk (flD P l σ) ve p) ∨ stuckBy ve fls p.2 = true ∨
        (fk p.2 = false ∧ wantq p.2 ve = some true ∧ DoesF P cx p.2 (rdg l p.1 p.2 σ ve) fz H fun v fz' H' =>
          Le fz fz' ∧ (∀ q ∈ leftOver pend p.2, ∀ b ∈ q.2, b ∈ H') ∧ Dr P cx l σ fk (flD P l σ) Q m (rm p.1 kept) ((p.1, v) :: ve) (putT p.2.dst v τ) (leftOver pend p.2) fz' H')) ∨
      (∃ i o, (i, o) ∈ kept ∧ ∃ obj mk, flD P l σ i o ve = some (obj, mk) ∧ ∃ fls : List Nat, (∀ k, Clo fk ve (rm i kept) k → k ∈ fls) ∧ (∀ p ∈ rm i kept, (p.1 ∈ fls ∧ Early fk (flD P l σ) ve p) ∨ stuckBy ve fls p.2 = true) ∧ ∀ g, (∀ p ∈ H, p.1 ≠ g) → Dr P cx l σ fk (flD P l σ) Q m (rm i kept) ((i, mk g) :: ve) (putT o.dst (mk g) τ) pend fz ((g, obj) :: H))
theorem Dr_succ {cx : Cx} {l : List Oper} {σ : Env} {Q : QQ} {m : Nat} {fz : FZ} {H : HP} {rem : List (Nat × Oper)} {ve τ : Env} {pend : Pend} (h : NP P cx l σ fk fz H (KQ P cx l σ Q m fz H) rem ve τ pend []) : Dr P cx l σ fk (flD P l σ) Q (m + 1) rem ve τ pend fz H := h
theorem NP_mono {cx : Cx} {l : List Oper} {σ : Env} {fz : FZ} {H : HP} {K K' : Env → Env → Pend → List (Nat × Oper) → Prop} (hK : ∀ ve τ pend kept, K ve τ pend kept → K' ve τ pend kept) : ∀ (rem : List (Nat × Oper)) (ve τ : Env) (pend : Pend) (kept : List (Nat × Oper)),
    NP P cx l σ fk fz H K rem ve τ pend kept → NP P cx l σ fk fz H K' rem ve τ pend kept
  | [], _, _, _, _, h => hK _ _ _ _ h
  | (i, o) :: r, ve, τ, pend, kept, h => by
    unfold NP at h ⊢
    rcases h with ⟨h1, v, H0, h2, h3, h4⟩ | h
    · exact .inl ⟨h1, v, H0, h2, h3, NP_mono hK r _ _ _ _ h4⟩
    · exact .inr (NP_mono hK r _ _ _ _ h)
theorem NP_keep {cx : Cx} {l : List Oper} {σ : Env} {fz : FZ} {H : HP} {K : Env → Env → Pend → List (Nat × Oper) → Prop} {ve τ : Env} {pend : Pend} : ∀ (rem kept : List (Nat × Oper)), K ve τ pend (kept ++ rem) → NP P cx l σ fk fz H K rem ve τ pend kept
  | [], kept, h => by simpa [NP] using h
  | (i, o) :: r, kept, h => by
    unfold NP
    exact .inr (NP_keep r (kept ++ [(i, o)]) (by simpa using h))
theorem DoesF_mono {cx : Cx} {fz : FZ} {H : HP} {o : Oper} {r : Operand → Option Value} {K K' : Value → FZ → HP → Prop} (h : DoesF P cx o r fz H K) (hk : ∀ v fz' H', K v fz' H' → K' v fz' H') : DoesF P cx o r fz H K' := fun Hx =>
  Does.of fun ρ w hr hi => ((h Hx).run ρ w hr hi).mono fun _ _ ⟨fz', H', hi', H1, e, hv⟩ => ⟨fz', H', hi', H1, e, hk _ _ _ hv⟩
theorem KQ_mono {cx : Cx} {l : List Oper} {σ : Env} {Q : QQ} {m m' : Nat} {fz : FZ} {H : HP} (hD : ∀ rem ve τ pend fz H, Dr P cx l σ fk (flD P l σ) Q m rem ve τ pend fz H → Dr P cx l σ fk (flD P l σ) Q m' rem ve τ pend fz H) {ve τ : Env} {pend : Pend} {kept : List (Nat × Oper)} (h : KQ P cx l σ Q m fz H ve τ pend kept) : KQ P cx l σ Q m' fz H ve τ pend kept := by
  rcases h with h | ⟨h1, fls, h2, h3⟩ | ⟨i, o, h1, obj, mk, h2, fls, h3, h4, h5⟩
  · exact .inl h
  · refine .inr (.inl ⟨h1, fls, h2, fun p hp => ?_⟩)
    rcases h3 p hp with h | h | ⟨g1, g2, g3⟩
    · exact .inl h
    · exact .inr (.inl h)
    · exact .inr (.inr ⟨g1, g2, DoesF_mono g3 fun v fz' H' ⟨k1, k2, k3⟩ => ⟨k1, k2, hD _ _ _ _ _ _ k3⟩⟩)
  · exact .inr (.inr ⟨i, o, h1, obj, mk, h2, fls, h3, h4, fun g hg => hD _ _ _ _ _ _ (h5 g hg)⟩)
theorem Dr_mono1 {cx : Cx} {l : List Oper} {σ : Env} {Q : QQ} : ∀ {m : Nat} {rem : List (Nat × Oper)} {ve τ : Env} {pend : Pend} {fz : FZ} {H : HP}, Dr P cx l σ fk (flD P l σ) Q m rem ve τ pend fz H → Dr P cx l σ fk (flD P l σ) Q (m + 1) rem ve τ pend fz H
  | 0, _, _, _, _, _, _, h => h.elim
  | m + 1, rem, ve, τ, pend, fz, H, h => by
    have h' : NP P cx l σ fk fz H (KQ P cx l σ Q m fz H) rem ve τ pend [] := h
    exact Dr_succ (NP_mono (fun ve τ pend kept hk => KQ_mono (fun _ _ _ _ _ _ hd => Dr_mono1 hd) hk) _ _ _ _ _ h')
theorem Dr_mono {cx : Cx} {l : List Oper} {σ : Env} {Q : QQ} {rem : List (Nat × Oper)} {ve τ : Env} {pend : Pend} {fz : FZ} {H : HP} {m m' : Nat} (hm : m ≤ m') (h : Dr P cx l σ fk (flD P l σ) Q m rem ve τ pend fz H) : Dr P cx l σ fk (flD P l σ) Q m' rem ve τ pend fz H := by
  induction hm with
  | refl => exact h
  | step _ ih => exact Dr_mono1 ih
theorem KQ_le {cx : Cx} {l : List Oper} {σ : Env} {Q : QQ} {m m' : Nat} {fz : FZ} {H : HP} {ve τ : Env} {pend : Pend} {kept : List (Nat × Oper)} (hm : m ≤ m') (h : KQ P cx l σ Q m fz H ve τ pend kept) : KQ P cx l σ Q m' fz H ve τ pend kept :=
  KQ_mono (fun _ _ _ _ _ _ hd => Dr_mono hm hd) h

/-- what a drawn region's rest means; n: the evaluator's fuel -/
def MDr (P : Program) (tT : TT) (n : Nat) (all : List Oper) (σA : Tr AV) (rem : List (Nat × Oper)) (veA : Tr AV) (pendA : Pn) (kept : List (Nat × Oper)) (s : St) (k : CK) : Prop :=
  ∀ cx fz ν0 nx0 ν σ ve τ pend H Fm, ν0.le ν → nx0 ≤ s.nx → ER ν σA σ → VR ν veA ve → ER ν s.env τ → PR ν s.heap pendA pend → HR tT ν s.heap H Fm → Fresh ν s.nx →
    NP P cx all σ fk fz H (KQ P cx all σ (QE tT fz ν0 nx0 s.nt Fm k) (rem.length + kept.length + n) fz H) rem ve τ pend kept
def MDs (P : Program) (tT : TT) (n : Nat) (all : List Oper) (σA : Tr AV) (veA : Tr AV) (pendA : Pn) (kept : List (Nat × Oper)) (s : St) (k : CK) : Prop :=
  ∀ cx fz ν0 nx0 ν σ ve τ pend H Fm, ν0.le ν → nx0 ≤ s.nx → ER ν σA σ → VR ν veA ve → ER ν s.env τ → PR ν s.heap pendA pend → HR tT ν s.heap H Fm → Fresh ν s.nx →
    KQ P cx all σ (QE tT fz ν0 nx0 s.nt Fm k) (kept.length + n) fz H ve τ pend kept

theorem sDr_s {ih : IH} {n : Nat} {all : List Oper} {σA veA : Tr AV} {rem : List (Nat × Oper)} {pendA : Pn} {kept : List (Nat × Oper)} {s : St} {k : CK} (hT : TA tT T)
    (hdr : ∀ all σA rem veA pendA kept s k, ih (.dr all σA rem veA pendA kept) s k = true → MDr P tT n all σA rem veA pendA kept s k) (hds : ∀ all σA veA pendA kept s k, ih (.ds all σA veA pendA kept) s k = true → MDs P tT n all σA veA pendA kept s k)
    (hf : sDr all σA rem veA pendA kept tT ih s k = true) : MDr P tT (n + 1) all σA rem veA pendA kept s k := fun cx fz ν0 nx0 ν σ ve τ pend H Fm hle hnx hσ hv he hp hh hfr => by
  cases rem with
  | nil =>
    have := hds _ _ _ _ _ _ _ hf cx fz ν0 nx0 ν σ ve τ pend H Fm hle hnx hσ hv he hp hh hfr
    exact KQ_le (by simp) this
  | cons p r =>
    obtain ⟨i, o⟩ := p
    have hkeep : ih (.dr all σA r veA pendA (kept ++ [(i, o)])) s k = true → NP P cx all σ fk fz H (KQ P cx all σ (QE tT fz ν0 nx0 s.nt Fm k) (((i, o) :: r).length + kept.length + (n + 1)) fz H) ((i, o) :: r) ve τ pend kept := fun hf => by
      have := hdr _ _ _ _ _ _ _ _ hf cx fz ν0 nx0 ν σ ve τ pend H Fm hle hnx hσ hv he hp hh hfr
      unfold NP
      exact .inr (NP_mono (fun _ _ _ _ h => KQ_le (by simp; omega) h) _ _ _ _ _ this)
    have hf1 : sDr1 tT ih all σA i o r veA pendA kept s k = true := hf
    unfold sDr1 at hf1
    cases hb : (fk o || blockedA veA o) with
    | true =>
      rw [hb, br_true] at hf1
      unfold sKeep at hf1
      rw [fL_eq] at hf1
      exact hkeep hf1
    | false =>
      rw [hb, br_false] at hf1
      simp only [Bool.or_eq_false_iff] at hb
      obtain ⟨b, hg, hf1⟩ := fO_iff hf1
      have hw := gateQ_s hv hg
      cases b with
      | false =>
        rw [br_false] at hf1
        obtain ⟨ve', hu, hf1⟩ := Tr.setK_iff _ _ _ _ _ hf1
        have hun : gv ν (.tup []) = some undef := by simp [gv, gvs, undef]
        obtain ⟨e, h1, h2, h3⟩ := setE_s he hun hf1
        have := hdr _ _ _ _ _ _ _ _ h3 cx fz ν0 nx0 ν σ ((i, undef) :: ve) (putT o.dst undef τ) ((i, []) :: pend) H Fm hle hnx hσ (hv.put hu hun) h1 ⟨rfl, by simp, hp⟩ hh hfr
        unfold NP
        exact .inl ⟨hb.1, undef, [], List.nil_sublist _, .inr ⟨hw, rfl⟩, NP_mono (fun _ _ _ _ h => KQ_le (by simp; omega) h) _ _ _ _ _ this⟩
      | true =>
        rw [br_true] at hf1
        obtain ⟨x, hx, hxs, _⟩ := oxT_s hT hf1
        have hk' : sKeep ih all σA i o r veA pendA kept s k = true → NP P cx all σ fk fz H (KQ P cx all σ (QE tT fz ν0 nx0 s.nt Fm k) (((i, o) :: r).length + kept.length + (n + 1)) fz H) ((i, o) :: r) ve τ pend kept := fun hf => by
          unfold sKeep at hf
          rw [fL_eq] at hf
          exact hkeep hf
        cases x with
        | q f =>
          have hq : sQ f tT ih all σA i o r veA pendA kept s k = true := hx
          unfold sQ at hq
          rw [fL_eq] at hq
          obtain ⟨hw0, hq, hg0⟩ := restr_s hq
          obtain ⟨H0, hs0, hh0, hpr⟩ := hh.restrict (t := hw0) (ws := watch (rdQ all i o σA veA) s.heap o.op) (fun id x hx => by
            rcases hg0 id x hx with h | h
            · exact h
            · cases h)
          obtain ⟨av, v, h1, h2, h3⟩ := hxs cx fz ν _ _ hw0 H0 [] _ o.dst o.type o.pos o.after o.guard (rdQ_rr (all := all) (i := i) (o := o) hσ hv) hh0 hq
          obtain ⟨ve', hu, h1⟩ := Tr.setK_iff _ _ _ _ _ h1
          obtain ⟨e, g1, g2, g3⟩ := setE_s he h2 h1
          have := hdr _ _ _ _ _ _ _ _ g3 cx fz ν0 nx0 ν σ ((i, v) :: ve) (putT o.dst v τ) ((i, H0) :: pend) H Fm hle hnx hσ (hv.put hu h2) g1 ⟨rfl, hpr, hp⟩ hh hfr
          unfold NP
          exact .inl ⟨hb.1, v, H0, hs0, .inl ⟨hw, h3⟩, NP_mono (fun _ _ _ _ h => KQ_le (by simp; omega) h) _ _ _ _ _ this⟩
        | l f => exact hk' hx
        | k f => exact hk' hx
        | call f xs => exact hk' hx
        | cv => exact hk' hx
        | bad => exact hk' hx

/-! ### the ones kept -/
theorem asc_s : ∀ {l : List (Nat × Oper)} {n : Nat}, asc l n = true → (l.map Prod.fst).Nodup ∧ ∀ p ∈ l, n ≤ p.1
  | [], _, _ => ⟨by simp, by simp⟩
  | p :: r, n, h => by
    simp only [asc] at h
    cases hb : Nat.ble n p.1 with
    | false => rw [hb] at h; cases h
    | true =>
      rw [hb] at h
      rw [Nat.ble_eq] at hb
      obtain ⟨h1, h2⟩ := asc_s h
      refine ⟨?_, fun q hq => ?_⟩
      · simp only [List.map_cons, List.nodup_cons]
        refine ⟨fun hc => ?_, h1⟩
        obtain ⟨q, hq, he⟩ := List.mem_map.1 hc
        have h3 : p.1 + 1 ≤ q.1 := h2 q hq
        omega
      · cases hq with
        | head => exact hb
        | tail _ hq => have h3 : p.1 + 1 ≤ q.1 := h2 q hq; omega
theorem mem_rm {i : Nat} {kept : List (Nat × Oper)} {p : Nat × Oper} : p ∈ rm i kept ↔ p ∈ kept ∧ p.1 ≠ i := by
  unfold rm
  rw [List.mem_filter]
  constructor
  · rintro ⟨h1, h2⟩
    refine ⟨h1, fun he => ?_⟩
    rw [he, Nat.beq_refl] at h2
    cases h2
  · rintro ⟨h1, h2⟩
    exact ⟨h1, by rw [beq_false h2]; rfl⟩
theorem uniq_idx {kept : List (Nat × Oper)} (h : (kept.map Prod.fst).Nodup) : ∀ {p q : Nat × Oper}, p ∈ kept → q ∈ kept → p.1 = q.1 → p = q := by
  induction kept with
  | nil => intro p q hp; cases hp
  | cons x r ih =>
    simp only [List.map_cons, List.nodup_cons] at h
    intro p q hp hq he
    cases hp with
    | head =>
      cases hq with
      | head => rfl
      | tail _ hq => exact absurd (List.mem_map.2 ⟨q, hq, he.symm⟩) h.1
    | tail _ hp =>
      cases hq with
      | head => exact absurd (List.mem_map.2 ⟨p, hp, he⟩) h.1
      | tail _ hq => exact ih h.2 hp hq he
theorem rm_len {i : Nat} {kept : List (Nat × Oper)} {p : Nat × Oper} (hp : p ∈ kept) (hi : p.1 = i) : (rm i kept).length + 1 ≤ kept.length := by
  unfold rm
  have := List.length_filter_lt_length_iff_exists (l := kept) (p := fun p => !Nat.beq p.1 i)
  have h2 := this.2 ⟨p, hp, by rw [hi, Nat.beq_refl]; simp⟩
  omega
theorem isT_iff {b : Option Bool} (h : isT b = true) : b = some true := by
  cases b with
  | none => cases h
  | some b => cases b with
    | false => cases h
    | true => rfl

theorem sOne_s {ih : IH} {n : Nat} {all : List Oper} {σA veA : Tr AV} {i : Nat} {o : Oper} {pendA : Pn} {kept : List (Nat × Oper)} {s : St} {k : CK} (hT : TA tT T) (hcall : ∀ g args s k, ih (.call g args) s k = true → MCall P tT g args s k)
    (hdr : ∀ all σA rem veA pendA kept s k, ih (.dr all σA rem veA pendA kept) s k = true → MDr P tT n all σA rem veA pendA kept s k) (hin : (i, o) ∈ kept) (hnf : fk o = false)
    (hf : sOne tT ih all σA i o veA pendA kept s k = true) : MDs P tT (n + 1) all σA veA pendA kept s k := fun cx fz ν0 nx0 ν σ ve τ pend H Fm hle hnx hσ hv he hp hh hfr => by
  obtain ⟨hc, hf⟩ := fT_iff hf
  rw [fL_eq] at hf
  simp only [Bool.and_eq_true] at hc
  obtain ⟨hg, ha, hro⟩ := hc
  have hnd := (asc_s ha).1
  have hrest := restOk_s hT hσ hv hro
  obtain ⟨x, hx, hxs, _⟩ := oxT_s hT hf
  have hdo := sDo_s (cx := cx) (fz := fz) hT hcall hxs (rdQ_rr (all := all) (i := i) (o := o) hσ hv) hh hfr hx
  refine .inr (.inl ⟨⟨(i, o), hin, hnf⟩, cloA veA kept [], ?_, fun p hpk => ?_⟩)
  · refine clo_sub fun p hpk hpf hpn => ?_
    have hne : p.1 ≠ i := fun he => by
      have := uniq_idx hnd hpk hin he
      rw [this, hnf] at hpf; cases hpf
    rcases hrest p (mem_rm.2 ⟨hpk, hne⟩) with h | h
    · exact absurd h.1 hpn
    · exact h.2
  · by_cases hpi : p.1 = i
    · have := uniq_idx hnd hpk hin hpi
      subst this
      refine .inr (.inr ⟨hnf, gateQ_s hv (isT_iff hg), DoesF_mono hdo fun v fz' H' ⟨e1, ν', av, h', nx', g1, g2, g3, g4, g5, g6⟩ => ?_⟩)
      subst e1
      obtain ⟨hsame, g3⟩ := fT_iff g3
      obtain ⟨ve', hu, g3⟩ := Tr.setK_iff _ _ _ _ _ g3
      obtain ⟨e, k1, k2, k3⟩ := setE_s (s := ⟨s.env, h', nx', s.nt⟩) (he.mono g1) g4 g3
      rw [fL_eq] at k3
      have hpl := (hp.left (o := o)).same hsame g1
      have := hdr _ _ _ _ _ _ _ _ k3 cx fz' ν0 nx0 ν' σ ((i, v) :: ve) (putT o.dst v τ) (leftOver pend o) H' Fm (hle.trans g1) (Nat.le_trans hnx g2) (hσ.mono g1) ((hv.mono g1).put hu g4) k1 hpl g5 g6
      refine ⟨Le.refl _, hpl.mem g5, Dr_mono ?_ (Dr_succ this)⟩
      have := rm_len hin rfl
      simp only at this ⊢
      simp
      omega
    · rcases hrest p (mem_rm.2 ⟨hpk, hpi⟩) with h | h
      · exact .inl h
      · exact .inr (.inl (stuckBy_of h.2))
theorem pickF_s {ve : Tr AV} : ∀ {l : List (Nat × Oper)} {p : Nat × Oper}, pickF ve l = some p → p ∈ l ∧ fk p.2 = true
  | [], _, h => by cases h
  | q :: r, p, h => by
    simp only [pickF] at h
    cases hb : (fk q.2 && !blockedA ve q.2) with
    | true =>
      rw [hb] at h
      injection h with h; subst h
      simp only [Bool.and_eq_true] at hb
      exact ⟨by simp, hb.1⟩
    | false =>
      rw [hb] at h
      obtain ⟨h1, h2⟩ := pickF_s h
      exact ⟨by simp [h1], h2⟩
theorem sFlo_s {ih : IH} {n : Nat} {all : List Oper} {σA veA : Tr AV} {pendA : Pn} {kept : List (Nat × Oper)} {s : St} {k : CK} (hT : TA tT T)
    (hdr : ∀ all σA rem veA pendA kept s k, ih (.dr all σA rem veA pendA kept) s k = true → MDr P tT n all σA rem veA pendA kept s k)
    (hf : sFlo tT ih all σA veA pendA kept s k = true) : MDs P tT (n + 1) all σA veA pendA kept s k := fun cx fz ν0 nx0 ν σ ve τ pend H Fm hle hnx hσ hv he hp hh hfr => by
  obtain ⟨⟨i, o⟩, hpick, hf⟩ := fO_iff hf
  obtain ⟨hin, hfk⟩ := pickF_s hpick
  obtain ⟨hc, hf⟩ := fT_iff hf
  simp only [Bool.and_eq_true] at hc
  obtain ⟨ha, hro⟩ := hc
  have hnd := (asc_s ha).1
  have hrest := restOk_s hT hσ hv hro
  obtain ⟨hg, f, hox⟩ := fk_iff hfk
  simp only at hg hox hf hro
  rw [hox] at hf
  obtain ⟨z, hz, hf⟩ := fO_iff hf
  have hl : LS P tT f o.op := by
    have := ox_s (P := P) hT o.op
    rw [hox] at this
    exact this
  obtain ⟨hmk, hns, x, hgo, hrun⟩ := hl ν _ _ z.1 z.2 (rdQ_rr (all := all) (i := i) (o := o) hσ hv) hz
  have hfA : ∀ q : AO, ∀ k : AO → Bool, fA q k = k q := fun q k => by
    cases q with
    | cells cs e sl fr => exact fL_eq cs fun cs => k (.cells cs e sl fr)
    | map es n => rfl
    | mit m a l b => rfl
  rw [hfA] at hf
  obtain ⟨h', hu, hf⟩ := Tr.setK_iff _ _ _ _ _ hf
  rw [fN_eq] at hf
  obtain ⟨ve', huv, hf⟩ := Tr.setK_iff _ _ _ _ _ hf
  have hfl : flD P all σ i o ve = some (x, z.2.real) := flD_of ⟨hg, fun g => by cases z.2 <;> rfl, fun ρ w hr => hrun o.dst o.type o.pos o.after o.guard ρ w hr⟩
  refine .inr (.inr ⟨i, o, hin, x, z.2.real, hfl, cloA veA (rm i kept) [], ?_, fun p hpk => ?_, fun g hgf => ?_⟩)
  · refine clo_sub fun p hpk hpf hpn => ?_
    rcases hrest p hpk with h | h
    · exact absurd h.1 hpn
    · exact h.2
  · rcases hrest p hpk with h | h
    · exact .inl h
    · exact .inr (stuckBy_of h.2)
  · have hle1 : ν.le (ν.ext s.nx g none none) := Nu.ext_le hfr
    have hgv := Mk.gv_of hmk (ν := ν.ext s.nx g none none) (i := s.nx) Nu.ext_blk
    obtain ⟨e, k1, k2, k3⟩ := setE_s (s := ⟨s.env, h', s.nx + 1, s.nt⟩) (he.mono hle1) hgv hf
    rw [fL_eq] at k3
    have hp' : PR (ν.ext s.nx g none none) h' pendA pend := hp.move hle1 fun z _ id _ o' ho' hb => by
      rw [hu id, if_neg (fun hc => by rw [hc] at hb; exact hb (hfr s.nx (Nat.le_refl _)).1)]
      exact ho'
    have := hdr _ _ _ _ _ _ _ _ k3 cx fz ν0 nx0 _ σ ((i, z.2.real g) :: ve) (putT o.dst (z.2.real g) τ) pend ((g, x) :: H) Fm (hle.trans hle1) (by show nx0 ≤ s.nx + 1; omega) (hσ.mono hle1) ((hv.mono hle1).put huv hgv) k1 hp'
      (hh.new hle1 Nu.ext_blk (go_mono hle1 hgo) hgf hu (fun cs e j fr he => absurd he (hns cs e j fr))) (Nu.ext_fresh hfr)
    refine Dr_mono ?_ (Dr_succ this)
    have := rm_len hin rfl
    simp only at this ⊢
    simp
    omega
end
end Go.Ev
