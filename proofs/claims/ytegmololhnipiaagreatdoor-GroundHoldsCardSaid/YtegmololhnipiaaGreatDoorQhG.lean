/- The texts EvY, EvZ, EwA, EwB, EwC, Tries, laid together. Conditions: none. -/
import Derived.Test.YtegmololhnipiaaGreatDoorQhF
import Derived.Test.YtegmololhnipiaaGreatDoorQhC
namespace Go.Ev
open Go.Lx Go.RowKit
section
variable {P : Program} {tT : TT} {T : Tab P}
/-- what may come next -/
def KQ (P : Program) (cx : Cx) (l : List Oper) (σ : Env) (Q : QQ) (m : Nat) (fz : FZ) (H : HP) : Env → Env → Pend → List (Nat × Oper) → Prop := fun ve τ pend kept => (kept = [] ∧ Q .normal τ fz H) ∨
      ((∃ p ∈ kept, fk p.2 = false) ∧ ∃ fls : List Nat, (∀ k, Clo fk ve kept k → k ∈ fls) ∧ ∀ p ∈ kept, (p.1 ∈ fls ∧ Early fk (flD P l σ) ve p) ∨ stuckBy ve fls p.2 = true ∨
        (fk p.2 = false ∧ wantq p.2 ve = some true ∧ DoesF P cx p.2 (rdg l p.1 p.2 σ ve) fz H fun v fz' H' =>
          Le fz fz' ∧ (∀ q ∈ leftOver pend p.2, ∀ b ∈ q.2, b ∈ H') ∧ Dr P cx l σ fk (flD P l σ) Q m (rm p.1 kept) ((p.1, v) :: ve) (putT p.2.dst v τ) (leftOver pend p.2) fz' H')) ∨
      (∃ i o, (i, o) ∈ kept ∧ ∃ obj mk, flD P l σ i o ve = some (obj, mk) ∧ ∃ fls : List Nat, (∀ k, Clo fk ve (rm i kept) k → k ∈ fls) ∧ (∀ p ∈ rm i kept, (p.1 ∈ fls ∧ Early fk (flD P l σ) ve p) ∨ stuckBy ve fls p.2 = true) ∧ ∀ g, (∀ p ∈ H, p.1 ≠ g) → Dr P cx l σ fk (flD P l σ) Q m (rm i kept) ((i, mk g) :: ve) (putT o.dst (mk g) τ) pend fz ((g, obj) :: H))
theorem Dr_succ {cx : Cx} {l : List Oper} {σ : Env} {Q : QQ} {m : Nat} {fz : FZ} {H : HP} {rem : List (Nat × Oper)} {ve τ : Env} {pend : Pend} (h : NP P cx l σ fk fz H (KQ P cx l σ Q m fz H) rem ve τ pend []) : Dr P cx l σ fk (flD P l σ) Q (m + 1) rem ve τ pend fz H := h
theorem NP_mono {cx : Cx} {l : List Oper} {σ : Env} {fz : FZ} {H : HP} {K K' : Env → Env → Pend → List (Nat × Oper) → Prop} (hK : ∀ ve τ pend kept, K ve τ pend kept → K' ve τ pend kept) : ∀ (rem : List (Nat × Oper)) (ve τ : Env) (pend : Pend) (kept : List (Nat × Oper)),
    NP P cx l σ fk fz H K rem ve τ pend kept → NP P cx l σ fk fz H K' rem ve τ pend kept
  | [], _, _, _, _, h => hK _ _ _ _ h
  | (i, o) :: r, ve, τ, pend, kept, h => by
    unfold NP at h ⊢
    rcases h with ⟨h1, v, H0, h2, h3, h4⟩ | h
    · exact .inl ⟨h1, v, H0, h2, h3, NP_mono hK r _ _ _ _ h4⟩
    · exact .inr (NP_mono hK r _ _ _ _ h)
theorem NP_keep {cx : Cx} {l : List Oper} {σ : Env} {fz : FZ} {H : HP} {K : Env → Env → Pend → List (Nat × Oper) → Prop} {ve τ : Env} {pend : Pend} : ∀ (rem kept : List (Nat × Oper)), K ve τ pend (kept ++ rem) → NP P cx l σ fk fz H K rem ve τ pend kept
  | [], kept, h => by simpa [NP] using h
  | (i, o) :: r, kept, h => by
    unfold NP
    exact .inr (NP_keep r (kept ++ [(i, o)]) (by simpa using h))
theorem DoesF_mono {cx : Cx} {fz : FZ} {H : HP} {o : Oper} {r : Operand → Option Value} {K K' : Value → FZ → HP → Prop} (h : DoesF P cx o r fz H K) (hk : ∀ v fz' H', K v fz' H' → K' v fz' H') : DoesF P cx o r fz H K' := fun Hx =>
  Does.of fun ρ w hr hi => ((h Hx).run ρ w hr hi).mono fun _ _ ⟨fz', H', hi', H1, e, hv⟩ => ⟨fz', H', hi', H1, e, hk _ _ _ hv⟩
theorem KQ_mono {cx : Cx} {l : List Oper} {σ : Env} {Q : QQ} {m m' : Nat} {fz : FZ} {H : HP} (hD : ∀ rem ve τ pend fz H, Dr P cx l σ fk (flD P l σ) Q m rem ve τ pend fz H → Dr P cx l σ fk (flD P l σ) Q m' rem ve τ pend fz H) {ve τ : Env} {pend : Pend} {kept : List (Nat × Oper)} (h : KQ P cx l σ Q m fz H ve τ pend kept) : KQ P cx l σ Q m' fz H ve τ pend kept := by
  rcases h with h | ⟨h1, fls, h2, h3⟩ | ⟨i, o, h1, obj, mk, h2, fls, h3, h4, h5⟩
  · exact .inl h
  · refine .inr (.inl ⟨h1, fls, h2, fun p hp => ?_⟩)
    rcases h3 p hp with h | h | ⟨g1, g2, g3⟩
    · exact .inl h
    · exact .inr (.inl h)
    · exact .inr (.inr ⟨g1, g2, DoesF_mono g3 fun v fz' H' ⟨k1, k2, k3⟩ => ⟨k1, k2, hD _ _ _ _ _ _ k3⟩⟩)
  · exact .inr (.inr ⟨i, o, h1, obj, mk, h2, fls, h3, h4, fun g hg => hD _ _ _ _ _ _ (h5 g hg)⟩)
theorem Dr_mono1 {cx : Cx} {l : List Oper} {σ : Env} {Q : QQ} : ∀ {m : Nat} {rem : List (Nat × Oper)} {ve τ : Env} {pend : Pend} {fz : FZ} {H : HP}, Dr P cx l σ fk (flD P l σ) Q m rem ve τ pend fz H → Dr P cx l σ fk (flD P l σ) Q (m + 1) rem ve τ pend fz H
  | 0, _, _, _, _, _, _, h => h.elim
  | m + 1, rem, ve, τ, pend, fz, H, h => by
    have h' : NP P cx l σ fk fz H (KQ P cx l σ Q m fz H) rem ve τ pend [] := h
    exact Dr_succ (NP_mono (fun ve τ pend kept hk => KQ_mono (fun _ _ _ _ _ _ hd => Dr_mono1 hd) hk) _ _ _ _ _ h')
theorem Dr_mono {cx : Cx} {l : List Oper} {σ : Env} {Q : QQ} {rem : List (Nat × Oper)} {ve τ : Env} {pend : Pend} {fz : FZ} {H : HP} {m m' : Nat} (hm : m ≤ m') (h : Dr P cx l σ fk (flD P l σ) Q m rem ve τ pend fz H) : Dr P cx l σ fk (flD P l σ) Q m' rem ve τ pend fz H := by
  induction hm with
  | refl => exact h
  | step _ ih => exact Dr_mono1 ih
theorem KQ_le {cx : Cx} {l : List Oper} {σ : Env} {Q : QQ} {m m' : Nat} {fz : FZ} {H : HP} {ve τ : Env} {pend : Pend} {kept : List (Nat × Oper)} (hm : m ≤ m') (h : KQ P cx l σ Q m fz H ve τ pend kept) : KQ P cx l σ Q m' fz H ve τ pend kept :=
  KQ_mono (fun _ _ _ _ _ _ hd => Dr_mono hm hd) h
/-- what a drawn region's rest means; n: the evaluator's fuel -/
def MDr (P : Program) (tT : TT) (n : Nat) (all : List Oper) (σA : Tr AV) (rem : List (Nat × Oper)) (veA : Tr AV) (pendA : Pn) (kept : List (Nat × Oper)) (s : St) (k : CK) : Prop :=
  ∀ cx fz ν0 nx0 ν σ ve τ pend H Fm, ν0.le ν → nx0 ≤ s.nx → ER ν σA σ → VR ν veA ve → ER ν s.env τ → PR ν s.heap pendA pend → HR tT ν s.heap H Fm → Fresh ν s.nx →
    NP P cx all σ fk fz H (KQ P cx all σ (QE tT fz ν0 nx0 s.nt Fm k) (rem.length + kept.length + n) fz H) rem ve τ pend kept
def MDs (P : Program) (tT : TT) (n : Nat) (all : List Oper) (σA : Tr AV) (veA : Tr AV) (pendA : Pn) (kept : List (Nat × Oper)) (s : St) (k : CK) : Prop :=
  ∀ cx fz ν0 nx0 ν σ ve τ pend H Fm, ν0.le ν → nx0 ≤ s.nx → ER ν σA σ → VR ν veA ve → ER ν s.env τ → PR ν s.heap pendA pend → HR tT ν s.heap H Fm → Fresh ν s.nx →
    KQ P cx all σ (QE tT fz ν0 nx0 s.nt Fm k) (kept.length + n) fz H ve τ pend kept
theorem sDr_s {ih : IH} {n : Nat} {all : List Oper} {σA veA : Tr AV} {rem : List (Nat × Oper)} {pendA : Pn} {kept : List (Nat × Oper)} {s : St} {k : CK} (hT : TA tT T)
    (hdr : ∀ all σA rem veA pendA kept s k, ih (.dr all σA rem veA pendA kept) s k = true → MDr P tT n all σA rem veA pendA kept s k) (hds : ∀ all σA veA pendA kept s k, ih (.ds all σA veA pendA kept) s k = true → MDs P tT n all σA veA pendA kept s k)
    (hf : sDr all σA rem veA pendA kept tT ih s k = true) : MDr P tT (n + 1) all σA rem veA pendA kept s k := fun cx fz ν0 nx0 ν σ ve τ pend H Fm hle hnx hσ hv he hp hh hfr => by
  cases rem with
  | nil =>
    have := hds _ _ _ _ _ _ _ hf cx fz ν0 nx0 ν σ ve τ pend H Fm hle hnx hσ hv he hp hh hfr
    exact KQ_le (by simp) this
  | cons p r =>
    obtain ⟨i, o⟩ := p
    have hkeep : ih (.dr all σA r veA pendA (kept ++ [(i, o)])) s k = true → NP P cx all σ fk fz H (KQ P cx all σ (QE tT fz ν0 nx0 s.nt Fm k) (((i, o) :: r).length + kept.length + (n + 1)) fz H) ((i, o) :: r) ve τ pend kept := fun hf => by
      have := hdr _ _ _ _ _ _ _ _ hf cx fz ν0 nx0 ν σ ve τ pend H Fm hle hnx hσ hv he hp hh hfr
      unfold NP
      exact .inr (NP_mono (fun _ _ _ _ h => KQ_le (by simp; omega) h) _ _ _ _ _ this)
    have hf1 : sDr1 tT ih all σA i o r veA pendA kept s k = true := hf
    unfold sDr1 at hf1
    cases hb : (fk o || blockedA veA o) with
    | true =>
      rw [hb, br_true] at hf1
      unfold sKeep at hf1
      rw [fL_eq] at hf1
      exact hkeep hf1
    | false =>
      rw [hb, br_false] at hf1
      simp only [Bool.or_eq_false_iff] at hb
      obtain ⟨b, hg, hf1⟩ := fO_iff hf1
      have hw := gateQ_s hv hg
      cases b with
      | false =>
        rw [br_false] at hf1
        obtain ⟨ve', hu, hf1⟩ := Tr.setK_iff _ _ _ _ _ hf1
        have hun : gv ν (.tup []) = some undef := by simp [gv, gvs, undef]
        obtain ⟨e, h1, h2, h3⟩ := setE_s he hun hf1
        have := hdr _ _ _ _ _ _ _ _ h3 cx fz ν0 nx0 ν σ ((i, undef) :: ve) (putT o.dst undef τ) ((i, []) :: pend) H Fm hle hnx hσ (hv.put hu hun) h1 ⟨rfl, by simp, hp⟩ hh hfr
        unfold NP
        exact .inl ⟨hb.1, undef, [], List.nil_sublist _, .inr ⟨hw, rfl⟩, NP_mono (fun _ _ _ _ h => KQ_le (by simp; omega) h) _ _ _ _ _ this⟩
      | true =>
        rw [br_true] at hf1
        obtain ⟨x, hx, hxs, _⟩ := oxT_s hT hf1
        have hk' : sKeep ih all σA i o r veA pendA kept s k = true → NP P cx all σ fk fz H (KQ P cx all σ (QE tT fz ν0 nx0 s.nt Fm k) (((i, o) :: r).length + kept.length + (n + 1)) fz H) ((i, o) :: r) ve τ pend kept := fun hf => by
          unfold sKeep at hf
          rw [fL_eq] at hf
          exact hkeep hf
        cases x with
        | q f =>
          have hq : sQ f tT ih all σA i o r veA pendA kept s k = true := hx
          unfold sQ at hq
          rw [fL_eq] at hq
          obtain ⟨hw0, hq, hg0⟩ := restr_s hq
          obtain ⟨H0, hs0, hh0, hpr⟩ := hh.restrict (t := hw0) (ws := watch (rdQ all i o σA veA) s.heap o.op) (fun id x hx => by
            rcases hg0 id x hx with h | h
            · exact h
            · cases h)
          obtain ⟨av, v, h1, h2, h3⟩ := hxs cx fz ν _ _ hw0 H0 [] _ o.dst o.type o.pos o.after o.guard (rdQ_rr (all := all) (i := i) (o := o) hσ hv) hh0 hq
          obtain ⟨ve', hu, h1⟩ := Tr.setK_iff _ _ _ _ _ h1
          obtain ⟨e, g1, g2, g3⟩ := setE_s he h2 h1
          have := hdr _ _ _ _ _ _ _ _ g3 cx fz ν0 nx0 ν σ ((i, v) :: ve) (putT o.dst v τ) ((i, H0) :: pend) H Fm hle hnx hσ (hv.put hu h2) g1 ⟨rfl, hpr, hp⟩ hh hfr
          unfold NP
          exact .inl ⟨hb.1, v, H0, hs0, .inl ⟨hw, h3⟩, NP_mono (fun _ _ _ _ h => KQ_le (by simp; omega) h) _ _ _ _ _ this⟩
        | l f => exact hk' hx
        | k f => exact hk' hx
        | call f xs => exact hk' hx
        | cv => exact hk' hx
        | bad => exact hk' hx
theorem asc_s : ∀ {l : List (Nat × Oper)} {n : Nat}, asc l n = true → (l.map Prod.fst).Nodup ∧ ∀ p ∈ l, n ≤ p.1
  | [], _, _ => ⟨by simp, by simp⟩
  | p :: r, n, h => by
    simp only [asc] at h
    cases hb : Nat.ble n p.1 with
    | false => rw [hb] at h; cases h
    | true =>
      rw [hb] at h
      rw [Nat.ble_eq] at hb
      obtain ⟨h1, h2⟩ := asc_s h
      refine ⟨?_, fun q hq => ?_⟩
      · simp only [List.map_cons, List.nodup_cons]
        refine ⟨fun hc => ?_, h1⟩
        obtain ⟨q, hq, he⟩ := List.mem_map.1 hc
        have h3 : p.1 + 1 ≤ q.1 := h2 q hq
        omega
      · cases hq with
        | head => exact hb
        | tail _ hq => have h3 : p.1 + 1 ≤ q.1 := h2 q hq; omega
theorem mem_rm {i : Nat} {kept : List (Nat × Oper)} {p : Nat × Oper} : p ∈ rm i kept ↔ p ∈ kept ∧ p.1 ≠ i := by
  unfold rm
  rw [List.mem_filter]
  constructor
  · rintro ⟨h1, h2⟩
    refine ⟨h1, fun he => ?_⟩
    rw [he, Nat.beq_refl] at h2
    cases h2
  · rintro ⟨h1, h2⟩
    exact ⟨h1, by rw [beq_false h2]; rfl⟩
theorem uniq_idx {kept : List (Nat × Oper)} (h : (kept.map Prod.fst).Nodup) : ∀ {p q : Nat × Oper}, p ∈ kept → q ∈ kept → p.1 = q.1 → p = q := by
  induction kept with
  | nil => intro p q hp; cases hp
  | cons x r ih =>
    simp only [List.map_cons, List.nodup_cons] at h
    intro p q hp hq he
    cases hp with
    | head =>
      cases hq with
      | head => rfl
      | tail _ hq => exact absurd (List.mem_map.2 ⟨q, hq, he.symm⟩) h.1
    | tail _ hp =>
      cases hq with
      | head => exact absurd (List.mem_map.2 ⟨p, hp, he⟩) h.1
      | tail _ hq => exact ih h.2 hp hq he
theorem rm_len {i : Nat} {kept : List (Nat × Oper)} {p : Nat × Oper} (hp : p ∈ kept) (hi : p.1 = i) : (rm i kept).length + 1 ≤ kept.length := by
  unfold rm
  have := List.length_filter_lt_length_iff_exists (l := kept) (p := fun p => !Nat.beq p.1 i)
  have h2 := this.2 ⟨p, hp, by rw [hi, Nat.beq_refl]; simp⟩
  omega
theorem isT_iff {b : Option Bool} (h : isT b = true) : b = some true := by
  cases b with
  | none => cases h
  | some b => cases b with
    | false => cases h
    | true => rfl
theorem sOne_s {ih : IH} {n : Nat} {all : List Oper} {σA veA : Tr AV} {i : Nat} {o : Oper} {pendA : Pn} {kept : List (Nat × Oper)} {s : St} {k : CK} (hT : TA tT T) (hcall : ∀ g args s k, ih (.call g args) s k = true → MCall P tT g args s k)
    (hdr : ∀ all σA rem veA pendA kept s k, ih (.dr all σA rem veA pendA kept) s k = true → MDr P tT n all σA rem veA pendA kept s k) (hin : (i, o) ∈ kept) (hnf : fk o = false)
    (hf : sOne tT ih all σA i o veA pendA kept s k = true) : MDs P tT (n + 1) all σA veA pendA kept s k := fun cx fz ν0 nx0 ν σ ve τ pend H Fm hle hnx hσ hv he hp hh hfr => by
  obtain ⟨hc, hf⟩ := fT_iff hf
  rw [fL_eq] at hf
  simp only [Bool.and_eq_true] at hc
  obtain ⟨hg, ha, hro⟩ := hc
  have hnd := (asc_s ha).1
  have hrest := restOk_s hT hσ hv hro
  obtain ⟨x, hx, hxs, _⟩ := oxT_s hT hf
  have hdo := sDo_s (cx := cx) (fz := fz) hT hcall hxs (rdQ_rr (all := all) (i := i) (o := o) hσ hv) hh hfr hx
  refine .inr (.inl ⟨⟨(i, o), hin, hnf⟩, cloA veA kept [], ?_, fun p hpk => ?_⟩)
  · refine clo_sub fun p hpk hpf hpn => ?_
    have hne : p.1 ≠ i := fun he => by
      have := uniq_idx hnd hpk hin he
      rw [this, hnf] at hpf; cases hpf
    rcases hrest p (mem_rm.2 ⟨hpk, hne⟩) with h | h
    · exact absurd h.1 hpn
    · exact h.2
  · by_cases hpi : p.1 = i
    · have := uniq_idx hnd hpk hin hpi
      subst this
      refine .inr (.inr ⟨hnf, gateQ_s hv (isT_iff hg), DoesF_mono hdo fun v fz' H' ⟨e1, ν', av, h', nx', g1, g2, g3, g4, g5, g6⟩ => ?_⟩)
      subst e1
      obtain ⟨hsame, g3⟩ := fT_iff g3
      obtain ⟨ve', hu, g3⟩ := Tr.setK_iff _ _ _ _ _ g3
      obtain ⟨e, k1, k2, k3⟩ := setE_s (s := ⟨s.env, h', nx', s.nt⟩) (he.mono g1) g4 g3
      rw [fL_eq] at k3
      have hpl := (hp.left (o := o)).same hsame g1
      have := hdr _ _ _ _ _ _ _ _ k3 cx fz' ν0 nx0 ν' σ ((i, v) :: ve) (putT o.dst v τ) (leftOver pend o) H' Fm (hle.trans g1) (Nat.le_trans hnx g2) (hσ.mono g1) ((hv.mono g1).put hu g4) k1 hpl g5 g6
      refine ⟨Le.refl _, hpl.mem g5, Dr_mono ?_ (Dr_succ this)⟩
      have := rm_len hin rfl
      simp only at this ⊢
      simp
      omega
    · rcases hrest p (mem_rm.2 ⟨hpk, hpi⟩) with h | h
      · exact .inl h
      · exact .inr (.inl (stuckBy_of h.2))
theorem pickF_s {ve : Tr AV} : ∀ {l : List (Nat × Oper)} {p : Nat × Oper}, pickF ve l = some p → p ∈ l ∧ fk p.2 = true
  | [], _, h => by cases h
  | q :: r, p, h => by
    simp only [pickF] at h
    cases hb : (fk q.2 && !blockedA ve q.2) with
    | true =>
      rw [hb] at h
      injection h with h; subst h
      simp only [Bool.and_eq_true] at hb
      exact ⟨by simp, hb.1⟩
    | false =>
      rw [hb] at h
      obtain ⟨h1, h2⟩ := pickF_s h
      exact ⟨by simp [h1], h2⟩
theorem sFlo_s {ih : IH} {n : Nat} {all : List Oper} {σA veA : Tr AV} {pendA : Pn} {kept : List (Nat × Oper)} {s : St} {k : CK} (hT : TA tT T)
    (hdr : ∀ all σA rem veA pendA kept s k, ih (.dr all σA rem veA pendA kept) s k = true → MDr P tT n all σA rem veA pendA kept s k)
    (hf : sFlo tT ih all σA veA pendA kept s k = true) : MDs P tT (n + 1) all σA veA pendA kept s k := fun cx fz ν0 nx0 ν σ ve τ pend H Fm hle hnx hσ hv he hp hh hfr => by
  obtain ⟨⟨i, o⟩, hpick, hf⟩ := fO_iff hf
  obtain ⟨hin, hfk⟩ := pickF_s hpick
  obtain ⟨hc, hf⟩ := fT_iff hf
  simp only [Bool.and_eq_true] at hc
  obtain ⟨ha, hro⟩ := hc
  have hnd := (asc_s ha).1
  have hrest := restOk_s hT hσ hv hro
  obtain ⟨hg, f, hox⟩ := fk_iff hfk
  simp only at hg hox hf hro
  rw [hox] at hf
  obtain ⟨z, hz, hf⟩ := fO_iff hf
  have hl : LS P tT f o.op := by
    have := ox_s (P := P) hT o.op
    rw [hox] at this
    exact this
  obtain ⟨hmk, hns, x, hgo, hrun⟩ := hl ν _ _ z.1 z.2 (rdQ_rr (all := all) (i := i) (o := o) hσ hv) hz
  have hfA : ∀ q : AO, ∀ k : AO → Bool, fA q k = k q := fun q k => by
    cases q with
    | cells cs e sl fr => exact fL_eq cs fun cs => k (.cells cs e sl fr)
    | map es n => rfl
    | mit m a l b => rfl
  rw [hfA] at hf
  obtain ⟨h', hu, hf⟩ := Tr.setK_iff _ _ _ _ _ hf
  rw [fN_eq] at hf
  obtain ⟨ve', huv, hf⟩ := Tr.setK_iff _ _ _ _ _ hf
  have hfl : flD P all σ i o ve = some (x, z.2.real) := flD_of ⟨hg, fun g => by cases z.2 <;> rfl, fun ρ w hr => hrun o.dst o.type o.pos o.after o.guard ρ w hr⟩
  refine .inr (.inr ⟨i, o, hin, x, z.2.real, hfl, cloA veA (rm i kept) [], ?_, fun p hpk => ?_, fun g hgf => ?_⟩)
  · refine clo_sub fun p hpk hpf hpn => ?_
    rcases hrest p hpk with h | h
    · exact absurd h.1 hpn
    · exact h.2
  · rcases hrest p hpk with h | h
    · exact .inl h
    · exact .inr (stuckBy_of h.2)
  · have hle1 : ν.le (ν.ext s.nx g none none) := Nu.ext_le hfr
    have hgv := Mk.gv_of hmk (ν := ν.ext s.nx g none none) (i := s.nx) Nu.ext_blk
    obtain ⟨e, k1, k2, k3⟩ := setE_s (s := ⟨s.env, h', s.nx + 1, s.nt⟩) (he.mono hle1) hgv hf
    rw [fL_eq] at k3
    have hp' : PR (ν.ext s.nx g none none) h' pendA pend := hp.move hle1 fun z _ id _ o' ho' hb => by
      rw [hu id, if_neg (fun hc => by rw [hc] at hb; exact hb (hfr s.nx (Nat.le_refl _)).1)]
      exact ho'
    have := hdr _ _ _ _ _ _ _ _ k3 cx fz ν0 nx0 _ σ ((i, z.2.real g) :: ve) (putT o.dst (z.2.real g) τ) pend ((g, x) :: H) Fm (hle.trans hle1) (by show nx0 ≤ s.nx + 1; omega) (hσ.mono hle1) ((hv.mono hle1).put huv hgv) k1 hp'
      (hh.new hle1 Nu.ext_blk (go_mono hle1 hgo) hgf hu (fun cs e j fr he => absurd he (hns cs e j fr))) (Nu.ext_fresh hfr)
    refine Dr_mono ?_ (Dr_succ this)
    have := rm_len hin rfl
    simp only at this ⊢
    simp
    omega
end
end Go.Ev
namespace Go.Ev
open Go.Lx Go.RowKit
theorem Tr.setK_ok {α : Type} : ∀ (n : Nat) (t : Tr α) (i : Nat) (x : Option α), i < n → Tr.setK n t i x (fun _ => true) = true
  | 0, _, _, _, h => by omega
  | m + 1, t, i, x, h => by
    have key : ∀ (l : Tr α) (v : Option α) (r : Tr α), Tr.setS (Tr.setK m) i x (fun _ => true) l v r = true := by
      intro l v r
      unfold Tr.setS
      by_cases h0 : i = 0
      · subst h0; rfl
      · rw [beq_false h0, br_false]
        by_cases h1 : Nat.mod i 2 = 1
        · rw [h1]
          exact Tr.setK_ok m l (Nat.div i 2) x (by have : Nat.div i 2 = i / 2 := rfl; omega)
        · rw [beq_false h1, br_false]
          exact Tr.setK_ok m r (Nat.pred (Nat.div i 2)) x (by have e1 : Nat.div i 2 = i / 2 := rfl; have e2 : Nat.pred (Nat.div i 2) = i / 2 - 1 := rfl; omega)
    cases t with
    | lf => exact key .lf none .lf
    | n l v r => exact key l v r
theorem Tr.upd_ex {α : Type} (t : Tr α) (i : Nat) (x : Option α) : ∃ t', t.upd i x t' := by
  obtain ⟨t', h, _⟩ := Tr.setK_iff _ _ _ _ _ (Tr.setK_ok (i + 1) t i x (by omega))
  exact ⟨t', h⟩
section
variable {P : Program} {tT : TT} {T : Tab P}
/-- one of the writes: its block's object before and after -/
def WI (tT : TT) (all : List Oper) (σA veA : Tr AV) (pendA : Pn) (u : Nat × Oper) (id : Nat) (o o' : AO) : Prop :=
  u.2.dst = none ∧ u.2.guard = none ∧ ∃ (t : TypeId) (x y : Operand) (v : AV) (a : Nat) (X : TyA) (w : AV) (q : Ce) (cs : List AV), u.2.op = .store t x y ∧ rdQ all u.1 u.2 σA veA x = some v ∧ asP v = some (id, a) ∧ tT t = some X ∧ rdQ all u.1 u.2 σA veA y = some w ∧ w.cells.length = X.size ∧ w.cells.all AV.one = true ∧
    o = .cells q.cs q.e q.sl q.fr ∧ wr q.cs a w.cells = some cs ∧ o' = .cells cs q.e q.sl q.fr ∧ ∀ z ∈ leftP pendA u.2, ∀ j ∈ z.2, j = id → o' = o
/-- an operation that reads no memory: its value -/
def QI (P : Program) (tT : TT) (all : List Oper) (σA veA : Tr AV) (u : Nat × Oper) (a : AV) : Prop :=
  u.2.guard = none ∧ ∃ f : QF, XS P tT u.2.op (.q f) ∧ f tT (rdQ all u.1 u.2 σA veA) .lf (fun v => avEq v a) = true
inductive GK where
  | st (id : Nat) (o o' : AO)
  | qt (a : AV)
def GK.val : GK → AV
  | .st _ _ _ => .tup []
  | .qt a => a
abbrev GE := (Nat × Oper) × GK
def GI (P : Program) (tT : TT) (all : List Oper) (σA veT : Tr AV) (pendA : Pn) (u : Nat × Oper) : GK → Prop
  | .st id o o' => WI tT all σA veT pendA u id o o'
  | .qt a => QI P tT all σA veT u a
/-- what becomes of a block -/
def Ch (id : Nat) : Option AO → List GE → Option AO → Prop
  | cur, [], fin => fin = cur
  | cur, e :: r, fin => match e.2 with
    | .st i o o' => if i = id then cur = some o ∧ Ch id (some o') r fin else Ch id cur r fin
    | .qt _ => Ch id cur r fin
def notSt (id : Nat) (k : GK) : Prop := ∀ o o', k ≠ .st id o o'
theorem Ch_other {id : Nat} {e : GE} : ∀ {W1 W2 : List GE} {cur fin : Option AO}, notSt id e.2 → Ch id cur (W1 ++ e :: W2) fin → Ch id cur (W1 ++ W2) fin
  | [], W2, cur, fin, hn, h => by
    simp only [List.nil_append, Ch] at h ⊢
    cases he : e.2 with
    | st i o o' =>
      simp only [he] at h
      rw [if_neg (fun hc => hn o o' (by rw [he, hc]))] at h
      exact h
    | qt a => simp only [he] at h; exact h
  | x :: r, W2, cur, fin, hn, h => by
    simp only [List.cons_append, Ch] at h ⊢
    cases hx : x.2 with
    | st i o o' =>
      simp only [hx] at h ⊢
      split at h
      · rename_i hi; rw [if_pos hi]; exact ⟨h.1, Ch_other hn h.2⟩
      · rename_i hi; rw [if_neg hi]; exact Ch_other hn h
    | qt a => simp only [hx] at h ⊢; exact Ch_other hn h
theorem Ch_pick {id : Nat} {e : GE} {o o' : AO} (he : e.2 = .st id o o') : ∀ {W1 W2 : List GE} {cur fin : Option AO}, (∀ x ∈ W1, notSt id x.2) → Ch id cur (W1 ++ e :: W2) fin → cur = some o ∧ Ch id (some o') (W1 ++ W2) fin
  | [], W2, cur, fin, _, h => by
    simp only [List.nil_append, Ch, he] at h ⊢
    rw [if_pos trivial] at h
    exact h
  | x :: r, W2, cur, fin, hn, h => by
    simp only [List.cons_append, Ch] at h ⊢
    cases hx : x.2 with
    | st i p p' =>
      simp only [hx] at h ⊢
      have hi : i ≠ id := fun hc => hn x (by simp) p p' (by rw [hx, hc])
      rw [if_neg hi] at h ⊢
      exact Ch_pick he (fun y hy => hn y (by simp [hy])) h
    | qt a => simp only [hx] at h ⊢; exact Ch_pick he (fun y hy => hn y (by simp [hy])) h
theorem oCe_eq {o : AO} {q : Ce} (h : oCe o = some q) : o = .cells q.cs q.e q.sl q.fr := by
  cases o with
  | cells cs e sl fr => simp [oCe] at h; subst h; rfl
  | map _ _ => simp [oCe] at h
  | mit _ _ _ _ => simp [oCe] at h
theorem dstK_s {nt : Nat} {d : Option Nat} {ds : List Nat} {v : AV} {env : Tr AV} {c : List Nat → Tr AV → Bool} (h : dstK nt d ds v env c = true) :
    ∃ ds' env', c ds' env' = true ∧ (∀ x ∈ ds, x ∈ ds') ∧ (∀ x, d = some x → x ∉ ds ∧ x < nt ∧ x ∈ ds' ∧ env'.get x = some v) ∧ ∀ t, d ≠ some t → env'.get t = env.get t := by
  cases d with
  | none => exact ⟨ds, env, h, fun _ h => h, (fun x hx => by cases hx), fun _ _ => rfl⟩
  | some d =>
    obtain ⟨hc, h⟩ := fT_iff (show fT (!hasN ds d && Nat.blt d nt) (Tr.setK envd env d (some v) fun env => c (d :: ds) env) = true from h)
    obtain ⟨e', hu, h⟩ := Tr.setK_iff _ _ _ _ _ h
    simp only [Bool.and_eq_true, Nat.blt_eq, Bool.not_eq_true'] at hc
    refine ⟨d :: ds, e', h, fun x hx => by simp [hx], fun x hx => ?_, fun t ht => ?_⟩
    · injection hx with hx; subst hx
      exact ⟨(fun hm => by rw [hasN_mem.2 hm] at hc; cases hc.1), hc.2, by simp, by rw [hu, if_pos rfl]⟩
    · rw [hu, if_neg (fun he => ht (by rw [he]))]
/-- values that are known have a meaning -/
def Gd (ν : Nu) (t : Tr AV) : Prop := ∀ i a, t.get i = some a → ∃ v, gv ν a = some v
theorem gd_rr {ν : Nu} {all : List Oper} {i : Nat} {o : Oper} {σA veA : Tr AV} (hσ : Gd ν σA) (hv : Gd ν veA) : RR ν (rdQ all i o σA veA) (fun x => (rdQ all i o σA veA x).bind (gv ν)) := fun x a hx => by
  have key : ∃ v, gv ν a = some v := by
    cases x with
    | tmp t =>
      have hx' : oE (σA.get t) (fun j => br (oB (at_ all j) fun oj => oT (waits oj i) (σA.get t)) (veA.get j) (waits o j)) (whose all t 0) = some a := hx
      cases hw : whose all t 0 with
      | none => rw [hw, oE_none] at hx'; exact hσ t a hx'
      | some j =>
        rw [hw, oE_some] at hx'
        cases hwt : waits o j with
        | true => rw [hwt, br_true] at hx'; exact hv j a hx'
        | false =>
          rw [hwt, br_false] at hx'
          obtain ⟨oj, hoj, hx'⟩ := oB_iff hx'
          obtain ⟨hwi, hx'⟩ := oT_iff hx'
          exact hσ t a hx'
    | const c => exact ⟨c, ofV_s hx ν⟩
    | func f => injection hx with hx; subst hx; exact ⟨_, gv_fn ν f⟩
    | global g => cases hx
  obtain ⟨v, hv⟩ := key
  exact ⟨v, hv, by simp only [hx, Option.bind_some]; exact hv⟩
theorem Gd.put {ν : Nu} {t t' : Tr AV} {i : Nat} {a : AV} {v : Value} (h : Gd ν t) (hu : t.upd i (some a) t') (hv : gv ν a = some v) : Gd ν t' := fun j b hb => by
  rw [hu j] at hb
  split at hb
  · injection hb with hb; subst hb; exact ⟨v, hv⟩
  · exact h j b hb
theorem gRun_s (hT : TA tT T) {ν : Nu} {cx : Cx} {fz : FZ} {nt : Nat} {all : List Oper} {σA : Tr AV} {pendA : Pn} : ∀ {us : List (Nat × Oper)} {seen : List (Nat × Nat)} {ds : List Nat} {h : Tr AO} {ve env : Tr AV} {c : Tr AO → Tr AV → Tr AV → Bool}, gRun tT nt all σA pendA us seen ds h ve env c = true →
    Gd ν σA → Gd ν ve → (∀ u ∈ us, ve.get u.1 = none) → (us.map Prod.fst).Nodup →
    ∃ (W : List GE) (hF : Tr AO) (veF envF : Tr AV), W.map (fun e => e.1) = us ∧ c hF veF envF = true ∧ (∀ e ∈ W, ∃ veT : Tr AV, (∀ i a, veT.get i = some a → veF.get i = some a) ∧ GI P tT all σA veT pendA e.1 e.2) ∧
      (∀ id, Ch id (h.get id) W (hF.get id)) ∧ W.Pairwise (fun x y => ∀ id o1 p1 o2 p2, x.2 = .st id o1 p1 → y.2 = .st id o2 p2 → waits y.1.2 x.1.1 = true) ∧
      (∀ e ∈ W, ∀ id o o', e.2 = .st id o o' → ∀ z ∈ seen, z.1 = id → waits e.1.2 z.2 = true) ∧
      ((∀ e ∈ W, veF.get e.1.1 = some e.2.val) ∧ ∀ i, (∀ e ∈ W, e.1.1 ≠ i) → veF.get i = ve.get i) ∧
      (∀ e ∈ W, ∀ d, e.1.2.dst = some d → d ∉ ds ∧ d < nt ∧ envF.get d = some e.2.val) ∧ (∀ t, (∀ e ∈ W, e.1.2.dst ≠ some t) → envF.get t = env.get t) ∧ W.Pairwise (fun x y => ∀ d, x.1.2.dst = some d → y.1.2.dst ≠ some d)
  | [], seen, ds, h, ve, env, c, hf, _, _, _, _ => ⟨[], h, ve, env, rfl, hf, by simp, fun _ => rfl, .nil, by simp, ⟨by simp, fun _ _ => rfl⟩, by simp, fun _ _ => rfl, .nil⟩
  | p :: r, seen, ds, h, ve, env, c, hf, hgσ, hgv, hn, hnd => by
    simp only [List.map_cons, List.nodup_cons] at hnd
    have hpn : ve.get p.1 = none := hn p (by simp)
    have hpr : ∀ u ∈ r, u.1 ≠ p.1 := fun u hu he => hnd.1 (List.mem_map.2 ⟨u, hu, he⟩)
    have hsub : ∀ (ve1 : Tr AV) (a : AV), ve.upd p.1 (some a) ve1 → ∀ i b, ve.get i = some b → ve1.get i = some b := fun ve1 a hu i b hb => by
      rw [hu i, if_neg (fun hc => by rw [hc, hpn] at hb; cases hb)]; exact hb
    have hn1 : ∀ (ve1 : Tr AV) (a : AV), ve.upd p.1 (some a) ve1 → ∀ u ∈ r, ve1.get u.1 = none := fun ve1 a hu u hur => by
      rw [hu u.1, if_neg (hpr u hur)]; exact hn u (by simp [hur])
    -- what the rest gives, with this one ahead
    have fin : ∀ (k : GK) (ve1 : Tr AV) (hu : ve.upd p.1 (some k.val) ve1) (W : List GE) (veF : Tr AV), W.map (fun e => e.1) = r → (∀ e ∈ W, veF.get e.1.1 = some e.2.val) → (∀ i, (∀ e ∈ W, e.1.1 ≠ i) → veF.get i = ve1.get i) →
        ((∀ e ∈ (p, k) :: W, veF.get e.1.1 = some e.2.val) ∧ ∀ i, (∀ e ∈ (p, k) :: W, e.1.1 ≠ i) → veF.get i = ve.get i) ∧ ∀ i a, ve.get i = some a → veF.get i = some a := fun k ve1 hu W veF hW g1 g2 => by
      have hWr : ∀ e ∈ W, e.1.1 ≠ p.1 := fun e he => hpr e.1 (by rw [← hW]; exact List.mem_map.2 ⟨e, he, rfl⟩)
      have hp1 : veF.get p.1 = some k.val := by rw [g2 p.1 hWr, hu, if_pos rfl]
      have h2 : ∀ i, (∀ e ∈ (p, k) :: W, e.1.1 ≠ i) → veF.get i = ve.get i := fun i hi => by
        rw [g2 i (fun e he => hi e (by simp [he])), hu i, if_neg (fun hc => hi (p, k) (by simp) hc.symm)]
      refine ⟨⟨fun e he => ?_, h2⟩, fun i a ha => ?_⟩
      · cases he with
        | head => exact hp1
        | tail _ he => exact g1 e he
      · rw [h2 i]; exact ha
        intro e he hc
        cases he with
        | head => rw [← hc] at ha; simp only at ha; rw [hpn] at ha; cases ha
        | tail _ he =>
          have hin : e.1 ∈ r := by rw [← hW]; exact List.mem_map.2 ⟨e, he, rfl⟩
          have := hn e.1 (by simp [hin])
          rw [hc, ha] at this; cases this
    unfold gRun at hf
    split at hf
    · rename_i t x y hop
      obtain ⟨hdg, hf⟩ := fT_iff hf
      simp only [Bool.and_eq_true, Option.isNone_iff_eq_none] at hdg
      obtain ⟨v, hv, hf⟩ := fO_iff hf
      obtain ⟨a, ha, hf⟩ := fO_iff hf
      obtain ⟨hseen, hf⟩ := fT_iff hf
      have hns : ∀ z ∈ seen, z.1 = a.1 → waits p.2 z.2 = true := fun z hz he => by
        have := List.all_eq_true.1 hseen z hz
        rw [he, Nat.beq_refl] at this
        exact this
      obtain ⟨X, hX, hf⟩ := fO_iff hf
      obtain ⟨w, hw, hf⟩ := fO_iff hf
      obtain ⟨hsz, hf⟩ := fT_iff hf
      obtain ⟨hone, hf⟩ := fT_iff hf
      obtain ⟨o, ho, hf⟩ := fO_iff hf
      obtain ⟨q, hq, hf⟩ := fO_iff hf
      obtain ⟨cs, hcs, hf⟩ := fO_iff hf
      rw [fL_eq] at hf
      obtain ⟨h1, hu, hf⟩ := Tr.setK_iff _ _ _ _ _ hf
      obtain ⟨hsame, hf⟩ := fT_iff hf
      obtain ⟨ve1, huv, hf⟩ := Tr.setK_iff _ _ _ _ _ hf
      obtain ⟨W, hF, veF, envF, g1, g2, g3, g4, g5, g6, g7, g8, g9, g10⟩ := gRun_s hT (cx := cx) (fz := fz) hf hgσ (hgv.put huv (v := undef) (by simp [gv, gvs, undef])) (hn1 ve1 _ huv) hnd.2
      have h1a : h1.get a.1 = some (.cells cs q.e q.sl q.fr) := by rw [hu, if_pos rfl]
      obtain ⟨f1, f2⟩ := fin (.st a.1 o (.cells cs q.e q.sl q.fr)) ve1 huv W veF g1 g7.1 g7.2
      refine ⟨(p, .st a.1 o (.cells cs q.e q.sl q.fr)) :: W, hF, veF, envF, by simp [g1], g2, fun e he => ?_, fun id => ?_, ?_, fun e he id o1 o2 heq z hz hzi => ?_, f1, fun e he d hd => ?_, fun t ht => g9 t fun e he => ht e (by simp [he]), ?_⟩
      · cases he with
        | head =>
          refine ⟨ve, f2, hdg.1, hdg.2, t, x, y, v, a.2, X, w, q, cs, hop, hv, ha, hX, hw, Nat.eq_of_beq_eq_true hsz, hone, oCe_eq hq, hcs, rfl, fun z hz j hj hji => ?_⟩
          obtain ⟨o1, k1, k2⟩ := sameP_s hsame z hz j hj
          rw [hji, ho] at k1
          rw [hji, h1a] at k2
          injection k1 with k1
          injection k2 with k2
          rw [k1, k2]
        | tail _ he => exact g3 e he
      · have := g4 id
        simp only [Ch]
        by_cases hid : a.1 = id
        · subst hid
          rw [if_pos rfl]
          rw [h1a] at this
          exact ⟨ho, this⟩
        · rw [if_neg hid]
          rw [hu, if_neg (fun hc => hid hc.symm)] at this
          exact this
      · refine .cons (fun e he id o1 p1 o2 p2 hx hy => ?_) g5
        injection hx with hx
        exact g6 e he id o2 p2 hy (a.1, p.1) (by simp) hx
      · cases he with
        | head => injection heq with heq; exact hns z hz (hzi.trans heq.symm)
        | tail _ he => exact g6 e he id o1 o2 heq z (by simp [hz]) hzi
      · cases he with
        | head => simp only at hd; rw [hdg.1] at hd; cases hd
        | tail _ he => exact g8 e he d hd
      · exact .cons (fun e he d hd => by simp only at hd; rw [hdg.1] at hd; cases hd) g10
    · obtain ⟨hg, hf⟩ := fT_iff hf
      rw [Option.isNone_iff_eq_none] at hg
      obtain ⟨x, hx, hxs, _⟩ := oxT_s (P := P) hT hf
      cases x with
      | q f =>
        have hf' : (f tT (rdQ all p.1 p.2 σA ve) .lf fun v => fT (f tT (rdQ all p.1 p.2 σA ve) .lf fun u => avEq u v) (dstK nt p.2.dst ds v env fun ds env => Tr.setK envd ve p.1 (some v) fun ve => gRun tT nt all σA pendA r seen ds h ve env c)) = true := hx
        -- some value
        obtain ⟨a, va, ha, hav, _⟩ := hxs cx fz ν _ _ .lf [] [] _ p.2.dst p.2.type p.2.pos p.2.after p.2.guard (gd_rr (all := all) (i := p.1) (o := p.2) hgσ hgv) ⟨(fun _ _ h => by cases h), (fun _ _ _ _ _ h => by cases h), by simp, (fun _ _ _ _ _ h => by cases h)⟩ hf'
        obtain ⟨hval, ha⟩ := fT_iff ha
        obtain ⟨ds', env', ha, d1, d2, d3⟩ := dstK_s ha
        obtain ⟨ve1, huv, ha⟩ := Tr.setK_iff _ _ _ _ _ ha
        obtain ⟨W, hF, veF, envF, g1, g2, g3, g4, g5, g6, g7, g8, g9, g10⟩ := gRun_s hT (cx := cx) (fz := fz) ha hgσ (hgv.put huv hav) (hn1 ve1 _ huv) hnd.2
        obtain ⟨f1, f2⟩ := fin (.qt a) ve1 huv W veF g1 g7.1 g7.2
        refine ⟨(p, .qt a) :: W, hF, veF, envF, by simp [g1], g2, fun e he => ?_, fun id => g4 id, ?_, fun e he id o1 o2 heq z hz hzi => ?_, f1, fun e he d hd => ?_, fun t ht => ?_, ?_⟩
        · cases he with
          | head => exact ⟨ve, f2, hg, f, hxs, hval⟩
          | tail _ he => exact g3 e he
        · exact .cons (fun e he id o1 p1 o2 p2 hx => by cases hx) g5
        · cases he with
          | head => cases heq
          | tail _ he => exact g6 e he id o1 o2 heq z hz hzi
        · cases he with
          | head =>
            obtain ⟨k1, k2, k3, k4⟩ := d2 d hd
            refine ⟨k1, k2, ?_⟩
            rw [g9 d fun e he hc => (g8 e he d hc).1 k3]
            exact k4
          | tail _ he =>
            obtain ⟨k1, k2, k3⟩ := g8 e he d hd
            exact ⟨fun hm => k1 (d1 d hm), k2, k3⟩
        · rw [g9 t fun e he => ht e (by simp [he])]
          exact d3 t (ht (p, .qt a) (by simp))
        · exact .cons (fun e he d hd hc => (g8 e he d hc).1 (d2 d hd).2.2.1) g10
      | _ => cases hx
theorem hasP_iff {us : List (Nat × Oper)} {n : Nat} : hasP us n = true ↔ ∃ u ∈ us, u.1 = n := by
  unfold hasP
  rw [List.any_eq_true]
  exact ⟨fun ⟨u, h1, h2⟩ => ⟨u, h1, Nat.eq_of_beq_eq_true h2⟩, fun ⟨u, h1, h2⟩ => ⟨u, h1, by rw [h2]; exact Nat.beq_refl _⟩⟩
theorem hasP_no {us : List (Nat × Oper)} {n : Nat} : hasP us n = false ↔ ∀ u ∈ us, u.1 ≠ n := by
  rw [← Bool.not_eq_true, hasP_iff]
  exact ⟨fun h u hu he => h ⟨u, hu, he⟩, fun h ⟨u, hu, he⟩ => h u hu he⟩
theorem rmAll_eq : ∀ (us kept : List (Nat × Oper)), rmAll us kept = kept.filter fun p => !hasP us p.1
  | [], kept => by
    simp only [rmAll]
    exact (List.filter_eq_self.2 (fun p _ => by simp [hasP])).symm
  | u :: r, kept => by
    simp only [rmAll]
    rw [rmAll_eq r]
    unfold rm
    rw [List.filter_filter]
    congr 1
    funext p
    have : hasP (u :: r) p.1 = (Nat.beq u.1 p.1 || hasP r p.1) := rfl
    have hc : Nat.beq u.1 p.1 = Nat.beq p.1 u.1 := by
      rw [nbeq, nbeq]; simp [eq_comm]
    rw [this, hc]
    cases Nat.beq p.1 u.1 <;> cases hasP r p.1 <;> rfl
theorem leftAll_eq : ∀ (us : List (Nat × Oper)) (pend : Pn), leftAll pend us = pend.filter fun q => us.all fun u => !waits u.2 q.1
  | [], pend => by
    simp only [leftAll]
    exact (List.filter_eq_self.2 (fun p _ => by simp)).symm
  | u :: r, pend => by
    simp only [leftAll]
    rw [leftAll_eq r]
    unfold leftP
    rw [List.filter_filter]
    congr 1
    funext q
    simp only [List.all_cons]
    cases waits u.2 q.1 <;> simp
/-- one write -/
theorem store_s (hT : TA tT T) {cx : Cx} {fz : FZ} {all : List Oper} {σA veA : Tr AV} {pendA : Pn} {u : Nat × Oper} {id : Nat} {o o' : AO} {ν : Nu} {h h' : Tr AO} {H Fm : HP} {r : Operand → Option Value} (hw : WI tT all σA veA pendA u id o o') (hr : RR ν (rdQ all u.1 u.2 σA veA) r)
    (hh : HR tT ν h H Fm) (ho : h.get id = some o) (hu : h.upd id (some o') h') : DoesF P cx u.2 r fz H (fun v fz' H' => fz' = fz ∧ v = undef ∧ HR tT ν h' H' Fm) := by
  obtain ⟨hd, hg, t, x, y, v, a, X, w, q, cs, hop, hx, hp, hX, hy, hsz, hone, rfl, hcs, rfl, _⟩ := hw
  obtain ⟨ux, h1, h2⟩ := hr x v hx
  obtain ⟨uy, h3, h4⟩ := hr y w hy
  obtain ⟨b, hb, rfl⟩ := asP_iff hp h1
  obtain ⟨XT, hXT, hR⟩ := hT t X hX
  have hcells := gv_cells h3
  intro Hx
  refine Does.of fun ρ wd hρ hi => ?_
  obtain ⟨b', xo, pre, post, hb', hgo, rfl⟩ := hh.split ho
  simp only at hb
  rw [hb] at hb'; injection hb' with hb'; subst hb'
  obtain ⟨ws, l, g1, g2, rfl, _⟩ := HR.ce (q := q) rfl hgo
  obtain ⟨g3, g4⟩ := gvs_wr g1 hcells hcs
  have hi2 := hi.perm (List.perm_append_comm : ((pre ++ (b, Obj.cells (ws ++ l).toArray q.e (frz q.fr (ws ++ l).length)) :: post) ++ Hx).Perm _)
  have hwd := (hi2.hp.own (b, .cells (ws ++ l).toArray q.e (frz q.fr (ws ++ l).length)) (by simp)).1
  simp only at hwd
  obtain ⟨w', k1, k2, k3, k4, k5, k6, k7⟩ := run_store (P := P) (off := a) uy.cells.toList 0 (ws ++ l).toArray (frz q.fr (ws ++ l).length) wd hwd (by simp at g3 ⊢; omega) (ones_s hone hcells) (by
    unfold frz
    split
    · right; simp
    · left; rfl)
  have hnew : (((ws ++ l).toArray.toList.take (a + 0) ++ uy.cells.toList ++ (ws ++ l).toArray.toList.drop (a + 0 + uy.cells.toList.length))) = (ws.take a ++ uy.cells.toList ++ ws.drop (a + uy.cells.toList.length)) ++ l := by
    simp only [Nat.add_zero]
    rw [List.take_append_of_le_length (by omega), List.drop_append_of_le_length (by omega)]
    simp
  rw [hnew] at k2
  have hlen : ((ws.take a ++ uy.cells.toList ++ ws.drop (a + uy.cells.toList.length)) ++ l).length = (ws ++ l).length := by simp at g3 ⊢; omega
  have hgo' : go ν (.cells cs q.e q.sl q.fr) = some (.cells ((ws.take a ++ uy.cells.toList ++ ws.drop (a + uy.cells.toList.length)) ++ l).toArray q.e (frz q.fr (ws ++ l).length)) := by
    simp only [go, g4, g2, hlen]
  have hnd : ((pre ++ (b, Obj.cells (ws ++ l).toArray q.e (frz q.fr (ws ++ l).length)) :: post).map Prod.fst).Nodup := by
    have := hi2.hp.nd
    rw [List.map_append, List.nodup_append] at this
    exact this.1
  have hh' := hh.set hnd ho hb hgo' hu (fun cs' e j fr he => by injection he with e1 e2 e3 e4; exact ⟨q.cs, q.fr, by rw [e2, e3], by rw [← e1, ← gvs_len g1, ← gvs_len g4]; simp at g3 ⊢; omega⟩)
  have hi3 : Inv cx fz (pre ++ (b, Obj.cells ((ws.take a ++ uy.cells.toList ++ ws.drop (a + uy.cells.toList.length)) ++ l).toArray q.e (frz q.fr (ws ++ l).length)) :: (post ++ Hx)) w' :=
    Inv.write (pre := pre) (post := post ++ Hx) (by simpa using hi2) k3 k4 k5 k6 k2 k7
  have hsize := Go.Lx.run_sizeOf T hXT wd
  have hs : uy.cells.size = XT.size := by
    have := gvs_len hcells
    rw [hR.size, ← hsz]
    simpa using this
  have : (execOp ρ u.2).run P wd = .ok .skip w' := by
    simp only [execOp, hop, hρ _ _ h2, hρ _ _ h4, Instr.storeAt, Instr.sureAddr, Sem.run_bind, Sem.run_pure, Result.andThen_ok, storeVar, hsize]
    simp [hs, k1]
  rw [this]
  refine ⟨fz, _, hi3.perm (H' := Hx ++ (pre ++ (b, Obj.cells ((ws.take a ++ uy.cells.toList ++ ws.drop (a + uy.cells.toList.length)) ++ l).toArray q.e (frz q.fr (ws ++ l).length)) :: post)) ?_, _, rfl, rfl, rfl, hh'⟩
  refine (List.perm_append_comm).trans ?_
  simp
end
end Go.Ev
namespace Go.Ev
open Go.Lx Go.RowKit
section
variable {P : Program} {tT : TT} {T : Tab P}
theorem quiet_h {cx : Cx} {o : Oper} {r : Operand → Option Value} {fz : FZ} {H : HP} {v : Value} (h : Quiet P cx o r fz [] v) : Quiet P cx o r fz H v := fun ρ w hr hi => h ρ w hr (hi.forget (List.nil_sublist _))
/-- some of the group have run; W: those that have not -/
structure MS (P : Program) (tT : TT) (all : List Oper) (σA veF envF : Tr AV) (hF : Tr AO) (pendA FA : Pn) (us rF : List (Nat × Oper)) (ν : Nu) (ve0 : Env) (Fm : HP) (W : List GE) (h : Tr AO) (H : HP) (ve τ : Env) (pend : Pend) (pA : Pn) (kept : List (Nat × Oper)) : Prop where
  hr : HR tT ν h H Fm
  ch : ∀ id, Ch id (h.get id) W (hF.get id)
  pw : W.Pairwise fun x y => ∀ id o1 p1 o2 p2, x.2 = .st id o1 p1 → y.2 = .st id o2 p2 → waits y.1.2 x.1.1 = true
  gi : ∀ e ∈ W, ∃ veT : Tr AV, (∀ i a, veT.get i = some a → veF.get i = some a) ∧ GI P tT all σA veT pendA e.1 e.2
  ext : VExt ve0 ve
  no : ∀ e ∈ W, lk ve e.1.1 = none
  val : ∀ i, (∀ e ∈ W, e.1.1 ≠ i) → (∀ a, veF.get i = some a → ∃ v, gv ν a = some v ∧ lk ve i = some v) ∧ (veF.get i = none → lk ve i = none)
  vw : ∀ e ∈ W, veF.get e.1.1 = some e.2.val
  tau : ∀ t, (∀ e ∈ W, e.1.2.dst ≠ some t) → ∀ a, envF.get t = some a → ∃ v, gv ν a = some v ∧ lk τ t = some v
  ew : ∀ e ∈ W, ∀ d, e.1.2.dst = some d → envF.get d = some e.2.val
  dw : W.Pairwise fun x y => ∀ d, x.1.2.dst = some d → y.1.2.dst ≠ some d
  pr : PR ν h pA pend
  pf : pA.filter (fun q => W.all fun e => !waits e.1.2 q.1) = FA
  ps : ∀ z ∈ pA, z ∈ pendA
  kn : (kept.map Prod.fst).Nodup
  kw : ∀ e ∈ W, e.1 ∈ kept ∧ fk e.1.2 = false ∧ e.1 ∈ us
  kf : kept.filter (fun p => !hasP (W.map fun e => e.1) p.1) = rF
theorem pw_mid {α : Type} {R : α → α → Prop} {W1 W2 : List α} {e : α} (h : (W1 ++ e :: W2).Pairwise R) : (∀ x ∈ W1, R x e) ∧ (∀ x ∈ W2, R e x) ∧ (W1 ++ W2).Pairwise R := by
  rw [List.pairwise_append] at h
  obtain ⟨h1, h2, h3⟩ := h
  rw [List.pairwise_cons] at h2
  exact ⟨fun x hx => h3 x hx e (by simp), h2.1, List.pairwise_append.2 ⟨h1, h2.2, fun a ha b hb => h3 a ha b (by simp [hb])⟩⟩
/-- memory behind one of the group -/
def gkUpd (h : Tr AO) (k : GK) (h' : Tr AO) : Prop := match k with
  | .st id _ o' => h.upd id (some o') h'
  | .qt _ => h' = h
theorem MS.step {all : List Oper} {σA veF envF : Tr AV} {hF : Tr AO} {pendA FA : Pn} {us rF : List (Nat × Oper)} {ν : Nu} {ve0 : Env} {Fm : HP} {W1 W2 : List GE} {e : GE} {h h' : Tr AO} {H H' : HP} {ve τ : Env} {pend : Pend} {pA : Pn} {kept : List (Nat × Oper)} {v : Value}
    (m : MS P tT all σA veF envF hF pendA FA us rF ν ve0 Fm (W1 ++ e :: W2) h H ve τ pend pA kept) (hu : gkUpd h e.2 h') (hh : HR tT ν h' H' Fm) (hv : gv ν e.2.val = some v) (hidx : ∀ x ∈ W1 ++ W2, x.1.1 ≠ e.1.1) (hun : ∀ x ∈ W1 ++ e :: W2, waits e.1.2 x.1.1 = false) :
    MS P tT all σA veF envF hF pendA FA us rF ν ve0 Fm (W1 ++ W2) h' H' ((e.1.1, v) :: ve) (putT e.1.2.dst v τ) (leftOver pend e.1.2) (leftP pA e.1.2) (rm e.1.1 kept) := by
  have hmem : ∀ x, x ∈ W1 ++ W2 → x ∈ W1 ++ e :: W2 := fun x hx => by
    rcases List.mem_append.1 hx with h | h <;> simp [h]
  have hee : e ∈ W1 ++ e :: W2 := by simp
  have hin : ∀ x, x ∈ W1 ++ e :: W2 → x = e ∨ x ∈ W1 ++ W2 := fun x hx => by
    have := (List.perm_middle (a := e) (l₁ := W1) (l₂ := W2)).subset hx
    cases this with
    | head => exact .inl rfl
    | tail _ h => exact .inr h
  obtain ⟨pw1, pw2, pw3⟩ := pw_mid m.pw
  obtain ⟨dw1, dw2, dw3⟩ := pw_mid m.dw
  have hW1 : ∀ id o o', e.2 = .st id o o' → ∀ x ∈ W1, notSt id x.2 := fun id o o' he x hx p p' hxp => by
    have h1 := pw1 x hx id p p' o o' hxp he
    rw [hun x (by simp [hx])] at h1; cases h1
  refine ⟨hh, fun id => ?_, pw3, fun x hx => m.gi x (hmem x hx), fun k u hk => ?_, fun x hx => ?_, fun i hi => ?_, fun x hx => m.vw x (hmem x hx), fun t ht a ha => ?_, fun x hx => m.ew x (hmem x hx), dw3, ?_, ?_, fun z hz => m.ps z (List.mem_filter.1 hz).1, ?_, fun x hx => ?_, ?_⟩
  · have hc := m.ch id
    cases he : e.2 with
    | st i o o' =>
      rw [he] at hu
      have hu' : h.upd i (some o') h' := hu
      by_cases hid : i = id
      · subst hid
        rw [hu', if_pos rfl]
        exact (Ch_pick he (hW1 i o o' he) hc).2
      · rw [hu', if_neg (fun hx => hid hx.symm)]
        exact Ch_other (fun p p' hx => by rw [he] at hx; injection hx with hx; exact hid hx) hc
    | qt a =>
      rw [he] at hu
      have hu' : h' = h := hu
      rw [hu']
      exact Ch_other (fun p p' hx => by rw [he] at hx; cases hx) hc
  · rw [lk_cons_ne _ _ (fun he => by
      have h1 := m.no e hee
      have h2 := m.ext k u hk
      rw [he, h2] at h1; cases h1)]
    exact m.ext k u hk
  · rw [lk_cons_ne _ _ (fun he => hidx x hx he.symm)]
    exact m.no x (hmem x hx)
  · by_cases hc : e.1.1 = i
    · subst hc
      rw [m.vw e hee]
      refine ⟨fun a ha => ?_, fun hn => by cases hn⟩
      injection ha with ha; subst ha
      exact ⟨v, hv, lk_cons_same _ _ _⟩
    · rw [lk_cons_ne _ _ hc]
      exact m.val i fun x hx => by
        rcases hin x hx with h | h
        · rw [h]; exact hc
        · exact hi x h
  · by_cases hc : e.1.2.dst = some t
    · rw [m.ew e hee t hc] at ha
      injection ha with ha; subst ha
      rw [hc]
      exact ⟨v, hv, lk_cons_same _ _ _⟩
    · obtain ⟨u, h1, h2⟩ := m.tau t (fun x hx => by
        rcases hin x hx with h | h
        · rw [h]; exact hc
        · exact ht x h) a ha
      refine ⟨u, h1, ?_⟩
      cases hd : e.1.2.dst with
      | none => exact h2
      | some d =>
        unfold putT
        rw [lk_cons_ne _ _ (fun he => hc (by rw [hd, he]))]
        exact h2
  · refine (m.pr.left (o := e.1.2)).move (Nu.le.refl _) fun z hz id hid o ho _ => ?_
    cases he : e.2 with
    | st i p p' =>
      rw [he] at hu
      have hu' : h.upd i (some p') h' := hu
      rw [hu' id]
      by_cases hc : id = i
      · subst hc
        rw [if_pos rfl]
        have hget := (Ch_pick he (hW1 id p p' he) (m.ch id)).1
        rw [ho] at hget; injection hget with hget
        obtain ⟨veT, _, hw⟩ := m.gi e hee
        rw [he] at hw
        obtain ⟨_, _, t, x, y, v, a, X, w, q, cs, _, _, _, _, _, _, _, _, _, _, hkeep⟩ := hw
        have hz' := List.mem_filter.1 hz
        rw [hkeep z (List.mem_filter.2 ⟨m.ps z hz'.1, hz'.2⟩) _ hid rfl, hget]
      · rw [if_neg hc]; exact ho
    | qt a =>
      rw [he] at hu
      have hu' : h' = h := hu
      rw [hu']; exact ho
  · rw [← m.pf]
    unfold leftP
    rw [List.filter_filter]
    congr 1
    funext q
    simp only [List.all_append, List.all_cons]
    cases waits e.1.2 q.1 <;> simp
  · unfold rm
    exact (List.filter_sublist.map _).nodup m.kn
  · obtain ⟨h1, h2, h3⟩ := m.kw x (hmem x hx)
    exact ⟨mem_rm.2 ⟨h1, hidx x hx⟩, h2, h3⟩
  · rw [← m.kf]
    unfold rm
    rw [List.filter_filter]
    congr 1
    funext p
    have h1 : hasP ((W1 ++ e :: W2).map fun e => e.1) p.1 = (Nat.beq e.1.1 p.1 || hasP ((W1 ++ W2).map fun e => e.1) p.1) := by
      unfold hasP
      simp only [List.map_append, List.map_cons, List.any_append, List.any_cons]
      cases Nat.beq e.1.1 p.1 <;> simp
    have hc : Nat.beq e.1.1 p.1 = Nat.beq p.1 e.1.1 := by
      rw [nbeq, nbeq]; simp [eq_comm]
    rw [h1, hc]
    cases Nat.beq p.1 e.1.1 <;> cases hasP ((W1 ++ W2).map fun e => e.1) p.1 <;> rfl
/-- what is known of the others -/
def RestM (tT : TT) (all : List Oper) (σA veA : Tr AV) (fls : List Nat) (us rF : List (Nat × Oper)) : Prop := ∀ p ∈ rF,
  (p.1 ∈ fls ∧ fk p.2 = true ∧ (∀ u ∈ us, waits p.2 u.1 = false) ∧ (flo (ox p.2.op) tT (rdD all p.1 p.2 σA veA)).isSome = true) ∨
  (p.1 ∉ fls ∧ ((∃ e ∈ p.2.after, Region.binds .any e = true ∧ veA.get e.on = none ∧ e.on ∉ fls ∧ ∀ u ∈ us, u.1 ≠ e.on) ∨ ∀ u ∈ us, waits p.2 u.1 = true ∧ u.1 ∉ fls))
theorem restM_s {all : List Oper} {σA veA : Tr AV} {fls : List Nat} {us rF : List (Nat × Oper)} (h : restM tT all σA veA fls us rF = true) : RestM tT all σA veA fls us rF := fun p hp => by
  have := List.all_eq_true.1 h p hp
  cases hn : hasN fls p.1 with
  | true =>
    rw [hn] at this
    simp only [Bool.and_eq_true, List.all_eq_true, Bool.not_eq_true'] at this
    exact .inl ⟨hasN_mem.1 hn, this.1, this.2.1, this.2.2⟩
  | false =>
    rw [hn] at this
    simp only [Bool.or_eq_true] at this
    refine .inr ⟨(fun hc => by rw [hasN_mem.2 hc] at hn; cases hn), ?_⟩
    rcases this with h1 | h1
    · obtain ⟨e, he, h2⟩ := List.any_eq_true.1 h1
      simp only [Bool.and_eq_true, Option.isNone_iff_eq_none, Bool.not_eq_true', Bool.or_eq_false_iff] at h2
      refine .inl ⟨e, by simpa using he, h2.1, h2.2.1, fun hc => ?_, hasP_no.1 h2.2.2.2⟩
      have := h2.2.2.1
      rw [hasN_mem.2 hc] at this; cases this
    · refine .inr fun u hu => ?_
      have h2 := List.all_eq_true.1 h1 u hu
      simp only [Bool.and_eq_true, Bool.not_eq_true'] at h2
      exact ⟨h2.1, fun hc => by rw [hasN_mem.2 hc] at h2; cases h2.2⟩
theorem many_s (hT : TA tT T) {cx : Cx} {fz : FZ} {Q : QQ} {m : Nat} {all : List Oper} {σA veA veF envF : Tr AV} {hF : Tr AO} {pendA FA : Pn} {us rF : List (Nat × Oper)} {ν : Nu} {σ ve0 : Env} {Fm : HP} {fls : List Nat} (hσ : ER ν σA σ)
    (hvF : ∀ i, (∀ u ∈ us, u.1 ≠ i) → veF.get i = veA.get i) (hflu : ∀ u ∈ us, u.1 ∉ fls) (hrest : RestM tT all σA veA fls us rF)
    (hend : ∀ H ve τ pend, VR ν veF ve → ER ν envF τ → PR ν hF FA pend → HR tT ν hF H Fm → Dr P cx all σ fk (flD P all σ) Q (m + 1) rF ve τ pend fz H) :
    ∀ (N : Nat) (W : List GE) (h : Tr AO) (H : HP) (ve τ : Env) (pend : Pend) (pA : Pn) (kept : List (Nat × Oper)), W.length = N → (W.map fun e => e.1.1).Nodup → MS P tT all σA veF envF hF pendA FA us rF ν ve0 Fm W h H ve τ pend pA kept →
      (W ≠ [] → KQ P cx all σ Q (m + W.length) fz H ve τ pend kept) ∧ Dr P cx all σ fk (flD P all σ) Q (m + 1 + W.length) kept ve τ pend fz H := by
  intro N
  induction N with
  | zero =>
    intro W h H ve τ pend pA kept hl _ s
    have hW : W = [] := List.eq_nil_of_length_eq_zero hl
    subst hW
    refine ⟨fun hc => absurd rfl hc, ?_⟩
    have hk : kept = rF := by
      rw [← s.kf]
      exact (List.filter_eq_self.2 (fun p _ => by simp [hasP])).symm
    have hpA : pA = FA := by
      rw [← s.pf]
      exact (List.filter_eq_self.2 (fun p _ => by simp)).symm
    have hget : ∀ id, hF.get id = h.get id := fun id => s.ch id
    subst hk hpA
    refine hend H ve τ pend ⟨fun i a ha => (s.val i (by simp)).1 a ha, fun i hi => (s.val i (by simp)).2 hi⟩ (fun t a ha => s.tau t (by simp) a ha) ?_ ?_
    · exact s.pr.move (Nu.le.refl _) fun _ _ id _ o ho _ => by rw [hget]; exact ho
    · exact ⟨fun id o ho => s.hr.own id o (by rw [← hget]; exact ho), fun id id' o o' b h1 h2 => s.hr.inj id id' o o' b (by rw [← hget]; exact h1) (by rw [← hget]; exact h2), fun p hp => ⟨(s.hr.fm p hp).1, fun id o ho => (s.hr.fm p hp).2 id o (by rw [← hget]; exact ho)⟩, fun id cs e j fr hq => s.hr.cap id cs e j fr (by rw [← hget]; exact hq)⟩
  | succ N ih =>
    intro W h H ve τ pend pA kept hl hwn s
    have hne : W ≠ [] := fun hc => by rw [hc] at hl; cases hl
    have hKQ : KQ P cx all σ Q (m + W.length) fz H ve τ pend kept := by
      obtain ⟨e0, he0⟩ : ∃ e0, e0 ∈ W := by
        cases W with
        | nil => exact absurd rfl hne
        | cons e r => exact ⟨e, by simp⟩
      -- one that is kept is one of the group, or of the others
      have hsplit : ∀ p ∈ kept, (∃ e ∈ W, e.1 = p) ∨ p ∈ rF := fun p hp => by
        cases hc : hasP (W.map fun e => e.1) p.1 with
        | true =>
          obtain ⟨u, hu, he⟩ := hasP_iff.1 hc
          obtain ⟨e, hew, rfl⟩ := List.mem_map.1 hu
          exact .inl ⟨e, hew, uniq_idx s.kn (s.kw e hew).1 hp he⟩
        | false =>
          refine .inr ?_
          rw [← s.kf]
          exact List.mem_filter.2 ⟨hp, by rw [hc]; rfl⟩
      have hstuck : ∀ p ∈ rF, p.1 ∉ fls → ∃ e ∈ p.2.after, Region.binds .any e = true ∧ lk ve e.on = none ∧ e.on ∉ fls := fun p hp hn => by
        rcases hrest p hp with h1 | ⟨_, h1 | h1⟩
        · exact absurd h1.1 hn
        · obtain ⟨e, he, k1, k2, k3, k4⟩ := h1
          refine ⟨e, he, k1, (s.val e.on fun x hx => k4 _ (s.kw x hx).2.2).2 ?_, k3⟩
          rw [hvF _ k4]
          exact k2
        · obtain ⟨k1, k2⟩ := h1 e0.1 (s.kw e0 he0).2.2
          obtain ⟨e, he, heb⟩ := List.any_eq_true.1 k1
          simp only [Bool.and_eq_true] at heb
          have hon := Nat.eq_of_beq_eq_true heb.1
          exact ⟨e, by simpa using he, heb.2, by rw [hon]; exact s.no e0 he0, by rw [hon]; exact k2⟩
      refine .inr (.inl ⟨⟨e0.1, (s.kw e0 he0).1, (s.kw e0 he0).2.1⟩, fls, ?_, fun p hp => ?_⟩)
      · refine clo_sub fun p hp hpf hpn => ?_
        rcases hsplit p hp with ⟨e, he, rfl⟩ | hp
        · rw [(s.kw e he).2.1] at hpf; cases hpf
        · exact hstuck p hp hpn
      · rcases hsplit p hp with ⟨e, he, rfl⟩ | hpr
        · by_cases hblk : ∃ x ∈ W, waits e.1.2 x.1.1 = true
          · obtain ⟨x, hx, hw⟩ := hblk
            obtain ⟨ed, hed, heb⟩ := List.any_eq_true.1 hw
            simp only [Bool.and_eq_true] at heb
            have hon := Nat.eq_of_beq_eq_true heb.1
            exact .inr (.inl (stuckBy_of ⟨ed, by simpa using hed, heb.2, by rw [hon]; exact s.no x hx, by rw [hon]; exact hflu _ (s.kw x hx).2.2⟩))
          · have hun : ∀ x ∈ W, waits e.1.2 x.1.1 = false := fun x hx => by
              cases hw : waits e.1.2 x.1.1 with
              | false => rfl
              | true => exact absurd ⟨x, hx, hw⟩ hblk
            obtain ⟨veT, hsubT, hgi⟩ := s.gi e he
            have hr : RR ν (rdQ all e.1.1 e.1.2 σA veT) (rdg all e.1.1 e.1.2 σ ve) := rdQ_rro hσ fun j hj a ha => by
              refine (s.val j fun x hx hc => ?_).1 a (hsubT j a ha)
              have := hun x hx
              rw [hc, hj] at this; cases this
            obtain ⟨W1, W2, rfl⟩ := List.append_of_mem he
            have hperm : (W1 ++ e :: W2).Perm (e :: (W1 ++ W2)) := List.perm_middle
            have hwn2 := (hperm.map fun e => e.1.1).nodup hwn
            simp only [List.map_cons, List.nodup_cons] at hwn2
            have hidx : ∀ x ∈ W1 ++ W2, x.1.1 ≠ e.1.1 := fun x hx hc => hwn2.1 (List.mem_map.2 ⟨x, hx, hc⟩)
            have hlen : (W1 ++ e :: W2).length = (W1 ++ W2).length + 1 := by simp; omega
            have hgo : ∀ (v : Value) (h' : Tr AO) (H' : HP), gkUpd h e.2 h' → HR tT ν h' H' Fm → gv ν e.2.val = some v → Le fz fz ∧ (∀ q ∈ leftOver pend e.1.2, ∀ b ∈ q.2, b ∈ H') ∧ Dr P cx all σ fk (flD P all σ) Q (m + (W1 ++ e :: W2).length) (rm e.1.1 kept) ((e.1.1, v) :: ve) (putT e.1.2.dst v τ) (leftOver pend e.1.2) fz H' := fun v h' H' hu hh hv => by
              have s' := s.step hu hh hv hidx hun
              obtain ⟨_, hd⟩ := ih (W1 ++ W2) h' H' _ _ _ _ _ (by omega) hwn2.2 s'
              exact ⟨Le.refl _, s'.pr.mem hh, Dr_mono (by omega) hd⟩
            cases hk : e.2 with
            | st id o o' =>
              rw [hk] at hgi
              have hwi : WI tT all σA veT pendA e.1 id o o' := hgi
              have hW1 : ∀ x ∈ W1, notSt id x.2 := fun x hx p p' hxp => by
                have h1 := (pw_mid s.pw).1 x hx id p p' o o' hxp hk
                rw [hun x (by simp [hx])] at h1; cases h1
              have hget := (Ch_pick hk hW1 (s.ch id)).1
              obtain ⟨h', hu⟩ := Tr.upd_ex h id (some o')
              have hdo := store_s (P := P) hT (cx := cx) (fz := fz) hwi hr s.hr hget hu
              have hw : wantq e.1.2 ve = some true := by unfold wantq; rw [hwi.2.1]
              refine .inr (.inr ⟨(s.kw e he).2.1, hw, DoesF_mono hdo fun v fz' H' ⟨e1, e2, e3⟩ => ?_⟩)
              subst e1 e2
              exact hgo undef h' H' (by rw [hk]; exact hu) e3 (by rw [hk]; simp [GK.val, gv, gvs, undef])
            | qt a =>
              rw [hk] at hgi
              obtain ⟨hg, f, hxs, hf⟩ := hgi
              obtain ⟨av, v, h1, h2, h3⟩ := hxs cx fz ν _ _ .lf [] [] _ e.1.2.dst e.1.2.type e.1.2.pos e.1.2.after e.1.2.guard hr ⟨(fun _ _ h => by cases h), (fun _ _ _ _ _ h => by cases h), by simp, (fun _ _ _ _ _ h => by cases h)⟩ hf
              have hav := avEq_iff _ _ h1
              subst hav
              have hw : wantq e.1.2 ve = some true := by unfold wantq; rw [hg]
              refine .inr (.inr ⟨(s.kw e he).2.1, hw, fun Hx => Does.of fun ρ w hρ hi => (quiet_h (H := Hx ++ H) h3 ρ w hρ hi).mono fun v' w' ⟨hv', hfr'⟩ => ⟨fz, Hx ++ H, hi.quiet hfr', H, rfl, ?_⟩⟩)
              rw [hv']
              exact hgo v h H (by rw [hk]; rfl) s.hr (by rw [hk]; exact h2)
        · rcases hrest p hpr with ⟨h1, h2, h3, h4⟩ | ⟨h1, _⟩
          · refine .inl ⟨h1, early_s hT hσ (fun j hj => ?_) h2 h4⟩
            have hj' : ∀ u ∈ us, u.1 ≠ j := fun u hu hc => by have := h3 u hu; rw [hc, hj] at this; cases this
            have hv := s.val j fun x hx => hj' _ (s.kw x hx).2.2
            rw [hvF j hj'] at hv
            exact hv
          · exact .inr (.inl (stuckBy_of (hstuck p hpr h1)))
    refine ⟨fun _ => hKQ, ?_⟩
    have := Dr_succ (NP_keep (P := P) (cx := cx) (l := all) (σ := σ) (fz := fz) (H := H) (K := KQ P cx all σ Q (m + W.length) fz H) kept [] (by simpa using hKQ))
    exact Dr_mono (by omega) this
theorem len_sub : ∀ {us l : List (Nat × Oper)}, (us.map Prod.fst).Nodup → (∀ u ∈ us, u ∈ l) → us.length ≤ l.length
  | [], _, _, _ => Nat.zero_le _
  | u :: r, l, hn, hs => by
    simp only [List.map_cons, List.nodup_cons] at hn
    obtain ⟨s, t, rfl⟩ := List.append_of_mem (hs u (by simp))
    have := len_sub (l := s ++ t) hn.2 fun x hx => by
      have h1 := hs x (by simp [hx])
      simp only [List.mem_append, List.mem_cons] at h1 ⊢
      rcases h1 with h | h | h
      · exact .inl h
      · subst h; exact absurd (List.mem_map.2 ⟨x, hx, rfl⟩) hn.1
      · exact .inr h
    simp at this ⊢
    omega
theorem pickG_s {ve : Tr AV} : ∀ {l acc : List (Nat × Oper)} {p : Nat × Oper}, p ∈ pickG ve l acc → p ∈ l ∨ p ∈ acc
  | [], acc, p, h => .inr h
  | q :: r, acc, p, h => by
    unfold pickG at h
    split at h
    · rcases pickG_s h with h | h
      · exact .inl (by simp [h])
      · rcases List.mem_append.1 h with h | h
        · exact .inr h
        · simp at h; subst h; exact .inl (by simp)
    · rcases pickG_s h with h | h
      · exact .inl (by simp [h])
      · exact .inr h
theorem sGrp_s {ih : IH} {n : Nat} {all : List Oper} {σA veA : Tr AV} {pendA : Pn} {kept : List (Nat × Oper)} {s : St} {k : CK} (hT : TA tT T)
    (hdr : ∀ all σA rem veA pendA kept s k, ih (.dr all σA rem veA pendA kept) s k = true → MDr P tT n all σA rem veA pendA kept s k)
    (hf : sGrp tT ih all σA veA pendA kept s k = true) : MDs P tT (n + 1) all σA veA pendA kept s k := fun cx fz ν0 nx0 ν σ ve τ pend H Fm hle hnx hσ hv he hp hh hfr => by
  unfold sGrp at hf
  rw [fL_eq, fL_eq] at hf
  obtain ⟨hc, hf⟩ := fT_iff hf
  generalize hus : pickG veA kept [] = us at hc hf
  generalize hfls : cloA veA kept [] = fls at hc hf
  simp only [Bool.and_eq_true] at hc
  obtain ⟨ha, hall, hau, hemp, hro⟩ := hc
  have hnd := (asc_s ha).1
  have husn := (asc_s hau).1
  have husk : ∀ u ∈ us, u ∈ kept := fun u hu => by
    rw [← hus] at hu
    rcases pickG_s hu with h | h
    · exact h
    · cases h
  have hU : ∀ u ∈ us, veA.get u.1 = none ∧ fk u.2 = false ∧ u.1 ∉ fls := fun u hu => by
    have := List.all_eq_true.1 hall u hu
    simp only [Bool.and_eq_true, Option.isNone_iff_eq_none, Bool.not_eq_true'] at this
    exact ⟨this.1, this.2.1, fun hm => by rw [hasN_mem.2 hm] at this; cases this.2.2.1⟩
  have hgσ : Gd ν σA := fun i a hi => by obtain ⟨v, h1, _⟩ := hσ i a hi; exact ⟨v, h1⟩
  have hgv : Gd ν veA := fun i a hi => by obtain ⟨v, h1, _⟩ := hv.1 i a hi; exact ⟨v, h1⟩
  obtain ⟨W, hF, veF, envF, hW, hf, w1, w2, w3, _, w5, w6, w7, w8⟩ := gRun_s (P := P) hT (ν := ν) (cx := cx) (fz := fz) hf hgσ hgv (fun u hu => (hU u hu).1) husn
  rw [fL_eq, fL_eq] at hf
  have hM := hdr _ _ _ _ _ _ _ _ hf
  have hWus : ∀ e ∈ W, e.1 ∈ us := fun e he => by rw [← hW]; exact List.mem_map.2 ⟨e, he, rfl⟩
  have hWn : (W.map fun e => e.1.1).Nodup := by
    have : (W.map fun e => e.1.1) = us.map Prod.fst := by rw [← hW, List.map_map]; rfl
    rw [this]; exact husn
  have hnone' : ∀ u ∈ us, lk ve u.1 = none := fun u hu => hv.2 _ (hU u hu).1
  have hnW : ∀ i, (∀ u ∈ us, u.1 ≠ i) → ∀ e ∈ W, e.1.1 ≠ i := fun i hi e he => hi _ (hWus e he)
  have hend : ∀ H ve τ pend, VR ν veF ve → ER ν envF τ → PR ν hF (leftAll pendA us) pend → HR tT ν hF H Fm → Dr P cx all σ fk (flD P all σ) (QE tT fz ν0 nx0 s.nt Fm k) ((rmAll us kept).length + n + 1) (rmAll us kept) ve τ pend fz H := fun H ve τ pend g1 g4 g2 g3 =>
    Dr_succ (by simpa using hM cx fz ν0 nx0 ν σ ve τ pend H Fm hle hnx hσ g1 g4 g2 g3 hfr)
  have hms : MS P tT all σA veF envF hF pendA (leftAll pendA us) us (rmAll us kept) ν ve Fm W s.heap H ve τ pend pendA kept := by
    refine ⟨hh, w2, w3, w1, fun _ _ h => h, fun e he => hnone' _ (hWus e he), fun i hi => ?_, w5.1, fun t ht a ha => ?_, fun e he d hd => (w6 e he d hd).2.2, w8, hp, ?_, fun _ h => h, hnd, fun e he => ⟨husk _ (hWus e he), (hU _ (hWus e he)).2.1, hWus e he⟩, ?_⟩
    · rw [w5.2 i hi]
      exact ⟨hv.1 i, hv.2 i⟩
    · rw [w7 t ht] at ha
      exact he t a ha
    · rw [leftAll_eq, ← hW]
      congr 1
      funext q
      rw [List.all_map]
      rfl
    · rw [rmAll_eq, ← hW]
  have hWne : W ≠ [] := fun hc => by rw [hc] at hW; rw [← hW] at hemp; cases hemp
  have := ((many_s (P := P) hT hσ (fun i hi => w5.2 i (hnW i hi)) (fun u hu => (hU u hu).2.2) (restM_s hro) hend W.length W s.heap H ve τ pend pendA kept rfl hWn hms).1 hWne)
  refine KQ_le ?_ this
  have hlW : W.length = us.length := by rw [← hW]; simp
  have h1 : us.length ≤ (kept.filter fun p => hasP us p.1).length := by
    exact len_sub husn fun u hu => List.mem_filter.2 ⟨husk u hu, hasP_iff.2 ⟨u, hu, rfl⟩⟩
  have h3 : kept.length = (kept.filter fun p => hasP us p.1).length + (kept.filter fun p => !hasP us p.1).length := by
    rw [← List.countP_eq_length_filter, ← List.countP_eq_length_filter]
    have := List.length_eq_countP_add_countP (fun p : Nat × Oper => hasP us p.1) (l := kept)
    rw [this]
    congr 1
    apply List.countP_congr
    intro x _
    simp
  rw [rmAll_eq, hlW]
  omega
theorem nowE_s {veA : Tr AV} {kept us : List (Nat × Oper)} (h : nowE veA kept = us) : us.Sublist kept ∧ ∀ u ∈ us, fk u.2 = false ∧ blockedA veA u.2 = false := by
  subst h
  refine ⟨List.filter_sublist, fun u hu => ?_⟩
  have := (List.mem_filter.1 hu).2
  simp only [Bool.not_eq_true', Bool.or_eq_false_iff] at this
  exact this
theorem sDs_s {ih : IH} {n : Nat} {all : List Oper} {σA veA : Tr AV} {pendA : Pn} {kept : List (Nat × Oper)} {s : St} {k : CK} (hT : TA tT T) (hcall : ∀ g args s k, ih (.call g args) s k = true → MCall P tT g args s k)
    (hdr : ∀ all σA rem veA pendA kept s k, ih (.dr all σA rem veA pendA kept) s k = true → MDr P tT n all σA rem veA pendA kept s k)
    (hf : sDs all σA veA pendA kept tT ih s k = true) : MDs P tT (n + 1) all σA veA pendA kept s k := by
  unfold sDs at hf
  cases hk : kept with
  | nil =>
    rw [hk, lE_nil] at hf
    intro cx fz ν0 nx0 ν σ ve τ pend H Fm hle hnx hσ hv he hp hh hfr
    exact .inl ⟨rfl, QE.of hle hnx he hh hfr hf⟩
  | cons p0 r0 =>
    rw [← hk]
    rw [hk, lE_cons, ← hk] at hf
    cases hn : nowE veA kept with
    | nil =>
      rw [hn, lE_nil] at hf
      exact sFlo_s hT hdr hf
    | cons p us =>
      obtain ⟨h1, h2⟩ := nowE_s hn
      rw [hn, lE_cons] at hf
      cases us with
      | nil =>
        rw [lE_nil] at hf
        exact sOne_s hT hcall hdr (h1.subset (by simp)) (h2 p (by simp)).1 hf
      | cons q us =>
        rw [lE_cons] at hf
        exact sGrp_s hT hdr hf
end
end Go.Ev
namespace Go.Ev
open Go.Lx Go.RowKit
section
variable {P : Program} {tT : TT} {T : Tab P}
def M (P : Program) (tT : TT) (n : Nat) : Wk → St → CK → Prop
  | .code c => fun s k => MCode P tT c s k
  | .ops all l => fun s k => MOps P tT all l s k
  | .call g args => fun s k => MCall P tT g args s k
  | .dr all σ rem ve pend kept => fun s k => MDr P tT n all σ rem ve pend kept s k
  | .ds all σ ve pend kept => fun s k => MDs P tT n all σ ve pend kept s k
theorem sThen_s {cx : Cx} {c : Code} {n : Nat} {ih : IH} {fz : FZ} {ν0 : Nu} {nx0 nt : Nat} {Fm : HP} {k : CK} {x : Exit} {σ : Env} {fz' : FZ} {H : HP} (hcode : ∀ c s k, ih (.code c) s k = true → MCode P tT c s k) (hnt : nt = n)
    (h : QE tT fz ν0 nx0 nt Fm (sThen ih (.code c) k) x σ fz' H) : andThen P cx n c (QE tT fz ν0 nx0 nt Fm k) x σ fz' H := by
  obtain ⟨h1, ν', s', h2, h3, h4, h5, h6, h7, h8⟩ := h
  subst h1 hnt
  unfold andThen
  cases x with
  | normal =>
    have := hcode _ _ _ h8 cx fz' ν0 nx0 ν' σ H Fm h2 h3 h5 h6 h7
    rw [h4] at this
    exact this
  | _ => exact ⟨rfl, ν', s', h2, h3, h4, h5, h6, h7, h8⟩
theorem sBlk_s {id : Nat} {fz : FZ} {ν0 : Nu} {nx0 nt : Nat} {Fm : HP} {k : CK} {x : Exit} {σ : Env} {fz' : FZ} {H : HP} (h : QE tT fz ν0 nx0 nt Fm (sBlk id k) x σ fz' H) : blkQ id (QE tT fz ν0 nx0 nt Fm k) x σ fz' H := by
  obtain ⟨h1, ν', s', h2, h3, h4, h5, h6, h7, h8⟩ := h
  unfold blkQ
  cases x with
  | exit i =>
    have h8' : br (k (.exit i) s') (k .normal s') (Nat.beq i id) = true := h8
    simp only
    cases hb : Nat.beq i id with
    | true => rw [hb] at h8'; exact ⟨h1, ν', s', h2, h3, h4, h5, h6, h7, h8'⟩
    | false => rw [hb] at h8'; exact ⟨h1, ν', s', h2, h3, h4, h5, h6, h7, h8'⟩
  | _ => exact ⟨h1, ν', s', h2, h3, h4, h5, h6, h7, h8⟩
/-- slots, each once -/
def dd : Env → Env
  | [] => []
  | (i, v) :: r => (i, v) :: (dd r).filter fun p => !Nat.beq p.1 i
theorem lk_filter {i j : Nat} (h : i ≠ j) : ∀ σ : Env, lk (σ.filter fun p => !Nat.beq p.1 i) j = lk σ j
  | [] => rfl
  | (k, v) :: r => by
    by_cases hk : k = i
    · subst hk
      rw [List.filter_cons_of_neg (by simp), lk_filter h r, lk_cons_ne _ _ h]
    · rw [List.filter_cons_of_pos (by simp; exact beq_false hk)]
      by_cases hj : k = j
      · subst hj; rw [lk_cons_same, lk_cons_same]
      · rw [lk_cons_ne _ _ hj, lk_cons_ne _ _ hj, lk_filter h r]
theorem lk_dd : ∀ (σ : Env) (j : Nat), lk (dd σ) j = lk σ j
  | [], _ => rfl
  | (i, v) :: r, j => by
    unfold dd
    by_cases hij : i = j
    · subst hij; rw [lk_cons_same, lk_cons_same]
    · rw [lk_cons_ne _ _ hij, lk_cons_ne _ _ hij, lk_filter hij, lk_dd r]
theorem mem_dd : ∀ (σ : Env) (p : Nat × Value), p ∈ dd σ → lk σ p.1 = some p.2
  | [], p, h => by cases h
  | (i, v) :: r, p, h => by
    unfold dd at h
    cases h with
    | head => exact lk_cons_same _ _ _
    | tail _ h =>
      obtain ⟨h1, h2⟩ := List.mem_filter.1 h
      have hne : i ≠ p.1 := fun he => by rw [← he, Nat.beq_refl] at h2; cases h2
      rw [lk_cons_ne _ _ hne]
      exact mem_dd r p h1
theorem sub_of : ∀ (l σ : Env), (∀ p ∈ l, lk σ p.1 = some p.2) → Sub l σ
  | [], _, _ => trivial
  | (i, v) :: r, σ, h => ⟨h (i, v) (by simp), sub_of r σ fun p hp => h p (by simp [hp])⟩
theorem sub_dd (σ : Env) : Sub (dd σ) σ := sub_of _ _ (mem_dd σ)
theorem ER.dd {ν : Nu} {e : Tr AV} {σ : Env} (h : ER ν e σ) : ER ν e (dd σ) := h.ext fun i v hv => by rw [lk_dd]; exact hv
theorem sCode_s {F : FF} {n : Nat} {c : Code} {s : St} {k : CK} (hm : P.follows .mixedOrders = true) (ihs : ∀ m, m ≤ n → ∀ w s k, ev tT F m w s k = true → M P tT m w s k) (hf : sCode c (ev tT F n) s k = true) : MCode P tT c s k := fun cx fz ν0 nx0 ν σ H Fm hle hnx he hh hfr => by
  have hcode : ∀ c s k, ev tT F n (.code c) s k = true → MCode P tT c s k := fun c s k h => ihs n (Nat.le_refl _) (.code c) s k h
  cases c with
  | skip => exact Wp.skip (QE.of hle hnx he hh hfr hf)
  | region id ops draw =>
    have hf' : sReg ops.toList draw (ev tT F n) s k = true := hf
    unfold sReg at hf'
    have e : ops = ops.toList.toArray := by simp
    rw [e]
    cases draw with
    | false =>
      rw [br_false] at hf'
      have := ihs n (Nat.le_refl _) (.ops ops.toList ops.toList) s k hf' cx fz ν0 nx0 ν σ H Fm hle hnx he hh hfr
      exact Wp.region this
    | true =>
      rw [br_true] at hf'
      obtain ⟨hc, hf'⟩ := fT_iff hf'
      simp only [Bool.and_eq_true] at hc
      have := ihs n (Nat.le_refl _) (.dr ops.toList s.env (num 0 ops.toList) .lf [] []) s k hf' cx fz ν0 nx0 ν σ [] σ [] H Fm hle hnx he (VR.e ν) he trivial hh hfr
      exact Wp.drawG (fk := fk) (fl := flD P ops.toList σ) hm hc.1 hc.2 flD_mono (fun i o ve obj mk h => ⟨(flD_spec h).1, (flD_spec h).2.2⟩) (fun i o ve obj mk h => (flD_spec h).2.1) (Dr_succ this)
  | seq a b =>
    have hf' : ev tT F n (.code a) s (sThen (ev tT F n) (.code b) k) = true := hf
    exact Wp.seq ((hcode _ _ _ hf' cx fz ν0 nx0 ν σ H Fm hle hnx he hh hfr).mono fun x σ' fz' H' h => sThen_s hcode rfl h)
  | cond c a b =>
    obtain ⟨v, hv, hf⟩ := fO_iff (show (fO (rdo s.env c) fun v => fO (asB v) fun t => br (ev tT F n (.code b) s k) (ev tT F n (.code a) s k) t) = true from hf)
    obtain ⟨t, ht, hf⟩ := fO_iff hf
    obtain ⟨u, h1, h2⟩ := he.rr c v hv
    have e := asB_iff ht h1
    subst e
    cases t with
    | true => exact Wp.cond_true h2 (hcode _ _ _ hf cx fz ν0 nx0 ν σ H Fm hle hnx he hh hfr)
    | false => exact Wp.cond_false h2 (hcode _ _ _ hf cx fz ν0 nx0 ν σ H Fm hle hnx he hh hfr)
  | block id c =>
    have hf' : ev tT F n (.code c) s (sBlk id k) = true := hf
    exact Wp.block ((hcode _ _ _ hf' cx fz ν0 nx0 ν σ H Fm hle hnx he hh hfr).mono fun x σ' fz' H' h => sBlk_s h)
  | loop c =>
    have hf' : ev tT F n (.code c) s (sThen (ev tT F n) (.code (.loop c)) k) = true := hf
    -- the rounds: as1 long as1 there is fuel
    let I : Nat → Env → FZ → HP → Prop := fun m σ' fz' H' => m ≤ n + 1 ∧ fz' = fz ∧ ∃ ν' s', ν0.le ν' ∧ nx0 ≤ s'.nx ∧ s'.nt = s.nt ∧ ER ν' s'.env σ' ∧ HR tT ν' s'.heap H' Fm ∧ Fresh ν' s'.nx ∧ ev tT F m (.code (.loop c)) s' k = true
    refine Wp.loop I (m0 := n + 1) (σ0 := dd σ) (H0 := H) ⟨Nat.le_refl _, rfl, ν, s, hle, hnx, rfl, he.dd, hh, hfr, hf⟩ (sub_dd σ) (List.Sublist.refl _) ?_
    rintro m σ1 fz1 H1 ⟨hmn, e1, ν', s', h2, h3, h4, h5, h6, h7, h8⟩
    subst e1
    cases m with
    | zero => cases h8
    | succ m =>
      have h8' : ev tT F m (.code c) s' (sThen (ev tT F m) (.code (.loop c)) k) = true := h8
      have := ihs m (by omega) (.code c) s' _ h8' cx fz1 ν0 nx0 ν' σ1 H1 Fm h2 h3 h5 h6 h7
      rw [h4] at this
      refine this.mono fun x σ' fz' H' ⟨g1, ν2, s2, g2, g3, g4, g5, g6, g7, g8⟩ => ?_
      subst g1
      unfold loopQ
      cases x with
      | normal => exact ⟨m, dd σ', H', by omega, sub_dd σ', List.Sublist.refl _, by omega, rfl, ν2, s2, g2, g3, g4, g5.dd, g6, g7, g8⟩
      | _ => exact ⟨rfl, ν2, s2, g2, g3, g4, g5, g6, g7, g8⟩
  | rangeFunc => cases hf
  | exit id => exact Wp.exit (QE.of hle hnx he hh hfr hf)
  | scope => cases hf
  | label id => exact Wp.label (QE.of hle hnx he hh hfr hf)
  | goto => cases hf
  | ret => exact Wp.ret (QE.of hle hnx he hh hfr hf)
  | refuse => cases hf
/-- the evaluator is sound -/
theorem ev_s {F : FF} (hT : TA tT T) (hF : FA P tT F) (hm : P.follows .mixedOrders = true) : ∀ n w s k, ev tT F n w s k = true → M P tT n w s k := by
  intro n
  induction n using Nat.strongRecOn with
  | _ n ih =>
    intro w s k hf
    cases n with
    | zero => cases hf
    | succ n =>
      have hf' : step w tT F (ev tT F n) s k = true := hf
      have ihs : ∀ m, m ≤ n → ∀ w s k, ev tT F m w s k = true → M P tT m w s k := fun m hmn => ih m (by omega)
      have hn := ihs n (Nat.le_refl _)
      have hcode : ∀ c s k, ev tT F n (.code c) s k = true → MCode P tT c s k := fun c s k h => hn (.code c) s k h
      have hcall : ∀ g args s k, ev tT F n (.call g args) s k = true → MCall P tT g args s k := fun g args s k h => hn (.call g args) s k h
      have hops : ∀ all l s k, ev tT F n (.ops all l) s k = true → MOps P tT all l s k := fun all l s k h => hn (.ops all l) s k h
      have hdr : ∀ all σA rem veA pendA kept s k, ev tT F n (.dr all σA rem veA pendA kept) s k = true → MDr P tT n all σA rem veA pendA kept s k := fun all σA rem veA pendA kept s k h => hn (.dr all σA rem veA pendA kept) s k h
      have hds : ∀ all σA veA pendA kept s k, ev tT F n (.ds all σA veA pendA kept) s k = true → MDs P tT n all σA veA pendA kept s k := fun all σA veA pendA kept s k h => hn (.ds all σA veA pendA kept) s k h
      cases w with
      | code c => exact sCode_s hm ihs hf'
      | ops all l => exact sOps_s hT hcall hops hf'
      | call g args => exact sCall_s hT hF hcode hf'
      | dr all σ rem ve pend kept => exact sDr_s hT hdr hds hf'
      | ds all σ ve pend kept => exact sDs_s hT hcall hdr hf'
/-- a call with closed arguments that do not name memory -/
theorem evCall_s {F : FF} {n : Nat} {f : FuncId} {args : List AV} {vs : List Value} {k : AV → Bool} {fz : FZ} (hT : TA tT T) (hF : FA P tT F) (hm : P.follows .mixedOrders = true) (hv : ∀ ν, gvs ν args = some vs) (hf : evCall tT F n f args k = true) :
    GFn P f vs fz [] fun v fz' _ => fz' = fz ∧ ∃ ν av, gv ν av = some v ∧ k av = true := by
  let ν : Nu := ⟨fun _ => none, fun _ => none, fun _ => none⟩
  have := ev_s hT hF hm n (.call f args) ⟨.lf, .lf, 0, 0⟩ _ hf fz ν vs [] [] (hv ν) ⟨(fun _ _ h => by cases h), (fun _ _ _ _ _ h => by cases h), by simp, (fun _ _ _ _ _ h => by cases h)⟩ (fun _ _ => ⟨rfl, rfl, rfl⟩)
  refine this.mono fun v fz' H' ⟨h1, ν', av, h', nx', e, h2, h3, h4, h5, h6, h7, h8⟩ => ⟨h1, ν', av, h4, ?_⟩
  simp only [h7] at h8
  exact h8
end
end Go.Ev
#print axioms Go.Ev.evCall_s
namespace Go.Ev
open Go.Lx Go.RowKit
def nnEq : List (Nat × Nat) → List (Nat × Nat) → Bool
  | [], [] => true
  | x :: r, y :: q => Nat.beq x.1 y.1 && (Nat.beq x.2 y.2 && nnEq r q)
  | _, _ => false
theorem nnEq_iff : ∀ {a b : List (Nat × Nat)}, nnEq a b = true → a = b
  | [], [], _ => rfl
  | [], _ :: _, h => by cases h
  | _ :: _, [], h => by cases h
  | (a, b) :: r, (c, d) :: q, h => by
    simp only [nnEq, Bool.and_eq_true] at h
    rw [Nat.eq_of_beq_eq_true h.1, Nat.eq_of_beq_eq_true h.2.1, nnEq_iff h.2.2]
def kdB (d : TypeDesc) (a : TyA) : Bool := match d with
  | .bool => Nat.beq a.k 0
  | .int ik => Nat.beq a.k 1 && kEq ik a.ik
  | .string => Nat.beq a.k 2
  | .pointer e => Nat.beq a.k 3 && Nat.beq e a.e
  | .slice e => Nat.beq a.k 4 && Nat.beq e a.e
  | .array n e => Nat.beq a.k 5 && (Nat.beq n a.n && Nat.beq e a.e)
  | .map k e => Nat.beq a.k 6 && (Nat.beq k a.n && Nat.beq e a.e)
  | .interface _ => Nat.beq a.k 7
  | .func _ _ _ => Nat.beq a.k 8
  | .struct fs => Nat.beq a.k 9 && nnEq (fs.toList.map fun f => (f.type, f.offset)) a.fs
  | _ => Nat.beq a.k 10
def isAggV : Value → Bool
  | .agg _ => true
  | _ => false
def zeroB (X : Ty) (a : TyA) : Bool := match ofVs X.zero.cells.toList with
  | some l => avsEq l a.zero
  | none => false
def trB (X : Ty) (a : TyA) : Bool := Nat.beq X.size a.size && (Nat.beq X.bytes a.bytes && ((isAggD X.desc == a.agg) && ((isAggV X.zero == a.agg) && (zeroB X a && (kdB X.desc a && (!(isIfaceD X.desc) || Nat.beq a.k 7))))))
theorem trB_s {X : Ty} {a : TyA} (h : trB X a = true) : TR X a := by
  simp only [trB, Bool.and_eq_true, beq_iff_eq, Bool.or_eq_true, Bool.not_eq_true'] at h
  obtain ⟨h1, h2, h3, h4, h5, h6, h7⟩ := h
  have hz : ofVs X.zero.cells.toList = some a.zero := by
    unfold zeroB at h5
    cases hl : ofVs X.zero.cells.toList with
    | none => rw [hl] at h5; cases h5
    | some l => rw [hl] at h5; rw [avsEq_iff _ _ h5]
  have hk : ∀ n : Nat, a.k = n → kdB X.desc a = true := fun _ _ => h6
  have bt : ∀ {x y : Nat}, Nat.beq x y = true → x = y := fun h => Nat.eq_of_beq_eq_true h
  refine ⟨bt h1, bt h2, h3, ⟨X.zero.cells.toList, ofVs_s hz, by simp⟩, fun ha => ?_, fun ha => ?_, fun ha => ?_, fun hk => ?_, fun hk => ?_, fun hk => ?_, fun hk => ?_, fun hk => ?_, fun hk => ?_, fun hk => ?_, fun hk => ?_, fun hk => ?_, fun hk => ?_⟩
  · rw [ha] at h4
    cases hv : X.zero with
    | agg cs => exact ⟨cs, rfl⟩
    | _ => rw [hv] at h4; cases h4
  · rw [ha] at h4
    have hc : X.zero.cells.toList = [X.zero] := by
      cases hv : X.zero with
      | agg cs => rw [hv] at h4; cases h4
      | _ => rfl
    rw [hc] at hz
    simp only [ofVs] at hz
    cases h8 : ofV1 X.zero with
    | none => simp [h8] at hz
    | some z =>
      simp only [h8] at hz
      injection hz with hz
      exact ⟨z, hz.symm, ofV1_s h8⟩
  · rcases h7 with h7 | h7
    · exact h7
    · exact absurd (bt h7) ha
  all_goals
    unfold kdB at h6
    cases hd : X.desc <;> rw [hd] at h6 <;> simp only [Bool.and_eq_true] at h6 <;>
      first
      | rfl
      | (exfalso; have h9 := bt h6; omega)
      | (exfalso; have h9 := bt h6.1; omega)
      | (rw [kEq_iff h6.2])
      | (rw [bt h6.2])
      | (rw [bt h6.2.1, bt h6.2.2])
      | exact ⟨_, rfl⟩
      | exact ⟨_, _, _, rfl⟩
      | exact ⟨_, rfl, nnEq_iff h6.2⟩
def allB {α : Type} (q : Nat → α → Bool) : Tr α → Bool
  | .lf => true
  | .n l v r => (match v with
    | some a => q 0 a
    | none => true) && (allB (fun i a => q (2 * i + 1) a) l && allB (fun i a => q (2 * i + 2) a) r)
def AllT {α : Type} (Q : Nat → α → Prop) : Tr α → Prop
  | .lf => True
  | .n l v r => (match v with
    | some a => Q 0 a
    | none => True) ∧ AllT (fun i a => Q (2 * i + 1) a) l ∧ AllT (fun i a => Q (2 * i + 2) a) r
theorem AllT_s {α : Type} : ∀ {t : Tr α} {Q : Nat → α → Prop}, AllT Q t → ∀ i a, t.get i = some a → Q i a
  | .lf, Q, _, i, a, h => by cases h
  | .n l v r, Q, ⟨h1, h2, h3⟩, i, a, h => by
    rw [Tr.get_n] at h
    by_cases h0 : i = 0
    · subst h0
      have h' : v = some a := h
      subst h'
      exact h1
    · rw [beq_false h0, br_false] at h
      by_cases hm : Nat.mod i 2 = 1
      · rw [hm] at h
        have := AllT_s h2 _ a h
        have e1 : i % 2 = 1 := hm
        have e2 : Nat.div i 2 = i / 2 := rfl
        rw [show 2 * Nat.div i 2 + 1 = i from by rw [e2]; omega] at this
        exact this
      · rw [beq_false hm, br_false] at h
        have := AllT_s h3 _ a h
        have e1 : ¬ i % 2 = 1 := hm
        have e2 : Nat.pred (Nat.div i 2) = i / 2 - 1 := rfl
        rw [show 2 * Nat.pred (Nat.div i 2) + 2 = i from by rw [e2]; omega] at this
        exact this
theorem allB_s {α : Type} : ∀ {t : Tr α} {q : Nat → α → Bool}, allB q t = true → AllT (fun i a => q i a = true) t
  | .lf, _, _ => trivial
  | .n l v r, q, h => by
    simp only [allB, Bool.and_eq_true] at h
    refine ⟨?_, allB_s h.2.1, allB_s h.2.2⟩
    cases v with
    | none => trivial
    | some a => exact h.1
def taQ {P : Program} (T : Tab P) (i : Nat) (a : TyA) : Bool := match T.inf i with
  | some X => trB X a
  | none => false
theorem TA_of {P : Program} {T : Tab P} {t : Tr TyA} (h : allB (taQ T) t = true) : TA t.get T := fun i a ha => by
  have := AllT_s (allB_s h) i a ha
  simp only [taQ] at this
  cases hX : T.inf i with
  | none => rw [hX] at this; cases this
  | some X => rw [hX] at this; exact ⟨X, rfl, trB_s this⟩
theorem FA_of {P : Program} {tT : TT} {t : Tr FE} (h : AllT (FOk P tT) t) : FA P tT t.get := fun g f hg => AllT_s h g f hg
/-- with a call more that is known -/
noncomputable def withM (F : FF) (g : FuncId) (f : FE) : FF := fun i => br (F i) (some f) (Nat.beq i g)
theorem FA_with {P : Program} {tT : TT} {F : FF} {g : FuncId} {f : FE} (h : FA P tT F) (hf : FOk P tT g f) : FA P tT (withM F g f) := fun i x hx => by
  unfold withM at hx
  cases hb : Nat.beq i g with
  | true => rw [hb, br_true] at hx; injection hx with hx; subst hx; rw [Nat.eq_of_beq_eq_true hb]; exact hf
  | false => rw [hb, br_false] at hx; exact h i x hx
end Go.Ev
namespace Go.Proofs.YtegmololhnipiaaGreatDoor
open Go.Lx Go.Ev
set_option maxRecDepth 100000
def tz1 : TyA := ⟨8, 0, 0, .i64, [], 1, 8, false, [.nf]⟩
def tz2 : TyA := ⟨1, 0, 0, .i64, [], 1, 8, false, [.i .i64 (.ofNat 0)]⟩
def tz3 : TyA := ⟨1, 0, 0, .i64, [], 1, 8, false, [.i .i64 (.ofNat 0)]⟩
def tz4 : TyA := ⟨0, 0, 0, .i64, [], 1, 1, false, [.b false]⟩
def tz5 : TyA := ⟨1, 0, 0, .u8, [], 1, 1, false, [.i .u8 (.ofNat 0)]⟩
def tz6 : TyA := ⟨1, 0, 0, .u8, [], 1, 1, false, [.i .u8 (.ofNat 0)]⟩
def tz7 : TyA := ⟨9, 0, 0, .i64, [(2, 0), (3, 1), (4, 2), (6, 3)], 4, 24, true, [.i .i64 (.ofNat 0), .i .i64 (.ofNat 0), .b false, .i .u8 (.ofNat 0)]⟩
def tz8 : TyA := ⟨9, 0, 0, .i64, [(2, 0), (3, 1), (4, 2), (6, 3)], 4, 24, true, [.i .i64 (.ofNat 0), .i .i64 (.ofNat 0), .b false, .i .u8 (.ofNat 0)]⟩
def tz9 : TyA := ⟨2, 0, 0, .i64, [], 1, 16, false, [.s []]⟩
def tz10 : TyA := ⟨2, 0, 0, .i64, [], 1, 16, false, [.s []]⟩
def tz11 : TyA := ⟨2, 0, 0, .i64, [], 1, 16, false, [.s []]⟩
def tz12 : TyA := ⟨1, 0, 0, .u64, [], 1, 8, false, [.i .u64 (.ofNat 0)]⟩
def tz13 : TyA := ⟨9, 0, 0, .i64, [(9, 0), (12, 1)], 2, 24, true, [.s [], .i .u64 (.ofNat 0)]⟩
def tz14 : TyA := ⟨9, 0, 0, .i64, [(9, 0), (12, 1)], 2, 24, true, [.s [], .i .u64 (.ofNat 0)]⟩
def tz15 : TyA := ⟨3, 455, 0, .i64, [], 1, 8, false, [.p none]⟩
def tz16 : TyA := ⟨3, 458, 0, .i64, [], 1, 8, false, [.p none]⟩
def tz17 : TyA := ⟨3, 466, 0, .i64, [], 1, 8, false, [.p none]⟩
def tz18 : TyA := ⟨9, 0, 0, .i64, [(17, 0)], 1, 8, true, [.p none]⟩
def tz19 : TyA := ⟨9, 0, 0, .i64, [(17, 0)], 1, 8, true, [.p none]⟩
def tz20 : TyA := ⟨7, 0, 0, .i64, [], 1, 16, false, [.ni]⟩
def tz21 : TyA := ⟨1, 0, 0, .i32, [], 1, 4, false, [.i .i32 (.ofNat 0)]⟩
def tz22 : TyA := ⟨4, 103, 0, .i64, [], 1, 24, false, [.sl none 0 0 none]⟩
def tz23 : TyA := ⟨4, 105, 0, .i64, [], 1, 24, false, [.sl none 0 0 none]⟩
def tz24 : TyA := ⟨4, 3, 0, .i64, [], 1, 24, false, [.sl none 0 0 none]⟩
def tz25 : TyA := ⟨4, 42, 0, .i64, [], 1, 24, false, [.sl none 0 0 none]⟩
def tz26 : TyA := ⟨4, 46, 0, .i64, [], 1, 24, false, [.sl none 0 0 none]⟩
def tz27 : TyA := ⟨9, 0, 0, .i64, [(22, 0), (23, 1), (24, 2), (25, 3), (26, 4)], 5, 120, true, [.sl none 0 0 none, .sl none 0 0 none, .sl none 0 0 none, .sl none 0 0 none, .sl none 0 0 none]⟩
def tz28 : TyA := ⟨9, 0, 0, .i64, [(22, 0), (23, 1), (24, 2), (25, 3), (26, 4)], 5, 120, true, [.sl none 0 0 none, .sl none 0 0 none, .sl none 0 0 none, .sl none 0 0 none, .sl none 0 0 none]⟩
def tz29 : TyA := ⟨8, 0, 0, .i64, [], 1, 8, false, [.nf]⟩
def tz30 : TyA := ⟨8, 0, 0, .i64, [], 1, 8, false, [.nf]⟩
def tz31 : TyA := ⟨8, 0, 0, .i64, [], 1, 8, false, [.nf]⟩
def tz32 : TyA := ⟨9, 0, 0, .i64, [(24, 0), (24, 1)], 2, 48, true, [.sl none 0 0 none, .sl none 0 0 none]⟩
def tz33 : TyA := ⟨9, 0, 0, .i64, [(24, 0), (24, 1)], 2, 48, true, [.sl none 0 0 none, .sl none 0 0 none]⟩
def tz34 : TyA := ⟨8, 0, 0, .i64, [], 1, 8, false, [.nf]⟩
def tz35 : TyA := ⟨7, 0, 0, .i64, [], 1, 16, false, [.ni]⟩
def tz36 : TyA := ⟨7, 0, 0, .i64, [], 1, 16, false, [.ni]⟩
def tz38 : TyA := ⟨8, 0, 0, .i64, [], 1, 8, false, [.nf]⟩
def tz39 : TyA := ⟨8, 0, 0, .i64, [], 1, 8, false, [.nf]⟩
def tz40 : TyA := ⟨4, 123, 0, .i64, [], 1, 24, false, [.sl none 0 0 none]⟩
def tz41 : TyA := ⟨9, 0, 0, .i64, [(24, 0), (24, 1), (40, 2)], 3, 72, true, [.sl none 0 0 none, .sl none 0 0 none, .sl none 0 0 none]⟩
def tz42 : TyA := ⟨9, 0, 0, .i64, [(24, 0), (24, 1), (40, 2)], 3, 72, true, [.sl none 0 0 none, .sl none 0 0 none, .sl none 0 0 none]⟩
def tz43 : TyA := ⟨4, 48, 0, .i64, [], 1, 24, false, [.sl none 0 0 none]⟩
def tz44 : TyA := ⟨4, 55, 0, .i64, [], 1, 24, false, [.sl none 0 0 none]⟩
def tz45 : TyA := ⟨9, 0, 0, .i64, [(9, 0), (3, 1), (42, 2), (43, 5), (44, 6)], 7, 144, true, [.s [], .i .i64 (.ofNat 0), .sl none 0 0 none, .sl none 0 0 none, .sl none 0 0 none, .sl none 0 0 none, .sl none 0 0 none]⟩
def tz46 : TyA := ⟨9, 0, 0, .i64, [(9, 0), (3, 1), (42, 2), (43, 5), (44, 6)], 7, 144, true, [.s [], .i .i64 (.ofNat 0), .sl none 0 0 none, .sl none 0 0 none, .sl none 0 0 none, .sl none 0 0 none, .sl none 0 0 none]⟩
def tz47 : TyA := ⟨9, 0, 0, .i64, [(42, 0), (3, 3), (4, 4)], 5, 88, true, [.sl none 0 0 none, .sl none 0 0 none, .sl none 0 0 none, .i .i64 (.ofNat 0), .b false]⟩
def tz48 : TyA := ⟨9, 0, 0, .i64, [(42, 0), (3, 3), (4, 4)], 5, 88, true, [.sl none 0 0 none, .sl none 0 0 none, .sl none 0 0 none, .i .i64 (.ofNat 0), .b false]⟩
def tz49 : TyA := ⟨8, 0, 0, .i64, [], 1, 8, false, [.nf]⟩
def tz50 : TyA := ⟨8, 0, 0, .i64, [], 1, 8, false, [.nf]⟩
def tz51 : TyA := ⟨4, 53, 0, .i64, [], 1, 24, false, [.sl none 0 0 none]⟩
def tz52 : TyA := ⟨9, 0, 0, .i64, [(9, 0), (3, 1), (51, 2)], 3, 48, true, [.s [], .i .i64 (.ofNat 0), .sl none 0 0 none]⟩
def tz53 : TyA := ⟨9, 0, 0, .i64, [(9, 0), (3, 1), (51, 2)], 3, 48, true, [.s [], .i .i64 (.ofNat 0), .sl none 0 0 none]⟩
def tz54 : TyA := ⟨9, 0, 0, .i64, [(3, 0), (53, 1)], 4, 56, true, [.i .i64 (.ofNat 0), .s [], .i .i64 (.ofNat 0), .sl none 0 0 none]⟩
def tz55 : TyA := ⟨9, 0, 0, .i64, [(3, 0), (53, 1)], 4, 56, true, [.i .i64 (.ofNat 0), .s [], .i .i64 (.ofNat 0), .sl none 0 0 none]⟩
def tz56 : TyA := ⟨8, 0, 0, .i64, [], 1, 8, false, [.nf]⟩
def tz57 : TyA := ⟨8, 0, 0, .i64, [], 1, 8, false, [.nf]⟩
def tz59 : TyA := ⟨8, 0, 0, .i64, [], 1, 8, false, [.nf]⟩
def tz60 : TyA := ⟨8, 0, 0, .i64, [], 1, 8, false, [.nf]⟩
def tz61 : TyA := ⟨9, 0, 0, .i64, [(42, 0), (53, 3)], 6, 120, true, [.sl none 0 0 none, .sl none 0 0 none, .sl none 0 0 none, .s [], .i .i64 (.ofNat 0), .sl none 0 0 none]⟩
def tz62 : TyA := ⟨9, 0, 0, .i64, [(42, 0), (53, 3)], 6, 120, true, [.sl none 0 0 none, .sl none 0 0 none, .sl none 0 0 none, .s [], .i .i64 (.ofNat 0), .sl none 0 0 none]⟩
def tz63 : TyA := ⟨8, 0, 0, .i64, [], 1, 8, false, [.nf]⟩
def tz64 : TyA := ⟨8, 0, 0, .i64, [], 1, 8, false, [.nf]⟩
def tz65 : TyA := ⟨8, 0, 0, .i64, [], 1, 8, false, [.nf]⟩
def tz66 : TyA := ⟨8, 0, 0, .i64, [], 1, 8, false, [.nf]⟩
def tz68 : TyA := ⟨8, 0, 0, .i64, [], 1, 8, false, [.nf]⟩
def tz69 : TyA := ⟨8, 0, 0, .i64, [], 1, 8, false, [.nf]⟩
def tz70 : TyA := ⟨8, 0, 0, .i64, [], 1, 8, false, [.nf]⟩
def tz71 : TyA := ⟨1, 0, 0, .i64, [], 1, 8, false, [.i .i64 (.ofNat 0)]⟩
def tz73 : TyA := ⟨8, 0, 0, .i64, [], 1, 8, false, [.nf]⟩
def tz74 : TyA := ⟨8, 0, 0, .i64, [], 1, 8, false, [.nf]⟩
def tz75 : TyA := ⟨8, 0, 0, .i64, [], 1, 8, false, [.nf]⟩
def tz76 : TyA := ⟨4, 194, 0, .i64, [], 1, 24, false, [.sl none 0 0 none]⟩
def tz77 : TyA := ⟨9, 0, 0, .i64, [(9, 0), (76, 1)], 2, 40, true, [.s [], .sl none 0 0 none]⟩
def tz78 : TyA := ⟨9, 0, 0, .i64, [(9, 0), (76, 1)], 2, 40, true, [.s [], .sl none 0 0 none]⟩
def tz79 : TyA := ⟨4, 78, 0, .i64, [], 1, 24, false, [.sl none 0 0 none]⟩
def tz80 : TyA := ⟨4, 9, 0, .i64, [], 1, 24, false, [.sl none 0 0 none]⟩
def tz81 : TyA := ⟨4, 86, 0, .i64, [], 1, 24, false, [.sl none 0 0 none]⟩
def tz82 : TyA := ⟨4, 84, 0, .i64, [], 1, 24, false, [.sl none 0 0 none]⟩
def tz83 : TyA := ⟨9, 0, 0, .i64, [(9, 0), (9, 1), (80, 2), (76, 3), (81, 4), (82, 5)], 6, 128, true, [.s [], .s [], .sl none 0 0 none, .sl none 0 0 none, .sl none 0 0 none, .sl none 0 0 none]⟩
def tz84 : TyA := ⟨9, 0, 0, .i64, [(9, 0), (9, 1), (80, 2), (76, 3), (81, 4), (82, 5)], 6, 128, true, [.s [], .s [], .sl none 0 0 none, .sl none 0 0 none, .sl none 0 0 none, .sl none 0 0 none]⟩
def tz85 : TyA := ⟨9, 0, 0, .i64, [(9, 0), (9, 1), (3, 2), (80, 3), (81, 4)], 5, 88, true, [.s [], .s [], .i .i64 (.ofNat 0), .sl none 0 0 none, .sl none 0 0 none]⟩
def tz86 : TyA := ⟨9, 0, 0, .i64, [(9, 0), (9, 1), (3, 2), (80, 3), (81, 4)], 5, 88, true, [.s [], .s [], .i .i64 (.ofNat 0), .sl none 0 0 none, .sl none 0 0 none]⟩
def tz87 : TyA := ⟨9, 0, 0, .i64, [(3, 0), (76, 1), (84, 2), (9, 8), (80, 9), (86, 10)], 15, 288, true, [.i .i64 (.ofNat 0), .sl none 0 0 none, .s [], .s [], .sl none 0 0 none, .sl none 0 0 none, .sl none 0 0 none, .sl none 0 0 none, .s [], .sl none 0 0 none, .s [], .s [], .i .i64 (.ofNat 0), .sl none 0 0 none, .sl none 0 0 none]⟩
def tz88 : TyA := ⟨9, 0, 0, .i64, [(3, 0), (76, 1), (84, 2), (9, 8), (80, 9), (86, 10)], 15, 288, true, [.i .i64 (.ofNat 0), .sl none 0 0 none, .s [], .s [], .sl none 0 0 none, .sl none 0 0 none, .sl none 0 0 none, .sl none 0 0 none, .s [], .sl none 0 0 none, .s [], .s [], .i .i64 (.ofNat 0), .sl none 0 0 none, .sl none 0 0 none]⟩
def tz89 : TyA := ⟨4, 88, 0, .i64, [], 1, 24, false, [.sl none 0 0 none]⟩
def tz90 : TyA := ⟨9, 0, 0, .i64, [(9, 0), (76, 1), (3, 2), (84, 3), (89, 9)], 10, 200, true, [.s [], .sl none 0 0 none, .i .i64 (.ofNat 0), .s [], .s [], .sl none 0 0 none, .sl none 0 0 none, .sl none 0 0 none, .sl none 0 0 none, .sl none 0 0 none]⟩
def tz91 : TyA := ⟨9, 0, 0, .i64, [(9, 0), (76, 1), (3, 2), (84, 3), (89, 9)], 10, 200, true, [.s [], .sl none 0 0 none, .i .i64 (.ofNat 0), .s [], .s [], .sl none 0 0 none, .sl none 0 0 none, .sl none 0 0 none, .sl none 0 0 none, .sl none 0 0 none]⟩
def tz92 : TyA := ⟨4, 91, 0, .i64, [], 1, 24, false, [.sl none 0 0 none]⟩
def tz93 : TyA := ⟨4, 209, 0, .i64, [], 1, 24, false, [.sl none 0 0 none]⟩
def tz94 : TyA := ⟨4, 233, 0, .i64, [], 1, 24, false, [.sl none 0 0 none]⟩
def tz95 : TyA := ⟨9, 0, 0, .i64, [(9, 0), (76, 1), (76, 2), (79, 3), (93, 4), (92, 5), (94, 6)], 7, 160, true, [.s [], .sl none 0 0 none, .sl none 0 0 none, .sl none 0 0 none, .sl none 0 0 none, .sl none 0 0 none, .sl none 0 0 none]⟩
def tz96 : TyA := ⟨9, 0, 0, .i64, [(9, 0), (76, 1), (76, 2), (79, 3), (93, 4), (92, 5), (94, 6)], 7, 160, true, [.s [], .sl none 0 0 none, .sl none 0 0 none, .sl none 0 0 none, .sl none 0 0 none, .sl none 0 0 none, .sl none 0 0 none]⟩
def tz98 : TyA := ⟨8, 0, 0, .i64, [], 1, 8, false, [.nf]⟩
def tz99 : TyA := ⟨4, 202, 0, .i64, [], 1, 24, false, [.sl none 0 0 none]⟩
def tz100 : TyA := ⟨9, 0, 0, .i64, [(9, 0), (9, 1), (76, 2), (22, 3), (99, 4), (84, 5)], 11, 232, true, [.s [], .s [], .sl none 0 0 none, .sl none 0 0 none, .sl none 0 0 none, .s [], .s [], .sl none 0 0 none, .sl none 0 0 none, .sl none 0 0 none, .sl none 0 0 none]⟩
def tz101 : TyA := ⟨9, 0, 0, .i64, [(9, 0), (9, 1), (76, 2), (22, 3), (99, 4), (84, 5)], 11, 232, true, [.s [], .s [], .sl none 0 0 none, .sl none 0 0 none, .sl none 0 0 none, .s [], .s [], .sl none 0 0 none, .sl none 0 0 none, .sl none 0 0 none, .sl none 0 0 none]⟩
def tz102 : TyA := ⟨9, 0, 0, .i64, [(9, 0), (80, 1)], 2, 40, true, [.s [], .sl none 0 0 none]⟩
def tz103 : TyA := ⟨9, 0, 0, .i64, [(9, 0), (80, 1)], 2, 40, true, [.s [], .sl none 0 0 none]⟩
def tz104 : TyA := ⟨9, 0, 0, .i64, [(103, 0), (3, 2), (3, 3), (3, 4)], 5, 64, true, [.s [], .sl none 0 0 none, .i .i64 (.ofNat 0), .i .i64 (.ofNat 0), .i .i64 (.ofNat 0)]⟩
def tz105 : TyA := ⟨9, 0, 0, .i64, [(103, 0), (3, 2), (3, 3), (3, 4)], 5, 64, true, [.s [], .sl none 0 0 none, .i .i64 (.ofNat 0), .i .i64 (.ofNat 0), .i .i64 (.ofNat 0)]⟩
def tz106 : TyA := ⟨8, 0, 0, .i64, [], 1, 8, false, [.nf]⟩
def tz107 : TyA := ⟨8, 0, 0, .i64, [], 1, 8, false, [.nf]⟩
def tz108 : TyA := ⟨8, 0, 0, .i64, [], 1, 8, false, [.nf]⟩
def tz109 : TyA := ⟨8, 0, 0, .i64, [], 1, 8, false, [.nf]⟩
def tz110 : TyA := ⟨8, 0, 0, .i64, [], 1, 8, false, [.nf]⟩
def tz111 : TyA := ⟨8, 0, 0, .i64, [], 1, 8, false, [.nf]⟩
def tz112 : TyA := ⟨8, 0, 0, .i64, [], 1, 8, false, [.nf]⟩
def tz113 : TyA := ⟨8, 0, 0, .i64, [], 1, 8, false, [.nf]⟩
def tz114 : TyA := ⟨8, 0, 0, .i64, [], 1, 8, false, [.nf]⟩
def tz116 : TyA := ⟨8, 0, 0, .i64, [], 1, 8, false, [.nf]⟩
def tz117 : TyA := ⟨6, 4, 3, .i64, [], 1, 8, false, [.m none]⟩
def tz118 : TyA := ⟨8, 0, 0, .i64, [], 1, 8, false, [.nf]⟩
def tz119 : TyA := ⟨8, 0, 0, .i64, [], 1, 8, false, [.nf]⟩
def tz120 : TyA := ⟨8, 0, 0, .i64, [], 1, 8, false, [.nf]⟩
def tz122 : TyA := ⟨9, 0, 0, .i64, [(9, 0), (53, 1), (53, 4)], 7, 112, true, [.s [], .s [], .i .i64 (.ofNat 0), .sl none 0 0 none, .s [], .i .i64 (.ofNat 0), .sl none 0 0 none]⟩
def tz123 : TyA := ⟨9, 0, 0, .i64, [(9, 0), (53, 1), (53, 4)], 7, 112, true, [.s [], .s [], .i .i64 (.ofNat 0), .sl none 0 0 none, .s [], .i .i64 (.ofNat 0), .sl none 0 0 none]⟩
def tz124 : TyA := ⟨8, 0, 0, .i64, [], 1, 8, false, [.nf]⟩
def tz125 : TyA := ⟨8, 0, 0, .i64, [], 1, 8, false, [.nf]⟩
def tz126 : TyA := ⟨8, 0, 0, .i64, [], 1, 8, false, [.nf]⟩
def tz128 : TyA := ⟨8, 0, 0, .i64, [], 1, 8, false, [.nf]⟩
def tz130 : TyA := ⟨8, 0, 0, .i64, [], 1, 8, false, [.nf]⟩
def tz131 : TyA := ⟨4, 147, 0, .i64, [], 1, 24, false, [.sl none 0 0 none]⟩
def tz133 : TyA := ⟨8, 0, 0, .i64, [], 1, 8, false, [.nf]⟩
def tz134 : TyA := ⟨3, 260, 0, .i64, [], 1, 8, false, [.p none]⟩
def tz136 : TyA := ⟨8, 0, 0, .i64, [], 1, 8, false, [.nf]⟩
def tz137 : TyA := ⟨3, 142, 0, .i64, [], 1, 8, false, [.p none]⟩
def tz138 : TyA := ⟨8, 0, 0, .i64, [], 1, 8, false, [.nf]⟩
def tz139 : TyA := ⟨6, 4, 9, .i64, [], 1, 8, false, [.m none]⟩
def tz140 : TyA := ⟨6, 3, 9, .i64, [], 1, 8, false, [.m none]⟩
def tz141 : TyA := ⟨9, 0, 0, .i64, [(96, 0), (134, 7), (76, 8), (139, 9), (140, 10), (140, 11), (28, 12)], 17, 336, true, [.s [], .sl none 0 0 none, .sl none 0 0 none, .sl none 0 0 none, .sl none 0 0 none, .sl none 0 0 none, .sl none 0 0 none, .p none, .sl none 0 0 none, .m none, .m none, .m none, .sl none 0 0 none, .sl none 0 0 none, .sl none 0 0 none, .sl none 0 0 none, .sl none 0 0 none]⟩
def tz142 : TyA := ⟨9, 0, 0, .i64, [(96, 0), (134, 7), (76, 8), (139, 9), (140, 10), (140, 11), (28, 12)], 17, 336, true, [.s [], .sl none 0 0 none, .sl none 0 0 none, .sl none 0 0 none, .sl none 0 0 none, .sl none 0 0 none, .sl none 0 0 none, .p none, .sl none 0 0 none, .m none, .m none, .m none, .sl none 0 0 none, .sl none 0 0 none, .sl none 0 0 none, .sl none 0 0 none, .sl none 0 0 none]⟩
def tz143 : TyA := ⟨8, 0, 0, .i64, [], 1, 8, false, [.nf]⟩
def tz144 : TyA := ⟨8, 0, 0, .i64, [], 1, 8, false, [.nf]⟩
def tz145 : TyA := ⟨8, 0, 0, .i64, [], 1, 8, false, [.nf]⟩
def tz146 : TyA := ⟨9, 0, 0, .i64, [(3, 0), (9, 1), (80, 2)], 3, 48, true, [.i .i64 (.ofNat 0), .s [], .sl none 0 0 none]⟩
def tz147 : TyA := ⟨9, 0, 0, .i64, [(3, 0), (9, 1), (80, 2)], 3, 48, true, [.i .i64 (.ofNat 0), .s [], .sl none 0 0 none]⟩
def tz148 : TyA := ⟨8, 0, 0, .i64, [], 1, 8, false, [.nf]⟩
def tz149 : TyA := ⟨8, 0, 0, .i64, [], 1, 8, false, [.nf]⟩
def tz150 : TyA := ⟨8, 0, 0, .i64, [], 1, 8, false, [.nf]⟩
def tz151 : TyA := ⟨8, 0, 0, .i64, [], 1, 8, false, [.nf]⟩
def tz152 : TyA := ⟨8, 0, 0, .i64, [], 1, 8, false, [.nf]⟩
def tz153 : TyA := ⟨8, 0, 0, .i64, [], 1, 8, false, [.nf]⟩
def tz154 : TyA := ⟨8, 0, 0, .i64, [], 1, 8, false, [.nf]⟩
def tz155 : TyA := ⟨8, 0, 0, .i64, [], 1, 8, false, [.nf]⟩
def tz156 : TyA := ⟨8, 0, 0, .i64, [], 1, 8, false, [.nf]⟩
def tz157 : TyA := ⟨1, 0, 0, .u64, [], 1, 8, false, [.i .u64 (.ofNat 0)]⟩
def tz158 : TyA := ⟨8, 0, 0, .i64, [], 1, 8, false, [.nf]⟩
def tz159 : TyA := ⟨4, 161, 0, .i64, [], 1, 24, false, [.sl none 0 0 none]⟩
def tz160 : TyA := ⟨9, 0, 0, .i64, [(3, 0), (3, 1), (3, 2), (3, 3), (9, 4), (159, 5)], 6, 72, true, [.i .i64 (.ofNat 0), .i .i64 (.ofNat 0), .i .i64 (.ofNat 0), .i .i64 (.ofNat 0), .s [], .sl none 0 0 none]⟩
def tz161 : TyA := ⟨9, 0, 0, .i64, [(3, 0), (3, 1), (3, 2), (3, 3), (9, 4), (159, 5)], 6, 72, true, [.i .i64 (.ofNat 0), .i .i64 (.ofNat 0), .i .i64 (.ofNat 0), .i .i64 (.ofNat 0), .s [], .sl none 0 0 none]⟩
def tz163 : TyA := ⟨8, 0, 0, .i64, [], 1, 8, false, [.nf]⟩
def tz164 : TyA := ⟨8, 0, 0, .i64, [], 1, 8, false, [.nf]⟩
def tz165 : TyA := ⟨3, 170, 0, .i64, [], 1, 8, false, [.p none]⟩
def tz166 : TyA := ⟨6, 76, 9, .i64, [], 1, 8, false, [.m none]⟩
def tz167 : TyA := ⟨6, 209, 9, .i64, [], 1, 8, false, [.m none]⟩
def tz168 : TyA := ⟨6, 9, 9, .i64, [], 1, 8, false, [.m none]⟩
def tz169 : TyA := ⟨9, 0, 0, .i64, [(96, 0), (101, 7), (134, 18), (166, 19), (167, 20), (168, 21), (76, 22)], 23, 448, true, [.s [], .sl none 0 0 none, .sl none 0 0 none, .sl none 0 0 none, .sl none 0 0 none, .sl none 0 0 none, .sl none 0 0 none, .s [], .s [], .sl none 0 0 none, .sl none 0 0 none, .sl none 0 0 none, .s [], .s [], .sl none 0 0 none, .sl none 0 0 none, .sl none 0 0 none, .sl none 0 0 none, .p none, .m none, .m none, .m none, .sl none 0 0 none]⟩
def tz170 : TyA := ⟨9, 0, 0, .i64, [(96, 0), (101, 7), (134, 18), (166, 19), (167, 20), (168, 21), (76, 22)], 23, 448, true, [.s [], .sl none 0 0 none, .sl none 0 0 none, .sl none 0 0 none, .sl none 0 0 none, .sl none 0 0 none, .sl none 0 0 none, .s [], .s [], .sl none 0 0 none, .sl none 0 0 none, .sl none 0 0 none, .s [], .s [], .sl none 0 0 none, .sl none 0 0 none, .sl none 0 0 none, .sl none 0 0 none, .p none, .m none, .m none, .m none, .sl none 0 0 none]⟩
def tz171 : TyA := ⟨8, 0, 0, .i64, [], 1, 8, false, [.nf]⟩
def tz172 : TyA := ⟨3, 254, 0, .i64, [], 1, 8, false, [.p none]⟩
def tz174 : TyA := ⟨8, 0, 0, .i64, [], 1, 8, false, [.nf]⟩
def tz175 : TyA := ⟨3, 183, 0, .i64, [], 1, 8, false, [.p none]⟩
def tz177 : TyA := ⟨8, 0, 0, .i64, [], 1, 8, false, [.nf]⟩
def tz178 : TyA := ⟨4, 187, 0, .i64, [], 1, 24, false, [.sl none 0 0 none]⟩
def tz179 : TyA := ⟨6, 103, 9, .i64, [], 1, 8, false, [.m none]⟩
def tz180 : TyA := ⟨6, 103, 9, .i64, [], 1, 8, false, [.m none]⟩
def tz181 : TyA := ⟨4, 188, 0, .i64, [], 1, 24, false, [.sl none 0 0 none]⟩
def tz182 : TyA := ⟨9, 0, 0, .i64, [(172, 0), (178, 1), (180, 2), (181, 3), (181, 4)], 5, 88, true, [.p none, .sl none 0 0 none, .m none, .sl none 0 0 none, .sl none 0 0 none]⟩
def tz183 : TyA := ⟨9, 0, 0, .i64, [(172, 0), (178, 1), (180, 2), (181, 3), (181, 4)], 5, 88, true, [.p none, .sl none 0 0 none, .m none, .sl none 0 0 none, .sl none 0 0 none]⟩
def tz184 : TyA := ⟨8, 0, 0, .i64, [], 1, 8, false, [.nf]⟩
def tz185 : TyA := ⟨4, 80, 0, .i64, [], 1, 24, false, [.sl none 0 0 none]⟩
def tz186 : TyA := ⟨9, 0, 0, .i64, [(9, 0), (76, 1), (84, 2), (84, 8), (84, 14), (84, 20), (89, 26), (89, 27), (4, 28), (185, 29)], 30, 632, true, [.s [], .sl none 0 0 none, .s [], .s [], .sl none 0 0 none, .sl none 0 0 none, .sl none 0 0 none, .sl none 0 0 none, .s [], .s [], .sl none 0 0 none, .sl none 0 0 none, .sl none 0 0 none, .sl none 0 0 none, .s [], .s [], .sl none 0 0 none, .sl none 0 0 none, .sl none 0 0 none, .sl none 0 0 none, .s [], .s [], .sl none 0 0 none, .sl none 0 0 none, .sl none 0 0 none, .sl none 0 0 none, .sl none 0 0 none, .sl none 0 0 none, .b false, .sl none 0 0 none]⟩
def tz187 : TyA := ⟨9, 0, 0, .i64, [(9, 0), (76, 1), (84, 2), (84, 8), (84, 14), (84, 20), (89, 26), (89, 27), (4, 28), (185, 29)], 30, 632, true, [.s [], .sl none 0 0 none, .s [], .s [], .sl none 0 0 none, .sl none 0 0 none, .sl none 0 0 none, .sl none 0 0 none, .s [], .s [], .sl none 0 0 none, .sl none 0 0 none, .sl none 0 0 none, .sl none 0 0 none, .s [], .s [], .sl none 0 0 none, .sl none 0 0 none, .sl none 0 0 none, .sl none 0 0 none, .s [], .s [], .sl none 0 0 none, .sl none 0 0 none, .sl none 0 0 none, .sl none 0 0 none, .sl none 0 0 none, .sl none 0 0 none, .b false, .sl none 0 0 none]⟩
def tz188 : TyA := ⟨4, 4, 0, .i64, [], 1, 24, false, [.sl none 0 0 none]⟩
def tz189 : TyA := ⟨8, 0, 0, .i64, [], 1, 8, false, [.nf]⟩
def tz191 : TyA := ⟨8, 0, 0, .i64, [], 1, 8, false, [.nf]⟩
def tz192 : TyA := ⟨8, 0, 0, .i64, [], 1, 8, false, [.nf]⟩
def tz193 : TyA := ⟨9, 0, 0, .i64, [(9, 0), (9, 1)], 2, 32, true, [.s [], .s []]⟩
def tz194 : TyA := ⟨9, 0, 0, .i64, [(9, 0), (9, 1)], 2, 32, true, [.s [], .s []]⟩
def tz195 : TyA := ⟨8, 0, 0, .i64, [], 1, 8, false, [.nf]⟩
def tz196 : TyA := ⟨8, 0, 0, .i64, [], 1, 8, false, [.nf]⟩
def tz197 : TyA := ⟨8, 0, 0, .i64, [], 1, 8, false, [.nf]⟩
def tz198 : TyA := ⟨8, 0, 0, .i64, [], 1, 8, false, [.nf]⟩
def tz199 : TyA := ⟨8, 0, 0, .i64, [], 1, 8, false, [.nf]⟩
def tz200 : TyA := ⟨8, 0, 0, .i64, [], 1, 8, false, [.nf]⟩
def tz201 : TyA := ⟨9, 0, 0, .i64, [(103, 0), (3, 2)], 3, 48, true, [.s [], .sl none 0 0 none, .i .i64 (.ofNat 0)]⟩
def tz202 : TyA := ⟨9, 0, 0, .i64, [(103, 0), (3, 2)], 3, 48, true, [.s [], .sl none 0 0 none, .i .i64 (.ofNat 0)]⟩
def tz203 : TyA := ⟨8, 0, 0, .i64, [], 1, 8, false, [.nf]⟩
def tz204 : TyA := ⟨8, 0, 0, .i64, [], 1, 8, false, [.nf]⟩
def tz205 : TyA := ⟨8, 0, 0, .i64, [], 1, 8, false, [.nf]⟩
def tz206 : TyA := ⟨8, 0, 0, .i64, [], 1, 8, false, [.nf]⟩
def tz207 : TyA := ⟨8, 0, 0, .i64, [], 1, 8, false, [.nf]⟩
def tz208 : TyA := ⟨9, 0, 0, .i64, [(9, 0), (76, 1), (3, 2), (3, 3)], 4, 56, true, [.s [], .sl none 0 0 none, .i .i64 (.ofNat 0), .i .i64 (.ofNat 0)]⟩
def tz209 : TyA := ⟨9, 0, 0, .i64, [(9, 0), (76, 1), (3, 2), (3, 3)], 4, 56, true, [.s [], .sl none 0 0 none, .i .i64 (.ofNat 0), .i .i64 (.ofNat 0)]⟩
def tz210 : TyA := ⟨8, 0, 0, .i64, [], 1, 8, false, [.nf]⟩
def tz211 : TyA := ⟨8, 0, 0, .i64, [], 1, 8, false, [.nf]⟩
def tz212 : TyA := ⟨8, 0, 0, .i64, [], 1, 8, false, [.nf]⟩
def tz214 : TyA := ⟨8, 0, 0, .i64, [], 1, 8, false, [.nf]⟩
def tz215 : TyA := ⟨8, 0, 0, .i64, [], 1, 8, false, [.nf]⟩
def tz216 : TyA := ⟨8, 0, 0, .i64, [], 1, 8, false, [.nf]⟩
def tz218 : TyA := ⟨8, 0, 0, .i64, [], 1, 8, false, [.nf]⟩
def tz219 : TyA := ⟨8, 0, 0, .i64, [], 1, 8, false, [.nf]⟩
def tz220 : TyA := ⟨8, 0, 0, .i64, [], 1, 8, false, [.nf]⟩
def tz221 : TyA := ⟨8, 0, 0, .i64, [], 1, 8, false, [.nf]⟩
def tz222 : TyA := ⟨3, 224, 0, .i64, [], 1, 8, false, [.p none]⟩
def tz223 : TyA := ⟨9, 0, 0, .i64, [(4, 0)], 1, 1, true, [.b false]⟩
def tz224 : TyA := ⟨9, 0, 0, .i64, [(4, 0)], 1, 1, true, [.b false]⟩
def tz225 : TyA := ⟨8, 0, 0, .i64, [], 1, 8, false, [.nf]⟩
def tz226 : TyA := ⟨8, 0, 0, .i64, [], 1, 8, false, [.nf]⟩
def tz227 : TyA := ⟨8, 0, 0, .i64, [], 1, 8, false, [.nf]⟩
def tz228 : TyA := ⟨3, 161, 0, .i64, [], 1, 8, false, [.p none]⟩
def tz229 : TyA := ⟨8, 0, 0, .i64, [], 1, 8, false, [.nf]⟩
def tz230 : TyA := ⟨8, 0, 0, .i64, [], 1, 8, false, [.nf]⟩
def tz231 : TyA := ⟨8, 0, 0, .i64, [], 1, 8, false, [.nf]⟩
def tz232 : TyA := ⟨9, 0, 0, .i64, [(9, 0), (76, 1), (3, 2), (84, 3), (84, 9), (84, 15), (89, 21), (89, 22)], 23, 480, true, [.s [], .sl none 0 0 none, .i .i64 (.ofNat 0), .s [], .s [], .sl none 0 0 none, .sl none 0 0 none, .sl none 0 0 none, .sl none 0 0 none, .s [], .s [], .sl none 0 0 none, .sl none 0 0 none, .sl none 0 0 none, .sl none 0 0 none, .s [], .s [], .sl none 0 0 none, .sl none 0 0 none, .sl none 0 0 none, .sl none 0 0 none, .sl none 0 0 none, .sl none 0 0 none]⟩
def tz233 : TyA := ⟨9, 0, 0, .i64, [(9, 0), (76, 1), (3, 2), (84, 3), (84, 9), (84, 15), (89, 21), (89, 22)], 23, 480, true, [.s [], .sl none 0 0 none, .i .i64 (.ofNat 0), .s [], .s [], .sl none 0 0 none, .sl none 0 0 none, .sl none 0 0 none, .sl none 0 0 none, .s [], .s [], .sl none 0 0 none, .sl none 0 0 none, .sl none 0 0 none, .sl none 0 0 none, .s [], .s [], .sl none 0 0 none, .sl none 0 0 none, .sl none 0 0 none, .sl none 0 0 none, .sl none 0 0 none, .sl none 0 0 none]⟩
def tz234 : TyA := ⟨8, 0, 0, .i64, [], 1, 8, false, [.nf]⟩
def tz235 : TyA := ⟨8, 0, 0, .i64, [], 1, 8, false, [.nf]⟩
def tz236 : TyA := ⟨8, 0, 0, .i64, [], 1, 8, false, [.nf]⟩
def tz237 : TyA := ⟨8, 0, 0, .i64, [], 1, 8, false, [.nf]⟩
def tz238 : TyA := ⟨8, 0, 0, .i64, [], 1, 8, false, [.nf]⟩
def tz239 : TyA := ⟨8, 0, 0, .i64, [], 1, 8, false, [.nf]⟩
def tz240 : TyA := ⟨8, 0, 0, .i64, [], 1, 8, false, [.nf]⟩
def tz241 : TyA := ⟨8, 0, 0, .i64, [], 1, 8, false, [.nf]⟩
def tz242 : TyA := ⟨8, 0, 0, .i64, [], 1, 8, false, [.nf]⟩
def tz243 : TyA := ⟨8, 0, 0, .i64, [], 1, 8, false, [.nf]⟩
def tz244 : TyA := ⟨8, 0, 0, .i64, [], 1, 8, false, [.nf]⟩
def tz245 : TyA := ⟨8, 0, 0, .i64, [], 1, 8, false, [.nf]⟩
def tz246 : TyA := ⟨8, 0, 0, .i64, [], 1, 8, false, [.nf]⟩
def tz247 : TyA := ⟨8, 0, 0, .i64, [], 1, 8, false, [.nf]⟩
def tz248 : TyA := ⟨8, 0, 0, .i64, [], 1, 8, false, [.nf]⟩
def tz249 : TyA := ⟨8, 0, 0, .i64, [], 1, 8, false, [.nf]⟩
def tz250 : TyA := ⟨8, 0, 0, .i64, [], 1, 8, false, [.nf]⟩
def tz251 : TyA := ⟨8, 0, 0, .i64, [], 1, 8, false, [.nf]⟩
def tz252 : TyA := ⟨8, 0, 0, .i64, [], 1, 8, false, [.nf]⟩
def tz253 : TyA := ⟨9, 0, 0, .i64, [(96, 0), (101, 7), (134, 18), (76, 19), (139, 20), (180, 21)], 22, 440, true, [.s [], .sl none 0 0 none, .sl none 0 0 none, .sl none 0 0 none, .sl none 0 0 none, .sl none 0 0 none, .sl none 0 0 none, .s [], .s [], .sl none 0 0 none, .sl none 0 0 none, .sl none 0 0 none, .s [], .s [], .sl none 0 0 none, .sl none 0 0 none, .sl none 0 0 none, .sl none 0 0 none, .p none, .sl none 0 0 none, .m none, .m none]⟩
def tz254 : TyA := ⟨9, 0, 0, .i64, [(96, 0), (101, 7), (134, 18), (76, 19), (139, 20), (180, 21)], 22, 440, true, [.s [], .sl none 0 0 none, .sl none 0 0 none, .sl none 0 0 none, .sl none 0 0 none, .sl none 0 0 none, .sl none 0 0 none, .s [], .s [], .sl none 0 0 none, .sl none 0 0 none, .sl none 0 0 none, .s [], .s [], .sl none 0 0 none, .sl none 0 0 none, .sl none 0 0 none, .sl none 0 0 none, .p none, .sl none 0 0 none, .m none, .m none]⟩
def tz255 : TyA := ⟨8, 0, 0, .i64, [], 1, 8, false, [.nf]⟩
def tz257 : TyA := ⟨8, 0, 0, .i64, [], 1, 8, false, [.nf]⟩
def tz258 : TyA := ⟨8, 0, 0, .i64, [], 1, 8, false, [.nf]⟩
def tz259 : TyA := ⟨9, 0, 0, .i64, [(168, 0)], 1, 8, true, [.m none]⟩
def tz260 : TyA := ⟨9, 0, 0, .i64, [(168, 0)], 1, 8, true, [.m none]⟩
def tz262 : TyA := ⟨8, 0, 0, .i64, [], 1, 8, false, [.nf]⟩
def tz263 : TyA := ⟨8, 0, 0, .i64, [], 1, 8, false, [.nf]⟩
def tz264 : TyA := ⟨8, 0, 0, .i64, [], 1, 8, false, [.nf]⟩
def tz265 : TyA := ⟨8, 0, 0, .i64, [], 1, 8, false, [.nf]⟩
def tz266 : TyA := ⟨8, 0, 0, .i64, [], 1, 8, false, [.nf]⟩
def tz267 : TyA := ⟨8, 0, 0, .i64, [], 1, 8, false, [.nf]⟩
def tz268 : TyA := ⟨8, 0, 0, .i64, [], 1, 8, false, [.nf]⟩
def tz269 : TyA := ⟨8, 0, 0, .i64, [], 1, 8, false, [.nf]⟩
def tz270 : TyA := ⟨8, 0, 0, .i64, [], 1, 8, false, [.nf]⟩
def tz271 : TyA := ⟨8, 0, 0, .i64, [], 1, 8, false, [.nf]⟩
def tz272 : TyA := ⟨8, 0, 0, .i64, [], 1, 8, false, [.nf]⟩
def tz273 : TyA := ⟨8, 0, 0, .i64, [], 1, 8, false, [.nf]⟩
def tz274 : TyA := ⟨8, 0, 0, .i64, [], 1, 8, false, [.nf]⟩
def tz275 : TyA := ⟨8, 0, 0, .i64, [], 1, 8, false, [.nf]⟩
def tz276 : TyA := ⟨8, 0, 0, .i64, [], 1, 8, false, [.nf]⟩
def tz277 : TyA := ⟨8, 0, 0, .i64, [], 1, 8, false, [.nf]⟩
def tz278 : TyA := ⟨8, 0, 0, .i64, [], 1, 8, false, [.nf]⟩
def tz279 : TyA := ⟨8, 0, 0, .i64, [], 1, 8, false, [.nf]⟩
def tz280 : TyA := ⟨8, 0, 0, .i64, [], 1, 8, false, [.nf]⟩
def tz281 : TyA := ⟨8, 0, 0, .i64, [], 1, 8, false, [.nf]⟩
def tz282 : TyA := ⟨8, 0, 0, .i64, [], 1, 8, false, [.nf]⟩
def tz283 : TyA := ⟨8, 0, 0, .i64, [], 1, 8, false, [.nf]⟩
def tz284 : TyA := ⟨8, 0, 0, .i64, [], 1, 8, false, [.nf]⟩
def tz285 : TyA := ⟨8, 0, 0, .i64, [], 1, 8, false, [.nf]⟩
def tz286 : TyA := ⟨8, 0, 0, .i64, [], 1, 8, false, [.nf]⟩
def tz288 : TyA := ⟨8, 0, 0, .i64, [], 1, 8, false, [.nf]⟩
def tz289 : TyA := ⟨8, 0, 0, .i64, [], 1, 8, false, [.nf]⟩
def tz290 : TyA := ⟨8, 0, 0, .i64, [], 1, 8, false, [.nf]⟩
def tz291 : TyA := ⟨8, 0, 0, .i64, [], 1, 8, false, [.nf]⟩
def tz292 : TyA := ⟨8, 0, 0, .i64, [], 1, 8, false, [.nf]⟩
def tz293 : TyA := ⟨8, 0, 0, .i64, [], 1, 8, false, [.nf]⟩
def tz294 : TyA := ⟨8, 0, 0, .i64, [], 1, 8, false, [.nf]⟩
def tz295 : TyA := ⟨8, 0, 0, .i64, [], 1, 8, false, [.nf]⟩
def tz296 : TyA := ⟨8, 0, 0, .i64, [], 1, 8, false, [.nf]⟩
def tz297 : TyA := ⟨8, 0, 0, .i64, [], 1, 8, false, [.nf]⟩
def tz298 : TyA := ⟨8, 0, 0, .i64, [], 1, 8, false, [.nf]⟩
def tz299 : TyA := ⟨8, 0, 0, .i64, [], 1, 8, false, [.nf]⟩
def tz300 : TyA := ⟨8, 0, 0, .i64, [], 1, 8, false, [.nf]⟩
def tz301 : TyA := ⟨8, 0, 0, .i64, [], 1, 8, false, [.nf]⟩
def tz302 : TyA := ⟨3, 3, 0, .i64, [], 1, 8, false, [.p none]⟩
def tz303 : TyA := ⟨8, 0, 0, .i64, [], 1, 8, false, [.nf]⟩
def tz304 : TyA := ⟨8, 0, 0, .i64, [], 1, 8, false, [.nf]⟩
def tz305 : TyA := ⟨8, 0, 0, .i64, [], 1, 8, false, [.nf]⟩
def tz306 : TyA := ⟨8, 0, 0, .i64, [], 1, 8, false, [.nf]⟩
def tz307 : TyA := ⟨8, 0, 0, .i64, [], 1, 8, false, [.nf]⟩
def tz308 : TyA := ⟨4, 311, 0, .i64, [], 1, 24, false, [.sl none 0 0 none]⟩
def tz309 : TyA := ⟨5, 308, 3, .i64, [], 3, 72, true, [.sl none 0 0 none, .sl none 0 0 none, .sl none 0 0 none]⟩
def tz310 : TyA := ⟨9, 0, 0, .i64, [(9, 0), (9, 1)], 2, 32, true, [.s [], .s []]⟩
def tz311 : TyA := ⟨9, 0, 0, .i64, [(9, 0), (9, 1)], 2, 32, true, [.s [], .s []]⟩
def tz312 : TyA := ⟨8, 0, 0, .i64, [], 1, 8, false, [.nf]⟩
def tz313 : TyA := ⟨8, 0, 0, .i64, [], 1, 8, false, [.nf]⟩
def tz314 : TyA := ⟨8, 0, 0, .i64, [], 1, 8, false, [.nf]⟩
def tz315 : TyA := ⟨4, 89, 0, .i64, [], 1, 24, false, [.sl none 0 0 none]⟩
def tz316 : TyA := ⟨8, 0, 0, .i64, [], 1, 8, false, [.nf]⟩
def tz317 : TyA := ⟨8, 0, 0, .i64, [], 1, 8, false, [.nf]⟩
def tz318 : TyA := ⟨8, 0, 0, .i64, [], 1, 8, false, [.nf]⟩
def tz320 : TyA := ⟨8, 0, 0, .i64, [], 1, 8, false, [.nf]⟩
def tz321 : TyA := ⟨8, 0, 0, .i64, [], 1, 8, false, [.nf]⟩
def tz322 : TyA := ⟨8, 0, 0, .i64, [], 1, 8, false, [.nf]⟩
def tz323 : TyA := ⟨8, 0, 0, .i64, [], 1, 8, false, [.nf]⟩
def tz324 : TyA := ⟨8, 0, 0, .i64, [], 1, 8, false, [.nf]⟩
def tz325 : TyA := ⟨8, 0, 0, .i64, [], 1, 8, false, [.nf]⟩
def tz326 : TyA := ⟨8, 0, 0, .i64, [], 1, 8, false, [.nf]⟩
def tz327 : TyA := ⟨8, 0, 0, .i64, [], 1, 8, false, [.nf]⟩
def tz328 : TyA := ⟨8, 0, 0, .i64, [], 1, 8, false, [.nf]⟩
def tz329 : TyA := ⟨8, 0, 0, .i64, [], 1, 8, false, [.nf]⟩
def tz330 : TyA := ⟨8, 0, 0, .i64, [], 1, 8, false, [.nf]⟩
def tz331 : TyA := ⟨3, 333, 0, .i64, [], 1, 8, false, [.p none]⟩
def tz332 : TyA := ⟨9, 0, 0, .i64, [(3, 0)], 1, 8, true, [.i .i64 (.ofNat 0)]⟩
def tz333 : TyA := ⟨9, 0, 0, .i64, [(3, 0)], 1, 8, true, [.i .i64 (.ofNat 0)]⟩
def tz334 : TyA := ⟨8, 0, 0, .i64, [], 1, 8, false, [.nf]⟩
def tz335 : TyA := ⟨8, 0, 0, .i64, [], 1, 8, false, [.nf]⟩
def tz336 : TyA := ⟨8, 0, 0, .i64, [], 1, 8, false, [.nf]⟩
def tz337 : TyA := ⟨3, 340, 0, .i64, [], 1, 8, false, [.p none]⟩
def tz338 : TyA := ⟨4, 5, 0, .i64, [], 1, 24, false, [.sl none 0 0 none]⟩
def tz339 : TyA := ⟨9, 0, 0, .i64, [(337, 0), (338, 1)], 2, 32, true, [.p none, .sl none 0 0 none]⟩
def tz340 : TyA := ⟨9, 0, 0, .i64, [(337, 0), (338, 1)], 2, 32, true, [.p none, .sl none 0 0 none]⟩
def tz341 : TyA := ⟨8, 0, 0, .i64, [], 1, 8, false, [.nf]⟩
def tz342 : TyA := ⟨8, 0, 0, .i64, [], 1, 8, false, [.nf]⟩
def tz343 : TyA := ⟨8, 0, 0, .i64, [], 1, 8, false, [.nf]⟩
def tz344 : TyA := ⟨8, 0, 0, .i64, [], 1, 8, false, [.nf]⟩
def tz345 : TyA := ⟨8, 0, 0, .i64, [], 1, 8, false, [.nf]⟩
def tz346 : TyA := ⟨8, 0, 0, .i64, [], 1, 8, false, [.nf]⟩
def tz347 : TyA := ⟨8, 0, 0, .i64, [], 1, 8, false, [.nf]⟩
def tz348 : TyA := ⟨8, 0, 0, .i64, [], 1, 8, false, [.nf]⟩
def tz349 : TyA := ⟨8, 0, 0, .i64, [], 1, 8, false, [.nf]⟩
def tz350 : TyA := ⟨8, 0, 0, .i64, [], 1, 8, false, [.nf]⟩
def tz351 : TyA := ⟨8, 0, 0, .i64, [], 1, 8, false, [.nf]⟩
def tz352 : TyA := ⟨8, 0, 0, .i64, [], 1, 8, false, [.nf]⟩
def tz353 : TyA := ⟨8, 0, 0, .i64, [], 1, 8, false, [.nf]⟩
def tz354 : TyA := ⟨8, 0, 0, .i64, [], 1, 8, false, [.nf]⟩
def tz355 : TyA := ⟨8, 0, 0, .i64, [], 1, 8, false, [.nf]⟩
def tz356 : TyA := ⟨8, 0, 0, .i64, [], 1, 8, false, [.nf]⟩
def tz357 : TyA := ⟨8, 0, 0, .i64, [], 1, 8, false, [.nf]⟩
def tz358 : TyA := ⟨8, 0, 0, .i64, [], 1, 8, false, [.nf]⟩
def tz359 : TyA := ⟨8, 0, 0, .i64, [], 1, 8, false, [.nf]⟩
def tz360 : TyA := ⟨8, 0, 0, .i64, [], 1, 8, false, [.nf]⟩
def tz361 : TyA := ⟨8, 0, 0, .i64, [], 1, 8, false, [.nf]⟩
def tz362 : TyA := ⟨8, 0, 0, .i64, [], 1, 8, false, [.nf]⟩
def tz363 : TyA := ⟨8, 0, 0, .i64, [], 1, 8, false, [.nf]⟩
def tz364 : TyA := ⟨8, 0, 0, .i64, [], 1, 8, false, [.nf]⟩
def tz365 : TyA := ⟨8, 0, 0, .i64, [], 1, 8, false, [.nf]⟩
def tz366 : TyA := ⟨8, 0, 0, .i64, [], 1, 8, false, [.nf]⟩
def tz367 : TyA := ⟨8, 0, 0, .i64, [], 1, 8, false, [.nf]⟩
def tz368 : TyA := ⟨8, 0, 0, .i64, [], 1, 8, false, [.nf]⟩
def tz369 : TyA := ⟨8, 0, 0, .i64, [], 1, 8, false, [.nf]⟩
def tz370 : TyA := ⟨8, 0, 0, .i64, [], 1, 8, false, [.nf]⟩
def tz371 : TyA := ⟨8, 0, 0, .i64, [], 1, 8, false, [.nf]⟩
def tz372 : TyA := ⟨8, 0, 0, .i64, [], 1, 8, false, [.nf]⟩
def tz373 : TyA := ⟨8, 0, 0, .i64, [], 1, 8, false, [.nf]⟩
def tz374 : TyA := ⟨8, 0, 0, .i64, [], 1, 8, false, [.nf]⟩
def tz375 : TyA := ⟨8, 0, 0, .i64, [], 1, 8, false, [.nf]⟩
def tz377 : TyA := ⟨8, 0, 0, .i64, [], 1, 8, false, [.nf]⟩
def tz379 : TyA := ⟨8, 0, 0, .i64, [], 1, 8, false, [.nf]⟩
def tz380 : TyA := ⟨8, 0, 0, .i64, [], 1, 8, false, [.nf]⟩
def tz381 : TyA := ⟨8, 0, 0, .i64, [], 1, 8, false, [.nf]⟩
def tz382 : TyA := ⟨8, 0, 0, .i64, [], 1, 8, false, [.nf]⟩
def tz383 : TyA := ⟨8, 0, 0, .i64, [], 1, 8, false, [.nf]⟩
def tz384 : TyA := ⟨8, 0, 0, .i64, [], 1, 8, false, [.nf]⟩
def tz385 : TyA := ⟨8, 0, 0, .i64, [], 1, 8, false, [.nf]⟩
def tz386 : TyA := ⟨1, 0, 0, .i64, [], 1, 8, false, [.i .i64 (.ofNat 0)]⟩
def tz388 : TyA := ⟨8, 0, 0, .i64, [], 1, 8, false, [.nf]⟩
def tz389 : TyA := ⟨8, 0, 0, .i64, [], 1, 8, false, [.nf]⟩
def tz390 : TyA := ⟨8, 0, 0, .i64, [], 1, 8, false, [.nf]⟩
def tz391 : TyA := ⟨8, 0, 0, .i64, [], 1, 8, false, [.nf]⟩
def tz392 : TyA := ⟨8, 0, 0, .i64, [], 1, 8, false, [.nf]⟩
def tz393 : TyA := ⟨1, 0, 0, .u32, [], 1, 4, false, [.i .u32 (.ofNat 0)]⟩
def tz394 : TyA := ⟨8, 0, 0, .i64, [], 1, 8, false, [.nf]⟩
def tz395 : TyA := ⟨1, 0, 0, .u64, [], 1, 8, false, [.i .u64 (.ofNat 0)]⟩
def tz396 : TyA := ⟨8, 0, 0, .i64, [], 1, 8, false, [.nf]⟩
def tz397 : TyA := ⟨3, 5, 0, .i64, [], 1, 8, false, [.p none]⟩
def tz398 : TyA := ⟨8, 0, 0, .i64, [], 1, 8, false, [.nf]⟩
def tz399 : TyA := ⟨8, 0, 0, .i64, [], 1, 8, false, [.nf]⟩
def tz400 : TyA := ⟨8, 0, 0, .i64, [], 1, 8, false, [.nf]⟩
def tz401 : TyA := ⟨8, 0, 0, .i64, [], 1, 8, false, [.nf]⟩
def tz402 : TyA := ⟨8, 0, 0, .i64, [], 1, 8, false, [.nf]⟩
def tz403 : TyA := ⟨8, 0, 0, .i64, [], 1, 8, false, [.nf]⟩
def tz404 : TyA := ⟨8, 0, 0, .i64, [], 1, 8, false, [.nf]⟩
def tz405 : TyA := ⟨8, 0, 0, .i64, [], 1, 8, false, [.nf]⟩
def tz406 : TyA := ⟨8, 0, 0, .i64, [], 1, 8, false, [.nf]⟩
def tz407 : TyA := ⟨8, 0, 0, .i64, [], 1, 8, false, [.nf]⟩
def tz408 : TyA := ⟨8, 0, 0, .i64, [], 1, 8, false, [.nf]⟩
def tz409 : TyA := ⟨8, 0, 0, .i64, [], 1, 8, false, [.nf]⟩
def tz410 : TyA := ⟨8, 0, 0, .i64, [], 1, 8, false, [.nf]⟩
def tz411 : TyA := ⟨1, 0, 0, .u64, [], 1, 8, false, [.i .u64 (.ofNat 0)]⟩
def tz412 : TyA := ⟨8, 0, 0, .i64, [], 1, 8, false, [.nf]⟩
def tz413 : TyA := ⟨8, 0, 0, .i64, [], 1, 8, false, [.nf]⟩
def tz414 : TyA := ⟨8, 0, 0, .i64, [], 1, 8, false, [.nf]⟩
def tz415 : TyA := ⟨8, 0, 0, .i64, [], 1, 8, false, [.nf]⟩
def tz417 : TyA := ⟨8, 0, 0, .i64, [], 1, 8, false, [.nf]⟩
def tz418 : TyA := ⟨8, 0, 0, .i64, [], 1, 8, false, [.nf]⟩
def tz419 : TyA := ⟨8, 0, 0, .i64, [], 1, 8, false, [.nf]⟩
def tz420 : TyA := ⟨8, 0, 0, .i64, [], 1, 8, false, [.nf]⟩
def tz421 : TyA := ⟨4, 24, 0, .i64, [], 1, 24, false, [.sl none 0 0 none]⟩
def tz422 : TyA := ⟨8, 0, 0, .i64, [], 1, 8, false, [.nf]⟩
def tz423 : TyA := ⟨8, 0, 0, .i64, [], 1, 8, false, [.nf]⟩
def tz424 : TyA := ⟨8, 0, 0, .i64, [], 1, 8, false, [.nf]⟩
def tz425 : TyA := ⟨3, 411, 0, .i64, [], 1, 8, false, [.p none]⟩
def tz427 : TyA := ⟨8, 0, 0, .i64, [], 1, 8, false, [.nf]⟩
def tz428 : TyA := ⟨8, 0, 0, .i64, [], 1, 8, false, [.nf]⟩
def tz429 : TyA := ⟨8, 0, 0, .i64, [], 1, 8, false, [.nf]⟩
def tz430 : TyA := ⟨8, 0, 0, .i64, [], 1, 8, false, [.nf]⟩
def tz431 : TyA := ⟨8, 0, 0, .i64, [], 1, 8, false, [.nf]⟩
def tz432 : TyA := ⟨8, 0, 0, .i64, [], 1, 8, false, [.nf]⟩
def tz433 : TyA := ⟨8, 0, 0, .i64, [], 1, 8, false, [.nf]⟩
def tz435 : TyA := ⟨8, 0, 0, .i64, [], 1, 8, false, [.nf]⟩
def tz436 : TyA := ⟨8, 0, 0, .i64, [], 1, 8, false, [.nf]⟩
def tz437 : TyA := ⟨8, 0, 0, .i64, [], 1, 8, false, [.nf]⟩
def tz438 : TyA := ⟨8, 0, 0, .i64, [], 1, 8, false, [.nf]⟩
def tz439 : TyA := ⟨8, 0, 0, .i64, [], 1, 8, false, [.nf]⟩
def tz440 : TyA := ⟨8, 0, 0, .i64, [], 1, 8, false, [.nf]⟩
def tz441 : TyA := ⟨8, 0, 0, .i64, [], 1, 8, false, [.nf]⟩
def tz443 : TyA := ⟨8, 0, 0, .i64, [], 1, 8, false, [.nf]⟩
def tz444 : TyA := ⟨8, 0, 0, .i64, [], 1, 8, false, [.nf]⟩
def tz445 : TyA := ⟨5, 5, 256, .i64, [], 256, 256, true, [.i .u8 (.ofNat 0), .i .u8 (.ofNat 0), .i .u8 (.ofNat 0), .i .u8 (.ofNat 0), .i .u8 (.ofNat 0), .i .u8 (.ofNat 0), .i .u8 (.ofNat 0), .i .u8 (.ofNat 0), .i .u8 (.ofNat 0), .i .u8 (.ofNat 0), .i .u8 (.ofNat 0), .i .u8 (.ofNat 0), .i .u8 (.ofNat 0), .i .u8 (.ofNat 0), .i .u8 (.ofNat 0), .i .u8 (.ofNat 0), .i .u8 (.ofNat 0), .i .u8 (.ofNat 0), .i .u8 (.ofNat 0), .i .u8 (.ofNat 0), .i .u8 (.ofNat 0), .i .u8 (.ofNat 0), .i .u8 (.ofNat 0), .i .u8 (.ofNat 0), .i .u8 (.ofNat 0), .i .u8 (.ofNat 0), .i .u8 (.ofNat 0), .i .u8 (.ofNat 0), .i .u8 (.ofNat 0), .i .u8 (.ofNat 0), .i .u8 (.ofNat 0), .i .u8 (.ofNat 0), .i .u8 (.ofNat 0), .i .u8 (.ofNat 0), .i .u8 (.ofNat 0), .i .u8 (.ofNat 0), .i .u8 (.ofNat 0), .i .u8 (.ofNat 0), .i .u8 (.ofNat 0), .i .u8 (.ofNat 0), .i .u8 (.ofNat 0), .i .u8 (.ofNat 0), .i .u8 (.ofNat 0), .i .u8 (.ofNat 0), .i .u8 (.ofNat 0), .i .u8 (.ofNat 0), .i .u8 (.ofNat 0), .i .u8 (.ofNat 0), .i .u8 (.ofNat 0), .i .u8 (.ofNat 0), .i .u8 (.ofNat 0), .i .u8 (.ofNat 0), .i .u8 (.ofNat 0), .i .u8 (.ofNat 0), .i .u8 (.ofNat 0), .i .u8 (.ofNat 0), .i .u8 (.ofNat 0), .i .u8 (.ofNat 0), .i .u8 (.ofNat 0), .i .u8 (.ofNat 0), .i .u8 (.ofNat 0), .i .u8 (.ofNat 0), .i .u8 (.ofNat 0), .i .u8 (.ofNat 0), .i .u8 (.ofNat 0), .i .u8 (.ofNat 0), .i .u8 (.ofNat 0), .i .u8 (.ofNat 0), .i .u8 (.ofNat 0), .i .u8 (.ofNat 0), .i .u8 (.ofNat 0), .i .u8 (.ofNat 0), .i .u8 (.ofNat 0), .i .u8 (.ofNat 0), .i .u8 (.ofNat 0), .i .u8 (.ofNat 0), .i .u8 (.ofNat 0), .i .u8 (.ofNat 0), .i .u8 (.ofNat 0), .i .u8 (.ofNat 0), .i .u8 (.ofNat 0), .i .u8 (.ofNat 0), .i .u8 (.ofNat 0), .i .u8 (.ofNat 0), .i .u8 (.ofNat 0), .i .u8 (.ofNat 0), .i .u8 (.ofNat 0), .i .u8 (.ofNat 0), .i .u8 (.ofNat 0), .i .u8 (.ofNat 0), .i .u8 (.ofNat 0), .i .u8 (.ofNat 0), .i .u8 (.ofNat 0), .i .u8 (.ofNat 0), .i .u8 (.ofNat 0), .i .u8 (.ofNat 0), .i .u8 (.ofNat 0), .i .u8 (.ofNat 0), .i .u8 (.ofNat 0), .i .u8 (.ofNat 0), .i .u8 (.ofNat 0), .i .u8 (.ofNat 0), .i .u8 (.ofNat 0), .i .u8 (.ofNat 0), .i .u8 (.ofNat 0), .i .u8 (.ofNat 0), .i .u8 (.ofNat 0), .i .u8 (.ofNat 0), .i .u8 (.ofNat 0), .i .u8 (.ofNat 0), .i .u8 (.ofNat 0), .i .u8 (.ofNat 0), .i .u8 (.ofNat 0), .i .u8 (.ofNat 0), .i .u8 (.ofNat 0), .i .u8 (.ofNat 0), .i .u8 (.ofNat 0), .i .u8 (.ofNat 0), .i .u8 (.ofNat 0), .i .u8 (.ofNat 0), .i .u8 (.ofNat 0), .i .u8 (.ofNat 0), .i .u8 (.ofNat 0), .i .u8 (.ofNat 0), .i .u8 (.ofNat 0), .i .u8 (.ofNat 0), .i .u8 (.ofNat 0), .i .u8 (.ofNat 0), .i .u8 (.ofNat 0), .i .u8 (.ofNat 0), .i .u8 (.ofNat 0), .i .u8 (.ofNat 0), .i .u8 (.ofNat 0), .i .u8 (.ofNat 0), .i .u8 (.ofNat 0), .i .u8 (.ofNat 0), .i .u8 (.ofNat 0), .i .u8 (.ofNat 0), .i .u8 (.ofNat 0), .i .u8 (.ofNat 0), .i .u8 (.ofNat 0), .i .u8 (.ofNat 0), .i .u8 (.ofNat 0), .i .u8 (.ofNat 0), .i .u8 (.ofNat 0), .i .u8 (.ofNat 0), .i .u8 (.ofNat 0), .i .u8 (.ofNat 0), .i .u8 (.ofNat 0), .i .u8 (.ofNat 0), .i .u8 (.ofNat 0), .i .u8 (.ofNat 0), .i .u8 (.ofNat 0), .i .u8 (.ofNat 0), .i .u8 (.ofNat 0), .i .u8 (.ofNat 0), .i .u8 (.ofNat 0), .i .u8 (.ofNat 0), .i .u8 (.ofNat 0), .i .u8 (.ofNat 0), .i .u8 (.ofNat 0), .i .u8 (.ofNat 0), .i .u8 (.ofNat 0), .i .u8 (.ofNat 0), .i .u8 (.ofNat 0), .i .u8 (.ofNat 0), .i .u8 (.ofNat 0), .i .u8 (.ofNat 0), .i .u8 (.ofNat 0), .i .u8 (.ofNat 0), .i .u8 (.ofNat 0), .i .u8 (.ofNat 0), .i .u8 (.ofNat 0), .i .u8 (.ofNat 0), .i .u8 (.ofNat 0), .i .u8 (.ofNat 0), .i .u8 (.ofNat 0), .i .u8 (.ofNat 0), .i .u8 (.ofNat 0), .i .u8 (.ofNat 0), .i .u8 (.ofNat 0), .i .u8 (.ofNat 0), .i .u8 (.ofNat 0), .i .u8 (.ofNat 0), .i .u8 (.ofNat 0), .i .u8 (.ofNat 0), .i .u8 (.ofNat 0), .i .u8 (.ofNat 0), .i .u8 (.ofNat 0), .i .u8 (.ofNat 0), .i .u8 (.ofNat 0), .i .u8 (.ofNat 0), .i .u8 (.ofNat 0), .i .u8 (.ofNat 0), .i .u8 (.ofNat 0), .i .u8 (.ofNat 0), .i .u8 (.ofNat 0), .i .u8 (.ofNat 0), .i .u8 (.ofNat 0), .i .u8 (.ofNat 0), .i .u8 (.ofNat 0), .i .u8 (.ofNat 0), .i .u8 (.ofNat 0), .i .u8 (.ofNat 0), .i .u8 (.ofNat 0), .i .u8 (.ofNat 0), .i .u8 (.ofNat 0), .i .u8 (.ofNat 0), .i .u8 (.ofNat 0), .i .u8 (.ofNat 0), .i .u8 (.ofNat 0), .i .u8 (.ofNat 0), .i .u8 (.ofNat 0), .i .u8 (.ofNat 0), .i .u8 (.ofNat 0), .i .u8 (.ofNat 0), .i .u8 (.ofNat 0), .i .u8 (.ofNat 0), .i .u8 (.ofNat 0), .i .u8 (.ofNat 0), .i .u8 (.ofNat 0), .i .u8 (.ofNat 0), .i .u8 (.ofNat 0), .i .u8 (.ofNat 0), .i .u8 (.ofNat 0), .i .u8 (.ofNat 0), .i .u8 (.ofNat 0), .i .u8 (.ofNat 0), .i .u8 (.ofNat 0), .i .u8 (.ofNat 0), .i .u8 (.ofNat 0), .i .u8 (.ofNat 0), .i .u8 (.ofNat 0), .i .u8 (.ofNat 0), .i .u8 (.ofNat 0), .i .u8 (.ofNat 0), .i .u8 (.ofNat 0), .i .u8 (.ofNat 0), .i .u8 (.ofNat 0), .i .u8 (.ofNat 0), .i .u8 (.ofNat 0), .i .u8 (.ofNat 0), .i .u8 (.ofNat 0), .i .u8 (.ofNat 0), .i .u8 (.ofNat 0), .i .u8 (.ofNat 0), .i .u8 (.ofNat 0), .i .u8 (.ofNat 0), .i .u8 (.ofNat 0), .i .u8 (.ofNat 0), .i .u8 (.ofNat 0), .i .u8 (.ofNat 0), .i .u8 (.ofNat 0), .i .u8 (.ofNat 0), .i .u8 (.ofNat 0), .i .u8 (.ofNat 0)]⟩
def tz446 : TyA := ⟨9, 0, 0, .i64, [(5, 0), (5, 1)], 2, 2, true, [.i .u8 (.ofNat 0), .i .u8 (.ofNat 0)]⟩
def tz447 : TyA := ⟨9, 0, 0, .i64, [(5, 0), (5, 1)], 2, 2, true, [.i .u8 (.ofNat 0), .i .u8 (.ofNat 0)]⟩
def tz448 : TyA := ⟨5, 447, 16, .i64, [], 32, 32, true, [.i .u8 (.ofNat 0), .i .u8 (.ofNat 0), .i .u8 (.ofNat 0), .i .u8 (.ofNat 0), .i .u8 (.ofNat 0), .i .u8 (.ofNat 0), .i .u8 (.ofNat 0), .i .u8 (.ofNat 0), .i .u8 (.ofNat 0), .i .u8 (.ofNat 0), .i .u8 (.ofNat 0), .i .u8 (.ofNat 0), .i .u8 (.ofNat 0), .i .u8 (.ofNat 0), .i .u8 (.ofNat 0), .i .u8 (.ofNat 0), .i .u8 (.ofNat 0), .i .u8 (.ofNat 0), .i .u8 (.ofNat 0), .i .u8 (.ofNat 0), .i .u8 (.ofNat 0), .i .u8 (.ofNat 0), .i .u8 (.ofNat 0), .i .u8 (.ofNat 0), .i .u8 (.ofNat 0), .i .u8 (.ofNat 0), .i .u8 (.ofNat 0), .i .u8 (.ofNat 0), .i .u8 (.ofNat 0), .i .u8 (.ofNat 0), .i .u8 (.ofNat 0), .i .u8 (.ofNat 0)]⟩
def tz449 : TyA := ⟨1, 0, 0, .u16, [], 1, 2, false, [.i .u16 (.ofNat 0)]⟩
def tz450 : TyA := ⟨4, 449, 0, .i64, [], 1, 24, false, [.sl none 0 0 none]⟩
def tz451 : TyA := ⟨8, 0, 0, .i64, [], 1, 8, false, [.nf]⟩
def tz452 : TyA := ⟨4, 393, 0, .i64, [], 1, 24, false, [.sl none 0 0 none]⟩
def tz453 : TyA := ⟨8, 0, 0, .i64, [], 1, 8, false, [.nf]⟩
def tz454 : TyA := ⟨9, 0, 0, .i64, [(17, 0), (17, 1), (17, 2), (9, 3)], 4, 40, true, [.p none, .p none, .p none, .s []]⟩
def tz455 : TyA := ⟨9, 0, 0, .i64, [(17, 0), (17, 1), (17, 2), (9, 3)], 4, 40, true, [.p none, .p none, .p none, .s []]⟩
def tz456 : TyA := ⟨5, 16, 0, .i64, [], 0, 0, true, []⟩
def tz457 : TyA := ⟨9, 0, 0, .i64, [(456, 0)], 0, 0, true, []⟩
def tz458 : TyA := ⟨9, 0, 0, .i64, [(456, 0)], 0, 0, true, []⟩
def tz459 : TyA := ⟨8, 0, 0, .i64, [], 1, 8, false, [.nf]⟩
def tz460 : TyA := ⟨1, 0, 0, .u8, [], 1, 1, false, [.i .u8 (.ofNat 0)]⟩
def tz461 : TyA := ⟨1, 0, 0, .u8, [], 1, 1, false, [.i .u8 (.ofNat 0)]⟩
def tz462 : TyA := ⟨8, 0, 0, .i64, [], 1, 8, false, [.nf]⟩
def tz463 : TyA := ⟨1, 0, 0, .i32, [], 1, 4, false, [.i .i32 (.ofNat 0)]⟩
def tz464 : TyA := ⟨1, 0, 0, .i32, [], 1, 4, false, [.i .i32 (.ofNat 0)]⟩
def tz465 : TyA := ⟨9, 0, 0, .i64, [(12, 0), (12, 1), (393, 2), (460, 3), (5, 4), (5, 5), (461, 6), (462, 7), (397, 8), (463, 9), (464, 10)], 11, 48, true, [.i .u64 (.ofNat 0), .i .u64 (.ofNat 0), .i .u32 (.ofNat 0), .i .u8 (.ofNat 0), .i .u8 (.ofNat 0), .i .u8 (.ofNat 0), .i .u8 (.ofNat 0), .nf, .p none, .i .i32 (.ofNat 0), .i .i32 (.ofNat 0)]⟩
def tz466 : TyA := ⟨9, 0, 0, .i64, [(12, 0), (12, 1), (393, 2), (460, 3), (5, 4), (5, 5), (461, 6), (462, 7), (397, 8), (463, 9), (464, 10)], 11, 48, true, [.i .u64 (.ofNat 0), .i .u64 (.ofNat 0), .i .u32 (.ofNat 0), .i .u8 (.ofNat 0), .i .u8 (.ofNat 0), .i .u8 (.ofNat 0), .i .u8 (.ofNat 0), .nf, .p none, .i .i32 (.ofNat 0), .i .i32 (.ofNat 0)]⟩
def tT : Tr TyA := (.n (.n (.n (.n (.n (.n (.n (.n (.n .lf (some tz255) .lf) none (.n .lf (some tz383) .lf)) (some tz63) (.n .lf (some tz191) (.n .lf (some tz447) .lf))) (some tz31) (.n (.n .lf (some tz159) (.n .lf (some tz415) .lf)) (some tz95) (.n (.n .lf (some tz351) .lf) (some tz223) .lf))) (some tz15) (.n (.n (.n (.n .lf (some tz271) .lf) (some tz143) (.n .lf (some tz399) .lf)) (some tz79) (.n (.n .lf (some tz335) .lf) (some tz207) (.n .lf (some tz463) .lf))) (some tz47) (.n (.n (.n .lf (some tz303) .lf) (some tz175) (.n .lf (some tz431) .lf)) (some tz111) (.n (.n .lf (some tz367) .lf) (some tz239) .lf)))) (some tz7) (.n (.n (.n (.n (.n .lf (some tz263) .lf) none (.n .lf (some tz391) .lf)) (some tz71) (.n (.n .lf (some tz327) .lf) (some tz199) (.n .lf (some tz455) .lf))) (some tz39) (.n (.n (.n .lf (some tz295) .lf) (some tz167) (.n .lf (some tz423) .lf)) (some tz103) (.n (.n .lf (some tz359) .lf) (some tz231) .lf))) (some tz23) (.n (.n (.n (.n .lf (some tz279) .lf) (some tz151) (.n .lf (some tz407) .lf)) (some tz87) (.n (.n .lf (some tz343) .lf) (some tz215) .lf)) (some tz55) (.n (.n (.n .lf (some tz311) .lf) (some tz183) (.n .lf (some tz439) .lf)) (some tz119) (.n (.n .lf (some tz375) .lf) (some tz247) .lf))))) (some tz3) (.n (.n (.n (.n (.n (.n .lf (some tz259) .lf) (some tz131) .lf) none (.n (.n .lf (some tz323) .lf) (some tz195) (.n .lf (some tz451) .lf))) (some tz35) (.n (.n (.n .lf (some tz291) .lf) (some tz163) (.n .lf (some tz419) .lf)) (some tz99) (.n (.n .lf (some tz355) .lf) (some tz227) .lf))) (some tz19) (.n (.n (.n (.n .lf (some tz275) .lf) (some tz147) (.n .lf (some tz403) .lf)) (some tz83) (.n (.n .lf (some tz339) .lf) (some tz211) .lf)) (some tz51) (.n (.n (.n .lf (some tz307) .lf) (some tz179) (.n .lf (some tz435) .lf)) none (.n (.n .lf (some tz371) .lf) (some tz243) .lf)))) (some tz11) (.n (.n (.n (.n (.n .lf (some tz267) .lf) (some tz139) (.n .lf (some tz395) .lf)) (some tz75) (.n (.n .lf (some tz331) .lf) (some tz203) (.n .lf (some tz459) .lf))) (some tz43) (.n (.n (.n .lf (some tz299) .lf) (some tz171) (.n .lf (some tz427) .lf)) (some tz107) (.n (.n .lf (some tz363) .lf) (some tz235) .lf))) (some tz27) (.n (.n (.n (.n .lf (some tz283) .lf) (some tz155) (.n .lf (some tz411) .lf)) (some tz91) (.n (.n .lf (some tz347) .lf) (some tz219) .lf)) (some tz59) (.n (.n (.n .lf (some tz315) .lf) (some tz187) (.n .lf (some tz443) .lf)) (some tz123) (.n (.n .lf (some tz379) .lf) (some tz251) .lf)))))) (some tz1) (.n (.n (.n (.n (.n (.n (.n .lf (some tz257) .lf) none (.n .lf (some tz385) .lf)) (some tz65) (.n (.n .lf (some tz321) .lf) (some tz193) (.n .lf (some tz449) .lf))) (some tz33) (.n (.n (.n .lf (some tz289) .lf) (some tz161) (.n .lf (some tz417) .lf)) none (.n (.n .lf (some tz353) .lf) (some tz225) .lf))) (some tz17) (.n (.n (.n (.n .lf (some tz273) .lf) (some tz145) (.n .lf (some tz401) .lf)) (some tz81) (.n (.n .lf (some tz337) .lf) (some tz209) (.n .lf (some tz465) .lf))) (some tz49) (.n (.n (.n .lf (some tz305) .lf) (some tz177) (.n .lf (some tz433) .lf)) (some tz113) (.n (.n .lf (some tz369) .lf) (some tz241) .lf)))) (some tz9) (.n (.n (.n (.n (.n .lf (some tz265) .lf) (some tz137) (.n .lf (some tz393) .lf)) (some tz73) (.n (.n .lf (some tz329) .lf) (some tz201) (.n .lf (some tz457) .lf))) (some tz41) (.n (.n (.n .lf (some tz297) .lf) (some tz169) (.n .lf (some tz425) .lf)) (some tz105) (.n (.n .lf (some tz361) .lf) (some tz233) .lf))) (some tz25) (.n (.n (.n (.n .lf (some tz281) .lf) (some tz153) (.n .lf (some tz409) .lf)) (some tz89) (.n (.n .lf (some tz345) .lf) none .lf)) (some tz57) (.n (.n (.n .lf (some tz313) .lf) (some tz185) (.n .lf (some tz441) .lf)) none (.n (.n .lf (some tz377) .lf) (some tz249) .lf))))) (some tz5) (.n (.n (.n (.n (.n .lf (some tz133) (.n .lf (some tz389) .lf)) (some tz69) (.n (.n .lf (some tz325) .lf) (some tz197) (.n .lf (some tz453) .lf))) none (.n (.n (.n .lf (some tz293) .lf) (some tz165) (.n .lf (some tz421) .lf)) (some tz101) (.n (.n .lf (some tz357) .lf) (some tz229) .lf))) (some tz21) (.n (.n (.n (.n .lf (some tz277) .lf) (some tz149) (.n .lf (some tz405) .lf)) (some tz85) (.n (.n .lf (some tz341) .lf) none .lf)) (some tz53) (.n (.n (.n .lf (some tz309) .lf) (some tz181) (.n .lf (some tz437) .lf)) (some tz117) (.n (.n .lf (some tz373) .lf) (some tz245) .lf)))) (some tz13) (.n (.n (.n (.n (.n .lf (some tz269) .lf) (some tz141) (.n .lf (some tz397) .lf)) (some tz77) (.n (.n .lf (some tz333) .lf) (some tz205) (.n .lf (some tz461) .lf))) (some tz45) (.n (.n (.n .lf (some tz301) .lf) none (.n .lf (some tz429) .lf)) (some tz109) (.n (.n .lf (some tz365) .lf) (some tz237) .lf))) (some tz29) (.n (.n (.n (.n .lf (some tz285) .lf) (some tz157) (.n .lf (some tz413) .lf)) (some tz93) (.n (.n .lf (some tz349) .lf) (some tz221) .lf)) (some tz61) (.n (.n (.n .lf (some tz317) .lf) (some tz189) (.n .lf (some tz445) .lf)) (some tz125) (.n (.n .lf (some tz381) .lf) (some tz253) .lf))))))) none (.n (.n (.n (.n (.n (.n (.n .lf (some tz128) (.n .lf (some tz384) .lf)) (some tz64) (.n (.n .lf (some tz320) .lf) (some tz192) (.n .lf (some tz448) .lf))) (some tz32) (.n (.n (.n .lf (some tz288) .lf) (some tz160) .lf) (some tz96) (.n (.n .lf (some tz352) .lf) (some tz224) .lf))) (some tz16) (.n (.n (.n (.n .lf (some tz272) .lf) (some tz144) (.n .lf (some tz400) .lf)) (some tz80) (.n (.n .lf (some tz336) .lf) (some tz208) (.n .lf (some tz464) .lf))) (some tz48) (.n (.n (.n .lf (some tz304) .lf) none (.n .lf (some tz432) .lf)) (some tz112) (.n (.n .lf (some tz368) .lf) (some tz240) .lf)))) (some tz8) (.n (.n (.n (.n (.n .lf (some tz264) .lf) (some tz136) (.n .lf (some tz392) .lf)) none (.n (.n .lf (some tz328) .lf) (some tz200) (.n .lf (some tz456) .lf))) (some tz40) (.n (.n (.n .lf (some tz296) .lf) (some tz168) (.n .lf (some tz424) .lf)) (some tz104) (.n (.n .lf (some tz360) .lf) (some tz232) .lf))) (some tz24) (.n (.n (.n (.n .lf (some tz280) .lf) (some tz152) (.n .lf (some tz408) .lf)) (some tz88) (.n (.n .lf (some tz344) .lf) (some tz216) .lf)) (some tz56) (.n (.n (.n .lf (some tz312) .lf) (some tz184) (.n .lf (some tz440) .lf)) (some tz120) (.n .lf (some tz248) .lf))))) (some tz4) (.n (.n (.n (.n (.n (.n .lf (some tz260) .lf) none (.n .lf (some tz388) .lf)) (some tz68) (.n (.n .lf (some tz324) .lf) (some tz196) (.n .lf (some tz452) .lf))) (some tz36) (.n (.n (.n .lf (some tz292) .lf) (some tz164) (.n .lf (some tz420) .lf)) (some tz100) (.n (.n .lf (some tz356) .lf) (some tz228) .lf))) (some tz20) (.n (.n (.n (.n .lf (some tz276) .lf) (some tz148) (.n .lf (some tz404) .lf)) (some tz84) (.n (.n .lf (some tz340) .lf) (some tz212) .lf)) (some tz52) (.n (.n (.n .lf (some tz308) .lf) (some tz180) (.n .lf (some tz436) .lf)) (some tz116) (.n (.n .lf (some tz372) .lf) (some tz244) .lf)))) (some tz12) (.n (.n (.n (.n (.n .lf (some tz268) .lf) (some tz140) (.n .lf (some tz396) .lf)) (some tz76) (.n (.n .lf (some tz332) .lf) (some tz204) (.n .lf (some tz460) .lf))) (some tz44) (.n (.n (.n .lf (some tz300) .lf) (some tz172) (.n .lf (some tz428) .lf)) (some tz108) (.n (.n .lf (some tz364) .lf) (some tz236) .lf))) (some tz28) (.n (.n (.n (.n .lf (some tz284) .lf) (some tz156) (.n .lf (some tz412) .lf)) (some tz92) (.n (.n .lf (some tz348) .lf) (some tz220) .lf)) (some tz60) (.n (.n (.n .lf (some tz316) .lf) (some tz188) (.n .lf (some tz444) .lf)) (some tz124) (.n (.n .lf (some tz380) .lf) (some tz252) .lf)))))) (some tz2) (.n (.n (.n (.n (.n (.n (.n .lf (some tz258) .lf) (some tz130) (.n .lf (some tz386) .lf)) (some tz66) (.n (.n .lf (some tz322) .lf) (some tz194) (.n .lf (some tz450) .lf))) (some tz34) (.n (.n (.n .lf (some tz290) .lf) none (.n .lf (some tz418) .lf)) (some tz98) (.n (.n .lf (some tz354) .lf) (some tz226) .lf))) (some tz18) (.n (.n (.n (.n .lf (some tz274) .lf) (some tz146) (.n .lf (some tz402) .lf)) (some tz82) (.n (.n .lf (some tz338) .lf) (some tz210) (.n .lf (some tz466) .lf))) (some tz50) (.n (.n (.n .lf (some tz306) .lf) (some tz178) .lf) (some tz114) (.n (.n .lf (some tz370) .lf) (some tz242) .lf)))) (some tz10) (.n (.n (.n (.n (.n .lf (some tz266) .lf) (some tz138) (.n .lf (some tz394) .lf)) (some tz74) (.n (.n .lf (some tz330) .lf) (some tz202) (.n .lf (some tz458) .lf))) (some tz42) (.n (.n (.n .lf (some tz298) .lf) (some tz170) .lf) (some tz106) (.n (.n .lf (some tz362) .lf) (some tz234) .lf))) (some tz26) (.n (.n (.n (.n .lf (some tz282) .lf) (some tz154) (.n .lf (some tz410) .lf)) (some tz90) (.n (.n .lf (some tz346) .lf) (some tz218) .lf)) none (.n (.n (.n .lf (some tz314) .lf) (some tz186) .lf) (some tz122) (.n .lf (some tz250) .lf))))) (some tz6) (.n (.n (.n (.n (.n (.n .lf (some tz262) .lf) (some tz134) (.n .lf (some tz390) .lf)) (some tz70) (.n (.n .lf (some tz326) .lf) (some tz198) (.n .lf (some tz454) .lf))) (some tz38) (.n (.n (.n .lf (some tz294) .lf) (some tz166) (.n .lf (some tz422) .lf)) (some tz102) (.n (.n .lf (some tz358) .lf) (some tz230) .lf))) (some tz22) (.n (.n (.n (.n .lf (some tz278) .lf) (some tz150) (.n .lf (some tz406) .lf)) (some tz86) (.n (.n .lf (some tz342) .lf) (some tz214) .lf)) (some tz54) (.n (.n (.n .lf (some tz310) .lf) (some tz182) (.n .lf (some tz438) .lf)) (some tz118) (.n (.n .lf (some tz374) .lf) (some tz246) .lf)))) (some tz14) (.n (.n (.n (.n (.n .lf (some tz270) .lf) (some tz142) (.n .lf (some tz398) .lf)) (some tz78) (.n (.n .lf (some tz334) .lf) (some tz206) (.n .lf (some tz462) .lf))) (some tz46) (.n (.n (.n .lf (some tz302) .lf) (some tz174) (.n .lf (some tz430) .lf)) (some tz110) (.n (.n .lf (some tz366) .lf) (some tz238) .lf))) (some tz30) (.n (.n (.n (.n .lf (some tz286) .lf) (some tz158) (.n .lf (some tz414) .lf)) (some tz94) (.n (.n .lf (some tz350) .lf) (some tz222) .lf)) (some tz62) (.n (.n (.n .lf (some tz318) .lf) none (.n .lf (some tz446) .lf)) (some tz126) (.n (.n .lf (some tz382) .lf) (some tz254) .lf))))))))
theorem tT_ok : TA tT.get T := TA_of (by kernel_rfl)
noncomputable def tF : Tr FE := (.n (.n (.n (.n (.n (.n (.n (.n .lf (some (.fn Tryz.f127)) .lf) (some (.fn Tryz.f63)) (.n .lf (some (.fn Tryz.f191)) .lf)) (some (.fn Tryz.f31)) (.n .lf (some (.fn Tryz.f95)) (.n (.n .lf (some (.fn Tryz.f351)) .lf) none .lf))) none (.n (.n (.n (.n .lf (some (.fn Tryz.f271)) .lf) (some (.fn Tryz.f143)) .lf) (some (.fn Tryz.f79)) .lf) (some (.fn Tryz.f47)) (.n (.n (.n .lf (some (.fn Tryz.f303)) .lf) none .lf) (some (.fn Tryz.f111)) (.n (.n .lf (some (.fn Tryz.f367)) .lf) (some (.fn Tryz.f239)) .lf)))) none (.n (.n (.n (.n .lf (some (.fn Tryz.f135)) .lf) (some (.fn Tryz.f71)) (.n (.n .lf (some (.fn Tryz.f327)) .lf) none .lf)) (some (.fn Tryz.f39)) (.n (.n .lf (some (.fn Tryz.f167)) .lf) none (.n .lf (some (.fn Tryz.f231)) .lf))) none (.n (.n (.n (.n .lf (some (.fn Tryz.f279)) .lf) (some (.fn Tryz.f151)) .lf) (some (.fn Tryz.f87)) (.n .lf (some (.fn Tryz.f215)) .lf)) (some (.fn Tryz.f55)) (.n .lf (some (.fn Tryz.f119)) (.n (.n .lf (some (.fn Tryz.f375)) .lf) (some (.fn Tryz.f247)) .lf))))) none (.n (.n (.n (.n (.n (.n .lf (some (.fn Tryz.f259)) .lf) (some (.fn Tryz.f131)) .lf) (some (.fn Tryz.f67)) (.n .lf (some (.fn Tryz.f195)) .lf)) (some (.fn Tryz.f35)) (.n (.n .lf (some (.fn Tryz.f163)) .lf) (some (.fn Tryz.f99)) (.n .lf (some (.fn Tryz.f227)) .lf))) none (.n (.n (.n .lf (some (.fn Tryz.f147)) .lf) (some (.fn Tryz.f83)) (.n .lf (some (.fn Tryz.f211)) .lf)) none (.n .lf (some (.fn Tryz.f115)) .lf))) none (.n (.n (.n (.n (.n .lf (some (.fn Tryz.f267)) .lf) none .lf) none (.n .lf (some (.fn Tryz.f203)) .lf)) (some (.fn Tryz.f43)) (.n (.n .lf (some (.fn Tryz.f171)) .lf) (some (.fn Tryz.f107)) .lf)) none (.n (.n .lf (some (.fn Tryz.f91)) .lf) (some (.fn Tryz.f59)) (.n .lf (some (.fn Tryz.f123)) .lf))))) none (.n (.n (.n (.n (.n (.n .lf (some (.fn Tryz.f129)) .lf) (some (.fn Tryz.f65)) (.n .lf (some (.fn Tryz.f193)) .lf)) none (.n (.n .lf (some (.fn Tryz.f161)) .lf) none (.n (.n .lf (some (.fn Tryz.f353)) .lf) (some (.fn Tryz.f225)) .lf))) none (.n (.n (.n .lf (some (.fn Tryz.f145)) .lf) (some (.fn Tryz.f81)) .lf) (some (.fn Tryz.f49)) (.n .lf (some (.fn Tryz.f113)) (.n .lf (some (.fn Tryz.f241)) .lf)))) none (.n (.n (.n (.n (.n .lf (some (.fn Tryz.f265)) .lf) (some (.fn Tryz.f137)) .lf) (some (.fn Tryz.f73)) (.n (.n .lf (some (.fn Tryz.f329)) .lf) (some (.fn Tryz.f201)) .lf)) (some (.fn Tryz.f41)) (.n (.n .lf (some (.fn Tryz.f169)) .lf) (some (.fn Tryz.f105)) (.n .lf (some (.fn Tryz.f233)) .lf))) none (.n (.n (.n .lf (some (.fn Tryz.f153)) .lf) (some (.fn Tryz.f89)) (.n .lf (some (.fn Tryz.f217)) .lf)) none (.n .lf none (.n (.n .lf (some (.fn Tryz.f377)) .lf) none .lf))))) none (.n (.n (.n (.n (.n (.n .lf (some (.fn Tryz.f261)) .lf) (some (.fn Tryz.f133)) .lf) (some (.fn Tryz.f69)) (.n (.n .lf (some (.fn Tryz.f325)) .lf) none .lf)) (some (.fn Tryz.f37)) (.n (.n (.n .lf (some (.fn Tryz.f293)) .lf) (some (.fn Tryz.f165)) .lf) none (.n .lf (some (.fn Tryz.f229)) .lf))) none (.n (.n (.n .lf (some (.fn Tryz.f149)) .lf) (some (.fn Tryz.f85)) (.n .lf (some (.fn Tryz.f213)) .lf)) (some (.fn Tryz.f53)) (.n .lf (some (.fn Tryz.f117)) (.n .lf (some (.fn Tryz.f245)) .lf)))) none (.n (.n (.n (.n (.n .lf (some (.fn Tryz.f269)) .lf) (some (.fn Tryz.f141)) .lf) (some (.fn Tryz.f77)) (.n .lf (some (.fn Tryz.f205)) .lf)) none (.n .lf (some (.fn Tryz.f109)) .lf)) none (.n (.n (.n (.n .lf (some (.fn Tryz.f285)) .lf) none .lf) (some (.fn Tryz.f93)) .lf) (some (.fn Tryz.f61)) (.n .lf (some (.fn Tryz.f125)) (.n .lf (some (.fn Tryz.f253)) .lf))))))) none (.n (.n (.n (.n (.n (.n .lf (some (.fn Tryz.f64)) (.n .lf (some (.fn Tryz.f192)) .lf)) (some (.fn Tryz.f32)) (.n (.n (.n .lf (some (.fn Tryz.f288)) .lf) (some (.fn Tryz.f160)) .lf) (some (.fn Tryz.f96)) (.n (.n .lf (some (.fn Tryz.f352)) .lf) (some (.fn Tryz.f224)) .lf))) none (.n (.n (.n (.n .lf (some (.fn Tryz.f272)) .lf) (some (.fn Tryz.f144)) .lf) (some (.fn Tryz.f80)) (.n .lf (some (.fn Tryz.f208)) .lf)) (some (.fn Tryz.f48)) (.n .lf (some (.fn Tryz.f112)) .lf))) (some (.fn Tryz.f8)) (.n (.n (.n (.n (.n .lf (some (.fn Tryz.f264)) .lf) (some (.fn Tryz.f136)) .lf) (some (.fn Tryz.f72)) (.n (.n .lf (some (.fn Tryz.f328)) .lf) (some (.fn Tryz.f200)) .lf)) (some (.fn Tryz.f40)) (.n (.n .lf (some (.fn Tryz.f168)) .lf) (some (.fn Tryz.f104)) (.n .lf (some (.fn Tryz.f232)) .lf))) none (.n (.n (.n .lf (some (.fn Tryz.f152)) .lf) (some (.fn Tryz.f88)) (.n .lf (some (.fn Tryz.f216)) .lf)) (some (.fn Tryz.f56)) (.n (.n (.n .lf (some (.fn Tryz.f312)) .lf) none .lf) (some (.fn Tryz.f120)) .lf)))) none (.n (.n (.n (.n (.n (.n .lf (some (.fn Tryz.f260)) .lf) (some (.fn Tryz.f132)) .lf) (some (.fn Tryz.f68)) (.n (.n .lf (some (.fn Tryz.f324)) .lf) (some (.fn Tryz.f196)) .lf)) (some (.fn Tryz.f36)) (.n .lf none (.n .lf (some (.fn Tryz.f228)) .lf))) none (.n (.n (.n .lf (some (.fn Tryz.f148)) .lf) (some (.fn Tryz.f84)) (.n .lf (some (.fn Tryz.f212)) .lf)) none (.n (.n .lf (some (.fn Tryz.f180)) .lf) (some (.fn Tryz.f116)) .lf))) (some (.fn Tryz.f12)) (.n (.n (.n (.n (.n .lf (some (.fn Tryz.f268)) .lf) (some (.fn Tryz.f140)) .lf) none (.n .lf (some (.fn Tryz.f204)) .lf)) (some (.fn Tryz.f44)) (.n (.n .lf (some (.fn Tryz.f172)) .lf) (some (.fn Tryz.f108)) .lf)) none (.n (.n (.n (.n .lf (some (.fn Tryz.f284)) .lf) none .lf) (some (.fn Tryz.f92)) (.n .lf (some (.fn Tryz.f220)) .lf)) (some (.fn Tryz.f60)) (.n .lf (some (.fn Tryz.f124)) .lf))))) none (.n (.n (.n (.n (.n (.n (.n .lf (some (.fn Tryz.f258)) .lf) (some (.fn Tryz.f130)) .lf) (some (.fn Tryz.f66)) (.n .lf (some (.fn Tryz.f194)) .lf)) none .lf) none (.n (.n (.n (.n .lf (some (.fn Tryz.f274)) .lf) (some (.fn Tryz.f146)) .lf) (some (.fn Tryz.f82)) .lf) (some (.fn Tryz.f50)) (.n (.n (.n .lf (some (.fn Tryz.f306)) .lf) (some (.fn Tryz.f178)) .lf) (some (.fn Tryz.f114)) .lf))) (some (.fn Tryz.f10)) (.n (.n (.n (.n (.n .lf (some (.fn Tryz.f266)) .lf) (some (.fn Tryz.f138)) .lf) (some (.fn Tryz.f74)) (.n .lf (some (.fn Tryz.f202)) .lf)) (some (.fn Tryz.f42)) (.n .lf (some (.fn Tryz.f106)) (.n .lf (some (.fn Tryz.f234)) .lf))) none (.n (.n (.n (.n .lf (some (.fn Tryz.f282)) .lf) (some (.fn Tryz.f154)) .lf) (some (.fn Tryz.f90)) (.n .lf (some (.fn Tryz.f218)) .lf)) (some (.fn Tryz.f58)) (.n (.n .lf (some (.fn Tryz.f186)) .lf) (some (.fn Tryz.f122)) (.n .lf (some (.fn Tryz.f250)) .lf))))) none (.n (.n (.n (.n (.n (.n .lf (some (.fn Tryz.f262)) .lf) none .lf) (some (.fn Tryz.f70)) (.n .lf (some (.fn Tryz.f198)) .lf)) (some (.fn Tryz.f38)) (.n (.n (.n .lf (some (.fn Tryz.f294)) .lf) (some (.fn Tryz.f166)) .lf) none (.n .lf (some (.fn Tryz.f230)) .lf))) (some (.fn Tryz.f22)) (.n (.n (.n (.n .lf (some (.fn Tryz.f278)) .lf) (some (.fn Tryz.f150)) .lf) (some (.fn Tryz.f86)) (.n .lf (some (.fn Tryz.f214)) .lf)) none (.n .lf (some (.fn Tryz.f118)) (.n .lf (some (.fn Tryz.f246)) .lf)))) (some (.fn Tryz.f14)) (.n (.n (.n (.n (.n .lf (some (.fn Tryz.f270)) .lf) (some (.fn Tryz.f142)) .lf) none (.n (.n .lf (some (.fn Tryz.f334)) .lf) (some (.fn Tryz.f206)) .lf)) (some (.fn Tryz.f46)) (.n .lf (some (.fn Tryz.f110)) (.n (.n .lf (some (.fn Tryz.f366)) .lf) (some (.fn Tryz.f238)) .lf))) none (.n (.n .lf (some (.fn Tryz.f94)) (.n (.n .lf (some (.fn Tryz.f350)) .lf) none .lf)) (some (.fn Tryz.f62)) (.n (.n .lf (some (.fn Tryz.f190)) .lf) (some (.fn Tryz.f126)) .lf)))))))
theorem fn8_ok : FnOk Tryz.prog 8 Tryz.f8 := ⟨Tryz.func8, by kernel_rfl⟩
theorem fn10_ok : FnOk Tryz.prog 10 Tryz.f10 := ⟨Tryz.func10, by kernel_rfl⟩
theorem fn12_ok : FnOk Tryz.prog 12 Tryz.f12 := ⟨Tryz.func12, by kernel_rfl⟩
theorem fn14_ok : FnOk Tryz.prog 14 Tryz.f14 := ⟨Tryz.func14, by kernel_rfl⟩
theorem fn22_ok : FnOk Tryz.prog 22 Tryz.f22 := ⟨Tryz.func22, by kernel_rfl⟩
theorem fn31_ok : FnOk Tryz.prog 31 Tryz.f31 := ⟨Tryz.func31, by kernel_rfl⟩
theorem fn32_ok : FnOk Tryz.prog 32 Tryz.f32 := ⟨Tryz.func32, by kernel_rfl⟩
theorem fn35_ok : FnOk Tryz.prog 35 Tryz.f35 := ⟨Tryz.func35, by kernel_rfl⟩
theorem fn36_ok : FnOk Tryz.prog 36 Tryz.f36 := ⟨Tryz.func36, by kernel_rfl⟩
theorem fn37_ok : FnOk Tryz.prog 37 Tryz.f37 := ⟨Tryz.func37, by kernel_rfl⟩
theorem fn38_ok : FnOk Tryz.prog 38 Tryz.f38 := ⟨Tryz.func38, by kernel_rfl⟩
theorem fn39_ok : FnOk Tryz.prog 39 Tryz.f39 := ⟨Tryz.func39, by kernel_rfl⟩
theorem fn40_ok : FnOk Tryz.prog 40 Tryz.f40 := ⟨Tryz.func40, by kernel_rfl⟩
theorem fn41_ok : FnOk Tryz.prog 41 Tryz.f41 := ⟨Tryz.func41, by kernel_rfl⟩
theorem fn42_ok : FnOk Tryz.prog 42 Tryz.f42 := ⟨Tryz.func42, by kernel_rfl⟩
theorem fn43_ok : FnOk Tryz.prog 43 Tryz.f43 := ⟨Tryz.func43, by kernel_rfl⟩
theorem fn44_ok : FnOk Tryz.prog 44 Tryz.f44 := ⟨Tryz.func44, by kernel_rfl⟩
theorem fn46_ok : FnOk Tryz.prog 46 Tryz.f46 := ⟨Tryz.func46, by kernel_rfl⟩
theorem fn47_ok : FnOk Tryz.prog 47 Tryz.f47 := ⟨Tryz.func47, by kernel_rfl⟩
theorem fn48_ok : FnOk Tryz.prog 48 Tryz.f48 := ⟨Tryz.func48, by kernel_rfl⟩
theorem fn49_ok : FnOk Tryz.prog 49 Tryz.f49 := ⟨Tryz.func49, by kernel_rfl⟩
theorem fn50_ok : FnOk Tryz.prog 50 Tryz.f50 := ⟨Tryz.func50, by kernel_rfl⟩
theorem fn53_ok : FnOk Tryz.prog 53 Tryz.f53 := ⟨Tryz.func53, by kernel_rfl⟩
theorem fn55_ok : FnOk Tryz.prog 55 Tryz.f55 := ⟨Tryz.func55, by kernel_rfl⟩
theorem fn56_ok : FnOk Tryz.prog 56 Tryz.f56 := ⟨Tryz.func56, by kernel_rfl⟩
theorem fn58_ok : FnOk Tryz.prog 58 Tryz.f58 := ⟨Tryz.func58, by kernel_rfl⟩
theorem fn59_ok : FnOk Tryz.prog 59 Tryz.f59 := ⟨Tryz.func59, by kernel_rfl⟩
theorem fn60_ok : FnOk Tryz.prog 60 Tryz.f60 := ⟨Tryz.func60, by kernel_rfl⟩
theorem fn61_ok : FnOk Tryz.prog 61 Tryz.f61 := ⟨Tryz.func61, by kernel_rfl⟩
theorem fn62_ok : FnOk Tryz.prog 62 Tryz.f62 := ⟨Tryz.func62, by kernel_rfl⟩
theorem fn63_ok : FnOk Tryz.prog 63 Tryz.f63 := ⟨Tryz.func63, by kernel_rfl⟩
theorem fn64_ok : FnOk Tryz.prog 64 Tryz.f64 := ⟨Tryz.func64, by kernel_rfl⟩
theorem fn65_ok : FnOk Tryz.prog 65 Tryz.f65 := ⟨Tryz.func65, by kernel_rfl⟩
theorem fn66_ok : FnOk Tryz.prog 66 Tryz.f66 := ⟨Tryz.func66, by kernel_rfl⟩
theorem fn67_ok : FnOk Tryz.prog 67 Tryz.f67 := ⟨Tryz.func67, by kernel_rfl⟩
theorem fn68_ok : FnOk Tryz.prog 68 Tryz.f68 := ⟨Tryz.func68, by kernel_rfl⟩
theorem fn69_ok : FnOk Tryz.prog 69 Tryz.f69 := ⟨Tryz.func69, by kernel_rfl⟩
theorem fn70_ok : FnOk Tryz.prog 70 Tryz.f70 := ⟨Tryz.func70, by kernel_rfl⟩
theorem fn71_ok : FnOk Tryz.prog 71 Tryz.f71 := ⟨Tryz.func71, by kernel_rfl⟩
theorem fn72_ok : FnOk Tryz.prog 72 Tryz.f72 := ⟨Tryz.func72, by kernel_rfl⟩
theorem fn73_ok : FnOk Tryz.prog 73 Tryz.f73 := ⟨Tryz.func73, by kernel_rfl⟩
theorem fn74_ok : FnOk Tryz.prog 74 Tryz.f74 := ⟨Tryz.func74, by kernel_rfl⟩
theorem fn77_ok : FnOk Tryz.prog 77 Tryz.f77 := ⟨Tryz.func77, by kernel_rfl⟩
theorem fn79_ok : FnOk Tryz.prog 79 Tryz.f79 := ⟨Tryz.func79, by kernel_rfl⟩
theorem fn80_ok : FnOk Tryz.prog 80 Tryz.f80 := ⟨Tryz.func80, by kernel_rfl⟩
theorem fn81_ok : FnOk Tryz.prog 81 Tryz.f81 := ⟨Tryz.func81, by kernel_rfl⟩
theorem fn82_ok : FnOk Tryz.prog 82 Tryz.f82 := ⟨Tryz.func82, by kernel_rfl⟩
theorem fn83_ok : FnOk Tryz.prog 83 Tryz.f83 := ⟨Tryz.func83, by kernel_rfl⟩
theorem fn84_ok : FnOk Tryz.prog 84 Tryz.f84 := ⟨Tryz.func84, by kernel_rfl⟩
theorem fn85_ok : FnOk Tryz.prog 85 Tryz.f85 := ⟨Tryz.func85, by kernel_rfl⟩
theorem fn86_ok : FnOk Tryz.prog 86 Tryz.f86 := ⟨Tryz.func86, by kernel_rfl⟩
theorem fn87_ok : FnOk Tryz.prog 87 Tryz.f87 := ⟨Tryz.func87, by kernel_rfl⟩
theorem fn88_ok : FnOk Tryz.prog 88 Tryz.f88 := ⟨Tryz.func88, by kernel_rfl⟩
theorem fn89_ok : FnOk Tryz.prog 89 Tryz.f89 := ⟨Tryz.func89, by kernel_rfl⟩
theorem fn90_ok : FnOk Tryz.prog 90 Tryz.f90 := ⟨Tryz.func90, by kernel_rfl⟩
theorem fn91_ok : FnOk Tryz.prog 91 Tryz.f91 := ⟨Tryz.func91, by kernel_rfl⟩
theorem fn92_ok : FnOk Tryz.prog 92 Tryz.f92 := ⟨Tryz.func92, by kernel_rfl⟩
theorem fn93_ok : FnOk Tryz.prog 93 Tryz.f93 := ⟨Tryz.func93, by kernel_rfl⟩
theorem fn94_ok : FnOk Tryz.prog 94 Tryz.f94 := ⟨Tryz.func94, by kernel_rfl⟩
theorem fn95_ok : FnOk Tryz.prog 95 Tryz.f95 := ⟨Tryz.func95, by kernel_rfl⟩
theorem fn96_ok : FnOk Tryz.prog 96 Tryz.f96 := ⟨Tryz.func96, by kernel_rfl⟩
theorem fn99_ok : FnOk Tryz.prog 99 Tryz.f99 := ⟨Tryz.func99, by kernel_rfl⟩
theorem fn104_ok : FnOk Tryz.prog 104 Tryz.f104 := ⟨Tryz.func104, by kernel_rfl⟩
theorem fn105_ok : FnOk Tryz.prog 105 Tryz.f105 := ⟨Tryz.func105, by kernel_rfl⟩
theorem fn106_ok : FnOk Tryz.prog 106 Tryz.f106 := ⟨Tryz.func106, by kernel_rfl⟩
theorem fn107_ok : FnOk Tryz.prog 107 Tryz.f107 := ⟨Tryz.func107, by kernel_rfl⟩
theorem fn108_ok : FnOk Tryz.prog 108 Tryz.f108 := ⟨Tryz.func108, by kernel_rfl⟩
theorem fn109_ok : FnOk Tryz.prog 109 Tryz.f109 := ⟨Tryz.func109, by kernel_rfl⟩
theorem fn110_ok : FnOk Tryz.prog 110 Tryz.f110 := ⟨Tryz.func110, by kernel_rfl⟩
theorem fn111_ok : FnOk Tryz.prog 111 Tryz.f111 := ⟨Tryz.func111, by kernel_rfl⟩
theorem fn112_ok : FnOk Tryz.prog 112 Tryz.f112 := ⟨Tryz.func112, by kernel_rfl⟩
theorem fn113_ok : FnOk Tryz.prog 113 Tryz.f113 := ⟨Tryz.func113, by kernel_rfl⟩
theorem fn114_ok : FnOk Tryz.prog 114 Tryz.f114 := ⟨Tryz.func114, by kernel_rfl⟩
theorem fn115_ok : FnOk Tryz.prog 115 Tryz.f115 := ⟨Tryz.func115, by kernel_rfl⟩
theorem fn116_ok : FnOk Tryz.prog 116 Tryz.f116 := ⟨Tryz.func116, by kernel_rfl⟩
theorem fn117_ok : FnOk Tryz.prog 117 Tryz.f117 := ⟨Tryz.func117, by kernel_rfl⟩
theorem fn118_ok : FnOk Tryz.prog 118 Tryz.f118 := ⟨Tryz.func118, by kernel_rfl⟩
theorem fn119_ok : FnOk Tryz.prog 119 Tryz.f119 := ⟨Tryz.func119, by kernel_rfl⟩
theorem fn120_ok : FnOk Tryz.prog 120 Tryz.f120 := ⟨Tryz.func120, by kernel_rfl⟩
theorem fn122_ok : FnOk Tryz.prog 122 Tryz.f122 := ⟨Tryz.func122, by kernel_rfl⟩
theorem fn123_ok : FnOk Tryz.prog 123 Tryz.f123 := ⟨Tryz.func123, by kernel_rfl⟩
theorem fn124_ok : FnOk Tryz.prog 124 Tryz.f124 := ⟨Tryz.func124, by kernel_rfl⟩
theorem fn125_ok : FnOk Tryz.prog 125 Tryz.f125 := ⟨Tryz.func125, by kernel_rfl⟩
theorem fn126_ok : FnOk Tryz.prog 126 Tryz.f126 := ⟨Tryz.func126, by kernel_rfl⟩
theorem fn127_ok : FnOk Tryz.prog 127 Tryz.f127 := ⟨Tryz.func127, by kernel_rfl⟩
theorem fn129_ok : FnOk Tryz.prog 129 Tryz.f129 := ⟨Tryz.func129, by kernel_rfl⟩
theorem fn130_ok : FnOk Tryz.prog 130 Tryz.f130 := ⟨Tryz.func130, by kernel_rfl⟩
theorem fn131_ok : FnOk Tryz.prog 131 Tryz.f131 := ⟨Tryz.func131, by kernel_rfl⟩
theorem fn132_ok : FnOk Tryz.prog 132 Tryz.f132 := ⟨Tryz.func132, by kernel_rfl⟩
theorem fn133_ok : FnOk Tryz.prog 133 Tryz.f133 := ⟨Tryz.func133, by kernel_rfl⟩
theorem fn135_ok : FnOk Tryz.prog 135 Tryz.f135 := ⟨Tryz.func135, by kernel_rfl⟩
theorem fn136_ok : FnOk Tryz.prog 136 Tryz.f136 := ⟨Tryz.func136, by kernel_rfl⟩
theorem fn137_ok : FnOk Tryz.prog 137 Tryz.f137 := ⟨Tryz.func137, by kernel_rfl⟩
theorem fn138_ok : FnOk Tryz.prog 138 Tryz.f138 := ⟨Tryz.func138, by kernel_rfl⟩
theorem fn140_ok : FnOk Tryz.prog 140 Tryz.f140 := ⟨Tryz.func140, by kernel_rfl⟩
theorem fn141_ok : FnOk Tryz.prog 141 Tryz.f141 := ⟨Tryz.func141, by kernel_rfl⟩
theorem fn142_ok : FnOk Tryz.prog 142 Tryz.f142 := ⟨Tryz.func142, by kernel_rfl⟩
theorem fn143_ok : FnOk Tryz.prog 143 Tryz.f143 := ⟨Tryz.func143, by kernel_rfl⟩
theorem fn144_ok : FnOk Tryz.prog 144 Tryz.f144 := ⟨Tryz.func144, by kernel_rfl⟩
theorem fn145_ok : FnOk Tryz.prog 145 Tryz.f145 := ⟨Tryz.func145, by kernel_rfl⟩
theorem fn146_ok : FnOk Tryz.prog 146 Tryz.f146 := ⟨Tryz.func146, by kernel_rfl⟩
theorem fn147_ok : FnOk Tryz.prog 147 Tryz.f147 := ⟨Tryz.func147, by kernel_rfl⟩
theorem fn148_ok : FnOk Tryz.prog 148 Tryz.f148 := ⟨Tryz.func148, by kernel_rfl⟩
theorem fn149_ok : FnOk Tryz.prog 149 Tryz.f149 := ⟨Tryz.func149, by kernel_rfl⟩
theorem fn150_ok : FnOk Tryz.prog 150 Tryz.f150 := ⟨Tryz.func150, by kernel_rfl⟩
theorem fn151_ok : FnOk Tryz.prog 151 Tryz.f151 := ⟨Tryz.func151, by kernel_rfl⟩
theorem fn152_ok : FnOk Tryz.prog 152 Tryz.f152 := ⟨Tryz.func152, by kernel_rfl⟩
theorem fn153_ok : FnOk Tryz.prog 153 Tryz.f153 := ⟨Tryz.func153, by kernel_rfl⟩
theorem fn154_ok : FnOk Tryz.prog 154 Tryz.f154 := ⟨Tryz.func154, by kernel_rfl⟩
theorem fn160_ok : FnOk Tryz.prog 160 Tryz.f160 := ⟨Tryz.func160, by kernel_rfl⟩
theorem fn161_ok : FnOk Tryz.prog 161 Tryz.f161 := ⟨Tryz.func161, by kernel_rfl⟩
theorem fn163_ok : FnOk Tryz.prog 163 Tryz.f163 := ⟨Tryz.func163, by kernel_rfl⟩
theorem fn165_ok : FnOk Tryz.prog 165 Tryz.f165 := ⟨Tryz.func165, by kernel_rfl⟩
theorem fn166_ok : FnOk Tryz.prog 166 Tryz.f166 := ⟨Tryz.func166, by kernel_rfl⟩
theorem fn167_ok : FnOk Tryz.prog 167 Tryz.f167 := ⟨Tryz.func167, by kernel_rfl⟩
theorem fn168_ok : FnOk Tryz.prog 168 Tryz.f168 := ⟨Tryz.func168, by kernel_rfl⟩
theorem fn169_ok : FnOk Tryz.prog 169 Tryz.f169 := ⟨Tryz.func169, by kernel_rfl⟩
theorem fn171_ok : FnOk Tryz.prog 171 Tryz.f171 := ⟨Tryz.func171, by kernel_rfl⟩
theorem fn172_ok : FnOk Tryz.prog 172 Tryz.f172 := ⟨Tryz.func172, by kernel_rfl⟩
theorem fn178_ok : FnOk Tryz.prog 178 Tryz.f178 := ⟨Tryz.func178, by kernel_rfl⟩
theorem fn180_ok : FnOk Tryz.prog 180 Tryz.f180 := ⟨Tryz.func180, by kernel_rfl⟩
theorem fn186_ok : FnOk Tryz.prog 186 Tryz.f186 := ⟨Tryz.func186, by kernel_rfl⟩
theorem fn190_ok : FnOk Tryz.prog 190 Tryz.f190 := ⟨Tryz.func190, by kernel_rfl⟩
theorem fn191_ok : FnOk Tryz.prog 191 Tryz.f191 := ⟨Tryz.func191, by kernel_rfl⟩
theorem fn192_ok : FnOk Tryz.prog 192 Tryz.f192 := ⟨Tryz.func192, by kernel_rfl⟩
theorem fn193_ok : FnOk Tryz.prog 193 Tryz.f193 := ⟨Tryz.func193, by kernel_rfl⟩
theorem fn194_ok : FnOk Tryz.prog 194 Tryz.f194 := ⟨Tryz.func194, by kernel_rfl⟩
theorem fn195_ok : FnOk Tryz.prog 195 Tryz.f195 := ⟨Tryz.func195, by kernel_rfl⟩
theorem fn196_ok : FnOk Tryz.prog 196 Tryz.f196 := ⟨Tryz.func196, by kernel_rfl⟩
theorem fn198_ok : FnOk Tryz.prog 198 Tryz.f198 := ⟨Tryz.func198, by kernel_rfl⟩
theorem fn200_ok : FnOk Tryz.prog 200 Tryz.f200 := ⟨Tryz.func200, by kernel_rfl⟩
theorem fn201_ok : FnOk Tryz.prog 201 Tryz.f201 := ⟨Tryz.func201, by kernel_rfl⟩
theorem fn202_ok : FnOk Tryz.prog 202 Tryz.f202 := ⟨Tryz.func202, by kernel_rfl⟩
theorem fn203_ok : FnOk Tryz.prog 203 Tryz.f203 := ⟨Tryz.func203, by kernel_rfl⟩
theorem fn204_ok : FnOk Tryz.prog 204 Tryz.f204 := ⟨Tryz.func204, by kernel_rfl⟩
theorem fn205_ok : FnOk Tryz.prog 205 Tryz.f205 := ⟨Tryz.func205, by kernel_rfl⟩
theorem fn206_ok : FnOk Tryz.prog 206 Tryz.f206 := ⟨Tryz.func206, by kernel_rfl⟩
theorem fn208_ok : FnOk Tryz.prog 208 Tryz.f208 := ⟨Tryz.func208, by kernel_rfl⟩
theorem fn211_ok : FnOk Tryz.prog 211 Tryz.f211 := ⟨Tryz.func211, by kernel_rfl⟩
theorem fn212_ok : FnOk Tryz.prog 212 Tryz.f212 := ⟨Tryz.func212, by kernel_rfl⟩
theorem fn213_ok : FnOk Tryz.prog 213 Tryz.f213 := ⟨Tryz.func213, by kernel_rfl⟩
theorem fn214_ok : FnOk Tryz.prog 214 Tryz.f214 := ⟨Tryz.func214, by kernel_rfl⟩
theorem fn215_ok : FnOk Tryz.prog 215 Tryz.f215 := ⟨Tryz.func215, by kernel_rfl⟩
theorem fn216_ok : FnOk Tryz.prog 216 Tryz.f216 := ⟨Tryz.func216, by kernel_rfl⟩
theorem fn217_ok : FnOk Tryz.prog 217 Tryz.f217 := ⟨Tryz.func217, by kernel_rfl⟩
theorem fn218_ok : FnOk Tryz.prog 218 Tryz.f218 := ⟨Tryz.func218, by kernel_rfl⟩
theorem fn220_ok : FnOk Tryz.prog 220 Tryz.f220 := ⟨Tryz.func220, by kernel_rfl⟩
theorem fn224_ok : FnOk Tryz.prog 224 Tryz.f224 := ⟨Tryz.func224, by kernel_rfl⟩
theorem fn225_ok : FnOk Tryz.prog 225 Tryz.f225 := ⟨Tryz.func225, by kernel_rfl⟩
theorem fn227_ok : FnOk Tryz.prog 227 Tryz.f227 := ⟨Tryz.func227, by kernel_rfl⟩
theorem fn228_ok : FnOk Tryz.prog 228 Tryz.f228 := ⟨Tryz.func228, by kernel_rfl⟩
theorem fn229_ok : FnOk Tryz.prog 229 Tryz.f229 := ⟨Tryz.func229, by kernel_rfl⟩
theorem fn230_ok : FnOk Tryz.prog 230 Tryz.f230 := ⟨Tryz.func230, by kernel_rfl⟩
theorem fn231_ok : FnOk Tryz.prog 231 Tryz.f231 := ⟨Tryz.func231, by kernel_rfl⟩
theorem fn232_ok : FnOk Tryz.prog 232 Tryz.f232 := ⟨Tryz.func232, by kernel_rfl⟩
theorem fn233_ok : FnOk Tryz.prog 233 Tryz.f233 := ⟨Tryz.func233, by kernel_rfl⟩
theorem fn234_ok : FnOk Tryz.prog 234 Tryz.f234 := ⟨Tryz.func234, by kernel_rfl⟩
theorem fn238_ok : FnOk Tryz.prog 238 Tryz.f238 := ⟨Tryz.func238, by kernel_rfl⟩
theorem fn239_ok : FnOk Tryz.prog 239 Tryz.f239 := ⟨Tryz.func239, by kernel_rfl⟩
theorem fn241_ok : FnOk Tryz.prog 241 Tryz.f241 := ⟨Tryz.func241, by kernel_rfl⟩
theorem fn245_ok : FnOk Tryz.prog 245 Tryz.f245 := ⟨Tryz.func245, by kernel_rfl⟩
theorem fn246_ok : FnOk Tryz.prog 246 Tryz.f246 := ⟨Tryz.func246, by kernel_rfl⟩
theorem fn247_ok : FnOk Tryz.prog 247 Tryz.f247 := ⟨Tryz.func247, by kernel_rfl⟩
theorem fn250_ok : FnOk Tryz.prog 250 Tryz.f250 := ⟨Tryz.func250, by kernel_rfl⟩
theorem fn253_ok : FnOk Tryz.prog 253 Tryz.f253 := ⟨Tryz.func253, by kernel_rfl⟩
theorem fn258_ok : FnOk Tryz.prog 258 Tryz.f258 := ⟨Tryz.func258, by kernel_rfl⟩
theorem fn259_ok : FnOk Tryz.prog 259 Tryz.f259 := ⟨Tryz.func259, by kernel_rfl⟩
theorem fn260_ok : FnOk Tryz.prog 260 Tryz.f260 := ⟨Tryz.func260, by kernel_rfl⟩
theorem fn261_ok : FnOk Tryz.prog 261 Tryz.f261 := ⟨Tryz.func261, by kernel_rfl⟩
theorem fn262_ok : FnOk Tryz.prog 262 Tryz.f262 := ⟨Tryz.func262, by kernel_rfl⟩
theorem fn264_ok : FnOk Tryz.prog 264 Tryz.f264 := ⟨Tryz.func264, by kernel_rfl⟩
theorem fn265_ok : FnOk Tryz.prog 265 Tryz.f265 := ⟨Tryz.func265, by kernel_rfl⟩
theorem fn266_ok : FnOk Tryz.prog 266 Tryz.f266 := ⟨Tryz.func266, by kernel_rfl⟩
theorem fn267_ok : FnOk Tryz.prog 267 Tryz.f267 := ⟨Tryz.func267, by kernel_rfl⟩
theorem fn268_ok : FnOk Tryz.prog 268 Tryz.f268 := ⟨Tryz.func268, by kernel_rfl⟩
theorem fn269_ok : FnOk Tryz.prog 269 Tryz.f269 := ⟨Tryz.func269, by kernel_rfl⟩
theorem fn270_ok : FnOk Tryz.prog 270 Tryz.f270 := ⟨Tryz.func270, by kernel_rfl⟩
theorem fn271_ok : FnOk Tryz.prog 271 Tryz.f271 := ⟨Tryz.func271, by kernel_rfl⟩
theorem fn272_ok : FnOk Tryz.prog 272 Tryz.f272 := ⟨Tryz.func272, by kernel_rfl⟩
theorem fn274_ok : FnOk Tryz.prog 274 Tryz.f274 := ⟨Tryz.func274, by kernel_rfl⟩
theorem fn278_ok : FnOk Tryz.prog 278 Tryz.f278 := ⟨Tryz.func278, by kernel_rfl⟩
theorem fn279_ok : FnOk Tryz.prog 279 Tryz.f279 := ⟨Tryz.func279, by kernel_rfl⟩
theorem fn282_ok : FnOk Tryz.prog 282 Tryz.f282 := ⟨Tryz.func282, by kernel_rfl⟩
theorem fn284_ok : FnOk Tryz.prog 284 Tryz.f284 := ⟨Tryz.func284, by kernel_rfl⟩
theorem fn285_ok : FnOk Tryz.prog 285 Tryz.f285 := ⟨Tryz.func285, by kernel_rfl⟩
theorem fn288_ok : FnOk Tryz.prog 288 Tryz.f288 := ⟨Tryz.func288, by kernel_rfl⟩
theorem fn293_ok : FnOk Tryz.prog 293 Tryz.f293 := ⟨Tryz.func293, by kernel_rfl⟩
theorem fn294_ok : FnOk Tryz.prog 294 Tryz.f294 := ⟨Tryz.func294, by kernel_rfl⟩
theorem fn303_ok : FnOk Tryz.prog 303 Tryz.f303 := ⟨Tryz.func303, by kernel_rfl⟩
theorem fn306_ok : FnOk Tryz.prog 306 Tryz.f306 := ⟨Tryz.func306, by kernel_rfl⟩
theorem fn312_ok : FnOk Tryz.prog 312 Tryz.f312 := ⟨Tryz.func312, by kernel_rfl⟩
theorem fn324_ok : FnOk Tryz.prog 324 Tryz.f324 := ⟨Tryz.func324, by kernel_rfl⟩
theorem fn325_ok : FnOk Tryz.prog 325 Tryz.f325 := ⟨Tryz.func325, by kernel_rfl⟩
theorem fn327_ok : FnOk Tryz.prog 327 Tryz.f327 := ⟨Tryz.func327, by kernel_rfl⟩
theorem fn328_ok : FnOk Tryz.prog 328 Tryz.f328 := ⟨Tryz.func328, by kernel_rfl⟩
theorem fn329_ok : FnOk Tryz.prog 329 Tryz.f329 := ⟨Tryz.func329, by kernel_rfl⟩
theorem fn334_ok : FnOk Tryz.prog 334 Tryz.f334 := ⟨Tryz.func334, by kernel_rfl⟩
theorem fn350_ok : FnOk Tryz.prog 350 Tryz.f350 := ⟨Tryz.func350, by kernel_rfl⟩
theorem fn351_ok : FnOk Tryz.prog 351 Tryz.f351 := ⟨Tryz.func351, by kernel_rfl⟩
theorem fn352_ok : FnOk Tryz.prog 352 Tryz.f352 := ⟨Tryz.func352, by kernel_rfl⟩
theorem fn353_ok : FnOk Tryz.prog 353 Tryz.f353 := ⟨Tryz.func353, by kernel_rfl⟩
theorem fn366_ok : FnOk Tryz.prog 366 Tryz.f366 := ⟨Tryz.func366, by kernel_rfl⟩
theorem fn367_ok : FnOk Tryz.prog 367 Tryz.f367 := ⟨Tryz.func367, by kernel_rfl⟩
theorem fn375_ok : FnOk Tryz.prog 375 Tryz.f375 := ⟨Tryz.func375, by kernel_rfl⟩
theorem fn377_ok : FnOk Tryz.prog 377 Tryz.f377 := ⟨Tryz.func377, by kernel_rfl⟩
theorem tF_ok : FA Tryz.prog tT.get tF.get := FA_of ⟨trivial, ⟨trivial, ⟨trivial, ⟨trivial, ⟨trivial, ⟨fn31_ok, ⟨fn63_ok, ⟨fn127_ok, trivial, trivial⟩, ⟨fn191_ok, trivial, trivial⟩⟩, ⟨fn95_ok, trivial, ⟨trivial, ⟨fn351_ok, trivial, trivial⟩, trivial⟩⟩⟩, ⟨fn47_ok, ⟨fn79_ok, ⟨fn143_ok, ⟨fn271_ok, trivial, trivial⟩, trivial⟩, trivial⟩, ⟨fn111_ok, ⟨trivial, ⟨fn303_ok, trivial, trivial⟩, trivial⟩, ⟨fn239_ok, ⟨fn367_ok, trivial, trivial⟩, trivial⟩⟩⟩⟩, ⟨trivial, ⟨fn39_ok, ⟨fn71_ok, ⟨fn135_ok, trivial, trivial⟩, ⟨trivial, ⟨fn327_ok, trivial, trivial⟩, trivial⟩⟩, ⟨trivial, ⟨fn167_ok, trivial, trivial⟩, ⟨fn231_ok, trivial, trivial⟩⟩⟩, ⟨fn55_ok, ⟨fn87_ok, ⟨fn151_ok, ⟨fn279_ok, trivial, trivial⟩, trivial⟩, ⟨fn215_ok, trivial, trivial⟩⟩, ⟨fn119_ok, trivial, ⟨fn247_ok, ⟨fn375_ok, trivial, trivial⟩, trivial⟩⟩⟩⟩⟩, ⟨trivial, ⟨trivial, ⟨fn35_ok, ⟨fn67_ok, ⟨fn131_ok, ⟨fn259_ok, trivial, trivial⟩, trivial⟩, ⟨fn195_ok, trivial, trivial⟩⟩, ⟨fn99_ok, ⟨fn163_ok, trivial, trivial⟩, ⟨fn227_ok, trivial, trivial⟩⟩⟩, ⟨trivial, ⟨fn83_ok, ⟨fn147_ok, trivial, trivial⟩, ⟨fn211_ok, trivial, trivial⟩⟩, ⟨fn115_ok, trivial, trivial⟩⟩⟩, ⟨trivial, ⟨fn43_ok, ⟨trivial, ⟨trivial, ⟨fn267_ok, trivial, trivial⟩, trivial⟩, ⟨fn203_ok, trivial, trivial⟩⟩, ⟨fn107_ok, ⟨fn171_ok, trivial, trivial⟩, trivial⟩⟩, ⟨fn59_ok, ⟨fn91_ok, trivial, trivial⟩, ⟨fn123_ok, trivial, trivial⟩⟩⟩⟩⟩, ⟨trivial, ⟨trivial, ⟨trivial, ⟨trivial, ⟨fn65_ok, ⟨fn129_ok, trivial, trivial⟩, ⟨fn193_ok, trivial, trivial⟩⟩, ⟨trivial, ⟨fn161_ok, trivial, trivial⟩, ⟨fn225_ok, ⟨fn353_ok, trivial, trivial⟩, trivial⟩⟩⟩, ⟨fn49_ok, ⟨fn81_ok, ⟨fn145_ok, trivial, trivial⟩, trivial⟩, ⟨fn113_ok, trivial, ⟨fn241_ok, trivial, trivial⟩⟩⟩⟩, ⟨trivial, ⟨fn41_ok, ⟨fn73_ok, ⟨fn137_ok, ⟨fn265_ok, trivial, trivial⟩, trivial⟩, ⟨fn201_ok, ⟨fn329_ok, trivial, trivial⟩, trivial⟩⟩, ⟨fn105_ok, ⟨fn169_ok, trivial, trivial⟩, ⟨fn233_ok, trivial, trivial⟩⟩⟩, ⟨trivial, ⟨fn89_ok, ⟨fn153_ok, trivial, trivial⟩, ⟨fn217_ok, trivial, trivial⟩⟩, ⟨trivial, trivial, ⟨trivial, ⟨fn377_ok, trivial, trivial⟩, trivial⟩⟩⟩⟩⟩, ⟨trivial, ⟨trivial, ⟨fn37_ok, ⟨fn69_ok, ⟨fn133_ok, ⟨fn261_ok, trivial, trivial⟩, trivial⟩, ⟨trivial, ⟨fn325_ok, trivial, trivial⟩, trivial⟩⟩, ⟨trivial, ⟨fn165_ok, ⟨fn293_ok, trivial, trivial⟩, trivial⟩, ⟨fn229_ok, trivial, trivial⟩⟩⟩, ⟨fn53_ok, ⟨fn85_ok, ⟨fn149_ok, trivial, trivial⟩, ⟨fn213_ok, trivial, trivial⟩⟩, ⟨fn117_ok, trivial, ⟨fn245_ok, trivial, trivial⟩⟩⟩⟩, ⟨trivial, ⟨trivial, ⟨fn77_ok, ⟨fn141_ok, ⟨fn269_ok, trivial, trivial⟩, trivial⟩, ⟨fn205_ok, trivial, trivial⟩⟩, ⟨fn109_ok, trivial, trivial⟩⟩, ⟨fn61_ok, ⟨fn93_ok, ⟨trivial, ⟨fn285_ok, trivial, trivial⟩, trivial⟩, trivial⟩, ⟨fn125_ok, trivial, ⟨fn253_ok, trivial, trivial⟩⟩⟩⟩⟩⟩⟩, ⟨trivial, ⟨trivial, ⟨fn8_ok, ⟨trivial, ⟨fn32_ok, ⟨fn64_ok, trivial, ⟨fn192_ok, trivial, trivial⟩⟩, ⟨fn96_ok, ⟨fn160_ok, ⟨fn288_ok, trivial, trivial⟩, trivial⟩, ⟨fn224_ok, ⟨fn352_ok, trivial, trivial⟩, trivial⟩⟩⟩, ⟨fn48_ok, ⟨fn80_ok, ⟨fn144_ok, ⟨fn272_ok, trivial, trivial⟩, trivial⟩, ⟨fn208_ok, trivial, trivial⟩⟩, ⟨fn112_ok, trivial, trivial⟩⟩⟩, ⟨trivial, ⟨fn40_ok, ⟨fn72_ok, ⟨fn136_ok, ⟨fn264_ok, trivial, trivial⟩, trivial⟩, ⟨fn200_ok, ⟨fn328_ok, trivial, trivial⟩, trivial⟩⟩, ⟨fn104_ok, ⟨fn168_ok, trivial, trivial⟩, ⟨fn232_ok, trivial, trivial⟩⟩⟩, ⟨fn56_ok, ⟨fn88_ok, ⟨fn152_ok, trivial, trivial⟩, ⟨fn216_ok, trivial, trivial⟩⟩, ⟨fn120_ok, ⟨trivial, ⟨fn312_ok, trivial, trivial⟩, trivial⟩, trivial⟩⟩⟩⟩, ⟨fn12_ok, ⟨trivial, ⟨fn36_ok, ⟨fn68_ok, ⟨fn132_ok, ⟨fn260_ok, trivial, trivial⟩, trivial⟩, ⟨fn196_ok, ⟨fn324_ok, trivial, trivial⟩, trivial⟩⟩, ⟨trivial, trivial, ⟨fn228_ok, trivial, trivial⟩⟩⟩, ⟨trivial, ⟨fn84_ok, ⟨fn148_ok, trivial, trivial⟩, ⟨fn212_ok, trivial, trivial⟩⟩, ⟨fn116_ok, ⟨fn180_ok, trivial, trivial⟩, trivial⟩⟩⟩, ⟨trivial, ⟨fn44_ok, ⟨trivial, ⟨fn140_ok, ⟨fn268_ok, trivial, trivial⟩, trivial⟩, ⟨fn204_ok, trivial, trivial⟩⟩, ⟨fn108_ok, ⟨fn172_ok, trivial, trivial⟩, trivial⟩⟩, ⟨fn60_ok, ⟨fn92_ok, ⟨trivial, ⟨fn284_ok, trivial, trivial⟩, trivial⟩, ⟨fn220_ok, trivial, trivial⟩⟩, ⟨fn124_ok, trivial, trivial⟩⟩⟩⟩⟩, ⟨trivial, ⟨fn10_ok, ⟨trivial, ⟨trivial, ⟨fn66_ok, ⟨fn130_ok, ⟨fn258_ok, trivial, trivial⟩, trivial⟩, ⟨fn194_ok, trivial, trivial⟩⟩, trivial⟩, ⟨fn50_ok, ⟨fn82_ok, ⟨fn146_ok, ⟨fn274_ok, trivial, trivial⟩, trivial⟩, trivial⟩, ⟨fn114_ok, ⟨fn178_ok, ⟨fn306_ok, trivial, trivial⟩, trivial⟩, trivial⟩⟩⟩, ⟨trivial, ⟨fn42_ok, ⟨fn74_ok, ⟨fn138_ok, ⟨fn266_ok, trivial, trivial⟩, trivial⟩, ⟨fn202_ok, trivial, trivial⟩⟩, ⟨fn106_ok, trivial, ⟨fn234_ok, trivial, trivial⟩⟩⟩, ⟨fn58_ok, ⟨fn90_ok, ⟨fn154_ok, ⟨fn282_ok, trivial, trivial⟩, trivial⟩, ⟨fn218_ok, trivial, trivial⟩⟩, ⟨fn122_ok, ⟨fn186_ok, trivial, trivial⟩, ⟨fn250_ok, trivial, trivial⟩⟩⟩⟩⟩, ⟨fn14_ok, ⟨fn22_ok, ⟨fn38_ok, ⟨fn70_ok, ⟨trivial, ⟨fn262_ok, trivial, trivial⟩, trivial⟩, ⟨fn198_ok, trivial, trivial⟩⟩, ⟨trivial, ⟨fn166_ok, ⟨fn294_ok, trivial, trivial⟩, trivial⟩, ⟨fn230_ok, trivial, trivial⟩⟩⟩, ⟨trivial, ⟨fn86_ok, ⟨fn150_ok, ⟨fn278_ok, trivial, trivial⟩, trivial⟩, ⟨fn214_ok, trivial, trivial⟩⟩, ⟨fn118_ok, trivial, ⟨fn246_ok, trivial, trivial⟩⟩⟩⟩, ⟨trivial, ⟨fn46_ok, ⟨trivial, ⟨fn142_ok, ⟨fn270_ok, trivial, trivial⟩, trivial⟩, ⟨fn206_ok, ⟨fn334_ok, trivial, trivial⟩, trivial⟩⟩, ⟨fn110_ok, trivial, ⟨fn238_ok, ⟨fn366_ok, trivial, trivial⟩, trivial⟩⟩⟩, ⟨fn62_ok, ⟨fn94_ok, trivial, ⟨trivial, ⟨fn350_ok, trivial, trivial⟩, trivial⟩⟩, ⟨fn126_ok, ⟨fn190_ok, trivial, trivial⟩, trivial⟩⟩⟩⟩⟩⟩⟩
end Go.Proofs.YtegmololhnipiaaGreatDoor
