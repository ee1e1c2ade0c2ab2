/- A region whose order is drawn: several writes, in any order, and all steps together. Conditions: none. -/
import Derived.Test.YtkejidpdoglahaaGreatDoorEvZ
namespace Go.Ev
open Go.Lx Go.RowKit

section
variable {P : Program} {tT : TT} {T : Tab P}

theorem quiet_h {cx : Cx} {o : Oper} {r : Operand → Option Value} {fz : FZ} {H : HP} {v : Value} (h : Quiet P cx o r fz [] v) : Quiet P cx o r fz H v := fun ρ w hr hi => h ρ w hr (hi.forget (List.nil_sublist _))
/-- some of the group have run; W: those that have not -/
structure MS (P : Program) (tT : TT) (all : List Oper) (σA veF envF : Tr AV) (hF : Tr AO) (pendA FA : Pn) (us rF : List (Nat × Oper)) (ν : Nu) (ve0 : Env) (Fm : HP) (W : List GE) (h : Tr AO) (H : HP) (ve τ : Env) (pend : Pend) (pA : Pn) (kept : List (Nat × Oper)) : Prop where
  hr : HR tT ν h H Fm
  ch : ∀ id, Ch id (h.get id) W (hF.get id)
  pw : W.Pairwise fun x y => ∀ id o1 p1 o2 p2, x.2 = .st id o1 p1 → y.2 = .st id o2 p2 → waits y.1.2 x.1.1 = true
  gi : ∀ e ∈ W, ∃ veT : Tr AV, (∀ i a, veT.get i = some a → veF.get i = some a) ∧ GI P tT all σA veT pendA e.1 e.2
  ext : VExt ve0 ve
  no : ∀ e ∈ W, lk ve e.1.1 = none
  val : ∀ i, (∀ e ∈ W, e.1.1 ≠ i) → (∀ a, veF.get i = some a → ∃ v, gv ν a = some v ∧ lk ve i = some v) ∧ (veF.get i = none → lk ve i = none)
  vw : ∀ e ∈ W, veF.get e.1.1 = some e.2.val
  tau : ∀ t, (∀ e ∈ W, e.1.2.dst ≠ some t) → ∀ a, envF.get t = some a → ∃ v, gv ν a = some v ∧ lk τ t = some v
  ew : ∀ e ∈ W, ∀ d, e.1.2.dst = some d → envF.get d = some e.2.val
  dw : W.Pairwise fun x y => ∀ d, x.1.2.dst = some d → y.1.2.dst ≠ some d
  pr : PR ν h pA pend
  pf : pA.filter (fun q => W.all fun e => !waits e.1.2 q.1) = FA
  ps : ∀ z ∈ pA, z ∈ pendA
  kn : (kept.map Prod.fst).Nodup
  kw : ∀ e ∈ W, e.1 ∈ kept ∧ fk e.1.2 = false ∧ e.1 ∈ us
  kf : kept.filter (fun p => !hasP (W.map fun e => e.1) p.1) = rF

theorem pw_mid {α : Type} {R : α → α → Prop} {W1 W2 : List α} {e : α} (h : (W1 ++ e :: W2).Pairwise R) : (∀ x ∈ W1, R x e) ∧ (∀ x ∈ W2, R e x) ∧ (W1 ++ W2).Pairwise R := by
  rw [List.pairwise_append] at h
  obtain ⟨h1, h2, h3⟩ := h
  rw [List.pairwise_cons] at h2
  exact ⟨fun x hx => h3 x hx e (by simp), h2.1, List.pairwise_append.2 ⟨h1, h2.2, fun a ha b hb => h3 a ha b (by simp [hb])⟩⟩
/-- memory behind one of the group -/
def gkUpd (h : Tr AO) (k : GK) (h' : Tr AO) : Prop := match k with
  | .st id _ o' => h.upd id (some o') h'
  | .qt _ => h' = h
theorem MS.step {all : List Oper} {σA veF envF : Tr AV} {hF : Tr AO} {pendA FA : Pn} {us rF : List (Nat × Oper)} {ν : Nu} {ve0 : Env} {Fm : HP} {W1 W2 : List GE} {e : GE} {h h' : Tr AO} {H H' : HP} {ve τ : Env} {pend : Pend} {pA : Pn} {kept : List (Nat × Oper)} {v : Value}
    (m : MS P tT all σA veF envF hF pendA FA us rF ν ve0 Fm (W1 ++ e :: W2) h H ve τ pend pA kept) (hu : gkUpd h e.2 h') (hh : HR tT ν h' H' Fm) (hv : gv ν e.2.val = some v) (hidx : ∀ x ∈ W1 ++ W2, x.1.1 ≠ e.1.1) (hun : ∀ x ∈ W1 ++ e :: W2, waits e.1.2 x.1.1 = false) :
    MS P tT all σA veF envF hF pendA FA us rF ν ve0 Fm (W1 ++ W2) h' H' ((e.1.1, v) :: ve) (putT e.1.2.dst v τ) (leftOver pend e.1.2) (leftP pA e.1.2) (rm e.1.1 kept) := by
  have hmem : ∀ x, x ∈ W1 ++ W2 → x ∈ W1 ++ e :: W2 := fun x hx => by
    rcases List.mem_append.1 hx with h | h <;> simp [h]
  have hee : e ∈ W1 ++ e :: W2 := by simp
  have hin : ∀ x, x ∈ W1 ++ e :: W2 → x = e ∨ x ∈ W1 ++ W2 := fun x hx => by
    have := (List.perm_middle (a := e) (l₁ := W1) (l₂ := W2)).subset hx
    cases this with
    | head => exact .inl rfl
    | tail _ h => exact .inr h
  obtain ⟨pw1, pw2, pw3⟩ := pw_mid m.pw
  obtain ⟨dw1, dw2, dw3⟩ := pw_mid m.dw
  have hW1 : ∀ id o o', e.2 = .st id o o' → ∀ x ∈ W1, notSt id x.2 := fun id o o' he x hx p p' hxp => by
    have h1 := pw1 x hx id p p' o o' hxp he
    rw [hun x (by simp [hx])] at h1; cases h1
  refine ⟨hh, fun id => ?_, pw3, fun x hx => m.gi x (hmem x hx), fun k u hk => ?_, fun x hx => ?_, fun i hi => ?_, fun x hx => m.vw x (hmem x hx), fun t ht a ha => ?_, fun x hx => m.ew x (hmem x hx), dw3, ?_, ?_, fun z hz => m.ps z (List.mem_filter.1 hz).1, ?_, fun x hx => ?_, ?_⟩
  · have hc := m.ch id
    cases he : e.2 with
    | st i o o' =>
      rw [he] at hu
      have hu' : h.upd i (some o') h' := hu
      by_cases hid : i = id
      · subst hid
        rw [hu', if_pos rfl]
        exact (Ch_pick he (hW1 i o o' he) hc).2
      · rw [hu', if_neg (fun hx => hid hx.symm)]
        exact Ch_other (fun p p' hx => by rw [he] at hx; injection hx with hx; exact hid hx) hc
    | qt a =>
      rw [he] at hu
      have hu' : h' = h := hu
      rw [hu']
      exact Ch_other (fun p p' hx => by rw [he] at hx; cases hx) hc
  · rw [lk_cons_ne _ _ (fun he => by
      have h1 := m.no e hee
      have h2 := m.ext k u hk
      rw [he, h2] at h1; cases h1)]
    exact m.ext k u hk
  · rw [lk_cons_ne _ _ (fun he => hidx x hx he.symm)]
    exact m.no x (hmem x hx)
  · by_cases hc : e.1.1 = i
    · subst hc
      rw [m.vw e hee]
      refine ⟨fun a ha => ?_, fun hn => by cases hn⟩
      injection ha with ha; subst ha
      exact ⟨v, hv, lk_cons_same _ _ _⟩
    · rw [lk_cons_ne _ _ hc]
      exact m.val i fun x hx => by
        rcases hin x hx with h | h
        · rw [h]; exact hc
        · exact hi x h
  · by_cases hc : e.1.2.dst = some t
    · rw [m.ew e hee t hc] at ha
      injection ha with ha; subst ha
      rw [hc]
      exact ⟨v, hv, lk_cons_same _ _ _⟩
    · obtain ⟨u, h1, h2⟩ := m.tau t (fun x hx => by
        rcases hin x hx with h | h
        · rw [h]; exact hc
        · exact ht x h) a ha
      refine ⟨u, h1, ?_⟩
      cases hd : e.1.2.dst with
      | none => exact h2
      | some d =>
        unfold putT
        rw [lk_cons_ne _ _ (fun he => hc (by rw [hd, he]))]
        exact h2
  · refine (m.pr.left (o := e.1.2)).move (Nu.le.refl _) fun z hz id hid o ho _ => ?_
    cases he : e.2 with
    | st i p p' =>
      rw [he] at hu
      have hu' : h.upd i (some p') h' := hu
      rw [hu' id]
      by_cases hc : id = i
      · subst hc
        rw [if_pos rfl]
        have hget := (Ch_pick he (hW1 id p p' he) (m.ch id)).1
        rw [ho] at hget; injection hget with hget
        obtain ⟨veT, _, hw⟩ := m.gi e hee
        rw [he] at hw
        obtain ⟨_, _, t, x, y, v, a, X, w, q, cs, _, _, _, _, _, _, _, _, _, _, hkeep⟩ := hw
        have hz' := List.mem_filter.1 hz
        rw [hkeep z (List.mem_filter.2 ⟨m.ps z hz'.1, hz'.2⟩) _ hid rfl, hget]
      · rw [if_neg hc]; exact ho
    | qt a =>
      rw [he] at hu
      have hu' : h' = h := hu
      rw [hu']; exact ho
  · rw [← m.pf]
    unfold leftP
    rw [List.filter_filter]
    congr 1
    funext q
    simp only [List.all_append, List.all_cons]
    cases waits e.1.2 q.1 <;> simp
  · unfold rm
    exact (List.filter_sublist.map _).nodup m.kn
  · obtain ⟨h1, h2, h3⟩ := m.kw x (hmem x hx)
    exact ⟨mem_rm.2 ⟨h1, hidx x hx⟩, h2, h3⟩
  · rw [← m.kf]
    unfold rm
    rw [List.filter_filter]
    congr 1
    funext p
    have h1 : hasP ((W1 ++ e :: W2).map fun e => e.1) p.1 = (Nat.beq e.1.1 p.1 || hasP ((W1 ++ W2).map fun e => e.1) p.1) := by
      unfold hasP
      simp only [List.map_append, List.map_cons, List.any_append, List.any_cons]
      cases Nat.beq e.1.1 p.1 <;> simp
    have hc : Nat.beq e.1.1 p.1 = Nat.beq p.1 e.1.1 := by
      rw [nbeq, nbeq]; simp [eq_comm]
    rw [h1, hc]
    cases Nat.beq p.1 e.1.1 <;> cases hasP ((W1 ++ W2).map fun e => e.1) p.1 <;> rfl

/-- what is known of the others -/
def RestM (tT : TT) (all : List Oper) (σA veA : Tr AV) (fls : List Nat) (us rF : List (Nat × Oper)) : Prop := ∀ p ∈ rF,
  (p.1 ∈ fls ∧ fk p.2 = true ∧ (∀ u ∈ us, waits p.2 u.1 = false) ∧ (flo (ox p.2.op) tT (rdD all p.1 p.2 σA veA)).isSome = true) ∨
  (p.1 ∉ fls ∧ ((∃ e ∈ p.2.after, Region.binds .any e = true ∧ veA.get e.on = none ∧ e.on ∉ fls ∧ ∀ u ∈ us, u.1 ≠ e.on) ∨ ∀ u ∈ us, waits p.2 u.1 = true ∧ u.1 ∉ fls))
theorem restM_s {all : List Oper} {σA veA : Tr AV} {fls : List Nat} {us rF : List (Nat × Oper)} (h : restM tT all σA veA fls us rF = true) : RestM tT all σA veA fls us rF := fun p hp => by
  have := List.all_eq_true.1 h p hp
  cases hn : hasN fls p.1 with
  | true =>
    rw [hn] at this
    simp only [Bool.and_eq_true, List.all_eq_true, Bool.not_eq_true'] at this
    exact .inl ⟨hasN_mem.1 hn, this.1, this.2.1, this.2.2⟩
  | false =>
    rw [hn] at this
    simp only [Bool.or_eq_true] at this
    refine .inr ⟨(fun hc => by rw [hasN_mem.2 hc] at hn; cases hn), ?_⟩
    rcases this with h1 | h1
    · obtain ⟨e, he, h2⟩ := List.any_eq_true.1 h1
      simp only [Bool.and_eq_true, Option.isNone_iff_eq_none, Bool.not_eq_true', Bool.or_eq_false_iff] at h2
      refine .inl ⟨e, by simpa using he, h2.1, h2.2.1, fun hc => ?_, hasP_no.1 h2.2.2.2⟩
      have := h2.2.2.1
      rw [hasN_mem.2 hc] at this; cases this
    · refine .inr fun u hu => ?_
      have h2 := List.all_eq_true.1 h1 u hu
      simp only [Bool.and_eq_true, Bool.not_eq_true'] at h2
      exact ⟨h2.1, fun hc => by rw [hasN_mem.2 hc] at h2; cases h2.2⟩

theorem many_s (hT : TA tT T) {cx : Cx} {fz : FZ} {Q : QQ} {m : Nat} {all : List Oper} {σA veA veF envF : Tr AV} {hF : Tr AO} {pendA FA : Pn} {us rF : List (Nat × Oper)} {ν : Nu} {σ ve0 : Env} {Fm : HP} {fls : List Nat} (hσ : ER ν σA σ)
    (hvF : ∀ i, (∀ u ∈ us, u.1 ≠ i) → veF.get i = veA.get i) (hflu : ∀ u ∈ us, u.1 ∉ fls) (hrest : RestM tT all σA veA fls us rF)
    (hend : ∀ H ve τ pend, VR ν veF ve → ER ν envF τ → PR ν hF FA pend → HR tT ν hF H Fm → Dr P cx all σ fk (flD P all σ) Q (m + 1) rF ve τ pend fz H) :
    ∀ (N : Nat) (W : List GE) (h : Tr AO) (H : HP) (ve τ : Env) (pend : Pend) (pA : Pn) (kept : List (Nat × Oper)), W.length = N → (W.map fun e => e.1.1).Nodup → MS P tT all σA veF envF hF pendA FA us rF ν ve0 Fm W h H ve τ pend pA kept →
      (W ≠ [] → KQ P cx all σ Q (m + W.length) fz H ve τ pend kept) ∧ Dr P cx all σ fk (flD P all σ) Q (m + 1 + W.length) kept ve τ pend fz H := by
  intro N
  induction N with
  | zero =>
    intro W h H ve τ pend pA kept hl _ s
    have hW : W = [] := List.eq_nil_of_length_eq_zero hl
    subst hW
    refine ⟨fun hc => absurd rfl hc, ?_⟩
    have hk : kept = rF := by
      rw [← s.kf]
      exact (List.filter_eq_self.2 (fun p _ => by simp [hasP])).symm
    have hpA : pA = FA := by
      rw [← s.pf]
      exact (List.filter_eq_self.2 (fun p _ => by simp)).symm
    have hget : ∀ id, hF.get id = h.get id := fun id => s.ch id
    subst hk hpA
    refine hend H ve τ pend ⟨fun i a ha => (s.val i (by simp)).1 a ha, fun i hi => (s.val i (by simp)).2 hi⟩ (fun t a ha => s.tau t (by simp) a ha) ?_ ?_
    · exact s.pr.move (Nu.le.refl _) fun _ _ id _ o ho _ => by rw [hget]; exact ho
    · exact ⟨fun id o ho => s.hr.own id o (by rw [← hget]; exact ho), fun id id' o o' b h1 h2 => s.hr.inj id id' o o' b (by rw [← hget]; exact h1) (by rw [← hget]; exact h2), fun p hp => ⟨(s.hr.fm p hp).1, fun id o ho => (s.hr.fm p hp).2 id o (by rw [← hget]; exact ho)⟩, fun id cs e j fr hq => s.hr.cap id cs e j fr (by rw [← hget]; exact hq)⟩
  | succ N ih =>
    intro W h H ve τ pend pA kept hl hwn s
    have hne : W ≠ [] := fun hc => by rw [hc] at hl; cases hl
    have hKQ : KQ P cx all σ Q (m + W.length) fz H ve τ pend kept := by
      obtain ⟨e0, he0⟩ : ∃ e0, e0 ∈ W := by
        cases W with
        | nil => exact absurd rfl hne
        | cons e r => exact ⟨e, by simp⟩
      -- one that is kept is one of the group, or of the others
      have hsplit : ∀ p ∈ kept, (∃ e ∈ W, e.1 = p) ∨ p ∈ rF := fun p hp => by
        cases hc : hasP (W.map fun e => e.1) p.1 with
        | true =>
          obtain ⟨u, hu, he⟩ := hasP_iff.1 hc
          obtain ⟨e, hew, rfl⟩ := List.mem_map.1 hu
          exact .inl ⟨e, hew, uniq_idx s.kn (s.kw e hew).1 hp he⟩
        | false =>
          refine .inr ?_
          rw [← s.kf]
          exact List.mem_filter.2 ⟨hp, by rw [hc]; rfl⟩
      have hstuck : ∀ p ∈ rF, p.1 ∉ fls → ∃ e ∈ p.2.after, Region.binds .any e = true ∧ lk ve e.on = none ∧ e.on ∉ fls := fun p hp hn => by
        rcases hrest p hp with h1 | ⟨_, h1 | h1⟩
        · exact absurd h1.1 hn
        · obtain ⟨e, he, k1, k2, k3, k4⟩ := h1
          refine ⟨e, he, k1, (s.val e.on fun x hx => k4 _ (s.kw x hx).2.2).2 ?_, k3⟩
          rw [hvF _ k4]
          exact k2
        · obtain ⟨k1, k2⟩ := h1 e0.1 (s.kw e0 he0).2.2
          obtain ⟨e, he, heb⟩ := List.any_eq_true.1 k1
          simp only [Bool.and_eq_true] at heb
          have hon := Nat.eq_of_beq_eq_true heb.1
          exact ⟨e, by simpa using he, heb.2, by rw [hon]; exact s.no e0 he0, by rw [hon]; exact k2⟩
      refine .inr (.inl ⟨⟨e0.1, (s.kw e0 he0).1, (s.kw e0 he0).2.1⟩, fls, ?_, fun p hp => ?_⟩)
      · refine clo_sub fun p hp hpf hpn => ?_
        rcases hsplit p hp with ⟨e, he, rfl⟩ | hp
        · rw [(s.kw e he).2.1] at hpf; cases hpf
        · exact hstuck p hp hpn
      · rcases hsplit p hp with ⟨e, he, rfl⟩ | hpr
        · by_cases hblk : ∃ x ∈ W, waits e.1.2 x.1.1 = true
          · obtain ⟨x, hx, hw⟩ := hblk
            obtain ⟨ed, hed, heb⟩ := List.any_eq_true.1 hw
            simp only [Bool.and_eq_true] at heb
            have hon := Nat.eq_of_beq_eq_true heb.1
            exact .inr (.inl (stuckBy_of ⟨ed, by simpa using hed, heb.2, by rw [hon]; exact s.no x hx, by rw [hon]; exact hflu _ (s.kw x hx).2.2⟩))
          · have hun : ∀ x ∈ W, waits e.1.2 x.1.1 = false := fun x hx => by
              cases hw : waits e.1.2 x.1.1 with
              | false => rfl
              | true => exact absurd ⟨x, hx, hw⟩ hblk
            obtain ⟨veT, hsubT, hgi⟩ := s.gi e he
            have hr : RR ν (rdQ all e.1.1 e.1.2 σA veT) (rdg all e.1.1 e.1.2 σ ve) := rdQ_rro hσ fun j hj a ha => by
              refine (s.val j fun x hx hc => ?_).1 a (hsubT j a ha)
              have := hun x hx
              rw [hc, hj] at this; cases this
            obtain ⟨W1, W2, rfl⟩ := List.append_of_mem he
            have hperm : (W1 ++ e :: W2).Perm (e :: (W1 ++ W2)) := List.perm_middle
            have hwn2 := (hperm.map fun e => e.1.1).nodup hwn
            simp only [List.map_cons, List.nodup_cons] at hwn2
            have hidx : ∀ x ∈ W1 ++ W2, x.1.1 ≠ e.1.1 := fun x hx hc => hwn2.1 (List.mem_map.2 ⟨x, hx, hc⟩)
            have hlen : (W1 ++ e :: W2).length = (W1 ++ W2).length + 1 := by simp; omega
            have hgo : ∀ (v : Value) (h' : Tr AO) (H' : HP), gkUpd h e.2 h' → HR tT ν h' H' Fm → gv ν e.2.val = some v → Le fz fz ∧ (∀ q ∈ leftOver pend e.1.2, ∀ b ∈ q.2, b ∈ H') ∧ Dr P cx all σ fk (flD P all σ) Q (m + (W1 ++ e :: W2).length) (rm e.1.1 kept) ((e.1.1, v) :: ve) (putT e.1.2.dst v τ) (leftOver pend e.1.2) fz H' := fun v h' H' hu hh hv => by
              have s' := s.step hu hh hv hidx hun
              obtain ⟨_, hd⟩ := ih (W1 ++ W2) h' H' _ _ _ _ _ (by omega) hwn2.2 s'
              exact ⟨Le.refl _, s'.pr.mem hh, Dr_mono (by omega) hd⟩
            cases hk : e.2 with
            | st id o o' =>
              rw [hk] at hgi
              have hwi : WI tT all σA veT pendA e.1 id o o' := hgi
              have hW1 : ∀ x ∈ W1, notSt id x.2 := fun x hx p p' hxp => by
                have h1 := (pw_mid s.pw).1 x hx id p p' o o' hxp hk
                rw [hun x (by simp [hx])] at h1; cases h1
              have hget := (Ch_pick hk hW1 (s.ch id)).1
              obtain ⟨h', hu⟩ := Tr.upd_ex h id (some o')
              have hdo := store_s (P := P) hT (cx := cx) (fz := fz) hwi hr s.hr hget hu
              have hw : wantq e.1.2 ve = some true := by unfold wantq; rw [hwi.2.1]
              refine .inr (.inr ⟨(s.kw e he).2.1, hw, DoesF_mono hdo fun v fz' H' ⟨e1, e2, e3⟩ => ?_⟩)
              subst e1 e2
              exact hgo undef h' H' (by rw [hk]; exact hu) e3 (by rw [hk]; simp [GK.val, gv, gvs, undef])
            | qt a =>
              rw [hk] at hgi
              obtain ⟨hg, f, hxs, hf⟩ := hgi
              obtain ⟨av, v, h1, h2, h3⟩ := hxs cx fz ν _ _ .lf [] [] _ e.1.2.dst e.1.2.type e.1.2.pos e.1.2.after e.1.2.guard hr ⟨(fun _ _ h => by cases h), (fun _ _ _ _ _ h => by cases h), by simp, (fun _ _ _ _ _ h => by cases h)⟩ hf
              have hav := avEq_iff _ _ h1
              subst hav
              have hw : wantq e.1.2 ve = some true := by unfold wantq; rw [hg]
              refine .inr (.inr ⟨(s.kw e he).2.1, hw, fun Hx => Does.of fun ρ w hρ hi => (quiet_h (H := Hx ++ H) h3 ρ w hρ hi).mono fun v' w' ⟨hv', hfr'⟩ => ⟨fz, Hx ++ H, hi.quiet hfr', H, rfl, ?_⟩⟩)
              rw [hv']
              exact hgo v h H (by rw [hk]; rfl) s.hr (by rw [hk]; exact h2)
        · rcases hrest p hpr with ⟨h1, h2, h3, h4⟩ | ⟨h1, _⟩
          · refine .inl ⟨h1, early_s hT hσ (fun j hj => ?_) h2 h4⟩
            have hj' : ∀ u ∈ us, u.1 ≠ j := fun u hu hc => by have := h3 u hu; rw [hc, hj] at this; cases this
            have hv := s.val j fun x hx => hj' _ (s.kw x hx).2.2
            rw [hvF j hj'] at hv
            exact hv
          · exact .inr (.inl (stuckBy_of (hstuck p hpr h1)))
    refine ⟨fun _ => hKQ, ?_⟩
    have := Dr_succ (NP_keep (P := P) (cx := cx) (l := all) (σ := σ) (fz := fz) (H := H) (K := KQ P cx all σ Q (m + W.length) fz H) kept [] (by simpa using hKQ))
    exact Dr_mono (by omega) this

theorem len_sub : ∀ {us l : List (Nat × Oper)}, (us.map Prod.fst).Nodup → (∀ u ∈ us, u ∈ l) → us.length ≤ l.length
  | [], _, _, _ => Nat.zero_le _
  | u :: r, l, hn, hs => by
    simp only [List.map_cons, List.nodup_cons] at hn
    obtain ⟨s, t, rfl⟩ := List.append_of_mem (hs u (by simp))
    have := len_sub (l := s ++ t) hn.2 fun x hx => by
      have h1 := hs x (by simp [hx])
      simp only [List.mem_append, List.mem_cons] at h1 ⊢
      rcases h1 with h | h | h
      · exact .inl h
      · subst h; exact absurd (List.mem_map.2 ⟨x, hx, rfl⟩) hn.1
      · exact .inr h
    simp at this ⊢
    omega
theorem pickG_s {ve : Tr AV} : ∀ {l acc : List (Nat × Oper)} {p : Nat × Oper}, p ∈ pickG ve l acc → p ∈ l ∨ p ∈ acc
  | [], acc, p, h => .inr h
  | q :: r, acc, p, h => by
    unfold pickG at h
    split at h
    · rcases pickG_s h with h | h
      · exact .inl (by simp [h])
      · rcases List.mem_append.1 h with h | h
        · exact .inr h
        · simp at h; subst h; exact .inl (by simp)
    · rcases pickG_s h with h | h
      · exact .inl (by simp [h])
      · exact .inr h
theorem sGrp_s {ih : IH} {n : Nat} {all : List Oper} {σA veA : Tr AV} {pendA : Pn} {kept : List (Nat × Oper)} {s : St} {k : CK} (hT : TA tT T)
    (hdr : ∀ all σA rem veA pendA kept s k, ih (.dr all σA rem veA pendA kept) s k = true → MDr P tT n all σA rem veA pendA kept s k)
    (hf : sGrp tT ih all σA veA pendA kept s k = true) : MDs P tT (n + 1) all σA veA pendA kept s k := fun cx fz ν0 nx0 ν σ ve τ pend H Fm hle hnx hσ hv he hp hh hfr => by
  unfold sGrp at hf
  rw [fL_eq, fL_eq] at hf
  obtain ⟨hc, hf⟩ := fT_iff hf
  generalize hus : pickG veA kept [] = us at hc hf
  generalize hfls : cloA veA kept [] = fls at hc hf
  simp only [Bool.and_eq_true] at hc
  obtain ⟨ha, hall, hau, hemp, hro⟩ := hc
  have hnd := (asc_s ha).1
  have husn := (asc_s hau).1
  have husk : ∀ u ∈ us, u ∈ kept := fun u hu => by
    rw [← hus] at hu
    rcases pickG_s hu with h | h
    · exact h
    · cases h
  have hU : ∀ u ∈ us, veA.get u.1 = none ∧ fk u.2 = false ∧ u.1 ∉ fls := fun u hu => by
    have := List.all_eq_true.1 hall u hu
    simp only [Bool.and_eq_true, Option.isNone_iff_eq_none, Bool.not_eq_true'] at this
    exact ⟨this.1, this.2.1, fun hm => by rw [hasN_mem.2 hm] at this; cases this.2.2.1⟩
  have hgσ : Gd ν σA := fun i a hi => by obtain ⟨v, h1, _⟩ := hσ i a hi; exact ⟨v, h1⟩
  have hgv : Gd ν veA := fun i a hi => by obtain ⟨v, h1, _⟩ := hv.1 i a hi; exact ⟨v, h1⟩
  obtain ⟨W, hF, veF, envF, hW, hf, w1, w2, w3, _, w5, w6, w7, w8⟩ := gRun_s (P := P) hT (ν := ν) (cx := cx) (fz := fz) hf hgσ hgv (fun u hu => (hU u hu).1) husn
  rw [fL_eq, fL_eq] at hf
  have hM := hdr _ _ _ _ _ _ _ _ hf
  have hWus : ∀ e ∈ W, e.1 ∈ us := fun e he => by rw [← hW]; exact List.mem_map.2 ⟨e, he, rfl⟩
  have hWn : (W.map fun e => e.1.1).Nodup := by
    have : (W.map fun e => e.1.1) = us.map Prod.fst := by rw [← hW, List.map_map]; rfl
    rw [this]; exact husn
  have hnone' : ∀ u ∈ us, lk ve u.1 = none := fun u hu => hv.2 _ (hU u hu).1
  have hnW : ∀ i, (∀ u ∈ us, u.1 ≠ i) → ∀ e ∈ W, e.1.1 ≠ i := fun i hi e he => hi _ (hWus e he)
  have hend : ∀ H ve τ pend, VR ν veF ve → ER ν envF τ → PR ν hF (leftAll pendA us) pend → HR tT ν hF H Fm → Dr P cx all σ fk (flD P all σ) (QE tT fz ν0 nx0 s.nt Fm k) ((rmAll us kept).length + n + 1) (rmAll us kept) ve τ pend fz H := fun H ve τ pend g1 g4 g2 g3 =>
    Dr_succ (by simpa using hM cx fz ν0 nx0 ν σ ve τ pend H Fm hle hnx hσ g1 g4 g2 g3 hfr)
  have hms : MS P tT all σA veF envF hF pendA (leftAll pendA us) us (rmAll us kept) ν ve Fm W s.heap H ve τ pend pendA kept := by
    refine ⟨hh, w2, w3, w1, fun _ _ h => h, fun e he => hnone' _ (hWus e he), fun i hi => ?_, w5.1, fun t ht a ha => ?_, fun e he d hd => (w6 e he d hd).2.2, w8, hp, ?_, fun _ h => h, hnd, fun e he => ⟨husk _ (hWus e he), (hU _ (hWus e he)).2.1, hWus e he⟩, ?_⟩
    · rw [w5.2 i hi]
      exact ⟨hv.1 i, hv.2 i⟩
    · rw [w7 t ht] at ha
      exact he t a ha
    · rw [leftAll_eq, ← hW]
      congr 1
      funext q
      rw [List.all_map]
      rfl
    · rw [rmAll_eq, ← hW]
  have hWne : W ≠ [] := fun hc => by rw [hc] at hW; rw [← hW] at hemp; cases hemp
  have := ((many_s (P := P) hT hσ (fun i hi => w5.2 i (hnW i hi)) (fun u hu => (hU u hu).2.2) (restM_s hro) hend W.length W s.heap H ve τ pend pendA kept rfl hWn hms).1 hWne)
  refine KQ_le ?_ this
  have hlW : W.length = us.length := by rw [← hW]; simp
  have h1 : us.length ≤ (kept.filter fun p => hasP us p.1).length := by
    exact len_sub husn fun u hu => List.mem_filter.2 ⟨husk u hu, hasP_iff.2 ⟨u, hu, rfl⟩⟩
  have h3 : kept.length = (kept.filter fun p => hasP us p.1).length + (kept.filter fun p => !hasP us p.1).length := by
    rw [← List.countP_eq_length_filter, ← List.countP_eq_length_filter]
    have := List.length_eq_countP_add_countP (fun p : Nat × Oper => hasP us p.1) (l := kept)
    rw [this]
    congr 1
    apply List.countP_congr
    intro x _
    simp
  rw [rmAll_eq, hlW]
  omega

theorem nowE_s {veA : Tr AV} {kept us : List (Nat × Oper)} (h : nowE veA kept = us) : us.Sublist kept ∧ ∀ u ∈ us, fk u.2 = false ∧ blockedA veA u.2 = false := by
  subst h
  refine ⟨List.filter_sublist, fun u hu => ?_⟩
  have := (List.mem_filter.1 hu).2
  simp only [Bool.not_eq_true', Bool.or_eq_false_iff] at this
  exact this
theorem sDs_s {ih : IH} {n : Nat} {all : List Oper} {σA veA : Tr AV} {pendA : Pn} {kept : List (Nat × Oper)} {s : St} {k : CK} (hT : TA tT T) (hcall : ∀ g args s k, ih (.call g args) s k = true → MCall P tT g args s k)
    (hdr : ∀ all σA rem veA pendA kept s k, ih (.dr all σA rem veA pendA kept) s k = true → MDr P tT n all σA rem veA pendA kept s k)
    (hf : sDs all σA veA pendA kept tT ih s k = true) : MDs P tT (n + 1) all σA veA pendA kept s k := by
  unfold sDs at hf
  cases hk : kept with
  | nil =>
    rw [hk, lE_nil] at hf
    intro cx fz ν0 nx0 ν σ ve τ pend H Fm hle hnx hσ hv he hp hh hfr
    exact .inl ⟨rfl, QE.of hle hnx he hh hfr hf⟩
  | cons p0 r0 =>
    rw [← hk]
    rw [hk, lE_cons, ← hk] at hf
    cases hn : nowE veA kept with
    | nil =>
      rw [hn, lE_nil] at hf
      exact sFlo_s hT hdr hf
    | cons p us =>
      obtain ⟨h1, h2⟩ := nowE_s hn
      rw [hn, lE_cons] at hf
      cases us with
      | nil =>
        rw [lE_nil] at hf
        exact sOne_s hT hcall hdr (h1.subset (by simp)) (h2 p (by simp)).1 hf
      | cons q us =>
        rw [lE_cons] at hf
        exact sGrp_s hT hdr hf
end
end Go.Ev
