/- Operations that only read, continued: maps, built-in functions, conversions. Conditions: none. -/
import Derived.Test.YtkejidpdoglahaaGreatDoorEvM
namespace Go.Ev
open Go.Lx Go.RowKit

section
variable {P : Program} {cx : Cx} {tT : TT} {T : Tab P} {fz : FZ}

/-! ### maps -/
theorem HR.map {ν : Nu} {h : Tr AO} {H Fm : HP} (hh : HR tT ν h H Fm) {id : Nat} {o : AO} {es : List (AV × AV × Nat) × Nat} (hg : h.get id = some o) (hc : oMap o = some es) :
    ∃ b l, ν.blk id = some b ∧ ges ν es.1 = some l ∧ (b, Obj.map l.toArray es.2) ∈ H := by
  obtain ⟨b, x, h1, h2, h3⟩ := hh.own id o hg
  cases o with
  | map es' clock =>
    simp [oMap] at hc; subst hc
    simp only [go] at h2
    cases hv : ges ν es' with
    | none => simp [hv] at h2
    | some l => simp [hv] at h2; subst h2; exact ⟨b, l, h1, rfl, h3⟩
  | cells _ _ _ _ => simp [oMap] at hc
  | mit _ _ _ _ => simp [oMap] at hc
theorem getObj_own {H : HP} {w : World} (hi : Inv cx fz H w) {b : Nat} {o : Obj} (hm : (b, o) ∈ H) (hn : ∀ c e f, o ≠ .cells c e f) : (getObj b).run P w = .ok o w := by
  have := (hi.hp.own _ hm).1
  simp only at this
  cases o with
  | cells c e f => exact absurd rfl (hn c e f)
  | _ => simp [getObj, Sem.run, this]
theorem ges_cons {ν : Nu} {e : AV × AV × Nat} {r : List (AV × AV × Nat)} {l : List MapEntry} (h : ges ν (e :: r) = some l) : ∃ k v q, gv ν e.1 = some k ∧ gv ν e.2.1 = some v ∧ ges ν r = some q ∧ l = ⟨k, v, e.2.2⟩ :: q := by
  simp only [ges] at h
  cases ha : gv ν e.1 with
  | none => simp [ha] at h
  | some k =>
    cases hb : gv ν e.2.1 with
    | none => simp [ha, hb] at h
    | some v =>
      cases hr : ges ν r with
      | none => simp [ha, hb, hr] at h
      | some q => simp [ha, hb, hr] at h; exact ⟨k, v, q, rfl, rfl, rfl, h.symm⟩
theorem ges_len {ν : Nu} : ∀ {l : List (AV × AV × Nat)} {es : List MapEntry}, ges ν l = some es → es.length = l.length
  | [], es, h => by simp [ges] at h; subst h; rfl
  | e :: r, es, h => by
    obtain ⟨k, v, q, _, _, hr, rfl⟩ := ges_cons h
    simp [ges_len hr]
/-- a key's type is plain -/
theorem key_desc {X : Ty} {A : TyA} (hR : TR X A) (hk : kPlain A.k = true) : (A.k = 0 ∧ X.desc = .bool) ∨ (A.k = 1 ∧ X.desc = .int A.ik) ∨ (A.k = 2 ∧ X.desc = .string) := by
  unfold kPlain at hk
  rw [Nat.ble_eq] at hk
  rcases (by omega : A.k = 0 ∨ A.k = 1 ∨ A.k = 2) with h | h | h
  · exact .inl ⟨h, hR.d0 h⟩
  · exact .inr (.inl ⟨h, hR.d1 h⟩)
  · exact .inr (.inr ⟨h, hR.d2 h⟩)
theorem ba_beq (a b : ByteArray) : (a == b) = decide (a = b) := by
  have : (a == b) = (a.data == b.data) := rfl
  rw [this, Bool.eq_iff_iff, beq_iff_eq, decide_eq_true_iff]
  exact ⟨fun h => ByteArray.ext h, fun h => by rw [h]⟩
theorem keq_s {X : Ty} {A : TyA} (hR : TR X A) (hk : kPlain A.k = true) {ν : Nu} {a b : AV} {u w : Value} {t : Bool} (h : keq A.k a b = some t) (ha : gv ν a = some u) (hb : gv ν b = some w) : Instr.sameNow X.desc u w = some t := by
  unfold keq at h
  rcases key_desc hR hk with ⟨hk0, hd⟩ | ⟨hk0, hd⟩ | ⟨hk0, hd⟩
  · rw [hk0] at h
    have h' : oT true (oB (asB a) fun x => oB (asB b) fun y => some (x == y)) = some t := h
    obtain ⟨_, h'⟩ := oT_iff h'
    obtain ⟨x, hx, h'⟩ := oB_iff h'
    obtain ⟨y, hy, h'⟩ := oB_iff h'
    injection h' with h'
    rw [asB_iff hx ha, asB_iff hy hb, hd, ← h']
    rfl
  · rw [hk0] at h
    have h' : (oB (asI a) fun x => oB (asI b) fun y => oT (kEq x.1 y.1) (some (iEq x.2 y.2))) = some t := h
    obtain ⟨x, hx, h'⟩ := oB_iff h'
    obtain ⟨y, hy, h'⟩ := oB_iff h'
    obtain ⟨hke, h'⟩ := oT_iff h'
    injection h' with h'
    rw [asI_iff hx ha, asI_iff hy hb, hd, ← h']
    simp only [Instr.sameNow]
    rw [if_pos (kEq_iff hke), iEq_eq]
    congr 1
  · rw [hk0] at h
    have h' : (oB (asS a) fun x => oB (asS b) fun y => some (sEq x y)) = some t := h
    obtain ⟨x, hx, h'⟩ := oB_iff h'
    obtain ⟨y, hy, h'⟩ := oB_iff h'
    injection h' with h'
    obtain ⟨rfl, hxx⟩ := asS_iff hx ha
    obtain ⟨rfl, hyy⟩ := asS_iff hy hb
    rw [hd, ← h']
    simp only [Instr.sameNow]
    rw [ba_beq, bs_eq hxx hyy]
/-- the entry that is found -/
theorem fnd_s {X : Ty} {A : TyA} (hR : TR X A) (hk : kPlain A.k = true) {ν : Nu} {kv : AV} {u : Value} (hu : gv ν kv = some u) : ∀ {es : List (AV × AV × Nat)} {l : List MapEntry} {i : Nat} {z : Option (Nat × AV)}, ges ν es = some l → fnd A.k kv es i = some z →
    (z = none ∧ Instr.findNow X.desc u l i = some none) ∨ (∃ j v w, z = some (i + j, v) ∧ gv ν v = some w ∧ Instr.findNow X.desc u l i = some (some (i + j, w)) ∧ (∃ e, es[j]? = some e ∧ e.2.1 = v ∧ keq A.k kv e.1 = some true))
  | [], l, i, z, hl, h => by
    simp [ges] at hl; subst hl
    injection h with h; subst h
    exact .inl ⟨rfl, rfl⟩
  | e :: es, l, i, z, hl, h => by
    obtain ⟨k, v, q, h1, h2, h3, rfl⟩ := ges_cons hl
    simp only [fnd] at h
    obtain ⟨t, ht, h⟩ := oB_iff h
    have hs := keq_s hR hk ht hu h1
    cases t with
    | true =>
      injection h with h; subst h
      refine .inr ⟨0, e.2.1, v, rfl, h2, ?_, e, rfl, rfl, ht⟩
      simp only [Instr.findNow, hs]
      rfl
    | false =>
      have h' : fnd A.k kv es (Nat.succ i) = some z := h
      rcases fnd_s hR hk hu h3 h' with ⟨hz, hf⟩ | ⟨j, v', w, hz, hg, hf, e', he1, he2, he3⟩
      · exact .inl ⟨hz, by simp only [Instr.findNow, hs]; exact hf⟩
      · refine .inr ⟨j + 1, v', w, by rw [hz]; congr 2; show i + 1 + j = i + (j + 1); omega, hg, ?_, e', by simpa using he1, he2, he3⟩
        simp only [Instr.findNow, hs]
        rw [show i + (j + 1) = i.succ + j from by show i + (j + 1) = i + 1 + j; omega]
        exact hf
theorem run_checkKey {d : TypeDesc} {t : TypeId} {b : Bool} {v : Value} (hu : P.underlying t = some d) (hd : d = .bool ∨ (∃ k, d = .int k) ∨ d = .string) (w : World) : (Instr.checkKey b 10000 t v).run P w = .ok () w := by
  have : ∀ n, (Instr.checkKey b (n + 1) t v).run P w = .ok () w := fun n => by
    unfold Instr.checkKey
    simp only [Sem.run_bind, run_underlying hu w, Result.andThen_ok]
    rcases hd with rfl | ⟨k, rfl⟩ | rfl <;> rfl
  exact this 9999
theorem key_plain {X : Ty} {A : TyA} {t : Nat} (hX : T.inf t = some X) (hR : TR X A) (hk : kPlain A.k = true) : P.underlying t = some X.desc ∧ (X.desc = .bool ∨ (∃ k, X.desc = .int k) ∨ X.desc = .string) := by
  rcases key_desc hR hk with ⟨_, hd⟩ | ⟨_, hd⟩ | ⟨_, hd⟩
  · rw [hd]; exact ⟨und_plain T hX hd rfl, .inl rfl⟩
  · rw [hd]; exact ⟨und_plain T hX hd rfl, .inr (.inl ⟨_, rfl⟩)⟩
  · rw [hd]; exact ⟨und_plain T hX hd rfl, .inr (.inr rfl)⟩
theorem run_findKey {X : Ty} {t : Nat} {u : Value} {l : List MapEntry} {z : Option (Nat × Value)} (hu : P.underlying t = some X.desc) (h : Instr.findNow X.desc u l 0 = some z) (w : World) : (Instr.findKey t u l).run P w = .ok z w := by
  simp only [Instr.findKey, Sem.run_bind, run_underlying hu w, Result.andThen_ok, h, Sem.run_pure]

theorem s_look (hT : TA tT T) (t : TypeId) (x k : Operand) (ok : Bool) : QS P cx tT fz (qLook t x k ok) (.lookup t x k ok) := fun ν ar r h H Fm c dst ty pos af gd hr hh hf => by
  obtain ⟨A, X, hA, hX, hR, hk6, hf⟩ := tyK_iff hT hf
  obtain ⟨a, ha, hf⟩ := fO_iff hf
  obtain ⟨q, hq, hf⟩ := fO_iff hf
  obtain ⟨kv, hkv, hf⟩ := fO_iff hf
  obtain ⟨K, hK, hf⟩ := fO_iff hf
  obtain ⟨hkp, hf⟩ := fT_iff hf
  obtain ⟨u, h1, h2⟩ := hr x a ha
  obtain ⟨uk, h3, h4⟩ := hr k kv hkv
  obtain ⟨m, hm, rfl⟩ := asM_iff hq h1
  obtain ⟨XK, hXK, hRK⟩ := hT A.n K hK
  have hu := und_plain T hX (hR.d6 hk6) rfl
  obtain ⟨huk, hdk⟩ := key_plain hXK hRK hkp
  -- the entries
  have hent : ∃ es l, ges ν es = some l ∧ (fO (fnd K.k kv es 0) fun z => oE (fO (tT A.e) fun E => zeroV E fun v => okv ok false v c) (fun iv => okv ok true iv.2 c) z) = true ∧
      ((m = none ∧ l = []) ∨ ∃ b n, m = some b ∧ (b, Obj.map l.toArray n) ∈ H) := by
    cases q with
    | none =>
      simp [gM] at hm; subst hm
      exact ⟨[], [], rfl, hf, .inl ⟨rfl, rfl⟩⟩
    | some id =>
      have hf' : (fO (h.get id) fun o => fO (oMap o) fun z => fO (fnd K.k kv z.1 0) fun z => oE (fO (tT A.e) fun E => zeroV E fun v => okv ok false v c) (fun iv => okv ok true iv.2 c) z) = true := hf
      obtain ⟨o, ho, hf'⟩ := fO_iff hf'
      obtain ⟨es, hes, hf'⟩ := fO_iff hf'
      obtain ⟨b, l, hb, hl, hmem⟩ := hh.map ho hes
      simp [gM, hb] at hm; subst hm
      exact ⟨es.1, l, hl, hf', .inr ⟨b, es.2, rfl, hmem⟩⟩
  obtain ⟨es, l, hl, hf, hrun⟩ := hent
  obtain ⟨z, hz, hf⟩ := fO_iff hf
  have hend : ∀ (zz : Option (Nat × Value)) (v v0 : Value) (b0 : Bool), Instr.findNow XK.desc uk l 0 = some zz → (∀ w, (match zz with | some (_, v) => pure (v, true) | none => do pure (← zeroValue A.e, false) : Sem (Value × Bool)).run P w = .ok (v0, b0) w) →
      (if ok then (.tuple #[v0, .bool b0]) else v0) = v → ∀ ρ w, Reads r ρ → Inv cx fz H w → OpPost P (fun v' w' => v' = v ∧ Fr [] w w') ((execOp ρ ⟨dst, .lookup t x k ok, ty, pos, af, gd⟩).run P w) := by
    intro zz v v0 b0 hfn hzz hv ρ w hρ hi
    have hl : (Instr.lookup t (.map m) uk ok).run P w = .ok v w := by
      rcases hrun with ⟨rfl, rfl⟩ | ⟨b, n, rfl, hmem⟩
      · simp only [Instr.lookup, Sem.run_bind, run_underlying hu w, Result.andThen_ok, Sem.run_pure, run_checkKey huk hdk, run_findKey huk hfn]
        have := hzz w
        cases zz with
        | none => simp only [Sem.run_bind] at this ⊢; rw [← hv]; revert this; cases (zeroValue A.e).run P w <;> simp_all
        | some q => simp only [Sem.run_pure] at this ⊢; rw [← hv]; simp_all
      · simp only [Instr.lookup, Sem.run_bind, run_underlying hu w, Result.andThen_ok, Sem.run_pure, getObj_own hi hmem (by simp), run_checkKey huk hdk, run_findKey huk hfn]
        have := hzz w
        cases zz with
        | none => simp only [Sem.run_bind] at this ⊢; rw [← hv]; revert this; cases (zeroValue A.e).run P w <;> simp_all
        | some q => simp only [Sem.run_pure] at this ⊢; rw [← hv]; simp_all
    simp only [execOp, hρ _ _ h2, hρ _ _ h4, Sem.run_bind, hl, Result.andThen_ok, Sem.run_pure]
    exact ⟨rfl, Fr.refl _ _⟩
  rcases fnd_s hRK hkp h3 hl hz with ⟨rfl, hfn⟩ | ⟨j, v, w', rfl, hg, hfn, _⟩
  · obtain ⟨E, hE, hf⟩ := fO_iff hf
    obtain ⟨XE, hXE, hRE⟩ := hT A.e E hE
    obtain ⟨av, hc, hgz⟩ := zeroV_s hRE (ν := ν) hf
    have h7 := fun v hv => hend none v XE.zero false hfn (fun w => by simp only [Sem.run_bind, run_zero T hXE w, Result.andThen_ok, Sem.run_pure]) hv
    cases ok with
    | true => exact ⟨_, .tuple #[XE.zero, .bool false], hc, by simp [gv, gvs, hgz], h7 _ rfl⟩
    | false => exact ⟨_, XE.zero, hc, hgz, h7 _ rfl⟩
  · have h7 := fun v hv => hend (some (0 + j, w')) v w' true hfn (fun w => rfl) hv
    cases ok with
    | true => exact ⟨_, .tuple #[w', .bool true], hf, by simp [gv, gvs, hg], h7 _ rfl⟩
    | false => exact ⟨_, w', hf, hg, h7 _ rfl⟩
end
end Go.Ev
