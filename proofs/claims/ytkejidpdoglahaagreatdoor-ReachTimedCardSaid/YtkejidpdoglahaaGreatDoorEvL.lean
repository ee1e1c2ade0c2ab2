/- Lists, numbers and strings of the evaluator, and the relation of its memory and types to the model's. Conditions: none. -/
import Derived.Test.YtkejidpdoglahaaGreatDoorEvR
namespace Go.Ev
open Go.Lx Go.RowKit

/-! ### lists -/
theorem at_iff {α : Type} : ∀ {l : List α} {i : Nat} {x : α}, at_ l i = some x → l[i]? = some x
  | [], _, _, h => by cases h
  | y :: r, 0, x, h => by simpa [at_] using h
  | y :: r, i + 1, x, h => by
    have : at_ r i = some x := h
    simpa using at_iff this
theorem tk_iff {α : Type} : ∀ {n : Nat} {l r : List α}, tk n l = some r → n ≤ l.length ∧ r = l.take n
  | 0, l, r, h => by simp [tk] at h; subst h; simp
  | n + 1, [], r, h => by simp [tk] at h
  | n + 1, x :: l, r, h => by
    simp only [tk] at h
    cases ht : tk n l with
    | none => simp [ht] at h
    | some q =>
      simp only [ht] at h
      injection h with h
      obtain ⟨h1, h2⟩ := tk_iff ht
      subst h h2
      exact ⟨by simp; omega, by simp⟩
theorem dp_iff {α : Type} : ∀ {n : Nat} {l r : List α}, dp n l = some r → n ≤ l.length ∧ r = l.drop n
  | 0, l, r, h => by simp [dp] at h; subst h; simp
  | n + 1, [], r, h => by simp [dp] at h
  | n + 1, x :: l, r, h => by
    simp only [dp] at h
    obtain ⟨h1, h2⟩ := dp_iff h
    exact ⟨by simp; omega, by simpa using h2⟩
theorem part_iff {α : Type} {l r : List α} {i n : Nat} (h : part_ l i n = some r) : i + n ≤ l.length ∧ r = (l.drop i).take n := by
  unfold part_ at h
  cases hd : dp i l with
  | none => simp [hd] at h
  | some q =>
    simp only [hd] at h
    obtain ⟨h1, h2⟩ := dp_iff hd
    obtain ⟨h3, h4⟩ := tk_iff h
    subst h2
    simp at h3
    exact ⟨by omega, h4⟩
theorem wr_iff {α : Type} : ∀ {cs : List α} {j : Nat} {vs cs' : List α}, wr cs j vs = some cs' → j + vs.length ≤ cs.length ∧ cs' = cs.take j ++ vs ++ cs.drop (j + vs.length)
  | cs, 0, [], cs', h => by simp only [wr] at h; injection h with h; simp [h]
  | [], 0, v :: vs, cs', h => by simp [wr] at h
  | [], j + 1, vs, cs', h => by simp [wr] at h
  | c :: cs, 0, v :: vs, cs', h => by
    simp only [wr] at h
    cases hw : wr cs 0 vs with
    | none => simp [hw] at h
    | some l =>
      simp only [hw] at h
      injection h with h
      obtain ⟨h1, h2⟩ := wr_iff hw
      subst h h2
      simp at h1 ⊢
      exact h1
  | c :: cs, j + 1, vs, cs', h => by
    simp only [wr] at h
    cases hw : wr cs j vs with
    | none => simp [hw] at h
    | some l =>
      simp only [hw] at h
      injection h with h
      obtain ⟨h1, h2⟩ := wr_iff hw
      subst h h2
      refine ⟨by simp; omega, ?_⟩
      rw [show j + 1 + vs.length = (j + vs.length) + 1 from by omega]
      simp

theorem gvs_cons {ν : Nu} {a : AV} {r : List AV} {vs : List Value} (h : gvs ν (a :: r) = some vs) : ∃ x l, gv ν a = some x ∧ gvs ν r = some l ∧ vs = x :: l := by
  simp only [gvs] at h
  cases ha : gv ν a with
  | none => simp [ha] at h
  | some x =>
    cases hr : gvs ν r with
    | none => simp [ha, hr] at h
    | some l => simp only [ha, hr] at h; injection h with h; exact ⟨x, l, rfl, rfl, h.symm⟩
theorem gvs_mk {ν : Nu} {a : AV} {r : List AV} {x : Value} {l : List Value} (h1 : gv ν a = some x) (h2 : gvs ν r = some l) : gvs ν (a :: r) = some (x :: l) := by simp only [gvs, h1, h2]
theorem gvs_len {ν : Nu} : ∀ {l : List AV} {vs : List Value}, gvs ν l = some vs → vs.length = l.length
  | [], vs, h => by simp [gvs] at h; subst h; rfl
  | a :: r, vs, h => by
    obtain ⟨x, l, _, hr, rfl⟩ := gvs_cons h
    simp [gvs_len hr]
theorem gvs_get {ν : Nu} : ∀ {l : List AV} {vs : List Value} {i : Nat} {a : AV}, gvs ν l = some vs → l[i]? = some a → ∃ v, vs[i]? = some v ∧ gv ν a = some v
  | [], _, _, _, _, h => by simp at h
  | b :: r, vs, 0, a, h, hi => by
    obtain ⟨x, l, ha, hr, rfl⟩ := gvs_cons h
    simp at hi; subst hi
    exact ⟨x, by simp, ha⟩
  | b :: r, vs, i + 1, a, h, hi => by
    obtain ⟨x, l, ha, hr, rfl⟩ := gvs_cons h
    obtain ⟨v, h1, h2⟩ := gvs_get hr (by simpa using hi)
    exact ⟨v, by simpa using h1, h2⟩
theorem gvs_take {ν : Nu} : ∀ (n : Nat) {l : List AV} {vs : List Value}, gvs ν l = some vs → gvs ν (l.take n) = some (vs.take n)
  | 0, l, vs, _ => by simp [gvs]
  | n + 1, [], vs, h => by simp [gvs] at h; subst h; simp [gvs]
  | n + 1, a :: r, vs, h => by
    obtain ⟨x, l, ha, hr, rfl⟩ := gvs_cons h
    simpa using gvs_mk ha (gvs_take n hr)
theorem gvs_drop {ν : Nu} : ∀ (n : Nat) {l : List AV} {vs : List Value}, gvs ν l = some vs → gvs ν (l.drop n) = some (vs.drop n)
  | 0, l, vs, h => by simpa using h
  | n + 1, [], vs, h => by simp [gvs] at h; subst h; simp [gvs]
  | n + 1, a :: r, vs, h => by
    obtain ⟨x, l, ha, hr, rfl⟩ := gvs_cons h
    simpa using gvs_drop n hr
theorem gvs_append {ν : Nu} : ∀ {l r : List AV} {us vs : List Value}, gvs ν l = some us → gvs ν r = some vs → gvs ν (l ++ r) = some (us ++ vs)
  | [], r, us, vs, h, k => by simp [gvs] at h; subst h; simpa using k
  | a :: q, r, us, vs, h, k => by
    obtain ⟨x, l, ha, hr, rfl⟩ := gvs_cons h
    simpa using gvs_mk ha (gvs_append hr k)
theorem gvs_part {ν : Nu} {l r : List AV} {vs : List Value} {i n : Nat} (h : gvs ν l = some vs) (hp : part_ l i n = some r) : i + n ≤ vs.length ∧ gvs ν r = some ((vs.drop i).take n) := by
  obtain ⟨h1, h2⟩ := part_iff hp
  subst h2
  exact ⟨by rw [gvs_len h]; exact h1, gvs_take n (gvs_drop i h)⟩
theorem gvs_wr {ν : Nu} {cs vs cs' : List AV} {us ws : List Value} {j : Nat} (h : gvs ν cs = some us) (hv : gvs ν vs = some ws) (hw : wr cs j vs = some cs') :
    j + ws.length ≤ us.length ∧ gvs ν cs' = some (us.take j ++ ws ++ us.drop (j + ws.length)) := by
  obtain ⟨h1, h2⟩ := wr_iff hw
  subst h2
  rw [gvs_len hv, gvs_len h]
  exact ⟨h1, gvs_append (gvs_append (gvs_take j h) hv) (gvs_drop _ h)⟩

/-! ### cells of values -/
theorem gv_cells {ν : Nu} {a : AV} {v : Value} (h : gv ν a = some v) : gvs ν a.cells = some v.cells.toList := by
  cases a with
  | agg cs =>
    simp only [gv] at h
    cases hc : gvs ν cs with
    | none => simp [hc] at h
    | some l => simp [hc] at h; subst h; simpa [AV.cells, Value.cells] using hc
  | b x => simp only [gv] at h; injection h with h; subst h; simp [AV.cells, gvs, gv, Value.cells]
  | i k n => simp only [gv] at h; injection h with h; subst h; simp [AV.cells, gvs, gv, Value.cells]
  | s x =>
    have h' := h
    simp only [gv] at h
    split at h
    · injection h with h; subst h; simp only [AV.cells, gvs, h', Value.cells]
    · cases h
  | p a =>
    have h' := h
    simp only [gv] at h
    cases ha : gA ν a with
    | none => simp [ha] at h
    | some A => simp [ha] at h; subst h; simp only [AV.cells, gvs, h', Value.cells]
  | sl a n c s =>
    have h' := h
    simp only [gv] at h
    cases ha : gA ν a with
    | none => simp [ha] at h
    | some A =>
      cases hc : gC ν c s with
      | none => simp [ha, hc] at h
      | some cc =>
        simp only [ha, hc] at h
        split at h
        · injection h with h; subst h; simp only [AV.cells, gvs, h', Value.cells]
        · cases h
  | m r =>
    have h' := h
    simp only [gv] at h
    cases ha : gM ν r with
    | none => simp [ha] at h
    | some A => simp [ha] at h; subst h; simp only [AV.cells, gvs, h', Value.cells]
  | f g x y =>
    have h' := h
    simp only [gv] at h
    cases hx : gvs ν x with
    | none => simp [hx] at h
    | some us =>
      cases hy : gvs ν y with
      | none => simp [hx, hy] at h
      | some vs => simp only [hx, hy] at h; injection h with h; subst h; simp only [AV.cells, gvs, h', Value.cells]
  | nf => simp only [gv] at h; injection h with h; subst h; simp [AV.cells, gvs, gv, Value.cells]
  | ifc t w =>
    have h' := h
    simp only [gv] at h
    cases hw : gv ν w with
    | none => simp [hw] at h
    | some A => simp [hw] at h; subst h; simp only [AV.cells, gvs, h', Value.cells]
  | ni => simp only [gv] at h; injection h with h; subst h; simp [AV.cells, gvs, gv, Value.cells]
  | tup cs =>
    have h' := h
    simp only [gv] at h
    cases hc : gvs ν cs with
    | none => simp [hc] at h
    | some l => simp [hc] at h; subst h; simp only [AV.cells, gvs, h', Value.cells]

/-! ### inversion of values -/
section
variable {ν : Nu} {a : AV} {v : Value}
theorem asB_iff {x : Bool} (h : asB a = some x) (hv : gv ν a = some v) : v = .bool x := by
  cases a <;> simp [asB] at h
  subst h; simp only [gv] at hv; injection hv with hv; exact hv.symm
theorem asI_iff {x : IntKind × Int} (h : asI a = some x) (hv : gv ν a = some v) : v = .int x.1 x.2 := by
  cases a <;> simp [asI] at h
  subst h; simp only [gv] at hv; injection hv with hv; exact hv.symm
theorem asS_iff {x : List Nat} (h : asS a = some x) (hv : gv ν a = some v) : v = .string (bs x) ∧ x.all (fun n => Nat.blt n 256) = true := by
  cases a <;> simp [asS] at h
  subst h; simp only [gv] at hv
  split at hv
  · rename_i hx; injection hv with hv; exact ⟨hv.symm, hx⟩
  · cases hv
theorem asP_iff {x : Nat × Nat} (h : asP a = some x) (hv : gv ν a = some v) : ∃ b, ν.blk x.1 = some b ∧ v = .pointer (some ⟨b, x.2, none⟩) := by
  cases a <;> simp [asP] at h
  subst h
  simp only [gv, gA] at hv
  cases hb : ν.blk x.1 with
  | none => simp [hb] at hv
  | some b => simp [hb] at hv; exact ⟨b, rfl, hv.symm⟩
theorem asT_iff {x : List AV} (h : asT a = some x) (hv : gv ν a = some v) : ∃ l, gvs ν x = some l ∧ v = .tuple l.toArray := by
  cases a <;> simp [asT] at h
  subst h
  simp only [gv] at hv
  rename_i cs
  cases hc : gvs ν cs with
  | none => simp [hc] at hv
  | some l => simp [hc] at hv; exact ⟨l, rfl, hv.symm⟩
theorem asA_iff {x : List AV} (h : asA a = some x) (hv : gv ν a = some v) : ∃ l, gvs ν x = some l ∧ v = .agg l.toArray := by
  cases a <;> simp [asA] at h
  subst h
  simp only [gv] at hv
  rename_i cs
  cases hc : gvs ν cs with
  | none => simp [hc] at hv
  | some l => simp [hc] at hv; exact ⟨l, rfl, hv.symm⟩
theorem asM_iff {x : Option Nat} (h : asM a = some x) (hv : gv ν a = some v) : ∃ m, gM ν x = some m ∧ v = .map m := by
  cases a <;> simp [asM] at h
  subst h
  simp only [gv] at hv
  rename_i r
  cases hc : gM ν r with
  | none => simp [hc] at hv
  | some l => simp [hc] at hv; exact ⟨l, rfl, hv.symm⟩
theorem asF_iff {x : FuncId × List AV × List AV} (h : asF a = some x) (hv : gv ν a = some v) : ∃ us vs, gvs ν x.2.1 = some us ∧ gvs ν x.2.2 = some vs ∧ v = .func (.func x.1) us.toArray vs.toArray := by
  cases a <;> simp [asF] at h
  subst h
  simp only [gv] at hv
  rename_i g x y
  cases hx : gvs ν x with
  | none => simp [hx] at hv
  | some us =>
    cases hy : gvs ν y with
    | none => simp [hx, hy] at hv
    | some vs => simp [hx, hy] at hv; exact ⟨us, vs, rfl, rfl, hv.symm⟩
theorem asL_iff {x : Sl_} (h : asL a = some x) (hv : gv ν a = some v) : ∃ A c, gA ν x.a = some A ∧ gC ν x.lo x.sym = some c ∧ x.len ≤ x.lo ∧ v = .slice A x.len c := by
  cases a <;> simp [asL] at h
  subst h
  simp only [gv] at hv
  rename_i a n c s
  cases ha : gA ν a with
  | none => simp [ha] at hv
  | some A =>
    cases hc : gC ν c s with
    | none => simp [ha, hc] at hv
    | some cc =>
      simp only [ha, hc] at hv
      split at hv
      · rename_i hle; injection hv with hv; exact ⟨A, cc, rfl, rfl, hle, hv.symm⟩
      · cases hv
theorem asN_iff {n : Nat} (h : asN a = some n) (hv : gv ν a = some v) : ∃ k, v = .int k n := by
  cases a <;> simp [asN] at h
  rename_i k m
  cases m <;> simp [natOf] at h
  subst h
  simp only [gv] at hv; injection hv with hv; exact ⟨k, hv.symm⟩
end
theorem gC_le {ν : Nu} {lo c : Nat} {s : Option (Nat × Nat)} (h : gC ν lo s = some c) : lo ≤ c := by
  cases s with
  | none => simp [gC] at h; omega
  | some q =>
    simp only [gC] at h
    cases hc : ν.cap q.1 with
    | none => simp [hc] at h
    | some x =>
      simp only [hc] at h
      split at h
      · injection h with h; omega
      · cases h

/-! ### memory -/
/-- a row with room: its capacity is known to the names -/
def CapOk (tT : TT) (ν : Nu) (n e j : Nat) : Prop := ∃ C l Y, ν.cap j = some C ∧ ν.slk j = some l ∧ tT e = some Y ∧ n + l.length = C * Y.size
theorem CapOk.mono {tT : TT} {ν ν' : Nu} {n e j : Nat} (h : CapOk tT ν n e j) (hle : ν.le ν') : CapOk tT ν' n e j := by
  obtain ⟨C, l, Y, h1, h2, h3, h4⟩ := h
  exact ⟨C, l, Y, hle.cap _ _ h1, hle.slk _ _ h2, h3, h4⟩
structure HR (tT : TT) (ν : Nu) (h : Tr AO) (H Fm : HP) : Prop where
  own : ∀ id o, h.get id = some o → ∃ b x, ν.blk id = some b ∧ go ν o = some x ∧ (b, x) ∈ H
  inj : ∀ id id' o o' b, h.get id = some o → h.get id' = some o' → ν.blk id = some b → ν.blk id' = some b → id = id'
  fm : ∀ p ∈ Fm, p ∈ H ∧ ∀ id o, h.get id = some o → ν.blk id ≠ some p.1
  cap : ∀ id cs e j fr, h.get id = some (.cells cs e (some j) fr) → CapOk tT ν cs.length e j
def Fresh (ν : Nu) (n : Nat) : Prop := ∀ i, n ≤ i → ν.blk i = none ∧ ν.cap i = none ∧ ν.slk i = none
def RR (ν : Nu) (ar : RD) (r : Operand → Option Value) : Prop := ∀ x a, ar x = some a → ∃ v, gv ν a = some v ∧ r x = some v
def ER (ν : Nu) (e : Tr AV) (σ : Env) : Prop := ∀ i a, e.get i = some a → ∃ v, gv ν a = some v ∧ lk σ i = some v

theorem RR.all {ν : Nu} {ar : RD} {r : Operand → Option Value} (h : RR ν ar r) : ∀ {xs : List Operand} {l : List AV}, rdos ar xs = some l → ∃ vs, gvs ν l = some vs ∧ rds r xs = some vs
  | [], l, hl => by
    have : l = [] := by injection hl with hl; exact hl.symm
    subst this; exact ⟨[], rfl, rfl⟩
  | x :: xs, l, hl => by
    obtain ⟨a, ha, hl⟩ := oB_iff hl
    obtain ⟨q, hq, hl⟩ := oB_iff hl
    injection hl with hl
    subst hl
    obtain ⟨v, h1, h2⟩ := h x a ha
    obtain ⟨vs, h3, h4⟩ := RR.all h hq
    exact ⟨v :: vs, gvs_mk h1 h3, by simp only [rds, h2, h4]⟩

/-! ### types -/
structure TR (X : Ty) (a : TyA) : Prop where
  size : X.size = a.size
  bytes : X.bytes = a.bytes
  agg : isAggD X.desc = a.agg
  zero : ∃ zs, (∀ ν, gvs ν a.zero = some zs) ∧ X.zero.cells = zs.toArray
  zagg : a.agg = true → ∃ cs, X.zero = .agg cs
  zone : a.agg = false → ∃ z, a.zero = [z] ∧ ∀ ν, gv ν z = some X.zero
  nif : a.k ≠ 7 → isIfaceD X.desc = false
  d0 : a.k = 0 → X.desc = .bool
  d1 : a.k = 1 → X.desc = .int a.ik
  d2 : a.k = 2 → X.desc = .string
  d3 : a.k = 3 → X.desc = .pointer a.e
  d4 : a.k = 4 → X.desc = .slice a.e
  d5 : a.k = 5 → X.desc = .array a.n a.e
  d6 : a.k = 6 → X.desc = .map a.n a.e
  d7 : a.k = 7 → ∃ ms, X.desc = .interface ms
  d8 : a.k = 8 → ∃ x y z, X.desc = .func x y z
  d9 : a.k = 9 → ∃ fs, X.desc = .struct fs ∧ fs.toList.map (fun f => (f.type, f.offset)) = a.fs
def TA {P : Program} (tT : TT) (T : Tab P) : Prop := ∀ t a, tT t = some a → ∃ X, T.inf t = some X ∧ TR X a
theorem tyK_iff {P : Program} {tT : TT} {T : Tab P} (h : TA tT T) {t k : Nat} {c : TyA → Bool} (hk : tyK tT t k c = true) : ∃ a X, tT t = some a ∧ T.inf t = some X ∧ TR X a ∧ a.k = k ∧ c a = true := by
  obtain ⟨a, ha, hk⟩ := fO_iff hk
  obtain ⟨h1, h2⟩ := fT_iff hk
  obtain ⟨X, hX, hR⟩ := h t a ha
  exact ⟨a, X, ha, hX, hR, Nat.eq_of_beq_eq_true h1, h2⟩
end Go.Ev
