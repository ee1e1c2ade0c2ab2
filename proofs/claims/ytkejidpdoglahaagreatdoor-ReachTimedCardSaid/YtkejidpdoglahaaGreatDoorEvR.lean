/- What the evaluator's values and memory mean: their relation to the model's. Conditions: none. -/
import Derived.Test.YtkejidpdoglahaaGreatDoorEvD
namespace Go.Ev
open Go.Lx Go.RowKit

/-! ### forcing changes nothing -/
theorem br_eq {α : Type} (f t : α) (b : Bool) : br f t b = if b = true then t else f := by cases b <;> rfl
theorem br_true {α : Type} (f t : α) : br f t true = t := rfl
theorem br_false {α : Type} (f t : α) : br f t false = f := rfl
theorem fO_iff {α : Type} {o : Option α} {c : α → Bool} (h : fO o c = true) : ∃ x, o = some x ∧ c x = true := by
  cases o with
  | none => cases h
  | some x => exact ⟨x, rfl, h⟩
theorem oB_iff {α β : Type} {o : Option α} {f : α → Option β} {y : β} (h : oB o f = some y) : ∃ x, o = some x ∧ f x = some y := by
  cases o with
  | none => cases h
  | some x => exact ⟨x, rfl, h⟩
theorem oE_none {α β : Type} (n : β) (f : α → β) : oE n f none = n := rfl
theorem oE_some {α β : Type} (n : β) (f : α → β) (x : α) : oE n f (some x) = f x := rfl
theorem fT_iff {b x : Bool} (h : fT b x = true) : b = true ∧ x = true := by
  cases b with
  | false => cases h
  | true => exact ⟨rfl, h⟩
theorem oT_iff {β : Type} {b : Bool} {x : Option β} {y : β} (h : oT b x = some y) : b = true ∧ x = some y := by
  cases b with
  | false => cases h
  | true => exact ⟨rfl, h⟩
theorem fN_eq (n : Nat) (c : Nat → Bool) : fN n c = c n := by cases n <;> rfl
theorem fI_eq (n : Int) (c : Int → Bool) : fI n c = c n := by
  cases n with
  | ofNat m => exact fN_eq m fun m => c (.ofNat m)
  | negSucc m => exact fN_eq m fun m => c (.negSucc m)
theorem fS_eq : ∀ (l : List Nat) (c : List Nat → Bool), fS l c = c l
  | [], _ => rfl
  | x :: r, c => (fN_eq x fun x => fS r fun r => c (x :: r)).trans (fS_eq r fun r => c (x :: r))
theorem fL_eq {α : Type} : ∀ (l : List α) (c : List α → Bool), fL l c = c l
  | [], _ => rfl
  | x :: r, c => fL_eq r fun r => c (x :: r)
theorem fB_eq (b : Bool) (c : Bool → Bool) : fB b c = c b := by cases b <;> rfl
theorem lE_nil {α β : Type} (n : β) (f : α → List α → β) : lE n f [] = n := rfl
theorem lE_cons {α β : Type} (n : β) (f : α → List α → β) (x : α) (r : List α) : lE n f (x :: r) = f x r := rfl

/-! ### trees -/
theorem Tr.get_lf {α : Type} (i : Nat) : (Tr.lf : Tr α).get i = none := rfl
theorem Tr.get_n {α : Type} (l r : Tr α) (v : Option α) (i : Nat) : (Tr.n l v r).get i = br (br (r.get (Nat.pred (Nat.div i 2))) (l.get (Nat.div i 2)) (Nat.beq (Nat.mod i 2) 1)) v (Nat.beq i 0) := rfl
theorem beq_false {a b : Nat} (h : a ≠ b) : Nat.beq a b = false := by
  cases hb : Nat.beq a b with
  | false => rfl
  | true => exact absurd (Nat.eq_of_beq_eq_true hb) h
/-- a tree with one place set -/
def Tr.upd {α : Type} (t : Tr α) (i : Nat) (x : Option α) (t' : Tr α) : Prop := ∀ j, t'.get j = if j = i then x else t.get j
theorem Tr.setK_iff {α : Type} : ∀ (n : Nat) (t : Tr α) (i : Nat) (x : Option α) (c : Tr α → Bool), Tr.setK n t i x c = true → ∃ t', t.upd i x t' ∧ c t' = true
  | 0, _, _, _, _, h => by cases h
  | m + 1, t, i, x, c, h => by
    have key : ∀ (l : Tr α) (v : Option α) (r : Tr α), (∀ j, t.get j = (Tr.n l v r).get j) → Tr.setS (Tr.setK m) i x c l v r = true → ∃ t', t.upd i x t' ∧ c t' = true := by
      intro l v r hg hs
      unfold Tr.setS at hs
      by_cases h0 : i = 0
      · subst h0
        refine ⟨.n l x r, fun j => ?_, hs⟩
        rw [hg, Tr.get_n, Tr.get_n]
        by_cases hj : j = 0
        · subst hj; simp [br_true]
        · rw [beq_false hj]; simp only [br_false, if_neg hj]
      · rw [beq_false h0, br_false] at hs
        by_cases h1 : Nat.mod i 2 = 1
        · rw [h1] at hs
          obtain ⟨t', hu, hc⟩ := Tr.setK_iff m _ _ _ _ hs
          refine ⟨_, fun j => ?_, hc⟩
          rw [hg, Tr.get_n, Tr.get_n]
          by_cases hj : j = 0
          · subst hj; rw [if_neg (fun h => h0 h.symm)]; rfl
          · rw [beq_false hj]
            simp only [br_false]
            by_cases hj1 : Nat.mod j 2 = 1
            · rw [hj1]
              simp only [Nat.beq_refl, br_true]
              rw [hu (Nat.div j 2)]
              have : (Nat.div j 2 = Nat.div i 2) ↔ j = i := by
                have e1 : j % 2 = 1 := hj1
                have e2 : i % 2 = 1 := h1
                have e3 : Nat.div j 2 = j / 2 := rfl
                have e4 : Nat.div i 2 = i / 2 := rfl
                rw [e3, e4]; omega
              by_cases hji : j = i
              · rw [if_pos hji, if_pos (this.2 hji)]
              · rw [if_neg hji, if_neg (fun h => hji (this.1 h))]
            · rw [beq_false hj1]
              simp only [br_false]
              rw [if_neg (fun h => by subst h; exact hj1 h1)]
        · rw [beq_false h1, br_false] at hs
          obtain ⟨t', hu, hc⟩ := Tr.setK_iff m _ _ _ _ hs
          refine ⟨_, fun j => ?_, hc⟩
          rw [hg, Tr.get_n, Tr.get_n]
          by_cases hj : j = 0
          · subst hj; rw [if_neg (fun h => h0 h.symm)]; rfl
          · rw [beq_false hj]
            simp only [br_false]
            by_cases hj1 : Nat.mod j 2 = 1
            · rw [hj1]
              simp only [Nat.beq_refl, br_true]
              rw [if_neg (fun h => by subst h; exact h1 hj1)]
            · rw [beq_false hj1]
              simp only [br_false]
              rw [hu (Nat.pred (Nat.div j 2))]
              have : (Nat.pred (Nat.div j 2) = Nat.pred (Nat.div i 2)) ↔ j = i := by
                have e1 : ¬ j % 2 = 1 := hj1
                have e2 : ¬ i % 2 = 1 := h1
                have e3 : Nat.pred (Nat.div j 2) = j / 2 - 1 := rfl
                have e4 : Nat.pred (Nat.div i 2) = i / 2 - 1 := rfl
                rw [e3, e4]; omega
              by_cases hji : j = i
              · rw [if_pos hji, if_pos (this.2 hji)]
              · rw [if_neg hji, if_neg (fun h => hji (this.1 h))]
    cases t with
    | lf => exact key .lf none .lf (fun j => by rw [Tr.get_lf, Tr.get_n, Tr.get_lf, Tr.get_lf]; cases Nat.beq j 0 <;> cases Nat.beq (Nat.mod j 2) 1 <;> rfl) h
    | n l v r => exact key l v r (fun _ => rfl) h

/-! ### what values mean -/
structure Nu where
  blk : Nat → Option Nat
  cap : Nat → Option Nat
  slk : Nat → Option (List Value)
structure Nu.le (a b : Nu) : Prop where
  blk : ∀ i x, a.blk i = some x → b.blk i = some x
  cap : ∀ i x, a.cap i = some x → b.cap i = some x
  slk : ∀ i x, a.slk i = some x → b.slk i = some x
theorem Nu.le.refl (a : Nu) : a.le a := ⟨fun _ _ h => h, fun _ _ h => h, fun _ _ h => h⟩
theorem Nu.le.trans {a b c : Nu} (h : a.le b) (k : b.le c) : a.le c := ⟨fun i x hx => k.blk i x (h.blk i x hx), fun i x hx => k.cap i x (h.cap i x hx), fun i x hx => k.slk i x (h.slk i x hx)⟩

def bs (l : List Nat) : ByteArray := ⟨(l.map UInt8.ofNat).toArray⟩
def gA (ν : Nu) : Option (Nat × Nat) → Option (Option Addr)
  | none => some none
  | some a => (ν.blk a.1).map fun b => some ⟨b, a.2, none⟩
def gC (ν : Nu) (lo : Nat) : Option (Nat × Nat) → Option Nat
  | none => some lo
  | some q => match ν.cap q.1 with
    | some c => if q.2 + lo ≤ c then some (c - q.2) else none
    | none => none
def gM (ν : Nu) : Option Nat → Option (Option Nat)
  | none => some none
  | some i => (ν.blk i).map some
mutual
def gv (ν : Nu) : AV → Option Value
  | .b x => some (.bool x)
  | .i k n => some (.int k n)
  | .s x => if x.all (fun n => Nat.blt n 256) = true then some (.string (bs x)) else none
  | .p a => (gA ν a).map .pointer
  | .sl a len lo sym => match gA ν a, gC ν lo sym with
    | some A, some c => if len ≤ lo then some (.slice A len c) else none
    | _, _ => none
  | .m r => (gM ν r).map .map
  | .f g x y => match gvs ν x, gvs ν y with
    | some us, some vs => some (.func (.func g) us.toArray vs.toArray)
    | _, _ => none
  | .nf => some .nilFunc
  | .ifc t v => (gv ν v).map (.iface t)
  | .ni => some .nilIface
  | .agg cs => (gvs ν cs).map fun l => .agg l.toArray
  | .tup cs => (gvs ν cs).map fun l => .tuple l.toArray
def gvs (ν : Nu) : List AV → Option (List Value)
  | [] => some []
  | v :: r => match gv ν v, gvs ν r with
    | some x, some l => some (x :: l)
    | _, _ => none
end
def ges (ν : Nu) : List (AV × AV × Nat) → Option (List MapEntry)
  | [] => some []
  | e :: r => match gv ν e.1, gv ν e.2.1, ges ν r with
    | some k, some v, some l => some (⟨k, v, e.2.2⟩ :: l)
    | _, _, _ => none
def gS (ν : Nu) : Option Nat → Option (List Value)
  | none => some []
  | some j => ν.slk j
def frz (fr : Bool) (n : Nat) : Nat × Nat := if fr = true then (n, n + 1) else (0, 0)
def go (ν : Nu) : AO → Option Obj
  | .cells cs e sl fr => match gvs ν cs, gS ν sl with
    | some vs, some l => some (.cells (vs ++ l).toArray e (frz fr (vs ++ l).length))
    | _, _ => none
  | .map es clock => (ges ν es).map fun l => .map l.toArray clock
  | .mit m a l b => (gM ν m).map fun r => .mapIter r a l.toArray b

theorem gA_mono {ν ν' : Nu} (h : ν.le ν') {a : Option (Nat × Nat)} {x : Option Addr} (hx : gA ν a = some x) : gA ν' a = some x := by
  cases a with
  | none => exact hx
  | some a =>
    simp only [gA] at hx ⊢
    cases hb : ν.blk a.1 with
    | none => simp [hb] at hx
    | some b => rw [h.blk _ _ hb]; rw [hb] at hx; exact hx
theorem gC_mono {ν ν' : Nu} (h : ν.le ν') {lo : Nat} {q : Option (Nat × Nat)} {x : Nat} (hx : gC ν lo q = some x) : gC ν' lo q = some x := by
  cases q with
  | none => exact hx
  | some q =>
    simp only [gC] at hx ⊢
    cases hb : ν.cap q.1 with
    | none => simp [hb] at hx
    | some b => rw [h.cap _ _ hb]; rw [hb] at hx; exact hx
theorem gM_mono {ν ν' : Nu} (h : ν.le ν') {a : Option Nat} {x : Option Nat} (hx : gM ν a = some x) : gM ν' a = some x := by
  cases a with
  | none => exact hx
  | some a =>
    simp only [gM] at hx ⊢
    cases hb : ν.blk a with
    | none => simp [hb] at hx
    | some b => rw [h.blk _ _ hb]; rw [hb] at hx; exact hx
mutual
theorem gv_mono {ν ν' : Nu} (h : ν.le ν') : ∀ (a : AV) (v : Value), gv ν a = some v → gv ν' a = some v
  | .b _, _, hv => by simpa [gv] using hv
  | .i _ _, _, hv => by simpa [gv] using hv
  | .s _, _, hv => by simpa [gv] using hv
  | .p a, v, hv => by
    simp only [gv] at hv ⊢
    cases ha : gA ν a with
    | none => simp [ha] at hv
    | some A => rw [gA_mono h ha]; rw [ha] at hv; exact hv
  | .sl a len lo sym, v, hv => by
    simp only [gv] at hv ⊢
    cases ha : gA ν a with
    | none => simp [ha] at hv
    | some A =>
      cases hc : gC ν lo sym with
      | none => simp [ha, hc] at hv
      | some c => rw [gA_mono h ha, gC_mono h hc]; rw [ha, hc] at hv; exact hv
  | .m r, v, hv => by
    simp only [gv] at hv ⊢
    cases ha : gM ν r with
    | none => simp [ha] at hv
    | some A => rw [gM_mono h ha]; rw [ha] at hv; exact hv
  | .f g x y, v, hv => by
    simp only [gv] at hv ⊢
    cases hx : gvs ν x with
    | none => simp [hx] at hv
    | some us =>
      cases hy : gvs ν y with
      | none => simp [hx, hy] at hv
      | some vs => rw [gvs_mono h x us hx, gvs_mono h y vs hy]; rw [hx, hy] at hv; exact hv
  | .nf, _, hv => by simpa [gv] using hv
  | .ifc t a, v, hv => by
    simp only [gv] at hv ⊢
    cases ha : gv ν a with
    | none => simp [ha] at hv
    | some A => rw [gv_mono h a A ha]; rw [ha] at hv; exact hv
  | .ni, _, hv => by simpa [gv] using hv
  | .agg cs, v, hv => by
    simp only [gv] at hv ⊢
    cases ha : gvs ν cs with
    | none => simp [ha] at hv
    | some A => rw [gvs_mono h cs A ha]; rw [ha] at hv; exact hv
  | .tup cs, v, hv => by
    simp only [gv] at hv ⊢
    cases ha : gvs ν cs with
    | none => simp [ha] at hv
    | some A => rw [gvs_mono h cs A ha]; rw [ha] at hv; exact hv
theorem gvs_mono {ν ν' : Nu} (h : ν.le ν') : ∀ (l : List AV) (vs : List Value), gvs ν l = some vs → gvs ν' l = some vs
  | [], _, hv => by simpa [gvs] using hv
  | a :: r, vs, hv => by
    simp only [gvs] at hv ⊢
    cases ha : gv ν a with
    | none => simp [ha] at hv
    | some x =>
      cases hr : gvs ν r with
      | none => simp [ha, hr] at hv
      | some l => rw [gv_mono h a x ha, gvs_mono h r l hr]; rw [ha, hr] at hv; exact hv
end
theorem ges_mono {ν ν' : Nu} (h : ν.le ν') : ∀ (l : List (AV × AV × Nat)) (es : List MapEntry), ges ν l = some es → ges ν' l = some es
  | [], _, hv => by simpa [ges] using hv
  | e :: r, es, hv => by
    simp only [ges] at hv ⊢
    cases ha : gv ν e.1 with
    | none => simp [ha] at hv
    | some x =>
      cases hb : gv ν e.2.1 with
      | none => simp [ha, hb] at hv
      | some y =>
        cases hr : ges ν r with
        | none => simp [ha, hb, hr] at hv
        | some l => rw [gv_mono h _ _ ha, gv_mono h _ _ hb, ges_mono h r l hr]; rw [ha, hb, hr] at hv; exact hv
theorem go_mono {ν ν' : Nu} (h : ν.le ν') {a : AO} {o : Obj} (ho : go ν a = some o) : go ν' a = some o := by
  cases a with
  | cells cs e sl fr =>
    simp only [go] at ho ⊢
    cases ha : gvs ν cs with
    | none => simp [ha] at ho
    | some vs =>
      cases hs : gS ν sl with
      | none => simp [ha, hs] at ho
      | some l =>
        have hs' : gS ν' sl = some l := by
          cases sl with
          | none => exact hs
          | some j => exact h.slk _ _ hs
        rw [gvs_mono h _ _ ha, hs']; rw [ha, hs] at ho; exact ho
  | map es clock =>
    simp only [go] at ho ⊢
    cases ha : ges ν es with
    | none => simp [ha] at ho
    | some l => rw [ges_mono h _ _ ha]; rw [ha] at ho; exact ho
  | mit m a l b =>
    simp only [go] at ho ⊢
    cases ha : gM ν m with
    | none => simp [ha] at ho
    | some r => rw [gM_mono h ha]; rw [ha] at ho; exact ho
end Go.Ev
