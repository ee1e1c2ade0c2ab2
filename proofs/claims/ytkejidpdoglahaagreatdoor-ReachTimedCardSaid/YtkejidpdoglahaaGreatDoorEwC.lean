/- The tables of a program's types and functions: checked by looking. Conditions: none. -/
import Derived.Test.YtkejidpdoglahaaGreatDoorEwB
namespace Go.Ev
open Go.Lx Go.RowKit

def nnEq : List (Nat × Nat) → List (Nat × Nat) → Bool
  | [], [] => true
  | x :: r, y :: q => Nat.beq x.1 y.1 && (Nat.beq x.2 y.2 && nnEq r q)
  | _, _ => false
theorem nnEq_iff : ∀ {a b : List (Nat × Nat)}, nnEq a b = true → a = b
  | [], [], _ => rfl
  | [], _ :: _, h => by cases h
  | _ :: _, [], h => by cases h
  | (a, b) :: r, (c, d) :: q, h => by
    simp only [nnEq, Bool.and_eq_true] at h
    rw [Nat.eq_of_beq_eq_true h.1, Nat.eq_of_beq_eq_true h.2.1, nnEq_iff h.2.2]
def kdB (d : TypeDesc) (a : TyA) : Bool := match d with
  | .bool => Nat.beq a.k 0
  | .int ik => Nat.beq a.k 1 && kEq ik a.ik
  | .string => Nat.beq a.k 2
  | .pointer e => Nat.beq a.k 3 && Nat.beq e a.e
  | .slice e => Nat.beq a.k 4 && Nat.beq e a.e
  | .array n e => Nat.beq a.k 5 && (Nat.beq n a.n && Nat.beq e a.e)
  | .map k e => Nat.beq a.k 6 && (Nat.beq k a.n && Nat.beq e a.e)
  | .interface _ => Nat.beq a.k 7
  | .func _ _ _ => Nat.beq a.k 8
  | .struct fs => Nat.beq a.k 9 && nnEq (fs.toList.map fun f => (f.type, f.offset)) a.fs
  | _ => Nat.beq a.k 10
def isAggV : Value → Bool
  | .agg _ => true
  | _ => false
def zeroB (X : Ty) (a : TyA) : Bool := match ofVs X.zero.cells.toList with
  | some l => avsEq l a.zero
  | none => false
def trB (X : Ty) (a : TyA) : Bool := Nat.beq X.size a.size && (Nat.beq X.bytes a.bytes && ((isAggD X.desc == a.agg) && ((isAggV X.zero == a.agg) && (zeroB X a && (kdB X.desc a && (!(isIfaceD X.desc) || Nat.beq a.k 7))))))
theorem trB_s {X : Ty} {a : TyA} (h : trB X a = true) : TR X a := by
  simp only [trB, Bool.and_eq_true, beq_iff_eq, Bool.or_eq_true, Bool.not_eq_true'] at h
  obtain ⟨h1, h2, h3, h4, h5, h6, h7⟩ := h
  have hz : ofVs X.zero.cells.toList = some a.zero := by
    unfold zeroB at h5
    cases hl : ofVs X.zero.cells.toList with
    | none => rw [hl] at h5; cases h5
    | some l => rw [hl] at h5; rw [avsEq_iff _ _ h5]
  have hk : ∀ n : Nat, a.k = n → kdB X.desc a = true := fun _ _ => h6
  have bt : ∀ {x y : Nat}, Nat.beq x y = true → x = y := fun h => Nat.eq_of_beq_eq_true h
  refine ⟨bt h1, bt h2, h3, ⟨X.zero.cells.toList, ofVs_s hz, by simp⟩, fun ha => ?_, fun ha => ?_, fun ha => ?_, fun hk => ?_, fun hk => ?_, fun hk => ?_, fun hk => ?_, fun hk => ?_, fun hk => ?_, fun hk => ?_, fun hk => ?_, fun hk => ?_, fun hk => ?_⟩
  · rw [ha] at h4
    cases hv : X.zero with
    | agg cs => exact ⟨cs, rfl⟩
    | _ => rw [hv] at h4; cases h4
  · rw [ha] at h4
    have hc : X.zero.cells.toList = [X.zero] := by
      cases hv : X.zero with
      | agg cs => rw [hv] at h4; cases h4
      | _ => rfl
    rw [hc] at hz
    simp only [ofVs] at hz
    cases h8 : ofV1 X.zero with
    | none => simp [h8] at hz
    | some z =>
      simp only [h8] at hz
      injection hz with hz
      exact ⟨z, hz.symm, ofV1_s h8⟩
  · rcases h7 with h7 | h7
    · exact h7
    · exact absurd (bt h7) ha
  all_goals
    unfold kdB at h6
    cases hd : X.desc <;> rw [hd] at h6 <;> simp only [Bool.and_eq_true] at h6 <;>
      first
      | rfl
      | (exfalso; have h9 := bt h6; omega)
      | (exfalso; have h9 := bt h6.1; omega)
      | (rw [kEq_iff h6.2])
      | (rw [bt h6.2])
      | (rw [bt h6.2.1, bt h6.2.2])
      | exact ⟨_, rfl⟩
      | exact ⟨_, _, _, rfl⟩
      | exact ⟨_, rfl, nnEq_iff h6.2⟩

def allB {α : Type} (q : Nat → α → Bool) : Tr α → Bool
  | .lf => true
  | .n l v r => (match v with
    | some a => q 0 a
    | none => true) && (allB (fun i a => q (2 * i + 1) a) l && allB (fun i a => q (2 * i + 2) a) r)
def AllT {α : Type} (Q : Nat → α → Prop) : Tr α → Prop
  | .lf => True
  | .n l v r => (match v with
    | some a => Q 0 a
    | none => True) ∧ AllT (fun i a => Q (2 * i + 1) a) l ∧ AllT (fun i a => Q (2 * i + 2) a) r
theorem AllT_s {α : Type} : ∀ {t : Tr α} {Q : Nat → α → Prop}, AllT Q t → ∀ i a, t.get i = some a → Q i a
  | .lf, Q, _, i, a, h => by cases h
  | .n l v r, Q, ⟨h1, h2, h3⟩, i, a, h => by
    rw [Tr.get_n] at h
    by_cases h0 : i = 0
    · subst h0
      have h' : v = some a := h
      subst h'
      exact h1
    · rw [beq_false h0, br_false] at h
      by_cases hm : Nat.mod i 2 = 1
      · rw [hm] at h
        have := AllT_s h2 _ a h
        have e1 : i % 2 = 1 := hm
        have e2 : Nat.div i 2 = i / 2 := rfl
        rw [show 2 * Nat.div i 2 + 1 = i from by rw [e2]; omega] at this
        exact this
      · rw [beq_false hm, br_false] at h
        have := AllT_s h3 _ a h
        have e1 : ¬ i % 2 = 1 := hm
        have e2 : Nat.pred (Nat.div i 2) = i / 2 - 1 := rfl
        rw [show 2 * Nat.pred (Nat.div i 2) + 2 = i from by rw [e2]; omega] at this
        exact this
theorem allB_s {α : Type} : ∀ {t : Tr α} {q : Nat → α → Bool}, allB q t = true → AllT (fun i a => q i a = true) t
  | .lf, _, _ => trivial
  | .n l v r, q, h => by
    simp only [allB, Bool.and_eq_true] at h
    refine ⟨?_, allB_s h.2.1, allB_s h.2.2⟩
    cases v with
    | none => trivial
    | some a => exact h.1
def taQ {P : Program} (T : Tab P) (i : Nat) (a : TyA) : Bool := match T.inf i with
  | some X => trB X a
  | none => false
theorem TA_of {P : Program} {T : Tab P} {t : Tr TyA} (h : allB (taQ T) t = true) : TA t.get T := fun i a ha => by
  have := AllT_s (allB_s h) i a ha
  simp only [taQ] at this
  cases hX : T.inf i with
  | none => rw [hX] at this; cases this
  | some X => rw [hX] at this; exact ⟨X, rfl, trB_s this⟩
theorem FA_of {P : Program} {tT : TT} {t : Tr FE} (h : AllT (FOk P tT) t) : FA P tT t.get := fun g f hg => AllT_s h g f hg
/-- with a call more that is known -/
noncomputable def withM (F : FF) (g : FuncId) (f : FE) : FF := fun i => br (F i) (some f) (Nat.beq i g)
theorem FA_with {P : Program} {tT : TT} {F : FF} {g : FuncId} {f : FE} (h : FA P tT F) (hf : FOk P tT g f) : FA P tT (withM F g f) := fun i x hx => by
  unfold withM at hx
  cases hb : Nat.beq i g with
  | true => rw [hb, br_true] at hx; injection hx with hx; subst hx; rw [Nat.eq_of_beq_eq_true hb]; exact hf
  | false => rw [hb, br_false] at hx; exact h i x hx
end Go.Ev
