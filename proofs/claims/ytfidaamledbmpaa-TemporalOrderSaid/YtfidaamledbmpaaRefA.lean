/- The reference's happenings of a tick, and the state after them. Conditions: the arguments read as data, the launches are of jobs of the task. -/
import Derived.Test.YtfidaamledbmpaaWalkI
namespace Go.Proofs.Ytfidaamledbmpaa
open Go.Lx Go.RowKit
attribute [local instance 10] Classical.propDecidable

/-! ### the happenings of a tick, by index of the launch -/
def hitP (t : Temporal) (tick : Int) (e : Bool) (j : Nat) (x : Launch) : Prop := x.job = j ∧ ((e = true ∧ endM t x = tick) ∨ (e = false ∧ x.at_ = tick))
instance (t : Temporal) (tick : Int) (e : Bool) (j : Nat) (x : Launch) : Decidable (hitP t tick e j x) := by unfold hitP; infer_instance
def hitL (t : Temporal) (ls : List Launch) (tick : Int) (e : Bool) (j i : Nat) : List Hap := match ls[i]? with
  | some x => if hitP t tick e j x then [((i : Int), e)] else []
  | none => []
def selI (t : Temporal) (ls : List Launch) (tick : Int) (e : Bool) (j a : Nat) : List Hap := (List.range a).flatMap (hitL t ls tick e j)
def refE (t : Temporal) (ls : List Launch) (tick : Int) (e : Bool) (k : Nat) : List Hap := (List.range k).flatMap fun j => selI t ls tick e j ls.length
def refAt (t : Temporal) (ls : List Launch) (tick : Int) : List Hap := [true, false].flatMap fun e => refE t ls tick e t.jobs.length

theorem flat_len {α β : Type} (f : α → List β) (b : Nat) : ∀ l : List α, (∀ x ∈ l, (f x).length ≤ b) → (l.flatMap f).length ≤ l.length * b
  | [], _ => by simp
  | x :: r, h => by
    have h1 := flat_len f b r (fun y hy => h y (by simp [hy]))
    have h2 := h x (by simp)
    rw [List.flatMap_cons, List.length_append, List.length_cons, Nat.add_mul]
    omega
theorem hitL_len (t : Temporal) (ls : List Launch) (tick : Int) (e : Bool) (j i : Nat) : (hitL t ls tick e j i).length ≤ 1 := by
  unfold hitL
  split
  · split <;> simp
  · simp
theorem selI_len (t : Temporal) (ls : List Launch) (tick : Int) (e : Bool) (j a : Nat) : (selI t ls tick e j a).length ≤ a := by
  have := flat_len (hitL t ls tick e j) 1 (List.range a) (fun x _ => hitL_len t ls tick e j x)
  simpa [selI] using this
theorem refE_len (t : Temporal) (ls : List Launch) (tick : Int) (e : Bool) (k : Nat) : (refE t ls tick e k).length ≤ k * ls.length := by
  have := flat_len (fun j => selI t ls tick e j ls.length) ls.length (List.range k) (fun x _ => selI_len t ls tick e x _)
  simpa [refE] using this
theorem selI_succ {t : Temporal} {ls : List Launch} {tick : Int} {e : Bool} {j a : Nat} {x : Launch} (h : ls[a]? = some x) : selI t ls tick e j (a + 1) = selI t ls tick e j a ++ (if hitP t tick e j x then [((a : Int), e)] else []) := by
  simp [selI, List.range_succ, hitL, h]
theorem refE_succ (t : Temporal) (ls : List Launch) (tick : Int) (e : Bool) (k : Nat) : refE t ls tick e (k + 1) = refE t ls tick e k ++ selI t ls tick e k ls.length := by simp [refE, List.range_succ]

/-- a happening by job -/
def jobH (ls : List Launch) (h : Hap) : Hap := (((ls[h.1.toNat]?).map (·.job)).getD 0, h.2)
theorem sel_map (t : Temporal) (ls : List Launch) (tick : Int) (e : Bool) (j : Nat) : ∀ a, a ≤ ls.length → (selI t ls tick e j a).map (jobH ls) = (ls.take a).flatMap fun x => if hitP t tick e j x then [(x.job, e)] else []
  | 0, _ => by simp [selI]
  | a + 1, h => by
    obtain ⟨x, hx⟩ := get_some (l := ls) (k := a) (by omega)
    rw [selI_succ hx, List.map_append, sel_map t ls tick e j a (by omega), List.take_add_one, hx, List.flatMap_append]
    congr 1
    by_cases hh : hitP t tick e j x
    · simp [hh, jobH, hx]
    · simp [hh]
theorem haps_sel (t : Temporal) (tick : Int) (e : Bool) (j : Nat) : ∀ ls : List Launch, selH (hapsM t ls tick) e j = ls.flatMap fun x => if hitP t tick e j x then [(x.job, e)] else []
  | [] => rfl
  | x :: r => by
    have ih := haps_sel t tick e j r
    have e1 : hapsM t (x :: r) tick = hapsL t x tick ++ hapsM t r tick := by simp [hapsM]
    rw [e1, List.flatMap_cons, ← ih]
    simp only [selH, List.filter_append]
    congr 1
    unfold hapsL hitP
    by_cases h1 : x.job = j <;> by_cases h2 : x.at_ = tick <;> by_cases h3 : endM t x = tick <;> cases e <;> simp [h1, h2, h3]
theorem ref_ord (t : Temporal) (ls : List Launch) (tick : Int) : (refAt t ls tick).map (jobH ls) = [true, false].flatMap (ordE t (hapsM t ls tick)) := by
  have key : ∀ e k, (refE t ls tick e k).map (jobH ls) = (List.range k).flatMap (selH (hapsM t ls tick) e) := fun e k => by
    induction k with
    | zero => simp [refE]
    | succ k ih => rw [refE_succ, List.map_append, ih, List.range_succ, List.flatMap_append, sel_map _ _ _ _ _ _ (Nat.le_refl _), List.take_length, ← haps_sel]; simp
  simp only [refAt, List.flatMap_cons, List.flatMap_nil, List.append_nil, List.map_append, key, ordE]
end Go.Proofs.Ytfidaamledbmpaa
