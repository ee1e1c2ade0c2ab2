/- The reference's error of a tick. Conditions: the arguments read as data, the launches are of jobs of the task. -/
import Derived.Test.YtfidaamledbmpaaRefD
namespace Go.Proofs.Ytfidaamledbmpaa
open Go.Lx Go.RowKit
attribute [local instance 10] Classical.propDecidable

section
variable {P : Program} {cx : Cx} {r : Operand → Option Value} {fz : FZ} {H : HP} {V : Value → Prop} {dst : Option Nat} {ty : TypeId} {pos : String} {af : Array Edge} {gd : Option (Nat × Bool)}
/-- 'x[:j]' -/
theorem q_slice_to (T : Tab P) {t e : TypeId} {x i : Operand} {X Y : Ty} {A : Option Addr} {n c j : Nat} (hT : T.inf t = some X) (hd : X.desc = .slice e) (hY : T.inf e = some Y)
    (hx : r x = some (.slice A n c)) (hi : r i = some (.int .i64 j)) (hj : j ≤ c) (h : V (.slice A j c)) : DoesQ P cx ⟨dst, .slice t x none (some i) none, ty, pos, af, gd⟩ r fz H V :=
  doesQ_of (fun ρ w hr => by
    have hu := run_underlying (und_plain T hT hd rfl) w
    have hs := Lx.run_sizeOf T hY w
    simp [execOp, hr _ _ hx, hr _ _ hi, Instr.sliceAt, Instr.slice, Instr.sliceBounds, Instr.sliceBound, asIntOf, hu, hs, hj]
    intro _
    cases A <;> simp [Addr.add]) h
end
theorem sl_take {α : Type} {L : Lay α} {fz : FZ} {A : Option Addr} {n c : Nat} {xs : List α} (h : Sl L fz A n c xs) {k : Nat} (hk : k ≤ n) : Sl L fz A k c (xs.take k) := by
  have := h.len
  have := h.cap
  have := h.short
  refine ⟨by simp; omega, by omega, h.max, by omega, ?_⟩
  rcases h.elem with h0 | ⟨ad, h1, h2⟩
  · exact .inl (by omega)
  · refine .inr ⟨ad, h1, fun i d hd => h2 i d ?_⟩
    rw [List.getElem?_take] at hd
    split at hd
    · exact hd
    · cases hd
end Go.Proofs.Ytfidaamledbmpaa
