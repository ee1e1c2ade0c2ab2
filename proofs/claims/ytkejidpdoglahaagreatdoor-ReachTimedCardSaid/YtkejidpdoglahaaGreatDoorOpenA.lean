/- A call that changes nothing, met from outside. Conditions: none. -/
import Derived.Test.YtkejidpdoglahaaGreatDoorBase
import Derived.ChangeSame
import Derived.Below
import Derived.ProofKit
namespace Go.Lx
open Go.RowKit

def fzOf (w : World) : FZ := fun g => w.heap[g]?
theorem cellF_of {w : World} {p : Addr} {v : Value} (h : w.cell? p = some v) : cellF (fzOf w) p = some v := by
  unfold World.cell? at h
  unfold cellF fzOf
  exact h
theorem hp_of (w : World) : Hp (fzOf w) [] w := ⟨fun _ _ h => h, by simp, by simp⟩
theorem below_of {w w' : World} (h : Fr [] w w') : Below w.heap.size w w' := ⟨h.os, h.tape, h.output, h.size, fun k hk => h.block k hk (by simp)⟩

theorem QFn.calls {P : Program} {f : FuncId} {args : List Value} {fz : FZ} {v : Value} (h : QFn P f args fz v) {w : World} (hw : Hp fz [] w) : Calls P f args.toArray w fun e w' => e = .returned v ∧ Fr [] w w' := by
  unfold QFn at h
  exact h.2 w hw

end Go.Lx
