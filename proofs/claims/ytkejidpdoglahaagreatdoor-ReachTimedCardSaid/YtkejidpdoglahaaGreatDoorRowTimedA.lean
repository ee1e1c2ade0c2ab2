/- ReachTimed's row: its closed facts. Conditions: none. -/
import Derived.Test.YtkejidpdoglahaaGreatDoorRows
import Derived.JoinedOf
namespace Go.Proofs.YtkejidpdoglahaaGreatDoor
set_option maxRecDepth 100000 in
set_option maxHeartbeats 4000000 in
theorem timed_closed : joinedFacts Tryz.prog 6 Tryz.f6 Rows.reachTimedSpec Rows.reachTimedRow = true := by
  unfold joinedFacts
  simp only [Bool.and_eq_true]
  and_intros <;> (as_aux_lemma => kernel_rfl)
theorem timed_named : Tryz.prog.funcNamed "stratagem/stratagemlaw17.ReachTimed" = some 6 := by kernel_rfl
end Go.Proofs.YtkejidpdoglahaaGreatDoor
