/- The texts GRowFA, laid together. Conditions: none. -/
import Derived.Test.YtegmololhnipiaaGreatDoorRows
import Derived.JoinedOf
namespace Go.Proofs.YtegmololhnipiaaGreatDoor
set_option maxRecDepth 100000 in
set_option maxHeartbeats 4000000 in
theorem gframe_closed : joinedFacts Tryz.prog 4 Tryz.f4 Rows.groundFrameSpec Rows.groundFrameRow = true := by
  unfold joinedFacts
  simp only [Bool.and_eq_true]
  and_intros <;> (as_aux_lemma => kernel_rfl)
theorem gframe_named : Tryz.prog.funcNamed "stratagem/stratagemlaw18.GroundFrame" = some 4 := by kernel_rfl
end Go.Proofs.YtegmololhnipiaaGreatDoor
