/- The texts GRowHA, laid together. Conditions: none. -/
import Derived.Test.YtegmololhnipiaaGreatDoorRows
import Derived.JoinedOf
namespace Go.Proofs.YtegmololhnipiaaGreatDoor
set_option maxRecDepth 100000 in
set_option maxHeartbeats 4000000 in
theorem gholds_closed : joinedFacts Tryz.prog 6 Tryz.f6 Rows.groundHoldsSpec Rows.groundHoldsRow = true := by
  unfold joinedFacts
  simp only [Bool.and_eq_true]
  and_intros <;> (as_aux_lemma => kernel_rfl)
theorem gholds_named : Tryz.prog.funcNamed "stratagem/stratagemlaw18.GroundHolds" = some 6 := by kernel_rfl
end Go.Proofs.YtegmololhnipiaaGreatDoor
