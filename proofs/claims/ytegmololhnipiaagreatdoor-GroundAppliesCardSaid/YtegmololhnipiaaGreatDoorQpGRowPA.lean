/- The texts GRowPA, laid together. Conditions: none. -/
import Derived.Test.YtegmololhnipiaaGreatDoorRows
import Derived.JoinedOf
namespace Go.Proofs.YtegmololhnipiaaGreatDoor
set_option maxRecDepth 100000 in
set_option maxHeartbeats 4000000 in
theorem gapplies_closed : joinedFacts Tryz.prog 5 Tryz.f5 Rows.groundAppliesSpec Rows.groundAppliesRow = true := by
  unfold joinedFacts
  simp only [Bool.and_eq_true]
  and_intros <;> (as_aux_lemma => kernel_rfl)
theorem gapplies_named : Tryz.prog.funcNamed "stratagem/stratagemlaw18.GroundApplies" = some 5 := by kernel_rfl
end Go.Proofs.YtegmololhnipiaaGreatDoor
