/- The texts GRowVA, laid together. Conditions: none. -/
import Derived.Test.YtegmololhnipiaaGreatDoorRows
import Derived.JoinedOf
namespace Go.Proofs.YtegmololhnipiaaGreatDoor
set_option maxRecDepth 100000 in
set_option maxHeartbeats 4000000 in
theorem gvalid_closed : joinedFacts Tryz.prog 3 Tryz.f3 Rows.groundValidSpec Rows.groundValidRow = true := by
  unfold joinedFacts
  simp only [Bool.and_eq_true]
  and_intros <;> (as_aux_lemma => kernel_rfl)
theorem gvalid_named : Tryz.prog.funcNamed "stratagem/stratagemlaw18.GroundValid" = some 3 := by kernel_rfl
end Go.Proofs.YtegmololhnipiaaGreatDoor
