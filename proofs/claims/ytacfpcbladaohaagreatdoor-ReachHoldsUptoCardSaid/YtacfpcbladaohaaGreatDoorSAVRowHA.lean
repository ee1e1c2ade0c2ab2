/- The texts VRowHA, laid together. Conditions: none. -/
import Derived.Test.YtacfpcbladaohaaGreatDoorSAD
import Derived.JoinedOf
import Derived.Test.YtacfpcbladaohaaGreatDoorRows
set_option linter.all false
namespace Go.Proofs.YtacfpcbladaohaaGreatDoor
set_option maxRecDepth 100000 in
set_option maxHeartbeats 4000000 in
theorem YiD:joinedFacts Tryz.prog 3 Tryz.f3 (Rows.OpenSpec.upto Rows.reachHoldsSpec).bare Rows.reachHoldsUptoRow=true:=by
 unfold joinedFacts;simp only [Bool.and_eq_true]
 and_intros<;>(as_aux_lemma=>kernel_rfl)
theorem Yff:Tryz.prog.funcNamed "stratagem/stratagemlaw17.ReachHolds"=some 3:=by kernel_rfl
end Go.Proofs.YtacfpcbladaohaaGreatDoor
