/- The texts VRowEA, laid together. Conditions: none. -/
import Derived.Test.YtbdpaoikccabhaaGreatDoorEAD
import Derived.JoinedOf
import Derived.Test.YtbdpaoikccabhaaGreatDoorRows
set_option linter.all false
namespace Go.Proofs.YtbdpaoikccabhaaGreatDoor
set_option maxRecDepth 100000 in
set_option maxHeartbeats 4000000 in
theorem Yiz:joinedFacts Tryz.prog 3 Tryz.f3 (Rows.OpenSpec.upto Rows.reachExactSpec).bare Rows.reachExactUptoRow=true:=by
 unfold joinedFacts;simp only [Bool.and_eq_true]
 and_intros<;>(as_aux_lemma=>kernel_rfl)
theorem Yfo:Tryz.prog.funcNamed "stratagem/stratagemlaw17.ReachExact"=some 3:=by kernel_rfl
end Go.Proofs.YtbdpaoikccabhaaGreatDoor
