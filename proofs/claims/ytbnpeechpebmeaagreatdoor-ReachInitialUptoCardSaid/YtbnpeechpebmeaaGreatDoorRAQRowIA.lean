/- The texts QRowIA, laid together. Conditions: none. -/
import Derived.JoinedOf
import Derived.Test.YtbnpeechpebmeaaGreatDoorRows
set_option linter.all false
namespace Go.Proofs.YtbnpeechpebmeaaGreatDoor
set_option maxRecDepth 100000 in
set_option maxHeartbeats 4000000 in
theorem YeI:joinedFacts Tryz.prog 4 Tryz.f4 (Rows.OpenSpec.upto Rows.reachInitialSpec).bare Rows.reachInitialUptoRow=true:=by
 unfold joinedFacts
 simp only [Bool.and_eq_true]
 and_intros<;>(as_aux_lemma=>kernel_rfl)
theorem Ycp:Tryz.prog.funcNamed "stratagem/stratagemlaw17.ReachInitial"=some 4:=by kernel_rfl
end Go.Proofs.YtbnpeechpebmeaaGreatDoor
