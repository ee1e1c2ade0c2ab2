/- The texts QRowTA, laid together. Conditions: none. -/
import Derived.JoinedOf
import Derived.Test.YtbnpeechpebmeaaGreatDoorRows
set_option linter.all false
namespace Go.Proofs.YtbnpeechpebmeaaGreatDoor
set_option maxRecDepth 100000 in
set_option maxHeartbeats 4000000 in
theorem Yf8:joinedFacts Tryz.prog 3 Tryz.f3 (OpenSpec.ofChange Rows.reachTermsSpec).bare Rows.reachTermsRow=true:=by
 unfold joinedFacts
 simp only [Bool.and_eq_true]
 and_intros<;>(as_aux_lemma=>kernel_rfl)
theorem YdC:Tryz.prog.funcNamed "stratagem/stratagemlaw17.ReachTerms"=some 3:=by kernel_rfl
end Go.Proofs.YtbnpeechpebmeaaGreatDoor
