/- The texts VRowSA, laid together. Conditions: none. -/
import Derived.Test.YtdbfccanbbbjkaaGreatDoorSAD
import Derived.JoinedOf
import Derived.Test.YtdbfccanbbbjkaaGreatDoorRows
set_option linter.all false
namespace Go.Proofs.YtdbfccanbbbjkaaGreatDoor
set_option maxRecDepth 100000 in
set_option maxHeartbeats 4000000 in
theorem Yin:joinedFacts Tryz.prog 3 Tryz.f3 (Rows.OpenSpec.upto Rows.reachSoundSpec).bare Rows.reachSoundUptoRow=true:=by
 unfold joinedFacts;simp only [Bool.and_eq_true]
 and_intros<;>(as_aux_lemma=>kernel_rfl)
theorem Yfb:Tryz.prog.funcNamed "stratagem/stratagemlaw17.ReachSound"=some 3:=by kernel_rfl
end Go.Proofs.YtdbfccanbbbjkaaGreatDoor
