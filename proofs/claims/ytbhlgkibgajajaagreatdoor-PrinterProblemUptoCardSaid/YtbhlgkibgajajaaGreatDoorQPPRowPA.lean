/- The texts PRowPA, laid together. Conditions: none. -/
import Derived.Test.YtbhlgkibgajajaaGreatDoorRows
import Derived.JoinedOf
namespace Go.Proofs.YtbhlgkibgajajaaGreatDoor
set_option maxRecDepth 100000 in
set_option maxHeartbeats 4000000 in
theorem YdI:joinedFacts Tryz.prog 5 Tryz.f5 (Rows.OpenSpec.upto Rows.printerProblemSpec).bare Rows.printerProblemUptoRow=true:=by
 unfold joinedFacts
 simp only [Bool.and_eq_true]
 and_intros<;>(as_aux_lemma=>kernel_rfl)
theorem YbX:Tryz.prog.funcNamed "stratagem/stratagemlaw12.PrinterProblem"=some 5:=by kernel_rfl
end Go.Proofs.YtbhlgkibgajajaaGreatDoor
