/- The texts PRowLA, laid together. Conditions: none. -/
import Derived.Test.YtbhlgkibgajajaaGreatDoorRows
import Derived.JoinedOf
namespace Go.Proofs.YtbhlgkibgajajaaGreatDoor
set_option maxRecDepth 100000 in
set_option maxHeartbeats 4000000 in
theorem Yeo:joinedFacts Tryz.prog 4 Tryz.f4 (Rows.OpenSpec.upto Rows.printerLinesSpec).bare Rows.printerLinesUptoRow=true:=by
 unfold joinedFacts
 simp only [Bool.and_eq_true]
 and_intros<;>(as_aux_lemma=>kernel_rfl)
theorem Yco:Tryz.prog.funcNamed "stratagem/stratagemlaw12.PrinterLines"=some 4:=by kernel_rfl
end Go.Proofs.YtbhlgkibgajajaaGreatDoor
