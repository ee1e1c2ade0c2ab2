/- The texts KRowA, laid together. Conditions: none. -/
import Derived.Test.YtiligkgjcmokbaaGreatDoorKSD
import Derived.JoinedOf
import Derived.Test.YtiligkgjcmokbaaGreatDoorRows
set_option linter.all false
namespace Go.Proofs.YtiligkgjcmokbaaGreatDoor
set_option maxRecDepth 100000 in
set_option maxHeartbeats 4000000 in
theorem YhP:joinedFacts Tryz.prog 3 Tryz.f3 (Rows.OpenSpec.upto Rows.printerSortedSpec).bare Rows.printerSortedUptoRow=true:=by
 unfold joinedFacts;simp only [Bool.and_eq_true]
 and_intros<;>(as_aux_lemma=>kernel_rfl)
theorem YeO:Tryz.prog.funcNamed "stratagem/stratagemlaw12.PrinterSorted"=some 3:=by kernel_rfl
end Go.Proofs.YtiligkgjcmokbaaGreatDoor
