/- The texts YRowRA, laid together. Conditions: none. -/
import Derived.JoinedOf
import Derived.Test.YtfjopfinkdhmaaaGreatDoorRows
set_option linter.all false
namespace Go.Proofs.YtfjopfinkdhmaaaGreatDoor
set_option maxRecDepth 100000 in
set_option maxHeartbeats 4000000 in
theorem Yfd:joinedFacts Tryz.prog 4 Tryz.f4 (Rows.OpenSpec.upto Rows.printerReturnsSpec).bare Rows.printerReturnsUptoRow=true:=by
 unfold joinedFacts;simp only [Bool.and_eq_true]
 and_intros<;>(as_aux_lemma=>kernel_rfl)
theorem Ydc:Tryz.prog.funcNamed "stratagem/stratagemlaw12.PrinterReturns"=some 4:=by kernel_rfl
end Go.Proofs.YtfjopfinkdhmaaaGreatDoor
