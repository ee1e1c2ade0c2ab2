/- The texts YRowCA, laid together. Conditions: none. -/
import Derived.JoinedOf
import Derived.Test.YtfjopfinkdhmaaaGreatDoorRows
set_option linter.all false
namespace Go.Proofs.YtfjopfinkdhmaaaGreatDoor
set_option maxRecDepth 100000 in
set_option maxHeartbeats 4000000 in
theorem Ygp:joinedFacts Tryz.prog 3 Tryz.f3 (OpenSpec.ofChange Rows.printerCasesSpec).bare Rows.printerCasesRow=true:=by
 unfold joinedFacts
 simp only [Bool.and_eq_true]
 and_intros<;>(as_aux_lemma=>kernel_rfl)
theorem YdW:Tryz.prog.funcNamed "stratagem/stratagemlaw12.PrinterCases"=some 3:=by kernel_rfl
end Go.Proofs.YtfjopfinkdhmaaaGreatDoor
