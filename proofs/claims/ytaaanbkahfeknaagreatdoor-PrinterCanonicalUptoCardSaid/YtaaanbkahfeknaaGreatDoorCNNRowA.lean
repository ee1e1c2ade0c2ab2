/- The texts NRowA, laid together. Conditions: none. -/
import Derived.Test.YtaaanbkahfeknaaGreatDoorCND
import Derived.JoinedOf
import Derived.Test.YtaaanbkahfeknaaGreatDoorRows
set_option linter.all false
namespace Go.Proofs.YtaaanbkahfeknaaGreatDoor
set_option maxRecDepth 100000 in
set_option maxHeartbeats 4000000 in
theorem Yb3:joinedFacts Tryz.prog 3 Tryz.f3 (Rows.OpenSpec.upto Rows.printerCanonicalSpec).bare Rows.printerCanonicalUptoRow=true:=by
 unfold joinedFacts;simp only [Bool.and_eq_true]
 and_intros<;>(as_aux_lemma=>kernel_rfl)
theorem YaQ:Tryz.prog.funcNamed "stratagem/stratagemlaw12.PrinterCanonical"=some 3:=by kernel_rfl
end Go.Proofs.YtaaanbkahfeknaaGreatDoor
