/- The texts PRowDA, laid together. Conditions: none. -/
import Derived.Test.YtbhlgkibgajajaaGreatDoorRows
import Derived.JoinedOf
namespace Go.Proofs.YtbhlgkibgajajaaGreatDoor
set_option maxRecDepth 100000 in
set_option maxHeartbeats 4000000 in
theorem YeE:joinedFacts Tryz.prog 3 Tryz.f3 (Rows.OpenSpec.upto Rows.printerDomainSpec).bare Rows.printerDomainUptoRow=true:=by
 unfold joinedFacts
 simp only [Bool.and_eq_true]
 and_intros<;>(as_aux_lemma=>kernel_rfl)
theorem Ycw:Tryz.prog.funcNamed "stratagem/stratagemlaw12.PrinterDomain"=some 3:=by kernel_rfl
end Go.Proofs.YtbhlgkibgajajaaGreatDoor
