/- The texts KRow, laid together. Conditions: none. -/
import Derived.Test.YtiligkgjcmokbaaGreatDoorKSY
import Derived.SevenTiedAt
import Derived.Test.YtiligkgjcmokbaaGreatDoorCards
import Derived.Test.YtiligkgjcmokbaaGreatDoorTie
set_option linter.all false
set_option maxHeartbeats 4000000
namespace Go.Proofs.YtiligkgjcmokbaaGreatDoor
open Go.ChangeShapes Go.WideShapes Go.ChangeAt Go.RowKit Go.Lx
theorem qsorted_holds:Rows.PrinterSortedUptoSaid:=
 OpenClaim.holds_of_cond 3 Tryz.f3 rfl rfl rfl rfl rfl rfl rfl ⟨rfl,rfl,rfl,rfl,rfl⟩ rfl rfl rfl rfl rfl YeO Tryz.func3 YhP
  (of_decide_eq_true (by as_aux_lemma=>kernel_rfl)) (by unfold Func.isWrapper;first | (rw [if_pos (by decide+kernel)];kernel_rfl) | (rw [if_neg (by decide+kernel)];exact ⟨rfl,rfl⟩))
  (fun os started H enc _ F=>by rw [OpenClaim.pre_eq_preRow];exact YhO os started H enc F)
theorem qsorted_card:Rows.PrinterSortedUptoCardSaid:=
 Claim7.holds_tied_plain_at .later [] _ _ _ _ qsorted_holds (fun _ h=>by cases h) (by as_aux_lemma=>kernel_rfl) (fun _ h=>by cases h) printerSortedUpto_row_tie rfl ⟨rfl,rfl⟩ (by as_aux_lemma=>kernel_rfl) rfl
  (fun f fn hf hfn=>by
   obtain rfl:f=3:=Option.some.inj (YeO.symm.trans hf) |>.symm;obtain rfl:fn=Tryz.f3:=(Option.some.inj (Tryz.func3.symm.trans hfn)).symm;exact ⟨by as_aux_lemma=>kernel_rfl,fun j t ht=>by
    rw [Tryz.params3] at ht;have hm:t∈ [28,37]:=by simpa using Array.mem_of_getElem? ht
    have hall:([28,37].all fun u=>!Tryz.prog.wantsStandIn u)=true:=by as_aux_lemma=>kernel_rfl
    exact (show Tryz.prog.wantsStandIn t=false by simpa using List.all_eq_true.1 hall t hm)⟩)
  (by as_aux_lemma=>kernel_rfl)
end Go.Proofs.YtiligkgjcmokbaaGreatDoor
