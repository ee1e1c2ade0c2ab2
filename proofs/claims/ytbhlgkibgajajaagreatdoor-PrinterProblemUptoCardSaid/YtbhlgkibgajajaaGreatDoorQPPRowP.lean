/- The texts PRowP, laid together. Conditions: none. -/
import Derived.Test.YtbhlgkibgajajaaGreatDoorQPO
import Derived.Test.YtbhlgkibgajajaaGreatDoorQPQ
import Derived.Test.YtbhlgkibgajajaaGreatDoorQPR
import Derived.Test.YtbhlgkibgajajaaGreatDoorQPS
import Derived.Test.YtbhlgkibgajajaaGreatDoorQPT
import Derived.Test.YtbhlgkibgajajaaGreatDoorQPU
import Derived.Test.YtbhlgkibgajajaaGreatDoorQPEwI
import Derived.Test.YtbhlgkibgajajaaGreatDoorQPK
import Derived.Test.YtbhlgkibgajajaaGreatDoorQPH
import Derived.Test.YtbhlgkibgajajaaGreatDoorQPI
import Derived.Test.YtbhlgkibgajajaaGreatDoorQPG
import Derived.Test.YtbhlgkibgajajaaGreatDoorQPJ
import Derived.Test.YtbhlgkibgajajaaGreatDoorQPL
import Derived.Test.YtbhlgkibgajajaaGreatDoorQPN
import Derived.Test.YtbhlgkibgajajaaGreatDoorQPF
import Derived.Test.YtbhlgkibgajajaaGreatDoorQPB
import Derived.Test.YtbhlgkibgajajaaGreatDoorQPC
import Derived.Test.YtbhlgkibgajajaaGreatDoorQPE
import Derived.Test.YtbhlgkibgajajaaGreatDoorQPM
import Derived.Test.YtbhlgkibgajajaaGreatDoorQPD
import Derived.Test.YtbhlgkibgajajaaGreatDoorQPP
import Derived.Test.YtbhlgkibgajajaaGreatDoorQPPRowPA
import Derived.Test.YtbhlgkibgajajaaGreatDoorQPW
import Derived.Test.YtbhlgkibgajajaaGreatDoorCards
import Derived.Test.YtbhlgkibgajajaaGreatDoorTie
import Derived.SevenTiedAt
namespace Go.Proofs.YtbhlgkibgajajaaGreatDoor
open Go.ChangeShapes Go.WideShapes Go.ChangeAt Go.RowKit Go.Lx
set_option maxHeartbeats 4000000 in
theorem pproblem_holds:Rows.PrinterProblemUptoSaid:=
 OpenClaim.holds_of_cond 5 Tryz.f5 rfl rfl rfl rfl rfl rfl rfl ⟨rfl,rfl,rfl,rfl,rfl⟩ rfl rfl rfl rfl rfl YbX Tryz.func5 YdI
  (of_decide_eq_true (by as_aux_lemma=>kernel_rfl)) (by unfold Func.isWrapper;first | (rw [if_pos (by decide+kernel)];kernel_rfl) | (rw [if_neg (by decide+kernel)];exact ⟨rfl,rfl⟩))
  (fun os started H enc _ F=>by rw [OpenClaim.pre_eq_preRow];exact YdH os started H enc F)
set_option maxHeartbeats 4000000 in
theorem pproblem_card:Rows.PrinterProblemUptoCardSaid:=
 Claim7.holds_tied_plain_at .later [] _ _ _ _ pproblem_holds (fun _ h=>by cases h) (by as_aux_lemma=>kernel_rfl) (fun _ h=>by cases h) printerProblemUpto_row_tie rfl ⟨rfl,rfl⟩ (by as_aux_lemma=>kernel_rfl) rfl
  (fun f fn hf hfn=>by
   obtain rfl:f=5:=Option.some.inj (YbX.symm.trans hf) |>.symm
   obtain rfl:fn=Tryz.f5:=(Option.some.inj (Tryz.func5.symm.trans hfn)).symm
   exact ⟨by as_aux_lemma=>kernel_rfl,fun j t ht=>by
    rw [Tryz.params5] at ht
    have hm:t∈ [38]:=by simpa using Array.mem_of_getElem? ht
    have hall:([38].all fun u=>!Tryz.prog.wantsStandIn u)=true:=by as_aux_lemma=>kernel_rfl
    exact (show Tryz.prog.wantsStandIn t=false by simpa using List.all_eq_true.1 hall t hm)⟩)
  (by as_aux_lemma=>kernel_rfl)
end Go.Proofs.YtbhlgkibgajajaaGreatDoor
