/- The texts PRowD, laid together. Conditions: none. -/
import Derived.Test.YtbhlgkibgajajaaGreatDoorQDK
import Derived.Test.YtbhlgkibgajajaaGreatDoorQDL
import Derived.Test.YtbhlgkibgajajaaGreatDoorQDH
import Derived.Test.YtbhlgkibgajajaaGreatDoorQDI
import Derived.Test.YtbhlgkibgajajaaGreatDoorQDG
import Derived.Test.YtbhlgkibgajajaaGreatDoorQDJ
import Derived.Test.YtbhlgkibgajajaaGreatDoorQDM
import Derived.Test.YtbhlgkibgajajaaGreatDoorQDQ
import Derived.Test.YtbhlgkibgajajaaGreatDoorQDR
import Derived.Test.YtbhlgkibgajajaaGreatDoorQDS
import Derived.Test.YtbhlgkibgajajaaGreatDoorQDP
import Derived.Test.YtbhlgkibgajajaaGreatDoorQDT
import Derived.Test.YtbhlgkibgajajaaGreatDoorQDU
import Derived.Test.YtbhlgkibgajajaaGreatDoorQDEwI
import Derived.Test.YtbhlgkibgajajaaGreatDoorQDF
import Derived.Test.YtbhlgkibgajajaaGreatDoorQDB
import Derived.Test.YtbhlgkibgajajaaGreatDoorQDC
import Derived.Test.YtbhlgkibgajajaaGreatDoorQDE
import Derived.Test.YtbhlgkibgajajaaGreatDoorQDN
import Derived.Test.YtbhlgkibgajajaaGreatDoorQDD
import Derived.Test.YtbhlgkibgajajaaGreatDoorQDO
import Derived.Test.YtbhlgkibgajajaaGreatDoorQDPRowDA
import Derived.Test.YtbhlgkibgajajaaGreatDoorQDW
import Derived.Test.YtbhlgkibgajajaaGreatDoorCards
import Derived.Test.YtbhlgkibgajajaaGreatDoorTie
import Derived.SevenTiedAt
namespace Go.Proofs.YtbhlgkibgajajaaGreatDoor
open Go.ChangeShapes Go.WideShapes Go.ChangeAt Go.RowKit Go.Lx
set_option maxHeartbeats 4000000 in
theorem pdomain_holds:Rows.PrinterDomainUptoSaid:=
 OpenClaim.holds_of_cond 3 Tryz.f3 rfl rfl rfl rfl rfl rfl rfl ⟨rfl,rfl,rfl,rfl,rfl⟩ rfl rfl rfl rfl rfl Ycw Tryz.func3 YeE
  (of_decide_eq_true (by as_aux_lemma=>kernel_rfl)) (by unfold Func.isWrapper;first | (rw [if_pos (by decide+kernel)];kernel_rfl) | (rw [if_neg (by decide+kernel)];exact ⟨rfl,rfl⟩))
  (fun os started H enc _ F=>by rw [OpenClaim.pre_eq_preRow];exact YeD os started H enc F)
set_option maxHeartbeats 4000000 in
theorem pdomain_card:Rows.PrinterDomainUptoCardSaid:=
 Claim7.holds_tied_plain_at .later [] _ _ _ _ pdomain_holds (fun _ h=>by cases h) (by as_aux_lemma=>kernel_rfl) (fun _ h=>by cases h) printerDomainUpto_row_tie rfl ⟨rfl,rfl⟩ (by as_aux_lemma=>kernel_rfl) rfl
  (fun f fn hf hfn=>by
   obtain rfl:f=3:=Option.some.inj (Ycw.symm.trans hf) |>.symm
   obtain rfl:fn=Tryz.f3:=(Option.some.inj (Tryz.func3.symm.trans hfn)).symm
   exact ⟨by as_aux_lemma=>kernel_rfl,fun j t ht=>by
    rw [Tryz.params3] at ht
    have hm:t∈ [28]:=by simpa using Array.mem_of_getElem? ht
    have hall:([28].all fun u=>!Tryz.prog.wantsStandIn u)=true:=by as_aux_lemma=>kernel_rfl
    exact (show Tryz.prog.wantsStandIn t=false by simpa using List.all_eq_true.1 hall t hm)⟩)
  (by as_aux_lemma=>kernel_rfl)
end Go.Proofs.YtbhlgkibgajajaaGreatDoor
