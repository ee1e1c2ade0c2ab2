/- The texts PRowL, laid together. Conditions: none. -/
import Derived.Test.YtbhlgkibgajajaaGreatDoorQLN
import Derived.Test.YtbhlgkibgajajaaGreatDoorQLO
import Derived.Test.YtbhlgkibgajajaaGreatDoorQLP
import Derived.Test.YtbhlgkibgajajaaGreatDoorQLQ
import Derived.Test.YtbhlgkibgajajaaGreatDoorQLR
import Derived.Test.YtbhlgkibgajajaaGreatDoorQLEwI
import Derived.Test.YtbhlgkibgajajaaGreatDoorQLJ
import Derived.Test.YtbhlgkibgajajaaGreatDoorQLH
import Derived.Test.YtbhlgkibgajajaaGreatDoorQLG
import Derived.Test.YtbhlgkibgajajaaGreatDoorQLI
import Derived.Test.YtbhlgkibgajajaaGreatDoorQLK
import Derived.Test.YtbhlgkibgajajaaGreatDoorQLF
import Derived.Test.YtbhlgkibgajajaaGreatDoorQLB
import Derived.Test.YtbhlgkibgajajaaGreatDoorQLC
import Derived.Test.YtbhlgkibgajajaaGreatDoorQLE
import Derived.Test.YtbhlgkibgajajaaGreatDoorQLL
import Derived.Test.YtbhlgkibgajajaaGreatDoorQLD
import Derived.Test.YtbhlgkibgajajaaGreatDoorQLM
import Derived.Test.YtbhlgkibgajajaaGreatDoorQLPRowLA
import Derived.Test.YtbhlgkibgajajaaGreatDoorQLT
import Derived.Test.YtbhlgkibgajajaaGreatDoorCards
import Derived.Test.YtbhlgkibgajajaaGreatDoorTie
import Derived.SevenTiedAt
namespace Go.Proofs.YtbhlgkibgajajaaGreatDoor
open Go.ChangeShapes Go.WideShapes Go.ChangeAt Go.RowKit Go.Lx
set_option maxHeartbeats 4000000 in
theorem plines_holds:Rows.PrinterLinesUptoSaid:=
 OpenClaim.holds_of_cond 4 Tryz.f4 rfl rfl rfl rfl rfl rfl rfl ⟨rfl,rfl,rfl,rfl,rfl⟩ rfl rfl rfl rfl rfl Yco Tryz.func4 Yeo
  (of_decide_eq_true (by as_aux_lemma=>kernel_rfl)) (by unfold Func.isWrapper;first | (rw [if_pos (by decide+kernel)];kernel_rfl) | (rw [if_neg (by decide+kernel)];exact ⟨rfl,rfl⟩))
  (fun os started H enc _ F=>by rw [OpenClaim.pre_eq_preRow];exact Yen os started H enc F)
set_option maxHeartbeats 4000000 in
theorem plines_card:Rows.PrinterLinesUptoCardSaid:=
 Claim7.holds_tied_plain_at .later [] _ _ _ _ plines_holds (fun _ h=>by cases h) (by as_aux_lemma=>kernel_rfl) (fun _ h=>by cases h) printerLinesUpto_row_tie rfl ⟨rfl,rfl⟩ (by as_aux_lemma=>kernel_rfl) rfl
  (fun f fn hf hfn=>by
   obtain rfl:f=4:=Option.some.inj (Yco.symm.trans hf) |>.symm
   obtain rfl:fn=Tryz.f4:=(Option.some.inj (Tryz.func4.symm.trans hfn)).symm
   exact ⟨by as_aux_lemma=>kernel_rfl,fun j t ht=>by
    rw [Tryz.params4] at ht
    have hm:t∈ [28]:=by simpa using Array.mem_of_getElem? ht
    have hall:([28].all fun u=>!Tryz.prog.wantsStandIn u)=true:=by as_aux_lemma=>kernel_rfl
    exact (show Tryz.prog.wantsStandIn t=false by simpa using List.all_eq_true.1 hall t hm)⟩)
  (by as_aux_lemma=>kernel_rfl)
end Go.Proofs.YtbhlgkibgajajaaGreatDoor
