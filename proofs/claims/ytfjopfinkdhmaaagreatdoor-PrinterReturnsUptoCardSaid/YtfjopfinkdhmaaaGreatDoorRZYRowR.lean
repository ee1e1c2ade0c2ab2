/- The texts YRowR, laid together. Conditions: none. -/
import Derived.Test.YtfjopfinkdhmaaaGreatDoorRZV
import Derived.SevenTiedAt
import Derived.Test.YtfjopfinkdhmaaaGreatDoorCards
import Derived.Test.YtfjopfinkdhmaaaGreatDoorTie
set_option linter.all false
namespace Go.Proofs.YtfjopfinkdhmaaaGreatDoor
open Go.ChangeShapes Go.WideShapes Go.ChangeAt Go.RowKit Go.Lx
set_option maxHeartbeats 4000000 in
theorem yreturns_holds:Rows.PrinterReturnsUptoSaid:=
 OpenClaim.holds_of_cond 4 Tryz.f4 rfl rfl rfl rfl rfl rfl rfl ⟨rfl,rfl,rfl,rfl,rfl⟩ rfl rfl rfl rfl rfl Ydc Tryz.func4 Yfd
  (of_decide_eq_true (by as_aux_lemma=>kernel_rfl)) (by unfold Func.isWrapper;first | (rw [if_pos (by decide+kernel)];kernel_rfl) | (rw [if_neg (by decide+kernel)];exact ⟨rfl,rfl⟩))
  (fun os started H enc _ F=>by rw [OpenClaim.pre_eq_preRow];exact Yfc os started H enc F)
set_option maxHeartbeats 4000000 in
theorem yreturns_card:Rows.PrinterReturnsUptoCardSaid:=
 Claim7.holds_tied_plain_at .later [] _ _ _ _ yreturns_holds (fun _ h=>by cases h) (by as_aux_lemma=>kernel_rfl) (fun _ h=>by cases h) printerReturnsUpto_row_tie rfl ⟨rfl,rfl⟩ (by as_aux_lemma=>kernel_rfl) rfl
  (fun f fn hf hfn=>by
   obtain rfl:f=4:=Option.some.inj (Ydc.symm.trans hf) |>.symm;obtain rfl:fn=Tryz.f4:=(Option.some.inj (Tryz.func4.symm.trans hfn)).symm;exact ⟨by as_aux_lemma=>kernel_rfl,fun j t ht=>by
    rw [Tryz.params4] at ht;have hm:t∈ [31,40]:=by simpa using Array.mem_of_getElem? ht
    have hall:([31,40].all fun u=>!Tryz.prog.wantsStandIn u)=true:=by as_aux_lemma=>kernel_rfl
    exact (show Tryz.prog.wantsStandIn t=false by simpa using List.all_eq_true.1 hall t hm)⟩)
  (by as_aux_lemma=>kernel_rfl)
end Go.Proofs.YtfjopfinkdhmaaaGreatDoor
