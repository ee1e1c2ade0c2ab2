/- The texts GRowP, laid together. Conditions: none. -/
import Derived.Test.YtegmololhnipiaaGreatDoorQpGRowPA
import Derived.Test.YtegmololhnipiaaGreatDoorQpI
import Derived.Test.YtegmololhnipiaaGreatDoorCards
import Derived.Test.YtegmololhnipiaaGreatDoorTie
import Derived.SevenTiedAt
namespace Go.Proofs.YtegmololhnipiaaGreatDoor
open Go.ChangeShapes Go.WideShapes Go.ChangeAt Go.RowKit Go.Lx
set_option maxHeartbeats 4000000 in
theorem gapplies_holds : Rows.GroundAppliesSaid :=
  OpenClaim.holds_of_wide 5 Tryz.f5 rfl rfl rfl rfl rfl rfl rfl ⟨rfl, rfl, rfl, rfl, rfl⟩ rfl rfl rfl rfl rfl gapplies_named Tryz.func5 gapplies_closed
    (of_decide_eq_true (by as_aux_lemma => kernel_rfl)) (by unfold Func.isWrapper; first | (rw [if_pos (by decide +kernel)]; kernel_rfl) | (rw [if_neg (by decide +kernel)]; exact ⟨rfl, rfl⟩))
    (fun os started H enc _ => gapplies_lifted os started H enc)
set_option maxHeartbeats 4000000 in
theorem gapplies_card : Rows.GroundAppliesCardSaid :=
  Claim7.holds_tied_plain_at .later [] [.data, .pinned, .pinned, .pinned, .pinned, .pinned, .pinned] true (true, "ab1aa06afb00d77ca39ee6fb824e7ab2efda6c0a6be83d62a49415d5c7b15bda") true gapplies_holds (fun _ h => by cases h) (by as_aux_lemma => kernel_rfl) (fun _ h => by cases h) groundApplies_row_tie rfl ⟨rfl, rfl⟩ (by as_aux_lemma => kernel_rfl) rfl
    (fun f fn hf hfn => by
      obtain rfl : f = 5 := Option.some.inj (gapplies_named.symm.trans hf) |>.symm
      obtain rfl : fn = Tryz.f5 := (Option.some.inj (Tryz.func5.symm.trans hfn)).symm
      exact ⟨by as_aux_lemma => kernel_rfl, fun j t ht => by
        rw [Tryz.params5] at ht
        have hm : t ∈ [28, 33, 3] := by simpa using Array.mem_of_getElem? ht
        have hall : ([28, 33, 3].all fun u => !Tryz.prog.wantsStandIn u) = true := by as_aux_lemma => kernel_rfl
        exact (show Tryz.prog.wantsStandIn t = false by simpa using List.all_eq_true.1 hall t hm)⟩)
    (by as_aux_lemma => kernel_rfl)
end Go.Proofs.YtegmololhnipiaaGreatDoor
