/- ReachTimed: the statement. Conditions: none. -/
import Derived.Test.YtkejidpdoglahaaGreatDoorRowTimedA
import Derived.Test.YtkejidpdoglahaaGreatDoorRowTimedB
import Derived.Test.YtkejidpdoglahaaGreatDoorCards
import Derived.Test.YtkejidpdoglahaaGreatDoorTie
import Derived.SevenTiedAt
namespace Go.Proofs.YtkejidpdoglahaaGreatDoor
open Go.ChangeShapes Go.WideShapes Go.ChangeAt Go.RowKit Go.Lx

set_option maxHeartbeats 4000000 in
theorem timed_holds : Rows.ReachTimedSaid :=
  OpenClaim.holds_of_wide 6 Tryz.f6 rfl rfl rfl rfl rfl rfl rfl ⟨rfl, rfl, rfl, rfl, rfl⟩ rfl rfl rfl rfl rfl timed_named Tryz.func6 timed_closed
    (of_decide_eq_true (by as_aux_lemma => kernel_rfl)) (by unfold Func.isWrapper; first | (rw [if_pos (by decide +kernel)]; kernel_rfl) | (rw [if_neg (by decide +kernel)]; exact ⟨rfl, rfl⟩))
    (fun os started H enc _ => timed_lifted os started H enc)
set_option maxHeartbeats 4000000 in
theorem timed_card : Rows.ReachTimedCardSaid :=
  Claim7.holds_tied_plain_at .later [] [.data, .pinned, .pinned, .pinned, .pinned, .pinned, .pinned] true (true, "25060d206ac88fad864e67be1b16567ed3e301d2963e3e478ae7edd59dac03e0") true timed_holds (fun _ h => by cases h) (by as_aux_lemma => kernel_rfl) (fun _ h => by cases h) reachTimed_row_tie rfl ⟨rfl, rfl⟩ (by as_aux_lemma => kernel_rfl) rfl
    (fun f fn hf hfn => by
      obtain rfl : f = 6 := Option.some.inj (timed_named.symm.trans hf) |>.symm
      obtain rfl : fn = Tryz.f6 := (Option.some.inj (Tryz.func6.symm.trans hfn)).symm
      exact ⟨by as_aux_lemma => kernel_rfl, fun j t ht => by
        rw [Tryz.params6] at ht
        have hm : t ∈ [4, 4, 4] := by simpa using Array.mem_of_getElem? ht
        have hall : ([4, 4, 4].all fun u => !Tryz.prog.wantsStandIn u) = true := by as_aux_lemma => kernel_rfl
        exact (show Tryz.prog.wantsStandIn t = false by simpa using List.all_eq_true.1 hall t hm)⟩)
    (by as_aux_lemma => kernel_rfl)
end Go.Proofs.YtkejidpdoglahaaGreatDoor
