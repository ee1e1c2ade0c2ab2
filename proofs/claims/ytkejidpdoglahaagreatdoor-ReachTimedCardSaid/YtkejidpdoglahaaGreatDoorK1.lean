/- Known calls: the evaluator's answer, by the kernel. Conditions: none. -/
import Derived.Test.YtkejidpdoglahaaGreatDoorEwF
namespace Go.Proofs.YtkejidpdoglahaaGreatDoor
open Go.Lx Go.Ev
set_option maxRecDepth 100000
theorem mem1_ev : evMem tT.get F0 1000000 10 mem1 = true := by kernel_rfl
theorem mem1_ok : MemoOk Tryz.prog tT.get 10 mem1 := evMem_s tT_ok F0_ok mixed mem1_ev
theorem mem2_ev : evMem tT.get F0 1000000 10 mem2 = true := by kernel_rfl
theorem mem2_ok : MemoOk Tryz.prog tT.get 10 mem2 := evMem_s tT_ok F0_ok mixed mem2_ev
end Go.Proofs.YtkejidpdoglahaaGreatDoor
