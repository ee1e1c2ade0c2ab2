/- Known calls: the evaluator's answer, by the kernel. Conditions: none. -/
import Derived.Test.YtkejidpdoglahaaGreatDoorEwF
namespace Go.Proofs.YtkejidpdoglahaaGreatDoor
open Go.Lx Go.Ev
set_option maxRecDepth 100000
theorem mem5_ev : evMem tT.get F0 1000000 10 mem5 = true := by kernel_rfl
theorem mem5_ok : MemoOk Tryz.prog tT.get 10 mem5 := evMem_s tT_ok F0_ok mixed mem5_ev
theorem mem6_ev : evMem tT.get F0 1000000 10 mem6 = true := by kernel_rfl
theorem mem6_ok : MemoOk Tryz.prog tT.get 10 mem6 := evMem_s tT_ok F0_ok mixed mem6_ev
end Go.Proofs.YtkejidpdoglahaaGreatDoor
