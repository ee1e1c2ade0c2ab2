/- Known calls: the evaluator's answer, by the kernel. Conditions: none. -/
import Derived.Test.YtkejidpdoglahaaGreatDoorEwF
namespace Go.Proofs.YtkejidpdoglahaaGreatDoor
open Go.Lx Go.Ev
set_option maxRecDepth 100000
theorem mem9_ev : evMem tT.get F0 1000000 10 mem9 = true := by kernel_rfl
theorem mem9_ok : MemoOk Tryz.prog tT.get 10 mem9 := evMem_s tT_ok F0_ok mixed mem9_ev
theorem mem10_ev : evMem tT.get F0 1000000 14 mem10 = true := by kernel_rfl
theorem mem10_ok : MemoOk Tryz.prog tT.get 14 mem10 := evMem_s tT_ok F0_ok mixed mem10_ev
end Go.Proofs.YtkejidpdoglahaaGreatDoor
