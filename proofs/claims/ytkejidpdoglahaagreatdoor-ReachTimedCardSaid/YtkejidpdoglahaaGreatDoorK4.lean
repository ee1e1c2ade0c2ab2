/- Known calls: the evaluator's answer, by the kernel. Conditions: none. -/
import Derived.Test.YtkejidpdoglahaaGreatDoorEwF
namespace Go.Proofs.YtkejidpdoglahaaGreatDoor
open Go.Lx Go.Ev
set_option maxRecDepth 100000
theorem mem7_ev : evMem tT.get F0 1000000 10 mem7 = true := by kernel_rfl
theorem mem7_ok : MemoOk Tryz.prog tT.get 10 mem7 := evMem_s tT_ok F0_ok mixed mem7_ev
theorem mem8_ev : evMem tT.get F0 1000000 10 mem8 = true := by kernel_rfl
theorem mem8_ok : MemoOk Tryz.prog tT.get 10 mem8 := evMem_s tT_ok F0_ok mixed mem8_ev
end Go.Proofs.YtkejidpdoglahaaGreatDoor
