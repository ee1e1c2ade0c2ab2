/- Known calls: the evaluator's answer, by the kernel. Conditions: none. -/
import Derived.Test.YtkejidpdoglahaaGreatDoorEwF
namespace Go.Proofs.YtkejidpdoglahaaGreatDoor
open Go.Lx Go.Ev
set_option maxRecDepth 100000
theorem mem15_ev : evMem tT.get F0 1000000 14 mem15 = true := by kernel_rfl
theorem mem15_ok : MemoOk Tryz.prog tT.get 14 mem15 := evMem_s tT_ok F0_ok mixed mem15_ev
theorem mem16_ev : evMem tT.get F0 1000000 14 mem16 = true := by kernel_rfl
theorem mem16_ok : MemoOk Tryz.prog tT.get 14 mem16 := evMem_s tT_ok F0_ok mixed mem16_ev
end Go.Proofs.YtkejidpdoglahaaGreatDoor
