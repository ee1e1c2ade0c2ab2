/- Known calls: the evaluator's answer, by the kernel. Conditions: none. -/
import Derived.Test.YtkejidpdoglahaaGreatDoorEwF
namespace Go.Proofs.YtkejidpdoglahaaGreatDoor
open Go.Lx Go.Ev
set_option maxRecDepth 100000
theorem mem17_ev : evMem tT.get F0 1000000 14 mem17 = true := by kernel_rfl
theorem mem17_ok : MemoOk Tryz.prog tT.get 14 mem17 := evMem_s tT_ok F0_ok mixed mem17_ev
theorem mem18_ev : evMem tT.get F0 1000000 14 mem18 = true := by kernel_rfl
theorem mem18_ok : MemoOk Tryz.prog tT.get 14 mem18 := evMem_s tT_ok F0_ok mixed mem18_ev
end Go.Proofs.YtkejidpdoglahaaGreatDoor
