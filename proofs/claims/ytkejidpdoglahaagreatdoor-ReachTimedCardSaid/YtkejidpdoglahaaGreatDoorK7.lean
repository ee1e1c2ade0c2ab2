/- Known calls: the evaluator's answer, by the kernel. Conditions: none. -/
import Derived.Test.YtkejidpdoglahaaGreatDoorEwF
namespace Go.Proofs.YtkejidpdoglahaaGreatDoor
open Go.Lx Go.Ev
set_option maxRecDepth 100000
theorem mem13_ev : evMem tT.get F0 1000000 14 mem13 = true := by kernel_rfl
theorem mem13_ok : MemoOk Tryz.prog tT.get 14 mem13 := evMem_s tT_ok F0_ok mixed mem13_ev
theorem mem14_ev : evMem tT.get F0 1000000 14 mem14 = true := by kernel_rfl
theorem mem14_ok : MemoOk Tryz.prog tT.get 14 mem14 := evMem_s tT_ok F0_ok mixed mem14_ev
end Go.Proofs.YtkejidpdoglahaaGreatDoor
