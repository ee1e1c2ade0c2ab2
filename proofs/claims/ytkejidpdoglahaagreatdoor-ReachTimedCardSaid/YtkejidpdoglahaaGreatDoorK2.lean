/- Known calls: the evaluator's answer, by the kernel. Conditions: none. -/
import Derived.Test.YtkejidpdoglahaaGreatDoorEwF
namespace Go.Proofs.YtkejidpdoglahaaGreatDoor
open Go.Lx Go.Ev
set_option maxRecDepth 100000
theorem mem3_ev : evMem tT.get F0 1000000 10 mem3 = true := by kernel_rfl
theorem mem3_ok : MemoOk Tryz.prog tT.get 10 mem3 := evMem_s tT_ok F0_ok mixed mem3_ev
theorem mem4_ev : evMem tT.get F0 1000000 10 mem4 = true := by kernel_rfl
theorem mem4_ok : MemoOk Tryz.prog tT.get 10 mem4 := evMem_s tT_ok F0_ok mixed mem4_ev
end Go.Proofs.YtkejidpdoglahaaGreatDoor
