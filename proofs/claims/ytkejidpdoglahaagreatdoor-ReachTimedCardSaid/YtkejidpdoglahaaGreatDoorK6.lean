/- Known calls: the evaluator's answer, by the kernel. Conditions: none. -/
import Derived.Test.YtkejidpdoglahaaGreatDoorEwF
namespace Go.Proofs.YtkejidpdoglahaaGreatDoor
open Go.Lx Go.Ev
set_option maxRecDepth 100000
theorem mem11_ev : evMem tT.get F0 1000000 14 mem11 = true := by kernel_rfl
theorem mem11_ok : MemoOk Tryz.prog tT.get 14 mem11 := evMem_s tT_ok F0_ok mixed mem11_ev
theorem mem12_ev : evMem tT.get F0 1000000 14 mem12 = true := by kernel_rfl
theorem mem12_ok : MemoOk Tryz.prog tT.get 14 mem12 := evMem_s tT_ok F0_ok mixed mem12_ev
end Go.Proofs.YtkejidpdoglahaaGreatDoor
