/- ReachTimed answers true: at each of its eight inputs the evaluator says so. Conditions: none. -/
import Derived.Test.YtkejidpdoglahaaGreatDoorK1
import Derived.Test.YtkejidpdoglahaaGreatDoorK2
import Derived.Test.YtkejidpdoglahaaGreatDoorK3
import Derived.Test.YtkejidpdoglahaaGreatDoorK4
import Derived.Test.YtkejidpdoglahaaGreatDoorK5
import Derived.Test.YtkejidpdoglahaaGreatDoorK6
import Derived.Test.YtkejidpdoglahaaGreatDoorK7
import Derived.Test.YtkejidpdoglahaaGreatDoorK8
import Derived.Test.YtkejidpdoglahaaGreatDoorK9
namespace Go.Proofs.YtkejidpdoglahaaGreatDoor
open Go.Lx Go.Ev

theorem all2 {α : Type} {Q : α → Prop} {a : α} {l : List α} (h : Q a) (r : ∀ m ∈ l, Q m) : ∀ m ∈ a :: l, Q m := List.forall_mem_cons.2 ⟨h, r⟩
noncomputable def F1 : FF := withM (withM F0 14 (.memo [mem10, mem11, mem12, mem13, mem14, mem15, mem16, mem17, mem18] Tryz.f14)) 10 (.memo [mem1, mem2, mem3, mem4, mem5, mem6, mem7, mem8, mem9] Tryz.f10)
theorem F1_ok : FA Tryz.prog tT.get F1 := FA_with (FA_with F0_ok ⟨fn14_ok, all2 mem10_ok (all2 mem11_ok (all2 mem12_ok (all2 mem13_ok (all2 mem14_ok (all2 mem15_ok (all2 mem16_ok (all2 mem17_ok (all2 mem18_ok (List.forall_mem_nil _)))))))))⟩)
  ⟨fn10_ok, all2 mem1_ok (all2 mem2_ok (all2 mem3_ok (all2 mem4_ok (all2 mem5_ok (all2 mem6_ok (all2 mem7_ok (all2 mem8_ok (all2 mem9_ok (List.forall_mem_nil _)))))))))⟩
set_option maxRecDepth 100000 in
theorem mem0_ev : evMem tT.get F1 1000000 9 mem0 = true := by kernel_rfl
noncomputable def F2 : FF := withM F1 9 (.memo [mem0] Tryz.f9)
theorem F2_ok : FA Tryz.prog tT.get F2 := FA_with F1_ok ⟨fn9_ok, all2 (evMem_s tT_ok F1_ok mixed mem0_ev) (List.forall_mem_nil _)⟩
def isTrue : AV → Bool
  | .b x => x
  | _ => false
theorem isTrue_s {ν : Nu} {a : AV} {v : Value} (h : isTrue a = true) (hv : gv ν a = some v) : v = .bool true := by
  cases a with
  | b x => have h' : x = true := h; subst h'; simp only [gv] at hv; injection hv with hv; exact hv.symm
  | _ => cases h
set_option maxRecDepth 100000 in
theorem timed_ev (b0 b1 b2 : Bool) : evCall tT.get F2 1000000 6 [.b b0, .b b1, .b b2] isTrue = true := by
  cases b0 <;> cases b1 <;> cases b2 <;> kernel_rfl
theorem timed_q (b0 b1 b2 : Bool) {fz : FZ} : QFn Tryz.prog 6 [.bool b0, .bool b1, .bool b2] fz (.bool true) :=
  GFn.quiet ((evCall_s (fz := fz) tT_ok F2_ok mixed (fun ν => by simp [gvs, gv]) (timed_ev b0 b1 b2)).mono fun _ _ _ ⟨_, _, _, hv, hk⟩ => isTrue_s hk hv)
end Go.Proofs.YtkejidpdoglahaaGreatDoor
