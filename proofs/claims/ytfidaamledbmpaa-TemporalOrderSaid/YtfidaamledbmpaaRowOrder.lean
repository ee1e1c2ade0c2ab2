/- TemporalOrder: the statement. Conditions: none. -/
import Derived.Test.YtfidaamledbmpaaRows
import Derived.Test.YtfidaamledbmpaaLawO
import Derived.Test.YtfidaamledbmpaaOpen
import Derived.Carry
import Derived.OpenShut
namespace Go.Proofs.Ytfidaamledbmpaa
open Go.ChangeShapes Go.WideShapes Go.ChangeAt Go.RowKit Go.Lx

theorem own_knob : ownKnob Try.prog.godebug = none := by kernel_rfl
theorem laid_out : laidOutB Try.prog = true := by kernel_rfl
set_option maxRecDepth 100000 in
theorem order_lifted (os : Os) (started : os.Started) (H : Type) (enc : TypeId × Value → H) :
    ReturnsInHanded {} Try.checked os 4 .any (Rows.temporalOrderSpec.pre6 enc Try.prog Try.f4 Rows.temporalOrderRow.domain false) (Rows.temporalOrderSpec.post enc Try.prog Try.f4 false true false false) := by
  refine returnsInHanded_of_change_sized (C := Try.checked) own_knob started (by kernel_rfl) Try.func4
    (ChangeSpec.witness6 (enc := enc) (C := Try.checked) false ⟨#[], #[.agg #[.slice none 0 0, .slice none 0 0, .slice none 0 0, .slice none 0 0], .slice none 0 0, .int .u16 0], []⟩ 8 (by kernel_rfl) (by kernel_rfl) (by kernel_rfl) (by kernel_rfl)) ?_
  intro W base args ds gs before hval0 hW _ hsz0 _
  have hval : ∀ (j : Nat) t v, Try.f4.params[j]? = some t → args[j]? = some v → Value.okWide Try.prog W .any base t v := hval0
  have hsz : (DataW.weightsEach Try.prog (Try.f4.params.toList ++ Rows.temporalOrderSpec.plain.varTypes Try.prog) (ds ++ gs)).all (· ≤ reachBytes) = true := hsz0
  have hW' := hW
  obtain ⟨p, q, hA0, hV, rfl, hfz, hnd⟩ := hW
  have hA : DataW.TrodAll enc Try.prog W 0 (fun _ => true) true Try.f4.params.toList args.toList ds p := hA0
  rw [Try.params4] at hA hval hsz
  obtain ⟨v0, v1, v2, d0, d1, d2, p0, p1, p2, rfl, rfl, rfl, h0, h1, h2⟩ := trodAll_three hA
  obtain ⟨rfl, rfl⟩ := trodVars_none hV
  clear hA0 hval0 hsz0
  simp only [List.append_nil] at hW'
  have hlt : ∀ x ∈ p0 ++ p1 ++ p2, x.block < W.heap.size := fun x hx => hW'.lt x hx
  have hq : ∀ n ∈ d0.weights Try.prog 26, n ≤ reachBytes := fun n hn => by
    have := List.all_eq_true.1 hsz n (DataW.weights_mem_each (j := 0) (t := 26) (d := d0) rfl rfl n hn)
    simpa using this
  obtain ⟨t, A1, n1, c1, A2, n2, c2, A3, n3, c3, A4, n4, c4, rfl, ht⟩ := open_temporal (hval 0 26 v0 rfl rfl) h0 hq
  have hq1 : ∀ n ∈ d1.weights Try.prog 27, n ≤ reachBytes := fun n hn => by
    have := List.all_eq_true.1 hsz n (DataW.weights_mem_each (j := 1) (t := 27) (d := d1) rfl rfl n hn)
    simpa using this
  obtain ⟨ls, B, n, c, rfl, hl⟩ := open_launches (hval 1 27 v1 rfl rfl) h1 hq1
  obtain ⟨a, rfl, _, _, ha⟩ := open_int Try.underlying38 (hval 2 38 v2 rfl rfl) h2
  have ha' : 0 ≤ a ∧ a ≤ 65535 := by simp [Lit.wf] at ha; exact ⟨show IntKind.u16.min ≤ a from ha.1, show a ≤ IntKind.u16.max from ha.2⟩
  obtain ⟨a, rfl⟩ : ∃ n : Nat, a = n := ⟨a.toNat, by omega⟩
  refine ((order_q ht hl (by_ := a) (by omega)).calls (hp_of W)).mono fun e W' ⟨he, hfr⟩ => ?_
  have hb := below_of hfr
  have k0 := Below.trod laid_out (by kernel_rfl) (of_decide_eq_true (by kernel_rfl)) h0 hb (fun x hx => hlt x (by simp [hx]))
  have k1 := Below.trod laid_out (by kernel_rfl) (of_decide_eq_true (by kernel_rfl)) h1 hb (fun x hx => hlt x (by simp [hx]))
  have k2 := Below.trod laid_out (by kernel_rfl) (of_decide_eq_true (by kernel_rfl)) h2 hb (fun x hx => hlt x (by simp [hx]))
  exact ⟨_, he, [d0, d1, d2], [], _, [], _, [], hW', trodAll_mk1 (shut_bool Try.underlying4 true), trodAll_mk3 k0 k1 k2, rfl, hb.frame _, fun h => by cases h⟩

theorem order_holds : Rows.TemporalOrderSaid :=
  OpenClaim.holds_of_wide 4 Try.f4 rfl rfl rfl rfl rfl rfl rfl ⟨rfl, rfl, rfl, rfl, rfl⟩ rfl rfl rfl rfl rfl (by kernel_rfl) Try.func4 (by kernel_rfl)
    (of_decide_eq_true (by kernel_rfl)) (by unfold Func.isWrapper; first | (rw [if_pos (by decide +kernel)]; kernel_rfl) | (rw [if_neg (by decide +kernel)]; exact ⟨rfl, rfl⟩))
    (fun os started H enc _ => order_lifted os started H enc)
end Go.Proofs.Ytfidaamledbmpaa
