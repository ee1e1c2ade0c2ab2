/- TemporalInterferes: the statement. Conditions: none. -/
import Derived.Test.YtfidaamledbmpaaRows
import Derived.Test.YtfidaamledbmpaaLawB
import Derived.Test.YtfidaamledbmpaaOpen
import Derived.Carry
import Derived.OpenShut
namespace Go.Proofs.Ytfidaamledbmpaa
open Go.ChangeShapes Go.WideShapes Go.ChangeAt Go.RowKit Go.Lx

theorem own_knob : ownKnob Try.prog.godebug = none := by kernel_rfl
theorem laid_out : laidOutB Try.prog = true := by kernel_rfl
set_option maxRecDepth 100000 in
theorem open_pair {H : Type} {enc : TypeId × Value → H} {w : World} {base : Nat} {spare : Nat → Bool} {held : Bool} {t e : TypeId} {r : Reach} {b0 : Nat} {v : Value} {d : DataW H} {p : List MemPlace} (ht : Try.prog.underlying t = some (.array 2 e)) (hc : Try.prog.cellsOf t = 2) (hce : Try.prog.cellsOf e = 1)
    (hv : Value.okWide Try.prog w r b0 t v) (h : DataW.Trod enc Try.prog w base spare held t v d p) : ∃ v0 v1 m y0 y1, v = .agg #[v0, v1] ∧ DataW.trod enc Try.prog w base spare held m e [v0] = some y0 ∧ DataW.trod enc Try.prog w base spare held m e [v1] = some y1 := by
  simp only [Value.okWide, ht] at hv
  obtain ⟨cs, rfl, hsz, _⟩ := hv
  obtain ⟨l⟩ := cs
  rw [hc] at hsz
  obtain ⟨fuel, hf⟩ := h
  obtain ⟨xs, m, _, _, _, hl, hx⟩ := DataW.trod_array ht hf
  rw [hce] at hx
  match l, hsz with
  | [v0, v1], _ =>
    have h0 := hx 0 (by omega)
    have h1 := hx 1 (by omega)
    rw [List.getElem?_eq_getElem (by omega)] at h0 h1
    exact ⟨v0, v1, m, _, _, rfl, h0, h1⟩

set_option maxRecDepth 100000 in
theorem interferes_lifted (os : Os) (started : os.Started) (H : Type) (enc : TypeId × Value → H) :
    ReturnsInHanded {} Try.checked os 6 .any (Rows.temporalInterferesSpec.pre6 enc Try.prog Try.f6 Rows.temporalInterferesRow.domain false) (Rows.temporalInterferesSpec.post enc Try.prog Try.f6 false true false false) := by
  refine returnsInHanded_of_change_sized (C := Try.checked) own_knob started (by kernel_rfl) Try.func6
    (ChangeSpec.witness6 (enc := enc) (C := Try.checked) false ⟨#[], #[.agg #[.slice none 0 0, .slice none 0 0, .slice none 0 0, .slice none 0 0], .agg #[.int .i64 0, .int .i64 0], .agg #[.bool false, .bool false]], []⟩ 8 (by kernel_rfl) (by kernel_rfl) (by kernel_rfl) (by kernel_rfl)) ?_
  intro W base args ds gs before hval0 hW _ hsz0 _
  have hval : ∀ (j : Nat) t v, Try.f6.params[j]? = some t → args[j]? = some v → Value.okWide Try.prog W .any base t v := hval0
  have hsz : (DataW.weightsEach Try.prog (Try.f6.params.toList ++ Rows.temporalInterferesSpec.plain.varTypes Try.prog) (ds ++ gs)).all (· ≤ reachBytes) = true := hsz0
  have hW' := hW
  obtain ⟨p, q, hA0, hV, rfl, hfz, hnd⟩ := hW
  have hA : DataW.TrodAll enc Try.prog W 0 (fun _ => true) true Try.f6.params.toList args.toList ds p := hA0
  rw [Try.params6] at hA hval hsz
  obtain ⟨v0, v1, v2, d0, d1, d2, p0, p1, p2, rfl, rfl, rfl, h0, h1, h2⟩ := trodAll_three hA
  obtain ⟨rfl, rfl⟩ := trodVars_none hV
  clear hA0 hval0 hsz0
  simp only [List.append_nil] at hW'
  have hlt : ∀ x ∈ p0 ++ p1 ++ p2, x.block < W.heap.size := fun x hx => hW'.lt x hx
  have hq : ∀ n ∈ d0.weights Try.prog 26, n ≤ reachBytes := fun n hn => by
    have := List.all_eq_true.1 hsz n (DataW.weights_mem_each (j := 0) (t := 26) (d := d0) rfl rfl n hn)
    simpa using this
  obtain ⟨t, A1, n1, c1, A2, n2, c2, A3, n3, c3, A4, n4, c4, rfl, ht⟩ := open_temporal (hval 0 26 v0 rfl rfl) h0 hq
  obtain ⟨a, b, m, y0, y1, rfl, ha, hb0⟩ := open_pair Try.underlying51 (by kernel_rfl) (by kernel_rfl) (hval 1 51 v1 rfl rfl) h1
  obtain ⟨a, ha, _⟩ := DataW.trod_int Try.underlying3 ha
  obtain ⟨b, hb0, _⟩ := DataW.trod_int Try.underlying3 hb0
  injection ha with ha
  injection hb0 with hb0
  subst ha hb0
  obtain ⟨ea, eb, m', z0, z1, rfl, hea, heb⟩ := open_pair Try.underlying52 (by kernel_rfl) (by kernel_rfl) (hval 2 52 v2 rfl rfl) h2
  obtain ⟨ea, hea, _⟩ := DataW.trod_bool Try.underlying4 hea
  obtain ⟨eb, heb, _⟩ := DataW.trod_bool Try.underlying4 heb
  injection hea with hea
  injection heb with heb
  subst hea heb
  refine ((interferes_q ht).calls (hp_of W)).mono fun e W' ⟨he, hfr⟩ => ?_
  have hb := below_of hfr
  have k0 := Below.trod laid_out (by kernel_rfl) (of_decide_eq_true (by kernel_rfl)) h0 hb (fun x hx => hlt x (by simp [hx]))
  have k1 := Below.trod laid_out (by kernel_rfl) (of_decide_eq_true (by kernel_rfl)) h1 hb (fun x hx => hlt x (by simp [hx]))
  have k2 := Below.trod laid_out (by kernel_rfl) (of_decide_eq_true (by kernel_rfl)) h2 hb (fun x hx => hlt x (by simp [hx]))
  exact ⟨_, he, [d0, d1, d2], [], _, [], _, [], hW', trodAll_mk1 (shut_bool Try.underlying4 true), trodAll_mk3 k0 k1 k2, rfl, hb.frame _, fun h => by cases h⟩

theorem interferes_holds : Rows.TemporalInterferesSaid :=
  OpenClaim.holds_of_wide 6 Try.f6 rfl rfl rfl rfl rfl rfl rfl ⟨rfl, rfl, rfl, rfl, rfl⟩ rfl rfl rfl rfl rfl (by kernel_rfl) Try.func6 (by kernel_rfl)
    (of_decide_eq_true (by kernel_rfl)) (by unfold Func.isWrapper; first | (rw [if_pos (by decide +kernel)]; kernel_rfl) | (rw [if_neg (by decide +kernel)]; exact ⟨rfl, rfl⟩))
    (fun os started H enc _ => interferes_lifted os started H enc)
end Go.Proofs.Ytfidaamledbmpaa
