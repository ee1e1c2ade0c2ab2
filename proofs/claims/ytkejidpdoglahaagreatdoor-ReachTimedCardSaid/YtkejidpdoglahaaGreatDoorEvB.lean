/- Writes: append, copy, bytes of a string, the next entry of a map. Conditions: none. -/
import Derived.Test.YtkejidpdoglahaaGreatDoorEvC
import Derived.Lib.ConvBytes
namespace Go.Ev
open Go.Lx Go.RowKit

section
variable {P : Program} {cx : Cx} {tT : TT} {T : Tab P} {fz : FZ}

theorem kind_of (hT : TA tT T) {u : TypeId} {U : TyA} (hU : tT u = some U) (h : (Nat.beq U.k 4 || Nat.beq U.k 2) = true) : KindOk P u := by
  obtain ⟨X, hX, hR⟩ := hT u U hU
  simp only [Bool.or_eq_true] at h
  rcases h with h | h
  · exact .inl ⟨_, und_plain T hX (hR.d4 (Nat.eq_of_beq_eq_true h)) rfl⟩
  · exact .inr (und_plain T hX (hR.d2 (Nat.eq_of_beq_eq_true h)) rfl)
theorem k_app_s (hT : TA tT T) (xs : Array Operand) (ats : Array TypeId) : KS P cx tT fz (kApp xs.toList ats.toList) (.call { callee := .builtin .append, args := xs, argTypes := ats }) := fun ν ar r h nx H Fm c dst ty pos af gd hr hh hfr hf => by
  obtain ⟨x, y, hxs, hf⟩ := two_iff hf
  obtain ⟨t, u, hts, hf⟩ := two_iff hf
  obtain ⟨a, ha, hf⟩ := fO_iff hf
  obtain ⟨b, hb, hf⟩ := fO_iff hf
  obtain ⟨U, hU, hf⟩ := fO_iff hf
  obtain ⟨hk, happ⟩ := fT_iff hf
  obtain ⟨ux, h1, h2⟩ := hr x a ha
  obtain ⟨uy, h3, h4⟩ := hr y b hb
  have e1 : xs = #[x, y] := Array.ext' hxs
  have e2 : ats = #[t, u] := Array.ext' hts
  subst e1 e2
  refine Does.of fun ρ w hρ hi => ?_
  obtain ⟨v, w', H', hrun, hi', ν', av, h', nx', g1, g2, g3, g4, g5, g6⟩ := app_s (P := P) (cx := cx) (fz := fz) (ty := ty) hT hh hfr h1 h3 (kind_of hT hU hk) happ w hi
  have : (execOp ρ ⟨dst, .call { callee := .builtin .append, args := #[x, y], argTypes := #[t, u] }, ty, pos, af, gd⟩).run P w = .ok (.value v) w' := by
    simp only [execOp, resolve, invoke, builtin, Sem.run_bind, Sem.run_pure, Result.andThen_ok, List.map_toArray, List.map_cons, List.map_nil, hρ _ _ h2, hρ _ _ h4, hrun]
  rw [this]
  exact ⟨fz, H', hi', rfl, ν', av, h', nx', g1, g2, g3, g4, g5, g6⟩
theorem k_copy_s (hT : TA tT T) (xs : Array Operand) (ats : Array TypeId) : KS P cx tT fz (kCopy xs.toList ats.toList) (.call { callee := .builtin .copy, args := xs, argTypes := ats }) := fun ν ar r h nx H Fm c dst ty pos af gd hr hh hfr hf => by
  obtain ⟨x, y, hxs, hf⟩ := two_iff hf
  obtain ⟨t, q, hts, hf⟩ : ∃ t q, ats.toList = t :: q ∧ _ := by
    cases hts : ats.toList with
    | nil => rw [hts] at hf; cases hf
    | cons t q => rw [hts] at hf; exact ⟨t, q, rfl, hf⟩
  rw [lE_cons] at hf
  obtain ⟨A, X, hA, hX, hR, hk4, hf⟩ := tyK_iff hT hf
  obtain ⟨Y, hY, hf⟩ := fO_iff hf
  obtain ⟨a, ha, hf⟩ := fO_iff hf
  obtain ⟨z, hz, hf⟩ := fO_iff hf
  obtain ⟨b, hb, hf⟩ := fO_iff hf
  obtain ⟨ux, h1, h2⟩ := hr x a ha
  obtain ⟨uy, h3, h4⟩ := hr y b hb
  obtain ⟨XE, hXE, hRE⟩ := hT A.e Y hY
  have ht := und_plain T hX (hR.d4 hk4) rfl
  obtain ⟨n, l, un, hf, hun, hlen, hlo, hfc⟩ := src_s (P := P) (cx := cx) (fz := fz) hh h3 hf
  rw [fN_eq] at hf
  obtain ⟨l2, hl2, hfin⟩ := fO_iff hf
  obtain ⟨htk, rfl⟩ := tk_iff hl2
  obtain ⟨Ad, C, hAd, hC, hle, rfl⟩ := asL_iff hz h1
  have e1 : xs = #[x, y] := Array.ext' hxs
  subst e1
  have hat0 : ats[0]? = some t := by
    rw [← Array.getElem?_toList, hts]; rfl
  have hsz := fun w => Go.Lx.run_sizeOf T hXE w
  rw [hRE.size] at hsz
  refine Does.of fun ρ w hρ hi => ?_
  have hcells := hfc w hi (Nat.min n z.len) (Nat.min_le_left _ _)
  have hexec : ∀ w', (∀ ad, Ad = some ad → (storeCells ad (un.take (Nat.min n z.len * Y.size))).run P w = .ok () w') → (Ad = none → w' = w) →
      (execOp ρ ⟨dst, .call { callee := .builtin .copy, args := #[x, y], argTypes := ats }, ty, pos, af, gd⟩).run P w = .ok (.value (.int .i64 (Nat.min n z.len))) w' := fun w' hst hno => by
    cases Ad with
    | none =>
      have := hno rfl; subst this
      simp [execOp, resolve, invoke, builtin, hρ _ _ h2, hρ _ _ h4, Builtin.copy_, hat0, run_underlying ht, hlo, hsz, hcells, goInt]
    | some ad =>
      have := hst ad rfl
      simp [execOp, resolve, invoke, builtin, hρ _ _ h2, hρ _ _ h4, Builtin.copy_, hat0, run_underlying ht, hlo, hsz, hcells, goInt, this]
  cases hza : z.a with
  | none =>
    rw [hza, oE_none] at hfin
    rw [hza] at hAd
    simp [gA] at hAd; subst hAd
    rw [hexec w (fun ad h => by cases h) (fun _ => rfl)]
    exact ⟨fz, H, hi, rfl, ν, _, h, nx, Nu.le.refl _, Nat.le_refl _, hfin, gv_i _ _ _, hh, hfr⟩
  | some a =>
    rw [hza, oE_some] at hfin
    rw [hza] at hAd
    simp only [gA] at hAd
    cases hblk : ν.blk a.1 with
    | none => simp [hblk] at hAd
    | some b =>
      simp [hblk] at hAd; subst hAd
      obtain ⟨b', hb2, hrun⟩ := putC_s (P := P) (cx := cx) (fz := fz) hh (gvs_take _ hun) hfin
      rw [hblk] at hb2; injection hb2 with hb2; subst hb2
      obtain ⟨h', H', w', g1, g2, g3, g4⟩ := hrun w hi
      rw [hexec w' (fun ad h => by injection h with h; subst h; exact g1) (fun h => by cases h)]
      exact ⟨fz, H', g2, rfl, ν, _, h', nx, Nu.le.refl _, Nat.le_refl _, g3, gv_i _ _ _, g4, hfr⟩
theorem k_bytes_s (hT : TA tT T) (s t : TypeId) (x : Operand) : KS P cx tT fz (kBytes s t x) (.convert s t x) := fun ν ar r h nx H Fm c dst ty pos af gd hr hh hfr hf => by
  obtain ⟨S, hS, hf⟩ := fO_iff hf
  obtain ⟨A, X, hA, hX, hR, hk4, hf⟩ := tyK_iff hT hf
  obtain ⟨Y, XE, hY, hXE, hRE, hk1, hf⟩ := tyK_iff hT hf
  obtain ⟨a, ha, hf⟩ := fO_iff hf
  obtain ⟨l, hl, hf⟩ := fO_iff hf
  obtain ⟨hc, hf⟩ := fT_iff hf
  simp only [Bool.and_eq_true, Nat.blt_eq] at hc
  obtain ⟨c1, c2, c3⟩ := hc
  replace c3 := Nat.eq_of_beq_eq_true c3
  rw [fN_eq] at hf
  obtain ⟨u, h1, h2⟩ := hr x a ha
  obtain ⟨rfl, hall⟩ := asS_iff hl h1
  obtain ⟨XS, hXS, hRS⟩ := hT s S hS
  obtain ⟨d, hus, _⟩ := und_any T hXS
  have hu := und_plain T hX (hR.d4 hk4) rfl
  have hue := und_plain T hXE (hRE.d1 hk1) rfl
  rw [kEq_iff c1] at hue
  refine Does.of fun ρ w hρ hi => ?_
  have hge := grownCap_ge w l.length 0 A.e
  have hi2 : Inv cx fz H w.drew := hi.drew
  obtain ⟨ν', av, h', nx', g1, g2, g3, g4, g5, g6⟩ := newSl_s (C := grownCap w l.length 0 A.e) (g := w.heap.size) (l := List.replicate (grownCap w l.length 0 A.e - l.length) (.int .u8 0)) hh hfr (u8gvs ν l) hY (below_new hi) hge (by simp [c3]; omega) hf
  have hlen : (bs l).size = l.length := bs_size l
  have hcells : Lib.bytesCells w A.e (bs l) = (l.map (fun (n : Nat) => Value.int .u8 (n : Int)) ++ List.replicate (grownCap w l.length 0 A.e - l.length) (Value.int .u8 0)).toArray := by
    apply Array.ext'
    rw [← u8cells l hall]
    simp [Lib.bytesCells, hlen]
  have hrun := Lib.run_convert_string_bytes w s t A.e (bs l) hus hu hue
  rw [hlen] at hrun
  have hexec : (execOp ρ ⟨dst, .convert s t x, ty, pos, af, gd⟩).run P w = .ok (.value (.slice (some ⟨w.heap.size, 0, none⟩) l.length (grownCap w l.length 0 A.e))) (Lib.bytesWorld w A.e (bs l)) := by
    simp only [execOp, hρ _ _ h2, Sem.run_bind, hrun, Result.andThen_ok, Sem.run_pure]
  rw [hexec]
  have hheap : (Lib.bytesWorld w A.e (bs l)).heap = (w.drew.alloc (.cells (Lib.bytesCells w A.e (bs l)) A.e ((Lib.bytesCells w A.e (bs l)).size, (Lib.bytesCells w A.e (bs l)).size + 1))).heap := by
    apply Array.ext_getElem?
    intro j
    rcases Nat.lt_trichotomy j w.heap.size with hj | hj | hj
    · rw [Lib.bytesWorld_at_old _ _ _ _ hj, heap_alloc_old w.drew _ (by simpa using hj)]
      rfl
    · subst hj
      rw [Lib.bytesWorld_at_new]
      exact (heap_alloc_new w.drew _).symm
    · rw [Array.getElem?_eq_none (by rw [Lib.bytesWorld_size]; omega), Array.getElem?_eq_none (by simp; omega)]
  have hi3 := (hi2.alloc (.cells (Lib.bytesCells w A.e (bs l)) A.e ((Lib.bytesCells w A.e (bs l)).size, (Lib.bytesCells w A.e (bs l)).size + 1))).world (w' := Lib.bytesWorld w A.e (bs l)) rfl rfl rfl hheap
  refine ⟨fz, _, hi3, rfl, ν', av, h', nx', g1, g2, g3, g4, ?_, g6⟩
  rw [hcells]
  exact g5

end
end Go.Ev
