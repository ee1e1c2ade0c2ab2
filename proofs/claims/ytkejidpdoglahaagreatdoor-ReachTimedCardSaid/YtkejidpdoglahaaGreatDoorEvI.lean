/- Conversions; and the operations that only read, all together. Conditions: none. -/
import Derived.Test.YtkejidpdoglahaaGreatDoorEvJ
namespace Go.Ev
open Go.Lx Go.RowKit

section
variable {P : Program} {cx : Cx} {tT : TT} {T : Tab P} {fz : FZ}

theorem byteOf_s {ν : Nu} {a : AV} {n : Nat} {v : Value} (h : byteOf a = some n) (hv : gv ν a = some v) : v = .int .u8 n ∧ n < 256 := by
  obtain ⟨z, hz, h⟩ := oB_iff h
  obtain ⟨hk, h⟩ := oT_iff h
  obtain ⟨m, hm, h⟩ := oB_iff h
  obtain ⟨hlt, h⟩ := oT_iff h
  injection h with h; subst h
  rw [Nat.blt_eq] at hlt
  rw [asI_iff hz hv, kEq_iff hk]
  cases hz2 : z.2 with
  | ofNat q => rw [hz2] at hm; simp [natOf] at hm; subst hm; exact ⟨rfl, hlt⟩
  | negSucc q => rw [hz2] at hm; simp [natOf] at hm
theorem bytesOf_s {ν : Nu} : ∀ {l : List AV} {ns : List Nat} {vs : List Value}, bytesOf l = some ns → gvs ν l = some vs → vs = ns.map (fun (n : Nat) => Value.int .u8 n) ∧ ns.all (fun n => Nat.blt n 256) = true
  | [], ns, vs, h, hv => by injection h with h; subst h; simp [gvs] at hv; subst hv; exact ⟨rfl, rfl⟩
  | a :: r, ns, vs, h, hv => by
    obtain ⟨n, hn, h⟩ := oB_iff h
    obtain ⟨q, hq, h⟩ := oB_iff h
    injection h with h; subst h
    obtain ⟨x, l, hx, hl, rfl⟩ := gvs_cons hv
    obtain ⟨e1, e2⟩ := byteOf_s hn hx
    obtain ⟨e3, e4⟩ := bytesOf_s hq hl
    subst e1 e3
    exact ⟨rfl, by simp [e2, e4, Nat.blt_eq]⟩
theorem run_loadCells {a : Addr} : ∀ (vs : List Value) (i : Nat) (acc : Array Value) (w : World), (∀ j v, vs[j]? = some v → w.cell? (a.add (i + j)) = some v) → (loadCellsFrom a i vs.length acc).run P w = .ok (acc ++ vs.toArray) w
  | [], i, acc, w, _ => by simp [loadCellsFrom]
  | v :: vs, i, acc, w, h => by
    have h0 := h 0 v rfl
    simp only [Nat.add_zero] at h0
    have ih := run_loadCells vs (i + 1) (acc.push v) w (fun j u hj => by
      have := h (j + 1) u (by simpa using hj)
      rw [show i + 1 + j = i + (j + 1) from by omega]; exact this)
    simp only [List.length_cons, loadCellsFrom, Sem.run_bind, load, Sem.run, h0, Result.andThen_ok]
    rw [ih]
    simp
theorem run_bytes (f : Value → ByteArray → Sem (ForInStep ByteArray)) (hf : ∀ (n : Nat) (s : ByteArray), f (.int .u8 n) s = pure (.yield (s.push (UInt8.ofNat n)))) (ns : List Nat) (s : ByteArray) (w : World) :
    (forIn (ns.map (fun (n : Nat) => Value.int .u8 n)).toArray s f).run P w = .ok (s ++ bs ns) w := by
  rw [← Array.forIn_toList]
  simp only
  induction ns generalizing s with
  | nil =>
    simp only [List.map_nil, List.forIn_nil, Sem.run_pure]
    congr 1
    apply ByteArray.ext
    simp [bs]
  | cons n ns ih =>
    simp only [List.map_cons, List.forIn_cons, Sem.run_bind, hf, Sem.run_pure, Result.andThen_ok]
    rw [ih (s.push (UInt8.ofNat n))]
    congr 1
    apply ByteArray.ext
    simp [bs]
theorem run_bytesToString {a : Addr} {ns : List Nat} {C : Nat} {w : World} (_h : ns.all (fun n => Nat.blt n 256) = true) (hc : ∀ j v, (ns.map (fun (n : Nat) => Value.int .u8 n))[j]? = some v → w.cell? (a.add j) = some v) :
    (Conv.bytesToString (.slice (some a) ns.length C)).run P w = .ok (.string (bs ns)) w := by
  have h1 := run_loadCells (P := P) (a := a) (ns.map (fun (n : Nat) => Value.int .u8 n)) 0 #[] w (fun j v hj => by rw [Nat.zero_add]; exact hc j v hj)
  simp only [List.length_map] at h1
  have e : ByteArray.empty ++ bs ns = bs ns := by apply ByteArray.ext; simp [bs]
  simp only [Conv.bytesToString, Sem.run_bind, loadCells, h1, Result.andThen_ok, Array.empty_append]
  rw [run_bytes _ (fun n s => rfl), e]
  rfl

theorem s_conv (hT : TA tT T) (s t : TypeId) (x : Operand) : QS P cx tT fz (qConv s t x) (.convert s t x) := fun ν ar r h H Fm c dst ty pos af gd hr hh hf => by
  obtain ⟨a, ha, hf⟩ := fO_iff hf
  obtain ⟨S, hS, hf⟩ := fO_iff hf
  obtain ⟨A, hA, hf⟩ := fO_iff hf
  obtain ⟨u, h1, h2⟩ := hr x a ha
  obtain ⟨XS, hXS, hRS⟩ := hT s S hS
  obtain ⟨X, hX, hR⟩ := hT t A hA
  cases hk1 : Nat.beq A.k 1 with
  | true =>
    rw [hk1, br_true] at hf
    obtain ⟨z, hz, hf⟩ := fO_iff hf
    have e := asI_iff hz h1
    subst e
    exact qs_of (rI_iff hf) (gv_i _ _ _) (q_convert_int T hXS hX (hR.d1 (Nat.eq_of_beq_eq_true hk1)) h2 (wrp_eq _ _).symm rfl)
  | false =>
    rw [hk1, br_false] at hf
    obtain ⟨hk2, hf⟩ := fT_iff hf
    have hu := und_plain T hX (hR.d2 (Nat.eq_of_beq_eq_true hk2)) rfl
    obtain ⟨d, hus, _⟩ := und_any T hXS
    cases a with
    | s l =>
      obtain ⟨rfl, hall⟩ := asS_iff (a := .s l) rfl h1
      refine qs_of hf h1 (doesQ_of (fun ρ w hρ => ?_) rfl)
      simp [execOp, hρ _ _ h2, convert, run_underlying hus, run_underlying hu]
    | sl p n lo sy =>
      obtain ⟨hk4, hf⟩ := fT_iff hf
      obtain ⟨E, XE, hE, hXE, hRE, hkE, hf⟩ := tyK_iff hT hf
      obtain ⟨hu8, hf⟩ := fT_iff hf
      obtain ⟨A1, C, hA1, hC, hle, rfl⟩ := asL_iff (a := .sl p n lo sy) rfl h1
      have hus' := und_plain T hXS (hRS.d4 (Nat.eq_of_beq_eq_true hk4)) rfl
      have hue := und_plain T hXE (hRE.d1 hkE) rfl
      rw [kEq_iff hu8] at hue
      cases p with
      | none =>
        simp [gA] at hA1; subst hA1
        refine qs_of hf (v := .string (bs [])) (by simp [gv]) (doesQ_of (fun ρ w hρ => ?_) rfl)
        simp only [execOp, hρ _ _ h2, convert, run_underlying hus' w, run_underlying hu w, run_underlying hue w, Sem.run_bind, Result.andThen_ok, Conv.bytesToString, Sem.run_pure]
        rfl
      | some p =>
        rw [oE_some] at hf
        obtain ⟨o, ho, hf⟩ := fO_iff hf
        obtain ⟨cs, hcs, hf⟩ := fO_iff hf
        obtain ⟨l, hl, hf⟩ := fO_iff hf
        obtain ⟨ns, hns, hf⟩ := fO_iff hf
        rw [fS_eq] at hf
        simp only [gA] at hA1
        cases hb : ν.blk p.1 with
        | none => simp [hb] at hA1
        | some b =>
          simp [hb] at hA1; subst hA1
          obtain ⟨b', vs, sl, e, f, hb', hvs, hm⟩ := hh.cells ho hcs
          rw [hb] at hb'; injection hb' with hb'; subst hb'
          obtain ⟨h3, h4⟩ := gvs_part hvs hl
          obtain ⟨e1, e2⟩ := bytesOf_s hns h4
          have hlen : n = ns.length := by
            have := congrArg List.length e1
            simp at this; omega
          refine ⟨_, .string (bs ns), hf, by simp only [gv]; rw [if_pos e2], fun ρ w hρ hi => ?_⟩
          have hc : ∀ j v, (ns.map (fun (n : Nat) => Value.int .u8 n))[j]? = some v → w.cell? ((⟨b, p.2, none⟩ : Addr).add j) = some v := fun j v hj => by
            rw [← e1] at hj
            rw [addr_add, cell_own hi hm]
            rw [List.getElem?_take] at hj
            split at hj
            · rw [List.getElem?_drop] at hj
              have hlt' : p.2 + j < vs.length := (List.getElem?_eq_some_iff.1 hj).1
              simp only [List.getElem?_toArray]
              rw [List.getElem?_append_left hlt']; exact hj
            · cases hj
          have hrun := run_bytesToString (P := P) (C := C) e2 hc
          rw [← hlen] at hrun
          simp only [execOp, hρ _ _ h2, convert, run_underlying hus' w, run_underlying hu w, run_underlying hue w, Sem.run_bind, Result.andThen_ok, hrun, Sem.run_pure]
          exact ⟨rfl, Fr.refl _ _⟩
    | _ => cases hf
end
end Go.Ev
