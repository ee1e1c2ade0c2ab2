/- Operations that only read, continued: parts of slices and strings. Conditions: none. -/
import Derived.Test.YtkejidpdoglahaaGreatDoorEvO
namespace Go.Ev
open Go.Lx Go.RowKit

section
variable {P : Program} {cx : Cx} {tT : TT} {T : Tab P} {fz : FZ}

theorem optN_some {ν : Nu} {ar : RD} {r : Operand → Option Value} (hr : RR ν ar r) {d n : Nat} {o : Operand} (h : optN ar d (some o) = some n) : ∃ k, r o = some (.int k n) := by
  obtain ⟨a, ha, h⟩ := oB_iff h
  obtain ⟨v, h1, h2⟩ := hr o a ha
  obtain ⟨k, rfl⟩ := asN_iff h h1
  exact ⟨k, h2⟩
theorem bound_run {k : IntKind} {n y : Nat} {code : BoundsCode} (h : n ≤ y) (w : World) : (Instr.sliceBound (.int k n) y code).run P w = .ok n w := by
  have : (0 : Int) ≤ (n : Int) ∧ (n : Int) ≤ (y : Int) := ⟨by omega, by omega⟩
  simp only [Instr.sliceBound, asIntOf, Sem.run_bind, Sem.run_pure, Result.andThen_ok, if_pos this, Int.toNat_natCast]
theorem bounds_run {ν : Nu} {ar : RD} {r : Operand → Option Value} {ρ : Operand → Value} (hr : RR ν ar r) (hρ : Reads r ρ) {isS : Bool} {len L C l h m : Nat} {lo hi mx : Option Operand}
    (hm : optN ar L mx = some m) (hh : optN ar len hi = some h) (hl : optN ar 0 lo = some l) (h1 : m ≤ L) (hLC : L ≤ C) (h2 : h ≤ m) (h3 : l ≤ h) (hmx : (mx.isNone || hi.isSome) = true) (w : World) :
    (Instr.sliceBounds isS len C (lo.map ρ) (hi.map ρ) (mx.map ρ)).run P w = .ok (l, h, mx.elim C fun _ => m) w := by
  have hlo : ∀ code, (match lo.map ρ with | some v => Instr.sliceBound v h code | none => pure 0 : Sem Nat).run P w = .ok l w := by
    intro code
    cases lo with
    | none => injection hl with hl; subst hl; rfl
    | some o =>
      obtain ⟨k, hk⟩ := optN_some hr hl
      simp only [Option.map_some, hρ _ _ hk]
      exact bound_run h3 w
  cases mx with
  | none =>
    injection hm with hm; subst hm
    cases hi with
    | none =>
      injection hh with hh; subst hh
      have := hlo .sliceB
      simp only [Instr.sliceBounds, Option.map_none, Sem.run_bind, Sem.run_pure, Result.andThen_ok, Option.elim]
      cases lo with
      | none => injection hl with hl; subst hl; rfl
      | some o => simp only [Option.map_some] at this ⊢; simp only [Option.isSome_none, Bool.false_eq_true, if_false, Sem.run_bind, this, Result.andThen_ok, Sem.run_pure]
    | some o =>
      obtain ⟨k, hk⟩ := optN_some hr hh
      have hb := fun code => bound_run (P := P) (k := k) (code := code) (n := h) (y := C) (by omega) w
      have := hlo .sliceB
      simp only [Instr.sliceBounds, Option.map_none, Option.map_some, hρ _ _ hk, Sem.run_bind, Sem.run_pure, Result.andThen_ok, Option.elim, hb]
      cases lo with
      | none => injection hl with hl; subst hl; rfl
      | some o => simp only [Option.map_some] at this ⊢; simp only [Option.isSome_none, Bool.false_eq_true, if_false, Sem.run_bind, this, Result.andThen_ok, Sem.run_pure]
  | some o' =>
    obtain ⟨k', hk'⟩ := optN_some hr hm
    have hb' := fun code => bound_run (P := P) (k := k') (code := code) (n := m) (y := C) (by omega) w
    cases hi with
    | none => simp at hmx
    | some o =>
      obtain ⟨k, hk⟩ := optN_some hr hh
      have hb := fun code => bound_run (P := P) (k := k) (code := code) (n := h) (y := m) h2 w
      have := hlo .slice3C
      simp only [Instr.sliceBounds, Option.map_some, hρ _ _ hk, hρ _ _ hk', Sem.run_bind, Result.andThen_ok, Option.elim, hb, hb']
      cases lo with
      | none => injection hl with hl; subst hl; rfl
      | some o => simp only [Option.map_some] at this ⊢; simp only [Option.isSome_some, if_true, Sem.run_bind, this, Result.andThen_ok, Sem.run_pure]

/-- the slice that is made -/
theorem mkSl_s {ν : Nu} {size : Nat} {a : Option (Nat × Nat)} {A : Option Addr} {l h m C : Nat} {sym : Option (Nat × Nat)} {c : QC} (hA : gA ν a = some A) (hC : gC ν m sym = some C) (h1 : h ≤ m) (h2 : l ≤ h) (hf : mkSl size a l h m sym c = true) :
    ∃ av, c av = true ∧ gv ν av = some (.slice (if C = l then A else A.map (·.add (l * size))) (h - l) (C - l)) := by
  unfold mkSl at hf
  cases hml : Nat.beq m l with
  | true =>
    have e := Nat.eq_of_beq_eq_true hml
    rw [hml, br_true] at hf
    cases sym with
    | some q => cases hf
    | none =>
      rw [oE_none, fN_eq] at hf
      simp [gC] at hC; subst hC
      refine ⟨_, hf, ?_⟩
      have e2 : h = l := by omega
      subst e
      simp only [gv, hA, gC]
      rw [if_pos (by show h - m ≤ 0; omega), if_pos trivial]
      simp
  | false =>
    rw [hml, br_false] at hf
    have hne : m ≠ l := fun he => by rw [he, Nat.beq_refl] at hml; cases hml
    obtain ⟨p, rfl, hf1⟩ := fO_iff hf
    have hf := add_iff hf1
    rw [fN_eq, fN_eq] at hf
    have hCm := gC_le hC
    simp only [gA] at hA
    cases hb : ν.blk p.1 with
    | none => simp [hb] at hA
    | some b =>
      simp [hb] at hA; subst hA
      have hCl : C ≠ l := by omega
      have hval : (if C = l then some (⟨b, p.2, none⟩ : Addr) else (some (⟨b, p.2, none⟩ : Addr)).map (·.add (l * size))) = some ⟨b, p.2 + l * size, none⟩ := by
        rw [if_neg hCl, Option.map_some, addr_add]
      rw [hval]
      have hle : Nat.sub h l ≤ Nat.sub m l := by show h - l ≤ m - l; omega
      cases sym with
      | none =>
        rw [oE_none] at hf
        simp [gC] at hC; subst hC
        refine ⟨_, hf, ?_⟩
        simp only [gv, gA, hb, gC, Option.map_some]
        rw [if_pos hle]
        rfl
      | some q =>
        rw [oE_some, fN_eq] at hf
        refine ⟨_, hf, ?_⟩
        simp only [gC] at hC
        cases hc : ν.cap q.1 with
        | none => simp [hc] at hC
        | some cc =>
          simp only [hc] at hC
          split at hC
          · injection hC with hC
            subst hC
            simp only [gv, gA, hb, gC, hc, Option.map_some]
            rw [if_pos (show Nat.add q.2 l + Nat.sub m l ≤ cc by show q.2 + l + (m - l) ≤ cc; omega)]
            simp only
            rw [if_pos hle]
            have : cc - Nat.add q.2 l = cc - q.2 - l := by show cc - (q.2 + l) = cc - q.2 - l; omega
            rw [this]
            rfl
          · cases hC

theorem gC_any {ν : Nu} {lo m C : Nat} {sym : Option (Nat × Nat)} {mx : Option Operand} (hC : gC ν lo sym = some C) (hm : mx = none → m = lo) : gC ν m (oE sym (fun _ => none) mx) = some (mx.elim C fun _ => m) := by
  cases mx with
  | none => rw [oE_none, hm rfl]; exact hC
  | some o => rfl

theorem bs_extract (s : List Nat) (l h : Nat) : (bs s).extract l h = bs ((s.drop l).take (h - l)) := by
  apply ByteArray.ext
  rw [ByteArray.data_extract]
  simp [bs]
theorem all_drop_take {s : List Nat} (h : s.all (fun n => Nat.blt n 256) = true) (l n : Nat) : ((s.drop l).take n).all (fun n => Nat.blt n 256) = true := by
  rw [List.all_eq_true] at h ⊢
  exact fun x hx => h x (List.mem_of_mem_drop (List.mem_of_mem_take hx))

theorem s_slc (hT : TA tT T) (t : TypeId) (x : Operand) (lo hi mx : Option Operand) : QS P cx tT fz (qSlc t x lo hi mx) (.slice t x lo hi mx) := fun ν ar r h H Fm c dst ty pos af gd hr hh hf => by
  obtain ⟨a, ha, hf⟩ := fO_iff hf
  obtain ⟨A, hA, hf⟩ := fO_iff hf
  obtain ⟨u, h1, h2⟩ := hr x a ha
  obtain ⟨X, hX, hR⟩ := hT t A hA
  cases hk4 : Nat.beq A.k 4 with
  | true =>
    rw [hk4, br_true] at hf
    obtain ⟨s, hs, hf⟩ := fO_iff hf
    obtain ⟨Y, hY, hf⟩ := fO_iff hf
    obtain ⟨m, hm, hf⟩ := fO_iff hf
    obtain ⟨q, hq, hf⟩ := fO_iff hf
    obtain ⟨l, hl, hf⟩ := fO_iff hf
    obtain ⟨hb, hf⟩ := fT_iff hf
    simp only [Bool.and_eq_true, Nat.ble_eq] at hb
    obtain ⟨hmx, hb1, hb2, hb3⟩ := hb
    obtain ⟨A1, C, hA1, hC, hle, rfl⟩ := asL_iff hs h1
    obtain ⟨Z, hZ, hRZ⟩ := hT A.e Y hY
    have hu := und_plain T hX (hR.d4 (Nat.eq_of_beq_eq_true hk4)) rfl
    have hLC := gC_le hC
    obtain ⟨av, hc, hg⟩ := mkSl_s hA1 (gC_any (mx := mx) hC (fun he => by subst he; injection hm with hm; exact hm.symm)) hb2 hb3 hf
    refine qs_of hc hg (doesQ_of (fun ρ w hρ => ?_) rfl)
    have hrun := bounds_run (P := P) hr hρ (isS := true) (C := C) hm hq hl hb1 hLC hb2 hb3 hmx w
    have hsz := Go.Lx.run_sizeOf T hZ w
    rw [hRZ.size] at hsz
    simp only [execOp, hρ _ _ h2, Instr.sliceAt, Instr.slice, Sem.run_bind, run_underlying hu w, Result.andThen_ok, hrun, hsz, Sem.run_pure]
  | false =>
    rw [hk4, br_false] at hf
    cases hk2 : Nat.beq A.k 2 with
    | true =>
      rw [hk2, br_true] at hf
      obtain ⟨s, hs, hf⟩ := fO_iff hf
      obtain ⟨hmx, hf⟩ := fT_iff hf
      obtain ⟨q, hq, hf⟩ := fO_iff hf
      obtain ⟨l, hl, hf⟩ := fO_iff hf
      obtain ⟨hb, hf⟩ := fT_iff hf
      simp only [Bool.and_eq_true, Nat.ble_eq] at hb
      obtain ⟨z, hz, hf⟩ := fO_iff hf
      rw [fL_eq] at hf
      obtain ⟨hz1, hz2⟩ := part_iff hz
      obtain ⟨rfl, hall⟩ := asS_iff hs h1
      have hu := und_plain T hX (hR.d2 (Nat.eq_of_beq_eq_true hk2)) rfl
      have hmx' : mx = none := by simpa using hmx
      subst hmx'
      have e : z = (s.drop l).take (q - l) := hz2
      subst e
      refine qs_of hf (v := .string (bs ((s.drop l).take (q - l)))) (by simp only [gv]; rw [if_pos (all_drop_take hall l _)]) (doesQ_of (fun ρ w hρ => ?_) rfl)
      have hrun := bounds_run (P := P) hr hρ (isS := false) (len := s.length) (L := s.length) (C := s.length) (m := s.length) (mx := none) rfl hq hl (Nat.le_refl _) (Nat.le_refl _) hb.1 hb.2 rfl w
      simp only [Option.map_none] at hrun
      simp only [execOp, hρ _ _ h2, Instr.sliceAt, Instr.slice, Sem.run_bind, run_underlying hu w, Result.andThen_ok, Option.map_none, Option.isSome_none, Bool.false_eq_true, if_false, bs_size, hrun, Sem.run_pure, bs_extract]
    | false =>
      rw [hk2, br_false] at hf
      obtain ⟨hk5, hf⟩ := fT_iff hf
      obtain ⟨p, hp, hf⟩ := fO_iff hf
      obtain ⟨Y, hY, hf⟩ := fO_iff hf
      obtain ⟨m, hm, hf⟩ := fO_iff hf
      obtain ⟨q, hq, hf⟩ := fO_iff hf
      obtain ⟨l, hl, hf⟩ := fO_iff hf
      obtain ⟨hb, hf⟩ := fT_iff hf
      simp only [Bool.and_eq_true, Nat.ble_eq] at hb
      obtain ⟨hmx, hb1, hb2, hb3⟩ := hb
      obtain ⟨b, hbb, rfl⟩ := asP_iff hp h1
      obtain ⟨Z, hZ, hRZ⟩ := hT A.e Y hY
      have hu := und_plain T hX (hR.d5 (Nat.eq_of_beq_eq_true hk5)) rfl
      obtain ⟨av, hc, hg⟩ := mkSl_s (ν := ν) (a := some p) (A := some ⟨b, p.2, none⟩) (C := m) (by simp [gA, hbb]) rfl hb2 hb3 hf
      refine qs_of hc hg (doesQ_of (fun ρ w hρ => ?_) rfl)
      have hrun := bounds_run (P := P) hr hρ (isS := false) (C := A.n) hm hq hl hb1 (Nat.le_refl _) hb2 hb3 hmx w
      have hsz := Go.Lx.run_sizeOf T hZ w
      rw [hRZ.size] at hsz
      have hme : (mx.elim A.n fun _ => m) = m := by
        cases mx with
        | none => injection hm
        | some _ => rfl
      rw [hme] at hrun
      simp only [execOp, hρ _ _ h2, Instr.sliceAt, Sem.run_bind, run_underlying hu w, Result.andThen_ok, Instr.sureAddr, hrun, hsz, Sem.run_pure]
      by_cases hml : m = l
      · simp [hml]
      · simp [hml]
end
end Go.Ev
