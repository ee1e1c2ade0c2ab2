/- Writes: rows that grow, copies, rows of bytes. Conditions: none. -/
import Derived.Test.YtkejidpdoglahaaGreatDoorEvE
import Derived.Deep.AppendSrc
namespace Go.Ev
open Go.Lx Go.RowKit

section
variable {P : Program} {cx : Cx} {tT : TT} {T : Tab P} {fz : FZ}

theorem HR.perm {ν : Nu} {h : Tr AO} {H H' Fm : HP} (hh : HR tT ν h H Fm) (hp : H.Perm H') : HR tT ν h H' Fm :=
  ⟨fun id o ho => by obtain ⟨b, x, h1, h2, h3⟩ := hh.own id o ho; exact ⟨b, x, h1, h2, hp.subset h3⟩, hh.inj, fun p hp' => ⟨hp.subset (hh.fm p hp').1, (hh.fm p hp').2⟩, hh.cap⟩
/-- a name is dropped -/
theorem HR.drop {ν : Nu} {h h' : Tr AO} {H Fm : HP} {i : Nat} (hh : HR tT ν h H Fm) (hu : h.upd i none h') : HR tT ν h' H Fm := by
  have hget : ∀ j q, h'.get j = some q → h.get j = some q := fun j q hq => by
    rw [hu j] at hq
    split at hq
    · cases hq
    · exact hq
  exact ⟨fun id o ho => hh.own id o (hget _ _ ho), fun id id' o o' b h1 h2 => hh.inj id id' o o' b (hget _ _ h1) (hget _ _ h2), fun p hp => ⟨(hh.fm p hp).1, fun id o ho => (hh.fm p hp).2 id o (hget _ _ ho)⟩, fun id cs e j fr hq => hh.cap id cs e j fr (hget _ _ hq)⟩
/-- .. and its block is taken away -/
theorem HR.rm {ν : Nu} {h h' : Tr AO} {pre post Fm : HP} {i b : Nat} {a : AO} {x : Obj} (hh : HR tT ν h (pre ++ (b, x) :: post) Fm) (ha : h.get i = some a) (hb : ν.blk i = some b) (hu : h.upd i none h') : HR tT ν h' (pre ++ post) Fm := by
  have hget : ∀ j q, h'.get j = some q → j ≠ i ∧ h.get j = some q := fun j q hq => by
    rw [hu j] at hq
    split at hq
    · cases hq
    · rename_i hj; exact ⟨hj, hq⟩
  have hmem : ∀ p ∈ pre ++ (b, x) :: post, p.1 ≠ b → p ∈ pre ++ post := fun p hp hne => by
    simp only [List.mem_append, List.mem_cons] at hp ⊢
    rcases hp with hp | hp | hp
    · exact .inl hp
    · subst hp; exact absurd rfl hne
    · exact .inr hp
  refine ⟨fun id o ho => ?_, fun id id' o o' b h1 h2 => hh.inj id id' o o' b (hget _ _ h1).2 (hget _ _ h2).2, fun p hp => ⟨hmem p (hh.fm p hp).1 fun hc => (hh.fm p hp).2 i a ha (by rw [hb, hc]), fun id o ho => (hh.fm p hp).2 id o (hget _ _ ho).2⟩, fun id cs e j fr hq => hh.cap id cs e j fr (hget _ _ hq).2⟩
  obtain ⟨hne, ho⟩ := hget _ _ ho
  obtain ⟨b', y, h1, h2, h3⟩ := hh.own id o ho
  refine ⟨b', y, h1, h2, hmem _ h3 fun hc => hne ?_⟩
  simp only at hc
  exact hh.inj id i o a b ho ha (by rw [h1, hc]) hb

/-- a new row, with room that is not known -/
theorem newSl_s {ν : Nu} {h : Tr AO} {nx : Nat} {H Fm : HP} {cs : List AV} {us l : List Value} {e need C g : Nat} {fr : Bool} {Y : TyA} {c : KC} (hh : HR tT ν h H Fm) (hfr : Fresh ν nx) (hcs : gvs ν cs = some us) (hY : tT e = some Y) (hg : ∀ p ∈ H, p.1 ≠ g)
    (hC : need ≤ C) (hl : us.length + l.length = C * Y.size) (hf : newSl h nx cs e need fr c = true) :
    ∃ ν' av h' nx', ν.le ν' ∧ nx ≤ nx' ∧ c av h' nx' = true ∧ gv ν' av = some (.slice (some ⟨g, 0, none⟩) need C) ∧ HR tT ν' h' ((g, .cells (us ++ l).toArray e (frz fr (us ++ l).length)) :: H) Fm ∧ Fresh ν' nx' := by
  unfold newSl at hf
  rw [fL_eq] at hf
  obtain ⟨h', hu, hc⟩ := Tr.setK_iff _ _ _ _ _ hf
  rw [fN_eq] at hc
  have hle : ν.le (ν.ext nx g (some C) (some l)) := Nu.ext_le hfr
  refine ⟨ν.ext nx g (some C) (some l), _, h', nx + 1, hle, by omega, hc, ?_, ?_, Nu.ext_fresh hfr⟩
  · simp only [gv, gA, gC, Nu.ext_blk, Nu.ext_cap, Option.map_some]
    simp [hC]
  · refine hh.new hle Nu.ext_blk ?_ hg hu fun cs' e' j fr' he => ?_
    · simp only [go, gvs_mono hle _ _ hcs, gS, Nu.ext_slk]
    · injection he with e1 e2 e3 e4
      injection e3 with e3
      subst e1 e2 e3
      exact ⟨C, l, Y, Nu.ext_cap, Nu.ext_slk, hY, by rw [← hl, gvs_len hcs]⟩

/-! ### what is appended, or copied -/
theorem run_cellsAt {ν : Nu} {h : Tr AO} {H Fm : HP} {a : Nat × Nat} {n : Nat} {c : List AV → Bool} (hh : HR tT ν h H Fm) (hf : cellsAt h a n c = true) :
    ∃ b l us, ν.blk a.1 = some b ∧ c l = true ∧ gvs ν l = some us ∧ us.length = n ∧ ∀ w, Inv cx fz H w → ∀ j v, us[j]? = some v → w.cell? ((⟨b, a.2, none⟩ : Addr).add j) = some v := by
  obtain ⟨o, ho, hf⟩ := fO_iff hf
  obtain ⟨cs, hcs, hf⟩ := fO_iff hf
  obtain ⟨l, hl, hf⟩ := fO_iff hf
  obtain ⟨b, vs, sl, e, f, hb, hvs, hm⟩ := hh.cells ho hcs
  obtain ⟨h3, h4⟩ := gvs_part hvs hl
  refine ⟨b, l, _, hb, hf, h4, by simp; omega, fun w hi j v hj => ?_⟩
  rw [addr_add, cell_own hi hm]
  rw [List.getElem?_take] at hj
  split at hj
  · rw [List.getElem?_drop] at hj
    have hlt' : a.2 + j < vs.length := (List.getElem?_eq_some_iff.1 hj).1
    simp only [List.getElem?_toArray]
    rw [List.getElem?_append_left hlt']; exact hj
  · cases hj
theorem u8cells (l : List Nat) (h : l.all (fun n => Nat.blt n 256) = true) : (bs l).data.toList.map (fun b => Value.int .u8 b.toNat) = l.map fun (n : Nat) => Value.int .u8 (n : Int) := by
  simp only [bs, List.map_map]
  refine List.map_congr_left fun n hn => ?_
  have := (List.all_eq_true.1 h) n hn
  rw [Nat.blt_eq] at this
  simp
  omega
theorem u8gvs (ν : Nu) : ∀ l : List Nat, gvs ν (l.map fun n => .i .u8 (.ofNat n)) = some (l.map fun (n : Nat) => Value.int .u8 (n : Int))
  | [] => by simp [gvs]
  | n :: r => gvs_mk (gv_i _ _ _) (u8gvs ν r)
theorem src_s {ν : Nu} {h : Tr AO} {H Fm : HP} {v : AV} {u : Value} {size : Nat} {c : Nat → List AV → Bool} (hh : HR tT ν h H Fm) (hv : gv ν v = some u) (hf : src v h size c = true) :
    ∃ n l us, c n l = true ∧ gvs ν l = some us ∧ us.length = n * size ∧ (∀ w, (Builtin.lenOf u).run P w = .ok n w) ∧ ∀ w, Inv cx fz H w → ∀ m, m ≤ n → (Builtin.firstCells size m u).run P w = .ok (us.take (m * size)).toArray w := by
  cases v with
  | sl a n lo sy =>
    obtain ⟨A, C, hA, hC, hle, rfl⟩ := asL_iff (a := .sl a n lo sy) rfl hv
    cases a with
    | none =>
      simp [gA] at hA; subst hA
      obtain ⟨hn, hf⟩ := fT_iff hf
      have := Nat.eq_of_beq_eq_true hn
      subst this
      refine ⟨0, [], [], hf, by simp [gvs], by simp, fun w => rfl, fun w _ m hm => ?_⟩
      simp [Builtin.firstCells]
    | some a =>
      simp only [gA] at hA
      obtain ⟨b, l, us, hb, hc, hus, hlen, hcell⟩ := run_cellsAt (cx := cx) (fz := fz) hh (show cellsAt h a (Nat.mul n size) (fun l => c n l) = true from hf)
      simp [hb] at hA; subst hA
      refine ⟨n, l, us, hc, hus, hlen, fun w => rfl, fun w hi m hm => ?_⟩
      have hlt : (us.take (m * size)).length = m * size := by
        rw [List.length_take, hlen]
        exact Nat.min_eq_left (Nat.mul_le_mul_right _ hm)
      have := run_loadCells (P := P) (a := ⟨b, a.2, none⟩) (us.take (m * size)) 0 #[] w (fun j v hj => by
        rw [Nat.zero_add]
        refine hcell w hi j v ?_
        rw [List.getElem?_take] at hj
        split at hj
        · exact hj
        · cases hj)
      rw [hlt] at this
      simp only [Builtin.firstCells, loadCells, this]
      simp
  | s l =>
    obtain ⟨rfl, hall⟩ := asS_iff (a := .s l) rfl hv
    obtain ⟨hs, hf⟩ := fT_iff hf
    have := Nat.eq_of_beq_eq_true hs
    subst this
    refine ⟨l.length, _, _, hf, u8gvs ν l, by simp, fun w => by simp [Builtin.lenOf, bs_size], fun w _ m hm => ?_⟩
    simp only [Builtin.firstCells, Sem.run_pure, Nat.mul_one]
    congr 1
    apply Array.ext'
    rw [← u8cells l hall, ← List.map_take]
    simp
  | _ => cases hf
/-! ### append -/
def KindOk (P : Program) (u : TypeId) : Prop := (∃ e', P.underlying u = some (.slice e')) ∨ P.underlying u = some .string
theorem run_app_room {t tx ty e : TypeId} {i : TypeInfo} {A : Addr} {sLen sCap n : Nat} {x : Value} {news : List Value} {w w' : World} (ht : P.underlying t = some (.slice e)) (hk : KindOk P tx) (hi : P.info? e = some i)
    (hl : ∀ w, (Builtin.lenOf x).run P w = .ok n w) (hc : (Builtin.firstCells i.size n x).run P w = .ok news.toArray w) (hroom : sLen + n ≤ sCap) (hst : (storeCells (A.add (sLen * i.size)) news).run P w = .ok () w') :
    (Builtin.append_ #[t, tx] ty #[.slice (some A) sLen sCap, x]).run P w = .ok (.slice (some A) (sLen + n) sCap) w' := by
  rcases hk with ⟨e', hk⟩ | hk <;> simp [Builtin.append_, run_underlying ht, run_underlying hk, sizeOf, typeInfo, hi, hl, hroom, hc, hst]
theorem run_app_nothing {t tx ty e : TypeId} {i : TypeInfo} {A : Option Addr} {sLen sCap : Nat} {x : Value} {w : World} (ht : P.underlying t = some (.slice e)) (hk : KindOk P tx) (hi : P.info? e = some i)
    (hl : ∀ w, (Builtin.lenOf x).run P w = .ok 0 w) (hc : (Builtin.firstCells i.size 0 x).run P w = .ok #[] w) (hroom : sLen ≤ sCap) :
    (Builtin.append_ #[t, tx] ty #[.slice A sLen sCap, x]).run P w = .ok (.slice A sLen sCap) w := by
  cases A <;> rcases hk with ⟨e', hk⟩ | hk <;> simp [Builtin.append_, run_underlying ht, run_underlying hk, sizeOf, typeInfo, hi, hl, hroom, hc, storeCells]
theorem run_app_grow {t tx ty e : TypeId} {i : TypeInfo} {z : Value} {A : Option Addr} {sLen sCap n : Nat} {x : Value} {olds news : List Value} {w : World} (ht : P.underlying t = some (.slice e)) (hk : KindOk P tx) (hi : P.info? e = some i) (hz : i.zero = some z)
    (hl : ∀ w, (Builtin.lenOf x).run P w = .ok n w) (hc : (Builtin.firstCells i.size n x).run P w.drew = .ok news.toArray w.drew) (ho : (Builtin.firstCells i.size sLen (.slice A sLen sCap)).run P w.drew = .ok olds.toArray w.drew)
    (hg : sCap < sLen + n) (hb : (sLen + n) * (i.bytes + 1) < 1099511627776) :
    (Builtin.append_ #[t, tx] ty #[.slice A sLen sCap, x]).run P w = .ok (.slice (some ⟨w.heap.size, 0, none⟩) (sLen + n) (grownCap w (sLen + n) sCap e))
      (w.drew.alloc (.cells ((olds ++ news).toArray ++ Builtin.zeroCells z.cells (grownCap w (sLen + n) sCap e - (sLen + n))) e)) := by
  have hb2 : (sLen + n) * i.bytes ≤ (sLen + n) * (i.bytes + 1) := Nat.mul_le_mul_left _ (by omega)
  have hb3 : sLen + n ≤ (sLen + n) * (i.bytes + 1) := by rw [Nat.mul_add]; omega
  have hn : ¬ (sLen + n ≤ sCap) := by omega
  have h63' : ¬ (9223372036854775807 < ((sLen : Int) + (n : Int))) := by omega
  have hfit := growslice_fits (bytes := i.bytes) hg (by omega)
  have h48' : ¬ (281474976710656 < Builtin.nextslicecap (sLen + n) sCap * i.bytes) := by omega
  rcases hk with ⟨e', hk⟩ | hk <;>
    (simp [Builtin.append_, run_underlying ht, run_underlying hk, sizeOf, typeInfo, zeroValue, hi, hz, hl, hn, h63', h48', Question.forced, hc, ho, newRow, grownCap]
     congr 2
     apply Array.ext'
     simp [List.append_assoc])
/-- what an append leaves -/
def AppPost (_P : Program) (cx : Cx) (tT : TT) (fz : FZ) (ν : Nu) (nx : Nat) (Fm : HP) (c : KC) (r : Result Value) : Prop :=
  ∃ v w' H', r = .ok v w' ∧ Inv cx fz H' w' ∧ ∃ ν' av h' nx', ν.le ν' ∧ nx ≤ nx' ∧ c av h' nx' = true ∧ gv ν' av = some v ∧ HR tT ν' h' H' Fm ∧ Fresh ν' nx'
theorem app_grow {ν : Nu} {h : Tr AO} {nx : Nat} {H Fm : HP} {c : KC} {w : World} {t tx ty e : TypeId} {X : Ty} {Y : TyA} {A : Option Addr} {sLen sCap n : Nat} {x : Value} {olds news : List AV} {uo un : List Value} (T : Tab P) (hh : HR tT ν h H Fm) (hfr : Fresh ν nx) (hi : Inv cx fz H w)
    (ht : P.underlying t = some (.slice e)) (hk : KindOk P tx) (hX : T.inf e = some X) (hR : TR X Y) (hY : tT e = some Y) (hz : Y.zero.length = Y.size) (hl : ∀ w, (Builtin.lenOf x).run P w = .ok n w) (hc : (Builtin.firstCells Y.size n x).run P w.drew = .ok un.toArray w.drew)
    (ho : (Builtin.firstCells Y.size sLen (.slice A sLen sCap)).run P w.drew = .ok uo.toArray w.drew) (hlo : uo.length = sLen * Y.size) (hln : un.length = n * Y.size) (hg : sCap < sLen + n) (hb : (sLen + n) * (Y.bytes + 1) < 1099511627776)
    (hgo : gvs ν olds = some uo) (hgn : gvs ν news = some un) (hf : newSl h nx (olds ++ news) e (sLen + n) false c = true) :
    AppPost P cx tT fz ν nx Fm c ((Builtin.append_ #[t, tx] ty #[.slice A sLen sCap, x]).run P w) := by
  obtain ⟨inf, hinf, i1, i2, i3⟩ := (T.ok_ hX).info
  have h1 : inf.size = Y.size := by rw [i1, hR.size]
  have h2 : inf.bytes = Y.bytes := by rw [i2, hR.bytes]
  obtain ⟨zs, hzs, hzc⟩ := hR.zero
  have hzl : X.zero.cells.size = Y.size := by rw [hzc]; simp [gvs_len (hzs ν), hz]
  have hrun := run_app_grow (P := P) (ty := ty) (w := w) (x := x) (A := A) (olds := uo) (news := un) ht hk hinf i3 hl (by rw [h1]; exact hc) (by rw [h1]; exact ho) hg (by rw [h2]; exact hb)
  have hge := grownCap_ge w (sLen + n) sCap e
  have hi2 : Inv cx fz H w.drew := hi.drew
  obtain ⟨ν', av, h', nx', g1, g2, g3, g4, g5, g6⟩ := newSl_s (C := grownCap w (sLen + n) sCap e) (g := w.heap.size) (us := uo ++ un) (l := (Builtin.zeroCells X.zero.cells (grownCap w (sLen + n) sCap e - (sLen + n))).toList) hh hfr (gvs_append hgo hgn) hY (below_new hi) hge (by
    rw [List.length_append, hlo, hln, Array.length_toList, size_zeroCells, hzl, ← Nat.add_mul, ← Nat.add_mul]
    congr 1
    omega) hf
  refine ⟨_, _, _, hrun, hi2.alloc _, ν', av, h', nx', g1, g2, g3, g4, ?_, g6⟩
  have e1 : (uo ++ un).toArray ++ Builtin.zeroCells X.zero.cells (grownCap w (sLen + n) sCap e - (sLen + n)) = (uo ++ un ++ (Builtin.zeroCells X.zero.cells (grownCap w (sLen + n) sCap e - (sLen + n))).toList).toArray := by
    apply Array.ext'; simp
  rw [e1]
  exact g5
theorem app_s (hT : TA tT T) {ν : Nu} {h : Tr AO} {nx : Nat} {H Fm : HP} {c : KC} {t tx ty : TypeId} {s x : AV} {us ux : Value} (hh : HR tT ν h H Fm) (hfr : Fresh ν nx) (hs : gv ν s = some us) (hx : gv ν x = some ux) (hk : KindOk P tx) (hf : app tT h nx t s x c = true) :
    ∀ w, Inv cx fz H w → AppPost P cx tT fz ν nx Fm c ((Builtin.append_ #[t, tx] ty #[us, ux]).run P w) := by
  obtain ⟨A, X, hA, hX, hR, hk4, hf⟩ := tyK_iff hT hf
  obtain ⟨z, hz, hf⟩ := fO_iff hf
  obtain ⟨Y, hY, hf⟩ := fO_iff hf
  obtain ⟨hsz, hf⟩ := fT_iff hf
  simp only [Bool.and_eq_true, Nat.blt_eq] at hsz
  obtain ⟨hpos, hzl⟩ := hsz
  replace hzl := Nat.eq_of_beq_eq_true hzl
  obtain ⟨XE, hXE, hRE⟩ := hT A.e Y hY
  have ht := und_plain T hX (hR.d4 hk4) rfl
  obtain ⟨inf, hinf, i1, i2, i3⟩ := (T.ok_ hXE).info
  have hs1 : inf.size = Y.size := by rw [i1, hRE.size]
  obtain ⟨Ad, C, hAd, hC, hle, rfl⟩ := asL_iff hz hs
  have hlC := gC_le hC
  obtain ⟨n, l, un, hf, hun, hlen, hlo, hfc⟩ := src_s (P := P) (cx := cx) (fz := fz) hh hx hf
  intro w hi
  cases hn : Nat.beq n 0 with
  | true =>
    rw [hn, br_true] at hf
    obtain ⟨_, hc⟩ := fT_iff hf
    have hn0 := Nat.eq_of_beq_eq_true hn
    subst hn0
    have h0 := hfc w hi 0 (Nat.le_refl _)
    have hrun := run_app_nothing (P := P) (ty := ty) (A := Ad) (sLen := z.len) (sCap := C) (w := w) ht hk hinf hlo (by simpa [hs1] using h0) (by omega)
    exact ⟨_, _, _, hrun, hi, ν, s, h, nx, Nu.le.refl _, Nat.le_refl _, hc, hs, hh, hfr⟩
  | false =>
    rw [hn, br_false, fN_eq] at hf
    obtain ⟨hbb, hf⟩ := fT_iff hf
    simp only [Bool.and_eq_true, Nat.blt_eq] at hbb
    obtain ⟨hb, hone⟩ := hbb
    have hb' : (z.len + n) * (Y.bytes + 1) < 1099511627776 := hb
    have hn0 : n ≠ 0 := fun he => by subst he; cases hn
    have hnew : (Builtin.firstCells Y.size n ux).run P w = .ok un.toArray w := by
      have := hfc w hi n (Nat.le_refl _)
      rwa [List.take_of_length_le (by omega)] at this
    have hnewD : (Builtin.firstCells Y.size n ux).run P w.drew = .ok un.toArray w.drew := by
      have := hfc w.drew hi.drew n (Nat.le_refl _)
      rwa [List.take_of_length_le (by omega)] at this
    unfold appN at hf
    cases hza : z.a with
    | none =>
      rw [hza, oE_none] at hf
      obtain ⟨hz0, hf⟩ := fT_iff hf
      simp only [Bool.and_eq_true] at hz0
      obtain ⟨z1, z2, z3⟩ := hz0
      replace z1 := Nat.eq_of_beq_eq_true z1
      replace z2 := Nat.eq_of_beq_eq_true z2
      rw [hza] at hAd
      simp [gA] at hAd; subst hAd
      have hC0 : C = 0 := by
        cases hsy : z.sym with
        | none => rw [hsy] at hC; simp [gC] at hC; omega
        | some q => rw [hsy] at z3; cases z3
      refine app_grow (olds := []) (uo := []) T hh hfr hi ht hk hXE hRE hY hzl hlo hnewD ?_ (by simp [z2]) hlen (by omega) hb' (by simp [gvs]) hun (by simpa using hf)
      rw [z2]
      simp [Builtin.firstCells]
    | some a =>
      rw [hza, oE_some] at hf
      rw [hza] at hAd
      simp only [gA] at hAd
      cases hblk : ν.blk a.1 with
      | none => simp [hblk] at hAd
      | some b =>
        simp [hblk] at hAd; subst hAd
        cases hnl : Nat.ble (Nat.add z.len n) z.lo with
        | true =>
          rw [hnl, br_true] at hf
          rw [Nat.ble_eq] at hnl
          have hnl' : z.len + n ≤ z.lo := hnl
          obtain ⟨b', hb2, hrun⟩ := putC_s (P := P) (cx := cx) (fz := fz) hh hun hf
          rw [hblk] at hb2; injection hb2 with hb2; subst hb2
          obtain ⟨h', H', w', g1, g2, g3, g4⟩ := hrun w hi
          have hadd : (⟨b, a.2, none⟩ : Addr).add (z.len * inf.size) = ⟨b, Nat.add a.2 (Nat.mul z.len Y.size), none⟩ := by rw [addr_add, hs1]; rfl
          have hr := run_app_room (P := P) (ty := ty) (A := ⟨b, a.2, none⟩) (sLen := z.len) (sCap := C) (news := un) (w := w) (w' := w') ht hk hinf hlo (by rw [hs1]; exact hnew) (by omega) (by rw [hadd]; exact g1)
          refine ⟨_, _, _, hr, g2, ν, _, h', nx, Nu.le.refl _, Nat.le_refl _, g3, ?_, g4, hfr⟩
          simp only [gv, gA, hblk, Option.map_some, hC]
          rw [if_pos hnl]
          rfl
        | false =>
          rw [hnl, br_false] at hf
          have hnl' : z.lo < z.len + n := by
            rcases Nat.lt_or_ge z.lo (z.len + n) with h1 | h1
            · exact h1
            · have : Nat.ble (Nat.add z.len n) z.lo = true := by rw [Nat.ble_eq]; exact h1
              rw [this] at hnl; cases hnl
          cases hsy : z.sym with
          | none =>
            rw [hsy, oE_none] at hf
            rw [hsy] at hC
            simp [gC] at hC; subst hC
            obtain ⟨b', old, uo, hb2, hc2, hgo, hlo2, hcell⟩ := run_cellsAt (cx := cx) (fz := fz) hh hf
            rw [hblk] at hb2; injection hb2 with hb2; subst hb2
            have hlo3 : uo.length = z.len * Y.size := hlo2
            refine app_grow T hh hfr hi ht hk hXE hRE hY hzl hlo hnewD ?_ hlo3 hlen (by omega) hb' hgo hun hc2
            have := run_loadCells (P := P) (a := ⟨b, a.2, none⟩) uo 0 #[] w.drew (fun j v hj => by rw [Nat.zero_add]; exact hcell w.drew hi.drew j v hj)
            rw [hlo3] at this
            simp only [Builtin.firstCells, loadCells, this]
            simp
          | some q =>
            rw [hsy, oE_some] at hf
            unfold appS at hf
            obtain ⟨o, ho, hf⟩ := fO_iff hf
            obtain ⟨zz, hzz, hf⟩ := fO_iff hf
            obtain ⟨hcond, hf⟩ := fT_iff hf
            simp only [Bool.and_eq_true] at hcond
            obtain ⟨c1, c2, c3, c4, c5, c6, c7⟩ := hcond
            replace c1 := Nat.eq_of_beq_eq_true c1
            replace c2 := Nat.eq_of_beq_eq_true c2
            replace c3 := Nat.eq_of_beq_eq_true c3
            replace c4 := Nat.eq_of_beq_eq_true c4
            replace c5 := Nat.eq_of_beq_eq_true c5
            obtain ⟨h1, hu1, hfin⟩ := Tr.setK_iff _ _ _ _ _ hf
            obtain ⟨b', xo, pre, post, hb2, hgo, rfl⟩ := hh.split ho
            rw [hblk] at hb2; injection hb2 with hb2; subst hb2
            obtain ⟨ws, sl, g1, g2, rfl, rfl⟩ := HR.ce hzz hgo
            have hfrz : frz zz.fr (ws ++ sl).length = (0, 0) := by
              unfold frz
              cases hq : zz.fr with
              | true => rw [hq] at c7; cases c7
              | false => rfl
            rw [hfrz] at hh hi
            cases hzs : zz.sl with
            | none => rw [hzs] at c6; cases c6
            | some j =>
              rw [hzs, oE_some] at c6
              replace c6 := Nat.eq_of_beq_eq_true c6
              subst c6
              rw [hzs] at ho
              obtain ⟨C', l', Y', k1, k2, k3, k4⟩ := hh.cap _ _ _ _ _ ho
              rw [← c3, hY] at k3; injection k3 with k3; subst k3
              rw [hzs] at g2
              simp only [gS] at g2
              rw [k2] at g2; injection g2 with g2; subst g2
              rw [hsy] at hC
              simp only [gC, c5, k1, c2, Nat.zero_add, Nat.sub_zero] at hC
              have hC2 : C' = C := by
                split at hC
                · injection hC
                · cases hC
              subst hC2
              have hwl : ws.length = z.len * Y.size := by rw [gvs_len g1, c4]; rfl
              have hcsl : ws.length + l'.length = C' * Y.size := by rw [gvs_len g1]; exact k4
              by_cases hroom : z.len + n ≤ C'
              · -- room
                have hfit : un.length ≤ l'.length := by
                  have : (z.len + n) * Y.size ≤ C' * Y.size := Nat.mul_le_mul_right _ hroom
                  rw [Nat.add_mul] at this
                  omega
                have hw := (hi.hp.own (b, .cells (ws ++ l').toArray zz.e (0, 0)) (by simp)).1
                simp only at hw
                obtain ⟨w', r1, r2, r3, r4, r5, r6, r7⟩ := run_store (P := P) (off := z.len * Y.size) un 0 (ws ++ l').toArray (0, 0) w hw (by simp; omega) (ones_s hone hun) (.inl rfl)
                have hadd : (⟨b, a.2, none⟩ : Addr).add (z.len * inf.size) = ⟨b, z.len * Y.size, none⟩ := by rw [addr_add, hs1, c1, Nat.zero_add]
                have hr := run_app_room (P := P) (ty := ty) (A := ⟨b, a.2, none⟩) (sLen := z.len) (sCap := C') (news := un) (w := w) (w' := w') ht hk hinf hlo (by rw [hs1]; exact hnew) hroom (by rw [hadd]; exact r1)
                have hnewarr : ((ws ++ l').toArray.toList.take (z.len * Y.size + 0) ++ un ++ (ws ++ l').toArray.toList.drop (z.len * Y.size + 0 + un.length)) = (ws ++ un) ++ l'.drop un.length := by
                  simp only [Nat.add_zero]
                  rw [← hwl, List.take_append_of_le_length (Nat.le_refl _), List.take_of_length_le (Nat.le_refl _), List.drop_append, List.drop_of_length_le (by omega : ws.length ≤ ws.length + un.length)]
                  simp
                rw [hnewarr] at r2
                have hi' := (hi.write r3 r4 r5 r6 r2 r7).perm List.perm_middle.symm
                have hh1 := hh.rm ho hblk hu1
                have hndb : ∀ p ∈ pre ++ post, p.1 ≠ b := fun p hp hc => by
                  have := (List.perm_middle (a := (b, Obj.cells (ws ++ l').toArray zz.e (0, 0))) (l₁ := pre) (l₂ := post)).map Prod.fst
                  have hnd := this.nodup hi.hp.nd
                  simp only [List.map_cons, List.nodup_cons] at hnd
                  exact hnd.1 (List.mem_map.2 ⟨p, hp, hc⟩)
                obtain ⟨ν', av, h', nx', q1, q2, q3, q4, q5, q6⟩ := newSl_s (C := C') (g := b) (us := ws ++ un) (l := l'.drop un.length) hh1 hfr (gvs_append g1 hun) hY hndb hroom (by simp; omega) hfin
                refine ⟨_, _, _, hr, hi', ν', av, h', nx', q1, q2, q3, ?_, ?_, q6⟩
                · rw [q4, c1]
                · rw [c3] at q5
                  exact q5
              · -- none
                have hmem : (b, Obj.cells (ws ++ l').toArray zz.e (0, 0)) ∈ pre ++ (b, Obj.cells (ws ++ l').toArray zz.e (0, 0)) :: post := by simp
                refine app_grow T (hh.drop hu1) hfr hi ht hk hXE hRE hY hzl hlo hnewD ?_ hwl hlen (by omega) hb' g1 hun hfin
                have hid : Inv cx fz (pre ++ (b, Obj.cells (ws ++ l').toArray zz.e (0, 0)) :: post) w.drew := hi.drew
                have hL := run_loadCells (P := P) (a := ⟨b, a.2, none⟩) ws 0 #[] w.drew (fun j v hj => by
                  rw [Nat.zero_add, addr_add, c1, Nat.zero_add, cell_own (cx := cx) (fz := fz) hid hmem]
                  have := (List.getElem?_eq_some_iff.1 hj).1
                  simp only [List.getElem?_toArray]
                  rw [List.getElem?_append_left this]
                  exact hj)
                rw [hwl] at hL
                simp only [Builtin.firstCells, loadCells, hL]
                simp
end
end Go.Ev
