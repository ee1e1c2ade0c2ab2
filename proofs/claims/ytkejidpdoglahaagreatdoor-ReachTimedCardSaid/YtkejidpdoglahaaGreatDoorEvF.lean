/- Writes: stores, maps. Conditions: none. -/
import Derived.Test.YtkejidpdoglahaaGreatDoorEvG
namespace Go.Ev
open Go.Lx Go.RowKit

section
variable {P : Program} {cx : Cx} {tT : TT} {T : Tab P} {fz : FZ}

theorem ks_new {f : LF} {op : Op} (hl : LS P tT f op) : KS P cx tT fz (kNew f) op := fun ν ar r h nx H Fm c dst ty pos af gd hr hh hfr hf => by
  obtain ⟨z, hz, hf⟩ := fO_iff hf
  obtain ⟨hok, hns, x, hx, hrun⟩ := hl ν ar r z.1 z.2 hr hz
  exact ks_alloc hh hfr hx hns hf (fun ρ w hρ _ => ⟨_, hrun dst ty pos af gd ρ w hρ, fun ν' hb => Mk.gv_of hok hb⟩)

/-! ### a block is written -/
/-- a known block changes -/
theorem HR.set {ν : Nu} {h h' : Tr AO} {pre post Fm : HP} {i b : Nat} {a a' : AO} {x x' : Obj} (hh : HR tT ν h (pre ++ (b, x) :: post) Fm) (_hnd : ((pre ++ (b, x) :: post).map Prod.fst).Nodup) (ha : h.get i = some a) (hb : ν.blk i = some b) (ho : go ν a' = some x') (hu : h.upd i (some a') h') (hcap : ∀ cs e j fr, a' = .cells cs e (some j) fr → ∃ cs0 fr0, a = .cells cs0 e (some j) fr0 ∧ cs0.length = cs.length) :
    HR tT ν h' (pre ++ (b, x') :: post) Fm := by
  have hne : ∀ p ∈ pre ++ (b, x) :: post, p.1 ≠ b → p ∈ pre ++ (b, x') :: post := fun p hp hpb => by
    simp only [List.mem_append, List.mem_cons] at hp ⊢
    rcases hp with hp | rfl | hp
    · exact .inl hp
    · exact absurd rfl hpb
    · exact .inr (.inr hp)
  refine ⟨fun id q hq => ?_, fun id id' q q' g hq hq' h1 h2 => ?_, fun p hp => ?_, fun id cs e j fr hq => ?_⟩
  · by_cases hid : id = i
    · subst hid
      rw [hu id, if_pos rfl] at hq
      injection hq with hq; subst hq
      exact ⟨b, x', hb, ho, by simp⟩
    · rw [hu id, if_neg hid] at hq
      obtain ⟨g, y, h1, h2, h3⟩ := hh.own id q hq
      exact ⟨g, y, h1, h2, hne _ h3 (fun he => by simp only at he; exact hid (hh.inj id i q a g hq ha h1 (by rw [hb, he])))⟩
  · have hget : ∀ j q, h'.get j = some q → ∃ q', h.get j = some q' := fun j q hq => by
      rw [hu j] at hq
      split at hq
      · rename_i hj; subst hj; exact ⟨a, ha⟩
      · exact ⟨q, hq⟩
    obtain ⟨q1, hq1⟩ := hget id q hq
    obtain ⟨q2, hq2⟩ := hget id' q' hq'
    exact hh.inj id id' q1 q2 g hq1 hq2 h1 h2
  · obtain ⟨h1, h2⟩ := hh.fm p hp
    refine ⟨hne p h1 (fun he => h2 i a ha (by rw [hb, he])), fun id q hq => ?_⟩
    rw [hu id] at hq
    split at hq
    · rename_i hid; subst hid; exact h2 id a ha
    · exact h2 id q hq
  · rw [hu id] at hq
    split at hq
    · rename_i hid; subst hid
      injection hq with hq
      obtain ⟨cs0, fr0, e1, e2⟩ := hcap cs e j fr hq
      rw [e1] at ha
      rw [← e2]
      exact hh.cap id cs0 e j fr0 ha
    · exact hh.cap id cs e j fr hq
theorem HR.split {ν : Nu} {h : Tr AO} {H Fm : HP} (hh : HR tT ν h H Fm) {id : Nat} {o : AO} (hg : h.get id = some o) : ∃ b x pre post, ν.blk id = some b ∧ go ν o = some x ∧ H = pre ++ (b, x) :: post := by
  obtain ⟨b, x, h1, h2, h3⟩ := hh.own id o hg
  obtain ⟨pre, post, rfl⟩ := List.append_of_mem h3
  exact ⟨b, x, pre, post, h1, h2, rfl⟩
theorem one_s {ν : Nu} {a : AV} {v : Value} (h : a.one = true) (hv : gv ν a = some v) : v.oneCell' = true := by
  cases a with
  | agg _ => cases h
  | tup _ => cases h
  | b x => simp only [gv] at hv; injection hv with hv; subst hv; rfl
  | i k n => simp only [gv] at hv; injection hv with hv; subst hv; rfl
  | s x => obtain ⟨rfl, _⟩ := asS_iff (a := .s x) rfl hv; rfl
  | p a =>
    simp only [gv] at hv
    cases ha : gA ν a with
    | none => simp [ha] at hv
    | some A => simp [ha] at hv; subst hv; rfl
  | sl a n c s => obtain ⟨A, C, _, _, _, rfl⟩ := asL_iff (a := .sl a n c s) rfl hv; rfl
  | m r => obtain ⟨m, _, rfl⟩ := asM_iff (a := .m r) rfl hv; rfl
  | f g x y => obtain ⟨us, vs, _, _, rfl⟩ := asF_iff (a := .f g x y) rfl hv; rfl
  | nf => simp only [gv] at hv; injection hv with hv; subst hv; rfl
  | ifc t w =>
    simp only [gv] at hv
    cases ha : gv ν w with
    | none => simp [ha] at hv
    | some A => simp [ha] at hv; subst hv; rfl
  | ni => simp only [gv] at hv; injection hv with hv; subst hv; rfl
theorem ones_s {ν : Nu} : ∀ {l : List AV} {vs : List Value}, l.all AV.one = true → gvs ν l = some vs → ∀ v ∈ vs, v.oneCell' = true
  | [], vs, _, h, v, hv => by simp [gvs] at h; subst h; cases hv
  | a :: r, vs, h, hg, v, hv => by
    obtain ⟨x, l, hx, hl, rfl⟩ := gvs_cons hg
    simp only [List.all_cons, Bool.and_eq_true] at h
    cases hv with
    | head => exact one_s h.1 hx
    | tail _ hv => exact ones_s h.2 hl v hv

/-- storing cells into a row that may be marked at its end -/
theorem run_store {g off e : Nat} : ∀ (us : List Value) (k : Nat) (arr : Array Value) (f : Nat × Nat) (w : World), w.heap[g]? = some (.cells arr e f) → off + k + us.length ≤ arr.size → (∀ u ∈ us, u.oneCell' = true) → (f.1 = f.2 ∨ arr.size ≤ f.1) →
    ∃ w', (storeCells ⟨g, off, none⟩ us k).run P w = .ok () w' ∧ w'.heap[g]? = some (.cells (arr.toList.take (off + k) ++ us ++ arr.toList.drop (off + k + us.length)).toArray e f) ∧ w'.os = w.os ∧ w'.tape = w.tape ∧ w'.output = w.output ∧ w'.heap.size = w.heap.size ∧ ∀ j, j ≠ g → w'.heap[j]? = w.heap[j]?
  | [], k, arr, f, w, hw, hl, h1, hf => ⟨w, by simp [storeCells], by rw [hw]; simp, rfl, rfl, rfl, rfl, fun _ _ => rfl⟩
  | u :: us, k, arr, f, w, hw, hl, h1, hf => by
    simp only [List.length_cons] at hl
    have hcell : w.cell? ⟨g, off + k, none⟩ = some (arr[off + k]'(by omega)) := by
      simp [World.cell?, hw]
    have hfroz : w.frozen? ⟨g, off + k, none⟩ = false := by
      simp only [World.frozen?, hw]
      rcases hf with hf | hf
      · have : ¬ (f.1 ≤ off + k ∧ off + k < f.2) := by omega
        simpa using this
      · have : ¬ (f.1 ≤ off + k ∧ off + k < f.2) := by omega
        simpa using this
    let w1 := w.setCell ⟨g, off + k, none⟩ u
    have hw1 : w1.heap[g]? = some (.cells (arr.set (off + k) u (by omega)) e f) := by
      simp only [w1, World.setCell, Array.getElem?_modify, hw, if_true, Option.map_some]
      simp [Array.setIfInBounds, show off + k < arr.size by omega]
    obtain ⟨w', g1, g2, g3, g4, g5, g6, g7⟩ := run_store (off := off) us (k + 1) (arr.set (off + k) u (by omega)) f w1 hw1 (by simp; omega) (fun v hv => h1 v (by simp [hv])) (by simpa using hf)
    refine ⟨w', ?_, ?_, g3, g4, g5, by rw [g6]; simp [w1, World.setCell], fun j hj => ?_⟩
    · have hone := h1 u (by simp)
      simp only [storeCells, Sem.run_bind]
      rw [addr_add]
      have hst : (store (⟨g, off + k, none⟩ : Addr) u).run P w = .ok () w1 := by
        cases u <;> first | (simp [Value.oneCell'] at hone; done) | simp [store, Sem.run, hcell, hfroz, w1]
      rw [hst]
      exact g1
    · rw [g2]
      congr 2
      rw [Array.toList_set, show off + (k + 1) = (off + k) + 1 from by omega]
      have hlen : off + k < arr.toList.length := by simp; omega
      rw [List.take_add_one, List.take_set, List.getElem?_set_self (by simpa using hlen), List.drop_set_of_lt (by omega)]
      simp only [Option.toList]
      rw [List.set_eq_of_length_le (by simp; omega)]
      rw [show off + k + 1 + us.length = off + k + (u :: us).length from by simp; omega]
      simp
    · rw [g7 j hj]
      simp only [w1, World.setCell, Array.getElem?_modify]
      rw [if_neg (by simpa using fun h => hj h.symm)]

theorem HR.ce {ν : Nu} {o : AO} {q : Ce} {x : Obj} (hc : oCe o = some q) (hx : go ν o = some x) : ∃ vs l, gvs ν q.cs = some vs ∧ gS ν q.sl = some l ∧ x = .cells (vs ++ l).toArray q.e (frz q.fr (vs ++ l).length) ∧ o = .cells q.cs q.e q.sl q.fr := by
  cases o with
  | cells cs e sl fr =>
    simp [oCe] at hc; subst hc
    simp only [go] at hx
    cases hv : gvs ν cs with
    | none => simp [hv] at hx
    | some vs =>
      cases hs : gS ν sl with
      | none => simp [hv, hs] at hx
      | some l => simp only [hv, hs] at hx; injection hx with hx; exact ⟨vs, l, rfl, rfl, hx.symm, rfl⟩
  | map _ _ => simp [oCe] at hc
  | mit _ _ _ _ => simp [oCe] at hc
/-- cells are stored -/
theorem putC_s {ν : Nu} {h : Tr AO} {H Fm : HP} {id off : Nat} {vs : List AV} {us : List Value} {c : Tr AO → Bool} (hh : HR tT ν h H Fm) (hvs : gvs ν vs = some us) (hf : putC h id off vs c = true) :
    ∃ b, ν.blk id = some b ∧ ∀ w, Inv cx fz H w → ∃ h' H' w', (storeCells ⟨b, off, none⟩ us).run P w = .ok () w' ∧ Inv cx fz H' w' ∧ c h' = true ∧ HR tT ν h' H' Fm := by
  obtain ⟨hone, hf⟩ := fT_iff hf
  obtain ⟨o, ho, hf⟩ := fO_iff hf
  obtain ⟨q, hq, hf⟩ := fO_iff hf
  obtain ⟨cs, hcs, hf⟩ := fO_iff hf
  rw [fL_eq] at hf
  obtain ⟨h', hu, hc⟩ := Tr.setK_iff _ _ _ _ _ hf
  obtain ⟨b, x, pre, post, hb, hx, rfl⟩ := hh.split ho
  obtain ⟨ws, l, g1, g2, rfl, rfl⟩ := HR.ce hq hx
  obtain ⟨g3, g4⟩ := gvs_wr g1 hvs hcs
  refine ⟨b, hb, fun w hi => ?_⟩
  have hw := (hi.hp.own (b, .cells (ws ++ l).toArray q.e (frz q.fr (ws ++ l).length)) (by simp)).1
  simp only at hw
  obtain ⟨w', k1, k2, k3, k4, k5, k6, k7⟩ := run_store (P := P) (off := off) us 0 (ws ++ l).toArray (frz q.fr (ws ++ l).length) w hw (by simp; omega) (ones_s hone hvs) (by
    unfold frz
    split
    · right; simp
    · left; rfl)
  have hnew : (((ws ++ l).toArray.toList.take (off + 0) ++ us ++ (ws ++ l).toArray.toList.drop (off + 0 + us.length))) = (ws.take off ++ us ++ ws.drop (off + us.length)) ++ l := by
    simp only [Nat.add_zero]
    rw [List.take_append_of_le_length (by omega), List.drop_append_of_le_length (by omega)]
    simp
  rw [hnew] at k2
  have hlen : ((ws.take off ++ us ++ ws.drop (off + us.length)) ++ l).length = (ws ++ l).length := by simp; omega
  have hgo : go ν (.cells cs q.e q.sl q.fr) = some (.cells ((ws.take off ++ us ++ ws.drop (off + us.length)) ++ l).toArray q.e (frz q.fr (ws ++ l).length)) := by
    simp only [go, g4, g2, hlen]
  exact ⟨h', _, w', k1, hi.write k3 k4 k5 k6 k2 k7, hc, hh.set hi.hp.nd ho hb hgo hu (fun cs' e j fr he => by injection he with e1 e2 e3 e4; exact ⟨q.cs, q.fr, by rw [e2, e3], by rw [← e1, ← gvs_len g1, ← gvs_len g4]; simp; omega⟩)⟩
theorem k_store_s (hT : TA tT T) (t : TypeId) (x y : Operand) : KS P cx tT fz (kStore t x y) (.store t x y) := fun ν ar r h nx H Fm c dst ty pos af gd hr hh hfr hf => by
  obtain ⟨a, ha, hf⟩ := fO_iff hf
  obtain ⟨p, hp, hf⟩ := fO_iff hf
  obtain ⟨A, hA, hf⟩ := fO_iff hf
  obtain ⟨v, hv, hf⟩ := fO_iff hf
  obtain ⟨hb, hf⟩ := fT_iff hf
  obtain ⟨X, hX, hR⟩ := hT t A hA
  obtain ⟨u, h1, h2⟩ := hr x a ha
  obtain ⟨uv, h3, h4⟩ := hr y v hv
  obtain ⟨b, hbb, rfl⟩ := asP_iff hp h1
  have hcells := gv_cells h3
  obtain ⟨b', hb', hrun⟩ := putC_s (P := P) (cx := cx) (fz := fz) hh hcells hf
  rw [hbb] at hb'; injection hb' with hb'; subst hb'
  refine Does.of fun ρ w hρ hi => ?_
  obtain ⟨h', H', w', g1, g2, g3, g4⟩ := hrun w hi
  have hsz := Go.Lx.run_sizeOf T hX w
  have hs : uv.cells.size = X.size := by
    have := gvs_len hcells
    rw [hR.size, ← Nat.eq_of_beq_eq_true hb]
    simpa using this
  have : (execOp ρ ⟨dst, .store t x y, ty, pos, af, gd⟩).run P w = .ok .skip w' := by
    simp only [execOp, hρ _ _ h2, hρ _ _ h4, Instr.storeAt, Instr.sureAddr, Sem.run_bind, Sem.run_pure, Result.andThen_ok, storeVar, hsz]
    simp [hs, g1]
  rw [this]
  exact ⟨fz, H', g2, rfl, ν, .tup [], h', nx, Nu.le.refl _, Nat.le_refl _, g3, by simp [gv, gvs, undef], g4, hfr⟩
end
end Go.Ev
