/- Writes: maps; rows of bytes; what a range over a map begins with. Conditions: none. -/
import Derived.Test.YtkejidpdoglahaaGreatDoorEvF
namespace Go.Ev
open Go.Lx Go.RowKit

section
variable {P : Program} {cx : Cx} {tT : TT} {T : Tab P} {fz : FZ}

theorem k_mkmap (hT : TA tT T) (t : TypeId) (y : Operand) : KS P cx tT fz (kMap t y) (.makeMap t (some y)) := fun ν ar r h nx H Fm c dst ty pos af gd hr hh hfr hf => by
  obtain ⟨A, X, hA, hX, hR, hk, hf⟩ := tyK_iff hT hf
  obtain ⟨a, ha, hf⟩ := fO_iff hf
  obtain ⟨z, hz, hf⟩ := fO_iff hf
  obtain ⟨u, h1, h2⟩ := hr y a ha
  have e := asI_iff hz h1
  subst e
  refine ks_alloc (ao := .map [] 0) (mk := .map) (x := .map #[] 0) hh hfr (by simp [go, ges]) (fun _ _ _ _ h => by cases h) hf fun ρ w hρ _ => ⟨.map (some w.heap.size), ?_, fun ν' hb => by simp [Mk.of, gv, gM, hb]⟩
  have hu := run_underlying (und_plain T hX (hR.d6 hk) rfl) w
  simp [execOp, hρ _ _ h2, Instr.makeMap, hu, asInt, asIntOf, newObj, Sem.run]
theorem k_range_s (hT : TA tT T) (t : TypeId) (y : Operand) : KS P cx tT fz (kRange t y) (.range t y) := fun ν ar r h nx H Fm c dst ty pos af gd hr hh hfr hf => by
  obtain ⟨A, X, hA, hX, hR, hk, hf⟩ := tyK_iff hT hf
  obtain ⟨a, ha, hf⟩ := fO_iff hf
  obtain ⟨q, hq, hf⟩ := fO_iff hf
  obtain ⟨u, h1, h2⟩ := hr y a ha
  obtain ⟨m, hm, rfl⟩ := asM_iff hq h1
  have hu := fun w => run_underlying (P := P) (und_plain T hX (hR.d6 hk) rfl) w
  cases q with
  | none =>
    simp [gM] at hm; subst hm
    refine ks_alloc (ao := .mit none 0 [] 0) (mk := .ptr) (x := .mapIter none 0 #[] 0) hh hfr (by simp [go, gM]) (fun _ _ _ _ h => by cases h) hf fun ρ w hρ _ => ⟨.pointer (some ⟨w.heap.size, 0, none⟩), ?_, fun ν' hb => by simp [Mk.of, gv, gA, hb]⟩
    simp [execOp, hρ _ _ h2, Instr.range, hu, newObj, Sem.run]
  | some g =>
    rw [oE_some] at hf
    obtain ⟨o, ho, hf⟩ := fO_iff hf
    obtain ⟨es, hes, hf⟩ := fO_iff hf
    obtain ⟨b, l, hb, hl, hmem⟩ := hh.map ho hes
    simp [gM, hb] at hm; subst hm
    refine ks_alloc (ao := .mit (some g) es.2 [] es.2) (mk := .ptr) (x := .mapIter (some b) es.2 #[] es.2) hh hfr (by simp [go, gM, hb]) (fun _ _ _ _ h => by cases h) hf fun ρ w hρ hi => ⟨.pointer (some ⟨w.heap.size, 0, none⟩), ?_, fun ν' hb => by simp [Mk.of, gv, gA, hb]⟩
    have hg := getObj_own (P := P) hi hmem (by simp)
    simp [execOp, hρ _ _ h2, Instr.range, hu, hg, newObj, Sem.run]

/-- a map's entry is set -/
theorem ges_append {ν : Nu} : ∀ {l r : List (AV × AV × Nat)} {a b : List MapEntry}, ges ν l = some a → ges ν r = some b → ges ν (l ++ r) = some (a ++ b)
  | [], r, a, b, h, k => by simp [ges] at h; subst h; simpa using k
  | e :: l, r, a, b, h, k => by
    obtain ⟨x, y, q, h1, h2, h3, rfl⟩ := ges_cons h
    have := ges_append h3 k
    simp only [List.cons_append, ges, h1, h2, this]
theorem ges_upd {ν : Nu} {v : AV} {w : Value} (hv : gv ν v = some w) : ∀ {l : List (AV × AV × Nat)} {a : List MapEntry} {i : Nat}, ges ν l = some a → ges ν (updE l i v) = some (a.modify i fun e => { e with val := w })
  | [], a, i, h => by simp [ges] at h; subst h; simp [updE, ges]
  | e :: l, a, 0, h => by
    obtain ⟨x, y, q, h1, h2, h3, rfl⟩ := ges_cons h
    simp [updE, ges, h1, hv, h3]
  | e :: l, a, i + 1, h => by
    obtain ⟨x, y, q, h1, h2, h3, rfl⟩ := ges_cons h
    have := ges_upd hv (i := i) h3
    simp [updE, ges, h1, h2, this]
theorem ges_get {ν : Nu} : ∀ {l : List (AV × AV × Nat)} {a : List MapEntry} {i : Nat} {e : AV × AV × Nat}, ges ν l = some a → l[i]? = some e → ∃ k v, gv ν e.1 = some k ∧ gv ν e.2.1 = some v ∧ a[i]? = some ⟨k, v, e.2.2⟩
  | [], _, _, _, _, h => by simp at h
  | x :: l, a, 0, e, h, hi => by
    obtain ⟨k, v, q, h1, h2, h3, rfl⟩ := ges_cons h
    simp at hi; subst hi
    exact ⟨k, v, h1, h2, by simp⟩
  | x :: l, a, i + 1, e, h, hi => by
    obtain ⟨k, v, q, h1, h2, h3, rfl⟩ := ges_cons h
    obtain ⟨k', v', g1, g2, g3⟩ := ges_get (i := i) h3 (by simpa using hi)
    exact ⟨k', v', g1, g2, by simpa using g3⟩
/-- keys that are equal have equal bits -/
theorem keq_same {k : Nat} {ν : Nu} {a b : AV} {u w : Value} (h : keq k a b = some true) (ha : gv ν a = some u) (hb : gv ν b = some w) : w = u := by
  unfold keq at h
  rw [br_eq] at h
  split at h
  · obtain ⟨x, hx, h⟩ := oB_iff h
    obtain ⟨y, hy, h⟩ := oB_iff h
    injection h with h
    rw [sEq_iff] at h
    subst h
    rw [(asS_iff hx ha).1, (asS_iff hy hb).1]
  · rw [br_eq] at h
    split at h
    · obtain ⟨x, hx, h⟩ := oB_iff h
      obtain ⟨y, hy, h⟩ := oB_iff h
      obtain ⟨hk, h⟩ := oT_iff h
      injection h with h
      rw [iEq_eq, decide_eq_true_iff] at h
      rw [asI_iff hx ha, asI_iff hy hb, kEq_iff hk, h]
    · obtain ⟨_, h⟩ := oT_iff h
      obtain ⟨x, hx, h⟩ := oB_iff h
      obtain ⟨y, hy, h⟩ := oB_iff h
      injection h with h
      simp only [beq_iff_eq] at h
      rw [asB_iff hx ha, asB_iff hy hb, h]
theorem keq_bits {k : Nat} {ν : Nu} {a b : AV} {u w : Value} (h : keq k a b = some true) (ha : gv ν a = some u) (hb : gv ν b = some w) (n : Nat) : Instr.sameBits n w u = true := by
  have e := keq_same h ha hb
  subst e
  unfold keq at h
  rw [br_eq] at h
  split at h
  · obtain ⟨x, hx, h⟩ := oB_iff h
    obtain ⟨rfl, _⟩ := asS_iff hx ha
    cases n <;> simp [Instr.sameBits, ba_beq]
  · rw [br_eq] at h
    split at h
    · obtain ⟨x, hx, h⟩ := oB_iff h
      have := asI_iff hx ha
      subst this
      cases n <;> simp [Instr.sameBits]
    · obtain ⟨_, h⟩ := oT_iff h
      obtain ⟨x, hx, h⟩ := oB_iff h
      have := asB_iff hx ha
      subst this
      cases n <;> simp [Instr.sameBits]
/-- an object that is no row is set -/
theorem Inv.setObj' {w : World} {pre post : HP} {g : Nat} {o o' : Obj} (h : Inv cx fz (pre ++ (g, o) :: post) w) : Inv cx fz (pre ++ (g, o') :: post) { w with heap := w.heap.setIfInBounds g o' } := by
  have hg := (h.hp.own (g, o) (by simp)).1
  have hlt := lt_of_heap hg
  exact h.write rfl rfl rfl (by simp) (by simp [hlt]) (fun k hk => by simp only; rw [Array.getElem?_setIfInBounds_ne (by omega)])
theorem run_setObj {w : World} {pre post : HP} {g : Nat} {o o' : Obj} (h : Inv cx fz (pre ++ (g, o) :: post) w) (hn : ∀ c e f, o ≠ .cells c e f) : (Go.setObj g o').run P w = .ok () { w with heap := w.heap.setIfInBounds g o' } := by
  have hg := (h.hp.own (g, o) (by simp)).1
  simp only at hg
  cases o with
  | cells c e f => exact absurd rfl (hn c e f)
  | _ => simp [Go.setObj, Sem.run, hg]
theorem mset_s (hT : TA tT T) {ν : Nu} {h : Tr AO} {H Fm : HP} {t : TypeId} {m k v : AV} {um uk uv : Value} {c : Tr AO → Bool} (hh : HR tT ν h H Fm) (hm : gv ν m = some um) (hk : gv ν k = some uk) (hv : gv ν v = some uv) (hf : mset tT h t m k v c = true) :
    ∀ w, Inv cx fz H w → ∃ h' H' w', (Instr.mapUpdate t um uk uv).run P w = .ok () w' ∧ Inv cx fz H' w' ∧ c h' = true ∧ HR tT ν h' H' Fm := by
  obtain ⟨A, X, hA, hX, hR, hk6, hf⟩ := tyK_iff hT hf
  obtain ⟨q, hq, hf⟩ := fO_iff hf
  obtain ⟨id, hid, hf⟩ := fO_iff hf
  obtain ⟨K, hK, hf⟩ := fO_iff hf
  obtain ⟨hkp, hf⟩ := fT_iff hf
  obtain ⟨o, ho, hf⟩ := fO_iff hf
  obtain ⟨es, hes, hf⟩ := fO_iff hf
  obtain ⟨z, hz, hf⟩ := fO_iff hf
  subst hid
  obtain ⟨mm, hmm, rfl⟩ := asM_iff hq hm
  obtain ⟨XK, hXK, hRK⟩ := hT A.n K hK
  obtain ⟨b, x, pre, post, hb, hx, rfl⟩ := hh.split ho
  simp [gM, hb] at hmm; subst hmm
  have hoe : o = .map es.1 es.2 := by
    cases o with
    | map a n => simp [oMap] at hes; subst hes; rfl
    | cells _ _ _ _ => simp [oMap] at hes
    | mit _ _ _ _ => simp [oMap] at hes
  subst hoe
  simp only [go] at hx
  cases hl : ges ν es.1 with
  | none => simp [hl] at hx
  | some l =>
    simp [hl] at hx; subst hx
    obtain ⟨hu, hd⟩ := key_plain hXK hRK hkp
    have hum := fun w => run_underlying (P := P) (und_plain T hX (hR.d6 hk6) rfl) w
    intro w hi
    have hget := getObj_own (P := P) hi (b := b) (o := .map l.toArray es.2) (by simp) (by simp)
    have hset := fun o' => run_setObj (P := P) (o' := o') hi (by simp)
    rcases fnd_s hRK hkp hk hl hz with ⟨rfl, hfn⟩ | ⟨j, v0, w0, rfl, hg0, hfn, e, he1, he2, he3⟩
    · rw [oE_none, fL_eq, fN_eq] at hf
      obtain ⟨h', hup, hc⟩ := Tr.setK_iff _ _ _ _ _ hf
      have hgo : go ν (.map (es.1 ++ [(k, v, es.2)]) (Nat.succ es.2)) = some (.map (l ++ [(⟨uk, uv, es.2⟩ : MapEntry)]).toArray (es.2 + 1)) := by
        have := ges_append (ν := ν) (r := [(k, v, es.2)]) (b := [(⟨uk, uv, es.2⟩ : MapEntry)]) hl (by simp [ges, hk, hv])
        simp [go, this]
      refine ⟨h', _, _, ?_, Inv.setObj' hi, hc, hh.set hi.hp.nd ho hb hgo hup (fun _ _ _ _ he => by cases he)⟩
      simp only [Instr.mapUpdate, Sem.run_bind, hum, Result.andThen_ok, hget, run_checkKey hu hd, run_findKey hu hfn, hset]
      congr 2
      simp
    · rw [oE_some, fL_eq] at hf
      obtain ⟨h', hup, hc⟩ := Tr.setK_iff _ _ _ _ _ hf
      simp only [Nat.zero_add] at hup hfn
      have hgo : go ν (.map (updE es.1 j v) es.2) = some (.map (l.modify j fun e => { e with val := uv }).toArray es.2) := by
        simp [go, ges_upd hv hl]
      refine ⟨h', _, _, ?_, Inv.setObj' hi, hc, hh.set hi.hp.nd ho hb hgo hup (fun _ _ _ _ he => by cases he)⟩
      obtain ⟨k1, v1, q1, q2, q3⟩ := ges_get hl he1
      have hk1 := keq_same he3 hk q1
      have hbits := keq_bits he3 hk q1 10000
      have hkey : ((l.toArray[j]?).map (·.key)).getD uk = k1 := by simp [q3]
      have hst : (Instr.keyThatStays k1 uk).run P w = .ok uk w := by
        unfold Instr.keyThatStays
        rw [if_pos hbits]; rfl
      simp only [Instr.mapUpdate, Sem.run_bind, hum, Result.andThen_ok, hget, run_checkKey hu hd, run_findKey hu hfn, hkey, hst, hset]
      have hmod : l.toArray.modify j (fun e => { e with key := uk, val := uv }) = (l.modify j fun e => { e with val := uv }).toArray := by
        rw [List.modify_toArray]
        congr 1
        apply List.ext_getElem?
        intro i
        rw [List.getElem?_modify, List.getElem?_modify]
        by_cases hij : j = i
        · subst hij
          rw [q3]
          simp [hk1]
        · simp [hij]
      rw [hmod]
theorem k_set_s (hT : TA tT T) (t : TypeId) (x k v : Operand) : KS P cx tT fz (kSet t x k v) (.mapUpdate t x k v) := fun ν ar r h nx H Fm c dst ty pos af gd hr hh hfr hf => by
  obtain ⟨ax, hax, hf⟩ := fO_iff hf
  obtain ⟨ak, hak, hf⟩ := fO_iff hf
  obtain ⟨av, hav, hf⟩ := fO_iff hf
  obtain ⟨ux, h1, h2⟩ := hr x ax hax
  obtain ⟨uk, h3, h4⟩ := hr k ak hak
  obtain ⟨uv, h5, h6⟩ := hr v av hav
  refine Does.of fun ρ w hρ hi => ?_
  obtain ⟨h', H', w', g1, g2, g3, g4⟩ := mset_s (P := P) (cx := cx) (fz := fz) hT hh h1 h3 h5 hf w hi
  have : (execOp ρ ⟨dst, .mapUpdate t x k v, ty, pos, af, gd⟩).run P w = .ok .skip w' := by
    simp only [execOp, hρ _ _ h2, hρ _ _ h4, hρ _ _ h6, Sem.run_bind, g1, Result.andThen_ok, Sem.run_pure]
  rw [this]
  exact ⟨fz, H', g2, rfl, ν, .tup [], h', nx, Nu.le.refl _, Nat.le_refl _, g3, by simp [gv, gvs, undef], g4, hfr⟩
end
end Go.Ev
