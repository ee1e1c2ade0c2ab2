/- The texts GWalkE, GWalkF, GWalkG, GWalkH, GWalkI, GWalkJ, GWalkK, GWalkL, GWalkM, GWalkN, GWalkO, laid together. Conditions: none. -/
import Derived.Test.YtegmololhnipiaaGreatDoorQhC
namespace Go.Proofs.YtegmololhnipiaaGreatDoor
open Go.Lx Go.Gr Go.RowKit
attribute [local instance 10] Classical.propDecidable
abbrev oV (o : GOp) (p1 p2 p3 v4 v5 : Value) : Value := .agg #[.string o.name, .int .i64 o.cost, p1, p2, p3, v4, v5]
def AssignAt (m : Int) (l : List GAssign) (i : Nat) : Prop := ∀ a, l[i]? = some a → 0 ≤ a.fluent ∧ a.fluent < m ∧ RightP m a.value ∧ ∀ (j : Nat) (b : GAssign), j < i → l[j]? = some b → b.fluent ≠ a.fluent
theorem assigns_of {m : Int} {l : List GAssign} {k : Nat} (h : ∀ i, i < k → AssignAt m l i) (hk : l.length ≤ k) : AssignsOk m l := fun i a ha => h i (by have := lt_of_get ha; omega) a ha
theorem seen_next {m : Int} {l : List GAssign} {k : Nat} {ks : List Int} {x : GAssign} (hh : ∀ i, i < k → AssignAt m l i) (hks : ∀ x, x ∈ ks ↔ ∃ j b, j < k ∧ l[j]? = some b ∧ b.fluent = x) (hx : l[k]? = some x) (h0 : 0 ≤ x.fluent) (h1 : x.fluent < m) (h2 : RightP m x.value) (h3 : x.fluent ∉ ks) :
    (∀ i, i < k + 1 → AssignAt m l i) ∧ ∀ y, y ∈ insK ks x.fluent ↔ ∃ j b, j < k + 1 ∧ l[j]? = some b ∧ b.fluent = y := by
  refine ⟨lt_succ_cases hh (fun y hy => ?_), fun y => ?_⟩
  · rw [hx] at hy; injection hy with hy; subst hy
    exact ⟨h0, h1, h2, fun j b h4 h5 h6 => h3 ((hks _).2 ⟨j, b, h4, h5, h6⟩)⟩
  · rw [mem_insK, hks]
    constructor
    · rintro (⟨j, b, h4, h5⟩ | rfl)
      · exact ⟨j, b, by omega, h5⟩
      · exact ⟨k, x, by omega, hx, rfl⟩
    · rintro ⟨j, b, h4, h5, h6⟩
      by_cases hj : j < k
      · exact .inl ⟨j, b, hj, h5, h6⟩
      · have e : j = k := by omega
        subst e
        rw [hx] at h5; injection h5 with h5; subst h5
        exact .inr h6.symm
theorem operator_q {fz : FZ} {g : GTask} {v1 v2 v3 v4 v5 : Value} {o : GOp} {u1 u2 u3 u4 u5 : Value} (hg : GTaskR fz g v1 v2 v3 v4 v5) (ho : GOpR fz o u1 u2 u3 u4 u5) :
    QFn Tryz.prog 44 [gV v1 v2 v3 v4 v5, oV o u1 u2 u3 u4 u5] fz (.bool (decide (OpOk g.atoms.length g.fluents.length o))) := by
  (obtain ⟨A1, n1, cap1, rfl, ga⟩ := hg.atoms; obtain ⟨A2, n2, cap2, rfl, gf⟩ := hg.fluents; obtain ⟨A3, n3, cap3, rfl, gi⟩ := hg.init; obtain ⟨A4, n4, cap4, rfl, gg⟩ := hg.goal; obtain ⟨A5, n5, cap5, rfl, go⟩ := hg.ops; have e1 := ga.len; subst e1; have e2 := gf.len; subst e2)
  have hc := ho.pre
  (obtain ⟨B1, m1, d1, rfl, cp⟩ := hc.pos; obtain ⟨B2, m2, d2, rfl, cn⟩ := hc.neg; obtain ⟨B3, m3, d3, rfl, ct⟩ := hc.tests)
  obtain ⟨B4, m4, d4, rfl, oc⟩ := ho.changes
  obtain ⟨B5, m5, d5, rfl, oa⟩ := ho.assigns
  have l4 := oc.len
  have l5 := oa.len
  have s4 := oc.short
  have s5 := oa.short
  refine GFn.quiet ?_
  (refine GFn.of_wp Tryz.func44 rfl Tryz.ntmps44 rfl rfl (fun w0 => ?_))
  (refine Wp.seq (Wp.region (Seq.stepK (by exact rfl) (k_box _ (by exact rfl) (by exact rfl) (fun g0 => ?_)))))
  (refine Seq.stepK (by exact rfl) (k_box _ (by exact rfl) (by exact rfl) (fun g1 => ?_)))
  ((refine Zq ?_; refine Za ?_; refine Seq.done ?_; refine Wp.seq ?_; refine Wp.seq ?_; refine Wp.region ?_; refine Zq ?_; refine Zf T ?_; refine Zq ?_; refine Zl T 0 ?_; refine Zq ?_; refine q_len_slice T (by exact rfl) (by exact rfl) (by exact rfl) ?_))
  (((refine Zq ?_)); (refine q_gtrD (by exact rfl) (by exact rfl) (fun c1 => ?_) (fun c1 => ?_)))
  · ((refine Zq ?_; refine Zm ?_; refine Zn ?_; refine Zn ?_; refine Zn ?_; refine Zq ?_; refine Zt ?_; refine Zq ?_; refine Zm ?_; refine Zn ?_; refine Zn ?_; refine Zn ?_; refine Zq ?_; refine Zt ?_; refine Zq ?_; refine Zm ?_; refine Zn ?_; refine Zn ?_; refine Zn ?_; refine Zn ?_; refine Zq ?_; refine Zt ?_; refine Zq ?_; refine Zm ?_; refine Zn ?_; refine Zn ?_; refine Zn ?_; refine Zn ?_; refine Zn ?_; refine Zq ?_; refine Zt ?_; refine Seq.done ?_; refine Zc ?_; refine Wp.seq ?_; refine Wp.region ?_; refine Zq ?_; refine Za ?_; refine Seq.done ?_; refine Wp.ret ?_; refine thenR ?_))
    (exact ret1 rfl rfl (by repeat (first | exact List.Sublist.refl _ | exact List.nil_sublist _ | refine List.Sublist.cons_cons _ ?_ | refine List.Sublist.cons _ ?_)) (bool_false (fun h => by have := h.2.2.2.1; omega)))
  · ((refine Zq ?_; refine Zm ?_; refine Zy ?_; refine Zf T ?_; refine Zy ?_; refine Zl T 0 ?_))
    (((refine Zy ?_)); (refine q_lssD (by exact rfl) (by exact rfl) (fun c2 => ?_) (fun c2 => ?_)))
    · ((refine Zq ?_; refine Zu ?_; refine Zq ?_; refine Zm ?_; refine Zn ?_; refine Zn ?_; refine Zn ?_; refine Zq ?_; refine Zt ?_; refine Zq ?_; refine Zm ?_; refine Zn ?_; refine Zn ?_; refine Zn ?_; refine Zn ?_; refine Zq ?_; refine Zt ?_; refine Zq ?_; refine Zm ?_; refine Zn ?_; refine Zn ?_; refine Zn ?_; refine Zn ?_; refine Zn ?_; refine Zq ?_; refine Zt ?_; refine Seq.done ?_; refine Zc ?_; refine Wp.seq ?_; refine Wp.region ?_; refine Zq ?_; refine Za ?_; refine Seq.done ?_; refine Wp.ret ?_; refine thenR ?_))
      (exact ret1 rfl rfl (by repeat (first | exact List.Sublist.refl _ | exact List.nil_sublist _ | refine List.Sublist.cons_cons _ ?_ | refine List.Sublist.cons _ ?_)) (bool_false (fun h => by have := h.1; omega)))
    · ((refine Zq ?_; refine Zu ?_; refine Zq ?_; refine Zm ?_; refine Zy ?_; refine Zf T ?_; refine Zy ?_; refine Zl T 0 ?_))
      (((refine Zy ?_)); (refine q_gtrD (by exact rfl) (by exact rfl) (fun c3 => ?_) (fun c3 => ?_)))
      · ((refine Zq ?_; refine Zu ?_; refine Zq ?_; refine Zm ?_; refine Zn ?_; refine Zn ?_; refine Zn ?_; refine Zn ?_; refine Zq ?_; refine Zt ?_; refine Zq ?_; refine Zm ?_; refine Zn ?_; refine Zn ?_; refine Zn ?_; refine Zn ?_; refine Zn ?_; refine Zq ?_; refine Zt ?_; refine Seq.done ?_; refine Zc ?_; refine Wp.seq ?_; refine Wp.region ?_; refine Zq ?_; refine Za ?_; refine Seq.done ?_; refine Wp.ret ?_; refine thenR ?_))
        (exact ret1 rfl rfl (by repeat (first | exact List.Sublist.refl _ | exact List.nil_sublist _ | refine List.Sublist.cons_cons _ ?_ | refine List.Sublist.cons _ ?_)) (bool_false (fun h => by have := h.2.1; omega)))
      · ((refine Zq ?_; refine Zu ?_; refine Zq ?_; refine Zm ?_; refine Zy ?_; refine Zf T ?_; refine Zy ?_; refine Zl T 0 ?_))
        (((refine Zy ?_)); refine q_callB (by exact rfl) (by exact rfl) (named_q ho.name) (fun f1 => ?_) (fun f1 => ?_))
        · ((refine Zy ?_; refine q_not (by exact rfl) ?_; refine Zq ?_; refine Zu ?_; refine Zq ?_; refine Zm ?_; refine Zy ?_; refine ZL T 1 ?_; refine Zy ?_; refine Zf T ?_))
          (((refine Zy ?_)); refine q_load_own_sub (vs := [.slice B1 m1 d1, .slice B2 m2 d2, .slice B3 m3 d3]) T 0 (by exact rfl) (by exact rfl) (by exact rfl) (by exact rfl) (by exact rfl) (by exact rfl) ?_)
          (skip)
          (((refine Zy ?_)); refine q_callB (by exact rfl) (by exact rfl) (condition_q hg hc) (fun f2 => ?_) (fun f2 => ?_))
          · ((refine Zy ?_; refine q_not (by exact rfl) ?_; refine Zq ?_; refine Zu ?_; refine Seq.done ?_; refine Zd ?_; refine Wp.skip ?_; refine thenN ?_; refine Wp.seq ?_; refine Wp.seq ?_; refine Wp.region ?_; refine Zq ?_; refine Zf T ?_; refine Zq ?_; refine Zl T 0 ?_; refine Zq ?_; refine q_len_slice T (by exact rfl) (by exact rfl) (by exact rfl) ?_; refine Zq ?_; refine Zm ?_; refine Seq.done ?_; refine Wp.block ?_))
            (refine Wp.loop (fun q σ fz' H' => ∃ k : Nat, k ≤ m4 ∧ q = m4 - k ∧ σ = [(40, .int .i64 k), (39, .int .i64 m4), (38, .slice B4 m4 d4), (2, .pointer (some ⟨g0, 0, none⟩)), (3, .pointer (some ⟨g1, 0, none⟩))] ∧ fz = fz' ∧ H' = [((g1, .cells #[.string o.name, .int .i64 o.cost, .slice B1 m1 d1, .slice B2 m2 d2, .slice B3 m3 d3, .slice B4 m4 d4, .slice B5 m5 d5] 46 (0, 0))), ((g0, .cells #[.slice A1 g.atoms.length cap1, .slice A2 g.fluents.length cap2, .slice A3 n3 cap3, .slice A4 n4 cap4, .slice A5 n5 cap5] 28 (0, 0)))] ∧ (∀ i, i < k → ∀ x, o.changes[i]? = some x → ChangeOk g.atoms.length g.fluents.length x)) ⟨0, Nat.zero_le _, rfl, rfl, rfl, rfl, (fun i hi => absurd hi (by omega))⟩ (by repeat (first | exact trivial | refine ⟨by exact rfl, ?_⟩)) (by repeat (first | exact List.Sublist.refl _ | exact List.nil_sublist _ | refine List.Sublist.cons_cons _ ?_ | refine List.Sublist.cons _ ?_)) ?_; rintro q σ fz' H' ⟨k, hk, rfl, rfl, rfl, rfl, hh⟩)
            ((refine Wp.seq ?_; refine Wp.region ?_))
            (((refine Zq ?_)); (refine q_lssD (by exact rfl) (by exact rfl) (fun hlt => ?_) (fun hge => ?_)))
            · ((refine Seq.done ?_; refine Wp.seq ?_; refine Zc ?_; refine Wp.skip ?_; refine thenN ?_; refine Wp.seq ?_; refine Wp.block ?_; refine Wp.seq ?_; refine Wp.region ?_))
              obtain ⟨x, hx⟩ := get_some (l := o.changes) (k := k) (by omega)
              (((refine Zq ?_)); refine q_index T k (by exact rfl) (by exact rfl) (by exact rfl) (by exact rfl) (by exact rfl) (by exact rfl) oc (by first | rfl | omega) hx (fun p hp => ?_))
              (((refine Zq ?_)); refine q_load_at T (by exact rfl) (by exact rfl) (by exact rfl) hp (by exact rfl) ?_)
              intro cs hcs
              obtain ⟨w1, w2, w3, rfl, hR⟩ := gChangeL_open hcs
              obtain ⟨E1, r1, q1, rfl, _⟩ := hR.when_.pos
              obtain ⟨E2, r2, q2, rfl, _⟩ := hR.when_.neg
              obtain ⟨E3, r3, q3, rfl, _⟩ := hR.when_.tests
              have bad : ¬ ChangeOk g.atoms.length g.fluents.length x → ¬ OpOk g.atoms.length g.fluents.length o := fun h hc => h (hc.2.2.2.2.2.1 x (List.mem_of_getElem? hx))
              ((refine Seq.stepK (by exact rfl) (k_alloc T (by exact rfl) (by exact rfl) (fun _ => ?_)); refine Seq.stepK0 (k_store0 T (by exact rfl) (by exact rfl) (by exact rfl) (by exact rfl) (by exact rfl) (by exact rfl) ?_); refine Seq.done ?_; refine Wp.seq ?_; refine Wp.region ?_; refine Zq ?_; refine Zf T ?_; refine Zq ?_; refine Zl T 0 ?_))
              (((refine Zq ?_)); (refine q_lssD (by exact rfl) (by exact rfl) (fun b1 => ?_) (fun b1 => ?_)))
              · ((refine Zq ?_; refine Zm ?_; refine Zn ?_; refine Zn ?_; refine Zn ?_; refine Zn ?_; refine Zn ?_; refine Zn ?_; refine Zq ?_; refine Zt ?_; refine Zq ?_; refine Zm ?_; refine Zn ?_; refine Zn ?_; refine Zn ?_; refine Zn ?_; refine Zn ?_; refine Zq ?_; refine Zt ?_; refine Seq.done ?_; refine Zc ?_; refine Wp.seq ?_; refine Wp.region ?_; refine Zq ?_; refine Za ?_; refine Seq.done ?_; refine Wp.ret ?_; refine blkR ?_; refine thenR ?_; refine loopR ?_; refine blkR ?_; refine thenR ?_))
                (exact ret1 rfl rfl (by repeat (first | exact List.Sublist.refl _ | exact List.nil_sublist _ | refine List.Sublist.cons_cons _ ?_ | refine List.Sublist.cons _ ?_)) (bool_false (bad (fun h => by have := h.1; omega))))
              · ((refine Zq ?_; refine Zm ?_; refine Zy ?_; refine Zf T ?_; refine Zy ?_; refine Zl T 0 ?_; refine Zy ?_; refine Zf T ?_; refine Zy ?_; refine Zl T 2 ?_; refine Zy ?_; refine q_len_slice T (by exact rfl) (by exact rfl) (by exact rfl) ?_))
                (((refine Zy ?_)); (refine q_geqD (by exact rfl) (by exact rfl) (fun b2 => ?_) (fun b2 => ?_)))
                · ((refine Zq ?_; refine Zu ?_; refine Zq ?_; refine Zm ?_; refine Zn ?_; refine Zn ?_; refine Zn ?_; refine Zn ?_; refine Zn ?_; refine Zq ?_; refine Zt ?_; refine Seq.done ?_; refine Zc ?_; refine Wp.seq ?_; refine Wp.region ?_; refine Zq ?_; refine Za ?_; refine Seq.done ?_; refine Wp.ret ?_; refine blkR ?_; refine thenR ?_; refine loopR ?_; refine blkR ?_; refine thenR ?_))
                  (exact ret1 rfl rfl (by repeat (first | exact List.Sublist.refl _ | exact List.nil_sublist _ | refine List.Sublist.cons_cons _ ?_ | refine List.Sublist.cons _ ?_)) (bool_false (bad (fun h => by have := h.2.1; omega))))
                · ((refine Zq ?_; refine Zu ?_; refine Zq ?_; refine Zm ?_; refine Zy ?_; refine ZL T 2 ?_; refine Zy ?_; refine Zf T ?_))
                  (((refine Zy ?_)); refine q_load_own_sub (vs := [.slice E1 r1 q1, .slice E2 r2 q2, .slice E3 r3 q3]) T 0 (by exact rfl) (by exact rfl) (by exact rfl) (by exact rfl) (by exact rfl) (by exact rfl) ?_)
                  (skip)
                  (((refine Zy ?_)); refine q_callB (by exact rfl) (by exact rfl) (condition_q hg hR.when_) (fun f3 => ?_) (fun f3 => ?_))
                  · ((refine Zy ?_; refine q_not (by exact rfl) ?_; refine Zq ?_; refine Zu ?_; refine Seq.done ?_; refine Zd ?_; refine Wp.skip ?_; refine blkN ?_; refine thenN ?_; refine Wp.region ?_; refine Zq ?_; refine q_add (by exact rfl) (by exact rfl) (wrap_in (by omega)) ?_; refine Zq ?_; refine Zm ?_; refine Seq.end_ ?_))
                    (exact loopN ⟨k + 1, by omega, rfl, rfl, rfl, rfl, (all_next hh hx ⟨by omega, by omega, of_decide_eq_true f3⟩)⟩ (by omega) (by repeat (first | exact trivial | refine ⟨by exact rfl, ?_⟩)) (by repeat (first | exact List.Sublist.refl _ | exact List.nil_sublist _ | refine List.Sublist.cons_cons _ ?_ | refine List.Sublist.cons _ ?_)))
                  · ((refine Zy ?_; refine q_not (by exact rfl) ?_; refine Zq ?_; refine Zu ?_; refine Seq.done ?_; refine Zc ?_; refine Wp.seq ?_; refine Wp.region ?_; refine Zq ?_; refine Za ?_; refine Seq.done ?_; refine Wp.ret ?_; refine blkR ?_; refine thenR ?_; refine loopR ?_; refine blkR ?_; refine thenR ?_))
                    (exact ret1 rfl rfl (by repeat (first | exact List.Sublist.refl _ | exact List.nil_sublist _ | refine List.Sublist.cons_cons _ ?_ | refine List.Sublist.cons _ ?_)) (bool_false (bad (fun h => of_decide_eq_false f3 h.2.2))))
            · have hch := all_of hh (by omega)
              ((refine Seq.done ?_; refine Wp.seq ?_; refine Zd ?_; refine Wp.exit ?_; refine thenX ?_; refine loopX ?_; refine blkX (by exact rfl) ?_; refine thenN ?_; refine Wp.seq ?_; refine Wp.region ?_))
              refine Seq.stepK (by exact rfl) (k_makeMap (fun gm => ?_))
              ((refine Zq ?_; refine Za ?_; refine Seq.done ?_; refine Wp.seq ?_; refine Wp.seq ?_; refine Wp.region ?_; refine Zq ?_; refine Zf T ?_; refine Zq ?_; refine Zl T 1 ?_; refine Zq ?_; refine q_len_slice T (by exact rfl) (by exact rfl) (by exact rfl) ?_; refine Zq ?_; refine Zm ?_; refine Seq.done ?_; refine Wp.block ?_))
              (refine Wp.loop (fun q σ fz' H' => ∃ (k : Nat) (ks : List Int), k ≤ m5 ∧ q = m5 - k ∧ σ = [(67, .int .i64 k), (66, .int .i64 m5), (65, .slice B5 m5 d5), (7, .map (some gm)), (2, .pointer (some ⟨g0, 0, none⟩)), (3, .pointer (some ⟨g1, 0, none⟩))] ∧ fz = fz' ∧ H' = [(gm, mapB (setB ks)), ((g1, .cells #[.string o.name, .int .i64 o.cost, .slice B1 m1 d1, .slice B2 m2 d2, .slice B3 m3 d3, .slice B4 m4 d4, .slice B5 m5 d5] 46 (0, 0))), ((g0, .cells #[.slice A1 g.atoms.length cap1, .slice A2 g.fluents.length cap2, .slice A3 n3 cap3, .slice A4 n4 cap4, .slice A5 n5 cap5] 28 (0, 0)))] ∧ ((∀ i, i < k → AssignAt g.fluents.length o.assigns i) ∧ ∀ x, x ∈ ks ↔ ∃ j b, j < k ∧ o.assigns[j]? = some b ∧ b.fluent = x)) ⟨0, [], Nat.zero_le _, rfl, rfl, rfl, rfl, ⟨(fun i hi => absurd hi (by omega)), fun x => by simp⟩⟩ (by repeat (first | exact trivial | refine ⟨by exact rfl, ?_⟩)) (by repeat (first | exact List.Sublist.refl _ | exact List.nil_sublist _ | refine List.Sublist.cons_cons _ ?_ | refine List.Sublist.cons _ ?_)) ?_; rintro q σ fz' H' ⟨k, ks, hk, rfl, rfl, rfl, rfl, hh⟩)
              obtain ⟨hh, hks⟩ := hh
              ((refine Wp.seq ?_; refine Wp.region ?_))
              (((refine Zq ?_)); (refine q_lssD (by exact rfl) (by exact rfl) (fun hlt => ?_) (fun hge => ?_)))
              · ((refine Seq.done ?_; refine Wp.seq ?_; refine Zc ?_; refine Wp.skip ?_; refine thenN ?_; refine Wp.seq ?_; refine Wp.block ?_; refine Wp.seq ?_; refine Wp.region ?_))
                obtain ⟨x, hx⟩ := get_some (l := o.assigns) (k := k) (by omega)
                (((refine Zq ?_)); refine q_index T k (by exact rfl) (by exact rfl) (by exact rfl) (by exact rfl) (by exact rfl) (by exact rfl) oa (by first | rfl | omega) hx (fun p hp => ?_))
                (((refine Zq ?_)); refine q_load_at T (by exact rfl) (by exact rfl) (by exact rfl) hp (by exact rfl) ?_)
                intro cs hcs
                obtain ⟨w1, rfl, hR⟩ := gAssignL_open hcs
                obtain ⟨E1, r1, q1, rfl, _⟩ := hR.value.kids
                have bad : (0 ≤ x.fluent → x.fluent < g.fluents.length → (∀ (j : Nat) (b : GAssign), j < k → o.assigns[j]? = some b → b.fluent ≠ x.fluent) → ¬ RightP g.fluents.length x.value) → ¬ OpOk g.atoms.length g.fluents.length o := fun h hc => by
                  have := hc.2.2.2.2.2.2 k x hx
                  exact h this.1 this.2.1 this.2.2.2 this.2.2.1
                ((refine Seq.stepK (by exact rfl) (k_alloc T (by exact rfl) (by exact rfl) (fun _ => ?_)); refine Seq.stepK0 (k_store0 T (by exact rfl) (by exact rfl) (by exact rfl) (by exact rfl) (by exact rfl) (by exact rfl) ?_); refine Seq.done ?_; refine Wp.seq ?_; refine Wp.seq ?_; refine Wp.region ?_; refine Zq ?_; refine Zf T ?_; refine Zq ?_; refine Zl T 0 ?_))
                (((refine Zq ?_)); (refine q_lssD (by exact rfl) (by exact rfl) (fun b1 => ?_) (fun b1 => ?_)))
                · ((refine Zq ?_; refine Zm ?_; refine Zn ?_; refine Zn ?_; refine Zn ?_; refine Zn ?_; refine Zn ?_; refine Zn ?_; refine Zq ?_; refine Zt ?_; refine Zq ?_; refine Zm ?_; refine Zn ?_; refine Zn ?_; refine Zn ?_; refine Zn ?_; refine Zq ?_; refine Zt ?_; refine Zq ?_; refine Zm ?_; refine Zn ?_; refine Zn ?_; refine Zn ?_; refine Zn ?_; refine Zn ?_; refine Zn ?_; refine Zn ?_; refine Zq ?_; refine Zt ?_; refine Seq.done ?_; refine Zc ?_; refine Wp.seq ?_; refine Wp.region ?_; refine Zq ?_; refine Za ?_; refine Seq.done ?_; refine Wp.ret ?_; refine thenR ?_; refine blkR ?_; refine thenR ?_; refine loopR ?_; refine blkR ?_; refine thenR ?_))
                  (exact ret1 rfl rfl (by repeat (first | exact List.Sublist.refl _ | exact List.nil_sublist _ | refine List.Sublist.cons_cons _ ?_ | refine List.Sublist.cons _ ?_)) (bool_false (bad (fun h => by omega))))
                · ((refine Zq ?_; refine Zm ?_; refine Zy ?_; refine Zf T ?_; refine Zy ?_; refine Zl T 0 ?_; refine Zy ?_; refine Zf T ?_; refine Zy ?_; refine Zl T 3 ?_; refine Zy ?_; refine q_len_slice T (by exact rfl) (by exact rfl) (by exact rfl) ?_))
                  (((refine Zy ?_)); (refine q_geqD (by exact rfl) (by exact rfl) (fun b2 => ?_) (fun b2 => ?_)))
                  · ((refine Zq ?_; refine Zu ?_; refine Zq ?_; refine Zm ?_; refine Zn ?_; refine Zn ?_; refine Zn ?_; refine Zn ?_; refine Zq ?_; refine Zt ?_; refine Zq ?_; refine Zm ?_; refine Zn ?_; refine Zn ?_; refine Zn ?_; refine Zn ?_; refine Zn ?_; refine Zn ?_; refine Zn ?_; refine Zq ?_; refine Zt ?_; refine Seq.done ?_; refine Zc ?_; refine Wp.seq ?_; refine Wp.region ?_; refine Zq ?_; refine Za ?_; refine Seq.done ?_; refine Wp.ret ?_; refine thenR ?_; refine blkR ?_; refine thenR ?_; refine loopR ?_; refine blkR ?_; refine thenR ?_))
                    (exact ret1 rfl rfl (by repeat (first | exact List.Sublist.refl _ | exact List.nil_sublist _ | refine List.Sublist.cons_cons _ ?_ | refine List.Sublist.cons _ ?_)) (bool_false (bad (fun _ h => by omega))))
                  · ((refine Zq ?_; refine Zu ?_; refine Zq ?_; refine Zm ?_; refine Zy ?_; refine Zm ?_; refine Zy ?_; refine Zf T ?_; refine Zy ?_; refine Zl T 0 ?_))
                    ((refine Zy ?_)); refine q_lookup_set T 1 (by exact rfl) (by exact rfl) (by exact rfl) (by exact rfl) (by exact rfl) (by exact rfl) (by exact rfl) (by exact rfl) (by exact rfl) (fun b3 => ?_) (fun b3 => ?_)
                    · ((refine Zq ?_; refine Zu ?_; refine Zq ?_; refine Zm ?_; refine Zn ?_; refine Zn ?_; refine Zn ?_; refine Zn ?_; refine Zn ?_; refine Zn ?_; refine Zn ?_; refine Zq ?_; refine Zt ?_; refine Seq.done ?_; refine Zc ?_; refine Wp.seq ?_; refine Wp.region ?_; refine Zq ?_; refine Za ?_; refine Seq.done ?_; refine Wp.ret ?_; refine thenR ?_; refine blkR ?_; refine thenR ?_; refine loopR ?_; refine blkR ?_; refine thenR ?_))
                      (exact ret1 rfl rfl (by repeat (first | exact List.Sublist.refl _ | exact List.nil_sublist _ | refine List.Sublist.cons_cons _ ?_ | refine List.Sublist.cons _ ?_)) (bool_false (bad (fun _ _ h => by obtain ⟨j, b, h1, h2, h3⟩ := (hks _).1 b3; exact absurd h3 (h j b h1 h2)))))
                    · ((refine Zq ?_; refine Zu ?_; refine Zq ?_; refine Zm ?_; refine Zy ?_; refine Zf T ?_))
                      (((refine Zy ?_)); refine q_load_own_sub (vs := [.string x.value.op, .int .i64 x.value.n, .slice E1 r1 q1]) T 0 (by exact rfl) (by exact rfl) (by exact rfl) (by exact rfl) (by exact rfl) (by exact rfl) ?_)
                      ((refine Zy ?_; refine Zf T ?_; refine Zy ?_; refine Zl T 3 ?_; refine Zy ?_; refine q_len_slice T (by exact rfl) (by exact rfl) (by exact rfl) ?_))
                      (((refine Zy ?_)); refine q_callB (by exact rfl) (by exact rfl) (right_q (m := g.fluents.length) hR.value) (fun f3 => ?_) (fun f3 => ?_))
                      · ((refine Zy ?_; refine q_not (by exact rfl) ?_; refine Zq ?_; refine Zu ?_; refine Seq.done ?_; refine Zd ?_; refine Wp.skip ?_; refine thenN ?_; refine Wp.region ?_; refine Zq ?_; refine Zm ?_; refine Zq ?_; refine Zf T ?_; refine Zq ?_; refine Zl T 0 ?_))
                        refine Seq.stepK0 (k_mapUpdate T (pre := [_]) (by exact rfl) (by exact rfl) (by exact rfl) (by exact rfl) (by exact rfl) (by exact rfl) (by exact rfl) (List.Perm.refl _) ?_)
                        rw [upd_set]
                        ((refine Seq.end_ ?_; refine blkN ?_; refine thenN ?_; refine Wp.region ?_; refine Zq ?_; refine q_add (by exact rfl) (by exact rfl) (wrap_in (by omega)) ?_; refine Zq ?_; refine Zm ?_; refine Seq.end_ ?_))
                        (exact loopN ⟨k + 1, (insK ks x.fluent), by omega, rfl, rfl, rfl, rfl, (seen_next hh hks hx (by omega) (by omega) (of_decide_eq_true f3) b3)⟩ (by omega) (by repeat (first | exact trivial | refine ⟨by exact rfl, ?_⟩)) (by repeat (first | exact List.Sublist.refl _ | exact List.nil_sublist _ | refine List.Sublist.cons_cons _ ?_ | refine List.Sublist.cons _ ?_)))
                      · ((refine Zy ?_; refine q_not (by exact rfl) ?_; refine Zq ?_; refine Zu ?_; refine Seq.done ?_; refine Zc ?_; refine Wp.seq ?_; refine Wp.region ?_; refine Zq ?_; refine Za ?_; refine Seq.done ?_; refine Wp.ret ?_; refine thenR ?_; refine blkR ?_; refine thenR ?_; refine loopR ?_; refine blkR ?_; refine thenR ?_))
                        (exact ret1 rfl rfl (by repeat (first | exact List.Sublist.refl _ | exact List.nil_sublist _ | refine List.Sublist.cons_cons _ ?_ | refine List.Sublist.cons _ ?_)) (bool_false (bad (fun _ _ _ => of_decide_eq_false f3))))
              · ((refine Seq.done ?_; refine Wp.seq ?_; refine Zd ?_; refine Wp.exit ?_; refine thenX ?_; refine loopX ?_; refine blkX (by exact rfl) ?_; refine thenN ?_; refine Wp.seq ?_; refine Wp.region ?_; refine Zq ?_; refine Za ?_; refine Seq.done ?_; refine Wp.ret ?_))
                (exact ret1 rfl rfl (by repeat (first | exact List.Sublist.refl _ | exact List.nil_sublist _ | refine List.Sublist.cons_cons _ ?_ | refine List.Sublist.cons _ ?_)) (bool_true ⟨by omega, by omega, of_decide_eq_true f1, by omega, of_decide_eq_true f2, hch, assigns_of hh (by omega)⟩))
          · ((refine Zy ?_; refine q_not (by exact rfl) ?_; refine Zq ?_; refine Zu ?_; refine Seq.done ?_; refine Zc ?_; refine Wp.seq ?_; refine Wp.region ?_; refine Zq ?_; refine Za ?_; refine Seq.done ?_; refine Wp.ret ?_; refine thenR ?_))
            (exact ret1 rfl rfl (by repeat (first | exact List.Sublist.refl _ | exact List.nil_sublist _ | refine List.Sublist.cons_cons _ ?_ | refine List.Sublist.cons _ ?_)) (bool_false (fun h => of_decide_eq_false f2 h.2.2.2.2.1)))
        · ((refine Zy ?_; refine q_not (by exact rfl) ?_; refine Zq ?_; refine Zu ?_; refine Zq ?_; refine Zm ?_; refine Zn ?_; refine Zn ?_; refine Zn ?_; refine Zn ?_; refine Zn ?_; refine Zq ?_; refine Zt ?_; refine Seq.done ?_; refine Zc ?_; refine Wp.seq ?_; refine Wp.region ?_; refine Zq ?_; refine Za ?_; refine Seq.done ?_; refine Wp.ret ?_; refine thenR ?_))
          (exact ret1 rfl rfl (by repeat (first | exact List.Sublist.refl _ | exact List.nil_sublist _ | refine List.Sublist.cons_cons _ ?_ | refine List.Sublist.cons _ ?_)) (bool_false (fun h => of_decide_eq_false f1 h.2.2.1)))
end Go.Proofs.YtegmololhnipiaaGreatDoor
namespace Go.Proofs.YtegmololhnipiaaGreatDoor
open Go.Lx Go.Gr Go.RowKit
attribute [local instance 10] Classical.propDecidable
theorem roperator_q {fz : FZ} {g : GTask} {v1 v2 v3 v4 v5 : Value} {o : GOp} {u1 u2 u3 u4 u5 : Value} (hg : GTaskR fz g v1 v2 v3 v4 v5) (ho : GOpR fz o u1 u2 u3 u4 u5) :
    QFn Tryz.prog 34 [gV v1 v2 v3 v4 v5, oV o u1 u2 u3 u4 u5] fz (.bool (decide (OpOk g.atoms.length g.fluents.length o))) := by
  (obtain ⟨A1, n1, cap1, rfl, ga⟩ := hg.atoms; obtain ⟨A2, n2, cap2, rfl, gf⟩ := hg.fluents; obtain ⟨A3, n3, cap3, rfl, gi⟩ := hg.init; obtain ⟨A4, n4, cap4, rfl, gg⟩ := hg.goal; obtain ⟨A5, n5, cap5, rfl, go⟩ := hg.ops; have e1 := ga.len; subst e1; have e2 := gf.len; subst e2)
  have hc := ho.pre
  have hz := ho.name
  unfold Short at hz
  (obtain ⟨B1, m1, d1, rfl, cp⟩ := hc.pos; obtain ⟨B2, m2, d2, rfl, cn⟩ := hc.neg; obtain ⟨B3, m3, d3, rfl, ct⟩ := hc.tests)
  obtain ⟨B4, m4, d4, rfl, oc⟩ := ho.changes
  obtain ⟨B5, m5, d5, rfl, oa⟩ := ho.assigns
  have l4 := oc.len
  have l5 := oa.len
  have s4 := oc.short
  have s5 := oa.short
  refine GFn.quiet ?_
  (refine GFn.of_wp Tryz.func34 rfl Tryz.ntmps34 rfl rfl (fun w0 => ?_))
  (refine Wp.seq (Wp.region (Seq.stepK (by exact rfl) (k_box _ (by exact rfl) (by exact rfl) (fun g0 => ?_)))))
  (refine Seq.stepK (by exact rfl) (k_box _ (by exact rfl) (by exact rfl) (fun g1 => ?_)))
  ((refine Zq ?_; refine Za ?_; refine Seq.done ?_; refine Wp.seq ?_; refine Wp.seq ?_; refine Wp.region ?_; refine Zq ?_; refine Zf T ?_; refine Zq ?_; refine Zl T 0 ?_))
  (((refine Zq ?_)); (refine q_lssD (by exact rfl) (by exact rfl) (fun c1 => ?_) (fun c1 => ?_)))
  · ((refine Zq ?_; refine Zm ?_; refine Zn ?_; refine Zn ?_; refine Zn ?_; refine Zq ?_; refine Zt ?_; refine Zq ?_; refine Zm ?_; refine Zn ?_; refine Zn ?_; refine Zn ?_; refine Zn ?_; refine Zq ?_; refine Zt ?_; refine Zq ?_; refine Zm ?_; refine Zn ?_; refine Zn ?_; refine Zn ?_; refine Zn ?_; refine Zq ?_; refine Zt ?_; refine Zq ?_; refine Zm ?_; refine Zn ?_; refine Zn ?_; refine Zn ?_; refine Zn ?_; refine Zn ?_; refine Zq ?_; refine Zt ?_; refine Seq.done ?_; refine Zc ?_; refine Wp.seq ?_; refine Wp.region ?_; refine Zq ?_; refine Za ?_; refine Seq.done ?_; refine Wp.ret ?_; refine thenR ?_))
    (exact ret1 rfl rfl (by repeat (first | exact List.Sublist.refl _ | exact List.nil_sublist _ | refine List.Sublist.cons_cons _ ?_ | refine List.Sublist.cons _ ?_)) (bool_false (fun h => by have := h.1; omega)))
  · ((refine Zq ?_; refine Zm ?_; refine Zy ?_; refine Zf T ?_; refine Zy ?_; refine Zl T 0 ?_))
    (((refine Zy ?_)); (refine q_gtrD (by exact rfl) (by exact rfl) (fun c2 => ?_) (fun c2 => ?_)))
    · ((refine Zq ?_; refine Zu ?_; refine Zq ?_; refine Zm ?_; refine Zn ?_; refine Zn ?_; refine Zn ?_; refine Zn ?_; refine Zq ?_; refine Zt ?_; refine Zq ?_; refine Zm ?_; refine Zn ?_; refine Zn ?_; refine Zn ?_; refine Zn ?_; refine Zq ?_; refine Zt ?_; refine Zq ?_; refine Zm ?_; refine Zn ?_; refine Zn ?_; refine Zn ?_; refine Zn ?_; refine Zn ?_; refine Zq ?_; refine Zt ?_; refine Seq.done ?_; refine Zc ?_; refine Wp.seq ?_; refine Wp.region ?_; refine Zq ?_; refine Za ?_; refine Seq.done ?_; refine Wp.ret ?_; refine thenR ?_))
      (exact ret1 rfl rfl (by repeat (first | exact List.Sublist.refl _ | exact List.nil_sublist _ | refine List.Sublist.cons_cons _ ?_ | refine List.Sublist.cons _ ?_)) (bool_false (fun h => by have := h.2.1; omega)))
    · ((refine Zq ?_; refine Zu ?_; refine Zq ?_; refine Zm ?_; refine Zy ?_; refine Zf T ?_; refine Zy ?_; refine Zl T 0 ?_; refine Zy ?_; refine q_len_string T (by exact rfl) (by exact rfl) (by exact rfl) ?_))
      (((refine Zy ?_)); (refine q_gtrD (by exact rfl) (by exact rfl) (fun c3 => ?_) (fun c3 => ?_)))
      · ((refine Zq ?_; refine Zu ?_; refine Zq ?_; refine Zm ?_; refine Zn ?_; refine Zn ?_; refine Zn ?_; refine Zn ?_; refine Zq ?_; refine Zt ?_; refine Zq ?_; refine Zm ?_; refine Zn ?_; refine Zn ?_; refine Zn ?_; refine Zn ?_; refine Zn ?_; refine Zq ?_; refine Zt ?_; refine Seq.done ?_; refine Zc ?_; refine Wp.seq ?_; refine Wp.region ?_; refine Zq ?_; refine Za ?_; refine Seq.done ?_; refine Wp.ret ?_; refine thenR ?_))
        (exact ret1 rfl rfl (by repeat (first | exact List.Sublist.refl _ | exact List.nil_sublist _ | refine List.Sublist.cons_cons _ ?_ | refine List.Sublist.cons _ ?_)) (bool_false (fun h => by have := h.2.2.1.1; omega)))
      · ((refine Zq ?_; refine Zu ?_; refine Zq ?_; refine Zm ?_; refine Zy ?_; refine Zf T ?_; refine Zy ?_; refine Zl T 0 ?_; refine Zy ?_; refine q_len_slice T (by exact rfl) (by exact rfl) (by exact rfl) ?_))
        (((refine Zy ?_)); (refine q_gtrD (by exact rfl) (by exact rfl) (fun c4 => ?_) (fun c4 => ?_)))
        · ((refine Zq ?_; refine Zu ?_; refine Zq ?_; refine Zm ?_; refine Zn ?_; refine Zn ?_; refine Zn ?_; refine Zn ?_; refine Zn ?_; refine Zq ?_; refine Zt ?_; refine Seq.done ?_; refine Zc ?_; refine Wp.seq ?_; refine Wp.region ?_; refine Zq ?_; refine Za ?_; refine Seq.done ?_; refine Wp.ret ?_; refine thenR ?_))
          (exact ret1 rfl rfl (by repeat (first | exact List.Sublist.refl _ | exact List.nil_sublist _ | refine List.Sublist.cons_cons _ ?_ | refine List.Sublist.cons _ ?_)) (bool_false (fun h => by have := h.2.2.2.1; omega)))
        · ((refine Zq ?_; refine Zu ?_; refine Zq ?_; refine Zm ?_; refine Zy ?_; refine ZL T 1 ?_; refine Zy ?_; refine Zf T ?_))
          (((refine Zy ?_)); refine q_load_own_sub (vs := [.slice B1 m1 d1, .slice B2 m2 d2, .slice B3 m3 d3]) T 0 (by exact rfl) (by exact rfl) (by exact rfl) (by exact rfl) (by exact rfl) (by exact rfl) ?_)
          (skip)
          (((refine Zy ?_)); refine q_callB (by exact rfl) (by exact rfl) (cond_q hg hc) (fun f2 => ?_) (fun f2 => ?_))
          · ((refine Zy ?_; refine q_not (by exact rfl) ?_; refine Zq ?_; refine Zu ?_; refine Seq.done ?_; refine Zd ?_; refine Wp.skip ?_; refine thenN ?_; refine Wp.seq ?_; refine Wp.seq ?_; refine Wp.region ?_; refine Zq ?_; refine Za ?_; refine Seq.done ?_; refine Wp.block ?_))
            (refine Wp.loop (fun q σ fz' H' => ∃ k : Nat, k ≤ o.name.size ∧ q = o.name.size - k ∧ σ = [(5, .int .i64 k), (2, .pointer (some ⟨g0, 0, none⟩)), (3, .pointer (some ⟨g1, 0, none⟩))] ∧ fz = fz' ∧ H' = [((g1, .cells #[.string o.name, .int .i64 o.cost, .slice B1 m1 d1, .slice B2 m2 d2, .slice B3 m3 d3, .slice B4 m4 d4, .slice B5 m5 d5] 46 (0, 0))), ((g0, .cells #[.slice A1 g.atoms.length cap1, .slice A2 g.fluents.length cap2, .slice A3 n3 cap3, .slice A4 n4 cap4, .slice A5 n5 cap5] 28 (0, 0)))] ∧ (∀ i, i < k → NameAt o.name i)) ⟨0, Nat.zero_le _, rfl, rfl, rfl, rfl, (fun i hi => absurd hi (by omega))⟩ (by repeat (first | exact trivial | refine ⟨by exact rfl, ?_⟩)) (by repeat (first | exact List.Sublist.refl _ | exact List.nil_sublist _ | refine List.Sublist.cons_cons _ ?_ | refine List.Sublist.cons _ ?_)) ?_; rintro q σ fz' H' ⟨k, hk, rfl, rfl, rfl, rfl, hh⟩)
            ((refine Wp.seq ?_; refine Wp.seq ?_; refine Wp.region ?_; refine Zq ?_; refine Zm ?_; refine Zq ?_; refine Zf T ?_; refine Zq ?_; refine Zl T 0 ?_; refine Zq ?_; refine q_len_string T (by exact rfl) (by exact rfl) (by exact rfl) ?_))
            (((refine Zq ?_)); (refine q_lssD (by exact rfl) (by exact rfl) (fun hlt => ?_) (fun hge => ?_)))
            · ((refine Seq.done ?_; refine Zc ?_; refine Wp.skip ?_; refine thenN ?_; refine Wp.seq ?_; refine Wp.block ?_; refine Wp.seq ?_; refine Wp.region ?_; refine Zq ?_; refine Zf T ?_; refine Zq ?_; refine Zl T 0 ?_; refine Zq ?_; refine Zm ?_))
              obtain ⟨b, hb, hb2⟩ := byte_some (s := o.name) (k := k) (by omega)
              have bad : ¬ NameAt o.name k → ¬ OpOk g.atoms.length g.fluents.length o := fun h hc => h (hc.2.2.1.2 k (by omega))
              unfold NameAt at bad
              (((refine Zq ?_)); refine q_index_string T (by exact rfl) (by exact rfl) (by exact rfl) (by exact rfl) (by omega) (by rw [Int.toNat_natCast]; exact hb) ?_)
              (skip)
              (((refine Zq ?_)); (refine q_lssD (by exact rfl) (by exact rfl) (fun b1 => ?_) (fun b1 => ?_)))
              · ((refine Zq ?_; refine Zm ?_; refine Zn ?_; refine Zn ?_; refine Zn ?_; refine Zn ?_; refine Zn ?_; refine Zq ?_; refine Zt ?_; refine Seq.done ?_; refine Zc ?_; refine Wp.seq ?_; refine Wp.region ?_; refine Zq ?_; refine Za ?_; refine Seq.done ?_; refine Wp.ret ?_; refine blkR ?_; refine thenR ?_; refine loopR ?_; refine blkR ?_; refine thenR ?_))
                (exact ret1 rfl rfl (by repeat (first | exact List.Sublist.refl _ | exact List.nil_sublist _ | refine List.Sublist.cons_cons _ ?_ | refine List.Sublist.cons _ ?_)) (bool_false (bad (fun h => by have := h.1; omega))))
              · ((refine Zq ?_; refine Zm ?_; refine Zy ?_; refine Zf T ?_; refine Zy ?_; refine Zl T 0 ?_; refine Zy ?_; refine Zm ?_))
                (((refine Zy ?_)); refine q_index_string T (by exact rfl) (by exact rfl) (by exact rfl) (by exact rfl) (by omega) (by rw [Int.toNat_natCast]; exact hb) ?_)
                (skip)
                (((refine Zy ?_)); (refine q_gtrD (by exact rfl) (by exact rfl) (fun b2 => ?_) (fun b2 => ?_)))
                · ((refine Zq ?_; refine Zu ?_; refine Seq.done ?_; refine Zc ?_; refine Wp.seq ?_; refine Wp.region ?_; refine Zq ?_; refine Za ?_; refine Seq.done ?_; refine Wp.ret ?_; refine blkR ?_; refine thenR ?_; refine loopR ?_; refine blkR ?_; refine thenR ?_))
                  (exact ret1 rfl rfl (by repeat (first | exact List.Sublist.refl _ | exact List.nil_sublist _ | refine List.Sublist.cons_cons _ ?_ | refine List.Sublist.cons _ ?_)) (bool_false (bad (fun h => by have := h.2; omega))))
                · ((refine Zq ?_; refine Zu ?_; refine Seq.done ?_; refine Zd ?_; refine Wp.skip ?_; refine blkN ?_; refine thenN ?_; refine Wp.region ?_; refine Zq ?_; refine Zm ?_; refine Zq ?_; refine q_add (by exact rfl) (by exact rfl) (wrap_in (by omega)) ?_; refine Zq ?_; refine Za ?_; refine Seq.end_ ?_))
                  (exact loopN ⟨k + 1, by omega, rfl, rfl, rfl, rfl, (lt_succ_cases hh ⟨by omega, by omega⟩)⟩ (by omega) (by repeat (first | exact trivial | refine ⟨by exact rfl, ?_⟩)) (by repeat (first | exact List.Sublist.refl _ | exact List.nil_sublist _ | refine List.Sublist.cons_cons _ ?_ | refine List.Sublist.cons _ ?_)))
            · have hnm : NameOk o.name := ⟨by omega, fun i hi => hh i (by omega)⟩
              clear hh
              ((refine Seq.done ?_; refine Zd ?_; refine Wp.exit ?_; refine thenX ?_; refine loopX ?_; refine blkX (by exact rfl) ?_; refine thenN ?_; refine Wp.seq ?_; refine Wp.seq ?_; refine Wp.region ?_; refine Zq ?_; refine Za ?_; refine Seq.done ?_; refine Wp.block ?_))
              (refine Wp.loop (fun q σ fz' H' => ∃ k : Nat, k ≤ m4 ∧ q = m4 - k ∧ σ = [(6, .int .i64 k), (2, .pointer (some ⟨g0, 0, none⟩)), (3, .pointer (some ⟨g1, 0, none⟩))] ∧ fz = fz' ∧ H' = [((g1, .cells #[.string o.name, .int .i64 o.cost, .slice B1 m1 d1, .slice B2 m2 d2, .slice B3 m3 d3, .slice B4 m4 d4, .slice B5 m5 d5] 46 (0, 0))), ((g0, .cells #[.slice A1 g.atoms.length cap1, .slice A2 g.fluents.length cap2, .slice A3 n3 cap3, .slice A4 n4 cap4, .slice A5 n5 cap5] 28 (0, 0)))] ∧ (∀ i, i < k → ∀ x, o.changes[i]? = some x → ChangeOk g.atoms.length g.fluents.length x)) ⟨0, Nat.zero_le _, rfl, rfl, rfl, rfl, (fun i hi => absurd hi (by omega))⟩ (by repeat (first | exact trivial | refine ⟨by exact rfl, ?_⟩)) (by repeat (first | exact List.Sublist.refl _ | exact List.nil_sublist _ | refine List.Sublist.cons_cons _ ?_ | refine List.Sublist.cons _ ?_)) ?_; rintro q σ fz' H' ⟨k, hk, rfl, rfl, rfl, rfl, hh⟩)
              ((refine Wp.seq ?_; refine Wp.seq ?_; refine Wp.region ?_; refine Zq ?_; refine Zm ?_; refine Zq ?_; refine Zf T ?_; refine Zq ?_; refine Zl T 0 ?_; refine Zq ?_; refine q_len_slice T (by exact rfl) (by exact rfl) (by exact rfl) ?_))
              (((refine Zq ?_)); (refine q_lssD (by exact rfl) (by exact rfl) (fun hlt => ?_) (fun hge2 => ?_)))
              · ((refine Seq.done ?_; refine Zc ?_; refine Wp.skip ?_; refine thenN ?_; refine Wp.seq ?_; refine Wp.block ?_; refine Wp.seq ?_; refine Wp.region ?_; refine Zq ?_; refine Zf T ?_; refine Zq ?_; refine Zl T 0 ?_; refine Zq ?_; refine Zm ?_))
                obtain ⟨x, hx⟩ := get_some (l := o.changes) (k := k) (by omega)
                (((refine Zq ?_)); refine q_index T k (by exact rfl) (by exact rfl) (by exact rfl) (by exact rfl) (by exact rfl) (by exact rfl) oc (by first | rfl | omega) hx (fun p hp => ?_))
                (((refine Zq ?_)); refine q_load_at T (by exact rfl) (by exact rfl) (by exact rfl) hp (by exact rfl) ?_)
                intro cs hcs
                obtain ⟨w1, w2, w3, rfl, hR⟩ := gChangeL_open hcs
                obtain ⟨E1, r1, q1, rfl, _⟩ := hR.when_.pos
                obtain ⟨E2, r2, q2, rfl, _⟩ := hR.when_.neg
                obtain ⟨E3, r3, q3, rfl, _⟩ := hR.when_.tests
                have bad : ¬ ChangeOk g.atoms.length g.fluents.length x → ¬ OpOk g.atoms.length g.fluents.length o := fun h hc => h (hc.2.2.2.2.2.1 x (List.mem_of_getElem? hx))
                ((refine Seq.stepK (by exact rfl) (k_alloc T (by exact rfl) (by exact rfl) (fun _ => ?_)); refine Seq.stepK0 (k_store0 T (by exact rfl) (by exact rfl) (by exact rfl) (by exact rfl) (by exact rfl) (by exact rfl) ?_); refine Seq.done ?_; refine Wp.seq ?_; refine Wp.region ?_; refine Zq ?_; refine Zf T ?_; refine Zq ?_; refine Zl T 0 ?_))
                (((refine Zq ?_)); (refine q_lssD (by exact rfl) (by exact rfl) (fun b1 => ?_) (fun b1 => ?_)))
                · ((refine Zq ?_; refine Zm ?_; refine Zn ?_; refine Zn ?_; refine Zn ?_; refine Zn ?_; refine Zn ?_; refine Zn ?_; refine Zq ?_; refine Zt ?_; refine Zq ?_; refine Zm ?_; refine Zn ?_; refine Zn ?_; refine Zn ?_; refine Zn ?_; refine Zn ?_; refine Zq ?_; refine Zt ?_; refine Seq.done ?_; refine Zc ?_; refine Wp.seq ?_; refine Wp.region ?_; refine Zq ?_; refine Za ?_; refine Seq.done ?_; refine Wp.ret ?_; refine blkR ?_; refine thenR ?_; refine loopR ?_; refine blkR ?_; refine thenR ?_))
                  (exact ret1 rfl rfl (by repeat (first | exact List.Sublist.refl _ | exact List.nil_sublist _ | refine List.Sublist.cons_cons _ ?_ | refine List.Sublist.cons _ ?_)) (bool_false (bad (fun h => by have := h.1; omega))))
                · ((refine Zq ?_; refine Zm ?_; refine Zy ?_; refine Zf T ?_; refine Zy ?_; refine Zl T 0 ?_; refine Zy ?_; refine Zf T ?_; refine Zy ?_; refine Zl T 2 ?_; refine Zy ?_; refine q_len_slice T (by exact rfl) (by exact rfl) (by exact rfl) ?_))
                  (((refine Zy ?_)); (refine q_geqD (by exact rfl) (by exact rfl) (fun b2 => ?_) (fun b2 => ?_)))
                  · ((refine Zq ?_; refine Zu ?_; refine Zq ?_; refine Zm ?_; refine Zn ?_; refine Zn ?_; refine Zn ?_; refine Zn ?_; refine Zn ?_; refine Zq ?_; refine Zt ?_; refine Seq.done ?_; refine Zc ?_; refine Wp.seq ?_; refine Wp.region ?_; refine Zq ?_; refine Za ?_; refine Seq.done ?_; refine Wp.ret ?_; refine blkR ?_; refine thenR ?_; refine loopR ?_; refine blkR ?_; refine thenR ?_))
                    (exact ret1 rfl rfl (by repeat (first | exact List.Sublist.refl _ | exact List.nil_sublist _ | refine List.Sublist.cons_cons _ ?_ | refine List.Sublist.cons _ ?_)) (bool_false (bad (fun h => by have := h.2.1; omega))))
                  · ((refine Zq ?_; refine Zu ?_; refine Zq ?_; refine Zm ?_; refine Zy ?_; refine ZL T 2 ?_; refine Zy ?_; refine Zf T ?_))
                    (((refine Zy ?_)); refine q_load_own_sub (vs := [.slice E1 r1 q1, .slice E2 r2 q2, .slice E3 r3 q3]) T 0 (by exact rfl) (by exact rfl) (by exact rfl) (by exact rfl) (by exact rfl) (by exact rfl) ?_)
                    (skip)
                    (((refine Zy ?_)); refine q_callB (by exact rfl) (by exact rfl) (cond_q hg hR.when_) (fun f3 => ?_) (fun f3 => ?_))
                    · ((refine Zy ?_; refine q_not (by exact rfl) ?_; refine Zq ?_; refine Zu ?_; refine Seq.done ?_; refine Zd ?_; refine Wp.skip ?_; refine blkN ?_; refine thenN ?_; refine Wp.region ?_; refine Zq ?_; refine Zm ?_; refine Zq ?_; refine q_add (by exact rfl) (by exact rfl) (wrap_in (by omega)) ?_; refine Zq ?_; refine Za ?_; refine Seq.end_ ?_))
                      (exact loopN ⟨k + 1, by omega, rfl, rfl, rfl, rfl, (all_next hh hx ⟨by omega, by omega, of_decide_eq_true f3⟩)⟩ (by omega) (by repeat (first | exact trivial | refine ⟨by exact rfl, ?_⟩)) (by repeat (first | exact List.Sublist.refl _ | exact List.nil_sublist _ | refine List.Sublist.cons_cons _ ?_ | refine List.Sublist.cons _ ?_)))
                    · ((refine Zy ?_; refine q_not (by exact rfl) ?_; refine Zq ?_; refine Zu ?_; refine Seq.done ?_; refine Zc ?_; refine Wp.seq ?_; refine Wp.region ?_; refine Zq ?_; refine Za ?_; refine Seq.done ?_; refine Wp.ret ?_; refine blkR ?_; refine thenR ?_; refine loopR ?_; refine blkR ?_; refine thenR ?_))
                      (exact ret1 rfl rfl (by repeat (first | exact List.Sublist.refl _ | exact List.nil_sublist _ | refine List.Sublist.cons_cons _ ?_ | refine List.Sublist.cons _ ?_)) (bool_false (bad (fun h => of_decide_eq_false f3 h.2.2))))
              · have hch := all_of hh (by omega)
                clear hh
                ((refine Seq.done ?_; refine Zd ?_; refine Wp.exit ?_; refine thenX ?_; refine loopX ?_; refine blkX (by exact rfl) ?_; refine thenN ?_; refine Wp.seq ?_; refine Wp.seq ?_; refine Wp.region ?_; refine Zq ?_; refine Za ?_; refine Seq.done ?_; refine Wp.block ?_))
                (refine Wp.loop (fun q σ fz' H' => ∃ k : Nat, k ≤ m5 ∧ q = m5 - k ∧ σ = [(8, .int .i64 k), (2, .pointer (some ⟨g0, 0, none⟩)), (3, .pointer (some ⟨g1, 0, none⟩))] ∧ fz = fz' ∧ H' = [((g1, .cells #[.string o.name, .int .i64 o.cost, .slice B1 m1 d1, .slice B2 m2 d2, .slice B3 m3 d3, .slice B4 m4 d4, .slice B5 m5 d5] 46 (0, 0))), ((g0, .cells #[.slice A1 g.atoms.length cap1, .slice A2 g.fluents.length cap2, .slice A3 n3 cap3, .slice A4 n4 cap4, .slice A5 n5 cap5] 28 (0, 0)))] ∧ (∀ i, i < k → AssignAt g.fluents.length o.assigns i)) ⟨0, Nat.zero_le _, rfl, rfl, rfl, rfl, (fun i hi => absurd hi (by omega))⟩ (by repeat (first | exact trivial | refine ⟨by exact rfl, ?_⟩)) (by repeat (first | exact List.Sublist.refl _ | exact List.nil_sublist _ | refine List.Sublist.cons_cons _ ?_ | refine List.Sublist.cons _ ?_)) ?_; rintro q σ fz' H' ⟨k, hk, rfl, rfl, rfl, rfl, hh⟩)
                ((refine Wp.seq ?_; refine Wp.seq ?_; refine Wp.region ?_; refine Zq ?_; refine Zm ?_; refine Zq ?_; refine Zf T ?_; refine Zq ?_; refine Zl T 0 ?_; refine Zq ?_; refine q_len_slice T (by exact rfl) (by exact rfl) (by exact rfl) ?_))
                (((refine Zq ?_)); (refine q_lssD (by exact rfl) (by exact rfl) (fun hlt => ?_) (fun hge3 => ?_)))
                · obtain ⟨x, hx⟩ := get_some (l := o.assigns) (k := k) (by omega)
                  ((refine Seq.done ?_; refine Zc ?_; refine Wp.skip ?_; refine thenN ?_; refine Wp.seq ?_; refine Wp.block ?_; refine Wp.seq ?_; refine Wp.region ?_; refine Zq ?_; refine Zf T ?_; refine Zq ?_; refine Zl T 0 ?_; refine Zq ?_; refine Zm ?_))
                  (((refine Zq ?_)); refine q_index T k (by exact rfl) (by exact rfl) (by exact rfl) (by exact rfl) (by exact rfl) (by exact rfl) oa (by first | rfl | omega) hx (fun p hp => ?_))
                  (((refine Zq ?_)); refine q_load_at T (by exact rfl) (by exact rfl) (by exact rfl) hp (by exact rfl) ?_)
                  intro cs hcs
                  obtain ⟨w1, rfl, hR⟩ := gAssignL_open hcs
                  obtain ⟨E1, r1, q1, rfl, _⟩ := hR.value.kids
                  have bad : (0 ≤ x.fluent → x.fluent < g.fluents.length → (∀ (j : Nat) (b : GAssign), j < k → o.assigns[j]? = some b → b.fluent ≠ x.fluent) → ¬ RightP g.fluents.length x.value) → ¬ OpOk g.atoms.length g.fluents.length o := fun h hc => by
                    have := hc.2.2.2.2.2.2 k x hx
                    exact h this.1 this.2.1 this.2.2.2 this.2.2.1
                  refine Seq.stepK (by exact rfl) (k_alloc T (by exact rfl) (by exact rfl) (fun g2 => ?_))
                  ((refine Seq.stepK0 (k_store0 T (by exact rfl) (by exact rfl) (by exact rfl) (by exact rfl) (by exact rfl) (by exact rfl) ?_); refine Seq.done ?_; refine Wp.seq ?_; refine Wp.seq ?_; refine Wp.region ?_; refine Zq ?_; refine Zf T ?_; refine Zq ?_; refine Zl T 0 ?_))
                  (((refine Zq ?_)); (refine q_lssD (by exact rfl) (by exact rfl) (fun b1 => ?_) (fun b1 => ?_)))
                  · ((refine Zq ?_; refine Zm ?_; refine Zn ?_; refine Zn ?_; refine Zn ?_; refine Zn ?_; refine Zn ?_; refine Zn ?_; refine Zq ?_; refine Zt ?_; refine Zq ?_; refine Zm ?_; refine Zn ?_; refine Zn ?_; refine Zn ?_; refine Zn ?_; refine Zn ?_; refine Zq ?_; refine Zt ?_; refine Seq.done ?_; refine Zc ?_; refine Wp.seq ?_; refine Wp.region ?_; refine Zq ?_; refine Za ?_; refine Seq.done ?_; refine Wp.ret ?_; refine thenR ?_; refine blkR ?_; refine thenR ?_; refine loopR ?_; refine blkR ?_; refine thenR ?_))
                    (exact ret1 rfl rfl (by repeat (first | exact List.Sublist.refl _ | exact List.nil_sublist _ | refine List.Sublist.cons_cons _ ?_ | refine List.Sublist.cons _ ?_)) (bool_false (bad (fun h => by omega))))
                  · ((refine Zq ?_; refine Zm ?_; refine Zy ?_; refine Zf T ?_; refine Zy ?_; refine Zl T 0 ?_; refine Zy ?_; refine Zf T ?_; refine Zy ?_; refine Zl T 2 ?_; refine Zy ?_; refine q_len_slice T (by exact rfl) (by exact rfl) (by exact rfl) ?_))
                    (((refine Zy ?_)); (refine q_geqD (by exact rfl) (by exact rfl) (fun b2 => ?_) (fun b2 => ?_)))
                    · ((refine Zq ?_; refine Zu ?_; refine Zq ?_; refine Zm ?_; refine Zn ?_; refine Zn ?_; refine Zn ?_; refine Zn ?_; refine Zn ?_; refine Zq ?_; refine Zt ?_; refine Seq.done ?_; refine Zc ?_; refine Wp.seq ?_; refine Wp.region ?_; refine Zq ?_; refine Za ?_; refine Seq.done ?_; refine Wp.ret ?_; refine thenR ?_; refine blkR ?_; refine thenR ?_; refine loopR ?_; refine blkR ?_; refine thenR ?_))
                      (exact ret1 rfl rfl (by repeat (first | exact List.Sublist.refl _ | exact List.nil_sublist _ | refine List.Sublist.cons_cons _ ?_ | refine List.Sublist.cons _ ?_)) (bool_false (bad (fun _ h => by omega))))
                    · ((refine Zq ?_; refine Zu ?_; refine Zq ?_; refine Zm ?_; refine Zy ?_; refine ZL T 2 ?_; refine Zy ?_; refine Zf T ?_))
                      (((refine Zy ?_)); refine q_load_own_sub (vs := [.string x.value.op, .int .i64 x.value.n, .slice E1 r1 q1]) T 0 (by exact rfl) (by exact rfl) (by exact rfl) (by exact rfl) (by exact rfl) (by exact rfl) ?_)
                      (skip)
                      (((refine Zy ?_)); refine q_callB (by exact rfl) (by exact rfl) (expr_q hg hR.value) (fun f3 => ?_) (fun f3 => ?_))
                      · ((refine Zy ?_; refine q_not (by exact rfl) ?_; refine Zq ?_; refine Zu ?_; refine Seq.done ?_; refine Zd ?_; refine Wp.skip ?_; refine thenN ?_; refine Wp.seq ?_; refine Wp.region ?_; refine Zq ?_; refine Za ?_; refine Seq.done ?_; refine Wp.block ?_))
                        (refine Wp.loop (fun q σ fz' H' => ∃ j : Nat, j ≤ k ∧ q = k - j ∧ σ = [(10, .int .i64 j), (8, .int .i64 k), (9, .pointer (some ⟨g2, 0, none⟩)), (2, .pointer (some ⟨g0, 0, none⟩)), (3, .pointer (some ⟨g1, 0, none⟩))] ∧ fz = fz' ∧ H' = [((g2, .cells #[.int .i64 x.fluent, .string x.value.op, .int .i64 x.value.n, .slice E1 r1 q1] 55 (0, 0))), ((g1, .cells #[.string o.name, .int .i64 o.cost, .slice B1 m1 d1, .slice B2 m2 d2, .slice B3 m3 d3, .slice B4 m4 d4, .slice B5 m5 d5] 46 (0, 0))), ((g0, .cells #[.slice A1 g.atoms.length cap1, .slice A2 g.fluents.length cap2, .slice A3 n3 cap3, .slice A4 n4 cap4, .slice A5 n5 cap5] 28 (0, 0)))] ∧ (∀ i, i < j → ∀ b, o.assigns[i]? = some b → b.fluent ≠ x.fluent)) ⟨0, Nat.zero_le _, rfl, rfl, rfl, rfl, (fun i hi => absurd hi (by omega))⟩ (by repeat (first | exact trivial | refine ⟨by exact rfl, ?_⟩)) (by repeat (first | exact List.Sublist.refl _ | exact List.nil_sublist _ | refine List.Sublist.cons_cons _ ?_ | refine List.Sublist.cons _ ?_)) ?_; rintro q σ fz' H' ⟨j, hj, rfl, rfl, rfl, rfl, hi⟩)
                        ((refine Wp.seq ?_; refine Wp.seq ?_; refine Wp.region ?_; refine Zq ?_; refine Zm ?_; refine Zq ?_; refine Zm ?_))
                        (((refine Zq ?_)); (refine q_lssD (by exact rfl) (by exact rfl) (fun hlt2 => ?_) (fun hge4 => ?_)))
                        · ((refine Seq.done ?_; refine Zc ?_; refine Wp.skip ?_; refine thenN ?_; refine Wp.seq ?_; refine Wp.block ?_; refine Wp.seq ?_; refine Wp.draw (by decide +kernel) T.mixed (by kernel_rfl) (by kernel_rfl) ?_; refine QL.q ?_; refine Zf T ?_; refine QL.q ?_; refine Zl T 1 ?_; refine QL.q ?_; refine Zm ?_))
                          obtain ⟨b, hb⟩ := get_some (l := o.assigns) (k := j) (by omega)
                          (((refine QL.q ?_)); refine q_index T j (by exact rfl) (by exact rfl) (by exact rfl) (by exact rfl) (by exact rfl) (by exact rfl) oa (by first | rfl | omega) hb (fun p2 hp2 => ?_))
                          ((refine QL.q ?_; refine Zf T ?_))
                          (((refine QL.q ?_)); refine q_load_int T (by exact rfl) (by exact rfl) (by exact rfl) hp2.GAssign_fluent (fun ix2 => ?_))
                          ((refine QL.q ?_; refine Zf T ?_; refine QL.q ?_; refine Zl T 0 ?_))
                          (((refine QL.q ?_)); (refine q_eqlD (by exact rfl) (by exact rfl) (fun b3 => ?_) (fun b3 => ?_)))
                          · ((refine QL.done ?_; refine thenN ?_; refine Zc ?_; refine Wp.seq ?_; refine Wp.region ?_; refine Zq ?_; refine Za ?_; refine Seq.done ?_; refine Wp.ret ?_; refine blkR ?_; refine thenR ?_; refine loopR ?_; refine blkR ?_; refine blkR ?_; refine thenR ?_; refine loopR ?_; refine blkR ?_; refine thenR ?_))
                            (exact ret1 rfl rfl (by repeat (first | exact List.Sublist.refl _ | exact List.nil_sublist _ | refine List.Sublist.cons_cons _ ?_ | refine List.Sublist.cons _ ?_)) (bool_false (bad (fun _ _ h => absurd b3 (h j b (by omega) hb)))))
                          · ((refine QL.done ?_; refine thenN ?_; refine Zd ?_; refine Wp.skip ?_; refine blkN ?_; refine thenN ?_; refine Wp.region ?_; refine Zq ?_; refine Zm ?_; refine Zq ?_; refine q_add (by exact rfl) (by exact rfl) (wrap_in (by omega)) ?_; refine Zq ?_; refine Za ?_; refine Seq.end_ ?_))
                            (exact loopN ⟨j + 1, by omega, rfl, rfl, rfl, rfl, (all_next hi hb b3)⟩ (by omega) (by repeat (first | exact trivial | refine ⟨by exact rfl, ?_⟩)) (by repeat (first | exact List.Sublist.refl _ | exact List.nil_sublist _ | refine List.Sublist.cons_cons _ ?_ | refine List.Sublist.cons _ ?_)))
                        · ((refine Seq.done ?_; refine Zd ?_; refine Wp.exit ?_; refine thenX ?_; refine loopX ?_; refine blkX (by exact rfl) ?_; refine blkN ?_; refine thenN ?_; refine Wp.region ?_; refine Zq ?_; refine Zm ?_; refine Zq ?_; refine q_add (by exact rfl) (by exact rfl) (wrap_in (by omega)) ?_; refine Zq ?_; refine Za ?_; refine Seq.end_ ?_))
                          (exact loopN ⟨k + 1, by omega, rfl, rfl, rfl, rfl, (lt_succ_cases hh (fun y hy => by rw [hx] at hy; injection hy with hy; subst hy; exact ⟨by omega, by omega, of_decide_eq_true f3, fun i b h1 h2 => hi i (by omega) b h2⟩))⟩ (by omega) (by repeat (first | exact trivial | refine ⟨by exact rfl, ?_⟩)) (by repeat (first | exact List.Sublist.refl _ | exact List.nil_sublist _ | refine List.Sublist.cons_cons _ ?_ | refine List.Sublist.cons _ ?_)))
                      · ((refine Zy ?_; refine q_not (by exact rfl) ?_; refine Zq ?_; refine Zu ?_; refine Seq.done ?_; refine Zc ?_; refine Wp.seq ?_; refine Wp.region ?_; refine Zq ?_; refine Za ?_; refine Seq.done ?_; refine Wp.ret ?_; refine thenR ?_; refine blkR ?_; refine thenR ?_; refine loopR ?_; refine blkR ?_; refine thenR ?_))
                        (exact ret1 rfl rfl (by repeat (first | exact List.Sublist.refl _ | exact List.nil_sublist _ | refine List.Sublist.cons_cons _ ?_ | refine List.Sublist.cons _ ?_)) (bool_false (bad (fun _ _ _ => of_decide_eq_false f3))))
                · ((refine Seq.done ?_; refine Zd ?_; refine Wp.exit ?_; refine thenX ?_; refine loopX ?_; refine blkX (by exact rfl) ?_; refine thenN ?_; refine Wp.seq ?_; refine Wp.region ?_; refine Zq ?_; refine Za ?_; refine Seq.done ?_; refine Wp.ret ?_))
                  (exact ret1 rfl rfl (by repeat (first | exact List.Sublist.refl _ | exact List.nil_sublist _ | refine List.Sublist.cons_cons _ ?_ | refine List.Sublist.cons _ ?_)) (bool_true ⟨by omega, by omega, hnm, by omega, of_decide_eq_true f2, hch, assigns_of hh (by omega)⟩))
          · ((refine Zy ?_; refine q_not (by exact rfl) ?_; refine Zq ?_; refine Zu ?_; refine Seq.done ?_; refine Zc ?_; refine Wp.seq ?_; refine Wp.region ?_; refine Zq ?_; refine Za ?_; refine Seq.done ?_; refine Wp.ret ?_; refine thenR ?_))
            (exact ret1 rfl rfl (by repeat (first | exact List.Sublist.refl _ | exact List.nil_sublist _ | refine List.Sublist.cons_cons _ ?_ | refine List.Sublist.cons _ ?_)) (bool_false (fun h => of_decide_eq_false f2 h.2.2.2.2.1)))
end Go.Proofs.YtegmololhnipiaaGreatDoor
namespace Go.Lx
theorem q_callvD {P : Program} {cx : Cx} {r : Operand → Option Value} {fz : FZ} {H : HP} {V : Value → Prop} {dst : Option Nat} {ty : TypeId} {pos : String} {af : Array Edge} {gd : Option (Nat × Bool)} {f : FuncId} {ff : Operand} {xs : List Operand} {ats : Array TypeId} {us vs first capt : List Value} {p : Prop} [Decidable p] (hf : r ff = some (.func (.func f) first.toArray capt.toArray)) (hx : rds r xs = some us) (hv : first ++ us ++ capt = vs) (hq : QFn P f vs fz (.bool (decide p)))
    (h1 : p → V (.bool true)) (h2 : ¬ p → V (.bool false)) : DoesQ P cx ⟨dst, .call { callee := .value ff, args := xs.toArray, argTypes := ats }, ty, pos, af, gd⟩ r fz H V :=
  q_callv hf hx hv hq (v_dec h1 h2)
end Go.Lx
namespace Go.Proofs.YtegmololhnipiaaGreatDoor
open Go.Lx Go.Gr Go.RowKit
attribute [local instance 10] Classical.propDecidable
noncomputable def firstI {α : Type} (p : α → Prop) : List α → Int → Int
  | [], _ => -1
  | x :: r, k => if p x then k else firstI p r (k + 1)
theorem firstI_iff {α : Type} {p : α → Prop} : ∀ {l : List α} {k : Int}, 0 ≤ k → (0 ≤ firstI p l k ↔ ∃ x ∈ l, p x)
  | [], k, _ => by simp [firstI]
  | x :: r, k, hk => by
    unfold firstI
    split
    · rename_i h; exact ⟨fun _ => ⟨x, by simp, h⟩, fun _ => hk⟩
    · rename_i h
      rw [firstI_iff (l := r) (k := k + 1) (by omega)]
      simp [h]
theorem firstI_at {α : Type} {p : α → Prop} : ∀ {l : List α} {i : Nat} {k : Int} {x : α}, (∀ j, j < i → ∀ y, l[j]? = some y → ¬ p y) → l[i]? = some x → p x → firstI p l k = k + i
  | [], i, k, x, _, hx, _ => by simp at hx
  | y :: r, 0, k, x, _, hx, hp => by
    simp at hx; subst hx
    simp [firstI, hp]
  | y :: r, i + 1, k, x, h, hx, hp => by
    have h0 := h 0 (by omega) y rfl
    have := firstI_at (p := p) (l := r) (i := i) (k := k + 1) (x := x) (fun j hj z hz => h (j + 1) (by omega) z (by simpa using hz)) (by simpa using hx) hp
    unfold firstI
    rw [if_neg h0, this]
    omega
theorem firstI_none {α : Type} {p : α → Prop} : ∀ {l : List α} {k : Int}, (∀ x ∈ l, ¬ p x) → firstI p l k = -1
  | [], k, _ => rfl
  | y :: r, k, h => by
    unfold firstI
    rw [if_neg (h y (by simp)), firstI_none (fun x hx => h x (by simp [hx]))]
theorem indexGFluent_q {fz : FZ} {A : Option Addr} {n c : Nat} {l : List GFluent} {ff : FuncId} {cap : List Value} {p : GFluent → Prop} [DecidablePred p] (h1 : Sl gFluentL fz A n c l) (hq : ∀ x cs, x ∈ l → gFluentL.rep fz x cs → QFn Tryz.prog ff (.agg cs.toArray :: cap) fz (.bool (decide (p x)))) :
    QFn Tryz.prog 67 [.slice A n c, .func (.func ff) #[] cap.toArray] fz (.int .i64 (firstI p l 0)) := by
  refine GFn.quiet ?_
  (refine GFn.of_wp Tryz.func67 rfl Tryz.ntmps67 rfl rfl (fun w0 => ?_))
  have l1 := h1.len
  have hm := h1.short
  ((refine Wp.seq ?_; refine Wp.region ?_; refine Zq ?_; refine Za ?_; refine Seq.done ?_; refine Wp.seq ?_; refine Wp.seq ?_; refine Wp.region ?_; refine Zq ?_; refine Zm ?_; refine Zq ?_; refine q_len_slice T (by exact rfl) (by exact rfl) (by exact rfl) ?_; refine Zq ?_; refine Zm ?_; refine Seq.done ?_; refine Wp.block ?_))
  (refine Wp.loop (fun q σ fz' H' => ∃ k : Nat, k ≤ n ∧ q = n - k ∧ σ = [(8, .int .i64 k), (7, .int .i64 n), (0, .slice A n c), (1, .func (.func ff) #[] cap.toArray)] ∧ fz = fz' ∧ H' = [] ∧ (∀ i, i < k → ∀ x, l[i]? = some x → ¬ p x)) ⟨0, Nat.zero_le _, rfl, rfl, rfl, rfl, (fun i hi => absurd hi (by omega))⟩ (by repeat (first | exact trivial | refine ⟨by exact rfl, ?_⟩)) (by repeat (first | exact List.Sublist.refl _ | exact List.nil_sublist _ | refine List.Sublist.cons_cons _ ?_ | refine List.Sublist.cons _ ?_)) ?_; rintro q σ fz' H' ⟨k, hk, rfl, rfl, rfl, rfl, hh⟩)
  ((refine Wp.seq ?_; refine Wp.region ?_))
  (((refine Zq ?_)); (refine q_lssD (by exact rfl) (by exact rfl) (fun hlt => ?_) (fun hge => ?_)))
  · ((refine Seq.done ?_; refine Wp.seq ?_; refine Zc ?_; refine Wp.skip ?_; refine thenN ?_; refine Wp.seq ?_; refine Wp.block ?_; refine Wp.seq ?_; refine Wp.region ?_; refine Zq ?_; refine Zm ?_; refine Zq ?_; refine Za ?_; refine Seq.done ?_; refine Wp.seq ?_; refine Wp.region ?_; refine Zq ?_; refine Zm ?_; refine Zq ?_; refine Zm ?_; refine Zq ?_; refine Zm ?_))
    obtain ⟨x, hx⟩ := get_some (l := l) (k := k) (by omega)
    (((refine Zq ?_)); refine q_index T k (by exact rfl) (by exact rfl) (by exact rfl) (by exact rfl) (by exact rfl) (by exact rfl) h1 (by first | rfl | omega) hx (fun a ha => ?_))
    (((refine Zq ?_)); refine q_load_at T (by exact rfl) (by exact rfl) (by exact rfl) ha (by exact rfl) ?_)
    intro cs hcs
    (skip)
    (((refine Zq ?_)); refine q_callvD (by exact rfl) (by exact rfl) (by exact rfl) (hq x cs (List.mem_of_getElem? hx) hcs) (fun c1 => ?_) (fun c1 => ?_))
    · ((refine Seq.done ?_; refine Zc ?_; refine Wp.seq ?_; refine Wp.region ?_; refine Zq ?_; refine Zm ?_; refine Zq ?_; refine Za ?_; refine Seq.done ?_; refine Wp.ret ?_; refine blkR ?_; refine thenR ?_; refine loopR ?_; refine blkR ?_; refine thenR ?_))
      (exact ret1 rfl rfl (by repeat (first | exact List.Sublist.refl _ | exact List.nil_sublist _ | refine List.Sublist.cons_cons _ ?_ | refine List.Sublist.cons _ ?_)) (by rw [firstI_at hh hx c1, Int.zero_add]))
    · ((refine Seq.done ?_; refine Zd ?_; refine Wp.skip ?_; refine blkN ?_; refine thenN ?_; refine Wp.region ?_; refine Zq ?_; refine q_add (by exact rfl) (by exact rfl) (wrap_in (by omega)) ?_; refine Zq ?_; refine Zm ?_; refine Seq.end_ ?_))
      (exact loopN ⟨k + 1, by omega, rfl, rfl, rfl, rfl, (all_next hh hx c1)⟩ (by omega) (by repeat (first | exact trivial | refine ⟨by exact rfl, ?_⟩)) (by repeat (first | exact List.Sublist.refl _ | exact List.nil_sublist _ | refine List.Sublist.cons_cons _ ?_ | refine List.Sublist.cons _ ?_)))
  · ((refine Seq.done ?_; refine Wp.seq ?_; refine Zd ?_; refine Wp.exit ?_; refine thenX ?_; refine loopX ?_; refine blkX (by exact rfl) ?_; refine thenN ?_; refine Wp.seq ?_; refine Wp.region ?_; refine Zq ?_; refine Za ?_; refine Seq.done ?_; refine Wp.ret ?_))
    (exact ret1 rfl rfl (by repeat (first | exact List.Sublist.refl _ | exact List.nil_sublist _ | refine List.Sublist.cons_cons _ ?_ | refine List.Sublist.cons _ ?_)) (by rw [firstI_none (all_of hh (by omega))]))
theorem containsGFluent_q {fz : FZ} {A : Option Addr} {n c : Nat} {l : List GFluent} {ff : FuncId} {cap : List Value} {p : GFluent → Prop} [DecidablePred p] (h1 : Sl gFluentL fz A n c l) (hq : ∀ x cs, x ∈ l → gFluentL.rep fz x cs → QFn Tryz.prog ff (.agg cs.toArray :: cap) fz (.bool (decide (p x)))) :
    QFn Tryz.prog 35 [.slice A n c, .func (.func ff) #[] cap.toArray] fz (.bool (decide (∃ x ∈ l, p x))) := by
  refine GFn.quiet ?_
  (refine GFn.of_wp Tryz.func35 rfl Tryz.ntmps35 rfl rfl (fun w0 => ?_))
  ((refine Wp.seq ?_; refine Wp.region ?_; refine Zq ?_; refine Za ?_; refine Seq.done ?_; refine Wp.seq ?_; refine Wp.region ?_; refine Zq ?_; refine Zm ?_; refine Zq ?_; refine Zm ?_))
  (((refine Zq ?_)); refine q_call (by exact rfl) (by exact rfl) (indexGFluent_q h1 hq) ?_)
  (((refine Zq ?_)); (refine q_geqD (by exact rfl) (by exact rfl) (fun c1 => ?_) (fun c1 => ?_)))
  · ((refine Zq ?_; refine Za ?_; refine Seq.done ?_; refine Wp.ret ?_))
    (exact ret1 rfl rfl (by repeat (first | exact List.Sublist.refl _ | exact List.nil_sublist _ | refine List.Sublist.cons_cons _ ?_ | refine List.Sublist.cons _ ?_)) (bool_true ((firstI_iff (Int.le_refl 0)).1 c1)))
  · ((refine Zq ?_; refine Za ?_; refine Seq.done ?_; refine Wp.ret ?_))
    (exact ret1 rfl rfl (by repeat (first | exact List.Sublist.refl _ | exact List.nil_sublist _ | refine List.Sublist.cons_cons _ ?_ | refine List.Sublist.cons _ ?_)) (bool_false (fun h => c1 ((firstI_iff (Int.le_refl 0)).2 h))))
theorem indexCond_q {fz : FZ} {A : Option Addr} {n c : Nat} {l : List Cond} {ff : FuncId} {cap : List Value} {p : Cond → Prop} [DecidablePred p] (h1 : Sl condL fz A n c l) (hq : ∀ x cs, x ∈ l → condL.rep fz x cs → QFn Tryz.prog ff (.agg cs.toArray :: cap) fz (.bool (decide (p x)))) :
    QFn Tryz.prog 68 [.slice A n c, .func (.func ff) #[] cap.toArray] fz (.int .i64 (firstI p l 0)) := by
  refine GFn.quiet ?_
  (refine GFn.of_wp Tryz.func68 rfl Tryz.ntmps68 rfl rfl (fun w0 => ?_))
  have l1 := h1.len
  have hm := h1.short
  ((refine Wp.seq ?_; refine Wp.region ?_; refine Zq ?_; refine Za ?_; refine Seq.done ?_; refine Wp.seq ?_; refine Wp.seq ?_; refine Wp.region ?_; refine Zq ?_; refine Zm ?_; refine Zq ?_; refine q_len_slice T (by exact rfl) (by exact rfl) (by exact rfl) ?_; refine Zq ?_; refine Zm ?_; refine Seq.done ?_; refine Wp.block ?_))
  (refine Wp.loop (fun q σ fz' H' => ∃ k : Nat, k ≤ n ∧ q = n - k ∧ σ = [(8, .int .i64 k), (7, .int .i64 n), (0, .slice A n c), (1, .func (.func ff) #[] cap.toArray)] ∧ fz = fz' ∧ H' = [] ∧ (∀ i, i < k → ∀ x, l[i]? = some x → ¬ p x)) ⟨0, Nat.zero_le _, rfl, rfl, rfl, rfl, (fun i hi => absurd hi (by omega))⟩ (by repeat (first | exact trivial | refine ⟨by exact rfl, ?_⟩)) (by repeat (first | exact List.Sublist.refl _ | exact List.nil_sublist _ | refine List.Sublist.cons_cons _ ?_ | refine List.Sublist.cons _ ?_)) ?_; rintro q σ fz' H' ⟨k, hk, rfl, rfl, rfl, rfl, hh⟩)
  ((refine Wp.seq ?_; refine Wp.region ?_))
  (((refine Zq ?_)); (refine q_lssD (by exact rfl) (by exact rfl) (fun hlt => ?_) (fun hge => ?_)))
  · ((refine Seq.done ?_; refine Wp.seq ?_; refine Zc ?_; refine Wp.skip ?_; refine thenN ?_; refine Wp.seq ?_; refine Wp.block ?_; refine Wp.seq ?_; refine Wp.region ?_; refine Zq ?_; refine Zm ?_; refine Zq ?_; refine Za ?_; refine Seq.done ?_; refine Wp.seq ?_; refine Wp.region ?_; refine Zq ?_; refine Zm ?_; refine Zq ?_; refine Zm ?_; refine Zq ?_; refine Zm ?_))
    obtain ⟨x, hx⟩ := get_some (l := l) (k := k) (by omega)
    (((refine Zq ?_)); refine q_index T k (by exact rfl) (by exact rfl) (by exact rfl) (by exact rfl) (by exact rfl) (by exact rfl) h1 (by first | rfl | omega) hx (fun a ha => ?_))
    (((refine Zq ?_)); refine q_load_at T (by exact rfl) (by exact rfl) (by exact rfl) ha (by exact rfl) ?_)
    intro cs hcs
    (skip)
    (((refine Zq ?_)); refine q_callvD (by exact rfl) (by exact rfl) (by exact rfl) (hq x cs (List.mem_of_getElem? hx) hcs) (fun c1 => ?_) (fun c1 => ?_))
    · ((refine Seq.done ?_; refine Zc ?_; refine Wp.seq ?_; refine Wp.region ?_; refine Zq ?_; refine Zm ?_; refine Zq ?_; refine Za ?_; refine Seq.done ?_; refine Wp.ret ?_; refine blkR ?_; refine thenR ?_; refine loopR ?_; refine blkR ?_; refine thenR ?_))
      (exact ret1 rfl rfl (by repeat (first | exact List.Sublist.refl _ | exact List.nil_sublist _ | refine List.Sublist.cons_cons _ ?_ | refine List.Sublist.cons _ ?_)) (by rw [firstI_at hh hx c1, Int.zero_add]))
    · ((refine Seq.done ?_; refine Zd ?_; refine Wp.skip ?_; refine blkN ?_; refine thenN ?_; refine Wp.region ?_; refine Zq ?_; refine q_add (by exact rfl) (by exact rfl) (wrap_in (by omega)) ?_; refine Zq ?_; refine Zm ?_; refine Seq.end_ ?_))
      (exact loopN ⟨k + 1, by omega, rfl, rfl, rfl, rfl, (all_next hh hx c1)⟩ (by omega) (by repeat (first | exact trivial | refine ⟨by exact rfl, ?_⟩)) (by repeat (first | exact List.Sublist.refl _ | exact List.nil_sublist _ | refine List.Sublist.cons_cons _ ?_ | refine List.Sublist.cons _ ?_)))
  · ((refine Seq.done ?_; refine Wp.seq ?_; refine Zd ?_; refine Wp.exit ?_; refine thenX ?_; refine loopX ?_; refine blkX (by exact rfl) ?_; refine thenN ?_; refine Wp.seq ?_; refine Wp.region ?_; refine Zq ?_; refine Za ?_; refine Seq.done ?_; refine Wp.ret ?_))
    (exact ret1 rfl rfl (by repeat (first | exact List.Sublist.refl _ | exact List.nil_sublist _ | refine List.Sublist.cons_cons _ ?_ | refine List.Sublist.cons _ ?_)) (by rw [firstI_none (all_of hh (by omega))]))
theorem containsCond_q {fz : FZ} {A : Option Addr} {n c : Nat} {l : List Cond} {ff : FuncId} {cap : List Value} {p : Cond → Prop} [DecidablePred p] (h1 : Sl condL fz A n c l) (hq : ∀ x cs, x ∈ l → condL.rep fz x cs → QFn Tryz.prog ff (.agg cs.toArray :: cap) fz (.bool (decide (p x)))) :
    QFn Tryz.prog 39 [.slice A n c, .func (.func ff) #[] cap.toArray] fz (.bool (decide (∃ x ∈ l, p x))) := by
  refine GFn.quiet ?_
  (refine GFn.of_wp Tryz.func39 rfl Tryz.ntmps39 rfl rfl (fun w0 => ?_))
  ((refine Wp.seq ?_; refine Wp.region ?_; refine Zq ?_; refine Za ?_; refine Seq.done ?_; refine Wp.seq ?_; refine Wp.region ?_; refine Zq ?_; refine Zm ?_; refine Zq ?_; refine Zm ?_))
  (((refine Zq ?_)); refine q_call (by exact rfl) (by exact rfl) (indexCond_q h1 hq) ?_)
  (((refine Zq ?_)); (refine q_geqD (by exact rfl) (by exact rfl) (fun c1 => ?_) (fun c1 => ?_)))
  · ((refine Zq ?_; refine Za ?_; refine Seq.done ?_; refine Wp.ret ?_))
    (exact ret1 rfl rfl (by repeat (first | exact List.Sublist.refl _ | exact List.nil_sublist _ | refine List.Sublist.cons_cons _ ?_ | refine List.Sublist.cons _ ?_)) (bool_true ((firstI_iff (Int.le_refl 0)).1 c1)))
  · ((refine Zq ?_; refine Za ?_; refine Seq.done ?_; refine Wp.ret ?_))
    (exact ret1 rfl rfl (by repeat (first | exact List.Sublist.refl _ | exact List.nil_sublist _ | refine List.Sublist.cons_cons _ ?_ | refine List.Sublist.cons _ ?_)) (bool_false (fun h => c1 ((firstI_iff (Int.le_refl 0)).2 h))))
theorem indexGOp_q {fz : FZ} {A : Option Addr} {n c : Nat} {l : List GOp} {ff : FuncId} {cap : List Value} {p : GOp → Prop} [DecidablePred p] (h1 : Sl gOpL fz A n c l) (hq : ∀ x cs, x ∈ l → gOpL.rep fz x cs → QFn Tryz.prog ff (.agg cs.toArray :: cap) fz (.bool (decide (p x)))) :
    QFn Tryz.prog 69 [.slice A n c, .func (.func ff) #[] cap.toArray] fz (.int .i64 (firstI p l 0)) := by
  refine GFn.quiet ?_
  (refine GFn.of_wp Tryz.func69 rfl Tryz.ntmps69 rfl rfl (fun w0 => ?_))
  have l1 := h1.len
  have hm := h1.short
  ((refine Wp.seq ?_; refine Wp.region ?_; refine Zq ?_; refine Za ?_; refine Seq.done ?_; refine Wp.seq ?_; refine Wp.seq ?_; refine Wp.region ?_; refine Zq ?_; refine Zm ?_; refine Zq ?_; refine q_len_slice T (by exact rfl) (by exact rfl) (by exact rfl) ?_; refine Zq ?_; refine Zm ?_; refine Seq.done ?_; refine Wp.block ?_))
  (refine Wp.loop (fun q σ fz' H' => ∃ k : Nat, k ≤ n ∧ q = n - k ∧ σ = [(8, .int .i64 k), (7, .int .i64 n), (0, .slice A n c), (1, .func (.func ff) #[] cap.toArray)] ∧ fz = fz' ∧ H' = [] ∧ (∀ i, i < k → ∀ x, l[i]? = some x → ¬ p x)) ⟨0, Nat.zero_le _, rfl, rfl, rfl, rfl, (fun i hi => absurd hi (by omega))⟩ (by repeat (first | exact trivial | refine ⟨by exact rfl, ?_⟩)) (by repeat (first | exact List.Sublist.refl _ | exact List.nil_sublist _ | refine List.Sublist.cons_cons _ ?_ | refine List.Sublist.cons _ ?_)) ?_; rintro q σ fz' H' ⟨k, hk, rfl, rfl, rfl, rfl, hh⟩)
  ((refine Wp.seq ?_; refine Wp.region ?_))
  (((refine Zq ?_)); (refine q_lssD (by exact rfl) (by exact rfl) (fun hlt => ?_) (fun hge => ?_)))
  · ((refine Seq.done ?_; refine Wp.seq ?_; refine Zc ?_; refine Wp.skip ?_; refine thenN ?_; refine Wp.seq ?_; refine Wp.block ?_; refine Wp.seq ?_; refine Wp.region ?_; refine Zq ?_; refine Zm ?_; refine Zq ?_; refine Za ?_; refine Seq.done ?_; refine Wp.seq ?_; refine Wp.region ?_; refine Zq ?_; refine Zm ?_; refine Zq ?_; refine Zm ?_; refine Zq ?_; refine Zm ?_))
    obtain ⟨x, hx⟩ := get_some (l := l) (k := k) (by omega)
    (((refine Zq ?_)); refine q_index T k (by exact rfl) (by exact rfl) (by exact rfl) (by exact rfl) (by exact rfl) (by exact rfl) h1 (by first | rfl | omega) hx (fun a ha => ?_))
    (((refine Zq ?_)); refine q_load_at T (by exact rfl) (by exact rfl) (by exact rfl) ha (by exact rfl) ?_)
    intro cs hcs
    (skip)
    (((refine Zq ?_)); refine q_callvD (by exact rfl) (by exact rfl) (by exact rfl) (hq x cs (List.mem_of_getElem? hx) hcs) (fun c1 => ?_) (fun c1 => ?_))
    · ((refine Seq.done ?_; refine Zc ?_; refine Wp.seq ?_; refine Wp.region ?_; refine Zq ?_; refine Zm ?_; refine Zq ?_; refine Za ?_; refine Seq.done ?_; refine Wp.ret ?_; refine blkR ?_; refine thenR ?_; refine loopR ?_; refine blkR ?_; refine thenR ?_))
      (exact ret1 rfl rfl (by repeat (first | exact List.Sublist.refl _ | exact List.nil_sublist _ | refine List.Sublist.cons_cons _ ?_ | refine List.Sublist.cons _ ?_)) (by rw [firstI_at hh hx c1, Int.zero_add]))
    · ((refine Seq.done ?_; refine Zd ?_; refine Wp.skip ?_; refine blkN ?_; refine thenN ?_; refine Wp.region ?_; refine Zq ?_; refine q_add (by exact rfl) (by exact rfl) (wrap_in (by omega)) ?_; refine Zq ?_; refine Zm ?_; refine Seq.end_ ?_))
      (exact loopN ⟨k + 1, by omega, rfl, rfl, rfl, rfl, (all_next hh hx c1)⟩ (by omega) (by repeat (first | exact trivial | refine ⟨by exact rfl, ?_⟩)) (by repeat (first | exact List.Sublist.refl _ | exact List.nil_sublist _ | refine List.Sublist.cons_cons _ ?_ | refine List.Sublist.cons _ ?_)))
  · ((refine Seq.done ?_; refine Wp.seq ?_; refine Zd ?_; refine Wp.exit ?_; refine thenX ?_; refine loopX ?_; refine blkX (by exact rfl) ?_; refine thenN ?_; refine Wp.seq ?_; refine Wp.region ?_; refine Zq ?_; refine Za ?_; refine Seq.done ?_; refine Wp.ret ?_))
    (exact ret1 rfl rfl (by repeat (first | exact List.Sublist.refl _ | exact List.nil_sublist _ | refine List.Sublist.cons_cons _ ?_ | refine List.Sublist.cons _ ?_)) (by rw [firstI_none (all_of hh (by omega))]))
theorem containsGOp_q {fz : FZ} {A : Option Addr} {n c : Nat} {l : List GOp} {ff : FuncId} {cap : List Value} {p : GOp → Prop} [DecidablePred p] (h1 : Sl gOpL fz A n c l) (hq : ∀ x cs, x ∈ l → gOpL.rep fz x cs → QFn Tryz.prog ff (.agg cs.toArray :: cap) fz (.bool (decide (p x)))) :
    QFn Tryz.prog 42 [.slice A n c, .func (.func ff) #[] cap.toArray] fz (.bool (decide (∃ x ∈ l, p x))) := by
  refine GFn.quiet ?_
  (refine GFn.of_wp Tryz.func42 rfl Tryz.ntmps42 rfl rfl (fun w0 => ?_))
  ((refine Wp.seq ?_; refine Wp.region ?_; refine Zq ?_; refine Za ?_; refine Seq.done ?_; refine Wp.seq ?_; refine Wp.region ?_; refine Zq ?_; refine Zm ?_; refine Zq ?_; refine Zm ?_))
  (((refine Zq ?_)); refine q_call (by exact rfl) (by exact rfl) (indexGOp_q h1 hq) ?_)
  (((refine Zq ?_)); (refine q_geqD (by exact rfl) (by exact rfl) (fun c1 => ?_) (fun c1 => ?_)))
  · ((refine Zq ?_; refine Za ?_; refine Seq.done ?_; refine Wp.ret ?_))
    (exact ret1 rfl rfl (by repeat (first | exact List.Sublist.refl _ | exact List.nil_sublist _ | refine List.Sublist.cons_cons _ ?_ | refine List.Sublist.cons _ ?_)) (bool_true ((firstI_iff (Int.le_refl 0)).1 c1)))
  · ((refine Zq ?_; refine Za ?_; refine Seq.done ?_; refine Wp.ret ?_))
    (exact ret1 rfl rfl (by repeat (first | exact List.Sublist.refl _ | exact List.nil_sublist _ | refine List.Sublist.cons_cons _ ?_ | refine List.Sublist.cons _ ?_)) (bool_false (fun h => c1 ((firstI_iff (Int.le_refl 0)).2 h))))
theorem indexGTest_q {fz : FZ} {A : Option Addr} {n c : Nat} {l : List GTest} {ff : FuncId} {cap : List Value} {p : GTest → Prop} [DecidablePred p] (h1 : Sl gTestL fz A n c l) (hq : ∀ x cs, x ∈ l → gTestL.rep fz x cs → QFn Tryz.prog ff (.agg cs.toArray :: cap) fz (.bool (decide (p x)))) :
    QFn Tryz.prog 112 [.slice A n c, .func (.func ff) #[] cap.toArray] fz (.int .i64 (firstI p l 0)) := by
  refine GFn.quiet ?_
  (refine GFn.of_wp Tryz.func112 rfl Tryz.ntmps112 rfl rfl (fun w0 => ?_))
  have l1 := h1.len
  have hm := h1.short
  ((refine Wp.seq ?_; refine Wp.region ?_; refine Zq ?_; refine Za ?_; refine Seq.done ?_; refine Wp.seq ?_; refine Wp.seq ?_; refine Wp.region ?_; refine Zq ?_; refine Zm ?_; refine Zq ?_; refine q_len_slice T (by exact rfl) (by exact rfl) (by exact rfl) ?_; refine Zq ?_; refine Zm ?_; refine Seq.done ?_; refine Wp.block ?_))
  (refine Wp.loop (fun q σ fz' H' => ∃ k : Nat, k ≤ n ∧ q = n - k ∧ σ = [(8, .int .i64 k), (7, .int .i64 n), (0, .slice A n c), (1, .func (.func ff) #[] cap.toArray)] ∧ fz = fz' ∧ H' = [] ∧ (∀ i, i < k → ∀ x, l[i]? = some x → ¬ p x)) ⟨0, Nat.zero_le _, rfl, rfl, rfl, rfl, (fun i hi => absurd hi (by omega))⟩ (by repeat (first | exact trivial | refine ⟨by exact rfl, ?_⟩)) (by repeat (first | exact List.Sublist.refl _ | exact List.nil_sublist _ | refine List.Sublist.cons_cons _ ?_ | refine List.Sublist.cons _ ?_)) ?_; rintro q σ fz' H' ⟨k, hk, rfl, rfl, rfl, rfl, hh⟩)
  ((refine Wp.seq ?_; refine Wp.region ?_))
  (((refine Zq ?_)); (refine q_lssD (by exact rfl) (by exact rfl) (fun hlt => ?_) (fun hge => ?_)))
  · ((refine Seq.done ?_; refine Wp.seq ?_; refine Zc ?_; refine Wp.skip ?_; refine thenN ?_; refine Wp.seq ?_; refine Wp.block ?_; refine Wp.seq ?_; refine Wp.region ?_; refine Zq ?_; refine Zm ?_; refine Zq ?_; refine Za ?_; refine Seq.done ?_; refine Wp.seq ?_; refine Wp.region ?_; refine Zq ?_; refine Zm ?_; refine Zq ?_; refine Zm ?_; refine Zq ?_; refine Zm ?_))
    obtain ⟨x, hx⟩ := get_some (l := l) (k := k) (by omega)
    (((refine Zq ?_)); refine q_index T k (by exact rfl) (by exact rfl) (by exact rfl) (by exact rfl) (by exact rfl) (by exact rfl) h1 (by first | rfl | omega) hx (fun a ha => ?_))
    (((refine Zq ?_)); refine q_load_at T (by exact rfl) (by exact rfl) (by exact rfl) ha (by exact rfl) ?_)
    intro cs hcs
    (skip)
    (((refine Zq ?_)); refine q_callvD (by exact rfl) (by exact rfl) (by exact rfl) (hq x cs (List.mem_of_getElem? hx) hcs) (fun c1 => ?_) (fun c1 => ?_))
    · ((refine Seq.done ?_; refine Zc ?_; refine Wp.seq ?_; refine Wp.region ?_; refine Zq ?_; refine Zm ?_; refine Zq ?_; refine Za ?_; refine Seq.done ?_; refine Wp.ret ?_; refine blkR ?_; refine thenR ?_; refine loopR ?_; refine blkR ?_; refine thenR ?_))
      (exact ret1 rfl rfl (by repeat (first | exact List.Sublist.refl _ | exact List.nil_sublist _ | refine List.Sublist.cons_cons _ ?_ | refine List.Sublist.cons _ ?_)) (by rw [firstI_at hh hx c1, Int.zero_add]))
    · ((refine Seq.done ?_; refine Zd ?_; refine Wp.skip ?_; refine blkN ?_; refine thenN ?_; refine Wp.region ?_; refine Zq ?_; refine q_add (by exact rfl) (by exact rfl) (wrap_in (by omega)) ?_; refine Zq ?_; refine Zm ?_; refine Seq.end_ ?_))
      (exact loopN ⟨k + 1, by omega, rfl, rfl, rfl, rfl, (all_next hh hx c1)⟩ (by omega) (by repeat (first | exact trivial | refine ⟨by exact rfl, ?_⟩)) (by repeat (first | exact List.Sublist.refl _ | exact List.nil_sublist _ | refine List.Sublist.cons_cons _ ?_ | refine List.Sublist.cons _ ?_)))
  · ((refine Seq.done ?_; refine Wp.seq ?_; refine Zd ?_; refine Wp.exit ?_; refine thenX ?_; refine loopX ?_; refine blkX (by exact rfl) ?_; refine thenN ?_; refine Wp.seq ?_; refine Wp.region ?_; refine Zq ?_; refine Za ?_; refine Seq.done ?_; refine Wp.ret ?_))
    (exact ret1 rfl rfl (by repeat (first | exact List.Sublist.refl _ | exact List.nil_sublist _ | refine List.Sublist.cons_cons _ ?_ | refine List.Sublist.cons _ ?_)) (by rw [firstI_none (all_of hh (by omega))]))
theorem containsGTest_q {fz : FZ} {A : Option Addr} {n c : Nat} {l : List GTest} {ff : FuncId} {cap : List Value} {p : GTest → Prop} [DecidablePred p] (h1 : Sl gTestL fz A n c l) (hq : ∀ x cs, x ∈ l → gTestL.rep fz x cs → QFn Tryz.prog ff (.agg cs.toArray :: cap) fz (.bool (decide (p x)))) :
    QFn Tryz.prog 74 [.slice A n c, .func (.func ff) #[] cap.toArray] fz (.bool (decide (∃ x ∈ l, p x))) := by
  refine GFn.quiet ?_
  (refine GFn.of_wp Tryz.func74 rfl Tryz.ntmps74 rfl rfl (fun w0 => ?_))
  ((refine Wp.seq ?_; refine Wp.region ?_; refine Zq ?_; refine Za ?_; refine Seq.done ?_; refine Wp.seq ?_; refine Wp.region ?_; refine Zq ?_; refine Zm ?_; refine Zq ?_; refine Zm ?_))
  (((refine Zq ?_)); refine q_call (by exact rfl) (by exact rfl) (indexGTest_q h1 hq) ?_)
  (((refine Zq ?_)); (refine q_geqD (by exact rfl) (by exact rfl) (fun c1 => ?_) (fun c1 => ?_)))
  · ((refine Zq ?_; refine Za ?_; refine Seq.done ?_; refine Wp.ret ?_))
    (exact ret1 rfl rfl (by repeat (first | exact List.Sublist.refl _ | exact List.nil_sublist _ | refine List.Sublist.cons_cons _ ?_ | refine List.Sublist.cons _ ?_)) (bool_true ((firstI_iff (Int.le_refl 0)).1 c1)))
  · ((refine Zq ?_; refine Za ?_; refine Seq.done ?_; refine Wp.ret ?_))
    (exact ret1 rfl rfl (by repeat (first | exact List.Sublist.refl _ | exact List.nil_sublist _ | refine List.Sublist.cons_cons _ ?_ | refine List.Sublist.cons _ ?_)) (bool_false (fun h => c1 ((firstI_iff (Int.le_refl 0)).2 h))))
theorem bool_not {p : Prop} [Decidable p] : Value.bool (!decide p) = Value.bool (decide (¬ p)) := by rw [decide_not]
theorem valid1_q {fz : FZ} (f : GFluent) (cs : List Value) (h : gFluentL.rep fz f cs) : QFn Tryz.prog 36 [.agg cs.toArray] fz (.bool (decide (¬ FluentOk f))) := by
  obtain ⟨v, rfl, hR⟩ := gFluentL_open h
  obtain ⟨A, n, c, rfl, _⟩ := hR.fluent.args
  refine GFn.quiet ?_
  (refine GFn.of_wp Tryz.func36 rfl Tryz.ntmps36 rfl rfl (fun w0 => ?_))
  ((refine Wp.seq ?_; refine Wp.region ?_; refine Seq.stepK (by exact rfl) (k_box _ (by exact rfl) (by exact rfl) (fun _ => ?_)); refine Zq ?_; refine Za ?_; refine Seq.done ?_; refine Wp.seq ?_; refine Wp.region ?_; refine Zq ?_; refine ZL T 0 ?_))
  (((refine Zq ?_)); refine q_call (by exact rfl) (by exact rfl) (fluent_q hR) ?_)
  ((refine Zq ?_; refine q_not (by exact rfl) ?_; refine Zq ?_; refine Za ?_; refine Seq.done ?_; refine Wp.ret ?_))
  (exact ret1 rfl rfl (by repeat (first | exact List.Sublist.refl _ | exact List.nil_sublist _ | refine List.Sublist.cons_cons _ ?_ | refine List.Sublist.cons _ ?_)) bool_not)
theorem valid2_q {fz : FZ} {g : GTask} {v1 v2 v3 v4 v5 : Value} {gb : Nat} (hg : GTaskR fz g v1 v2 v3 v4 v5) (hx : fz gb = some (.cells #[v1, v2, v3, v4, v5] 28 (0, 0))) (c : Cond) (cs : List Value) (h : condL.rep fz c cs) :
    QFn Tryz.prog 40 [.agg cs.toArray, .pointer (some ⟨gb, 0, none⟩)] fz (.bool (decide (¬ CondOk g.atoms.length g.fluents.length c))) := by
  obtain ⟨u1, u2, u3, rfl, hc⟩ := condL_open h
  (obtain ⟨A1, n1, cap1, rfl, ga⟩ := hg.atoms; obtain ⟨A2, n2, cap2, rfl, gf⟩ := hg.fluents; obtain ⟨A3, n3, cap3, rfl, gi⟩ := hg.init; obtain ⟨A4, n4, cap4, rfl, gg⟩ := hg.goal; obtain ⟨A5, n5, cap5, rfl, go⟩ := hg.ops; have e1 := ga.len; subst e1; have e2 := gf.len; subst e2)
  (obtain ⟨B1, m1, d1, rfl, cp⟩ := hc.pos; obtain ⟨B2, m2, d2, rfl, cn⟩ := hc.neg; obtain ⟨B3, m3, d3, rfl, ct⟩ := hc.tests)
  refine GFn.quiet ?_
  (refine GFn.of_wp Tryz.func40 rfl Tryz.ntmps40 rfl rfl (fun w0 => ?_))
  ((refine Wp.seq ?_; refine Wp.region ?_; refine Seq.stepK (by exact rfl) (k_box _ (by exact rfl) (by exact rfl) (fun _ => ?_)); refine Zq ?_; refine Za ?_; refine Seq.done ?_; refine Wp.seq ?_; refine Wp.region ?_; refine Zq ?_; refine q_load_fz_all T (by exact rfl) (by exact rfl) (by exact rfl) (by assumption) (by exact rfl) ?_; refine Zq ?_; refine ZL T 0 ?_))
  (((refine Zq ?_)); refine q_call (by exact rfl) (by exact rfl) (condition_q hg hc) ?_)
  ((refine Zq ?_; refine q_not (by exact rfl) ?_; refine Zq ?_; refine Za ?_; refine Seq.done ?_; refine Wp.ret ?_))
  (exact ret1 rfl rfl (by repeat (first | exact List.Sublist.refl _ | exact List.nil_sublist _ | refine List.Sublist.cons_cons _ ?_ | refine List.Sublist.cons _ ?_)) bool_not)
theorem valid3_q {fz : FZ} {g : GTask} {v1 v2 v3 v4 v5 : Value} {gb : Nat} (hg : GTaskR fz g v1 v2 v3 v4 v5) (hx : fz gb = some (.cells #[v1, v2, v3, v4, v5] 28 (0, 0))) (o : GOp) (cs : List Value) (h : gOpL.rep fz o cs) :
    QFn Tryz.prog 43 [.agg cs.toArray, .pointer (some ⟨gb, 0, none⟩)] fz (.bool (decide (¬ OpOk g.atoms.length g.fluents.length o))) := by
  obtain ⟨u1, u2, u3, u4, u5, rfl, ho⟩ := gOpL_open h
  (obtain ⟨A1, n1, cap1, rfl, ga⟩ := hg.atoms; obtain ⟨A2, n2, cap2, rfl, gf⟩ := hg.fluents; obtain ⟨A3, n3, cap3, rfl, gi⟩ := hg.init; obtain ⟨A4, n4, cap4, rfl, gg⟩ := hg.goal; obtain ⟨A5, n5, cap5, rfl, go⟩ := hg.ops; have e1 := ga.len; subst e1; have e2 := gf.len; subst e2)
  have hc := ho.pre
  (obtain ⟨B1, m1, d1, rfl, cp⟩ := hc.pos; obtain ⟨B2, m2, d2, rfl, cn⟩ := hc.neg; obtain ⟨B3, m3, d3, rfl, ct⟩ := hc.tests)
  obtain ⟨B4, m4, d4, rfl, oc⟩ := ho.changes
  obtain ⟨B5, m5, d5, rfl, oa⟩ := ho.assigns
  refine GFn.quiet ?_
  (refine GFn.of_wp Tryz.func43 rfl Tryz.ntmps43 rfl rfl (fun w0 => ?_))
  ((refine Wp.seq ?_; refine Wp.region ?_; refine Seq.stepK (by exact rfl) (k_box _ (by exact rfl) (by exact rfl) (fun _ => ?_)); refine Zq ?_; refine Za ?_; refine Seq.done ?_; refine Wp.seq ?_; refine Wp.region ?_; refine Zq ?_; refine q_load_fz_all T (by exact rfl) (by exact rfl) (by exact rfl) (by assumption) (by exact rfl) ?_; refine Zq ?_; refine ZL T 0 ?_))
  (((refine Zq ?_)); refine q_call (by exact rfl) (by exact rfl) (operator_q hg ho) ?_)
  ((refine Zq ?_; refine q_not (by exact rfl) ?_; refine Zq ?_; refine Za ?_; refine Seq.done ?_; refine Wp.ret ?_))
  (exact ret1 rfl rfl (by repeat (first | exact List.Sublist.refl _ | exact List.nil_sublist _ | refine List.Sublist.cons_cons _ ?_ | refine List.Sublist.cons _ ?_)) bool_not)
end Go.Proofs.YtegmololhnipiaaGreatDoor
namespace Go.Proofs.YtegmololhnipiaaGreatDoor
open Go.Lx Go.Gr Go.RowKit
attribute [local instance 10] Classical.propDecidable
theorem valid_q {fz : FZ} {g : GTask} {v1 v2 v3 v4 v5 : Value} (hg0 : GTaskR fz g v1 v2 v3 v4 v5) :
    QFn Tryz.prog 10 [gV v1 v2 v3 v4 v5] fz (.bool (decide (ValidP g))) := by
  have hg := hg0
  (obtain ⟨A1, n1, cap1, rfl, ga⟩ := hg.atoms; obtain ⟨A2, n2, cap2, rfl, gf⟩ := hg.fluents; obtain ⟨A3, n3, cap3, rfl, gi⟩ := hg.init; obtain ⟨A4, n4, cap4, rfl, gg⟩ := hg.goal; obtain ⟨A5, n5, cap5, rfl, go⟩ := hg.ops; have e1 := ga.len; subst e1; have e2 := gf.len; subst e2)
  refine GFn.quiet ?_
  (refine GFn.of_wp Tryz.func10 rfl Tryz.ntmps10 rfl rfl (fun w0 => ?_))
  (refine Wp.seq (Wp.region (Seq.stepK (by exact rfl) (k_box _ (by exact rfl) (by exact rfl) (fun g0 => ?_)))))
  (first | refine Wp.freeze (by exact rfl) (fun fz1 hle hx => ?_) | refine Seq.freeze (by exact rfl) (fun fz1 hle hx => ?_))
  replace hg := hg.mono hle
  replace gf := gf.mono hle
  replace gi := gi.mono hle
  replace gg := gg.mono hle
  replace go := go.mono hle
  have l4 := gg.len
  have l5 := go.len
  ((refine Zq ?_; refine Za ?_; refine Seq.done ?_; refine Wp.seq ?_; refine Wp.seq ?_; refine Wp.region ?_; refine Zq ?_; refine Zf T ?_; refine Zq ?_; refine q_load_fz T (by exact rfl) (by exact rfl) (by exact rfl) (by assumption) (by exact rfl) ?_; refine Zq ?_; refine q_len_slice T (by exact rfl) (by exact rfl) (by exact rfl) ?_))
  (((refine Zq ?_)); (refine q_gtrD (by exact rfl) (by exact rfl) (fun c1 => ?_) (fun c1 => ?_)))
  · ((refine Zq ?_; refine Zm ?_; refine Zn ?_; refine Zn ?_; refine Zn ?_; refine Zn ?_; refine Zq ?_; refine Zt ?_; refine Zq ?_; refine Zm ?_; refine Zn ?_; refine Zn ?_; refine Zn ?_; refine Zn ?_; refine Zq ?_; refine Zt ?_; refine Zq ?_; refine Zm ?_; refine Zn ?_; refine Zn ?_; refine Zn ?_; refine Zn ?_; refine Zq ?_; refine Zt ?_; refine Seq.done ?_; refine Zc ?_; refine Wp.seq ?_; refine Wp.region ?_; refine Zq ?_; refine Za ?_; refine Seq.done ?_; refine Wp.ret ?_; refine thenR ?_))
    (exact ret1 rfl rfl (by repeat (first | exact List.Sublist.refl _ | exact List.nil_sublist _ | refine List.Sublist.cons_cons _ ?_ | refine List.Sublist.cons _ ?_)) (bool_false (fun h => by have := h.1; omega)))
  · ((refine Zq ?_; refine Zm ?_; refine Zy ?_; refine Zf T ?_; refine Zy ?_; refine q_load_fz T (by exact rfl) (by exact rfl) (by exact rfl) (by assumption) (by exact rfl) ?_; refine Zy ?_; refine q_len_slice T (by exact rfl) (by exact rfl) (by exact rfl) ?_))
    (((refine Zy ?_)); (refine q_gtrD (by exact rfl) (by exact rfl) (fun c2 => ?_) (fun c2 => ?_)))
    · ((refine Zq ?_; refine Zu ?_; refine Zq ?_; refine Zm ?_; refine Zn ?_; refine Zn ?_; refine Zn ?_; refine Zn ?_; refine Zq ?_; refine Zt ?_; refine Zq ?_; refine Zm ?_; refine Zn ?_; refine Zn ?_; refine Zn ?_; refine Zn ?_; refine Zq ?_; refine Zt ?_; refine Seq.done ?_; refine Zc ?_; refine Wp.seq ?_; refine Wp.region ?_; refine Zq ?_; refine Za ?_; refine Seq.done ?_; refine Wp.ret ?_; refine thenR ?_))
      (exact ret1 rfl rfl (by repeat (first | exact List.Sublist.refl _ | exact List.nil_sublist _ | refine List.Sublist.cons_cons _ ?_ | refine List.Sublist.cons _ ?_)) (bool_false (fun h => by have := h.2.1; omega)))
    · ((refine Zq ?_; refine Zu ?_; refine Zq ?_; refine Zm ?_; refine Zy ?_; refine Zf T ?_; refine Zy ?_; refine q_load_fz T (by exact rfl) (by exact rfl) (by exact rfl) (by assumption) (by exact rfl) ?_; refine Zy ?_; refine q_len_slice T (by exact rfl) (by exact rfl) (by exact rfl) ?_))
      (((refine Zy ?_)); (refine q_gtrD (by exact rfl) (by exact rfl) (fun c3 => ?_) (fun c3 => ?_)))
      · ((refine Zq ?_; refine Zu ?_; refine Zq ?_; refine Zm ?_; refine Zn ?_; refine Zn ?_; refine Zn ?_; refine Zn ?_; refine Zq ?_; refine Zt ?_; refine Seq.done ?_; refine Zc ?_; refine Wp.seq ?_; refine Wp.region ?_; refine Zq ?_; refine Za ?_; refine Seq.done ?_; refine Wp.ret ?_; refine thenR ?_))
        (exact ret1 rfl rfl (by repeat (first | exact List.Sublist.refl _ | exact List.nil_sublist _ | refine List.Sublist.cons_cons _ ?_ | refine List.Sublist.cons _ ?_)) (bool_false (fun h => by have := h.2.2.1; omega)))
      · ((refine Zq ?_; refine Zu ?_; refine Zq ?_; refine Zm ?_; refine Zy ?_; refine Zf T ?_; refine Zy ?_; refine q_load_fz T (by exact rfl) (by exact rfl) (by exact rfl) (by assumption) (by exact rfl) ?_; refine Zy ?_; refine q_len_slice T (by exact rfl) (by exact rfl) (by exact rfl) ?_))
        (((refine Zy ?_)); (refine q_gtrD (by exact rfl) (by exact rfl) (fun c4 => ?_) (fun c4 => ?_)))
        · ((refine Zq ?_; refine Zu ?_; refine Seq.done ?_; refine Zc ?_; refine Wp.seq ?_; refine Wp.region ?_; refine Zq ?_; refine Za ?_; refine Seq.done ?_; refine Wp.ret ?_; refine thenR ?_))
          (exact ret1 rfl rfl (by repeat (first | exact List.Sublist.refl _ | exact List.nil_sublist _ | refine List.Sublist.cons_cons _ ?_ | refine List.Sublist.cons _ ?_)) (bool_false (fun h => by have := h.2.2.2.1; omega)))
        · ((refine Zq ?_; refine Zu ?_; refine Seq.done ?_; refine Zd ?_; refine Wp.skip ?_; refine thenN ?_; refine Wp.seq ?_; refine Wp.region ?_; refine Zq ?_; refine Zf T ?_; refine Zq ?_; refine q_load_fz T (by exact rfl) (by exact rfl) (by exact rfl) (by assumption) (by exact rfl) ?_))
          (((refine Zq ?_)); refine q_callB (by exact rfl) (by exact rfl) (containsGFluent_q (cap := []) gf (fun x cs _ => valid1_q x cs)) (fun f1 => ?_) (fun f1 => ?_))
          · ((refine Zq ?_; refine q_not (by exact rfl) ?_; refine Zq ?_; refine Zm ?_; refine Zn ?_; refine Zn ?_; refine Zn ?_; refine Zn ?_; refine Zn ?_; refine Zn ?_; refine Zq ?_; refine Zu ?_; refine Zq ?_; refine Zm ?_; refine Zn ?_; refine Zn ?_; refine Zn ?_; refine Zn ?_; refine Zn ?_; refine Zq ?_; refine Zu ?_; refine Zq ?_; refine Zm ?_; refine Zn ?_; refine Zn ?_; refine Zn ?_; refine Zn ?_; refine Zn ?_; refine Zq ?_; refine Zu ?_; refine Zq ?_; refine Za ?_; refine Seq.done ?_; refine Wp.ret ?_))
            (exact ret1 rfl rfl (by repeat (first | exact List.Sublist.refl _ | exact List.nil_sublist _ | refine List.Sublist.cons_cons _ ?_ | refine List.Sublist.cons _ ?_)) (bool_false (fun h => by obtain ⟨x, h1, h2⟩ := of_decide_eq_true f1; exact h2 (h.2.2.2.2.2.1 x h1))))
          · have k1 : ∀ x ∈ g.fluents, FluentOk x := fun x hx => Classical.byContradiction fun hc => of_decide_eq_false f1 ⟨x, hx, hc⟩
            ((refine Zq ?_; refine q_not (by exact rfl) ?_; refine Zq ?_; refine Zm ?_; refine Zy ?_; refine Zf T ?_; refine Zy ?_; refine q_load_fz T (by exact rfl) (by exact rfl) (by exact rfl) (by assumption) (by exact rfl) ?_; refine Zy ?_; refine Zf T ?_; refine Zy ?_; refine q_load_fz T (by exact rfl) (by exact rfl) (by exact rfl) (by assumption) (by exact rfl) ?_; refine Zy ?_; refine q_len_slice T (by exact rfl) (by exact rfl) (by exact rfl) ?_))
            (((refine Zy ?_)); refine q_callB (by exact rfl) (by exact rfl) (indices_q (m := g.atoms.length) gi) (fun f2 => ?_) (fun f2 => ?_))
            · ((refine Zq ?_; refine Zt ?_; refine Zq ?_; refine Zm ?_; refine Zy ?_; refine Zf T ?_; refine Zy ?_; refine q_load_fz T (by exact rfl) (by exact rfl) (by exact rfl) (by assumption) (by exact rfl) ?_))
              ((refine Zy ?_)); refine qg_makeFunc (by exact rfl) (by exact rfl) ?_
              (((refine Zy ?_)); refine q_callB (by exact rfl) (by exact rfl) (containsCond_q (cap := [.pointer (some ⟨g0, 0, none⟩)]) gg (fun x cs _ => valid2_q hg hx x cs)) (fun f3 => ?_) (fun f3 => ?_))
              · ((refine Zy ?_; refine q_not (by exact rfl) ?_; refine Zq ?_; refine Zt ?_; refine Zq ?_; refine Zm ?_; refine Zn ?_; refine Zn ?_; refine Zn ?_; refine Zn ?_; refine Zn ?_; refine Zq ?_; refine Zu ?_; refine Zq ?_; refine Za ?_; refine Seq.done ?_; refine Wp.ret ?_))
                (exact ret1 rfl rfl (by repeat (first | exact List.Sublist.refl _ | exact List.nil_sublist _ | refine List.Sublist.cons_cons _ ?_ | refine List.Sublist.cons _ ?_)) (bool_false (fun h => by obtain ⟨x, h1, h2⟩ := of_decide_eq_true f3; exact h2 (h.2.2.2.2.2.2.1 x h1))))
              · have k3 : ∀ x ∈ g.goal, CondOk g.atoms.length g.fluents.length x := fun x hx => Classical.byContradiction fun hc => of_decide_eq_false f3 ⟨x, hx, hc⟩
                ((refine Zy ?_; refine q_not (by exact rfl) ?_; refine Zq ?_; refine Zt ?_; refine Zq ?_; refine Zm ?_; refine Zy ?_; refine Zf T ?_; refine Zy ?_; refine q_load_fz T (by exact rfl) (by exact rfl) (by exact rfl) (by assumption) (by exact rfl) ?_))
                ((refine Zy ?_)); refine qg_makeFunc (by exact rfl) (by exact rfl) ?_
                (((refine Zy ?_)); refine q_callB (by exact rfl) (by exact rfl) (containsGOp_q (cap := [.pointer (some ⟨g0, 0, none⟩)]) go (fun x cs _ => valid3_q hg hx x cs)) (fun f4 => ?_) (fun f4 => ?_))
                · ((refine Zy ?_; refine q_not (by exact rfl) ?_; refine Zq ?_; refine Zt ?_; refine Zq ?_; refine Za ?_; refine Seq.done ?_; refine Wp.ret ?_))
                  (exact ret1 rfl rfl (by repeat (first | exact List.Sublist.refl _ | exact List.nil_sublist _ | refine List.Sublist.cons_cons _ ?_ | refine List.Sublist.cons _ ?_)) (bool_false (fun h => by obtain ⟨x, h1, h2⟩ := of_decide_eq_true f4; exact h2 (h.2.2.2.2.2.2.2 x h1))))
                · have k4 : ∀ x ∈ g.ops, OpOk g.atoms.length g.fluents.length x := fun x hx => Classical.byContradiction fun hc => of_decide_eq_false f4 ⟨x, hx, hc⟩
                  ((refine Zy ?_; refine q_not (by exact rfl) ?_; refine Zq ?_; refine Zt ?_; refine Zq ?_; refine Za ?_; refine Seq.done ?_; refine Wp.ret ?_))
                  (exact ret1 rfl rfl (by repeat (first | exact List.Sublist.refl _ | exact List.nil_sublist _ | refine List.Sublist.cons_cons _ ?_ | refine List.Sublist.cons _ ?_)) (bool_true ⟨by omega, by omega, by omega, by omega, of_decide_eq_true f2, k1, k3, k4⟩))
            · ((refine Zq ?_; refine Zt ?_; refine Zq ?_; refine Zm ?_; refine Zn ?_; refine Zn ?_; refine Zn ?_; refine Zn ?_; refine Zn ?_; refine Zq ?_; refine Zu ?_; refine Zq ?_; refine Zm ?_; refine Zn ?_; refine Zn ?_; refine Zn ?_; refine Zn ?_; refine Zn ?_; refine Zq ?_; refine Zu ?_; refine Zq ?_; refine Za ?_; refine Seq.done ?_; refine Wp.ret ?_))
              (exact ret1 rfl rfl (by repeat (first | exact List.Sublist.refl _ | exact List.nil_sublist _ | refine List.Sublist.cons_cons _ ?_ | refine List.Sublist.cons _ ?_)) (bool_false (fun h => of_decide_eq_false f2 h.2.2.2.2.1)))
theorem rvalid_q {fz : FZ} {g : GTask} {v1 v2 v3 v4 v5 : Value} (hg : GTaskR fz g v1 v2 v3 v4 v5) :
    QFn Tryz.prog 9 [gV v1 v2 v3 v4 v5] fz (.bool (decide (ValidP g))) := by
  (obtain ⟨A1, n1, cap1, rfl, ga⟩ := hg.atoms; obtain ⟨A2, n2, cap2, rfl, gf⟩ := hg.fluents; obtain ⟨A3, n3, cap3, rfl, gi⟩ := hg.init; obtain ⟨A4, n4, cap4, rfl, gg⟩ := hg.goal; obtain ⟨A5, n5, cap5, rfl, go⟩ := hg.ops; have e1 := ga.len; subst e1; have e2 := gf.len; subst e2)
  have l4 := gg.len
  have l5 := go.len
  have s2 := gf.short
  have s4 := gg.short
  have s5 := go.short
  refine GFn.quiet ?_
  (refine GFn.of_wp Tryz.func9 rfl Tryz.ntmps9 rfl rfl (fun w0 => ?_))
  (refine Wp.seq (Wp.region (Seq.stepK (by exact rfl) (k_box _ (by exact rfl) (by exact rfl) (fun g0 => ?_)))))
  ((refine Zq ?_; refine Za ?_; refine Seq.done ?_; refine Wp.seq ?_; refine Wp.seq ?_; refine Wp.region ?_; refine Zq ?_; refine Zf T ?_; refine Zq ?_; refine Zl T 0 ?_; refine Zq ?_; refine q_len_slice T (by exact rfl) (by exact rfl) (by exact rfl) ?_))
  (((refine Zq ?_)); (refine q_gtrD (by exact rfl) (by exact rfl) (fun c1 => ?_) (fun c1 => ?_)))
  · ((refine Zq ?_; refine Zm ?_; refine Zn ?_; refine Zn ?_; refine Zn ?_; refine Zn ?_; refine Zq ?_; refine Zt ?_; refine Zq ?_; refine Zm ?_; refine Zn ?_; refine Zn ?_; refine Zn ?_; refine Zn ?_; refine Zq ?_; refine Zt ?_; refine Zq ?_; refine Zm ?_; refine Zn ?_; refine Zn ?_; refine Zn ?_; refine Zn ?_; refine Zq ?_; refine Zt ?_; refine Zq ?_; refine Zm ?_; refine Zn ?_; refine Zn ?_; refine Zn ?_; refine Zn ?_; refine Zn ?_; refine Zn ?_; refine Zn ?_; refine Zq ?_; refine Zt ?_; refine Seq.done ?_; refine Zc ?_; refine Wp.seq ?_; refine Wp.region ?_; refine Zq ?_; refine Za ?_; refine Seq.done ?_; refine Wp.ret ?_; refine thenR ?_))
    (exact ret1 rfl rfl (by repeat (first | exact List.Sublist.refl _ | exact List.nil_sublist _ | refine List.Sublist.cons_cons _ ?_ | refine List.Sublist.cons _ ?_)) (bool_false (fun h => by have := h.1; omega)))
  · ((refine Zq ?_; refine Zm ?_; refine Zy ?_; refine Zf T ?_; refine Zy ?_; refine Zl T 0 ?_; refine Zy ?_; refine q_len_slice T (by exact rfl) (by exact rfl) (by exact rfl) ?_))
    (((refine Zy ?_)); (refine q_gtrD (by exact rfl) (by exact rfl) (fun c2 => ?_) (fun c2 => ?_)))
    · ((refine Zq ?_; refine Zu ?_; refine Zq ?_; refine Zm ?_; refine Zn ?_; refine Zn ?_; refine Zn ?_; refine Zn ?_; refine Zq ?_; refine Zt ?_; refine Zq ?_; refine Zm ?_; refine Zn ?_; refine Zn ?_; refine Zn ?_; refine Zn ?_; refine Zq ?_; refine Zt ?_; refine Zq ?_; refine Zm ?_; refine Zn ?_; refine Zn ?_; refine Zn ?_; refine Zn ?_; refine Zn ?_; refine Zn ?_; refine Zn ?_; refine Zq ?_; refine Zt ?_; refine Seq.done ?_; refine Zc ?_; refine Wp.seq ?_; refine Wp.region ?_; refine Zq ?_; refine Za ?_; refine Seq.done ?_; refine Wp.ret ?_; refine thenR ?_))
      (exact ret1 rfl rfl (by repeat (first | exact List.Sublist.refl _ | exact List.nil_sublist _ | refine List.Sublist.cons_cons _ ?_ | refine List.Sublist.cons _ ?_)) (bool_false (fun h => by have := h.2.1; omega)))
    · ((refine Zq ?_; refine Zu ?_; refine Zq ?_; refine Zm ?_; refine Zy ?_; refine Zf T ?_; refine Zy ?_; refine Zl T 0 ?_; refine Zy ?_; refine q_len_slice T (by exact rfl) (by exact rfl) (by exact rfl) ?_))
      (((refine Zy ?_)); (refine q_gtrD (by exact rfl) (by exact rfl) (fun c3 => ?_) (fun c3 => ?_)))
      · ((refine Zq ?_; refine Zu ?_; refine Zq ?_; refine Zm ?_; refine Zn ?_; refine Zn ?_; refine Zn ?_; refine Zn ?_; refine Zq ?_; refine Zt ?_; refine Zq ?_; refine Zm ?_; refine Zn ?_; refine Zn ?_; refine Zn ?_; refine Zn ?_; refine Zn ?_; refine Zn ?_; refine Zn ?_; refine Zq ?_; refine Zt ?_; refine Seq.done ?_; refine Zc ?_; refine Wp.seq ?_; refine Wp.region ?_; refine Zq ?_; refine Za ?_; refine Seq.done ?_; refine Wp.ret ?_; refine thenR ?_))
        (exact ret1 rfl rfl (by repeat (first | exact List.Sublist.refl _ | exact List.nil_sublist _ | refine List.Sublist.cons_cons _ ?_ | refine List.Sublist.cons _ ?_)) (bool_false (fun h => by have := h.2.2.1; omega)))
      · ((refine Zq ?_; refine Zu ?_; refine Zq ?_; refine Zm ?_; refine Zy ?_; refine Zf T ?_; refine Zy ?_; refine Zl T 0 ?_; refine Zy ?_; refine q_len_slice T (by exact rfl) (by exact rfl) (by exact rfl) ?_))
        (((refine Zy ?_)); (refine q_gtrD (by exact rfl) (by exact rfl) (fun c4 => ?_) (fun c4 => ?_)))
        · ((refine Zq ?_; refine Zu ?_; refine Zq ?_; refine Zm ?_; refine Zn ?_; refine Zn ?_; refine Zn ?_; refine Zn ?_; refine Zn ?_; refine Zn ?_; refine Zn ?_; refine Zq ?_; refine Zt ?_; refine Seq.done ?_; refine Zc ?_; refine Wp.seq ?_; refine Wp.region ?_; refine Zq ?_; refine Za ?_; refine Seq.done ?_; refine Wp.ret ?_; refine thenR ?_))
          (exact ret1 rfl rfl (by repeat (first | exact List.Sublist.refl _ | exact List.nil_sublist _ | refine List.Sublist.cons_cons _ ?_ | refine List.Sublist.cons _ ?_)) (bool_false (fun h => by have := h.2.2.2.1; omega)))
        · ((refine Zq ?_; refine Zu ?_; refine Zq ?_; refine Zm ?_; refine Zy ?_; refine Zf T ?_; refine Zy ?_; refine Zl T 0 ?_; refine Zy ?_; refine Zf T ?_; refine Zy ?_; refine Zl T 0 ?_; refine Zy ?_; refine q_len_slice T (by exact rfl) (by exact rfl) (by exact rfl) ?_))
          (((refine Zy ?_)); refine q_callB (by exact rfl) (by exact rfl) (ascending_q (m := g.atoms.length) gi) (fun f2 => ?_) (fun f2 => ?_))
          · ((refine Zy ?_; refine q_not (by exact rfl) ?_; refine Zq ?_; refine Zu ?_; refine Seq.done ?_; refine Zd ?_; refine Wp.skip ?_; refine thenN ?_; refine Wp.seq ?_; refine Wp.seq ?_; refine Wp.region ?_; refine Zq ?_; refine Za ?_; refine Seq.done ?_; refine Wp.block ?_))
            (refine Wp.loop (fun q σ fz' H' => ∃ k : Nat, k ≤ g.fluents.length ∧ q = g.fluents.length - k ∧ σ = [(3, .int .i64 k), (1, .pointer (some ⟨g0, 0, none⟩))] ∧ fz = fz' ∧ H' = [((g0, .cells #[.slice A1 g.atoms.length cap1, .slice A2 g.fluents.length cap2, .slice A3 n3 cap3, .slice A4 n4 cap4, .slice A5 n5 cap5] 28 (0, 0)))] ∧ (∀ i, i < k → ∀ x, g.fluents[i]? = some x → FluentOk x)) ⟨0, Nat.zero_le _, rfl, rfl, rfl, rfl, (fun i hi => absurd hi (by omega))⟩ (by repeat (first | exact trivial | refine ⟨by exact rfl, ?_⟩)) (by repeat (first | exact List.Sublist.refl _ | exact List.nil_sublist _ | refine List.Sublist.cons_cons _ ?_ | refine List.Sublist.cons _ ?_)) ?_; rintro q σ fz' H' ⟨k, hk, rfl, rfl, rfl, rfl, hh⟩)
            ((refine Wp.seq ?_; refine Wp.seq ?_; refine Wp.region ?_; refine Zq ?_; refine Zm ?_; refine Zq ?_; refine Zf T ?_; refine Zq ?_; refine Zl T 0 ?_; refine Zq ?_; refine q_len_slice T (by exact rfl) (by exact rfl) (by exact rfl) ?_))
            (((refine Zq ?_)); (refine q_lssD (by exact rfl) (by exact rfl) (fun hlt => ?_) (fun hge => ?_)))
            · ((refine Seq.done ?_; refine Zc ?_; refine Wp.skip ?_; refine thenN ?_; refine Wp.seq ?_; refine Wp.block ?_; refine Wp.seq ?_; refine Wp.region ?_; refine Zq ?_; refine Zf T ?_; refine Zq ?_; refine Zl T 0 ?_; refine Zq ?_; refine Zm ?_))
              obtain ⟨f, hf⟩ := get_some (l := g.fluents) (k := k) (by omega)
              (((refine Zq ?_)); refine q_index T k (by exact rfl) (by exact rfl) (by exact rfl) (by exact rfl) (by exact rfl) (by exact rfl) gf (by first | rfl | omega) hf (fun p hp => ?_))
              (((refine Zq ?_)); refine q_load_at T (by exact rfl) (by exact rfl) (by exact rfl) hp (by exact rfl) ?_)
              intro cs hcs
              obtain ⟨v, rfl, hR⟩ := gFluentL_open hcs
              obtain ⟨E1, r1, q1, rfl, _⟩ := hR.fluent.args
              have i1 := hR.lo
              have i2 := hR.hi
              unfold I64 at i1 i2
              have bad : ¬ FluentOk f → ¬ ValidP g := fun h hc => h (hc.2.2.2.2.2.1 f (List.mem_of_getElem? hf))
              ((refine Seq.stepK (by exact rfl) (k_alloc T (by exact rfl) (by exact rfl) (fun _ => ?_)); refine Seq.stepK0 (k_store0 T (by exact rfl) (by exact rfl) (by exact rfl) (by exact rfl) (by exact rfl) (by exact rfl) ?_); refine Seq.done ?_; refine Wp.seq ?_; refine Wp.region ?_; refine Zq ?_; refine Zf T ?_; refine Zq ?_; refine Zl T 0 ?_))
              (((refine Zq ?_)); (refine q_lssD (by exact rfl) (by exact rfl) (fun b1 => ?_) (fun b1 => ?_)))
              · ((refine Zq ?_; refine Zm ?_; refine Zn ?_; refine Zn ?_; refine Zn ?_; refine Zn ?_; refine Zn ?_; refine Zq ?_; refine Zt ?_; refine Zq ?_; refine Zm ?_; refine Zn ?_; refine Zn ?_; refine Zn ?_; refine Zn ?_; refine Zn ?_; refine Zq ?_; refine Zt ?_; refine Zq ?_; refine Zm ?_; refine Zn ?_; refine Zn ?_; refine Zn ?_; refine Zq ?_; refine Zt ?_; refine Zq ?_; refine Zm ?_; refine Zn ?_; refine Zn ?_; refine Zn ?_; refine Zn ?_; refine Zn ?_; refine Zn ?_; refine Zq ?_; refine Zt ?_; refine Seq.done ?_; refine Zc ?_; refine Wp.seq ?_; refine Wp.region ?_; refine Zq ?_; refine Za ?_; refine Seq.done ?_; refine Wp.ret ?_; refine blkR ?_; refine thenR ?_; refine loopR ?_; refine blkR ?_; refine thenR ?_))
                (exact ret1 rfl rfl (by repeat (first | exact List.Sublist.refl _ | exact List.nil_sublist _ | refine List.Sublist.cons_cons _ ?_ | refine List.Sublist.cons _ ?_)) (bool_false (bad (fun h => absurd h.1 (Int.not_le.2 b1)))))
              · ((refine Zq ?_; refine Zm ?_; refine Zy ?_; refine Zf T ?_; refine Zy ?_; refine Zl T 0 ?_; refine Zy ?_; refine Zf T ?_; refine Zy ?_; refine Zl T 0 ?_))
                (((refine Zy ?_)); (refine q_gtrD (by exact rfl) (by exact rfl) (fun b2 => ?_) (fun b2 => ?_)))
                · ((refine Zq ?_; refine Zu ?_; refine Zq ?_; refine Zm ?_; refine Zn ?_; refine Zn ?_; refine Zn ?_; refine Zn ?_; refine Zn ?_; refine Zq ?_; refine Zt ?_; refine Zq ?_; refine Zm ?_; refine Zn ?_; refine Zn ?_; refine Zn ?_; refine Zq ?_; refine Zt ?_; refine Zq ?_; refine Zm ?_; refine Zn ?_; refine Zn ?_; refine Zn ?_; refine Zn ?_; refine Zn ?_; refine Zn ?_; refine Zq ?_; refine Zt ?_; refine Seq.done ?_; refine Zc ?_; refine Wp.seq ?_; refine Wp.region ?_; refine Zq ?_; refine Za ?_; refine Seq.done ?_; refine Wp.ret ?_; refine blkR ?_; refine thenR ?_; refine loopR ?_; refine blkR ?_; refine thenR ?_))
                  (exact ret1 rfl rfl (by repeat (first | exact List.Sublist.refl _ | exact List.nil_sublist _ | refine List.Sublist.cons_cons _ ?_ | refine List.Sublist.cons _ ?_)) (bool_false (bad (fun h => absurd h.2.1 (Int.not_le.2 b2)))))
                · ((refine Zq ?_; refine Zu ?_; refine Zq ?_; refine Zm ?_; refine Zy ?_; refine Zf T ?_; refine Zy ?_; refine Zl T 0 ?_; refine Zy ?_; refine Zf T ?_; refine Zy ?_; refine Zl T 0 ?_))
                  (((refine Zy ?_)); (refine q_gtrD (by exact rfl) (by exact rfl) (fun b3 => ?_) (fun b3 => ?_)))
                  · ((refine Zq ?_; refine Zu ?_; refine Zq ?_; refine Zm ?_; refine Zn ?_; refine Zn ?_; refine Zn ?_; refine Zq ?_; refine Zt ?_; refine Zq ?_; refine Zm ?_; refine Zn ?_; refine Zn ?_; refine Zn ?_; refine Zn ?_; refine Zn ?_; refine Zn ?_; refine Zq ?_; refine Zt ?_; refine Seq.done ?_; refine Zc ?_; refine Wp.seq ?_; refine Wp.region ?_; refine Zq ?_; refine Za ?_; refine Seq.done ?_; refine Wp.ret ?_; refine blkR ?_; refine thenR ?_; refine loopR ?_; refine blkR ?_; refine thenR ?_))
                    (exact ret1 rfl rfl (by repeat (first | exact List.Sublist.refl _ | exact List.nil_sublist _ | refine List.Sublist.cons_cons _ ?_ | refine List.Sublist.cons _ ?_)) (bool_false (bad (fun h => absurd h.2.2.1 (Int.not_le.2 b3)))))
                  · ((refine Zq ?_; refine Zu ?_; refine Zq ?_; refine Zm ?_; refine Zy ?_; refine Zf T ?_; refine Zy ?_; refine Zl T 0 ?_))
                    (((refine Zy ?_)); (refine q_gtrD (by exact rfl) (by exact rfl) (fun b4 => ?_) (fun b4 => ?_)))
                    · ((refine Zq ?_; refine Zu ?_; refine Zq ?_; refine Zm ?_; refine Zn ?_; refine Zn ?_; refine Zn ?_; refine Zn ?_; refine Zn ?_; refine Zn ?_; refine Zq ?_; refine Zt ?_; refine Seq.done ?_; refine Zc ?_; refine Wp.seq ?_; refine Wp.region ?_; refine Zq ?_; refine Za ?_; refine Seq.done ?_; refine Wp.ret ?_; refine blkR ?_; refine thenR ?_; refine loopR ?_; refine blkR ?_; refine thenR ?_))
                      (exact ret1 rfl rfl (by repeat (first | exact List.Sublist.refl _ | exact List.nil_sublist _ | refine List.Sublist.cons_cons _ ?_ | refine List.Sublist.cons _ ?_)) (bool_false (bad (fun h => absurd h.2.2.2.1 (Int.not_le.2 b4)))))
                    · ((refine Zq ?_; refine Zu ?_; refine Zq ?_; refine Zm ?_; refine Zy ?_; refine Zf T ?_; refine Zy ?_; refine Zl T 0 ?_; refine Zy ?_; refine Zf T ?_; refine Zy ?_; refine Zl T 0 ?_; refine Zy ?_; refine q_sub (by exact rfl) (by exact rfl) (wrap_in (by omega)) ?_))
                      (((refine Zy ?_)); (refine q_geqD (by exact rfl) (by exact rfl) (fun b5 => ?_) (fun b5 => ?_)))
                      · ((refine Zq ?_; refine Zu ?_; refine Seq.done ?_; refine Zc ?_; refine Wp.seq ?_; refine Wp.region ?_; refine Zq ?_; refine Za ?_; refine Seq.done ?_; refine Wp.ret ?_; refine blkR ?_; refine thenR ?_; refine loopR ?_; refine blkR ?_; refine thenR ?_))
                        (exact ret1 rfl rfl (by repeat (first | exact List.Sublist.refl _ | exact List.nil_sublist _ | refine List.Sublist.cons_cons _ ?_ | refine List.Sublist.cons _ ?_)) (bool_false (bad (fun h => absurd h.2.2.2.2 (Int.not_lt.2 b5)))))
                      · ((refine Zq ?_; refine Zu ?_; refine Seq.done ?_; refine Zd ?_; refine Wp.skip ?_; refine blkN ?_; refine thenN ?_; refine Wp.region ?_; refine Zq ?_; refine Zm ?_; refine Zq ?_; refine q_add (by exact rfl) (by exact rfl) (wrap_in (by omega)) ?_; refine Zq ?_; refine Za ?_; refine Seq.end_ ?_))
                        (exact loopN ⟨k + 1, by omega, rfl, rfl, rfl, rfl, (all_next hh hf ⟨Int.not_lt.1 b1, Int.not_lt.1 b2, Int.not_lt.1 b3, Int.not_lt.1 b4, Int.not_le.1 b5⟩)⟩ (by omega) (by repeat (first | exact trivial | refine ⟨by exact rfl, ?_⟩)) (by repeat (first | exact List.Sublist.refl _ | exact List.nil_sublist _ | refine List.Sublist.cons_cons _ ?_ | refine List.Sublist.cons _ ?_)))
            · have k1 := all_of hh (by omega)
              clear hh
              ((refine Seq.done ?_; refine Zd ?_; refine Wp.exit ?_; refine thenX ?_; refine loopX ?_; refine blkX (by exact rfl) ?_; refine thenN ?_; refine Wp.seq ?_; refine Wp.seq ?_; refine Wp.region ?_; refine Zq ?_; refine Za ?_; refine Seq.done ?_; refine Wp.block ?_))
              (refine Wp.loop (fun q σ fz' H' => ∃ k : Nat, k ≤ n4 ∧ q = n4 - k ∧ σ = [(5, .int .i64 k), (1, .pointer (some ⟨g0, 0, none⟩))] ∧ fz = fz' ∧ H' = [((g0, .cells #[.slice A1 g.atoms.length cap1, .slice A2 g.fluents.length cap2, .slice A3 n3 cap3, .slice A4 n4 cap4, .slice A5 n5 cap5] 28 (0, 0)))] ∧ (∀ i, i < k → ∀ x, g.goal[i]? = some x → CondOk g.atoms.length g.fluents.length x)) ⟨0, Nat.zero_le _, rfl, rfl, rfl, rfl, (fun i hi => absurd hi (by omega))⟩ (by repeat (first | exact trivial | refine ⟨by exact rfl, ?_⟩)) (by repeat (first | exact List.Sublist.refl _ | exact List.nil_sublist _ | refine List.Sublist.cons_cons _ ?_ | refine List.Sublist.cons _ ?_)) ?_; rintro q σ fz' H' ⟨k, hk, rfl, rfl, rfl, rfl, hh⟩)
              ((refine Wp.seq ?_; refine Wp.seq ?_; refine Wp.region ?_; refine Zq ?_; refine Zm ?_; refine Zq ?_; refine Zf T ?_; refine Zq ?_; refine Zl T 0 ?_; refine Zq ?_; refine q_len_slice T (by exact rfl) (by exact rfl) (by exact rfl) ?_))
              (((refine Zq ?_)); (refine q_lssD (by exact rfl) (by exact rfl) (fun hlt => ?_) (fun hge2 => ?_)))
              · ((refine Seq.done ?_; refine Zc ?_; refine Wp.skip ?_; refine thenN ?_; refine Wp.seq ?_; refine Wp.block ?_; refine Wp.seq ?_; refine Wp.draw (by decide +kernel) T.mixed (by kernel_rfl) (by kernel_rfl) ?_; refine QL.q ?_; refine ZL T 0 ?_; refine QL.q ?_; refine Zf T ?_; refine QL.q ?_; refine Zl T 0 ?_; refine QL.q ?_; refine Zm ?_))
                obtain ⟨c, hc⟩ := get_some (l := g.goal) (k := k) (by omega)
                (((refine QL.q ?_)); refine q_index T k (by exact rfl) (by exact rfl) (by exact rfl) (by exact rfl) (by exact rfl) (by exact rfl) gg (by first | rfl | omega) hc (fun p hp => ?_))
                (((refine QL.q ?_)); refine q_load_at T (by exact rfl) (by exact rfl) (by exact rfl) hp (by exact rfl) ?_)
                intro cs hcs
                obtain ⟨u1, u2, u3, rfl, hR⟩ := condL_open hcs
                (skip)
                (((refine QL.q ?_)); refine q_callB (by exact rfl) (by exact rfl) (cond_q hg hR) (fun f3 => ?_) (fun f3 => ?_))
                · ((refine QL.q ?_; refine q_not (by exact rfl) ?_; refine QL.done ?_; refine thenN ?_; refine Zd ?_; refine Wp.skip ?_; refine blkN ?_; refine thenN ?_; refine Wp.region ?_; refine Zq ?_; refine Zm ?_; refine Zq ?_; refine q_add (by exact rfl) (by exact rfl) (wrap_in (by omega)) ?_; refine Zq ?_; refine Za ?_; refine Seq.end_ ?_))
                  (exact loopN ⟨k + 1, by omega, rfl, rfl, rfl, rfl, (all_next hh hc (of_decide_eq_true f3))⟩ (by omega) (by repeat (first | exact trivial | refine ⟨by exact rfl, ?_⟩)) (by repeat (first | exact List.Sublist.refl _ | exact List.nil_sublist _ | refine List.Sublist.cons_cons _ ?_ | refine List.Sublist.cons _ ?_)))
                · ((refine QL.q ?_; refine q_not (by exact rfl) ?_; refine QL.done ?_; refine thenN ?_; refine Zc ?_; refine Wp.seq ?_; refine Wp.region ?_; refine Zq ?_; refine Za ?_; refine Seq.done ?_; refine Wp.ret ?_; refine blkR ?_; refine thenR ?_; refine loopR ?_; refine blkR ?_; refine thenR ?_))
                  (exact ret1 rfl rfl (by repeat (first | exact List.Sublist.refl _ | exact List.nil_sublist _ | refine List.Sublist.cons_cons _ ?_ | refine List.Sublist.cons _ ?_)) (bool_false (fun h => of_decide_eq_false f3 (h.2.2.2.2.2.2.1 c (List.mem_of_getElem? hc)))))
              · have k3 := all_of hh (by omega)
                clear hh
                ((refine Seq.done ?_; refine Zd ?_; refine Wp.exit ?_; refine thenX ?_; refine loopX ?_; refine blkX (by exact rfl) ?_; refine thenN ?_; refine Wp.seq ?_; refine Wp.seq ?_; refine Wp.region ?_; refine Zq ?_; refine Za ?_; refine Seq.done ?_; refine Wp.block ?_))
                (refine Wp.loop (fun q σ fz' H' => ∃ k : Nat, k ≤ n5 ∧ q = n5 - k ∧ σ = [(6, .int .i64 k), (1, .pointer (some ⟨g0, 0, none⟩))] ∧ fz = fz' ∧ H' = [((g0, .cells #[.slice A1 g.atoms.length cap1, .slice A2 g.fluents.length cap2, .slice A3 n3 cap3, .slice A4 n4 cap4, .slice A5 n5 cap5] 28 (0, 0)))] ∧ (∀ i, i < k → ∀ x, g.ops[i]? = some x → OpOk g.atoms.length g.fluents.length x)) ⟨0, Nat.zero_le _, rfl, rfl, rfl, rfl, (fun i hi => absurd hi (by omega))⟩ (by repeat (first | exact trivial | refine ⟨by exact rfl, ?_⟩)) (by repeat (first | exact List.Sublist.refl _ | exact List.nil_sublist _ | refine List.Sublist.cons_cons _ ?_ | refine List.Sublist.cons _ ?_)) ?_; rintro q σ fz' H' ⟨k, hk, rfl, rfl, rfl, rfl, hh⟩)
                ((refine Wp.seq ?_; refine Wp.seq ?_; refine Wp.region ?_; refine Zq ?_; refine Zm ?_; refine Zq ?_; refine Zf T ?_; refine Zq ?_; refine Zl T 0 ?_; refine Zq ?_; refine q_len_slice T (by exact rfl) (by exact rfl) (by exact rfl) ?_))
                (((refine Zq ?_)); (refine q_lssD (by exact rfl) (by exact rfl) (fun hlt => ?_) (fun hge3 => ?_)))
                · ((refine Seq.done ?_; refine Zc ?_; refine Wp.skip ?_; refine thenN ?_; refine Wp.seq ?_; refine Wp.block ?_; refine Wp.seq ?_; refine Wp.draw (by decide +kernel) T.mixed (by kernel_rfl) (by kernel_rfl) ?_; refine QL.q ?_; refine ZL T 0 ?_; refine QL.q ?_; refine Zf T ?_; refine QL.q ?_; refine Zl T 0 ?_; refine QL.q ?_; refine Zm ?_))
                  obtain ⟨o, ho⟩ := get_some (l := g.ops) (k := k) (by omega)
                  (((refine QL.q ?_)); refine q_index T k (by exact rfl) (by exact rfl) (by exact rfl) (by exact rfl) (by exact rfl) (by exact rfl) go (by first | rfl | omega) ho (fun p hp => ?_))
                  (((refine QL.q ?_)); refine q_load_at T (by exact rfl) (by exact rfl) (by exact rfl) hp (by exact rfl) ?_)
                  intro cs hcs
                  obtain ⟨u1, u2, u3, u4, u5, rfl, hR⟩ := gOpL_open hcs
                  (skip)
                  (((refine QL.q ?_)); refine q_callB (by exact rfl) (by exact rfl) (roperator_q hg hR) (fun f3 => ?_) (fun f3 => ?_))
                  · ((refine QL.q ?_; refine q_not (by exact rfl) ?_; refine QL.done ?_; refine thenN ?_; refine Zd ?_; refine Wp.skip ?_; refine blkN ?_; refine thenN ?_; refine Wp.region ?_; refine Zq ?_; refine Zm ?_; refine Zq ?_; refine q_add (by exact rfl) (by exact rfl) (wrap_in (by omega)) ?_; refine Zq ?_; refine Za ?_; refine Seq.end_ ?_))
                    (exact loopN ⟨k + 1, by omega, rfl, rfl, rfl, rfl, (all_next hh ho (of_decide_eq_true f3))⟩ (by omega) (by repeat (first | exact trivial | refine ⟨by exact rfl, ?_⟩)) (by repeat (first | exact List.Sublist.refl _ | exact List.nil_sublist _ | refine List.Sublist.cons_cons _ ?_ | refine List.Sublist.cons _ ?_)))
                  · ((refine QL.q ?_; refine q_not (by exact rfl) ?_; refine QL.done ?_; refine thenN ?_; refine Zc ?_; refine Wp.seq ?_; refine Wp.region ?_; refine Zq ?_; refine Za ?_; refine Seq.done ?_; refine Wp.ret ?_; refine blkR ?_; refine thenR ?_; refine loopR ?_; refine blkR ?_; refine thenR ?_))
                    (exact ret1 rfl rfl (by repeat (first | exact List.Sublist.refl _ | exact List.nil_sublist _ | refine List.Sublist.cons_cons _ ?_ | refine List.Sublist.cons _ ?_)) (bool_false (fun h => of_decide_eq_false f3 (h.2.2.2.2.2.2.2 o (List.mem_of_getElem? ho)))))
                · ((refine Seq.done ?_; refine Zd ?_; refine Wp.exit ?_; refine thenX ?_; refine loopX ?_; refine blkX (by exact rfl) ?_; refine thenN ?_; refine Wp.seq ?_; refine Wp.region ?_; refine Zq ?_; refine Za ?_; refine Seq.done ?_; refine Wp.ret ?_))
                  (exact ret1 rfl rfl (by repeat (first | exact List.Sublist.refl _ | exact List.nil_sublist _ | refine List.Sublist.cons_cons _ ?_ | refine List.Sublist.cons _ ?_)) (bool_true ⟨by omega, by omega, by omega, by omega, of_decide_eq_true f2, k1, k3, all_of hh (by omega)⟩))
          · ((refine Zy ?_; refine q_not (by exact rfl) ?_; refine Zq ?_; refine Zu ?_; refine Seq.done ?_; refine Zc ?_; refine Wp.seq ?_; refine Wp.region ?_; refine Zq ?_; refine Za ?_; refine Seq.done ?_; refine Wp.ret ?_; refine thenR ?_))
            (exact ret1 rfl rfl (by repeat (first | exact List.Sublist.refl _ | exact List.nil_sublist _ | refine List.Sublist.cons_cons _ ?_ | refine List.Sublist.cons _ ?_)) (bool_false (fun h => of_decide_eq_false f2 h.2.2.2.2.1)))
end Go.Proofs.YtegmololhnipiaaGreatDoor
namespace Go.Proofs.YtegmololhnipiaaGreatDoor
open Go.Lx Go.Gr Go.RowKit
attribute [local instance 10] Classical.propDecidable
abbrev resV (o : Option Int) (z : Int) : Value := .tuple #[.int .i64 (o.getD z), .bool o.isSome]
theorem comb_some {op : ByteArray} {a b : Int} (h1 : -maxN ≤ combN op a b) (h2 : combN op a b ≤ maxN) : comb op a b = some (combN op a b) := by unfold comb; rw [if_pos ⟨h1, h2⟩]
theorem comb_none {op : ByteArray} {a b : Int} (h : ¬ (-maxN ≤ combN op a b ∧ combN op a b ≤ maxN)) : comb op a b = none := by unfold comb; rw [if_neg h]
theorem combN_plus {op : ByteArray} {a b : Int} (h : op = kPlus) : combN op a b = a + b := by unfold combN; rw [if_pos h]
theorem combN_minus {op : ByteArray} {a b : Int} (h : op = kMinus) : combN op a b = a - b := by
  unfold combN; rw [if_neg (by rw [h]; exact bytes_ne (by decide)), if_pos h]
theorem combN_times {op : ByteArray} {a b : Int} (h1 : ¬ op = kPlus) (h2 : ¬ op = kMinus) : combN op a b = a * b := by unfold combN; rw [if_neg h1, if_neg h2]
theorem res_some {op : ByteArray} {a b z : Int} (h1 : -maxN ≤ combN op a b) (h2 : combN op a b ≤ maxN) : Value.tuple #[.int .i64 (combN op a b), .bool true] = resV (comb op a b) z := by rw [comb_some h1 h2]; rfl
theorem res_none {op : ByteArray} {a b z : Int} (h : ¬ (-maxN ≤ combN op a b ∧ combN op a b ≤ maxN)) : Value.tuple #[.int .i64 z, .bool false] = resV (comb op a b) z := by rw [comb_none h]; rfl
theorem quo_in {a : Int} (h : a ≠ 0) : IntKind.i64.wrap ((1099511627776 : Int).tdiv (max a (-a))) = maxN / max a (-a) := by
  have hp : 0 < max a (-a) := by omega
  rw [Int.tdiv_eq_ediv_of_nonneg (by omega)]
  have h1 : 0 ≤ (1099511627776 : Int) / max a (-a) := Int.ediv_nonneg (by omega) (by omega)
  have h2 : (1099511627776 : Int) / max a (-a) ≤ 1099511627776 := Int.ediv_le_self _ (by omega)
  exact wrap_in (by omega)
theorem combine_q {fz : FZ} {op : ByteArray} {a b : Int} (ha : -1099511627776 ≤ a ∧ a ≤ 1099511627776) (hb : -1099511627776 ≤ b ∧ b ≤ 1099511627776) :
    ∃ z, QFn Tryz.prog 79 [.string op, .int .i64 a, .int .i64 b] fz (resV (comb op a b) z) := by
  by_cases hz : ¬ op = kPlus ∧ ¬ op = kMinus ∧ a ≠ 0 ∧ max b (-b) > maxN / max a (-a)
  · obtain ⟨z1, z2, z3, z4⟩ := hz
    refine ⟨0, GFn.quiet ?_⟩
    (refine GFn.of_wp Tryz.func79 rfl Tryz.ntmps79 rfl rfl (fun w0 => ?_))
    ((refine Wp.seq ?_; refine Wp.region ?_; refine Zq ?_; refine Za ?_; refine Zq ?_; refine Za ?_; refine Seq.done ?_; refine Wp.seq ?_; refine Wp.region ?_; refine Zq ?_; refine Za ?_; refine Seq.done ?_; refine Wp.seq ?_; refine Wp.seq ?_; refine Wp.region ?_; refine Zq ?_; refine Zm ?_; refine Seq.done ?_; refine Wp.block ?_; refine Wp.seq ?_; refine Wp.region ?_))
    (((refine Zq ?_)); (refine q_eql_strD (by exact rfl) (by exact rfl) (fun e1 => ?_) (fun x1 => ?_)))
    · exact absurd e1 z1
    · ((refine Zq ?_; refine Za ?_; refine Seq.done ?_; refine Zd ?_; refine Wp.seq ?_; refine Wp.region ?_))
      (((refine Zq ?_)); (refine q_eql_strD (by exact rfl) (by exact rfl) (fun e2 => ?_) (fun x2 => ?_)))
      · exact absurd e2 z2
      · ((refine Zq ?_; refine Za ?_; refine Seq.done ?_; refine Zd ?_; refine Wp.seq ?_; refine Wp.seq ?_; refine Wp.region ?_; refine Zq ?_; refine Zm ?_))
        (((refine Zq ?_)); (refine q_neqD (by exact rfl) (by exact rfl) (fun c1 => ?_) (fun c1 => ?_)))
        · ((refine Zq ?_; refine Zm ?_; refine Zy ?_; refine Zm ?_; refine Zy ?_; refine Zm ?_))
          ((refine Zy ?_)); refine qg_neg (by exact rfl) (wrap_in (by omega)) ?_
          ((refine Zy ?_; refine q_max (by exact rfl) (by exact rfl) ?_; refine Zy ?_; refine Zm ?_; refine Zy ?_; refine Zm ?_))
          ((refine Zy ?_)); refine qg_neg (by exact rfl) (wrap_in (by omega)) ?_
          ((refine Zy ?_; refine q_max (by exact rfl) (by exact rfl) ?_))
          ((refine Zy ?_)); refine qg_quo (by exact rfl) (by exact rfl) (by omega) (quo_in z3) ?_
          (((refine Zy ?_)); (refine q_gtrD (by exact rfl) (by exact rfl) (fun c2 => ?_) (fun c2 => ?_)))
          · ((refine Zq ?_; refine Zt ?_; refine Seq.done ?_; refine Zc ?_; refine Wp.seq ?_; refine Wp.region ?_; refine Zq ?_; refine Za ?_; refine Zq ?_; refine Za ?_; refine Seq.done ?_; refine Wp.ret ?_; refine thenR ?_; refine blkR ?_; refine thenR ?_))
            exact ret2 rfl rfl rfl (by repeat (first | exact List.Sublist.refl _ | exact List.nil_sublist _ | refine List.Sublist.cons_cons _ ?_ | refine List.Sublist.cons _ ?_)) (res_none (by rw [combN_times z1 z2]; exact (mul_guard z3).1 z4))
          · exact absurd z4 c2
        · exact absurd c1 z3
  · have hm : ¬ op = kPlus → ¬ op = kMinus → -1099511627776 ≤ a * b ∧ a * b ≤ 1099511627776 := fun h1 h2 => by
      by_cases h0 : a = 0
      · rw [h0, Int.zero_mul]; omega
      · exact Classical.byContradiction fun hc => hz ⟨h1, h2, h0, (mul_guard h0).2 hc⟩
    refine ⟨combN op a b, GFn.quiet ?_⟩
    (refine GFn.of_wp Tryz.func79 rfl Tryz.ntmps79 rfl rfl (fun w0 => ?_))
    ((refine Wp.seq ?_; refine Wp.region ?_; refine Zq ?_; refine Za ?_; refine Zq ?_; refine Za ?_; refine Seq.done ?_; refine Wp.seq ?_; refine Wp.region ?_; refine Zq ?_; refine Za ?_; refine Seq.done ?_; refine Wp.seq ?_; refine Wp.seq ?_; refine Wp.region ?_; refine Zq ?_; refine Zm ?_; refine Seq.done ?_; refine Wp.block ?_; refine Wp.seq ?_; refine Wp.region ?_))
    (((refine Zq ?_)); (refine q_eql_strD (by exact rfl) (by exact rfl) (fun e1 => ?_) (fun x1 => ?_)))
    · have hn := combN_plus (a := a) (b := b) e1
      ((refine Zq ?_; refine Za ?_; refine Seq.done ?_; refine Zc ?_; refine Wp.region ?_; refine Zq ?_; refine Zm ?_; refine Zq ?_; refine Zm ?_; refine Zq ?_; refine q_add (by exact rfl) (by exact rfl) (wrap_in (by omega)) ?_; refine Zq ?_; refine Za ?_; refine Seq.end_ ?_; refine blkN ?_; refine thenN ?_; refine Wp.seq ?_; refine Wp.region ?_; refine Zq ?_; refine Zm ?_; refine Zq ?_; refine Zm ?_))
      (((refine Zq ?_)); (refine q_geqD (by exact rfl) (by exact rfl) (fun c3 => ?_) (fun c3 => ?_)))
      · ((refine Zq ?_; refine Zm ?_; refine Zy ?_; refine Zm ?_))
        (((refine Zy ?_)); (refine q_leqD (by exact rfl) (by exact rfl) (fun c4 => ?_) (fun c4 => ?_)))
        · ((refine Zq ?_; refine Zt ?_; refine Zq ?_; refine Za ?_; refine Zq ?_; refine Za ?_; refine Seq.done ?_; refine Wp.ret ?_))
          exact ret2 rfl rfl rfl (by repeat (first | exact List.Sublist.refl _ | exact List.nil_sublist _ | refine List.Sublist.cons_cons _ ?_ | refine List.Sublist.cons _ ?_)) (by rw [← hn]; exact res_some (by rw [hn]; exact c3) (by rw [hn]; exact c4))
        · ((refine Zq ?_; refine Zt ?_; refine Zq ?_; refine Za ?_; refine Zq ?_; refine Za ?_; refine Seq.done ?_; refine Wp.ret ?_))
          exact ret2 rfl rfl rfl (by repeat (first | exact List.Sublist.refl _ | exact List.nil_sublist _ | refine List.Sublist.cons_cons _ ?_ | refine List.Sublist.cons _ ?_)) (by rw [← hn]; exact res_none (by rw [hn]; exact fun h => c4 h.2))
      · ((refine Zq ?_; refine Zm ?_; refine Zn ?_; refine Zn ?_; refine Zq ?_; refine Zu ?_; refine Zq ?_; refine Za ?_; refine Zq ?_; refine Za ?_; refine Seq.done ?_; refine Wp.ret ?_))
        exact ret2 rfl rfl rfl (by repeat (first | exact List.Sublist.refl _ | exact List.nil_sublist _ | refine List.Sublist.cons_cons _ ?_ | refine List.Sublist.cons _ ?_)) (by rw [← hn]; exact res_none (by rw [hn]; exact fun h => c3 h.1))
    · ((refine Zq ?_; refine Za ?_; refine Seq.done ?_; refine Zd ?_; refine Wp.seq ?_; refine Wp.region ?_))
      (((refine Zq ?_)); (refine q_eql_strD (by exact rfl) (by exact rfl) (fun e2 => ?_) (fun x2 => ?_)))
      · have hn := combN_minus (a := a) (b := b) e2
        ((refine Zq ?_; refine Za ?_; refine Seq.done ?_; refine Zc ?_; refine Wp.region ?_; refine Zq ?_; refine Zm ?_; refine Zq ?_; refine Zm ?_; refine Zq ?_; refine q_sub (by exact rfl) (by exact rfl) (wrap_in (by omega)) ?_; refine Zq ?_; refine Za ?_; refine Seq.end_ ?_; refine blkN ?_; refine thenN ?_; refine Wp.seq ?_; refine Wp.region ?_; refine Zq ?_; refine Zm ?_; refine Zq ?_; refine Zm ?_))
        (((refine Zq ?_)); (refine q_geqD (by exact rfl) (by exact rfl) (fun c3 => ?_) (fun c3 => ?_)))
        · ((refine Zq ?_; refine Zm ?_; refine Zy ?_; refine Zm ?_))
          (((refine Zy ?_)); (refine q_leqD (by exact rfl) (by exact rfl) (fun c4 => ?_) (fun c4 => ?_)))
          · ((refine Zq ?_; refine Zt ?_; refine Zq ?_; refine Za ?_; refine Zq ?_; refine Za ?_; refine Seq.done ?_; refine Wp.ret ?_))
            exact ret2 rfl rfl rfl (by repeat (first | exact List.Sublist.refl _ | exact List.nil_sublist _ | refine List.Sublist.cons_cons _ ?_ | refine List.Sublist.cons _ ?_)) (by rw [← hn]; exact res_some (by rw [hn]; exact c3) (by rw [hn]; exact c4))
          · ((refine Zq ?_; refine Zt ?_; refine Zq ?_; refine Za ?_; refine Zq ?_; refine Za ?_; refine Seq.done ?_; refine Wp.ret ?_))
            exact ret2 rfl rfl rfl (by repeat (first | exact List.Sublist.refl _ | exact List.nil_sublist _ | refine List.Sublist.cons_cons _ ?_ | refine List.Sublist.cons _ ?_)) (by rw [← hn]; exact res_none (by rw [hn]; exact fun h => c4 h.2))
        · ((refine Zq ?_; refine Zm ?_; refine Zn ?_; refine Zn ?_; refine Zq ?_; refine Zu ?_; refine Zq ?_; refine Za ?_; refine Zq ?_; refine Za ?_; refine Seq.done ?_; refine Wp.ret ?_))
          exact ret2 rfl rfl rfl (by repeat (first | exact List.Sublist.refl _ | exact List.nil_sublist _ | refine List.Sublist.cons_cons _ ?_ | refine List.Sublist.cons _ ?_)) (by rw [← hn]; exact res_none (by rw [hn]; exact fun h => c3 h.1))
      · have hn := combN_times (a := a) (b := b) x1 x2
        have hmr := hm x1 x2
        ((refine Zq ?_; refine Za ?_; refine Seq.done ?_; refine Zd ?_; refine Wp.seq ?_; refine Wp.seq ?_; refine Wp.region ?_; refine Zq ?_; refine Zm ?_))
        (((refine Zq ?_)); (refine q_neqD (by exact rfl) (by exact rfl) (fun c1 => ?_) (fun c1 => ?_)))
        · ((refine Zq ?_; refine Zm ?_; refine Zy ?_; refine Zm ?_; refine Zy ?_; refine Zm ?_))
          ((refine Zy ?_)); refine qg_neg (by exact rfl) (wrap_in (by omega)) ?_
          ((refine Zy ?_; refine q_max (by exact rfl) (by exact rfl) ?_; refine Zy ?_; refine Zm ?_; refine Zy ?_; refine Zm ?_))
          ((refine Zy ?_)); refine qg_neg (by exact rfl) (wrap_in (by omega)) ?_
          ((refine Zy ?_; refine q_max (by exact rfl) (by exact rfl) ?_))
          ((refine Zy ?_)); refine qg_quo (by exact rfl) (by exact rfl) (by omega) (quo_in c1) ?_
          (((refine Zy ?_)); (refine q_gtrD (by exact rfl) (by exact rfl) (fun c2 => ?_) (fun c2 => ?_)))
          · exact absurd ⟨x1, x2, c1, c2⟩ hz
          · ((refine Zq ?_; refine Zt ?_; refine Seq.done ?_; refine Zd ?_; refine Wp.skip ?_; refine thenN ?_; refine Wp.region ?_; refine Zq ?_; refine Zm ?_; refine Zq ?_; refine Zm ?_))
            ((refine Zq ?_)); refine q_mul (by exact rfl) (by exact rfl) (wrap_in (by omega)) ?_
            ((refine Zq ?_; refine Za ?_; refine Seq.end_ ?_; refine blkN ?_; refine thenN ?_; refine Wp.seq ?_; refine Wp.region ?_; refine Zq ?_; refine Zm ?_; refine Zq ?_; refine Zm ?_))
            (((refine Zq ?_)); (refine q_geqD (by exact rfl) (by exact rfl) (fun c3 => ?_) (fun c3 => ?_)))
            · ((refine Zq ?_; refine Zm ?_; refine Zy ?_; refine Zm ?_))
              (((refine Zy ?_)); (refine q_leqD (by exact rfl) (by exact rfl) (fun c4 => ?_) (fun c4 => ?_)))
              · ((refine Zq ?_; refine Zt ?_; refine Zq ?_; refine Za ?_; refine Zq ?_; refine Za ?_; refine Seq.done ?_; refine Wp.ret ?_))
                exact ret2 rfl rfl rfl (by repeat (first | exact List.Sublist.refl _ | exact List.nil_sublist _ | refine List.Sublist.cons_cons _ ?_ | refine List.Sublist.cons _ ?_)) (by rw [← hn]; exact res_some (by rw [hn]; exact c3) (by rw [hn]; exact c4))
              · ((refine Zq ?_; refine Zt ?_; refine Zq ?_; refine Za ?_; refine Zq ?_; refine Za ?_; refine Seq.done ?_; refine Wp.ret ?_))
                exact ret2 rfl rfl rfl (by repeat (first | exact List.Sublist.refl _ | exact List.nil_sublist _ | refine List.Sublist.cons_cons _ ?_ | refine List.Sublist.cons _ ?_)) (by rw [← hn]; exact res_none (by rw [hn]; exact fun h => c4 h.2))
            · ((refine Zq ?_; refine Zm ?_; refine Zn ?_; refine Zn ?_; refine Zq ?_; refine Zu ?_; refine Zq ?_; refine Za ?_; refine Zq ?_; refine Za ?_; refine Seq.done ?_; refine Wp.ret ?_))
              exact ret2 rfl rfl rfl (by repeat (first | exact List.Sublist.refl _ | exact List.nil_sublist _ | refine List.Sublist.cons_cons _ ?_ | refine List.Sublist.cons _ ?_)) (by rw [← hn]; exact res_none (by rw [hn]; exact fun h => c3 h.1))
        · ((refine Zq ?_; refine Zm ?_; refine Zn ?_; refine Zn ?_; refine Zn ?_; refine Zn ?_; refine Zn ?_; refine Zn ?_; refine Zn ?_; refine Zn ?_; refine Zn ?_; refine Zn ?_; refine Zq ?_; refine Zu ?_; refine Seq.done ?_; refine Zd ?_; refine Wp.skip ?_; refine thenN ?_; refine Wp.region ?_; refine Zq ?_; refine Zm ?_; refine Zq ?_; refine Zm ?_))
          ((refine Zq ?_)); refine q_mul (by exact rfl) (by exact rfl) (wrap_in (by omega)) ?_
          ((refine Zq ?_; refine Za ?_; refine Seq.end_ ?_; refine blkN ?_; refine thenN ?_; refine Wp.seq ?_; refine Wp.region ?_; refine Zq ?_; refine Zm ?_; refine Zq ?_; refine Zm ?_))
          (((refine Zq ?_)); (refine q_geqD (by exact rfl) (by exact rfl) (fun c3 => ?_) (fun c3 => ?_)))
          · ((refine Zq ?_; refine Zm ?_; refine Zy ?_; refine Zm ?_))
            (((refine Zy ?_)); (refine q_leqD (by exact rfl) (by exact rfl) (fun c4 => ?_) (fun c4 => ?_)))
            · ((refine Zq ?_; refine Zt ?_; refine Zq ?_; refine Za ?_; refine Zq ?_; refine Za ?_; refine Seq.done ?_; refine Wp.ret ?_))
              exact ret2 rfl rfl rfl (by repeat (first | exact List.Sublist.refl _ | exact List.nil_sublist _ | refine List.Sublist.cons_cons _ ?_ | refine List.Sublist.cons _ ?_)) (by rw [← hn]; exact res_some (by rw [hn]; exact c3) (by rw [hn]; exact c4))
            · ((refine Zq ?_; refine Zt ?_; refine Zq ?_; refine Za ?_; refine Zq ?_; refine Za ?_; refine Seq.done ?_; refine Wp.ret ?_))
              exact ret2 rfl rfl rfl (by repeat (first | exact List.Sublist.refl _ | exact List.nil_sublist _ | refine List.Sublist.cons_cons _ ?_ | refine List.Sublist.cons _ ?_)) (by rw [← hn]; exact res_none (by rw [hn]; exact fun h => c4 h.2))
          · ((refine Zq ?_; refine Zm ?_; refine Zn ?_; refine Zn ?_; refine Zq ?_; refine Zu ?_; refine Zq ?_; refine Za ?_; refine Zq ?_; refine Za ?_; refine Seq.done ?_; refine Wp.ret ?_))
            exact ret2 rfl rfl rfl (by repeat (first | exact List.Sublist.refl _ | exact List.nil_sublist _ | refine List.Sublist.cons_cons _ ?_ | refine List.Sublist.cons _ ?_)) (by rw [← hn]; exact res_none (by rw [hn]; exact fun h => c3 h.1))
theorem rcombine_q {fz : FZ} {op : ByteArray} {a b : Int} (hop : op = kPlus ∨ op = kMinus ∨ op = kTimes) (ha : -1099511627776 ≤ a ∧ a ≤ 1099511627776) (hb : -1099511627776 ≤ b ∧ b ≤ 1099511627776) :
    QFn Tryz.prog 57 [.string op, .int .i64 a, .int .i64 b] fz (resV (comb op a b) 0) := by
  refine GFn.quiet ?_
  (refine GFn.of_wp Tryz.func57 rfl Tryz.ntmps57 rfl rfl (fun w0 => ?_))
  ((refine Wp.seq ?_; refine Wp.region ?_; refine Zq ?_; refine Za ?_; refine Zq ?_; refine Za ?_; refine Seq.done ?_; refine Wp.seq ?_; refine Wp.region ?_; refine Zq ?_; refine Zm ?_; refine Zq ?_; refine Zm ?_; refine Zq ?_; refine q_add (by exact rfl) (by exact rfl) (wrap_in (by omega)) ?_; refine Zq ?_; refine Za ?_; refine Seq.done ?_; refine Wp.seq ?_; refine Wp.seq ?_; refine Wp.region ?_; refine Zq ?_; refine Zm ?_; refine Seq.done ?_; refine Wp.block ?_; refine Wp.seq ?_; refine Wp.region ?_))
  (((refine Zq ?_)); (refine q_eql_strD (by exact rfl) (by exact rfl) (fun e2 => ?_) (fun x2 => ?_)))
  · have hn := combN_minus (a := a) (b := b) e2
    ((refine Zq ?_; refine Za ?_; refine Seq.done ?_; refine Zc ?_; refine Wp.region ?_; refine Zq ?_; refine Zm ?_; refine Zq ?_; refine Zm ?_; refine Zq ?_; refine q_sub (by exact rfl) (by exact rfl) (wrap_in (by omega)) ?_; refine Zq ?_; refine Za ?_; refine Seq.end_ ?_; refine blkN ?_; refine thenN ?_; refine Wp.seq ?_; refine Wp.seq ?_; refine Wp.region ?_; refine Zq ?_; refine Zm ?_))
    (((refine Zq ?_)); (refine q_lssD (by exact rfl) (by exact rfl) (fun c3 => ?_) (fun c3 => ?_)))
    · ((refine Zq ?_; refine Zm ?_; refine Zn ?_; refine Zn ?_; refine Zq ?_; refine Zt ?_; refine Seq.done ?_; refine Zc ?_; refine Wp.seq ?_; refine Wp.region ?_; refine Zq ?_; refine Za ?_; refine Zq ?_; refine Za ?_; refine Seq.done ?_; refine Wp.ret ?_; refine thenR ?_))
      exact ret2 rfl rfl rfl (by repeat (first | exact List.Sublist.refl _ | exact List.nil_sublist _ | refine List.Sublist.cons_cons _ ?_ | refine List.Sublist.cons _ ?_)) (res_none (by rw [hn]; exact fun h => absurd h.1 (Int.not_le.2 c3)))
    · ((refine Zq ?_; refine Zm ?_; refine Zy ?_; refine Zm ?_))
      (((refine Zy ?_)); (refine q_gtrD (by exact rfl) (by exact rfl) (fun c4 => ?_) (fun c4 => ?_)))
      · ((refine Zq ?_; refine Zu ?_; refine Seq.done ?_; refine Zc ?_; refine Wp.seq ?_; refine Wp.region ?_; refine Zq ?_; refine Za ?_; refine Zq ?_; refine Za ?_; refine Seq.done ?_; refine Wp.ret ?_; refine thenR ?_))
        exact ret2 rfl rfl rfl (by repeat (first | exact List.Sublist.refl _ | exact List.nil_sublist _ | refine List.Sublist.cons_cons _ ?_ | refine List.Sublist.cons _ ?_)) (res_none (by rw [hn]; exact fun h => absurd h.2 (Int.not_le.2 c4)))
      · ((refine Zq ?_; refine Zu ?_; refine Seq.done ?_; refine Zd ?_; refine Wp.skip ?_; refine thenN ?_; refine Wp.seq ?_; refine Wp.region ?_; refine Zq ?_; refine Zm ?_; refine Zq ?_; refine Za ?_; refine Zq ?_; refine Za ?_; refine Seq.done ?_; refine Wp.ret ?_))
        exact ret2 rfl rfl rfl (by repeat (first | exact List.Sublist.refl _ | exact List.nil_sublist _ | refine List.Sublist.cons_cons _ ?_ | refine List.Sublist.cons _ ?_)) (by rw [← hn]; exact res_some (by rw [hn]; exact Int.not_lt.1 c3) (by rw [hn]; exact Int.not_lt.1 c4))
  · ((refine Zq ?_; refine Za ?_; refine Seq.done ?_; refine Zd ?_; refine Wp.seq ?_; refine Wp.region ?_))
    (((refine Zq ?_)); (refine q_eql_strD (by exact rfl) (by exact rfl) (fun e3 => ?_) (fun x3 => ?_)))
    · have x1 : ¬ op = kPlus := fun h => absurd (h.symm.trans e3) (bytes_ne (by decide))
      have hn := combN_times (a := a) (b := b) x1 x2
      ((refine Zq ?_; refine Za ?_; refine Seq.done ?_; refine Zc ?_; refine Wp.seq ?_; refine Wp.seq ?_; refine Wp.region ?_; refine Zq ?_; refine Zm ?_; refine Zq ?_; refine Zm ?_))
      ((refine Zq ?_)); refine qg_neg (by exact rfl) (wrap_in (by omega)) ?_
      ((refine Zq ?_; refine q_max (by exact rfl) (by exact rfl) ?_; refine Zq ?_; refine Za ?_; refine Seq.done ?_; refine Wp.seq ?_; refine Wp.region ?_; refine Zq ?_; refine Zm ?_))
      (((refine Zq ?_)); (refine q_neqD (by exact rfl) (by exact rfl) (fun c1 => ?_) (fun c1 => ?_)))
      · have h0 : a ≠ 0 := by omega
        ((refine Zq ?_; refine Zm ?_; refine Zy ?_; refine Zm ?_; refine Zy ?_; refine Zm ?_))
        ((refine Zy ?_)); refine qg_neg (by exact rfl) (wrap_in (by omega)) ?_
        ((refine Zy ?_; refine q_max (by exact rfl) (by exact rfl) ?_; refine Zy ?_; refine Zm ?_))
        ((refine Zy ?_)); refine qg_quo (by exact rfl) (by exact rfl) (by omega) (quo_in h0) ?_
        (((refine Zy ?_)); (refine q_gtrD (by exact rfl) (by exact rfl) (fun c2 => ?_) (fun c2 => ?_)))
        · ((refine Zq ?_; refine Zt ?_; refine Seq.done ?_; refine Zc ?_; refine Wp.seq ?_; refine Wp.region ?_; refine Zq ?_; refine Za ?_; refine Zq ?_; refine Za ?_; refine Seq.done ?_; refine Wp.ret ?_; refine thenR ?_; refine blkR ?_; refine thenR ?_))
          exact ret2 rfl rfl rfl (by repeat (first | exact List.Sublist.refl _ | exact List.nil_sublist _ | refine List.Sublist.cons_cons _ ?_ | refine List.Sublist.cons _ ?_)) (res_none (by rw [hn]; exact (mul_guard h0).1 c2))
        · have hmr : -1099511627776 ≤ a * b ∧ a * b ≤ 1099511627776 := Classical.byContradiction fun hc => c2 ((mul_guard h0).2 hc)
          ((refine Zq ?_; refine Zt ?_; refine Seq.done ?_; refine Zd ?_; refine Wp.skip ?_; refine thenN ?_; refine Wp.region ?_; refine Zq ?_; refine Zm ?_; refine Zq ?_; refine Zm ?_))
          ((refine Zq ?_)); refine q_mul (by exact rfl) (by exact rfl) (wrap_in (by omega)) ?_
          ((refine Zq ?_; refine Za ?_; refine Seq.end_ ?_; refine blkN ?_; refine thenN ?_; refine Wp.seq ?_; refine Wp.seq ?_; refine Wp.region ?_; refine Zq ?_; refine Zm ?_))
          (((refine Zq ?_)); (refine q_lssD (by exact rfl) (by exact rfl) (fun c3 => ?_) (fun c3 => ?_)))
          · ((refine Zq ?_; refine Zm ?_; refine Zn ?_; refine Zn ?_; refine Zq ?_; refine Zt ?_; refine Seq.done ?_; refine Zc ?_; refine Wp.seq ?_; refine Wp.region ?_; refine Zq ?_; refine Za ?_; refine Zq ?_; refine Za ?_; refine Seq.done ?_; refine Wp.ret ?_; refine thenR ?_))
            exact ret2 rfl rfl rfl (by repeat (first | exact List.Sublist.refl _ | exact List.nil_sublist _ | refine List.Sublist.cons_cons _ ?_ | refine List.Sublist.cons _ ?_)) (res_none (by rw [hn]; exact fun h => absurd h.1 (Int.not_le.2 c3)))
          · ((refine Zq ?_; refine Zm ?_; refine Zy ?_; refine Zm ?_))
            (((refine Zy ?_)); (refine q_gtrD (by exact rfl) (by exact rfl) (fun c4 => ?_) (fun c4 => ?_)))
            · ((refine Zq ?_; refine Zu ?_; refine Seq.done ?_; refine Zc ?_; refine Wp.seq ?_; refine Wp.region ?_; refine Zq ?_; refine Za ?_; refine Zq ?_; refine Za ?_; refine Seq.done ?_; refine Wp.ret ?_; refine thenR ?_))
              exact ret2 rfl rfl rfl (by repeat (first | exact List.Sublist.refl _ | exact List.nil_sublist _ | refine List.Sublist.cons_cons _ ?_ | refine List.Sublist.cons _ ?_)) (res_none (by rw [hn]; exact fun h => absurd h.2 (Int.not_le.2 c4)))
            · ((refine Zq ?_; refine Zu ?_; refine Seq.done ?_; refine Zd ?_; refine Wp.skip ?_; refine thenN ?_; refine Wp.seq ?_; refine Wp.region ?_; refine Zq ?_; refine Zm ?_; refine Zq ?_; refine Za ?_; refine Zq ?_; refine Za ?_; refine Seq.done ?_; refine Wp.ret ?_))
              exact ret2 rfl rfl rfl (by repeat (first | exact List.Sublist.refl _ | exact List.nil_sublist _ | refine List.Sublist.cons_cons _ ?_ | refine List.Sublist.cons _ ?_)) (by rw [← hn]; exact res_some (by rw [hn]; exact Int.not_lt.1 c3) (by rw [hn]; exact Int.not_lt.1 c4))
      · have h0 : a = 0 := by omega
        have hmr : a * b = 0 := by rw [h0, Int.zero_mul]
        ((refine Zq ?_; refine Zm ?_; refine Zn ?_; refine Zn ?_; refine Zn ?_; refine Zn ?_; refine Zn ?_; refine Zn ?_; refine Zn ?_; refine Zq ?_; refine Zu ?_; refine Seq.done ?_; refine Zd ?_; refine Wp.skip ?_; refine thenN ?_; refine Wp.region ?_; refine Zq ?_; refine Zm ?_; refine Zq ?_; refine Zm ?_))
        ((refine Zq ?_)); refine q_mul (by exact rfl) (by exact rfl) (wrap_in (by omega)) ?_
        ((refine Zq ?_; refine Za ?_; refine Seq.end_ ?_; refine blkN ?_; refine thenN ?_; refine Wp.seq ?_; refine Wp.seq ?_; refine Wp.region ?_; refine Zq ?_; refine Zm ?_))
        (((refine Zq ?_)); (refine q_lssD (by exact rfl) (by exact rfl) (fun c3 => ?_) (fun c3 => ?_)))
        · ((refine Zq ?_; refine Zm ?_; refine Zn ?_; refine Zn ?_; refine Zq ?_; refine Zt ?_; refine Seq.done ?_; refine Zc ?_; refine Wp.seq ?_; refine Wp.region ?_; refine Zq ?_; refine Za ?_; refine Zq ?_; refine Za ?_; refine Seq.done ?_; refine Wp.ret ?_; refine thenR ?_))
          exact ret2 rfl rfl rfl (by repeat (first | exact List.Sublist.refl _ | exact List.nil_sublist _ | refine List.Sublist.cons_cons _ ?_ | refine List.Sublist.cons _ ?_)) (res_none (by rw [hn]; exact fun h => absurd h.1 (Int.not_le.2 c3)))
        · ((refine Zq ?_; refine Zm ?_; refine Zy ?_; refine Zm ?_))
          (((refine Zy ?_)); (refine q_gtrD (by exact rfl) (by exact rfl) (fun c4 => ?_) (fun c4 => ?_)))
          · ((refine Zq ?_; refine Zu ?_; refine Seq.done ?_; refine Zc ?_; refine Wp.seq ?_; refine Wp.region ?_; refine Zq ?_; refine Za ?_; refine Zq ?_; refine Za ?_; refine Seq.done ?_; refine Wp.ret ?_; refine thenR ?_))
            exact ret2 rfl rfl rfl (by repeat (first | exact List.Sublist.refl _ | exact List.nil_sublist _ | refine List.Sublist.cons_cons _ ?_ | refine List.Sublist.cons _ ?_)) (res_none (by rw [hn]; exact fun h => absurd h.2 (Int.not_le.2 c4)))
          · ((refine Zq ?_; refine Zu ?_; refine Seq.done ?_; refine Zd ?_; refine Wp.skip ?_; refine thenN ?_; refine Wp.seq ?_; refine Wp.region ?_; refine Zq ?_; refine Zm ?_; refine Zq ?_; refine Za ?_; refine Zq ?_; refine Za ?_; refine Seq.done ?_; refine Wp.ret ?_))
            exact ret2 rfl rfl rfl (by repeat (first | exact List.Sublist.refl _ | exact List.nil_sublist _ | refine List.Sublist.cons_cons _ ?_ | refine List.Sublist.cons _ ?_)) (by rw [← hn]; exact res_some (by rw [hn]; exact Int.not_lt.1 c3) (by rw [hn]; exact Int.not_lt.1 c4))
    · have e1 : op = kPlus := by
        rcases hop with h | h | h
        · exact h
        · exact absurd h x2
        · exact absurd h x3
      have hn := combN_plus (a := a) (b := b) e1
      ((refine Zq ?_; refine Za ?_; refine Seq.done ?_; refine Zd ?_; refine Wp.skip ?_; refine blkN ?_; refine thenN ?_; refine Wp.seq ?_; refine Wp.seq ?_; refine Wp.region ?_; refine Zq ?_; refine Zm ?_))
      (((refine Zq ?_)); (refine q_lssD (by exact rfl) (by exact rfl) (fun c3 => ?_) (fun c3 => ?_)))
      · ((refine Zq ?_; refine Zm ?_; refine Zn ?_; refine Zn ?_; refine Zq ?_; refine Zt ?_; refine Seq.done ?_; refine Zc ?_; refine Wp.seq ?_; refine Wp.region ?_; refine Zq ?_; refine Za ?_; refine Zq ?_; refine Za ?_; refine Seq.done ?_; refine Wp.ret ?_; refine thenR ?_))
        exact ret2 rfl rfl rfl (by repeat (first | exact List.Sublist.refl _ | exact List.nil_sublist _ | refine List.Sublist.cons_cons _ ?_ | refine List.Sublist.cons _ ?_)) (res_none (by rw [hn]; exact fun h => absurd h.1 (Int.not_le.2 c3)))
      · ((refine Zq ?_; refine Zm ?_; refine Zy ?_; refine Zm ?_))
        (((refine Zy ?_)); (refine q_gtrD (by exact rfl) (by exact rfl) (fun c4 => ?_) (fun c4 => ?_)))
        · ((refine Zq ?_; refine Zu ?_; refine Seq.done ?_; refine Zc ?_; refine Wp.seq ?_; refine Wp.region ?_; refine Zq ?_; refine Za ?_; refine Zq ?_; refine Za ?_; refine Seq.done ?_; refine Wp.ret ?_; refine thenR ?_))
          exact ret2 rfl rfl rfl (by repeat (first | exact List.Sublist.refl _ | exact List.nil_sublist _ | refine List.Sublist.cons_cons _ ?_ | refine List.Sublist.cons _ ?_)) (res_none (by rw [hn]; exact fun h => absurd h.2 (Int.not_le.2 c4)))
        · ((refine Zq ?_; refine Zu ?_; refine Seq.done ?_; refine Zd ?_; refine Wp.skip ?_; refine thenN ?_; refine Wp.seq ?_; refine Wp.region ?_; refine Zq ?_; refine Zm ?_; refine Zq ?_; refine Za ?_; refine Zq ?_; refine Za ?_; refine Seq.done ?_; refine Wp.ret ?_))
          exact ret2 rfl rfl rfl (by repeat (first | exact List.Sublist.refl _ | exact List.nil_sublist _ | refine List.Sublist.cons_cons _ ?_ | refine List.Sublist.cons _ ?_)) (by rw [← hn]; exact res_some (by rw [hn]; exact Int.not_lt.1 c3) (by rw [hn]; exact Int.not_lt.1 c4))
end Go.Proofs.YtegmololhnipiaaGreatDoor
namespace Go.Proofs.YtegmololhnipiaaGreatDoor
open Go.Lx Go.Gr Go.RowKit
attribute [local instance 10] Classical.propDecidable
def InB (vs : List Int) : Prop := ∀ x ∈ vs, -maxN ≤ x ∧ x ≤ maxN
theorem valE_in' {vs : List Int} {m : Int} (hv : InB vs) {e : GExpr} (hr : RightP m e) {n : Int} (h : valE vs e = some n) : -1099511627776 ≤ n ∧ n ≤ 1099511627776 := valE_in hv hr h
theorem value_aux : ∀ (s : Nat) {fz : FZ} {S : GState} {u1 u2 : Value} {e : GExpr} {v : Value}, SizeOf.sizeOf e ≤ s → GStateR fz S u1 u2 → GExprR fz e v → RightP S.values.length e → InB S.values →
    ∃ z, QFn Tryz.prog 56 [sV u1 u2, eV e v] fz (resV (valE S.values e) z)
  | 0, _, _, _, _, e, _, hs, _, _, _, _ => by cases e; simp at hs
  | s + 1, fz, S, u1, u2, e, v, hsz, hs, h, hr, hin => by
    have hs0 := hs
    (obtain ⟨B1, m1, d1, rfl, st⟩ := hs.tru; obtain ⟨B2, m2, d2, rfl, sv⟩ := hs.values)
    obtain ⟨A, n, c, rfl, hk⟩ := h.kids
    have l1 := hk.len
    have l2 := sv.len
    cases hr with
    | number h1 h2 h3 h4 =>
      refine ⟨0, GFn.quiet ?_⟩
      (refine GFn.of_wp Tryz.func56 rfl Tryz.ntmps56 rfl rfl (fun w0 => ?_))
      ((refine Wp.seq ?_; refine Wp.region ?_; refine Seq.stepK (by exact rfl) (k_box _ (by exact rfl) (by exact rfl) (fun _ => ?_)); refine Seq.stepK (by exact rfl) (k_box _ (by exact rfl) (by exact rfl) (fun _ => ?_)); refine Zq ?_; refine Za ?_; refine Zq ?_; refine Za ?_; refine Seq.done ?_; refine Wp.seq ?_; refine Wp.seq ?_; refine Wp.region ?_; refine Zq ?_; refine Zf T ?_; refine Zq ?_; refine Zl T 0 ?_; refine Seq.done ?_; refine Wp.block ?_; refine Wp.seq ?_; refine Wp.region ?_))
      (((refine Zq ?_)); (refine q_eql_strD (by exact rfl) (by exact rfl) (fun e1 => ?_) (fun x1 => ?_)))
      · ((refine Zq ?_; refine Za ?_; refine Seq.done ?_; refine Zc ?_; refine Wp.seq ?_; refine Wp.region ?_; refine Zq ?_; refine Zf T ?_; refine Zq ?_; refine Zl T 0 ?_; refine Zq ?_; refine Za ?_; refine Zq ?_; refine Za ?_; refine Seq.done ?_; refine Wp.ret ?_; refine blkR ?_; refine thenR ?_))
        exact ret2 rfl rfl rfl (by repeat (first | exact List.Sublist.refl _ | exact List.nil_sublist _ | refine List.Sublist.cons_cons _ ?_ | refine List.Sublist.cons _ ?_)) (by rw [valE_number h1]; rfl)
      · exact absurd h1 x1
    | fluent h1 h2 h3 h4 =>
      refine ⟨0, GFn.quiet ?_⟩
      (refine GFn.of_wp Tryz.func56 rfl Tryz.ntmps56 rfl rfl (fun w0 => ?_))
      ((refine Wp.seq ?_; refine Wp.region ?_; refine Seq.stepK (by exact rfl) (k_box _ (by exact rfl) (by exact rfl) (fun _ => ?_)); refine Seq.stepK (by exact rfl) (k_box _ (by exact rfl) (by exact rfl) (fun _ => ?_)); refine Zq ?_; refine Za ?_; refine Zq ?_; refine Za ?_; refine Seq.done ?_; refine Wp.seq ?_; refine Wp.seq ?_; refine Wp.region ?_; refine Zq ?_; refine Zf T ?_; refine Zq ?_; refine Zl T 0 ?_; refine Seq.done ?_; refine Wp.block ?_; refine Wp.seq ?_; refine Wp.region ?_))
      (((refine Zq ?_)); (refine q_eql_strD (by exact rfl) (by exact rfl) (fun e1 => ?_) (fun x1 => ?_)))
      · exact absurd (h1.symm.trans e1) (bytes_ne (by decide))
      · ((refine Zq ?_; refine Za ?_; refine Seq.done ?_; refine Zd ?_; refine Wp.seq ?_; refine Wp.region ?_))
        (((refine Zq ?_)); (refine q_eql_strD (by exact rfl) (by exact rfl) (fun e2 => ?_) (fun x2 => ?_)))
        · ((refine Zq ?_; refine Za ?_; refine Seq.done ?_; refine Zc ?_; refine Wp.seq ?_; refine Wp.region ?_; refine Zq ?_; refine Zf T ?_; refine Zq ?_; refine Zl T 1 ?_; refine Zq ?_; refine Zf T ?_; refine Zq ?_; refine Zl T 0 ?_))
          obtain ⟨x, hx⟩ := get_int (l := S.values) (k := e.n) h3 h4
          (((refine Zq ?_)); refine q_index T e.n.toNat (by exact rfl) (by exact rfl) (by exact rfl) (by exact rfl) (by exact rfl) (by exact rfl) sv (by first | rfl | omega) hx (fun p hp => ?_))
          (((refine Zq ?_)); refine q_load_int T (by exact rfl) (by exact rfl) (by exact rfl) hp (fun ix => ?_))
          ((refine Zq ?_; refine Za ?_; refine Zq ?_; refine Za ?_; refine Seq.done ?_; refine Wp.ret ?_; refine blkR ?_; refine thenR ?_))
          exact ret2 rfl rfl rfl (by repeat (first | exact List.Sublist.refl _ | exact List.nil_sublist _ | refine List.Sublist.cons_cons _ ?_ | refine List.Sublist.cons _ ?_)) (by rw [valE_fluent h1, hx]; rfl)
        · exact absurd h1 x2
    | @bin _ a b hb h0 hab ra rb =>
      have sa := GExpr.kids_lt (x := e) (k := a) (by rw [hab]; simp)
      have sb := GExpr.kids_lt (x := e) (k := b) (by rw [hab]; simp)
      have x1 : ¬ e.op = kNumber := by rcases hb with h | h | h <;> rw [h] <;> exact bytes_ne (by decide)
      have x2 : ¬ e.op = kFluent := by rcases hb with h | h | h <;> rw [h] <;> exact bytes_ne (by decide)
      have ka : ∀ va, GExprR fz a va → ∃ z, QFn Tryz.prog 56 [sV (.slice B1 m1 d1) (.slice B2 m2 d2), eV a va] fz (resV (valE S.values a) z) := fun va hva => value_aux s (by omega) hs0 hva ra hin
      have kb : ∀ vb, GExprR fz b vb → ∃ z, QFn Tryz.prog 56 [sV (.slice B1 m1 d1) (.slice B2 m2 d2), eV b vb] fz (resV (valE S.values b) z) := fun vb hvb => value_aux s (by omega) hs0 hvb rb hin
      cases va0 : valE S.values a with
      | none =>
        refine ⟨0, GFn.quiet ?_⟩
        (refine GFn.of_wp Tryz.func56 rfl Tryz.ntmps56 rfl rfl (fun w0 => ?_))
        ((refine Wp.seq ?_; refine Wp.region ?_; refine Seq.stepK (by exact rfl) (k_box _ (by exact rfl) (by exact rfl) (fun _ => ?_)); refine Seq.stepK (by exact rfl) (k_box _ (by exact rfl) (by exact rfl) (fun _ => ?_)); refine Zq ?_; refine Za ?_; refine Zq ?_; refine Za ?_; refine Seq.done ?_; refine Wp.seq ?_; refine Wp.seq ?_; refine Wp.region ?_; refine Zq ?_; refine Zf T ?_; refine Zq ?_; refine Zl T 0 ?_; refine Seq.done ?_; refine Wp.block ?_; refine Wp.seq ?_; refine Wp.region ?_))
        (((refine Zq ?_)); (refine q_eql_strD (by exact rfl) (by exact rfl) (fun e1 => ?_) (fun y1 => ?_)))
        · exact absurd e1 x1
        · ((refine Zq ?_; refine Za ?_; refine Seq.done ?_; refine Zd ?_; refine Wp.seq ?_; refine Wp.region ?_))
          (((refine Zq ?_)); (refine q_eql_strD (by exact rfl) (by exact rfl) (fun e2 => ?_) (fun y2 => ?_)))
          · exact absurd e2 x2
          · ((refine Zq ?_; refine Za ?_; refine Seq.done ?_; refine Zd ?_; refine Wp.skip ?_; refine blkN ?_; refine thenN ?_; refine Wp.seq ?_; refine Wp.draw (by decide +kernel) T.mixed (by kernel_rfl) (by kernel_rfl) ?_; refine QL.q ?_; refine ZL T 1 ?_; refine QL.q ?_; refine Zf T ?_; refine QL.q ?_; refine Zl T 0 ?_))
            (((refine QL.q ?_)); refine q_index T 0 (by exact rfl) (by exact rfl) (by exact rfl) (by exact rfl) (by exact rfl) (by exact rfl) hk (by first | rfl | omega) (by rw [hab]; rfl : e.kids[0]? = some a) (fun p hp => ?_))
            (((refine QL.q ?_)); refine q_load_at T (by exact rfl) (by exact rfl) (by exact rfl) hp (by exact rfl) ?_)
            intro cs hcs
            obtain ⟨va, rfl, ha⟩ := gExprL_open hcs
            obtain ⟨za, qa⟩ := ka va ha
            rw [va0] at qa
            (skip)
            (((refine QL.q ?_)); refine q_call (by exact rfl) (by exact rfl) qa ?_)
            ((refine QL.q ?_; refine Zm ?_; refine QL.q ?_; refine q_extract (by exact rfl) (by exact rfl) ?_; refine QL.q ?_; refine q_extract (by exact rfl) (by exact rfl) ?_; refine QL.q ?_; refine Za ?_; refine QL.q ?_; refine Za ?_; refine QL.done ?_; refine thenN ?_; refine Wp.seq ?_; refine Wp.seq ?_; refine Wp.region ?_; refine Zq ?_; refine Zm ?_; refine Zq ?_; refine q_not (by exact rfl) ?_; refine Seq.done ?_; refine Zc ?_; refine Wp.seq ?_; refine Wp.region ?_; refine Zq ?_; refine Za ?_; refine Zq ?_; refine Za ?_; refine Seq.done ?_; refine Wp.ret ?_; refine thenR ?_))
            exact ret2 rfl rfl rfl (by repeat (first | exact List.Sublist.refl _ | exact List.nil_sublist _ | refine List.Sublist.cons_cons _ ?_ | refine List.Sublist.cons _ ?_)) (by rw [valE_bin hb hab, va0]; rfl)
      | some x =>
        cases vb0 : valE S.values b with
        | none =>
          refine ⟨0, GFn.quiet ?_⟩
          (refine GFn.of_wp Tryz.func56 rfl Tryz.ntmps56 rfl rfl (fun w0 => ?_))
          ((refine Wp.seq ?_; refine Wp.region ?_; refine Seq.stepK (by exact rfl) (k_box _ (by exact rfl) (by exact rfl) (fun _ => ?_)); refine Seq.stepK (by exact rfl) (k_box _ (by exact rfl) (by exact rfl) (fun _ => ?_)); refine Zq ?_; refine Za ?_; refine Zq ?_; refine Za ?_; refine Seq.done ?_; refine Wp.seq ?_; refine Wp.seq ?_; refine Wp.region ?_; refine Zq ?_; refine Zf T ?_; refine Zq ?_; refine Zl T 0 ?_; refine Seq.done ?_; refine Wp.block ?_; refine Wp.seq ?_; refine Wp.region ?_))
          (((refine Zq ?_)); (refine q_eql_strD (by exact rfl) (by exact rfl) (fun e1 => ?_) (fun y1 => ?_)))
          · exact absurd e1 x1
          · ((refine Zq ?_; refine Za ?_; refine Seq.done ?_; refine Zd ?_; refine Wp.seq ?_; refine Wp.region ?_))
            (((refine Zq ?_)); (refine q_eql_strD (by exact rfl) (by exact rfl) (fun e2 => ?_) (fun y2 => ?_)))
            · exact absurd e2 x2
            · ((refine Zq ?_; refine Za ?_; refine Seq.done ?_; refine Zd ?_; refine Wp.skip ?_; refine blkN ?_; refine thenN ?_; refine Wp.seq ?_; refine Wp.draw (by decide +kernel) T.mixed (by kernel_rfl) (by kernel_rfl) ?_; refine QL.q ?_; refine ZL T 1 ?_; refine QL.q ?_; refine Zf T ?_; refine QL.q ?_; refine Zl T 0 ?_))
              (((refine QL.q ?_)); refine q_index T 0 (by exact rfl) (by exact rfl) (by exact rfl) (by exact rfl) (by exact rfl) (by exact rfl) hk (by first | rfl | omega) (by rw [hab]; rfl : e.kids[0]? = some a) (fun p hp => ?_))
              (((refine QL.q ?_)); refine q_load_at T (by exact rfl) (by exact rfl) (by exact rfl) hp (by exact rfl) ?_)
              intro cs hcs
              obtain ⟨va, rfl, ha⟩ := gExprL_open hcs
              obtain ⟨za, qa⟩ := ka va ha
              rw [va0] at qa
              (skip)
              (((refine QL.q ?_)); refine q_call (by exact rfl) (by exact rfl) qa ?_)
              ((refine QL.q ?_; refine Zm ?_; refine QL.q ?_; refine q_extract (by exact rfl) (by exact rfl) ?_; refine QL.q ?_; refine q_extract (by exact rfl) (by exact rfl) ?_; refine QL.q ?_; refine Za ?_; refine QL.q ?_; refine Za ?_; refine QL.done ?_; refine thenN ?_; refine Wp.seq ?_; refine Wp.seq ?_; refine Wp.region ?_; refine Zq ?_; refine Zm ?_; refine Zq ?_; refine q_not (by exact rfl) ?_; refine Seq.done ?_; refine Zd ?_; refine Wp.skip ?_; refine thenN ?_; refine Wp.seq ?_; refine Wp.draw (by decide +kernel) T.mixed (by kernel_rfl) (by kernel_rfl) ?_; refine QL.q ?_; refine ZL T 1 ?_; refine QL.q ?_; refine Zf T ?_; refine QL.q ?_; refine Zl T 0 ?_))
              (((refine QL.q ?_)); refine q_index T 1 (by exact rfl) (by exact rfl) (by exact rfl) (by exact rfl) (by exact rfl) (by exact rfl) hk (by first | rfl | omega) (by rw [hab]; rfl : e.kids[1]? = some b) (fun p2 hp2 => ?_))
              (((refine QL.q ?_)); refine q_load_at T (by exact rfl) (by exact rfl) (by exact rfl) hp2 (by exact rfl) ?_)
              intro cs2 hcs2
              obtain ⟨vb, rfl, hb2⟩ := gExprL_open hcs2
              obtain ⟨zb, qb⟩ := kb vb hb2
              rw [vb0] at qb
              (skip)
              (((refine QL.q ?_)); refine q_call (by exact rfl) (by exact rfl) qb ?_)
              ((refine QL.q ?_; refine Zm ?_; refine QL.q ?_; refine q_extract (by exact rfl) (by exact rfl) ?_; refine QL.q ?_; refine q_extract (by exact rfl) (by exact rfl) ?_; refine QL.q ?_; refine Za ?_; refine QL.q ?_; refine Za ?_; refine QL.done ?_; refine thenN ?_; refine Wp.seq ?_; refine Wp.seq ?_; refine Wp.region ?_; refine Zq ?_; refine Zm ?_; refine Zq ?_; refine q_not (by exact rfl) ?_; refine Seq.done ?_; refine Zc ?_; refine Wp.seq ?_; refine Wp.region ?_; refine Zq ?_; refine Za ?_; refine Zq ?_; refine Za ?_; refine Seq.done ?_; refine Wp.ret ?_; refine thenR ?_))
              exact ret2 rfl rfl rfl (by repeat (first | exact List.Sublist.refl _ | exact List.nil_sublist _ | refine List.Sublist.cons_cons _ ?_ | refine List.Sublist.cons _ ?_)) (by rw [valE_bin hb hab, va0, vb0]; rfl)
        | some y =>
          obtain ⟨z, qc⟩ := combine_q (fz := fz) (op := e.op) (valE_in' hin ra va0) (valE_in' hin rb vb0)
          refine ⟨z, GFn.quiet ?_⟩
          (refine GFn.of_wp Tryz.func56 rfl Tryz.ntmps56 rfl rfl (fun w0 => ?_))
          ((refine Wp.seq ?_; refine Wp.region ?_; refine Seq.stepK (by exact rfl) (k_box _ (by exact rfl) (by exact rfl) (fun _ => ?_)); refine Seq.stepK (by exact rfl) (k_box _ (by exact rfl) (by exact rfl) (fun _ => ?_)); refine Zq ?_; refine Za ?_; refine Zq ?_; refine Za ?_; refine Seq.done ?_; refine Wp.seq ?_; refine Wp.seq ?_; refine Wp.region ?_; refine Zq ?_; refine Zf T ?_; refine Zq ?_; refine Zl T 0 ?_; refine Seq.done ?_; refine Wp.block ?_; refine Wp.seq ?_; refine Wp.region ?_))
          (((refine Zq ?_)); (refine q_eql_strD (by exact rfl) (by exact rfl) (fun e1 => ?_) (fun y1 => ?_)))
          · exact absurd e1 x1
          · ((refine Zq ?_; refine Za ?_; refine Seq.done ?_; refine Zd ?_; refine Wp.seq ?_; refine Wp.region ?_))
            (((refine Zq ?_)); (refine q_eql_strD (by exact rfl) (by exact rfl) (fun e2 => ?_) (fun y2 => ?_)))
            · exact absurd e2 x2
            · ((refine Zq ?_; refine Za ?_; refine Seq.done ?_; refine Zd ?_; refine Wp.skip ?_; refine blkN ?_; refine thenN ?_; refine Wp.seq ?_; refine Wp.draw (by decide +kernel) T.mixed (by kernel_rfl) (by kernel_rfl) ?_; refine QL.q ?_; refine ZL T 1 ?_; refine QL.q ?_; refine Zf T ?_; refine QL.q ?_; refine Zl T 0 ?_))
              (((refine QL.q ?_)); refine q_index T 0 (by exact rfl) (by exact rfl) (by exact rfl) (by exact rfl) (by exact rfl) (by exact rfl) hk (by first | rfl | omega) (by rw [hab]; rfl : e.kids[0]? = some a) (fun p hp => ?_))
              (((refine QL.q ?_)); refine q_load_at T (by exact rfl) (by exact rfl) (by exact rfl) hp (by exact rfl) ?_)
              intro cs hcs
              obtain ⟨va, rfl, ha⟩ := gExprL_open hcs
              obtain ⟨za, qa⟩ := ka va ha
              rw [va0] at qa
              (skip)
              (((refine QL.q ?_)); refine q_call (by exact rfl) (by exact rfl) qa ?_)
              ((refine QL.q ?_; refine Zm ?_; refine QL.q ?_; refine q_extract (by exact rfl) (by exact rfl) ?_; refine QL.q ?_; refine q_extract (by exact rfl) (by exact rfl) ?_; refine QL.q ?_; refine Za ?_; refine QL.q ?_; refine Za ?_; refine QL.done ?_; refine thenN ?_; refine Wp.seq ?_; refine Wp.seq ?_; refine Wp.region ?_; refine Zq ?_; refine Zm ?_; refine Zq ?_; refine q_not (by exact rfl) ?_; refine Seq.done ?_; refine Zd ?_; refine Wp.skip ?_; refine thenN ?_; refine Wp.seq ?_; refine Wp.draw (by decide +kernel) T.mixed (by kernel_rfl) (by kernel_rfl) ?_; refine QL.q ?_; refine ZL T 1 ?_; refine QL.q ?_; refine Zf T ?_; refine QL.q ?_; refine Zl T 0 ?_))
              (((refine QL.q ?_)); refine q_index T 1 (by exact rfl) (by exact rfl) (by exact rfl) (by exact rfl) (by exact rfl) (by exact rfl) hk (by first | rfl | omega) (by rw [hab]; rfl : e.kids[1]? = some b) (fun p2 hp2 => ?_))
              (((refine QL.q ?_)); refine q_load_at T (by exact rfl) (by exact rfl) (by exact rfl) hp2 (by exact rfl) ?_)
              intro cs2 hcs2
              obtain ⟨vb, rfl, hb2⟩ := gExprL_open hcs2
              obtain ⟨zb, qb⟩ := kb vb hb2
              rw [vb0] at qb
              (skip)
              (((refine QL.q ?_)); refine q_call (by exact rfl) (by exact rfl) qb ?_)
              ((refine QL.q ?_; refine Zm ?_; refine QL.q ?_; refine q_extract (by exact rfl) (by exact rfl) ?_; refine QL.q ?_; refine q_extract (by exact rfl) (by exact rfl) ?_; refine QL.q ?_; refine Za ?_; refine QL.q ?_; refine Za ?_; refine QL.done ?_; refine thenN ?_; refine Wp.seq ?_; refine Wp.seq ?_; refine Wp.region ?_; refine Zq ?_; refine Zm ?_; refine Zq ?_; refine q_not (by exact rfl) ?_; refine Seq.done ?_; refine Zd ?_; refine Wp.skip ?_; refine thenN ?_; refine Wp.seq ?_; refine Wp.region ?_; refine Zq ?_; refine Zf T ?_; refine Zq ?_; refine Zl T 0 ?_; refine Zq ?_; refine Zm ?_; refine Zq ?_; refine Zm ?_))
              (((refine Zq ?_)); refine q_call (by exact rfl) (by exact rfl) qc ?_)
              ((refine Zq ?_; refine q_extract (by exact rfl) (by exact rfl) ?_; refine Zq ?_; refine q_extract (by exact rfl) (by exact rfl) ?_; refine Zq ?_; refine Za ?_; refine Zq ?_; refine Za ?_; refine Seq.done ?_; refine Wp.ret ?_))
              exact ret2 rfl rfl rfl (by repeat (first | exact List.Sublist.refl _ | exact List.nil_sublist _ | refine List.Sublist.cons_cons _ ?_ | refine List.Sublist.cons _ ?_)) (by rw [valE_bin hb hab, va0, vb0]; rfl)
theorem rvalue_aux : ∀ (s : Nat) {fz : FZ} {S : GState} {u1 u2 : Value} {e : GExpr} {v : Value}, SizeOf.sizeOf e ≤ s → GStateR fz S u1 u2 → GExprR fz e v → RightP S.values.length e → InB S.values →
    ∃ z, QFn Tryz.prog 30 [sV u1 u2, eV e v] fz (resV (valE S.values e) z)
  | 0, _, _, _, _, e, _, hs, _, _, _, _ => by cases e; simp at hs
  | s + 1, fz, S, u1, u2, e, v, hsz, hs, h, hr, hin => by
    have hs0 := hs
    (obtain ⟨B1, m1, d1, rfl, st⟩ := hs.tru; obtain ⟨B2, m2, d2, rfl, sv⟩ := hs.values)
    obtain ⟨A, n, c, rfl, hk⟩ := h.kids
    have l1 := hk.len
    have l2 := sv.len
    cases hr with
    | number h1 h2 h3 h4 =>
      refine ⟨0, GFn.quiet ?_⟩
      (refine GFn.of_wp Tryz.func30 rfl Tryz.ntmps30 rfl rfl (fun w0 => ?_))
      ((refine Wp.seq ?_; refine Wp.region ?_; refine Seq.stepK (by exact rfl) (k_box _ (by exact rfl) (by exact rfl) (fun _ => ?_)); refine Seq.stepK (by exact rfl) (k_box _ (by exact rfl) (by exact rfl) (fun _ => ?_)); refine Zq ?_; refine Za ?_; refine Zq ?_; refine Za ?_; refine Seq.done ?_; refine Wp.seq ?_; refine Wp.seq ?_; refine Wp.region ?_; refine Zq ?_; refine Zf T ?_; refine Zq ?_; refine Zl T 0 ?_; refine Seq.done ?_; refine Wp.block ?_; refine Wp.seq ?_; refine Wp.region ?_))
      (((refine Zq ?_)); (refine q_eql_strD (by exact rfl) (by exact rfl) (fun e1 => ?_) (fun x1 => ?_)))
      · ((refine Zq ?_; refine Za ?_; refine Seq.done ?_; refine Zc ?_; refine Wp.seq ?_; refine Wp.region ?_; refine Zq ?_; refine Zf T ?_; refine Zq ?_; refine Zl T 0 ?_; refine Zq ?_; refine Za ?_; refine Zq ?_; refine Za ?_; refine Seq.done ?_; refine Wp.ret ?_; refine blkR ?_; refine thenR ?_))
        exact ret2 rfl rfl rfl (by repeat (first | exact List.Sublist.refl _ | exact List.nil_sublist _ | refine List.Sublist.cons_cons _ ?_ | refine List.Sublist.cons _ ?_)) (by rw [valE_number h1]; rfl)
      · exact absurd h1 x1
    | fluent h1 h2 h3 h4 =>
      refine ⟨0, GFn.quiet ?_⟩
      (refine GFn.of_wp Tryz.func30 rfl Tryz.ntmps30 rfl rfl (fun w0 => ?_))
      ((refine Wp.seq ?_; refine Wp.region ?_; refine Seq.stepK (by exact rfl) (k_box _ (by exact rfl) (by exact rfl) (fun _ => ?_)); refine Seq.stepK (by exact rfl) (k_box _ (by exact rfl) (by exact rfl) (fun _ => ?_)); refine Zq ?_; refine Za ?_; refine Zq ?_; refine Za ?_; refine Seq.done ?_; refine Wp.seq ?_; refine Wp.seq ?_; refine Wp.region ?_; refine Zq ?_; refine Zf T ?_; refine Zq ?_; refine Zl T 0 ?_; refine Seq.done ?_; refine Wp.block ?_; refine Wp.seq ?_; refine Wp.region ?_))
      (((refine Zq ?_)); (refine q_eql_strD (by exact rfl) (by exact rfl) (fun e1 => ?_) (fun x1 => ?_)))
      · exact absurd (h1.symm.trans e1) (bytes_ne (by decide))
      · ((refine Zq ?_; refine Za ?_; refine Seq.done ?_; refine Zd ?_; refine Wp.seq ?_; refine Wp.region ?_))
        (((refine Zq ?_)); (refine q_eql_strD (by exact rfl) (by exact rfl) (fun e2 => ?_) (fun x2 => ?_)))
        · ((refine Zq ?_; refine Za ?_; refine Seq.done ?_; refine Zc ?_; refine Wp.seq ?_; refine Wp.region ?_; refine Zq ?_; refine Zf T ?_; refine Zq ?_; refine Zl T 1 ?_; refine Zq ?_; refine Zf T ?_; refine Zq ?_; refine Zl T 0 ?_))
          obtain ⟨x, hx⟩ := get_int (l := S.values) (k := e.n) h3 h4
          (((refine Zq ?_)); refine q_index T e.n.toNat (by exact rfl) (by exact rfl) (by exact rfl) (by exact rfl) (by exact rfl) (by exact rfl) sv (by first | rfl | omega) hx (fun p hp => ?_))
          (((refine Zq ?_)); refine q_load_int T (by exact rfl) (by exact rfl) (by exact rfl) hp (fun ix => ?_))
          ((refine Zq ?_; refine Za ?_; refine Zq ?_; refine Za ?_; refine Seq.done ?_; refine Wp.ret ?_; refine blkR ?_; refine thenR ?_))
          exact ret2 rfl rfl rfl (by repeat (first | exact List.Sublist.refl _ | exact List.nil_sublist _ | refine List.Sublist.cons_cons _ ?_ | refine List.Sublist.cons _ ?_)) (by rw [valE_fluent h1, hx]; rfl)
        · exact absurd h1 x2
    | @bin _ a b hb h0 hab ra rb =>
      have sa := GExpr.kids_lt (x := e) (k := a) (by rw [hab]; simp)
      have sb := GExpr.kids_lt (x := e) (k := b) (by rw [hab]; simp)
      have x1 : ¬ e.op = kNumber := by rcases hb with h | h | h <;> rw [h] <;> exact bytes_ne (by decide)
      have x2 : ¬ e.op = kFluent := by rcases hb with h | h | h <;> rw [h] <;> exact bytes_ne (by decide)
      have ka : ∀ va, GExprR fz a va → ∃ z, QFn Tryz.prog 30 [sV (.slice B1 m1 d1) (.slice B2 m2 d2), eV a va] fz (resV (valE S.values a) z) := fun va hva => rvalue_aux s (by omega) hs0 hva ra hin
      have kb : ∀ vb, GExprR fz b vb → ∃ z, QFn Tryz.prog 30 [sV (.slice B1 m1 d1) (.slice B2 m2 d2), eV b vb] fz (resV (valE S.values b) z) := fun vb hvb => rvalue_aux s (by omega) hs0 hvb rb hin
      cases va0 : valE S.values a with
      | none =>
        cases vb0 : valE S.values b with
        | none =>
          refine ⟨0, GFn.quiet ?_⟩
          (refine GFn.of_wp Tryz.func30 rfl Tryz.ntmps30 rfl rfl (fun w0 => ?_))
          ((refine Wp.seq ?_; refine Wp.region ?_; refine Seq.stepK (by exact rfl) (k_box _ (by exact rfl) (by exact rfl) (fun _ => ?_)); refine Seq.stepK (by exact rfl) (k_box _ (by exact rfl) (by exact rfl) (fun _ => ?_)); refine Zq ?_; refine Za ?_; refine Zq ?_; refine Za ?_; refine Seq.done ?_; refine Wp.seq ?_; refine Wp.seq ?_; refine Wp.region ?_; refine Zq ?_; refine Zf T ?_; refine Zq ?_; refine Zl T 0 ?_; refine Seq.done ?_; refine Wp.block ?_; refine Wp.seq ?_; refine Wp.region ?_))
          (((refine Zq ?_)); (refine q_eql_strD (by exact rfl) (by exact rfl) (fun e1 => ?_) (fun y1 => ?_)))
          · exact absurd e1 x1
          · ((refine Zq ?_; refine Za ?_; refine Seq.done ?_; refine Zd ?_; refine Wp.seq ?_; refine Wp.region ?_))
            (((refine Zq ?_)); (refine q_eql_strD (by exact rfl) (by exact rfl) (fun e2 => ?_) (fun y2 => ?_)))
            · exact absurd e2 x2
            · ((refine Zq ?_; refine Za ?_; refine Seq.done ?_; refine Zd ?_; refine Wp.skip ?_; refine blkN ?_; refine thenN ?_; refine Wp.seq ?_; refine Wp.draw (by decide +kernel) T.mixed (by kernel_rfl) (by kernel_rfl) ?_; refine QL.q ?_; refine ZL T 1 ?_; refine QL.q ?_; refine Zf T ?_; refine QL.q ?_; refine Zl T 0 ?_))
              (((refine QL.q ?_)); refine q_index T 0 (by exact rfl) (by exact rfl) (by exact rfl) (by exact rfl) (by exact rfl) (by exact rfl) hk (by first | rfl | omega) (by rw [hab]; rfl : e.kids[0]? = some a) (fun p hp => ?_))
              (((refine QL.q ?_)); refine q_load_at T (by exact rfl) (by exact rfl) (by exact rfl) hp (by exact rfl) ?_)
              intro cs hcs
              obtain ⟨va, rfl, ha⟩ := gExprL_open hcs
              obtain ⟨za, qa⟩ := ka va ha
              rw [va0] at qa
              (skip)
              (((refine QL.q ?_)); refine q_call (by exact rfl) (by exact rfl) qa ?_)
              ((refine QL.q ?_; refine Zm ?_; refine QL.q ?_; refine q_extract (by exact rfl) (by exact rfl) ?_; refine QL.q ?_; refine q_extract (by exact rfl) (by exact rfl) ?_; refine QL.q ?_; refine Za ?_; refine QL.q ?_; refine Za ?_; refine QL.done ?_; refine thenN ?_; refine Wp.seq ?_; refine Wp.draw (by decide +kernel) T.mixed (by kernel_rfl) (by kernel_rfl) ?_; refine QL.q ?_; refine ZL T 1 ?_; refine QL.q ?_; refine Zf T ?_; refine QL.q ?_; refine Zl T 0 ?_))
              (((refine QL.q ?_)); refine q_index T 1 (by exact rfl) (by exact rfl) (by exact rfl) (by exact rfl) (by exact rfl) (by exact rfl) hk (by first | rfl | omega) (by rw [hab]; rfl : e.kids[1]? = some b) (fun p2 hp2 => ?_))
              (((refine QL.q ?_)); refine q_load_at T (by exact rfl) (by exact rfl) (by exact rfl) hp2 (by exact rfl) ?_)
              intro cs2 hcs2
              obtain ⟨vb, rfl, hb2⟩ := gExprL_open hcs2
              obtain ⟨zb, qb⟩ := kb vb hb2
              rw [vb0] at qb
              (skip)
              (((refine QL.q ?_)); refine q_call (by exact rfl) (by exact rfl) qb ?_)
              ((refine QL.q ?_; refine Zm ?_; refine QL.q ?_; refine q_extract (by exact rfl) (by exact rfl) ?_; refine QL.q ?_; refine q_extract (by exact rfl) (by exact rfl) ?_; refine QL.q ?_; refine Za ?_; refine QL.q ?_; refine Za ?_; refine QL.done ?_; refine thenN ?_; refine Wp.seq ?_; refine Wp.seq ?_; refine Wp.region ?_; refine Zq ?_; refine Zm ?_; refine Zq ?_; refine q_not (by exact rfl) ?_; refine Zq ?_; refine Zm ?_; refine Zn ?_; refine Zn ?_; refine Zq ?_; refine Zt ?_; refine Seq.done ?_; refine Zc ?_; refine Wp.seq ?_; refine Wp.region ?_; refine Zq ?_; refine Za ?_; refine Zq ?_; refine Za ?_; refine Seq.done ?_; refine Wp.ret ?_; refine thenR ?_))
              exact ret2 rfl rfl rfl (by repeat (first | exact List.Sublist.refl _ | exact List.nil_sublist _ | refine List.Sublist.cons_cons _ ?_ | refine List.Sublist.cons _ ?_)) (by rw [valE_bin hb hab, va0]; rfl)
        | some y =>
          refine ⟨0, GFn.quiet ?_⟩
          (refine GFn.of_wp Tryz.func30 rfl Tryz.ntmps30 rfl rfl (fun w0 => ?_))
          ((refine Wp.seq ?_; refine Wp.region ?_; refine Seq.stepK (by exact rfl) (k_box _ (by exact rfl) (by exact rfl) (fun _ => ?_)); refine Seq.stepK (by exact rfl) (k_box _ (by exact rfl) (by exact rfl) (fun _ => ?_)); refine Zq ?_; refine Za ?_; refine Zq ?_; refine Za ?_; refine Seq.done ?_; refine Wp.seq ?_; refine Wp.seq ?_; refine Wp.region ?_; refine Zq ?_; refine Zf T ?_; refine Zq ?_; refine Zl T 0 ?_; refine Seq.done ?_; refine Wp.block ?_; refine Wp.seq ?_; refine Wp.region ?_))
          (((refine Zq ?_)); (refine q_eql_strD (by exact rfl) (by exact rfl) (fun e1 => ?_) (fun y1 => ?_)))
          · exact absurd e1 x1
          · ((refine Zq ?_; refine Za ?_; refine Seq.done ?_; refine Zd ?_; refine Wp.seq ?_; refine Wp.region ?_))
            (((refine Zq ?_)); (refine q_eql_strD (by exact rfl) (by exact rfl) (fun e2 => ?_) (fun y2 => ?_)))
            · exact absurd e2 x2
            · ((refine Zq ?_; refine Za ?_; refine Seq.done ?_; refine Zd ?_; refine Wp.skip ?_; refine blkN ?_; refine thenN ?_; refine Wp.seq ?_; refine Wp.draw (by decide +kernel) T.mixed (by kernel_rfl) (by kernel_rfl) ?_; refine QL.q ?_; refine ZL T 1 ?_; refine QL.q ?_; refine Zf T ?_; refine QL.q ?_; refine Zl T 0 ?_))
              (((refine QL.q ?_)); refine q_index T 0 (by exact rfl) (by exact rfl) (by exact rfl) (by exact rfl) (by exact rfl) (by exact rfl) hk (by first | rfl | omega) (by rw [hab]; rfl : e.kids[0]? = some a) (fun p hp => ?_))
              (((refine QL.q ?_)); refine q_load_at T (by exact rfl) (by exact rfl) (by exact rfl) hp (by exact rfl) ?_)
              intro cs hcs
              obtain ⟨va, rfl, ha⟩ := gExprL_open hcs
              obtain ⟨za, qa⟩ := ka va ha
              rw [va0] at qa
              (skip)
              (((refine QL.q ?_)); refine q_call (by exact rfl) (by exact rfl) qa ?_)
              ((refine QL.q ?_; refine Zm ?_; refine QL.q ?_; refine q_extract (by exact rfl) (by exact rfl) ?_; refine QL.q ?_; refine q_extract (by exact rfl) (by exact rfl) ?_; refine QL.q ?_; refine Za ?_; refine QL.q ?_; refine Za ?_; refine QL.done ?_; refine thenN ?_; refine Wp.seq ?_; refine Wp.draw (by decide +kernel) T.mixed (by kernel_rfl) (by kernel_rfl) ?_; refine QL.q ?_; refine ZL T 1 ?_; refine QL.q ?_; refine Zf T ?_; refine QL.q ?_; refine Zl T 0 ?_))
              (((refine QL.q ?_)); refine q_index T 1 (by exact rfl) (by exact rfl) (by exact rfl) (by exact rfl) (by exact rfl) (by exact rfl) hk (by first | rfl | omega) (by rw [hab]; rfl : e.kids[1]? = some b) (fun p2 hp2 => ?_))
              (((refine QL.q ?_)); refine q_load_at T (by exact rfl) (by exact rfl) (by exact rfl) hp2 (by exact rfl) ?_)
              intro cs2 hcs2
              obtain ⟨vb, rfl, hb2⟩ := gExprL_open hcs2
              obtain ⟨zb, qb⟩ := kb vb hb2
              rw [vb0] at qb
              (skip)
              (((refine QL.q ?_)); refine q_call (by exact rfl) (by exact rfl) qb ?_)
              ((refine QL.q ?_; refine Zm ?_; refine QL.q ?_; refine q_extract (by exact rfl) (by exact rfl) ?_; refine QL.q ?_; refine q_extract (by exact rfl) (by exact rfl) ?_; refine QL.q ?_; refine Za ?_; refine QL.q ?_; refine Za ?_; refine QL.done ?_; refine thenN ?_; refine Wp.seq ?_; refine Wp.seq ?_; refine Wp.region ?_; refine Zq ?_; refine Zm ?_; refine Zq ?_; refine q_not (by exact rfl) ?_; refine Zq ?_; refine Zm ?_; refine Zn ?_; refine Zn ?_; refine Zq ?_; refine Zt ?_; refine Seq.done ?_; refine Zc ?_; refine Wp.seq ?_; refine Wp.region ?_; refine Zq ?_; refine Za ?_; refine Zq ?_; refine Za ?_; refine Seq.done ?_; refine Wp.ret ?_; refine thenR ?_))
              exact ret2 rfl rfl rfl (by repeat (first | exact List.Sublist.refl _ | exact List.nil_sublist _ | refine List.Sublist.cons_cons _ ?_ | refine List.Sublist.cons _ ?_)) (by rw [valE_bin hb hab, va0]; rfl)
      | some x =>
        cases vb0 : valE S.values b with
        | none =>
          refine ⟨0, GFn.quiet ?_⟩
          (refine GFn.of_wp Tryz.func30 rfl Tryz.ntmps30 rfl rfl (fun w0 => ?_))
          ((refine Wp.seq ?_; refine Wp.region ?_; refine Seq.stepK (by exact rfl) (k_box _ (by exact rfl) (by exact rfl) (fun _ => ?_)); refine Seq.stepK (by exact rfl) (k_box _ (by exact rfl) (by exact rfl) (fun _ => ?_)); refine Zq ?_; refine Za ?_; refine Zq ?_; refine Za ?_; refine Seq.done ?_; refine Wp.seq ?_; refine Wp.seq ?_; refine Wp.region ?_; refine Zq ?_; refine Zf T ?_; refine Zq ?_; refine Zl T 0 ?_; refine Seq.done ?_; refine Wp.block ?_; refine Wp.seq ?_; refine Wp.region ?_))
          (((refine Zq ?_)); (refine q_eql_strD (by exact rfl) (by exact rfl) (fun e1 => ?_) (fun y1 => ?_)))
          · exact absurd e1 x1
          · ((refine Zq ?_; refine Za ?_; refine Seq.done ?_; refine Zd ?_; refine Wp.seq ?_; refine Wp.region ?_))
            (((refine Zq ?_)); (refine q_eql_strD (by exact rfl) (by exact rfl) (fun e2 => ?_) (fun y2 => ?_)))
            · exact absurd e2 x2
            · ((refine Zq ?_; refine Za ?_; refine Seq.done ?_; refine Zd ?_; refine Wp.skip ?_; refine blkN ?_; refine thenN ?_; refine Wp.seq ?_; refine Wp.draw (by decide +kernel) T.mixed (by kernel_rfl) (by kernel_rfl) ?_; refine QL.q ?_; refine ZL T 1 ?_; refine QL.q ?_; refine Zf T ?_; refine QL.q ?_; refine Zl T 0 ?_))
              (((refine QL.q ?_)); refine q_index T 0 (by exact rfl) (by exact rfl) (by exact rfl) (by exact rfl) (by exact rfl) (by exact rfl) hk (by first | rfl | omega) (by rw [hab]; rfl : e.kids[0]? = some a) (fun p hp => ?_))
              (((refine QL.q ?_)); refine q_load_at T (by exact rfl) (by exact rfl) (by exact rfl) hp (by exact rfl) ?_)
              intro cs hcs
              obtain ⟨va, rfl, ha⟩ := gExprL_open hcs
              obtain ⟨za, qa⟩ := ka va ha
              rw [va0] at qa
              (skip)
              (((refine QL.q ?_)); refine q_call (by exact rfl) (by exact rfl) qa ?_)
              ((refine QL.q ?_; refine Zm ?_; refine QL.q ?_; refine q_extract (by exact rfl) (by exact rfl) ?_; refine QL.q ?_; refine q_extract (by exact rfl) (by exact rfl) ?_; refine QL.q ?_; refine Za ?_; refine QL.q ?_; refine Za ?_; refine QL.done ?_; refine thenN ?_; refine Wp.seq ?_; refine Wp.draw (by decide +kernel) T.mixed (by kernel_rfl) (by kernel_rfl) ?_; refine QL.q ?_; refine ZL T 1 ?_; refine QL.q ?_; refine Zf T ?_; refine QL.q ?_; refine Zl T 0 ?_))
              (((refine QL.q ?_)); refine q_index T 1 (by exact rfl) (by exact rfl) (by exact rfl) (by exact rfl) (by exact rfl) (by exact rfl) hk (by first | rfl | omega) (by rw [hab]; rfl : e.kids[1]? = some b) (fun p2 hp2 => ?_))
              (((refine QL.q ?_)); refine q_load_at T (by exact rfl) (by exact rfl) (by exact rfl) hp2 (by exact rfl) ?_)
              intro cs2 hcs2
              obtain ⟨vb, rfl, hb2⟩ := gExprL_open hcs2
              obtain ⟨zb, qb⟩ := kb vb hb2
              rw [vb0] at qb
              (skip)
              (((refine QL.q ?_)); refine q_call (by exact rfl) (by exact rfl) qb ?_)
              ((refine QL.q ?_; refine Zm ?_; refine QL.q ?_; refine q_extract (by exact rfl) (by exact rfl) ?_; refine QL.q ?_; refine q_extract (by exact rfl) (by exact rfl) ?_; refine QL.q ?_; refine Za ?_; refine QL.q ?_; refine Za ?_; refine QL.done ?_; refine thenN ?_; refine Wp.seq ?_; refine Wp.seq ?_; refine Wp.region ?_; refine Zq ?_; refine Zm ?_; refine Zq ?_; refine q_not (by exact rfl) ?_; refine Zq ?_; refine Zm ?_; refine Zy ?_; refine Zm ?_; refine Zy ?_; refine q_not (by exact rfl) ?_; refine Zq ?_; refine Zu ?_; refine Seq.done ?_; refine Zc ?_; refine Wp.seq ?_; refine Wp.region ?_; refine Zq ?_; refine Za ?_; refine Zq ?_; refine Za ?_; refine Seq.done ?_; refine Wp.ret ?_; refine thenR ?_))
              exact ret2 rfl rfl rfl (by repeat (first | exact List.Sublist.refl _ | exact List.nil_sublist _ | refine List.Sublist.cons_cons _ ?_ | refine List.Sublist.cons _ ?_)) (by rw [valE_bin hb hab, va0, vb0]; rfl)
        | some y =>
          have qc := rcombine_q (fz := fz) (op := e.op) hb (valE_in' hin ra va0) (valE_in' hin rb vb0)
          refine ⟨0, GFn.quiet ?_⟩
          (refine GFn.of_wp Tryz.func30 rfl Tryz.ntmps30 rfl rfl (fun w0 => ?_))
          ((refine Wp.seq ?_; refine Wp.region ?_; refine Seq.stepK (by exact rfl) (k_box _ (by exact rfl) (by exact rfl) (fun _ => ?_)); refine Seq.stepK (by exact rfl) (k_box _ (by exact rfl) (by exact rfl) (fun _ => ?_)); refine Zq ?_; refine Za ?_; refine Zq ?_; refine Za ?_; refine Seq.done ?_; refine Wp.seq ?_; refine Wp.seq ?_; refine Wp.region ?_; refine Zq ?_; refine Zf T ?_; refine Zq ?_; refine Zl T 0 ?_; refine Seq.done ?_; refine Wp.block ?_; refine Wp.seq ?_; refine Wp.region ?_))
          (((refine Zq ?_)); (refine q_eql_strD (by exact rfl) (by exact rfl) (fun e1 => ?_) (fun y1 => ?_)))
          · exact absurd e1 x1
          · ((refine Zq ?_; refine Za ?_; refine Seq.done ?_; refine Zd ?_; refine Wp.seq ?_; refine Wp.region ?_))
            (((refine Zq ?_)); (refine q_eql_strD (by exact rfl) (by exact rfl) (fun e2 => ?_) (fun y2 => ?_)))
            · exact absurd e2 x2
            · ((refine Zq ?_; refine Za ?_; refine Seq.done ?_; refine Zd ?_; refine Wp.skip ?_; refine blkN ?_; refine thenN ?_; refine Wp.seq ?_; refine Wp.draw (by decide +kernel) T.mixed (by kernel_rfl) (by kernel_rfl) ?_; refine QL.q ?_; refine ZL T 1 ?_; refine QL.q ?_; refine Zf T ?_; refine QL.q ?_; refine Zl T 0 ?_))
              (((refine QL.q ?_)); refine q_index T 0 (by exact rfl) (by exact rfl) (by exact rfl) (by exact rfl) (by exact rfl) (by exact rfl) hk (by first | rfl | omega) (by rw [hab]; rfl : e.kids[0]? = some a) (fun p hp => ?_))
              (((refine QL.q ?_)); refine q_load_at T (by exact rfl) (by exact rfl) (by exact rfl) hp (by exact rfl) ?_)
              intro cs hcs
              obtain ⟨va, rfl, ha⟩ := gExprL_open hcs
              obtain ⟨za, qa⟩ := ka va ha
              rw [va0] at qa
              (skip)
              (((refine QL.q ?_)); refine q_call (by exact rfl) (by exact rfl) qa ?_)
              ((refine QL.q ?_; refine Zm ?_; refine QL.q ?_; refine q_extract (by exact rfl) (by exact rfl) ?_; refine QL.q ?_; refine q_extract (by exact rfl) (by exact rfl) ?_; refine QL.q ?_; refine Za ?_; refine QL.q ?_; refine Za ?_; refine QL.done ?_; refine thenN ?_; refine Wp.seq ?_; refine Wp.draw (by decide +kernel) T.mixed (by kernel_rfl) (by kernel_rfl) ?_; refine QL.q ?_; refine ZL T 1 ?_; refine QL.q ?_; refine Zf T ?_; refine QL.q ?_; refine Zl T 0 ?_))
              (((refine QL.q ?_)); refine q_index T 1 (by exact rfl) (by exact rfl) (by exact rfl) (by exact rfl) (by exact rfl) (by exact rfl) hk (by first | rfl | omega) (by rw [hab]; rfl : e.kids[1]? = some b) (fun p2 hp2 => ?_))
              (((refine QL.q ?_)); refine q_load_at T (by exact rfl) (by exact rfl) (by exact rfl) hp2 (by exact rfl) ?_)
              intro cs2 hcs2
              obtain ⟨vb, rfl, hb2⟩ := gExprL_open hcs2
              obtain ⟨zb, qb⟩ := kb vb hb2
              rw [vb0] at qb
              (skip)
              (((refine QL.q ?_)); refine q_call (by exact rfl) (by exact rfl) qb ?_)
              ((refine QL.q ?_; refine Zm ?_; refine QL.q ?_; refine q_extract (by exact rfl) (by exact rfl) ?_; refine QL.q ?_; refine q_extract (by exact rfl) (by exact rfl) ?_; refine QL.q ?_; refine Za ?_; refine QL.q ?_; refine Za ?_; refine QL.done ?_; refine thenN ?_; refine Wp.seq ?_; refine Wp.seq ?_; refine Wp.region ?_; refine Zq ?_; refine Zm ?_; refine Zq ?_; refine q_not (by exact rfl) ?_; refine Zq ?_; refine Zm ?_; refine Zy ?_; refine Zm ?_; refine Zy ?_; refine q_not (by exact rfl) ?_; refine Zq ?_; refine Zu ?_; refine Seq.done ?_; refine Zd ?_; refine Wp.skip ?_; refine thenN ?_; refine Wp.seq ?_; refine Wp.region ?_; refine Zq ?_; refine Zf T ?_; refine Zq ?_; refine Zl T 0 ?_; refine Zq ?_; refine Zm ?_; refine Zq ?_; refine Zm ?_))
              (((refine Zq ?_)); refine q_call (by exact rfl) (by exact rfl) qc ?_)
              ((refine Zq ?_; refine q_extract (by exact rfl) (by exact rfl) ?_; refine Zq ?_; refine q_extract (by exact rfl) (by exact rfl) ?_; refine Zq ?_; refine Za ?_; refine Zq ?_; refine Za ?_; refine Seq.done ?_; refine Wp.ret ?_))
              exact ret2 rfl rfl rfl (by repeat (first | exact List.Sublist.refl _ | exact List.nil_sublist _ | refine List.Sublist.cons_cons _ ?_ | refine List.Sublist.cons _ ?_)) (by rw [valE_bin hb hab, va0, vb0]; rfl)
end Go.Proofs.YtegmololhnipiaaGreatDoor
namespace Go.Proofs.YtegmololhnipiaaGreatDoor
open Go.Lx Go.Gr Go.RowKit
attribute [local instance 10] Classical.propDecidable
abbrev tV (t : GTest) (w1 w2 : Value) : Value := .agg #[.string t.op, .string t.a.op, .int .i64 t.a.n, w1, .string t.b.op, .int .i64 t.b.n, w2]
theorem test_iff {vs : List Int} {t : GTest} {x y : Int} (h1 : valE vs t.a = some x) (h2 : valE vs t.b = some y) : TestP vs t ↔ (t.op = kLt ∧ x < y) ∨ (t.op = kLe ∧ x ≤ y) ∨ (t.op = kEq ∧ x = y) := by
  constructor
  · rintro ⟨a, b, h3, h4, h5⟩
    rw [h1] at h3; rw [h2] at h4
    injection h3 with h3; injection h4 with h4
    subst h3 h4; exact h5
  · intro h; exact ⟨x, y, h1, h2, h⟩
theorem test_no1 {vs : List Int} {t : GTest} (h : valE vs t.a = none) : ¬ TestP vs t := by rintro ⟨a, b, h3, _⟩; rw [h] at h3; cases h3
theorem test_no2 {vs : List Int} {t : GTest} (h : valE vs t.b = none) : ¬ TestP vs t := by rintro ⟨a, b, _, h3, _⟩; rw [h] at h3; cases h3
set_option maxHeartbeats 1000000 in
theorem test_q {fz : FZ} {S : GState} {u1 u2 : Value} {t : GTest} {w1 w2 : Value} (hs : GStateR fz S u1 u2) (ht : GTestR fz t w1 w2) (hok : TestOk S.values.length t) (hin : InB S.values) :
    QFn Tryz.prog 76 [sV u1 u2, tV t w1 w2] fz (.bool (decide (TestP S.values t))) := by
  obtain ⟨za, qa⟩ := value_aux _ (Nat.le_refl _) hs ht.a hok.2.1 hin
  obtain ⟨zb, qb⟩ := value_aux _ (Nat.le_refl _) hs ht.b hok.2.2 hin
  (obtain ⟨B1, m1, d1, rfl, st⟩ := hs.tru; obtain ⟨B2, m2, d2, rfl, sv⟩ := hs.values)
  obtain ⟨Ea, na, ca, rfl, _⟩ := ht.a.kids
  obtain ⟨Eb, nb, cb, rfl, _⟩ := ht.b.kids
  refine GFn.quiet ?_
  (refine GFn.of_wp Tryz.func76 rfl Tryz.ntmps76 rfl rfl (fun w0 => ?_))
  cases va0 : valE S.values t.a with
  | none =>
    rw [va0] at qa
    ((refine Wp.seq ?_; refine Wp.region ?_; refine Seq.stepK (by exact rfl) (k_box _ (by exact rfl) (by exact rfl) (fun _ => ?_)); refine Seq.stepK (by exact rfl) (k_box _ (by exact rfl) (by exact rfl) (fun _ => ?_)); refine Zq ?_; refine Za ?_; refine Seq.done ?_; refine Wp.seq ?_; refine Wp.region ?_; refine Zq ?_; refine ZL T 1 ?_; refine Zq ?_; refine Zf T ?_))
    (((refine Zq ?_)); refine q_load_own_sub (vs := [.string t.a.op, .int .i64 t.a.n, .slice Ea na ca]) T 0 (by exact rfl) (by exact rfl) (by exact rfl) (by exact rfl) (by exact rfl) (by exact rfl) ?_)
    (skip)
    (((refine Zq ?_)); refine q_call (by exact rfl) (by exact rfl) qa ?_)
    ((refine Zq ?_; refine Zm ?_; refine Zq ?_; refine q_extract (by exact rfl) (by exact rfl) ?_; refine Zq ?_; refine q_extract (by exact rfl) (by exact rfl) ?_; refine Zq ?_; refine Za ?_; refine Zq ?_; refine Za ?_; refine Seq.done ?_; refine Wp.seq ?_; refine Wp.region ?_; refine Zq ?_; refine ZL T 1 ?_; refine Zq ?_; refine Zf T ?_))
    (((refine Zq ?_)); refine q_load_own_sub (vs := [.string t.b.op, .int .i64 t.b.n, .slice Eb nb cb]) T 0 (by exact rfl) (by exact rfl) (by exact rfl) (by exact rfl) (by exact rfl) (by exact rfl) ?_)
    (skip)
    (((refine Zq ?_)); refine q_call (by exact rfl) (by exact rfl) qb ?_)
    ((refine Zq ?_; refine Zm ?_; refine Zq ?_; refine q_extract (by exact rfl) (by exact rfl) ?_; refine Zq ?_; refine q_extract (by exact rfl) (by exact rfl) ?_; refine Zq ?_; refine Za ?_; refine Zq ?_; refine Za ?_; refine Seq.done ?_; refine Wp.seq ?_; refine Wp.region ?_; refine Zq ?_; refine Zm ?_; refine Zq ?_; refine Zm ?_; refine Zn ?_; refine Zq ?_; refine Zu ?_; refine Zq ?_; refine Zm ?_; refine Zn ?_; refine Zn ?_; refine Zn ?_; refine Zn ?_; refine Zo ?_; refine Zo ?_; refine Zo ?_; refine Zn ?_; refine Zn ?_; refine Zo ?_; refine Zo ?_; refine Zo ?_; refine Zo ?_; refine Zo ?_; refine Zo ?_; refine Zo ?_; refine Zo ?_; refine Zn ?_; refine Zn ?_; refine Zo ?_; refine Zo ?_; refine Zo ?_; refine Zo ?_; refine Zo ?_; refine Zo ?_; refine Zo ?_; refine Zo ?_; refine Zn ?_; refine Zq ?_; refine Zu ?_; refine Zq ?_; refine Za ?_; refine Seq.done ?_; refine Wp.ret ?_))
    (exact ret1 rfl rfl (by repeat (first | exact List.Sublist.refl _ | exact List.nil_sublist _ | refine List.Sublist.cons_cons _ ?_ | refine List.Sublist.cons _ ?_)) (bool_false (test_no1 va0)))
  | some x =>
    rw [va0] at qa
    cases vb0 : valE S.values t.b with
    | none =>
      rw [vb0] at qb
      ((refine Wp.seq ?_; refine Wp.region ?_; refine Seq.stepK (by exact rfl) (k_box _ (by exact rfl) (by exact rfl) (fun _ => ?_)); refine Seq.stepK (by exact rfl) (k_box _ (by exact rfl) (by exact rfl) (fun _ => ?_)); refine Zq ?_; refine Za ?_; refine Seq.done ?_; refine Wp.seq ?_; refine Wp.region ?_; refine Zq ?_; refine ZL T 1 ?_; refine Zq ?_; refine Zf T ?_))
      (((refine Zq ?_)); refine q_load_own_sub (vs := [.string t.a.op, .int .i64 t.a.n, .slice Ea na ca]) T 0 (by exact rfl) (by exact rfl) (by exact rfl) (by exact rfl) (by exact rfl) (by exact rfl) ?_)
      (skip)
      (((refine Zq ?_)); refine q_call (by exact rfl) (by exact rfl) qa ?_)
      ((refine Zq ?_; refine Zm ?_; refine Zq ?_; refine q_extract (by exact rfl) (by exact rfl) ?_; refine Zq ?_; refine q_extract (by exact rfl) (by exact rfl) ?_; refine Zq ?_; refine Za ?_; refine Zq ?_; refine Za ?_; refine Seq.done ?_; refine Wp.seq ?_; refine Wp.region ?_; refine Zq ?_; refine ZL T 1 ?_; refine Zq ?_; refine Zf T ?_))
      (((refine Zq ?_)); refine q_load_own_sub (vs := [.string t.b.op, .int .i64 t.b.n, .slice Eb nb cb]) T 0 (by exact rfl) (by exact rfl) (by exact rfl) (by exact rfl) (by exact rfl) (by exact rfl) ?_)
      (skip)
      (((refine Zq ?_)); refine q_call (by exact rfl) (by exact rfl) qb ?_)
      ((refine Zq ?_; refine Zm ?_; refine Zq ?_; refine q_extract (by exact rfl) (by exact rfl) ?_; refine Zq ?_; refine q_extract (by exact rfl) (by exact rfl) ?_; refine Zq ?_; refine Za ?_; refine Zq ?_; refine Za ?_; refine Seq.done ?_; refine Wp.seq ?_; refine Wp.region ?_; refine Zq ?_; refine Zm ?_; refine Zq ?_; refine Zm ?_; refine Zy ?_; refine Zm ?_; refine Zq ?_; refine Zt ?_; refine Zq ?_; refine Zm ?_; refine Zn ?_; refine Zn ?_; refine Zn ?_; refine Zn ?_; refine Zo ?_; refine Zo ?_; refine Zo ?_; refine Zn ?_; refine Zn ?_; refine Zo ?_; refine Zo ?_; refine Zo ?_; refine Zo ?_; refine Zo ?_; refine Zo ?_; refine Zo ?_; refine Zo ?_; refine Zn ?_; refine Zn ?_; refine Zo ?_; refine Zo ?_; refine Zo ?_; refine Zo ?_; refine Zo ?_; refine Zo ?_; refine Zo ?_; refine Zo ?_; refine Zn ?_; refine Zq ?_; refine Zu ?_; refine Zq ?_; refine Za ?_; refine Seq.done ?_; refine Wp.ret ?_))
      (exact ret1 rfl rfl (by repeat (first | exact List.Sublist.refl _ | exact List.nil_sublist _ | refine List.Sublist.cons_cons _ ?_ | refine List.Sublist.cons _ ?_)) (bool_false (test_no2 vb0)))
    | some y =>
      rw [vb0] at qb
      have qa' : QFn Tryz.prog _ _ fz (.tuple #[.int .i64 x, .bool true]) := qa
      have qb' : QFn Tryz.prog _ _ fz (.tuple #[.int .i64 y, .bool true]) := qb
      have ti := test_iff va0 vb0
      ((refine Wp.seq ?_; refine Wp.region ?_; refine Seq.stepK (by exact rfl) (k_box _ (by exact rfl) (by exact rfl) (fun _ => ?_)); refine Seq.stepK (by exact rfl) (k_box _ (by exact rfl) (by exact rfl) (fun _ => ?_)); refine Zq ?_; refine Za ?_; refine Seq.done ?_; refine Wp.seq ?_; refine Wp.region ?_; refine Zq ?_; refine ZL T 1 ?_; refine Zq ?_; refine Zf T ?_))
      (((refine Zq ?_)); refine q_load_own_sub (vs := [.string t.a.op, .int .i64 t.a.n, .slice Ea na ca]) T 0 (by exact rfl) (by exact rfl) (by exact rfl) (by exact rfl) (by exact rfl) (by exact rfl) ?_)
      (skip)
      (((refine Zq ?_)); refine q_call (by exact rfl) (by exact rfl) qa' ?_)
      ((refine Zq ?_; refine Zm ?_; refine Zq ?_; refine q_extract (by exact rfl) (by exact rfl) ?_; refine Zq ?_; refine q_extract (by exact rfl) (by exact rfl) ?_; refine Zq ?_; refine Za ?_; refine Zq ?_; refine Za ?_; refine Seq.done ?_; refine Wp.seq ?_; refine Wp.region ?_; refine Zq ?_; refine ZL T 1 ?_; refine Zq ?_; refine Zf T ?_))
      (((refine Zq ?_)); refine q_load_own_sub (vs := [.string t.b.op, .int .i64 t.b.n, .slice Eb nb cb]) T 0 (by exact rfl) (by exact rfl) (by exact rfl) (by exact rfl) (by exact rfl) (by exact rfl) ?_)
      (skip)
      (((refine Zq ?_)); refine q_call (by exact rfl) (by exact rfl) qb' ?_)
      rcases hok.1 with ho | ho | ho
      · have o2 : ¬ t.op = kLe := by rw [ho]; exact bytes_ne (by decide)
        have o3 : ¬ t.op = kEq := by rw [ho]; exact bytes_ne (by decide)
        ((refine Zq ?_; refine Zm ?_; refine Zq ?_; refine q_extract (by exact rfl) (by exact rfl) ?_; refine Zq ?_; refine q_extract (by exact rfl) (by exact rfl) ?_; refine Zq ?_; refine Za ?_; refine Zq ?_; refine Za ?_; refine Seq.done ?_; refine Wp.seq ?_; refine Wp.region ?_; refine Zq ?_; refine Zm ?_; refine Zq ?_; refine Zm ?_; refine Zy ?_; refine Zm ?_; refine Zq ?_; refine Zt ?_; refine Zq ?_; refine Zm ?_; refine Zy ?_; refine Zf T ?_; refine Zy ?_; refine Zl T 0 ?_))
        (((refine Zy ?_)); (refine q_eql_strD (by exact rfl) (by exact rfl) (fun p1 => ?_) (fun n1 => ?_)))
        · ((refine Zy ?_; refine Zm ?_; refine Zy ?_; refine Zm ?_; refine Zy ?_; refine Zm ?_))
          (((refine Zy ?_)); (refine q_lssD (by exact rfl) (by exact rfl) (fun c1 => ?_) (fun c1 => ?_)))
          · ((refine Zy ?_; refine Zt ?_; refine Zy ?_; refine Zm ?_; refine Zn ?_; refine Zn ?_; refine Zn ?_; refine Zn ?_; refine Zo ?_; refine Zo ?_; refine Zo ?_; refine Zn ?_; refine Zy ?_; refine Zt ?_; refine Zy ?_; refine Zm ?_; refine Zn ?_; refine Zn ?_; refine Zn ?_; refine Zn ?_; refine Zo ?_; refine Zo ?_; refine Zo ?_; refine Zn ?_; refine Zy ?_; refine Zt ?_; refine Zq ?_; refine Zt ?_; refine Zq ?_; refine Za ?_; refine Seq.done ?_; refine Wp.ret ?_))
            (exact ret1 rfl rfl (by repeat (first | exact List.Sublist.refl _ | exact List.nil_sublist _ | refine List.Sublist.cons_cons _ ?_ | refine List.Sublist.cons _ ?_)) (bool_true (ti.2 (.inl ⟨ho, c1⟩))))
          · ((refine Zy ?_; refine Zt ?_; refine Zy ?_; refine Zm ?_; refine Zy ?_; refine Zf T ?_; refine Zy ?_; refine Zl T 0 ?_))
            (((refine Zy ?_)); (refine q_eql_strD (by exact rfl) (by exact rfl) (fun p2 => ?_) (fun n2 => ?_)))
            · exact absurd p2 o2
            · ((refine Zy ?_; refine Zm ?_; refine Zn ?_; refine Zn ?_; refine Zn ?_; refine Zy ?_; refine Zu ?_; refine Zy ?_; refine Zu ?_; refine Zy ?_; refine Zm ?_; refine Zy ?_; refine Zf T ?_; refine Zy ?_; refine Zl T 0 ?_))
              (((refine Zy ?_)); (refine q_eql_strD (by exact rfl) (by exact rfl) (fun p3 => ?_) (fun n3 => ?_)))
              · exact absurd p3 o3
              · ((refine Zy ?_; refine Zm ?_; refine Zn ?_; refine Zn ?_; refine Zn ?_; refine Zy ?_; refine Zu ?_; refine Zy ?_; refine Zu ?_; refine Zq ?_; refine Zt ?_; refine Zq ?_; refine Za ?_; refine Seq.done ?_; refine Wp.ret ?_))
                (exact ret1 rfl rfl (by repeat (first | exact List.Sublist.refl _ | exact List.nil_sublist _ | refine List.Sublist.cons_cons _ ?_ | refine List.Sublist.cons _ ?_)) (bool_false (fun h => (ti.1 h).elim (fun h => c1 h.2) (fun h => h.elim (fun h => o2 h.1) (fun h => o3 h.1)))))
        · exact absurd ho n1
      · have o1 : ¬ t.op = kLt := by rw [ho]; exact bytes_ne (by decide)
        have o3 : ¬ t.op = kEq := by rw [ho]; exact bytes_ne (by decide)
        ((refine Zq ?_; refine Zm ?_; refine Zq ?_; refine q_extract (by exact rfl) (by exact rfl) ?_; refine Zq ?_; refine q_extract (by exact rfl) (by exact rfl) ?_; refine Zq ?_; refine Za ?_; refine Zq ?_; refine Za ?_; refine Seq.done ?_; refine Wp.seq ?_; refine Wp.region ?_; refine Zq ?_; refine Zm ?_; refine Zq ?_; refine Zm ?_; refine Zy ?_; refine Zm ?_; refine Zq ?_; refine Zt ?_; refine Zq ?_; refine Zm ?_; refine Zy ?_; refine Zf T ?_; refine Zy ?_; refine Zl T 0 ?_))
        (((refine Zy ?_)); (refine q_eql_strD (by exact rfl) (by exact rfl) (fun p1 => ?_) (fun n1 => ?_)))
        · exact absurd p1 o1
        · ((refine Zy ?_; refine Zm ?_; refine Zn ?_; refine Zn ?_; refine Zn ?_; refine Zy ?_; refine Zu ?_; refine Zy ?_; refine Zm ?_; refine Zy ?_; refine Zf T ?_; refine Zy ?_; refine Zl T 0 ?_))
          (((refine Zy ?_)); (refine q_eql_strD (by exact rfl) (by exact rfl) (fun p2 => ?_) (fun n2 => ?_)))
          · ((refine Zy ?_; refine Zm ?_; refine Zy ?_; refine Zm ?_; refine Zy ?_; refine Zm ?_))
            (((refine Zy ?_)); (refine q_leqD (by exact rfl) (by exact rfl) (fun c1 => ?_) (fun c1 => ?_)))
            · ((refine Zy ?_; refine Zt ?_; refine Zy ?_; refine Zu ?_; refine Zy ?_; refine Zm ?_; refine Zn ?_; refine Zn ?_; refine Zn ?_; refine Zn ?_; refine Zo ?_; refine Zo ?_; refine Zo ?_; refine Zn ?_; refine Zy ?_; refine Zt ?_; refine Zq ?_; refine Zt ?_; refine Zq ?_; refine Za ?_; refine Seq.done ?_; refine Wp.ret ?_))
              (exact ret1 rfl rfl (by repeat (first | exact List.Sublist.refl _ | exact List.nil_sublist _ | refine List.Sublist.cons_cons _ ?_ | refine List.Sublist.cons _ ?_)) (bool_true (ti.2 (.inr (.inl ⟨ho, c1⟩)))))
            · ((refine Zy ?_; refine Zt ?_; refine Zy ?_; refine Zu ?_; refine Zy ?_; refine Zm ?_; refine Zy ?_; refine Zf T ?_; refine Zy ?_; refine Zl T 0 ?_))
              (((refine Zy ?_)); (refine q_eql_strD (by exact rfl) (by exact rfl) (fun p3 => ?_) (fun n3 => ?_)))
              · exact absurd p3 o3
              · ((refine Zy ?_; refine Zm ?_; refine Zn ?_; refine Zn ?_; refine Zn ?_; refine Zy ?_; refine Zu ?_; refine Zy ?_; refine Zu ?_; refine Zq ?_; refine Zt ?_; refine Zq ?_; refine Za ?_; refine Seq.done ?_; refine Wp.ret ?_))
                (exact ret1 rfl rfl (by repeat (first | exact List.Sublist.refl _ | exact List.nil_sublist _ | refine List.Sublist.cons_cons _ ?_ | refine List.Sublist.cons _ ?_)) (bool_false (fun h => (ti.1 h).elim (fun h => o1 h.1) (fun h => h.elim (fun h => c1 h.2) (fun h => o3 h.1)))))
          · exact absurd ho n2
      · have o1 : ¬ t.op = kLt := by rw [ho]; exact bytes_ne (by decide)
        have o2 : ¬ t.op = kLe := by rw [ho]; exact bytes_ne (by decide)
        ((refine Zq ?_; refine Zm ?_; refine Zq ?_; refine q_extract (by exact rfl) (by exact rfl) ?_; refine Zq ?_; refine q_extract (by exact rfl) (by exact rfl) ?_; refine Zq ?_; refine Za ?_; refine Zq ?_; refine Za ?_; refine Seq.done ?_; refine Wp.seq ?_; refine Wp.region ?_; refine Zq ?_; refine Zm ?_; refine Zq ?_; refine Zm ?_; refine Zy ?_; refine Zm ?_; refine Zq ?_; refine Zt ?_; refine Zq ?_; refine Zm ?_; refine Zy ?_; refine Zf T ?_; refine Zy ?_; refine Zl T 0 ?_))
        (((refine Zy ?_)); (refine q_eql_strD (by exact rfl) (by exact rfl) (fun p1 => ?_) (fun n1 => ?_)))
        · exact absurd p1 o1
        · ((refine Zy ?_; refine Zm ?_; refine Zn ?_; refine Zn ?_; refine Zn ?_; refine Zy ?_; refine Zu ?_; refine Zy ?_; refine Zm ?_; refine Zy ?_; refine Zf T ?_; refine Zy ?_; refine Zl T 0 ?_))
          (((refine Zy ?_)); (refine q_eql_strD (by exact rfl) (by exact rfl) (fun p2 => ?_) (fun n2 => ?_)))
          · exact absurd p2 o2
          · ((refine Zy ?_; refine Zm ?_; refine Zn ?_; refine Zn ?_; refine Zn ?_; refine Zy ?_; refine Zu ?_; refine Zy ?_; refine Zu ?_; refine Zy ?_; refine Zm ?_; refine Zy ?_; refine Zf T ?_; refine Zy ?_; refine Zl T 0 ?_))
            (((refine Zy ?_)); (refine q_eql_strD (by exact rfl) (by exact rfl) (fun p3 => ?_) (fun n3 => ?_)))
            · ((refine Zy ?_; refine Zm ?_; refine Zy ?_; refine Zm ?_; refine Zy ?_; refine Zm ?_))
              (((refine Zy ?_)); (refine q_eqlD (by exact rfl) (by exact rfl) (fun c1 => ?_) (fun c1 => ?_)))
              · ((refine Zy ?_; refine Zt ?_; refine Zy ?_; refine Zu ?_; refine Zq ?_; refine Zt ?_; refine Zq ?_; refine Za ?_; refine Seq.done ?_; refine Wp.ret ?_))
                (exact ret1 rfl rfl (by repeat (first | exact List.Sublist.refl _ | exact List.nil_sublist _ | refine List.Sublist.cons_cons _ ?_ | refine List.Sublist.cons _ ?_)) (bool_true (ti.2 (.inr (.inr ⟨ho, c1⟩)))))
              · ((refine Zy ?_; refine Zt ?_; refine Zy ?_; refine Zu ?_; refine Zq ?_; refine Zt ?_; refine Zq ?_; refine Za ?_; refine Seq.done ?_; refine Wp.ret ?_))
                (exact ret1 rfl rfl (by repeat (first | exact List.Sublist.refl _ | exact List.nil_sublist _ | refine List.Sublist.cons_cons _ ?_ | refine List.Sublist.cons _ ?_)) (bool_false (fun h => (ti.1 h).elim (fun h => o1 h.1) (fun h => h.elim (fun h => o2 h.1) (fun h => c1 h.2)))))
            · exact absurd ho n3
set_option maxHeartbeats 1000000 in
theorem rtest_q {fz : FZ} {S : GState} {u1 u2 : Value} {t : GTest} {w1 w2 : Value} (hs : GStateR fz S u1 u2) (ht : GTestR fz t w1 w2) (hok : TestOk S.values.length t) (hin : InB S.values) :
    QFn Tryz.prog 54 [sV u1 u2, tV t w1 w2] fz (.bool (decide (TestP S.values t))) := by
  obtain ⟨za, qa⟩ := rvalue_aux _ (Nat.le_refl _) hs ht.a hok.2.1 hin
  obtain ⟨zb, qb⟩ := rvalue_aux _ (Nat.le_refl _) hs ht.b hok.2.2 hin
  (obtain ⟨B1, m1, d1, rfl, st⟩ := hs.tru; obtain ⟨B2, m2, d2, rfl, sv⟩ := hs.values)
  obtain ⟨Ea, na, ca, rfl, _⟩ := ht.a.kids
  obtain ⟨Eb, nb, cb, rfl, _⟩ := ht.b.kids
  refine GFn.quiet ?_
  (refine GFn.of_wp Tryz.func54 rfl Tryz.ntmps54 rfl rfl (fun w0 => ?_))
  cases va0 : valE S.values t.a with
  | none =>
    rw [va0] at qa
    ((refine Wp.seq ?_; refine Wp.region ?_; refine Seq.stepK (by exact rfl) (k_box _ (by exact rfl) (by exact rfl) (fun _ => ?_)); refine Seq.stepK (by exact rfl) (k_box _ (by exact rfl) (by exact rfl) (fun _ => ?_)); refine Zq ?_; refine Za ?_; refine Seq.done ?_; refine Wp.seq ?_; refine Wp.region ?_; refine Zq ?_; refine ZL T 1 ?_; refine Zq ?_; refine Zf T ?_))
    (((refine Zq ?_)); refine q_load_own_sub (vs := [.string t.a.op, .int .i64 t.a.n, .slice Ea na ca]) T 0 (by exact rfl) (by exact rfl) (by exact rfl) (by exact rfl) (by exact rfl) (by exact rfl) ?_)
    (skip)
    (((refine Zq ?_)); refine q_call (by exact rfl) (by exact rfl) qa ?_)
    ((refine Zq ?_; refine Zm ?_; refine Zq ?_; refine q_extract (by exact rfl) (by exact rfl) ?_; refine Zq ?_; refine q_extract (by exact rfl) (by exact rfl) ?_; refine Zq ?_; refine Za ?_; refine Zq ?_; refine Za ?_; refine Seq.done ?_; refine Wp.seq ?_; refine Wp.region ?_; refine Zq ?_; refine ZL T 1 ?_; refine Zq ?_; refine Zf T ?_))
    (((refine Zq ?_)); refine q_load_own_sub (vs := [.string t.b.op, .int .i64 t.b.n, .slice Eb nb cb]) T 0 (by exact rfl) (by exact rfl) (by exact rfl) (by exact rfl) (by exact rfl) (by exact rfl) ?_)
    (skip)
    (((refine Zq ?_)); refine q_call (by exact rfl) (by exact rfl) qb ?_)
    ((refine Zq ?_; refine Zm ?_; refine Zq ?_; refine q_extract (by exact rfl) (by exact rfl) ?_; refine Zq ?_; refine q_extract (by exact rfl) (by exact rfl) ?_; refine Zq ?_; refine Za ?_; refine Zq ?_; refine Za ?_; refine Seq.done ?_; refine Wp.seq ?_; refine Wp.region ?_; refine Zq ?_; refine Zm ?_; refine Zq ?_; refine Zm ?_; refine Zn ?_; refine Zq ?_; refine Zu ?_; refine Zq ?_; refine Zm ?_; refine Zn ?_; refine Zn ?_; refine Zn ?_; refine Zn ?_; refine Zo ?_; refine Zo ?_; refine Zo ?_; refine Zn ?_; refine Zn ?_; refine Zo ?_; refine Zo ?_; refine Zo ?_; refine Zo ?_; refine Zo ?_; refine Zo ?_; refine Zo ?_; refine Zo ?_; refine Zn ?_; refine Zn ?_; refine Zo ?_; refine Zo ?_; refine Zo ?_; refine Zo ?_; refine Zo ?_; refine Zo ?_; refine Zo ?_; refine Zo ?_; refine Zn ?_; refine Zq ?_; refine Zu ?_; refine Zq ?_; refine Za ?_; refine Seq.done ?_; refine Wp.ret ?_))
    (exact ret1 rfl rfl (by repeat (first | exact List.Sublist.refl _ | exact List.nil_sublist _ | refine List.Sublist.cons_cons _ ?_ | refine List.Sublist.cons _ ?_)) (bool_false (test_no1 va0)))
  | some x =>
    rw [va0] at qa
    cases vb0 : valE S.values t.b with
    | none =>
      rw [vb0] at qb
      ((refine Wp.seq ?_; refine Wp.region ?_; refine Seq.stepK (by exact rfl) (k_box _ (by exact rfl) (by exact rfl) (fun _ => ?_)); refine Seq.stepK (by exact rfl) (k_box _ (by exact rfl) (by exact rfl) (fun _ => ?_)); refine Zq ?_; refine Za ?_; refine Seq.done ?_; refine Wp.seq ?_; refine Wp.region ?_; refine Zq ?_; refine ZL T 1 ?_; refine Zq ?_; refine Zf T ?_))
      (((refine Zq ?_)); refine q_load_own_sub (vs := [.string t.a.op, .int .i64 t.a.n, .slice Ea na ca]) T 0 (by exact rfl) (by exact rfl) (by exact rfl) (by exact rfl) (by exact rfl) (by exact rfl) ?_)
      (skip)
      (((refine Zq ?_)); refine q_call (by exact rfl) (by exact rfl) qa ?_)
      ((refine Zq ?_; refine Zm ?_; refine Zq ?_; refine q_extract (by exact rfl) (by exact rfl) ?_; refine Zq ?_; refine q_extract (by exact rfl) (by exact rfl) ?_; refine Zq ?_; refine Za ?_; refine Zq ?_; refine Za ?_; refine Seq.done ?_; refine Wp.seq ?_; refine Wp.region ?_; refine Zq ?_; refine ZL T 1 ?_; refine Zq ?_; refine Zf T ?_))
      (((refine Zq ?_)); refine q_load_own_sub (vs := [.string t.b.op, .int .i64 t.b.n, .slice Eb nb cb]) T 0 (by exact rfl) (by exact rfl) (by exact rfl) (by exact rfl) (by exact rfl) (by exact rfl) ?_)
      (skip)
      (((refine Zq ?_)); refine q_call (by exact rfl) (by exact rfl) qb ?_)
      ((refine Zq ?_; refine Zm ?_; refine Zq ?_; refine q_extract (by exact rfl) (by exact rfl) ?_; refine Zq ?_; refine q_extract (by exact rfl) (by exact rfl) ?_; refine Zq ?_; refine Za ?_; refine Zq ?_; refine Za ?_; refine Seq.done ?_; refine Wp.seq ?_; refine Wp.region ?_; refine Zq ?_; refine Zm ?_; refine Zq ?_; refine Zm ?_; refine Zy ?_; refine Zm ?_; refine Zq ?_; refine Zt ?_; refine Zq ?_; refine Zm ?_; refine Zn ?_; refine Zn ?_; refine Zn ?_; refine Zn ?_; refine Zo ?_; refine Zo ?_; refine Zo ?_; refine Zn ?_; refine Zn ?_; refine Zo ?_; refine Zo ?_; refine Zo ?_; refine Zo ?_; refine Zo ?_; refine Zo ?_; refine Zo ?_; refine Zo ?_; refine Zn ?_; refine Zn ?_; refine Zo ?_; refine Zo ?_; refine Zo ?_; refine Zo ?_; refine Zo ?_; refine Zo ?_; refine Zo ?_; refine Zo ?_; refine Zn ?_; refine Zq ?_; refine Zu ?_; refine Zq ?_; refine Za ?_; refine Seq.done ?_; refine Wp.ret ?_))
      (exact ret1 rfl rfl (by repeat (first | exact List.Sublist.refl _ | exact List.nil_sublist _ | refine List.Sublist.cons_cons _ ?_ | refine List.Sublist.cons _ ?_)) (bool_false (test_no2 vb0)))
    | some y =>
      rw [vb0] at qb
      have qa' : QFn Tryz.prog _ _ fz (.tuple #[.int .i64 x, .bool true]) := qa
      have qb' : QFn Tryz.prog _ _ fz (.tuple #[.int .i64 y, .bool true]) := qb
      have ti := test_iff va0 vb0
      ((refine Wp.seq ?_; refine Wp.region ?_; refine Seq.stepK (by exact rfl) (k_box _ (by exact rfl) (by exact rfl) (fun _ => ?_)); refine Seq.stepK (by exact rfl) (k_box _ (by exact rfl) (by exact rfl) (fun _ => ?_)); refine Zq ?_; refine Za ?_; refine Seq.done ?_; refine Wp.seq ?_; refine Wp.region ?_; refine Zq ?_; refine ZL T 1 ?_; refine Zq ?_; refine Zf T ?_))
      (((refine Zq ?_)); refine q_load_own_sub (vs := [.string t.a.op, .int .i64 t.a.n, .slice Ea na ca]) T 0 (by exact rfl) (by exact rfl) (by exact rfl) (by exact rfl) (by exact rfl) (by exact rfl) ?_)
      (skip)
      (((refine Zq ?_)); refine q_call (by exact rfl) (by exact rfl) qa' ?_)
      ((refine Zq ?_; refine Zm ?_; refine Zq ?_; refine q_extract (by exact rfl) (by exact rfl) ?_; refine Zq ?_; refine q_extract (by exact rfl) (by exact rfl) ?_; refine Zq ?_; refine Za ?_; refine Zq ?_; refine Za ?_; refine Seq.done ?_; refine Wp.seq ?_; refine Wp.region ?_; refine Zq ?_; refine ZL T 1 ?_; refine Zq ?_; refine Zf T ?_))
      (((refine Zq ?_)); refine q_load_own_sub (vs := [.string t.b.op, .int .i64 t.b.n, .slice Eb nb cb]) T 0 (by exact rfl) (by exact rfl) (by exact rfl) (by exact rfl) (by exact rfl) (by exact rfl) ?_)
      (skip)
      (((refine Zq ?_)); refine q_call (by exact rfl) (by exact rfl) qb' ?_)
      rcases hok.1 with ho | ho | ho
      · have o2 : ¬ t.op = kLe := by rw [ho]; exact bytes_ne (by decide)
        have o3 : ¬ t.op = kEq := by rw [ho]; exact bytes_ne (by decide)
        ((refine Zq ?_; refine Zm ?_; refine Zq ?_; refine q_extract (by exact rfl) (by exact rfl) ?_; refine Zq ?_; refine q_extract (by exact rfl) (by exact rfl) ?_; refine Zq ?_; refine Za ?_; refine Zq ?_; refine Za ?_; refine Seq.done ?_; refine Wp.seq ?_; refine Wp.region ?_; refine Zq ?_; refine Zm ?_; refine Zq ?_; refine Zm ?_; refine Zy ?_; refine Zm ?_; refine Zq ?_; refine Zt ?_; refine Zq ?_; refine Zm ?_; refine Zy ?_; refine Zf T ?_; refine Zy ?_; refine Zl T 0 ?_))
        (((refine Zy ?_)); (refine q_eql_strD (by exact rfl) (by exact rfl) (fun p1 => ?_) (fun n1 => ?_)))
        · ((refine Zy ?_; refine Zm ?_; refine Zy ?_; refine Zm ?_; refine Zy ?_; refine Zm ?_))
          (((refine Zy ?_)); (refine q_lssD (by exact rfl) (by exact rfl) (fun c1 => ?_) (fun c1 => ?_)))
          · ((refine Zy ?_; refine Zt ?_; refine Zy ?_; refine Zm ?_; refine Zn ?_; refine Zn ?_; refine Zn ?_; refine Zn ?_; refine Zo ?_; refine Zo ?_; refine Zo ?_; refine Zn ?_; refine Zy ?_; refine Zt ?_; refine Zy ?_; refine Zm ?_; refine Zn ?_; refine Zn ?_; refine Zn ?_; refine Zn ?_; refine Zo ?_; refine Zo ?_; refine Zo ?_; refine Zn ?_; refine Zy ?_; refine Zt ?_; refine Zq ?_; refine Zt ?_; refine Zq ?_; refine Za ?_; refine Seq.done ?_; refine Wp.ret ?_))
            (exact ret1 rfl rfl (by repeat (first | exact List.Sublist.refl _ | exact List.nil_sublist _ | refine List.Sublist.cons_cons _ ?_ | refine List.Sublist.cons _ ?_)) (bool_true (ti.2 (.inl ⟨ho, c1⟩))))
          · ((refine Zy ?_; refine Zt ?_; refine Zy ?_; refine Zm ?_; refine Zy ?_; refine Zf T ?_; refine Zy ?_; refine Zl T 0 ?_))
            (((refine Zy ?_)); (refine q_eql_strD (by exact rfl) (by exact rfl) (fun p2 => ?_) (fun n2 => ?_)))
            · exact absurd p2 o2
            · ((refine Zy ?_; refine Zm ?_; refine Zn ?_; refine Zn ?_; refine Zn ?_; refine Zy ?_; refine Zu ?_; refine Zy ?_; refine Zu ?_; refine Zy ?_; refine Zm ?_; refine Zy ?_; refine Zf T ?_; refine Zy ?_; refine Zl T 0 ?_))
              (((refine Zy ?_)); (refine q_eql_strD (by exact rfl) (by exact rfl) (fun p3 => ?_) (fun n3 => ?_)))
              · exact absurd p3 o3
              · ((refine Zy ?_; refine Zm ?_; refine Zn ?_; refine Zn ?_; refine Zn ?_; refine Zy ?_; refine Zu ?_; refine Zy ?_; refine Zu ?_; refine Zq ?_; refine Zt ?_; refine Zq ?_; refine Za ?_; refine Seq.done ?_; refine Wp.ret ?_))
                (exact ret1 rfl rfl (by repeat (first | exact List.Sublist.refl _ | exact List.nil_sublist _ | refine List.Sublist.cons_cons _ ?_ | refine List.Sublist.cons _ ?_)) (bool_false (fun h => (ti.1 h).elim (fun h => c1 h.2) (fun h => h.elim (fun h => o2 h.1) (fun h => o3 h.1)))))
        · exact absurd ho n1
      · have o1 : ¬ t.op = kLt := by rw [ho]; exact bytes_ne (by decide)
        have o3 : ¬ t.op = kEq := by rw [ho]; exact bytes_ne (by decide)
        ((refine Zq ?_; refine Zm ?_; refine Zq ?_; refine q_extract (by exact rfl) (by exact rfl) ?_; refine Zq ?_; refine q_extract (by exact rfl) (by exact rfl) ?_; refine Zq ?_; refine Za ?_; refine Zq ?_; refine Za ?_; refine Seq.done ?_; refine Wp.seq ?_; refine Wp.region ?_; refine Zq ?_; refine Zm ?_; refine Zq ?_; refine Zm ?_; refine Zy ?_; refine Zm ?_; refine Zq ?_; refine Zt ?_; refine Zq ?_; refine Zm ?_; refine Zy ?_; refine Zf T ?_; refine Zy ?_; refine Zl T 0 ?_))
        (((refine Zy ?_)); (refine q_eql_strD (by exact rfl) (by exact rfl) (fun p1 => ?_) (fun n1 => ?_)))
        · exact absurd p1 o1
        · ((refine Zy ?_; refine Zm ?_; refine Zn ?_; refine Zn ?_; refine Zn ?_; refine Zy ?_; refine Zu ?_; refine Zy ?_; refine Zm ?_; refine Zy ?_; refine Zf T ?_; refine Zy ?_; refine Zl T 0 ?_))
          (((refine Zy ?_)); (refine q_eql_strD (by exact rfl) (by exact rfl) (fun p2 => ?_) (fun n2 => ?_)))
          · ((refine Zy ?_; refine Zm ?_; refine Zy ?_; refine Zm ?_; refine Zy ?_; refine Zm ?_))
            (((refine Zy ?_)); (refine q_leqD (by exact rfl) (by exact rfl) (fun c1 => ?_) (fun c1 => ?_)))
            · ((refine Zy ?_; refine Zt ?_; refine Zy ?_; refine Zu ?_; refine Zy ?_; refine Zm ?_; refine Zn ?_; refine Zn ?_; refine Zn ?_; refine Zn ?_; refine Zo ?_; refine Zo ?_; refine Zo ?_; refine Zn ?_; refine Zy ?_; refine Zt ?_; refine Zq ?_; refine Zt ?_; refine Zq ?_; refine Za ?_; refine Seq.done ?_; refine Wp.ret ?_))
              (exact ret1 rfl rfl (by repeat (first | exact List.Sublist.refl _ | exact List.nil_sublist _ | refine List.Sublist.cons_cons _ ?_ | refine List.Sublist.cons _ ?_)) (bool_true (ti.2 (.inr (.inl ⟨ho, c1⟩)))))
            · ((refine Zy ?_; refine Zt ?_; refine Zy ?_; refine Zu ?_; refine Zy ?_; refine Zm ?_; refine Zy ?_; refine Zf T ?_; refine Zy ?_; refine Zl T 0 ?_))
              (((refine Zy ?_)); (refine q_eql_strD (by exact rfl) (by exact rfl) (fun p3 => ?_) (fun n3 => ?_)))
              · exact absurd p3 o3
              · ((refine Zy ?_; refine Zm ?_; refine Zn ?_; refine Zn ?_; refine Zn ?_; refine Zy ?_; refine Zu ?_; refine Zy ?_; refine Zu ?_; refine Zq ?_; refine Zt ?_; refine Zq ?_; refine Za ?_; refine Seq.done ?_; refine Wp.ret ?_))
                (exact ret1 rfl rfl (by repeat (first | exact List.Sublist.refl _ | exact List.nil_sublist _ | refine List.Sublist.cons_cons _ ?_ | refine List.Sublist.cons _ ?_)) (bool_false (fun h => (ti.1 h).elim (fun h => o1 h.1) (fun h => h.elim (fun h => c1 h.2) (fun h => o3 h.1)))))
          · exact absurd ho n2
      · have o1 : ¬ t.op = kLt := by rw [ho]; exact bytes_ne (by decide)
        have o2 : ¬ t.op = kLe := by rw [ho]; exact bytes_ne (by decide)
        ((refine Zq ?_; refine Zm ?_; refine Zq ?_; refine q_extract (by exact rfl) (by exact rfl) ?_; refine Zq ?_; refine q_extract (by exact rfl) (by exact rfl) ?_; refine Zq ?_; refine Za ?_; refine Zq ?_; refine Za ?_; refine Seq.done ?_; refine Wp.seq ?_; refine Wp.region ?_; refine Zq ?_; refine Zm ?_; refine Zq ?_; refine Zm ?_; refine Zy ?_; refine Zm ?_; refine Zq ?_; refine Zt ?_; refine Zq ?_; refine Zm ?_; refine Zy ?_; refine Zf T ?_; refine Zy ?_; refine Zl T 0 ?_))
        (((refine Zy ?_)); (refine q_eql_strD (by exact rfl) (by exact rfl) (fun p1 => ?_) (fun n1 => ?_)))
        · exact absurd p1 o1
        · ((refine Zy ?_; refine Zm ?_; refine Zn ?_; refine Zn ?_; refine Zn ?_; refine Zy ?_; refine Zu ?_; refine Zy ?_; refine Zm ?_; refine Zy ?_; refine Zf T ?_; refine Zy ?_; refine Zl T 0 ?_))
          (((refine Zy ?_)); (refine q_eql_strD (by exact rfl) (by exact rfl) (fun p2 => ?_) (fun n2 => ?_)))
          · exact absurd p2 o2
          · ((refine Zy ?_; refine Zm ?_; refine Zn ?_; refine Zn ?_; refine Zn ?_; refine Zy ?_; refine Zu ?_; refine Zy ?_; refine Zu ?_; refine Zy ?_; refine Zm ?_; refine Zy ?_; refine Zf T ?_; refine Zy ?_; refine Zl T 0 ?_))
            (((refine Zy ?_)); (refine q_eql_strD (by exact rfl) (by exact rfl) (fun p3 => ?_) (fun n3 => ?_)))
            · ((refine Zy ?_; refine Zm ?_; refine Zy ?_; refine Zm ?_; refine Zy ?_; refine Zm ?_))
              (((refine Zy ?_)); (refine q_eqlD (by exact rfl) (by exact rfl) (fun c1 => ?_) (fun c1 => ?_)))
              · ((refine Zy ?_; refine Zt ?_; refine Zy ?_; refine Zu ?_; refine Zq ?_; refine Zt ?_; refine Zq ?_; refine Za ?_; refine Seq.done ?_; refine Wp.ret ?_))
                (exact ret1 rfl rfl (by repeat (first | exact List.Sublist.refl _ | exact List.nil_sublist _ | refine List.Sublist.cons_cons _ ?_ | refine List.Sublist.cons _ ?_)) (bool_true (ti.2 (.inr (.inr ⟨ho, c1⟩)))))
              · ((refine Zy ?_; refine Zt ?_; refine Zy ?_; refine Zu ?_; refine Zq ?_; refine Zt ?_; refine Zq ?_; refine Za ?_; refine Seq.done ?_; refine Wp.ret ?_))
                (exact ret1 rfl rfl (by repeat (first | exact List.Sublist.refl _ | exact List.nil_sublist _ | refine List.Sublist.cons_cons _ ?_ | refine List.Sublist.cons _ ?_)) (bool_false (fun h => (ti.1 h).elim (fun h => o1 h.1) (fun h => h.elim (fun h => o2 h.1) (fun h => c1 h.2)))))
            · exact absurd ho n3
end Go.Proofs.YtegmololhnipiaaGreatDoor
namespace Go.Proofs.YtegmololhnipiaaGreatDoor
open Go.Lx Go.Gr Go.RowKit
attribute [local instance 10] Classical.propDecidable
theorem indexInt_q {fz : FZ} {A : Option Addr} {n c : Nat} {l : List Int} {ff : FuncId} {cap : List Value} {p : Int → Prop} [DecidablePred p] (h1 : Sl intL fz A n c l) (hq : ∀ x, I64 x → QFn Tryz.prog ff (.int .i64 x :: cap) fz (.bool (decide (p x)))) :
    QFn Tryz.prog 111 [.slice A n c, .func (.func ff) #[] cap.toArray] fz (.int .i64 (firstI p l 0)) := by
  refine GFn.quiet ?_
  (refine GFn.of_wp Tryz.func111 rfl Tryz.ntmps111 rfl rfl (fun w0 => ?_))
  have l1 := h1.len
  have hm := h1.short
  ((refine Wp.seq ?_; refine Wp.region ?_; refine Zq ?_; refine Za ?_; refine Seq.done ?_; refine Wp.seq ?_; refine Wp.seq ?_; refine Wp.region ?_; refine Zq ?_; refine Zm ?_; refine Zq ?_; refine q_len_slice T (by exact rfl) (by exact rfl) (by exact rfl) ?_; refine Zq ?_; refine Zm ?_; refine Seq.done ?_; refine Wp.block ?_))
  (refine Wp.loop (fun q σ fz' H' => ∃ k : Nat, k ≤ n ∧ q = n - k ∧ σ = [(8, .int .i64 k), (7, .int .i64 n), (0, .slice A n c), (1, .func (.func ff) #[] cap.toArray)] ∧ fz = fz' ∧ H' = [] ∧ (∀ i, i < k → ∀ x, l[i]? = some x → ¬ p x)) ⟨0, Nat.zero_le _, rfl, rfl, rfl, rfl, (fun i hi => absurd hi (by omega))⟩ (by repeat (first | exact trivial | refine ⟨by exact rfl, ?_⟩)) (by repeat (first | exact List.Sublist.refl _ | exact List.nil_sublist _ | refine List.Sublist.cons_cons _ ?_ | refine List.Sublist.cons _ ?_)) ?_; rintro q σ fz' H' ⟨k, hk, rfl, rfl, rfl, rfl, hh⟩)
  ((refine Wp.seq ?_; refine Wp.region ?_))
  (((refine Zq ?_)); (refine q_lssD (by exact rfl) (by exact rfl) (fun hlt => ?_) (fun hge => ?_)))
  · ((refine Seq.done ?_; refine Wp.seq ?_; refine Zc ?_; refine Wp.skip ?_; refine thenN ?_; refine Wp.seq ?_; refine Wp.block ?_; refine Wp.seq ?_; refine Wp.region ?_; refine Zq ?_; refine Zm ?_; refine Zq ?_; refine Za ?_; refine Seq.done ?_; refine Wp.seq ?_; refine Wp.region ?_; refine Zq ?_; refine Zm ?_; refine Zq ?_; refine Zm ?_; refine Zq ?_; refine Zm ?_))
    obtain ⟨x, hx⟩ := get_some (l := l) (k := k) (by omega)
    (((refine Zq ?_)); refine q_index T k (by exact rfl) (by exact rfl) (by exact rfl) (by exact rfl) (by exact rfl) (by exact rfl) h1 (by first | rfl | omega) hx (fun a ha => ?_))
    (((refine Zq ?_)); refine q_load_int T (by exact rfl) (by exact rfl) (by exact rfl) ha (fun ix => ?_))
    (skip)
    (((refine Zq ?_)); refine q_callvD (by exact rfl) (by exact rfl) (by exact rfl) (hq x ix) (fun c1 => ?_) (fun c1 => ?_))
    · ((refine Seq.done ?_; refine Zc ?_; refine Wp.seq ?_; refine Wp.region ?_; refine Zq ?_; refine Zm ?_; refine Zq ?_; refine Za ?_; refine Seq.done ?_; refine Wp.ret ?_; refine blkR ?_; refine thenR ?_; refine loopR ?_; refine blkR ?_; refine thenR ?_))
      (exact ret1 rfl rfl (by repeat (first | exact List.Sublist.refl _ | exact List.nil_sublist _ | refine List.Sublist.cons_cons _ ?_ | refine List.Sublist.cons _ ?_)) (by rw [firstI_at hh hx c1, Int.zero_add]))
    · ((refine Seq.done ?_; refine Zd ?_; refine Wp.skip ?_; refine blkN ?_; refine thenN ?_; refine Wp.region ?_; refine Zq ?_; refine q_add (by exact rfl) (by exact rfl) (wrap_in (by omega)) ?_; refine Zq ?_; refine Zm ?_; refine Seq.end_ ?_))
      (exact loopN ⟨k + 1, by omega, rfl, rfl, rfl, rfl, (all_next hh hx c1)⟩ (by omega) (by repeat (first | exact trivial | refine ⟨by exact rfl, ?_⟩)) (by repeat (first | exact List.Sublist.refl _ | exact List.nil_sublist _ | refine List.Sublist.cons_cons _ ?_ | refine List.Sublist.cons _ ?_)))
  · ((refine Seq.done ?_; refine Wp.seq ?_; refine Zd ?_; refine Wp.exit ?_; refine thenX ?_; refine loopX ?_; refine blkX (by exact rfl) ?_; refine thenN ?_; refine Wp.seq ?_; refine Wp.region ?_; refine Zq ?_; refine Za ?_; refine Seq.done ?_; refine Wp.ret ?_))
    (exact ret1 rfl rfl (by repeat (first | exact List.Sublist.refl _ | exact List.nil_sublist _ | refine List.Sublist.cons_cons _ ?_ | refine List.Sublist.cons _ ?_)) (by rw [firstI_none (all_of hh (by omega))]))
theorem containsInt_q {fz : FZ} {A : Option Addr} {n c : Nat} {l : List Int} {ff : FuncId} {cap : List Value} {p : Int → Prop} [DecidablePred p] (h1 : Sl intL fz A n c l) (hq : ∀ x, I64 x → QFn Tryz.prog ff (.int .i64 x :: cap) fz (.bool (decide (p x)))) :
    QFn Tryz.prog 72 [.slice A n c, .func (.func ff) #[] cap.toArray] fz (.bool (decide (∃ x ∈ l, p x))) := by
  refine GFn.quiet ?_
  (refine GFn.of_wp Tryz.func72 rfl Tryz.ntmps72 rfl rfl (fun w0 => ?_))
  ((refine Wp.seq ?_; refine Wp.region ?_; refine Zq ?_; refine Za ?_; refine Seq.done ?_; refine Wp.seq ?_; refine Wp.region ?_; refine Zq ?_; refine Zm ?_; refine Zq ?_; refine Zm ?_))
  (((refine Zq ?_)); refine q_call (by exact rfl) (by exact rfl) (indexInt_q h1 hq) ?_)
  (((refine Zq ?_)); (refine q_geqD (by exact rfl) (by exact rfl) (fun c1 => ?_) (fun c1 => ?_)))
  · ((refine Zq ?_; refine Za ?_; refine Seq.done ?_; refine Wp.ret ?_))
    (exact ret1 rfl rfl (by repeat (first | exact List.Sublist.refl _ | exact List.nil_sublist _ | refine List.Sublist.cons_cons _ ?_ | refine List.Sublist.cons _ ?_)) (bool_true ((firstI_iff (Int.le_refl 0)).1 c1)))
  · ((refine Zq ?_; refine Za ?_; refine Seq.done ?_; refine Wp.ret ?_))
    (exact ret1 rfl rfl (by repeat (first | exact List.Sublist.refl _ | exact List.nil_sublist _ | refine List.Sublist.cons_cons _ ?_ | refine List.Sublist.cons _ ?_)) (bool_false (fun h => c1 ((firstI_iff (Int.le_refl 0)).2 h))))
end Go.Proofs.YtegmololhnipiaaGreatDoor
namespace Go.Proofs.YtegmololhnipiaaGreatDoor
open Go.Lx Go.Gr Go.RowKit
attribute [local instance 10] Classical.propDecidable
theorem nan_q {fz : FZ} {a : Int} : QFn Tryz.prog 78 [.int .i64 a] fz (.bool false) := by
  refine GFn.quiet ?_
  (refine GFn.of_wp Tryz.func78 rfl Tryz.ntmps78 rfl rfl (fun w0 => ?_))
  ((refine Wp.seq ?_; refine Wp.region ?_; refine Zq ?_; refine Za ?_; refine Seq.done ?_; refine Wp.seq ?_; refine Wp.region ?_; refine Zq ?_; refine Zm ?_; refine Zq ?_; refine Zm ?_))
  (((refine Zq ?_)); (refine q_neqD (by exact rfl) (by exact rfl) (fun c1 => ?_) (fun c1 => ?_)))
  · exact absurd rfl c1
  · ((refine Zq ?_; refine Za ?_; refine Seq.done ?_; refine Wp.ret ?_))
    (exact ret1 rfl rfl (by repeat (first | exact List.Sublist.refl _ | exact List.nil_sublist _ | refine List.Sublist.cons_cons _ ?_ | refine List.Sublist.cons _ ?_)) rfl)
theorem cnan_q {fz : FZ} {a : Int} : QFn Tryz.prog 113 [.int .i64 a] fz (.bool false) := by
  refine GFn.quiet ?_
  (refine GFn.of_wp Tryz.func113 rfl Tryz.ntmps113 rfl rfl (fun w0 => ?_))
  ((refine Wp.seq ?_; refine Wp.region ?_; refine Zq ?_; refine Za ?_; refine Seq.done ?_; refine Wp.seq ?_; refine Wp.region ?_; refine Zq ?_; refine Zm ?_; refine Zq ?_; refine Zm ?_))
  (((refine Zq ?_)); (refine q_neqD (by exact rfl) (by exact rfl) (fun c1 => ?_) (fun c1 => ?_)))
  · exact absurd rfl c1
  · ((refine Zq ?_; refine Za ?_; refine Seq.done ?_; refine Wp.ret ?_))
    (exact ret1 rfl rfl (by repeat (first | exact List.Sublist.refl _ | exact List.nil_sublist _ | refine List.Sublist.cons_cons _ ?_ | refine List.Sublist.cons _ ?_)) rfl)
theorem less_q {fz : FZ} {a b : Int} : QFn Tryz.prog 77 [.int .i64 a, .int .i64 b] fz (.bool (decide (a < b))) := by
  refine GFn.quiet ?_
  (refine GFn.of_wp Tryz.func77 rfl Tryz.ntmps77 rfl rfl (fun w0 => ?_))
  ((refine Wp.seq ?_; refine Wp.region ?_; refine Zq ?_; refine Za ?_; refine Seq.done ?_; refine Wp.seq ?_; refine Wp.region ?_; refine Zq ?_; refine Zm ?_))
  (((refine Zq ?_)); refine q_call (by exact rfl) (by exact rfl) (cnan_q (a := a)) ?_)
  ((refine Zq ?_; refine Zm ?_; refine Zn ?_; refine Zn ?_; refine Zn ?_; refine Zq ?_; refine Zu ?_; refine Zq ?_; refine Zm ?_; refine Zy ?_; refine Zm ?_; refine Zy ?_; refine Zm ?_))
  (((refine Zy ?_)); (refine q_lssD (by exact rfl) (by exact rfl) (fun c1 => ?_) (fun c1 => ?_)))
  · ((refine Zq ?_; refine Zu ?_; refine Zq ?_; refine Za ?_; refine Seq.done ?_; refine Wp.ret ?_))
    (exact ret1 rfl rfl (by repeat (first | exact List.Sublist.refl _ | exact List.nil_sublist _ | refine List.Sublist.cons_cons _ ?_ | refine List.Sublist.cons _ ?_)) (bool_true c1))
  · ((refine Zq ?_; refine Zu ?_; refine Zq ?_; refine Za ?_; refine Seq.done ?_; refine Wp.ret ?_))
    (exact ret1 rfl rfl (by repeat (first | exact List.Sublist.refl _ | exact List.nil_sublist _ | refine List.Sublist.cons_cons _ ?_ | refine List.Sublist.cons _ ?_)) (bool_false c1))
end Go.Proofs.YtegmololhnipiaaGreatDoor
namespace Go.Proofs.YtegmololhnipiaaGreatDoor
open Go.Lx Go.Gr Go.RowKit
attribute [local instance 10] Classical.propDecidable
set_option maxRecDepth 20000
def lowI (t : Int) : List Int → Int
  | [] => 0
  | x :: r => if x < t then 1 + lowI t r else 0
theorem lowI_eq {t : Int} : ∀ {l : List Int} {i : Nat}, i ≤ l.length → (∀ j y, j < i → l[j]? = some y → y < t) → (∀ y, l[i]? = some y → t ≤ y) → lowI t l = i
  | [], i, h, _, _ => by simp at h; subst h; rfl
  | x :: r, 0, _, _, h2 => by
    have := h2 x rfl
    unfold lowI
    rw [if_neg (by omega)]; rfl
  | x :: r, i + 1, h, h1, h2 => by
    have h0 := h1 0 x (by omega) rfl
    unfold lowI
    rw [if_pos h0, lowI_eq (l := r) (i := i) (by simpa using h) (fun j y hj hy => h1 (j + 1) y (by omega) (by simpa using hy)) (fun y hy => h2 y (by simpa using hy))]
    omega
theorem half {i j : Nat} : ((i : Int) + j).fdiv (2 ^ (min (1 : Int).toNat IntKind.u64.bits)) = ((i + j) / 2 : Nat) := by
  have : (2 ^ (min (1 : Int).toNat IntKind.u64.bits) : Int) = 2 := by decide
  rw [this, Int.fdiv_eq_ediv_of_nonneg _ (by omega)]
  omega
theorem wrapU {n : Int} (h : 0 ≤ n ∧ n ≤ 18446744073709551615) : IntKind.u64.wrap n = n := by
  simp [IntKind.wrap, IntKind.bits, IntKind.signed]
  omega
theorem asc_lo {m t : Int} {l : List Int} (ha : AscP m l) {h : Nat} {x : Int} (hx : l[h]? = some x) (hlt : x < t) {i : Nat} {y : Int} (hi : i < h + 1) (hy : l[i]? = some y) : y < t := by
  by_cases e : i = h
  · subst e; rw [hx] at hy; injection hy with hy; omega
  · have := ha.lt hy hx (by omega); omega
theorem asc_hi {m t : Int} {l : List Int} (ha : AscP m l) {h : Nat} {x : Int} (hx : l[h]? = some x) (hlt : ¬ x < t) {i : Nat} {y : Int} (hi : h ≤ i) (hy : l[i]? = some y) : t ≤ y := by
  by_cases e : i = h
  · subst e; rw [hx] at hy; injection hy with hy; omega
  · have := ha.lt hx hy (by omega); omega
theorem search_q {fz : FZ} {A : Option Addr} {n c : Nat} {l : List Int} {t m : Int} (h1 : Sl intL fz A n c l) (ha : AscP m l) :
    QFn Tryz.prog 49 [.slice A n c, .int .i64 t] fz (.tuple #[.int .i64 (lowI t l), .bool (decide (t ∈ l))]) := by
  refine GFn.quiet ?_
  (refine GFn.of_wp Tryz.func49 rfl Tryz.ntmps49 rfl rfl (fun w0 => ?_))
  have l1 := h1.len
  have hm := h1.short
  ((refine Wp.seq ?_; refine Wp.region ?_; refine Zq ?_; refine Za ?_; refine Zq ?_; refine Za ?_; refine Seq.done ?_; refine Wp.seq ?_; refine Wp.region ?_; refine Zq ?_; refine Zm ?_; refine Zq ?_; refine q_len_slice T (by exact rfl) (by exact rfl) (by exact rfl) ?_; refine Zq ?_; refine Za ?_; refine Seq.done ?_; refine Wp.seq ?_; refine Wp.region ?_; refine Zq ?_; refine Zm ?_; refine Zq ?_; refine Za ?_; refine Zq ?_; refine Za ?_; refine Seq.done ?_; refine Wp.seq ?_; refine Wp.block ?_))
  refine Wp.loop (fun q σ fz' H' => ∃ i j : Nat, i ≤ j ∧ j ≤ n ∧ q = j - i ∧ σ = [(7, .int .i64 i), (8, .int .i64 j), (6, .int .i64 n), (0, .slice A n c), (1, .int .i64 t)] ∧ fz = fz' ∧ H' = [] ∧ (∀ a y, a < i → l[a]? = some y → y < t) ∧ (∀ a y, j ≤ a → l[a]? = some y → t ≤ y)) ⟨0, n, Nat.zero_le _, Nat.le_refl _, rfl, rfl, rfl, rfl, fun _ _ h _ => absurd h (by omega), fun a y h hy => absurd (lt_of_get hy) (by omega)⟩ (by repeat (first | exact trivial | refine ⟨by exact rfl, ?_⟩)) (by repeat (first | exact List.Sublist.refl _ | exact List.nil_sublist _ | refine List.Sublist.cons_cons _ ?_ | refine List.Sublist.cons _ ?_)) ?_
  rintro q σ fz' H' ⟨i, j, hij, hjn, rfl, rfl, rfl, rfl, hlo, hhi⟩
  ((refine Wp.seq ?_; refine Wp.seq ?_; refine Wp.region ?_; refine Zq ?_; refine Zm ?_; refine Zq ?_; refine Zm ?_))
  (((refine Zq ?_)); (refine q_lssD (by exact rfl) (by exact rfl) (fun c1 => ?_) (fun c1 => ?_)))
  · ((refine Seq.done ?_; refine Zc ?_; refine Wp.skip ?_; refine thenN ?_; refine Wp.block ?_; refine Wp.seq ?_; refine Wp.region ?_; refine Zq ?_; refine Zm ?_; refine Zq ?_; refine Zm ?_; refine Zq ?_; refine q_add (by exact rfl) (by exact rfl) (wrap_in (by omega)) ?_))
    ((refine Zq ?_)); refine q_convert_int T (by exact rfl) (by exact rfl) (by exact rfl) (by exact rfl) (wrapU (by omega)) ?_
    ((refine Zq ?_)); refine qg_shr (by exact rfl) (by exact rfl) (by decide) half ?_
    ((refine Zq ?_)); refine q_convert_int T (by exact rfl) (by exact rfl) (by exact rfl) (by exact rfl) (wrap_in (by omega)) ?_
    obtain ⟨x, hx⟩ := get_some (l := l) (k := (i + j) / 2) (by omega)
    ((refine Zq ?_; refine Za ?_; refine Seq.done ?_; refine Wp.seq ?_; refine Wp.region ?_; refine Zq ?_; refine Zm ?_; refine Zq ?_; refine Zm ?_))
    (((refine Zq ?_)); refine q_index T ((i + j) / 2) (by exact rfl) (by exact rfl) (by exact rfl) (by exact rfl) (by exact rfl) (by exact rfl) h1 (by first | rfl | omega) hx (fun p hp => ?_))
    (((refine Zq ?_)); refine q_load_int T (by exact rfl) (by exact rfl) (by exact rfl) hp (fun ix => ?_))
    ((refine Zq ?_; refine Zm ?_))
    (((refine Zq ?_)); refine q_callB (by exact rfl) (by exact rfl) (less_q (a := x) (b := t)) (fun f1 => ?_) (fun f1 => ?_))
    · ((refine Seq.done ?_; refine Zc ?_; refine Wp.region ?_; refine Zq ?_; refine Zm ?_; refine Zq ?_; refine q_add (by exact rfl) (by exact rfl) (wrap_in (by omega)) ?_; refine Zq ?_; refine Za ?_; refine Seq.end_ ?_; refine blkN ?_))
      exact loopN ⟨(i + j) / 2 + 1, j, by omega, hjn, rfl, rfl, rfl, rfl, fun a y h hy => asc_lo ha hx (of_decide_eq_true f1) h hy, hhi⟩ (by omega) (by repeat (first | exact trivial | refine ⟨by exact rfl, ?_⟩)) (by repeat (first | exact List.Sublist.refl _ | exact List.nil_sublist _ | refine List.Sublist.cons_cons _ ?_ | refine List.Sublist.cons _ ?_))
    · ((refine Seq.done ?_; refine Zd ?_; refine Wp.region ?_; refine Zq ?_; refine Zm ?_; refine Zq ?_; refine Za ?_; refine Seq.end_ ?_; refine blkN ?_))
      exact loopN ⟨i, (i + j) / 2, by omega, by omega, rfl, rfl, rfl, rfl, hlo, fun a y h hy => asc_hi ha hx (of_decide_eq_false f1) h hy⟩ (by omega) (by repeat (first | exact trivial | refine ⟨by exact rfl, ?_⟩)) (by repeat (first | exact List.Sublist.refl _ | exact List.nil_sublist _ | refine List.Sublist.cons_cons _ ?_ | refine List.Sublist.cons _ ?_))
  · have hi : i = j := by omega
    subst hi
    have hl := lowI_eq (t := t) (l := l) (i := i) (by omega) (fun a y h hy => hlo a y h hy) (fun y hy => hhi i y (Nat.le_refl _) hy)
    have hmem := ha.found (k := i) (x := t) (fun a y h hy => hlo a y h hy) (fun a y h hy => hhi a y h hy)
    ((refine Seq.done ?_; refine Zd ?_; refine Wp.exit ?_; refine thenX ?_; refine loopX ?_; refine blkX (by exact rfl) ?_; refine thenN ?_; refine Wp.seq ?_; refine Wp.region ?_; refine Zq ?_; refine Zm ?_; refine Zq ?_; refine Zm ?_; refine Zq ?_; refine Zm ?_))
    (((refine Zq ?_)); (refine q_lssD (by exact rfl) (by exact rfl) (fun c2 => ?_) (fun c2 => ?_)))
    · obtain ⟨x, hx⟩ := get_some (l := l) (k := i) (by omega)
      ((refine Zq ?_; refine Zm ?_; refine Zy ?_; refine Zm ?_; refine Zy ?_; refine Zm ?_))
      (((refine Zy ?_)); refine q_index T i (by exact rfl) (by exact rfl) (by exact rfl) (by exact rfl) (by exact rfl) (by exact rfl) h1 (by first | rfl | omega) hx (fun p hp => ?_))
      (((refine Zy ?_)); refine q_load_int T (by exact rfl) (by exact rfl) (by exact rfl) hp (fun ix => ?_))
      ((refine Zy ?_; refine Zm ?_))
      (((refine Zy ?_)); (refine q_eqlD (by exact rfl) (by exact rfl) (fun c3 => ?_) (fun c3 => ?_)))
      · ((refine Zy ?_; refine Zm ?_; refine Zn ?_; refine Zn ?_; refine Zn ?_; refine Zn ?_; refine Zn ?_; refine Zn ?_; refine Zo ?_; refine Zo ?_; refine Zn ?_; refine Zy ?_; refine Zt ?_; refine Zq ?_; refine Zt ?_; refine Zq ?_; refine Za ?_; refine Zq ?_; refine Za ?_; refine Seq.done ?_; refine Wp.ret ?_))
        exact ret2 rfl rfl rfl (by repeat (first | exact List.Sublist.refl _ | exact List.nil_sublist _ | refine List.Sublist.cons_cons _ ?_ | refine List.Sublist.cons _ ?_)) (by rw [hl, decide_eq_true (hmem.2 (by rw [hx, c3]))])
      · ((refine Zy ?_; refine Zm ?_; refine Zy ?_; refine Zm ?_; refine Zy ?_; refine Zm ?_))
        (((refine Zy ?_)); refine q_index T i (by exact rfl) (by exact rfl) (by exact rfl) (by exact rfl) (by exact rfl) (by exact rfl) h1 (by first | rfl | omega) hx (fun p2 hp2 => ?_))
        (((refine Zy ?_)); refine q_load_int T (by exact rfl) (by exact rfl) (by exact rfl) hp2 (fun ix2 => ?_))
        (skip)
        (((refine Zy ?_)); refine q_call (by exact rfl) (by exact rfl) (nan_q (a := x)) ?_)
        ((refine Zy ?_; refine Zm ?_; refine Zn ?_; refine Zn ?_; refine Zy ?_; refine Zu ?_; refine Zy ?_; refine Zu ?_; refine Zq ?_; refine Zt ?_; refine Zq ?_; refine Za ?_; refine Zq ?_; refine Za ?_; refine Seq.done ?_; refine Wp.ret ?_))
        exact ret2 rfl rfl rfl (by repeat (first | exact List.Sublist.refl _ | exact List.nil_sublist _ | refine List.Sublist.cons_cons _ ?_ | refine List.Sublist.cons _ ?_)) (by rw [hl, decide_eq_false (fun h => by have := hmem.1 h; rw [hx] at this; injection this with this; exact c3 this)])
    · ((refine Zq ?_; refine Zm ?_; refine Zn ?_; refine Zn ?_; refine Zn ?_; refine Zn ?_; refine Zn ?_; refine Zn ?_; refine Zn ?_; refine Zo ?_; refine Zo ?_; refine Zo ?_; refine Zo ?_; refine Zo ?_; refine Zo ?_; refine Zo ?_; refine Zo ?_; refine Zo ?_; refine Zn ?_; refine Zq ?_; refine Zu ?_; refine Zq ?_; refine Za ?_; refine Zq ?_; refine Za ?_; refine Seq.done ?_; refine Wp.ret ?_))
      exact ret2 rfl rfl rfl (by repeat (first | exact List.Sublist.refl _ | exact List.nil_sublist _ | refine List.Sublist.cons_cons _ ?_ | refine List.Sublist.cons _ ?_)) (by rw [hl, decide_eq_false (fun h => by have := lt_of_get (hmem.1 h); omega)])
end Go.Proofs.YtegmololhnipiaaGreatDoor
namespace Go.Proofs.YtegmololhnipiaaGreatDoor
open Go.Lx Go.Gr Go.RowKit
attribute [local instance 10] Classical.propDecidable
set_option maxRecDepth 20000
theorem holds1_q {fz : FZ} {m : Int} {S : GState} {u1 u2 : Value} {gb : Nat} {x : Int} (hs : GStateR fz S u1 u2) (ha : AscP m S.tru) (hx : fz gb = some (.cells #[u1, u2] 33 (0, 0))) :
    QFn Tryz.prog 71 [.int .i64 x, .pointer (some ⟨gb, 0, none⟩)] fz (.bool (decide (x ∈ S.tru))) := by
  (obtain ⟨B1, m1, d1, rfl, st⟩ := hs.tru; obtain ⟨B2, m2, d2, rfl, sv⟩ := hs.values)
  refine GFn.quiet ?_
  (refine GFn.of_wp Tryz.func71 rfl Tryz.ntmps71 rfl rfl (fun w0 => ?_))
  ((refine Wp.seq ?_; refine Wp.region ?_; refine Zq ?_; refine Za ?_; refine Seq.done ?_; refine Wp.seq ?_; refine Wp.region ?_; refine Zq ?_; refine Zf T ?_; refine Zq ?_; refine q_load_fz T (by exact rfl) (by exact rfl) (by exact rfl) (by assumption) (by exact rfl) ?_; refine Zq ?_; refine Zm ?_))
  (((refine Zq ?_)); refine q_call (by exact rfl) (by exact rfl) (search_q (t := x) st ha) ?_)
  ((refine Zq ?_; refine Zm ?_; refine Zq ?_; refine q_extract (by exact rfl) (by exact rfl) ?_; refine Zq ?_; refine q_extract (by exact rfl) (by exact rfl) ?_; refine Zq ?_; refine Za ?_; refine Zq ?_; refine Za ?_; refine Seq.done ?_; refine Wp.seq ?_; refine Wp.region ?_; refine Zq ?_; refine Zm ?_; refine Zq ?_; refine Za ?_; refine Seq.done ?_; refine Wp.ret ?_))
  (exact ret1 rfl rfl (by repeat (first | exact List.Sublist.refl _ | exact List.nil_sublist _ | refine List.Sublist.cons_cons _ ?_ | refine List.Sublist.cons _ ?_)) rfl)
theorem holds2_q {fz : FZ} {m : Int} {S : GState} {u1 u2 : Value} {gb gh : Nat} {x : Int} (hs : GStateR fz S u1 u2) (ha : AscP m S.tru) (hx : fz gb = some (.cells #[u1, u2] 33 (0, 0)))
    (hy : fz gh = some (.cells #[.func (.func 71) #[] #[.pointer (some ⟨gb, 0, none⟩)]] 153 (0, 0))) :
    QFn Tryz.prog 73 [.int .i64 x, .pointer (some ⟨gh, 0, none⟩)] fz (.bool (decide (¬ x ∈ S.tru))) := by
  refine GFn.quiet ?_
  (refine GFn.of_wp Tryz.func73 rfl Tryz.ntmps73 rfl rfl (fun w0 => ?_))
  ((refine Wp.seq ?_; refine Wp.region ?_; refine Zq ?_; refine Za ?_; refine Seq.done ?_; refine Wp.seq ?_; refine Wp.region ?_; refine Zq ?_; refine q_load_fz T (by exact rfl) (by exact rfl) (by exact rfl) (by assumption) (by exact rfl) ?_; refine Zq ?_; refine Zm ?_))
  ((refine Zq ?_)); refine q_callv (first := []) (capt := [.pointer (some ⟨gb, 0, none⟩)]) (by exact rfl) (by exact rfl) (by exact rfl) (holds1_q (x := x) hs ha hx) ?_
  ((refine Zq ?_; refine q_not (by exact rfl) ?_; refine Zq ?_; refine Za ?_; refine Seq.done ?_; refine Wp.ret ?_))
  (exact ret1 rfl rfl (by repeat (first | exact List.Sublist.refl _ | exact List.nil_sublist _ | refine List.Sublist.cons_cons _ ?_ | refine List.Sublist.cons _ ?_)) bool_not)
theorem holds3_q {fz : FZ} {S : GState} {u1 u2 : Value} {gb : Nat} {t : GTest} {cs : List Value} (hs : GStateR fz S u1 u2) (hx : fz gb = some (.cells #[u1, u2] 33 (0, 0))) (hok : TestOk S.values.length t) (hin : InB S.values) (h : gTestL.rep fz t cs) :
    QFn Tryz.prog 75 [.agg cs.toArray, .pointer (some ⟨gb, 0, none⟩)] fz (.bool (decide (¬ TestP S.values t))) := by
  obtain ⟨w1, w2, rfl, ht⟩ := gTestL_open h
  (obtain ⟨B1, m1, d1, rfl, st⟩ := hs.tru; obtain ⟨B2, m2, d2, rfl, sv⟩ := hs.values)
  obtain ⟨Ea, na, ca, rfl, _⟩ := ht.a.kids
  obtain ⟨Eb, nb, cb, rfl, _⟩ := ht.b.kids
  refine GFn.quiet ?_
  (refine GFn.of_wp Tryz.func75 rfl Tryz.ntmps75 rfl rfl (fun w0 => ?_))
  ((refine Wp.seq ?_; refine Wp.region ?_; refine Seq.stepK (by exact rfl) (k_box _ (by exact rfl) (by exact rfl) (fun _ => ?_)); refine Zq ?_; refine Za ?_; refine Seq.done ?_; refine Wp.seq ?_; refine Wp.region ?_; refine Zq ?_; refine q_load_fz_all T (by exact rfl) (by exact rfl) (by exact rfl) (by assumption) (by exact rfl) ?_; refine Zq ?_; refine ZL T 0 ?_))
  (((refine Zq ?_)); refine q_call (by exact rfl) (by exact rfl) (test_q hs ht hok hin) ?_)
  ((refine Zq ?_; refine q_not (by exact rfl) ?_; refine Zq ?_; refine Za ?_; refine Seq.done ?_; refine Wp.ret ?_))
  (exact ret1 rfl rfl (by repeat (first | exact List.Sublist.refl _ | exact List.nil_sublist _ | refine List.Sublist.cons_cons _ ?_ | refine List.Sublist.cons _ ?_)) bool_not)
end Go.Proofs.YtegmololhnipiaaGreatDoor
