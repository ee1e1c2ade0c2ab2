/- The texts GWalkQ, GRet, GWalkR, GWalkS, GWalkT, GWalkU, GWalkV, GWalkW, GLawA, Draw, laid together. Conditions: none. -/
import Derived.Test.YtegmololhnipiaaGreatDoorQpD
import Derived.Test.YtegmololhnipiaaGreatDoorQpC
import Derived.Test.YtegmololhnipiaaGreatDoorQpB
namespace Go.Proofs.YtegmololhnipiaaGreatDoor
open Go.Lx Go.Gr Go.RowKit
attribute [local instance 10] Classical.propDecidable
set_option maxRecDepth 20000
def errV : Int → Value := fun n => if n = 0 then .nilIface else .iface 71 (.int .i64 n)
theorem errV_ne {n : Int} (h : n ≠ 0) : errV n = .iface 71 (.int .i64 n) := if_neg h
theorem num_q {fz : FZ} {n : Int} : QFn Tryz.prog 21 [errV n] fz (.int .i64 n) := by
  by_cases h : n = 0
  · subst h
    refine GFn.quiet ?_
    rw [show errV 0 = .nilIface from rfl]
    (refine GFn.of_wp Tryz.func21 rfl Tryz.ntmps21 rfl rfl (fun w0 => ?_))
    ((refine Wp.seq ?_; refine Wp.region ?_; refine Zq ?_; refine Za ?_; refine Seq.done ?_; refine Wp.seq ?_; refine Wp.seq ?_; refine Wp.region ?_; refine Zq ?_; refine Zm ?_; refine Zq ?_; refine q_eql_nil T (by exact rfl) (by exact rfl) (by exact rfl) (by exact rfl) ?_; refine Seq.done ?_; refine Zc ?_; refine Wp.seq ?_; refine Wp.region ?_; refine Zq ?_; refine Za ?_; refine Seq.done ?_; refine Wp.ret ?_; refine thenR ?_))
    (exact ret1 rfl rfl (by repeat (first | exact List.Sublist.refl _ | exact List.nil_sublist _ | refine List.Sublist.cons_cons _ ?_ | refine List.Sublist.cons _ ?_)) rfl)
  · refine GFn.quiet ?_
    rw [errV_ne h]
    (refine GFn.of_wp Tryz.func21 rfl Tryz.ntmps21 rfl rfl (fun w0 => ?_))
    ((refine Wp.seq ?_; refine Wp.region ?_; refine Zq ?_; refine Za ?_; refine Seq.done ?_; refine Wp.seq ?_; refine Wp.seq ?_; refine Wp.region ?_; refine Zq ?_; refine Zm ?_; refine Zq ?_; refine q_eql_some T (by exact rfl) (by exact rfl) (by exact rfl) (by exact rfl) ?_; refine Seq.done ?_; refine Zd ?_; refine Wp.skip ?_; refine thenN ?_; refine Wp.seq ?_; refine Wp.seq ?_; refine Wp.region ?_; refine Zq ?_; refine Zm ?_; refine Zq ?_; refine q_assert_yes T (by exact rfl) (by exact rfl) (by exact rfl) ?_; refine Zq ?_; refine Zm ?_; refine Zq ?_; refine Ze ?_; refine Zq ?_; refine Ze ?_; refine Zq ?_; refine Za ?_; refine Zq ?_; refine Za ?_; refine Seq.done ?_; refine Wp.seq ?_; refine Wp.region ?_; refine Zq ?_; refine Zm ?_; refine Seq.done ?_; refine Zc ?_; refine Wp.seq ?_; refine Wp.region ?_; refine Zq ?_; refine Zm ?_; refine Zq ?_; refine Za ?_; refine Seq.done ?_; refine Wp.ret ?_; refine thenR ?_))
    (exact ret1 rfl rfl (by repeat (first | exact List.Sublist.refl _ | exact List.nil_sublist _ | refine List.Sublist.cons_cons _ ?_ | refine List.Sublist.cons _ ?_)) rfl)
theorem sl_row {fz : FZ} {A : Option Addr} {n c : Nat} {xs : List Int} (h : Sl intL fz A n c xs) : RowS fz A n (xs.map (Value.int .i64)) := by
  rcases h.elem with h0 | ⟨ad, h1, h2⟩
  · exact .inl h0
  · refine .inr ⟨ad, h1, fun j u hu => ?_⟩
    rw [List.getElem?_map] at hu
    cases hx : xs[j]? with
    | none => simp [hx] at hu
    | some x =>
      simp [hx] at hu
      subst hu
      obtain ⟨v, ⟨he, _⟩, hc⟩ := (h2 j x hx).cell rfl
      injection he with he
      subst he
      simpa [intL] using hc
theorem sl_ints {v : Value} {zs : List Int} {n : Nat} {b : HP} {fz' : FZ} (hO : OwnS 3 1 v n (zs.map (Value.int .i64)) b) (hf : ∀ p ∈ b, fz' p.1 = some p.2) (hn : n ≤ 140737488355328) (hi : ∀ z ∈ zs, I64 z) : ∃ A c, v = .slice A n c ∧ Sl intL fz' A n c zs := by
  obtain ⟨A, c, h1, h2, h3, h4⟩ := hO.row hf
  refine ⟨A, c, h1, h4.sl h2 h3 hn (by have := hO.1; simpa using this) fun i z hz => ⟨[.int .i64 z], ⟨rfl, hi z (List.mem_of_getElem? hz)⟩, fun j u hu => ?_⟩⟩
  cases j with
  | zero => simp at hu; subst hu; simp [intL, hz]
  | succ j => simp at hu
theorem clone_f {fz : FZ} {A : Option Addr} {n c : Nat} {xs : List Int} (h : Sl intL fz A n c xs) (hn : n ≤ 1000000) :
    GFn Tryz.prog 46 [.slice A n c] fz [] fun v fz' H' => fz' = fz ∧ OwnS 3 1 v n (xs.map (Value.int .i64)) H' := by
  (refine GFn.of_wp Tryz.func46 rfl Tryz.ntmps46 rfl rfl (fun w0 => ?_))
  have l1 := h.len
  have hsrc := sl_row h
  ((refine Wp.seq ?_; refine Wp.region ?_; refine Zq ?_; refine Za ?_; refine Seq.done ?_; refine Wp.seq ?_; refine Wp.seq ?_; refine Wp.region ?_; refine Zq ?_; refine Zm ?_))
  ((refine Zq ?_)); refine q_eql_nilslice T (by exact rfl) (by exact rfl) (by exact rfl) (by exact rfl) (fun hA => ?_) (fun hA => ?_)
  · ((refine Seq.done ?_; refine Zc ?_; refine Wp.seq ?_; refine Wp.region ?_; refine Zq ?_; refine Za ?_; refine Seq.done ?_; refine Wp.ret ?_; refine thenR ?_))
    have hn0 : n = 0 := by
      rcases hsrc with h0 | ⟨ad, h1, _⟩
      · exact h0
      · rw [hA] at h1; cases h1
    have hx : xs = [] := List.eq_nil_of_length_eq_zero (by omega)
    subst hx hn0
    exact ret1 rfl rfl (by repeat (first | exact List.Sublist.refl _ | exact List.nil_sublist _ | refine List.Sublist.cons_cons _ ?_ | refine List.Sublist.cons _ ?_)) ⟨rfl, OwnS.nil _ _⟩
  · ((refine Seq.done ?_; refine Zd ?_; refine Wp.skip ?_; refine thenN ?_; refine Wp.seq ?_; refine Wp.region ?_))
    refine Seq.stepK (by exact rfl) (k_buildSlice0 T (by exact rfl) (by exact rfl) (by exact rfl) (fun g => ?_))
    ((refine Zq ?_; refine Zm ?_))
    (refine Seq.stepK (by exact rfl) (k_append T (Hr := []) (by exact rfl) (by exact rfl) (by exact rfl) (by exact rfl) (by exact rfl) (by exact rfl) (by exact rfl) (List.Perm.refl _) (OwnS.of_block (cs := []) (n := 0) rfl (by decide)) (by show _ = _ * 1; simp [l1]) (src_row hsrc) (by intro u hu; obtain ⟨x, _, rfl⟩ := List.mem_map.1 hu; rfl) (by show _ * 8 ≤ _; omega) (by omega) (fun v Hs hO => ?_)))
    ((refine Zq ?_; refine Za ?_; refine Seq.done ?_; refine Wp.ret ?_))
    simp only [Nat.zero_add, List.nil_append] at hO
    exact ret1 (H' := Hs) rfl rfl (List.Sublist.refl _) ⟨rfl, hO⟩
noncomputable def sizeF : Nat → GExpr → Int
  | 0, _ => 1
  | d + 1, e => e.kids.foldl (fun n x => if n < 2000 then IntKind.i64.wrap (n + sizeF d x) else n) 1
theorem fold_stop {d : Nat} : ∀ {l : List GExpr} {n : Int}, ¬ n < 2000 → l.foldl (fun n x => if n < 2000 then IntKind.i64.wrap (n + sizeF d x) else n) n = n
  | [], _, _ => rfl
  | x :: r, n, h => by simp only [List.foldl_cons]; rw [if_neg h]; exact fold_stop h
theorem fold_take {α β : Type} {f : β → α → β} {b : β} {l : List α} {k : Nat} {x : α} (hx : l[k]? = some x) : (l.take (k + 1)).foldl f b = f ((l.take k).foldl f b) x := by
  rw [List.take_add_one, hx]; simp
theorem fold_split {α β : Type} {f : β → α → β} {b : β} {l : List α} (k : Nat) : l.foldl f b = (l.drop k).foldl f ((l.take k).foldl f b) := by
  rw [← List.foldl_append, List.take_append_drop]
theorem size_aux : ∀ (s : Nat) {fz : FZ} {e : GExpr} {v : Value}, SizeOf.sizeOf e ≤ s → GExprR fz e v →
    QFn Tryz.prog 24 [eV e v] fz (.int .i64 (sizeF s e))
  | 0, _, e, _, hs, _ => absurd hs (by cases e; simp)
  | s + 1, fz, e, v, hs, h => by
    have hk : ∀ (x : GExpr) (w : Value), GExprR fz x w → x ∈ e.kids → QFn Tryz.prog 24 [eV x w] fz (.int .i64 (sizeF s x)) := fun x w hx hm => size_aux s (by have := GExpr.kids_lt hm; omega) hx
    obtain ⟨A, n, c, rfl, sk⟩ := h.kids
    have l1 := sk.len
    have q1 := sk.short
    refine GFn.quiet ?_
    (refine GFn.of_wp Tryz.func24 rfl Tryz.ntmps24 rfl rfl (fun w0 => ?_))
    (refine Wp.seq (Wp.region (Seq.stepK (by exact rfl) (k_box _ (by exact rfl) (by exact rfl) (fun g0 => ?_)))))
    ((refine Zq ?_; refine Za ?_; refine Seq.done ?_; refine Wp.seq ?_; refine Wp.region ?_; refine Zq ?_; refine Za ?_; refine Seq.done ?_; refine Wp.seq ?_; refine Wp.seq ?_; refine Wp.region ?_; refine Zq ?_; refine Za ?_; refine Seq.done ?_; refine Wp.block ?_))
    refine Wp.loop (fun q σ fz' H' => ∃ (k : Nat) (z : Int), k ≤ n ∧ q = n - k ∧ σ = [(4, .int .i64 k), (3, .int .i64 z), (1, .pointer (some ⟨g0, 0, none⟩))] ∧ fz = fz' ∧ H' = [(g0, .cells #[.string e.op, .int .i64 e.n, .slice A n c] 53 (0, 0))] ∧ (e.kids.take k).foldl (fun n x => if n < 2000 then IntKind.i64.wrap (n + sizeF s x) else n) 1 = z) ⟨0, _, Nat.zero_le _, rfl, rfl, rfl, rfl, rfl⟩ (by repeat (first | exact trivial | refine ⟨by exact rfl, ?_⟩)) (by repeat (first | exact List.Sublist.refl _ | exact List.nil_sublist _ | refine List.Sublist.cons_cons _ ?_ | refine List.Sublist.cons _ ?_)) ?_
    rintro q σ fz' H' ⟨k, z, hk1, rfl, rfl, rfl, rfl, hz⟩
    ((refine Wp.seq ?_; refine Wp.seq ?_; refine Wp.region ?_; refine Zq ?_; refine Zm ?_; refine Zq ?_; refine Zf T ?_; refine Zq ?_; refine Zl T 0 ?_; refine Zq ?_; refine Zs T ?_))
    (((refine Zq ?_)); (refine q_lssD (by exact rfl) (by exact rfl) (fun c1 => ?_) (fun c1 => ?_)))
    · ((refine Zq ?_; refine Zm ?_; refine Zy ?_; refine Zm ?_))
      (((refine Zy ?_)); (refine q_lssD (by exact rfl) (by exact rfl) (fun c2 => ?_) (fun c2 => ?_)))
      · obtain ⟨x, hx⟩ := get_some (l := e.kids) (k := k) (by omega)
        ((refine Zq ?_; refine Zt ?_; refine Seq.done ?_; refine Zc ?_; refine Wp.skip ?_; refine thenN ?_; refine Wp.seq ?_; refine Wp.block ?_; refine Wp.region ?_; refine Zq ?_; refine Zm ?_; refine Zq ?_; refine Zf T ?_; refine Zq ?_; refine Zl T 0 ?_; refine Zq ?_; refine Zm ?_))
        (((refine Zq ?_)); refine q_index T k (by exact rfl) (by exact rfl) (by exact rfl) (by exact rfl) (by exact rfl) (by exact rfl) sk (by first | rfl | omega) hx (fun p hp => ?_))
        (((refine Zq ?_)); refine q_load_at T (by exact rfl) (by exact rfl) (by exact rfl) hp (by exact rfl) ?_)
        intro cs hcs
        obtain ⟨y, rfl, hy⟩ := gExprL_open hcs
        (((refine Zq ?_)); refine q_call (by exact rfl) (by exact rfl) (hk x y hy (List.mem_of_getElem? hx)) ?_)
        ((refine Zq ?_)); refine q_add (by exact rfl) (by exact rfl) rfl ?_
        ((refine Zq ?_; refine Za ?_; refine Seq.end_ ?_; refine blkN ?_; refine thenN ?_; refine Wp.region ?_; refine Zq ?_; refine Zm ?_; refine Zq ?_; refine q_add (by exact rfl) (by exact rfl) (wrap_in (by omega)) ?_; refine Zq ?_; refine Za ?_; refine Seq.end_ ?_))
        exact loopN ⟨k + 1, _, by omega, rfl, rfl, rfl, rfl, by rw [fold_take hx, hz, if_pos c2]⟩ (by omega) (by repeat (first | exact trivial | refine ⟨by exact rfl, ?_⟩)) (by repeat (first | exact List.Sublist.refl _ | exact List.nil_sublist _ | refine List.Sublist.cons_cons _ ?_ | refine List.Sublist.cons _ ?_))
      · ((refine Zq ?_; refine Zt ?_; refine Seq.done ?_; refine Zd ?_; refine Wp.exit ?_; refine thenX ?_; refine loopX ?_; refine blkX (by exact rfl) ?_; refine thenN ?_; refine Wp.seq ?_; refine Wp.region ?_; refine Zq ?_; refine Zm ?_; refine Zq ?_; refine Za ?_; refine Seq.done ?_; refine Wp.ret ?_))
        (exact ret1 rfl rfl (by repeat (first | exact List.Sublist.refl _ | exact List.nil_sublist _ | refine List.Sublist.cons_cons _ ?_ | refine List.Sublist.cons _ ?_)) (by rw [sizeF, fold_split k, hz, fold_stop c2]))
    · ((refine Zq ?_; refine Zm ?_; refine Zn ?_; refine Zn ?_; refine Zq ?_; refine Zu ?_; refine Seq.done ?_; refine Zd ?_; refine Wp.exit ?_; refine thenX ?_; refine loopX ?_; refine blkX (by exact rfl) ?_; refine thenN ?_; refine Wp.seq ?_; refine Wp.region ?_; refine Zq ?_; refine Zm ?_; refine Zq ?_; refine Za ?_; refine Seq.done ?_; refine Wp.ret ?_))
      (exact ret1 rfl rfl (by repeat (first | exact List.Sublist.refl _ | exact List.nil_sublist _ | refine List.Sublist.cons_cons _ ?_ | refine List.Sublist.cons _ ?_)) (by rw [sizeF, ← hz, List.take_of_length_le (by omega)]))
noncomputable def sizeE (e : GExpr) : Int := sizeF (SizeOf.sizeOf e) e
theorem size_q {fz : FZ} {e : GExpr} {v : Value} (h : GExprR fz e v) : QFn Tryz.prog 24 [eV e v] fz (.int .i64 (sizeE e)) := size_aux _ (Nat.le_refl _) h
noncomputable def heavyE (c : Cond) : Int := c.tests.foldl (fun n t => IntKind.i64.wrap (n + IntKind.i64.wrap (sizeE t.a + sizeE t.b))) ((c.pos.length : Int) + c.neg.length)
theorem heavy_q {fz : FZ} {c : Cond} {w1 w2 w3 : Value} (hc : CondR fz c w1 w2 w3) : QFn Tryz.prog 23 [cV w1 w2 w3] fz (.int .i64 (heavyE c)) := by
  (obtain ⟨B1, m1, d1, rfl, cp⟩ := hc.pos; obtain ⟨B2, m2, d2, rfl, cn⟩ := hc.neg; obtain ⟨B3, m3, d3, rfl, ct⟩ := hc.tests)
  have l1 := cp.len
  have l2 := cn.len
  have l3 := ct.len
  have q1 := cp.short
  have q2 := cn.short
  have q3 := ct.short
  refine GFn.quiet ?_
  (refine GFn.of_wp Tryz.func23 rfl Tryz.ntmps23 rfl rfl (fun w0 => ?_))
  (refine Wp.seq (Wp.region (Seq.stepK (by exact rfl) (k_box _ (by exact rfl) (by exact rfl) (fun g1 => ?_)))))
  ((refine Zq ?_; refine Za ?_; refine Seq.done ?_; refine Wp.seq ?_; refine Wp.region ?_; refine Zq ?_; refine Zf T ?_; refine Zq ?_; refine Zl T 0 ?_; refine Zq ?_; refine Zs T ?_; refine Zq ?_; refine Zf T ?_; refine Zq ?_; refine Zl T 0 ?_; refine Zq ?_; refine Zs T ?_; refine Zq ?_; refine q_add (by exact rfl) (by exact rfl) (wrap_in (by omega)) ?_; refine Zq ?_; refine Za ?_; refine Seq.done ?_; refine Wp.seq ?_; refine Wp.seq ?_; refine Wp.region ?_; refine Zq ?_; refine Za ?_; refine Seq.done ?_; refine Wp.block ?_))
  refine Wp.loop (fun q σ fz' H' => ∃ (k : Nat) (z : Int), k ≤ m3 ∧ q = m3 - k ∧ σ = [(4, .int .i64 k), (3, .int .i64 z), (1, .pointer (some ⟨g1, 0, none⟩))] ∧ fz = fz' ∧ H' = [((g1, .cells #[.slice B1 m1 d1, .slice B2 m2 d2, .slice B3 m3 d3] 42 (0, 0)))] ∧ (c.tests.take k).foldl (fun n t => IntKind.i64.wrap (n + IntKind.i64.wrap (sizeE t.a + sizeE t.b))) ((c.pos.length : Int) + c.neg.length) = z) ⟨0, _, Nat.zero_le _, rfl, rfl, rfl, rfl, by rw [l1, l2, List.take_zero, List.foldl_nil]⟩ (by repeat (first | exact trivial | refine ⟨by exact rfl, ?_⟩)) (by repeat (first | exact List.Sublist.refl _ | exact List.nil_sublist _ | refine List.Sublist.cons_cons _ ?_ | refine List.Sublist.cons _ ?_)) ?_
  rintro q σ fz' H' ⟨k, z, hk1, rfl, rfl, rfl, rfl, hz⟩
  ((refine Wp.seq ?_; refine Wp.seq ?_; refine Wp.region ?_; refine Zq ?_; refine Zm ?_; refine Zq ?_; refine Zf T ?_; refine Zq ?_; refine Zl T 0 ?_; refine Zq ?_; refine Zs T ?_))
  (((refine Zq ?_)); (refine q_lssD (by exact rfl) (by exact rfl) (fun c1 => ?_) (fun c1 => ?_)))
  · obtain ⟨x, hx⟩ := get_some (l := c.tests) (k := k) (by omega)
    ((refine Seq.done ?_; refine Zc ?_; refine Wp.skip ?_; refine thenN ?_; refine Wp.seq ?_; refine Wp.block ?_; refine Wp.draw (by decide +kernel) T.mixed (by kernel_rfl) (by kernel_rfl) ?_; refine QL.q ?_; refine Zm ?_; refine QL.q ?_; refine Zf T ?_; refine QL.q ?_; refine Zl T 0 ?_; refine QL.q ?_; refine Zm ?_))
    (((refine QL.q ?_)); refine q_index T k (by exact rfl) (by exact rfl) (by exact rfl) (by exact rfl) (by exact rfl) (by exact rfl) ct (by first | rfl | omega) hx (fun p hp => ?_))
    ((refine QL.q ?_; refine Zf T ?_))
    (((refine QL.q ?_)); refine q_load_at T (by exact rfl) (by exact rfl) (by exact rfl) hp.GTest_a (by exact rfl) ?_)
    intro cs hcs
    obtain ⟨y, rfl, hy⟩ := gExprL_open hcs
    (((refine QL.q ?_)); refine q_call (by exact rfl) (by exact rfl) (size_q hy) ?_)
    ((refine QL.q ?_; refine Zf T ?_; refine QL.q ?_; refine Zl T 0 ?_; refine QL.q ?_; refine Zm ?_))
    (((refine QL.q ?_)); refine q_index T k (by exact rfl) (by exact rfl) (by exact rfl) (by exact rfl) (by exact rfl) (by exact rfl) ct (by first | rfl | omega) hx (fun p2 hp2 => ?_))
    ((refine QL.q ?_; refine Zf T ?_))
    (((refine QL.q ?_)); refine q_load_at T (by exact rfl) (by exact rfl) (by exact rfl) hp2.GTest_b (by exact rfl) ?_)
    intro cs2 hcs2
    obtain ⟨y2, rfl, hy2⟩ := gExprL_open hcs2
    (((refine QL.q ?_)); refine q_call (by exact rfl) (by exact rfl) (size_q hy2) ?_)
    ((refine QL.q ?_)); refine q_add (by exact rfl) (by exact rfl) rfl ?_
    ((refine QL.q ?_)); refine q_add (by exact rfl) (by exact rfl) rfl ?_
    ((refine QL.q ?_; refine Za ?_; refine QL.done ?_; refine blkN ?_; refine thenN ?_; refine Wp.region ?_; refine Zq ?_; refine Zm ?_; refine Zq ?_; refine q_add (by exact rfl) (by exact rfl) (wrap_in (by omega)) ?_; refine Zq ?_; refine Za ?_; refine Seq.end_ ?_))
    exact loopN ⟨k + 1, _, by omega, rfl, rfl, rfl, rfl, by rw [fold_take hx, hz]⟩ (by omega) (by repeat (first | exact trivial | refine ⟨by exact rfl, ?_⟩)) (by repeat (first | exact List.Sublist.refl _ | exact List.nil_sublist _ | refine List.Sublist.cons_cons _ ?_ | refine List.Sublist.cons _ ?_))
  · ((refine Seq.done ?_; refine Zd ?_; refine Wp.exit ?_; refine thenX ?_; refine loopX ?_; refine blkX (by exact rfl) ?_; refine thenN ?_; refine Wp.seq ?_; refine Wp.region ?_; refine Zq ?_; refine Zm ?_; refine Zq ?_; refine Za ?_; refine Seq.done ?_; refine Wp.ret ?_))
    (exact ret1 rfl rfl (by repeat (first | exact List.Sublist.refl _ | exact List.nil_sublist _ | refine List.Sublist.cons_cons _ ?_ | refine List.Sublist.cons _ ?_)) (by rw [heavyE, ← hz, List.take_of_length_le (by omega)]))
end Go.Proofs.YtegmololhnipiaaGreatDoor
namespace Go.Lx
open Go.RowKit
section
variable {P : Program} {cx : Cx} {n : Nat} {σ : Env} {fz : FZ} {H H' : HP} {fn : Func} {R : Value → FZ → HP → Prop}
def resI (T : Tab P) (σ : Env) (H : HP) : List ResultVar → List Value → Prop
  | [], [] => True
  | .tmp t :: r, v :: vs => lk σ t = some v ∧ resI T σ H r vs
  | .cell p t :: r, v :: vs => (∃ (X : Ty) (g i : Nat) (cs : List Value) (t' : TypeId) (f : Nat × Nat), T.inf t = some X ∧ isAggD X.desc = true ∧ lk σ p = some (.pointer (some ⟨g, 0, none⟩)) ∧ H[i]? = some (g, Obj.cells (List.toArray cs) t' f) ∧ X.size = cs.length ∧ v = .agg cs.toArray) ∧ resI T σ H r vs
  | _, _ => False
theorem resI_run (T : Tab P) {a : Act} {w : World} (hs : Sat n σ a) (hw : Inv cx fz H w) {f : ResultVar → Sem Value} (hf1 : ∀ t, f (.tmp t) = pure (a.tmps.getD t undef)) (hf2 : ∀ x t, f (.cell x t) = (asAddr (a.tmps.getD x undef) >>= fun b => loadVar t b)) : ∀ (l : List ResultVar) (vs : List Value), resI T σ H l vs → (l.mapM f).run P w = .ok vs w
  | [], [], _ => by simp [List.mapM_nil]
  | [], _ :: _, h => h.elim
  | .tmp t :: r, [], h => h.elim
  | .cell p t :: r, [], h => h.elim
  | .tmp t :: r, v :: vs, ⟨h1, h2⟩ => by
    have := resI_run T hs hw hf1 hf2 r vs h2
    simp only [List.mapM_cons, hf1, Sem.run_bind, Sem.run_pure, Result.andThen_ok, this]
    simp [hs.slot t v h1]
  | .cell p t :: r, v :: vs, ⟨⟨X, g, i, cs, t', ff, hT, hd, hv, hi, hsz, he⟩, h2⟩ => by
    have := resI_run T hs hw hf1 hf2 r vs h2
    have hc : ∀ j v, cs[j]? = some v → w.cell? ((⟨g, 0, none⟩ : Addr).add j) = some v := fun j v hv => by
      have hadd : (⟨g, 0, none⟩ : Addr).add j = ⟨g, j, none⟩ := by unfold Addr.add; split <;> simp_all
      rw [hadd, hw.cellOwn hi]; simpa using hv
    have ha : asAddr (a.tmps.getD p undef) = (pure ⟨g, 0, none⟩ : Sem Addr) := by simp [asAddr, hs.slot p _ hv]
    simp only [List.mapM_cons, hf2, Sem.run_bind, ha, Sem.run_pure, Result.andThen_ok, run_loadN T hT hd hsz hc, this, he]
theorem retN' (T : Tab P) {vs : List Value} (hl : Nat.ble 2 vs.length = true) (hr : resI T σ H fn.results.toList vs) (h : ∀ w, Inv cx fz H w → ∃ fz' H', Inv cx fz' H' w ∧ R (.tuple vs.toArray) fz' H') : retQ P cx n fn R .ret σ fz H :=
  ret_of (fun a w hs hw => by
    have h2 : ∀ (f : ResultVar → Sem Value) (w' : World), (fn.results.mapM f).run P w' = ((fn.results.toList.mapM f).run P w').andThen fun l w'' => .ok l.toArray w'' := fun f w' => by
      rw [Array.mapM_eq_mapM_toList, map_eq_pure_bind, Sem.run_bind]
      simp only [Sem.run_pure]
    have hne : ¬ vs.toArray.size = 1 := by
      have := Nat.le_of_ble_eq_true hl
      simp; omega
    unfold results
    rw [Sem.run_bind, h2, resI_run T hs hw (fun _ => rfl) (fun _ _ => rfl) _ _ hr]
    simp only [Result.andThen_ok, Sem.run_pure]
    rw [dif_neg hne]) h
theorem retNF (T : Tab P) {vs : List Value} (hl : Nat.ble 2 vs.length = true) (hr : resI T σ H fn.results.toList vs) (h : ∀ fz', Le fz fz' → (∀ p ∈ H, fz' p.1 = some p.2) → R (.tuple vs.toArray) fz' []) : retQ P cx n fn R .ret σ fz H := retN' T hl hr (rFreeze h)
theorem Keep.of {fz fz' : FZ} {Hq H' : HP} (h1 : Le fz fz') (h2 : Hq.Sublist H') : Keep fz Hq fz' H' := ⟨h1, fun _ hp => h2.subset hp⟩
variable {Q : QQ} {Hq : HP} {σ' τ ve cv : Env} {l : List Oper} {ch all : List (Nat × Oper)} {i d : Nat} {op : Op} {ty : TypeId} {pos : String} {af : Array Edge} {dn : Bool} {fz0 : FZ}
theorem Ch.soft0 (h : Does P cx ⟨none, op, ty, pos, af, none⟩ (rdc l ⟨none, op, ty, pos, af, none⟩ σ' ve cv) fz H fun v fz' H' => Keep fz0 Hq fz' H' ∧ Ch P cx l σ' ve fz0 Hq Q all ch (dn || allq l all ⟨none, op, ty, pos, af, none⟩) ((i, v) :: cv) τ fz' H') :
    Ch P cx l σ' ve fz0 Hq Q all ((i, ⟨none, op, ty, pos, af, none⟩) :: ch) dn cv τ fz H := by
  unfold Ch
  refine .inl ⟨rfl, ?_⟩
  exact Does.of fun ρ w hr hi => (h.run ρ w hr hi).mono fun v w' ⟨fz', H', h1, h2, h3⟩ => ⟨fz', H', h1, .inr h2, h3⟩
theorem q_index_own (T : Tab P) {t e : TypeId} {x i : Operand} {X Y : Ty} {g n c : Nat} {k : IntKind} {j : Int} {V : Value → Prop} {r : Operand → Option Value} {dst : Option Nat} {gd : Option (Nat × Bool)} (hT : T.inf t = some X) (hd : X.desc = .slice e) (hY : T.inf e = some Y)
    (hx : r x = some (.slice (some ⟨g, 0, none⟩) n c)) (hi : r i = some (.int k j)) (hs : Y.size = 1) (h0 : 0 ≤ j) (hn : j < n) (h : V (.pointer (some ⟨g, j.toNat, none⟩))) : DoesQ P cx ⟨dst, .indexAddr t x i, ty, pos, af, gd⟩ r fz H V := by
  refine q_indexAddr T hT hd hY hx hi h0 hn ?_
  have hadd : (⟨g, 0, none⟩ : Addr).add (j.toNat * Y.size) = ⟨g, j.toNat, none⟩ := by rw [hs]; unfold Addr.add; split <;> simp_all
  rw [hadd]
  exact h
theorem q_eql_boolD (T : Tab P) {t t' : TypeId} {x y : Operand} {X : Ty} {a b : Bool} {V : Value → Prop} {r : Operand → Option Value} {dst : Option Nat} {gd : Option (Nat × Bool)} (hT : T.inf t = some X) (hd : X.desc = .bool) (hx : r x = some (.bool a)) (hy : r y = some (.bool b)) (ht : a = b → V (.bool true)) (hf : a ≠ b → V (.bool false)) :
    DoesQ P cx ⟨dst, .binOp .eql t x y t', ty, pos, af, gd⟩ r fz H V := by
  refine q_eql_bool T hT hd hx hy ?_
  by_cases h : a = b
  · subst h; simpa using ht rfl
  · have := hf h
    cases a <;> cases b <;> simp_all
theorem ownS_block {e n : Nat} {v : Value} {xs : List Value} {Hs : HP} (h : OwnS e 1 v n xs Hs) (hn : 0 < n) : ∃ g cap cur, v = .slice (some ⟨g, 0, none⟩) n cap ∧ Hs = [(g, .cells (List.toArray cur) e (0, 0))] ∧ n ≤ cur.length ∧
    ∀ j u, OwnS e 1 v n (xs.set j u) [(g, .cells (cur.set j u).toArray e (0, 0))] := by
  obtain ⟨h0, h | ⟨g, cap, cur, h1, h2, h3, h4, h5, h6⟩⟩ := h
  · omega
  · refine ⟨g, cap, cur.toList, h1, h2, by simp; omega, fun j u => ⟨by simpa using h0, .inr ⟨g, cap, _, h1, rfl, h3, h4, by simpa using h5, ?_⟩⟩⟩
    rw [← h6]
    simp [List.take_set]
end
end Go.Lx
namespace Go.Proofs.YtegmololhnipiaaGreatDoor
open Go.Lx Go.Gr Go.RowKit
attribute [local instance 10] Classical.propDecidable
set_option maxRecDepth 20000
def StR (S : GState) : Value → FZ → HP → Prop := fun v fz' H' => H' = [] ∧ ∃ w1 w2, v = sV w1 w2 ∧ GStateR fz' S w1 w2
end Go.Proofs.YtegmololhnipiaaGreatDoor
namespace Go.Proofs.YtegmololhnipiaaGreatDoor
open Go.Lx Go.Gr Go.RowKit
attribute [local instance 10] Classical.propDecidable
set_option maxRecDepth 20000
noncomputable def assignM (g : GTask) (vs : List Int) : List GAssign → List Int → Option (List Int)
  | [], out => some out
  | a :: r, out => match valE vs a.value with
    | none => none
    | some n => match g.fluents[a.fluent.toNat]? with
      | none => none
      | some f => if f.lo ≤ n ∧ n ≤ f.hi then assignM g vs r (out.set a.fluent.toNat n) else none
theorem assignM_append {g : GTask} {vs : List Int} : ∀ {l r : List GAssign} {out : List Int}, assignM g vs (l ++ r) out = (assignM g vs l out).bind (assignM g vs r)
  | [], r, out => rfl
  | a :: l, r, out => by
    simp only [List.cons_append, assignM]
    cases valE vs a.value with
    | none => rfl
    | some n =>
      cases g.fluents[a.fluent.toNat]? with
      | none => rfl
      | some f =>
        simp only
        split
        · exact assignM_append
        · rfl
theorem assignM_next {g : GTask} {vs : List Int} {l : List GAssign} {out o1 : List Int} {k : Nat} {a : GAssign} {n : Int} {f : GFluent} (h : assignM g vs (l.take k) out = some o1) (ha : l[k]? = some a) (hn : valE vs a.value = some n) (hf : g.fluents[a.fluent.toNat]? = some f) (h1 : f.lo ≤ n) (h2 : n ≤ f.hi) :
    assignM g vs (l.take (k + 1)) out = some (o1.set a.fluent.toNat n) := by
  rw [List.take_add_one, ha, assignM_append, h]
  simp [assignM, hn, hf, h1, h2]
theorem assignM_bad {g : GTask} {vs : List Int} {l : List GAssign} {out o1 : List Int} {k : Nat} {a : GAssign} {f : GFluent} (h : assignM g vs (l.take k) out = some o1) (ha : l[k]? = some a) (hf : g.fluents[a.fluent.toNat]? = some f) (hn : ∀ n, valE vs a.value = some n → f.lo ≤ n → ¬ n ≤ f.hi) :
    assignM g vs l out = none := by
  have hs : l = l.take k ++ a :: l.drop (k + 1) := by
    have hlt := lt_of_get ha
    have e : l[k] = a := by rw [List.getElem?_eq_getElem hlt] at ha; injection ha
    rw [← e, ← List.drop_eq_getElem_cons hlt, List.take_append_drop]
  rw [hs, assignM_append, h]
  simp only [Option.bind_some, assignM]
  cases hv : valE vs a.value with
  | none => rfl
  | some n =>
    simp only [hf]
    rw [if_neg (fun hc => hn n hv hc.1 hc.2)]
theorem assignM_in {g : GTask} {vs : List Int} {m : Int} (hv : InB vs) : ∀ {l : List GAssign} {out o : List Int}, (∀ a ∈ l, RightP m a.value) → InB out → assignM g vs l out = some o → InB o
  | [], out, o, _, ho, h => by injection h with h; rw [← h]; exact ho
  | a :: l, out, o, hr, ho, h => by
    simp only [assignM] at h
    split at h
    · cases h
    · rename_i n hn
      split at h
      · cases h
      · split at h
        · refine assignM_in hv (fun b hb => hr b (by simp [hb])) (fun x hx => ?_) h
          rcases List.mem_or_eq_of_mem_set hx with h1 | h1
          · exact ho x h1
          · rw [h1]; exact valE_in hv (hr a (by simp)) hn
        · cases h
theorem inB_i64 {l : List Int} (h : InB l) : ∀ z ∈ l, I64 z := fun z hz => by
  have := h z hz
  have hm : maxN = 1099511627776 := rfl
  unfold I64; omega
inductive AppR (g : GTask) (S : GState) (op : Int) : Int → List Int → Prop where
  | invalid : ¬ ValidP g → AppR g S op 2 []
  | range : ValidP g → (op < 0 ∨ g.ops.length ≤ op) → AppR g S op 1 []
  | improper : ValidP g → 0 ≤ op → op < g.ops.length → ¬ ProperP g S → AppR g S op 2 []
  | pre (o : GOp) : ValidP g → 0 ≤ op → op < g.ops.length → ProperP g S → g.ops[op.toNat]? = some o → ¬ HoldP S o.pre → AppR g S op 12 []
  | bounds (o : GOp) : ValidP g → 0 ≤ op → op < g.ops.length → ProperP g S → g.ops[op.toNat]? = some o → HoldP S o.pre → assignM g S.values o.assigns S.values = none → AppR g S op 14 []
  | ok (o : GOp) (vs : List Int) : ValidP g → 0 ≤ op → op < g.ops.length → ProperP g S → g.ops[op.toNat]? = some o → HoldP S o.pre → assignM g S.values o.assigns S.values = some vs → AppR g S op 0 vs
theorem AppR.det {g : GTask} {S : GState} {op c c' : Int} {vs vs' : List Int} (h : AppR g S op c vs) (h' : AppR g S op c' vs') : c = c' ∧ vs = vs' := by
  cases h <;> cases h' <;> first
    | exact ⟨rfl, rfl⟩
    | contradiction
    | (exfalso; omega)
    | simp_all
theorem ops_ok {g : GTask} (hv : ValidP g) {i : Nat} {o : GOp} (ho : g.ops[i]? = some o) : OpOk g.atoms.length g.fluents.length o := hv.2.2.2.2.2.2.2 o (List.mem_of_getElem? ho)
theorem op_get {g : GTask} {op : Int} (h0 : 0 ≤ op) (h1 : op < g.ops.length) : ∃ (j : Nat) (o : GOp), op = j ∧ g.ops[j]? = some o ∧ g.ops[op.toNat]? = some o := by
  obtain ⟨o, ho⟩ := get_int (l := g.ops) h0 h1
  exact ⟨op.toNat, o, by omega, ho, ho⟩
def AsgR (g : GTask) (S : GState) (op : Int) : Value → FZ → HP → Prop := fun v fz' H' => H' = [] ∧ ∃ code vs w, AppR g S op code vs ∧ v = .tuple #[w, errV code] ∧ IsSl intL fz' w vs
set_option maxHeartbeats 2000000 in
theorem assigned_f {fz : FZ} {g : GTask} {v1 v2 v3 v4 v5 : Value} {S : GState} {u1 u2 : Value} {op : Int} (hg : GTaskR fz g v1 v2 v3 v4 v5) (hs : GStateR fz S u1 u2) :
    GFn Tryz.prog 47 [gV v1 v2 v3 v4 v5, sV u1 u2, .int .i64 op] fz [] (AsgR g S op) := by
  have hg0 := hg
  have hs0 := hs
  (obtain ⟨A1, n1, cap1, rfl, ga⟩ := hg.atoms; obtain ⟨A2, n2, cap2, rfl, gf⟩ := hg.fluents; obtain ⟨A3, n3, cap3, rfl, gi⟩ := hg.init; obtain ⟨A4, n4, cap4, rfl, gg⟩ := hg.goal; obtain ⟨A5, n5, cap5, rfl, go⟩ := hg.ops; have e1 := ga.len; subst e1; have e2 := gf.len; subst e2)
  obtain ⟨B1, m1, d1, rfl, st⟩ := hs.tru
  obtain ⟨B2, m2, d2, rfl, sv⟩ := hs.values
  have l5 := go.len
  have lv := sv.len
  have q5 := go.short
  (refine GFn.of_wp Tryz.func47 rfl Tryz.ntmps47 rfl rfl (fun w0 => ?_))
  (refine Wp.seq (Wp.region (Seq.stepK (by exact rfl) (k_box _ (by exact rfl) (by exact rfl) (fun g0 => ?_)))))
  (refine Seq.stepK (by exact rfl) (k_box _ (by exact rfl) (by exact rfl) (fun g1 => ?_)))
  ((refine Zq ?_; refine Za ?_; refine Zq ?_; refine Za ?_; refine Seq.done ?_; refine Wp.seq ?_; refine Wp.seq ?_; refine Wp.region ?_; refine Zq ?_; refine ZL T 1 ?_))
  (((refine Zq ?_)); refine q_callB (by exact rfl) (by exact rfl) (valid_q hg0) (fun f1 => ?_) (fun f1 => ?_))
  · have hv := of_decide_eq_true f1
    ((refine Zq ?_; refine q_not (by exact rfl) ?_; refine Seq.done ?_; refine Zd ?_; refine Wp.skip ?_; refine thenN ?_; refine Wp.seq ?_; refine Wp.seq ?_; refine Wp.region ?_; refine Zq ?_; refine Zm ?_))
    (((refine Zq ?_)); (refine q_lssD (by exact rfl) (by exact rfl) (fun c1 => ?_) (fun c1 => ?_)))
    · ((refine Zq ?_; refine Zm ?_; refine Zn ?_; refine Zn ?_; refine Zn ?_; refine Zn ?_; refine Zn ?_; refine Zq ?_; refine Zt ?_; refine Seq.done ?_; refine Zc ?_; refine Wp.seq ?_; refine Wp.region ?_; refine Zq ?_; refine q_makeInterface T (by exact rfl) (by exact rfl) (by exact rfl) ?_; refine Zq ?_; refine Za ?_; refine Zq ?_; refine Za ?_; refine Seq.done ?_; refine Wp.ret ?_; refine thenR ?_))
      exact ret2 rfl rfl rfl (by repeat (first | exact List.Sublist.refl _ | exact List.nil_sublist _ | refine List.Sublist.cons_cons _ ?_ | refine List.Sublist.cons _ ?_)) ⟨rfl, 1, [], _, .range hv (.inl c1), by rw [errV_ne (by decide)], IsSl.nil⟩
    ((refine Zq ?_; refine Zm ?_; refine Zy ?_; refine Zm ?_; refine Zy ?_; refine Zf T ?_; refine Zy ?_; refine Zl T 1 ?_; refine Zy ?_; refine Zs T ?_))
    (((refine Zy ?_)); (refine q_geqD (by exact rfl) (by exact rfl) (fun c2 => ?_) (fun c2 => ?_)))
    · ((refine Zq ?_; refine Zu ?_; refine Seq.done ?_; refine Zc ?_; refine Wp.seq ?_; refine Wp.region ?_; refine Zq ?_; refine q_makeInterface T (by exact rfl) (by exact rfl) (by exact rfl) ?_; refine Zq ?_; refine Za ?_; refine Zq ?_; refine Za ?_; refine Seq.done ?_; refine Wp.ret ?_; refine thenR ?_))
      exact ret2 rfl rfl rfl (by repeat (first | exact List.Sublist.refl _ | exact List.nil_sublist _ | refine List.Sublist.cons_cons _ ?_ | refine List.Sublist.cons _ ?_)) ⟨rfl, 1, [], _, .range hv (.inr (by omega)), by rw [errV_ne (by decide)], IsSl.nil⟩
    have r0 : 0 ≤ op := by omega
    have r1 : op < g.ops.length := by omega
    ((refine Zq ?_; refine Zu ?_; refine Seq.done ?_; refine Zd ?_; refine Wp.skip ?_; refine thenN ?_; refine Wp.seq ?_; refine Wp.seq ?_; refine Wp.region ?_; refine Zq ?_; refine ZL T 1 ?_; refine Zq ?_; refine ZL T 0 ?_))
    (((refine Zq ?_)); refine q_callB (by exact rfl) (by exact rfl) (proper_q hg0 hs0) (fun f2 => ?_) (fun f2 => ?_))
    · have hp := of_decide_eq_true f2
      obtain ⟨j, o, hj, ho, ho'⟩ := op_get r0 r1
      have hok := ops_ok hv ho
      have hfl : g.fluents.length ≤ 4096 := by have := hv.2.1; omega
      have hpl := hp.1
      ((refine Zq ?_; refine q_not (by exact rfl) ?_; refine Seq.done ?_; refine Zd ?_; refine Wp.skip ?_; refine thenN ?_; refine Wp.seq ?_; refine Wp.region ?_; refine Zq ?_; refine Zf T ?_; refine Zq ?_; refine Zl T 1 ?_; refine Zq ?_; refine Zm ?_))
      (((refine Zq ?_)); refine q_index T j (by exact rfl) (by exact rfl) (by exact rfl) (by exact rfl) (by exact rfl) (by exact rfl) go (by first | rfl | omega) ho (fun p hp1 => ?_))
      (((refine Zq ?_)); refine q_load_at T (by exact rfl) (by exact rfl) (by exact rfl) hp1 (by exact rfl) ?_)
      intro cs hcs
      obtain ⟨w1, w2, w3, w4, w5, rfl, hO⟩ := gOpL_open hcs
      obtain ⟨P1, p1, o1, rfl, _⟩ := hO.pre.pos
      obtain ⟨P2, p2, o2, rfl, _⟩ := hO.pre.neg
      obtain ⟨P3, p3, o3, rfl, _⟩ := hO.pre.tests
      obtain ⟨P4, p4, o4, rfl, oc⟩ := hO.changes
      obtain ⟨P5, p5, o5, rfl, oa⟩ := hO.assigns
      have la := oa.len
      have qa := oa.short
      ((refine Seq.stepK (by exact rfl) (k_alloc T (by exact rfl) (by exact rfl) (fun _ => ?_)); refine Seq.stepK0 (k_store0 T (by exact rfl) (by exact rfl) (by exact rfl) (by exact rfl) (by exact rfl) (by exact rfl) ?_); refine Seq.done ?_; refine Wp.seq ?_; refine Wp.seq ?_; refine Wp.region ?_; refine Zq ?_; refine ZL T 1 ?_; refine Zq ?_; refine Zf T ?_))
      (((refine Zq ?_)); refine q_load_own_sub (vs := [.slice P1 p1 o1, .slice P2 p2 o2, .slice P3 p3 o3]) T 0 (by exact rfl) (by exact rfl) (by exact rfl) (by exact rfl) (by exact rfl) (by exact rfl) ?_)
      (((refine Zq ?_)); refine q_callB (by exact rfl) (by exact rfl) (holds_q hs0 hO.pre hp.2.1 (proper_in hv hp) (tests_of hp hok.2.2.2.2.1)) (fun f3 => ?_) (fun f3 => ?_))
      · have hh3 := of_decide_eq_true f3
        ((refine Zq ?_; refine q_not (by exact rfl) ?_; refine Seq.done ?_; refine Zd ?_; refine Wp.skip ?_; refine thenN ?_; refine Wp.seq ?_; refine Wp.region ?_; refine Zq ?_; refine Zf T ?_; refine Zq ?_; refine Zl T 1 ?_))
        refine Seq.stepK (by exact rfl) (k_call [] [_, _, _] (by exact rfl) (by exact rfl) (by exact rfl) (clone_f sv (by omega)) (fun v fz1 H1 hle1 hR => ?_))
        obtain ⟨rfl, hO1⟩ := hR
        refine Seq.perm (H' := [_, _, _] ++ H1) List.perm_append_comm ?_
        ((refine Zq ?_; refine Za ?_; refine Seq.done ?_; refine Wp.seq ?_; refine Wp.seq ?_; refine Wp.region ?_; refine Zq ?_; refine Zf T ?_; refine Zq ?_; refine Zl T 0 ?_; refine Zq ?_; refine Zs T ?_; refine Zq ?_; refine Zm ?_; refine Seq.done ?_; refine Wp.block ?_))
        refine Wp.loop (fun q σ fz' H' => ∃ (k : Nat) (xs : List Int) (Hs : HP), k ≤ p5 ∧ q = p5 - k ∧ σ = [(50, .int .i64 k), (49, .int .i64 p5), (48, .slice P5 p5 o5), (9, v), (4, .pointer (some ⟨g1, 0, none⟩)), (3, .pointer (some ⟨g0, 0, none⟩))] ∧ fz1 = fz' ∧
            H' = ((g1, .cells #[.slice B1 m1 d1, .slice B2 m2 d2] 33 (0, 0))) :: ((g0, .cells #[.slice A1 g.atoms.length cap1, .slice A2 g.fluents.length cap2, .slice A3 n3 cap3, .slice A4 n4 cap4, .slice A5 n5 cap5] 28 (0, 0))) :: Hs ∧ OwnS 3 1 v m2 (xs.map (Value.int .i64)) Hs ∧ assignM g S.values (o.assigns.take k) S.values = some xs)
          ⟨0, _, _, Nat.zero_le _, rfl, rfl, rfl, rfl, hO1, rfl⟩ (by repeat (first | exact trivial | refine ⟨by exact rfl, ?_⟩)) (by repeat (first | exact List.Sublist.refl _ | exact List.nil_sublist _ | refine List.Sublist.cons_cons _ ?_ | refine List.Sublist.cons _ ?_)) ?_
        rintro q σ fz' H' ⟨k, xs, Hs, hk, rfl, rfl, rfl, rfl, hOx, hA⟩
        ((refine Wp.seq ?_; refine Wp.region ?_))
        (((refine Zq ?_)); (refine q_lssD (by exact rfl) (by exact rfl) (fun c3 => ?_) (fun c3 => ?_)))
        · obtain ⟨x, hx⟩ := get_some (l := o.assigns) (k := k) (by omega)
          obtain ⟨a0, a1, ar, _⟩ := hok.2.2.2.2.2.2 k x hx
          obtain ⟨f, hf⟩ := get_int (l := g.fluents) a0 a1
          ((refine Seq.done ?_; refine Wp.seq ?_; refine Zc ?_; refine Wp.skip ?_; refine thenN ?_; refine Wp.seq ?_; refine Wp.block ?_; refine Wp.seq ?_; refine Wp.region ?_))
          (((refine Zq ?_)); refine q_index T k (by exact rfl) (by exact rfl) (by exact rfl) (by exact rfl) (by exact rfl) (by exact rfl) oa (by first | rfl | omega) hx (fun p hp2 => ?_))
          (((refine Zq ?_)); refine q_load_at T (by exact rfl) (by exact rfl) (by exact rfl) hp2 (by exact rfl) ?_)
          intro cs2 hcs2
          obtain ⟨y, rfl, hy⟩ := gAssignL_open hcs2
          obtain ⟨E1, r1', q1', rfl, _⟩ := hy.value.kids
          obtain ⟨z, hq⟩ := value_aux _ (Nat.le_refl _) hs0 hy.value (by rw [hpl]; exact ar) (proper_in hv hp)
          have bad : (∀ n, valE S.values x.value = some n → f.lo ≤ n → ¬ n ≤ f.hi) → AsgR g S op (.tuple #[.slice none 0 0, .iface 71 (.int .i64 14)]) fz1 [] := fun h =>
            ⟨rfl, 14, [], _, .bounds o hv r0 r1 hp ho' hh3 (assignM_bad hA hx hf h), by rw [errV_ne (by decide)], IsSl.nil⟩
          cases hval : valE S.values x.value with
          | none =>
            rw [hval] at hq
            ((refine Seq.stepK (by exact rfl) (k_alloc T (by exact rfl) (by exact rfl) (fun _ => ?_)); refine Seq.stepK0 (k_store0 T (by exact rfl) (by exact rfl) (by exact rfl) (by exact rfl) (by exact rfl) (by exact rfl) ?_); refine Seq.done ?_; refine Wp.seq ?_; refine Wp.region ?_; refine Zq ?_; refine ZL T 1 ?_; refine Zq ?_; refine Zf T ?_))
            (((refine Zq ?_)); refine q_load_own_sub (vs := [.string x.value.op, .int .i64 x.value.n, .slice E1 r1' q1']) T 0 (by exact rfl) (by exact rfl) (by exact rfl) (by exact rfl) (by exact rfl) (by exact rfl) ?_)
            (((refine Zq ?_)); refine q_call (by exact rfl) (by exact rfl) hq ?_)
            ((refine Zq ?_; refine Zm ?_; refine Zq ?_; refine Ze ?_; refine Zq ?_; refine Ze ?_; refine Zq ?_; refine Za ?_; refine Zq ?_; refine Za ?_; refine Seq.done ?_; refine Wp.seq ?_; refine Wp.seq ?_; refine Wp.region ?_; refine Zq ?_; refine Zm ?_; refine Zq ?_; refine q_not (by exact rfl) ?_; refine Zq ?_; refine Zm ?_; refine Zn ?_; refine Zn ?_; refine Zn ?_; refine Zn ?_; refine Zn ?_; refine Zn ?_; refine Zn ?_; refine Zn ?_; refine Zn ?_; refine Zq ?_; refine Zt ?_; refine Zq ?_; refine Zm ?_; refine Zn ?_; refine Zn ?_; refine Zn ?_; refine Zn ?_; refine Zn ?_; refine Zn ?_; refine Zn ?_; refine Zn ?_; refine Zn ?_; refine Zq ?_; refine Zt ?_; refine Seq.done ?_; refine Zc ?_; refine Wp.seq ?_; refine Wp.region ?_; refine Zq ?_; refine q_makeInterface T (by exact rfl) (by exact rfl) (by exact rfl) ?_; refine Zq ?_; refine Za ?_; refine Zq ?_; refine Za ?_; refine Seq.done ?_; refine Wp.ret ?_; refine thenR ?_; refine blkR ?_; refine thenR ?_; refine loopR ?_; refine blkR ?_; refine thenR ?_))
            exact ret2 rfl rfl rfl (List.nil_sublist _) (bad (fun n hn => by rw [hval] at hn; cases hn))
          | some n =>
            rw [hval] at hq
            ((refine Seq.stepK (by exact rfl) (k_alloc T (by exact rfl) (by exact rfl) (fun _ => ?_)); refine Seq.stepK0 (k_store0 T (by exact rfl) (by exact rfl) (by exact rfl) (by exact rfl) (by exact rfl) (by exact rfl) ?_); refine Seq.done ?_; refine Wp.seq ?_; refine Wp.region ?_; refine Zq ?_; refine ZL T 1 ?_; refine Zq ?_; refine Zf T ?_))
            (((refine Zq ?_)); refine q_load_own_sub (vs := [.string x.value.op, .int .i64 x.value.n, .slice E1 r1' q1']) T 0 (by exact rfl) (by exact rfl) (by exact rfl) (by exact rfl) (by exact rfl) (by exact rfl) ?_)
            (((refine Zq ?_)); refine q_call (by exact rfl) (by exact rfl) hq ?_)
            ((refine Zq ?_; refine Zm ?_; refine Zq ?_; refine Ze ?_; refine Zq ?_; refine Ze ?_; refine Zq ?_; refine Za ?_; refine Zq ?_; refine Za ?_; refine Seq.done ?_; refine Wp.seq ?_; refine Wp.seq ?_; refine Wp.region ?_; refine Zq ?_; refine Zm ?_; refine Zq ?_; refine q_not (by exact rfl) ?_; refine Zq ?_; refine Zm ?_; refine Zy ?_; refine Zm ?_; refine Zy ?_; refine Zf T ?_; refine Zy ?_; refine Zl T 2 ?_; refine Zy ?_; refine Zf T ?_; refine Zy ?_; refine Zl T 0 ?_))
            (((refine Zy ?_)); refine q_index T x.fluent.toNat (by exact rfl) (by exact rfl) (by exact rfl) (by exact rfl) (by exact rfl) (by exact rfl) gf (by first | rfl | omega) hf (fun p2 hp3 => ?_))
            ((refine Zy ?_; refine Zf T ?_))
            (((refine Zy ?_)); refine q_load_int T (by exact rfl) (by exact rfl) (by exact rfl) hp3.GFluent_lo (fun i1 => ?_))
            (((refine Zy ?_)); (refine q_lssD (by exact rfl) (by exact rfl) (fun c4 => ?_) (fun c4 => ?_)))
            · ((refine Zq ?_; refine Zu ?_; refine Zq ?_; refine Zm ?_; refine Zn ?_; refine Zn ?_; refine Zn ?_; refine Zn ?_; refine Zn ?_; refine Zn ?_; refine Zn ?_; refine Zn ?_; refine Zn ?_; refine Zq ?_; refine Zt ?_; refine Seq.done ?_; refine Zc ?_; refine Wp.seq ?_; refine Wp.region ?_; refine Zq ?_; refine q_makeInterface T (by exact rfl) (by exact rfl) (by exact rfl) ?_; refine Zq ?_; refine Za ?_; refine Zq ?_; refine Za ?_; refine Seq.done ?_; refine Wp.ret ?_; refine thenR ?_; refine blkR ?_; refine thenR ?_; refine loopR ?_; refine blkR ?_; refine thenR ?_))
              exact ret2 rfl rfl rfl (List.nil_sublist _) (bad (fun n' hn => by rw [hval] at hn; injection hn with hn; subst hn; intro h; exact absurd h (Int.not_le.2 c4)))
            ((refine Zq ?_; refine Zu ?_; refine Zq ?_; refine Zm ?_; refine Zy ?_; refine Zm ?_; refine Zy ?_; refine Zf T ?_; refine Zy ?_; refine Zl T 2 ?_; refine Zy ?_; refine Zf T ?_; refine Zy ?_; refine Zl T 0 ?_))
            (((refine Zy ?_)); refine q_index T x.fluent.toNat (by exact rfl) (by exact rfl) (by exact rfl) (by exact rfl) (by exact rfl) (by exact rfl) gf (by first | rfl | omega) hf (fun p3' hp4 => ?_))
            ((refine Zy ?_; refine Zf T ?_))
            (((refine Zy ?_)); refine q_load_int T (by exact rfl) (by exact rfl) (by exact rfl) hp4.GFluent_hi (fun i2 => ?_))
            (((refine Zy ?_)); (refine q_gtrD (by exact rfl) (by exact rfl) (fun c5 => ?_) (fun c5 => ?_)))
            · ((refine Zq ?_; refine Zu ?_; refine Seq.done ?_; refine Zc ?_; refine Wp.seq ?_; refine Wp.region ?_; refine Zq ?_; refine q_makeInterface T (by exact rfl) (by exact rfl) (by exact rfl) ?_; refine Zq ?_; refine Za ?_; refine Zq ?_; refine Za ?_; refine Seq.done ?_; refine Wp.ret ?_; refine thenR ?_; refine blkR ?_; refine thenR ?_; refine loopR ?_; refine blkR ?_; refine thenR ?_))
              exact ret2 rfl rfl rfl (List.nil_sublist _) (bad (fun n' hn => by rw [hval] at hn; injection hn with hn; subst hn; intro _; exact Int.not_le.2 c5))
            obtain ⟨gx, cap, cur, rfl, rfl, hcur, hset⟩ := ownS_block hOx (by omega)
            ((refine Zq ?_; refine Zu ?_; refine Seq.done ?_; refine Zd ?_; refine Wp.skip ?_; refine thenN ?_; refine Wp.region ?_; refine Zq ?_; refine Zm ?_; refine Zq ?_; refine Zf T ?_; refine Zq ?_; refine Zl T 0 ?_; refine Zq ?_; refine Zm ?_))
            ((refine Zq ?_)); refine q_index_own T (by exact rfl) (by exact rfl) (by exact rfl) (by exact rfl) (by exact rfl) (by exact rfl) (by omega) (by omega) ?_
            refine Seq.stepK0 (k_store_row T (pre := [_, _, _]) (post := []) (by exact rfl) (by exact rfl) (by exact rfl) (by exact rfl) (by exact rfl) (by exact rfl) (by exact rfl) (by omega) ?_)
            ((refine Seq.end_ ?_; refine blkN ?_; refine thenN ?_; refine Wp.region ?_; refine Zq ?_; refine q_add (by exact rfl) (by exact rfl) (wrap_in (by omega)) ?_; refine Zq ?_; refine Zm ?_; refine Seq.end_ ?_))
            exact loopN ⟨k + 1, xs.set x.fluent.toNat n, _, by omega, rfl, rfl, rfl, rfl, by rw [List.map_set]; exact hset _ _, assignM_next hA hx hval hf (Int.not_lt.1 c4) (Int.not_lt.1 c5)⟩ (by omega) (by repeat (first | exact trivial | refine ⟨by exact rfl, ?_⟩)) (by repeat (first | exact List.Sublist.refl _ | exact List.nil_sublist _ | refine List.Sublist.cons_cons _ ?_ | refine List.Sublist.cons _ ?_))
        · have hA' : assignM g S.values o.assigns S.values = some xs := by rw [← hA, List.take_of_length_le (by omega)]
          ((refine Seq.done ?_; refine Wp.seq ?_; refine Zd ?_; refine Wp.exit ?_; refine thenX ?_; refine loopX ?_; refine blkX (by exact rfl) ?_; refine thenN ?_; refine Wp.seq ?_; refine Wp.region ?_; refine Zq ?_; refine Zm ?_; refine Zq ?_; refine Za ?_; refine Zq ?_; refine Za ?_; refine Seq.done ?_; refine Wp.ret ?_))
          refine ret2F rfl rfl rfl (fun fz3 hle3 hf3 => ?_)
          obtain ⟨A', c', he, hsl'⟩ := sl_ints hOx (fun p hp => hf3 p (by simp [hp])) (by omega) (inB_i64 (assignM_in (proper_in hv hp) (fun a ha => by
            obtain ⟨i, hi⟩ := List.mem_iff_getElem?.1 ha
            exact (hok.2.2.2.2.2.2 i a hi).2.2.1) (proper_in hv hp) hA'))
          exact ⟨rfl, 0, xs, _, .ok o xs hv r0 r1 hp ho' hh3 hA', rfl, by rw [he]; exact hsl'.is⟩
      · ((refine Zq ?_; refine q_not (by exact rfl) ?_; refine Seq.done ?_; refine Zc ?_; refine Wp.seq ?_; refine Wp.region ?_; refine Zq ?_; refine q_makeInterface T (by exact rfl) (by exact rfl) (by exact rfl) ?_; refine Zq ?_; refine Za ?_; refine Zq ?_; refine Za ?_; refine Seq.done ?_; refine Wp.ret ?_; refine thenR ?_))
        exact ret2 rfl rfl rfl (by repeat (first | exact List.Sublist.refl _ | exact List.nil_sublist _ | refine List.Sublist.cons_cons _ ?_ | refine List.Sublist.cons _ ?_)) ⟨rfl, 12, [], _, .pre o hv r0 r1 hp ho' (of_decide_eq_false f3), by rw [errV_ne (by decide)], IsSl.nil⟩
    · ((refine Zq ?_; refine q_not (by exact rfl) ?_; refine Seq.done ?_; refine Zc ?_; refine Wp.seq ?_; refine Wp.region ?_; refine Zq ?_; refine q_makeInterface T (by exact rfl) (by exact rfl) (by exact rfl) ?_; refine Zq ?_; refine Za ?_; refine Zq ?_; refine Za ?_; refine Seq.done ?_; refine Wp.ret ?_; refine thenR ?_))
      exact ret2 rfl rfl rfl (by repeat (first | exact List.Sublist.refl _ | exact List.nil_sublist _ | refine List.Sublist.cons_cons _ ?_ | refine List.Sublist.cons _ ?_)) ⟨rfl, 2, [], _, .improper hv r0 r1 (of_decide_eq_false f2), by rw [errV_ne (by decide)], IsSl.nil⟩
  · ((refine Zq ?_; refine q_not (by exact rfl) ?_; refine Seq.done ?_; refine Zc ?_; refine Wp.seq ?_; refine Wp.region ?_; refine Zq ?_; refine q_makeInterface T (by exact rfl) (by exact rfl) (by exact rfl) ?_; refine Zq ?_; refine Za ?_; refine Zq ?_; refine Za ?_; refine Seq.done ?_; refine Wp.ret ?_; refine thenR ?_))
    exact ret2 rfl rfl rfl (by repeat (first | exact List.Sublist.refl _ | exact List.nil_sublist _ | refine List.Sublist.cons_cons _ ?_ | refine List.Sublist.cons _ ?_)) ⟨rfl, 2, [], _, .invalid (of_decide_eq_false f1), by rw [errV_ne (by decide)], IsSl.nil⟩
end Go.Proofs.YtegmololhnipiaaGreatDoor
namespace Go.Proofs.YtegmololhnipiaaGreatDoor
open Go.Lx Go.Gr Go.RowKit
attribute [local instance 10] Classical.propDecidable
set_option maxRecDepth 20000
theorem app_total (g : GTask) (S : GState) (op : Int) : ∃ code vs, AppR g S op code vs := by
  by_cases hv : ValidP g
  · by_cases hr : op < 0 ∨ g.ops.length ≤ op
    · exact ⟨_, _, .range hv hr⟩
    · have r0 : 0 ≤ op := by omega
      have r1 : op < g.ops.length := by omega
      by_cases hp : ProperP g S
      · obtain ⟨j, o, hj, ho, ho'⟩ := op_get r0 r1
        by_cases hh : HoldP S o.pre
        · cases hA : assignM g S.values o.assigns S.values with
          | none => exact ⟨_, _, .bounds o hv r0 r1 hp ho' hh hA⟩
          | some vs => exact ⟨_, _, .ok o vs hv r0 r1 hp ho' hh hA⟩
        · exact ⟨_, _, .pre o hv r0 r1 hp ho' hh⟩
      · exact ⟨_, _, .improper hv r0 r1 hp⟩
  · exact ⟨_, _, .invalid hv⟩
set_option maxHeartbeats 1000000 in
theorem applicable_q {fz : FZ} {g : GTask} {v1 v2 v3 v4 v5 : Value} {S : GState} {u1 u2 : Value} {op code : Int} {vs : List Int} (hg : GTaskR fz g v1 v2 v3 v4 v5) (hs : GStateR fz S u1 u2) (ha : AppR g S op code vs) :
    QFn Tryz.prog 18 [gV v1 v2 v3 v4 v5, sV u1 u2, .int .i64 op] fz (errV code) := by
  have hg0 := hg
  have hs0 := hs
  (obtain ⟨A1, n1, cap1, rfl, ga⟩ := hg.atoms; obtain ⟨A2, n2, cap2, rfl, gf⟩ := hg.fluents; obtain ⟨A3, n3, cap3, rfl, gi⟩ := hg.init; obtain ⟨A4, n4, cap4, rfl, gg⟩ := hg.goal; obtain ⟨A5, n5, cap5, rfl, go⟩ := hg.ops; have e1 := ga.len; subst e1; have e2 := gf.len; subst e2)
  obtain ⟨B1, m1, d1, rfl, st⟩ := hs.tru
  obtain ⟨B2, m2, d2, rfl, sv⟩ := hs.values
  refine GFn.quiet ?_
  (refine GFn.of_wp Tryz.func18 rfl Tryz.ntmps18 rfl rfl (fun w0 => ?_))
  ((refine Wp.seq ?_; refine Wp.region ?_; refine Seq.stepK (by exact rfl) (k_box _ (by exact rfl) (by exact rfl) (fun _ => ?_)); refine Seq.stepK (by exact rfl) (k_box _ (by exact rfl) (by exact rfl) (fun _ => ?_)); refine Zq ?_; refine Za ?_; refine Seq.done ?_; refine Wp.seq ?_; refine Wp.region ?_; refine Zq ?_; refine ZL T 1 ?_; refine Zq ?_; refine ZL T 0 ?_; refine Zq ?_; refine Zm ?_))
  refine Seq.stepK (by exact rfl) (k_call [] [_, _] (by exact rfl) (by exact rfl) (by exact rfl) (assigned_f hg0 hs0) (fun v fz1 H1 hle1 hR => ?_))
  obtain ⟨rfl, c', vs', w, hA, rfl, hw⟩ := hR
  obtain ⟨rfl, rfl⟩ := hA.det ha
  ((refine Zq ?_; refine Zm ?_; refine Zq ?_; refine Ze ?_; refine Zq ?_; refine Ze ?_; refine Zq ?_; refine Za ?_; refine Zq ?_; refine Za ?_; refine Seq.done ?_; refine Wp.seq ?_; refine Wp.region ?_; refine Zq ?_; refine Zm ?_; refine Zq ?_; refine Za ?_; refine Seq.done ?_; refine Wp.ret ?_))
  exact ret1 (H' := []) rfl rfl (List.nil_sublist _) rfl
def RApR (g : GTask) (S : GState) (op : Int) : Value → FZ → HP → Prop := fun v _ _ => ∃ code vs, AppR g S op code vs ∧ v = .int .i64 code
set_option maxHeartbeats 2000000 in
theorem rapp_f {fz : FZ} {g : GTask} {v1 v2 v3 v4 v5 : Value} {S : GState} {u1 u2 : Value} {op : Int} (hg : GTaskR fz g v1 v2 v3 v4 v5) (hs : GStateR fz S u1 u2) :
    GFn Tryz.prog 51 [gV v1 v2 v3 v4 v5, sV u1 u2, .int .i64 op] fz [] (RApR g S op) := by
  have hg0 := hg
  have hs0 := hs
  (obtain ⟨A1, n1, cap1, rfl, ga⟩ := hg.atoms; obtain ⟨A2, n2, cap2, rfl, gf⟩ := hg.fluents; obtain ⟨A3, n3, cap3, rfl, gi⟩ := hg.init; obtain ⟨A4, n4, cap4, rfl, gg⟩ := hg.goal; obtain ⟨A5, n5, cap5, rfl, go⟩ := hg.ops; have e1 := ga.len; subst e1; have e2 := gf.len; subst e2)
  obtain ⟨B1, m1, d1, rfl, st⟩ := hs.tru
  obtain ⟨B2, m2, d2, rfl, sv⟩ := hs.values
  have l5 := go.len
  have lv := sv.len
  have q5 := go.short
  (refine GFn.of_wp Tryz.func51 rfl Tryz.ntmps51 rfl rfl (fun w0 => ?_))
  (refine Wp.seq (Wp.region (Seq.stepK (by exact rfl) (k_box _ (by exact rfl) (by exact rfl) (fun g0 => ?_)))))
  (refine Seq.stepK (by exact rfl) (k_box _ (by exact rfl) (by exact rfl) (fun g1 => ?_)))
  ((refine Zq ?_; refine Za ?_; refine Seq.done ?_; refine Wp.seq ?_; refine Wp.seq ?_; refine Wp.region ?_; refine Zq ?_; refine ZL T 1 ?_))
  (((refine Zq ?_)); refine q_callB (by exact rfl) (by exact rfl) (rvalid_q hg0) (fun f1 => ?_) (fun f1 => ?_))
  · have hv := of_decide_eq_true f1
    ((refine Zq ?_; refine q_not (by exact rfl) ?_; refine Seq.done ?_; refine Zd ?_; refine Wp.skip ?_; refine thenN ?_; refine Wp.seq ?_; refine Wp.seq ?_; refine Wp.region ?_; refine Zq ?_; refine Zm ?_))
    (((refine Zq ?_)); (refine q_lssD (by exact rfl) (by exact rfl) (fun c1 => ?_) (fun c1 => ?_)))
    · ((refine Zq ?_; refine Zm ?_; refine Zn ?_; refine Zn ?_; refine Zn ?_; refine Zn ?_; refine Zn ?_; refine Zq ?_; refine Zt ?_; refine Seq.done ?_; refine Zc ?_; refine Wp.seq ?_; refine Wp.region ?_; refine Zq ?_; refine Za ?_; refine Seq.done ?_; refine Wp.ret ?_; refine thenR ?_))
      exact ret1 rfl rfl (by repeat (first | exact List.Sublist.refl _ | exact List.nil_sublist _ | refine List.Sublist.cons_cons _ ?_ | refine List.Sublist.cons _ ?_)) ⟨1, [], .range hv (.inl c1), rfl⟩
    ((refine Zq ?_; refine Zm ?_; refine Zy ?_; refine Zm ?_; refine Zy ?_; refine Zf T ?_; refine Zy ?_; refine Zl T 1 ?_; refine Zy ?_; refine Zs T ?_))
    (((refine Zy ?_)); (refine q_geqD (by exact rfl) (by exact rfl) (fun c2 => ?_) (fun c2 => ?_)))
    · ((refine Zq ?_; refine Zu ?_; refine Seq.done ?_; refine Zc ?_; refine Wp.seq ?_; refine Wp.region ?_; refine Zq ?_; refine Za ?_; refine Seq.done ?_; refine Wp.ret ?_; refine thenR ?_))
      exact ret1 rfl rfl (by repeat (first | exact List.Sublist.refl _ | exact List.nil_sublist _ | refine List.Sublist.cons_cons _ ?_ | refine List.Sublist.cons _ ?_)) ⟨1, [], .range hv (.inr (by omega)), rfl⟩
    have r0 : 0 ≤ op := by omega
    have r1 : op < g.ops.length := by omega
    ((refine Zq ?_; refine Zu ?_; refine Seq.done ?_; refine Zd ?_; refine Wp.skip ?_; refine thenN ?_; refine Wp.seq ?_; refine Wp.seq ?_; refine Wp.region ?_; refine Zq ?_; refine ZL T 1 ?_; refine Zq ?_; refine ZL T 0 ?_))
    (((refine Zq ?_)); refine q_callB (by exact rfl) (by exact rfl) (rproper_q hg0 hs0) (fun f2 => ?_) (fun f2 => ?_))
    · have hp := of_decide_eq_true f2
      obtain ⟨j, o, hj, ho, ho'⟩ := op_get r0 r1
      have hok := ops_ok hv ho
      have hpl := hp.1
      ((refine Zq ?_; refine q_not (by exact rfl) ?_; refine Seq.done ?_; refine Zd ?_; refine Wp.skip ?_; refine thenN ?_; refine Wp.seq ?_; refine Wp.region ?_; refine Zq ?_; refine Zf T ?_; refine Zq ?_; refine Zl T 1 ?_; refine Zq ?_; refine Zm ?_))
      (((refine Zq ?_)); refine q_index T j (by exact rfl) (by exact rfl) (by exact rfl) (by exact rfl) (by exact rfl) (by exact rfl) go (by first | rfl | omega) ho (fun p hp1 => ?_))
      (((refine Zq ?_)); refine q_load_at T (by exact rfl) (by exact rfl) (by exact rfl) hp1 (by exact rfl) ?_)
      intro cs hcs
      obtain ⟨w1, w2, w3, w4, w5, rfl, hO⟩ := gOpL_open hcs
      obtain ⟨P1, p1, o1, rfl, _⟩ := hO.pre.pos
      obtain ⟨P2, p2, o2, rfl, _⟩ := hO.pre.neg
      obtain ⟨P3, p3, o3, rfl, _⟩ := hO.pre.tests
      obtain ⟨P4, p4, o4, rfl, oc⟩ := hO.changes
      obtain ⟨P5, p5, o5, rfl, oa⟩ := hO.assigns
      have la := oa.len
      have qa := oa.short
      refine Seq.stepK (by exact rfl) (k_alloc T (by exact rfl) (by exact rfl) (fun go1 => ?_))
      ((refine Seq.stepK0 (k_store0 T (by exact rfl) (by exact rfl) (by exact rfl) (by exact rfl) (by exact rfl) (by exact rfl) ?_); refine Seq.done ?_; refine Wp.seq ?_; refine Wp.seq ?_; refine Wp.region ?_; refine Zq ?_; refine ZL T 1 ?_; refine Zq ?_; refine Zf T ?_))
      (((refine Zq ?_)); refine q_load_own_sub (vs := [.slice P1 p1 o1, .slice P2 p2 o2, .slice P3 p3 o3]) T 0 (by exact rfl) (by exact rfl) (by exact rfl) (by exact rfl) (by exact rfl) (by exact rfl) ?_)
      (((refine Zq ?_)); refine q_callB (by exact rfl) (by exact rfl) (rholds_q hs0 hO.pre (proper_in hv hp) (tests_of hp hok.2.2.2.2.1)) (fun f3 => ?_) (fun f3 => ?_))
      · have hh3 := of_decide_eq_true f3
        ((refine Zq ?_; refine q_not (by exact rfl) ?_; refine Seq.done ?_; refine Zd ?_; refine Wp.skip ?_; refine thenN ?_; refine Wp.seq ?_; refine Wp.seq ?_; refine Wp.region ?_; refine Zq ?_; refine Za ?_; refine Seq.done ?_; refine Wp.block ?_))
        refine Wp.loop (fun q σ fz' H' => ∃ (k : Nat) (xs : List Int), k ≤ p5 ∧ q = p5 - k ∧ σ = [(8, .int .i64 k), (7, .pointer (some ⟨go1, 0, none⟩)), (4, .pointer (some ⟨g1, 0, none⟩)), (3, .pointer (some ⟨g0, 0, none⟩))] ∧ fz = fz' ∧
            H' = [(go1, .cells #[.string o.name, .int .i64 o.cost, .slice P1 p1 o1, .slice P2 p2 o2, .slice P3 p3 o3, .slice P4 p4 o4, .slice P5 p5 o5] 46 (0, 0)), ((g1, .cells #[.slice B1 m1 d1, .slice B2 m2 d2] 33 (0, 0))), ((g0, .cells #[.slice A1 g.atoms.length cap1, .slice A2 g.fluents.length cap2, .slice A3 n3 cap3, .slice A4 n4 cap4, .slice A5 n5 cap5] 28 (0, 0)))] ∧ assignM g S.values (o.assigns.take k) S.values = some xs)
          ⟨0, _, Nat.zero_le _, rfl, rfl, rfl, rfl, rfl⟩ (by repeat (first | exact trivial | refine ⟨by exact rfl, ?_⟩)) (by repeat (first | exact List.Sublist.refl _ | exact List.nil_sublist _ | refine List.Sublist.cons_cons _ ?_ | refine List.Sublist.cons _ ?_)) ?_
        rintro q σ fz' H' ⟨k, xs, hk, rfl, rfl, rfl, rfl, hA⟩
        ((refine Wp.seq ?_; refine Wp.seq ?_; refine Wp.region ?_; refine Zq ?_; refine Zm ?_; refine Zq ?_; refine Zf T ?_; refine Zq ?_; refine Zl T 0 ?_; refine Zq ?_; refine Zs T ?_))
        (((refine Zq ?_)); (refine q_lssD (by exact rfl) (by exact rfl) (fun c3 => ?_) (fun c3 => ?_)))
        · obtain ⟨x, hx⟩ := get_some (l := o.assigns) (k := k) (by omega)
          obtain ⟨a0, a1, ar, _⟩ := hok.2.2.2.2.2.2 k x hx
          obtain ⟨f, hf⟩ := get_int (l := g.fluents) a0 a1
          obtain ⟨z, hq⟩ : ∃ z : Int, True := ⟨0, trivial⟩
          have bad : (∀ n, valE S.values x.value = some n → f.lo ≤ n → ¬ n ≤ f.hi) → RApR g S op (.int .i64 14) fz [] := fun h =>
            ⟨14, [], .bounds o hv r0 r1 hp ho' hh3 (assignM_bad hA hx hf h), rfl⟩
          ((refine Seq.done ?_; refine Zc ?_; refine Wp.skip ?_; refine thenN ?_; refine Wp.seq ?_; refine Wp.block ?_; refine Wp.seq ?_; refine Wp.draw (by decide +kernel) T.mixed (by kernel_rfl) (by kernel_rfl) ?_; refine QL.q ?_; refine ZL T 1 ?_; refine QL.q ?_; refine Zf T ?_; refine QL.q ?_; refine Zl T 0 ?_; refine QL.q ?_; refine Zm ?_))
          (((refine QL.q ?_)); refine q_index T k (by exact rfl) (by exact rfl) (by exact rfl) (by exact rfl) (by exact rfl) (by exact rfl) oa (by first | rfl | omega) hx (fun p hp2 => ?_))
          ((refine QL.q ?_; refine Zf T ?_))
          (((refine QL.q ?_)); refine q_load_at T (by exact rfl) (by exact rfl) (by exact rfl) hp2.GAssign_value (by exact rfl) ?_)
          intro cs2 hcs2
          obtain ⟨y, rfl, hy⟩ := gExprL_open hcs2
          obtain ⟨E1, r1', q1', rfl, _⟩ := hy.kids
          obtain ⟨z, hq⟩ := rvalue_aux _ (Nat.le_refl _) hs0 hy (by rw [hpl]; exact ar) (proper_in hv hp)
          cases hval : valE S.values x.value with
          | none =>
            rw [hval] at hq
            (((refine QL.q ?_)); refine q_call (by exact rfl) (by exact rfl) hq ?_)
            ((refine QL.q ?_; refine Zm ?_; refine QL.q ?_; refine Ze ?_; refine QL.q ?_; refine Ze ?_; refine QL.q ?_; refine Za ?_; refine QL.q ?_; refine Za ?_; refine QL.done ?_; refine thenN ?_; refine Wp.seq ?_))
            (refine Wp.drawK (Hq := [_, _, _]) T.mixed (by kernel_rfl) (by kernel_rfl) (by repeat (first | exact List.Sublist.refl _ | exact List.nil_sublist _ | refine List.Sublist.cons_cons _ ?_ | refine List.Sublist.cons _ ?_)) ?_)
            ((refine QK.q ?_; refine Zf T ?_; refine QK.q ?_; refine Zl T 2 ?_; refine QK.q ?_; refine Zf T ?_; refine QK.q ?_; refine Zl T 0 ?_; refine QK.q ?_; refine Zm ?_))
            (((refine QK.q ?_)); refine q_index T k (by exact rfl) (by exact rfl) (by exact rfl) (by exact rfl) (by exact rfl) (by exact rfl) oa (by first | rfl | omega) hx (fun p hp3 => ?_))
            ((refine QK.q ?_; refine Zf T ?_))
            (((refine QK.q ?_)); refine q_load_int T (by exact rfl) (by exact rfl) (by exact rfl) hp3.GAssign_fluent (fun i1 => ?_))
            (((refine QK.q ?_)); refine q_index T x.fluent.toNat (by exact rfl) (by exact rfl) (by exact rfl) (by exact rfl) (by exact rfl) (by exact rfl) gf (by first | rfl | omega) hf (fun p2 hp4 => ?_))
            (((refine QK.q ?_)); refine q_load_at T (by exact rfl) (by exact rfl) (by exact rfl) hp4 (by exact rfl) ?_)
            intro cs3 hcs3
            obtain ⟨y3, rfl, hy3⟩ := gFluentL_open hcs3
            obtain ⟨Y3, ny3, cy3, rfl, _⟩ := hy3.fluent.args
            (refine QK.later ?_)
            (refine QK.later ?_)
            (refine QK.done ⟨by kernel_rfl, ?_⟩)
            refine Ch.soft (k_alloc T (by exact rfl) (by exact rfl) (fun gfl => ⟨(⟨Le.refl _, by intro p hp; simp only [List.mem_cons, List.not_mem_nil, or_false] at hp; first | (rcases hp with rfl | rfl | rfl | rfl | rfl <;> simp) | (rcases hp with rfl | rfl | rfl | rfl <;> simp) | (rcases hp with rfl | rfl | rfl <;> simp) | (rcases hp with rfl | rfl <;> simp) | (subst hp; simp)⟩), ?_⟩))
            refine Ch.hard0 (by kernel_rfl) (k_store0 T (by exact rfl) (by exact rfl) (by exact rfl) (by exact rfl) (by exact rfl) (by exact rfl) ?_)
            refine Ch.done ?_
            ((refine thenN ?_; refine Wp.seq ?_; refine Wp.region ?_; refine Zq ?_; refine Zm ?_; refine Zq ?_; refine q_not (by exact rfl) ?_; refine Zq ?_; refine Zm ?_; refine Zn ?_; refine Zn ?_; refine Zn ?_; refine Zn ?_; refine Zq ?_; refine Zt ?_; refine Zq ?_; refine Zm ?_; refine Zn ?_; refine Zn ?_; refine Zn ?_; refine Zn ?_; refine Zq ?_; refine Zt ?_; refine Seq.done ?_; refine Zc ?_; refine Wp.seq ?_; refine Wp.region ?_; refine Zq ?_; refine Za ?_; refine Seq.done ?_; refine Wp.ret ?_; refine blkR ?_; refine thenR ?_; refine loopR ?_; refine blkR ?_; refine thenR ?_))
            exact ret1 (H' := []) rfl rfl (List.nil_sublist _) (bad (fun n hn => by rw [hval] at hn; cases hn))
          | some n =>
            rw [hval] at hq
            (((refine QL.q ?_)); refine q_call (by exact rfl) (by exact rfl) hq ?_)
            ((refine QL.q ?_; refine Zm ?_; refine QL.q ?_; refine Ze ?_; refine QL.q ?_; refine Ze ?_; refine QL.q ?_; refine Za ?_; refine QL.q ?_; refine Za ?_; refine QL.done ?_; refine thenN ?_; refine Wp.seq ?_))
            (refine Wp.drawK (Hq := [_, _, _]) T.mixed (by kernel_rfl) (by kernel_rfl) (by repeat (first | exact List.Sublist.refl _ | exact List.nil_sublist _ | refine List.Sublist.cons_cons _ ?_ | refine List.Sublist.cons _ ?_)) ?_)
            ((refine QK.q ?_; refine Zf T ?_; refine QK.q ?_; refine Zl T 2 ?_; refine QK.q ?_; refine Zf T ?_; refine QK.q ?_; refine Zl T 0 ?_; refine QK.q ?_; refine Zm ?_))
            (((refine QK.q ?_)); refine q_index T k (by exact rfl) (by exact rfl) (by exact rfl) (by exact rfl) (by exact rfl) (by exact rfl) oa (by first | rfl | omega) hx (fun p hp3 => ?_))
            ((refine QK.q ?_; refine Zf T ?_))
            (((refine QK.q ?_)); refine q_load_int T (by exact rfl) (by exact rfl) (by exact rfl) hp3.GAssign_fluent (fun i1 => ?_))
            (((refine QK.q ?_)); refine q_index T x.fluent.toNat (by exact rfl) (by exact rfl) (by exact rfl) (by exact rfl) (by exact rfl) (by exact rfl) gf (by first | rfl | omega) hf (fun p2 hp4 => ?_))
            (((refine QK.q ?_)); refine q_load_at T (by exact rfl) (by exact rfl) (by exact rfl) hp4 (by exact rfl) ?_)
            intro cs3 hcs3
            obtain ⟨y3, rfl, hy3⟩ := gFluentL_open hcs3
            obtain ⟨Y3, ny3, cy3, rfl, _⟩ := hy3.fluent.args
            (refine QK.later ?_)
            (refine QK.later ?_)
            (refine QK.done ⟨by kernel_rfl, ?_⟩)
            refine Ch.soft (k_alloc T (by exact rfl) (by exact rfl) (fun gfl => ⟨(⟨Le.refl _, by intro p hp; simp only [List.mem_cons, List.not_mem_nil, or_false] at hp; first | (rcases hp with rfl | rfl | rfl | rfl | rfl <;> simp) | (rcases hp with rfl | rfl | rfl | rfl <;> simp) | (rcases hp with rfl | rfl | rfl <;> simp) | (rcases hp with rfl | rfl <;> simp) | (subst hp; simp)⟩), ?_⟩))
            refine Ch.hard0 (by kernel_rfl) (k_store0 T (by exact rfl) (by exact rfl) (by exact rfl) (by exact rfl) (by exact rfl) (by exact rfl) ?_)
            refine Ch.done ?_
            ((refine thenN ?_; refine Wp.seq ?_; refine Wp.region ?_; refine Zq ?_; refine Zm ?_; refine Zq ?_; refine q_not (by exact rfl) ?_; refine Zq ?_; refine Zm ?_; refine Zy ?_; refine Zm ?_; refine Zy ?_; refine Zf T ?_; refine Zy ?_; refine Zl T 0 ?_))
            (((refine Zy ?_)); (refine q_lssD (by exact rfl) (by exact rfl) (fun c4 => ?_) (fun c4 => ?_)))
            · ((refine Zq ?_; refine Zu ?_; refine Zq ?_; refine Zm ?_; refine Zn ?_; refine Zn ?_; refine Zn ?_; refine Zn ?_; refine Zq ?_; refine Zt ?_; refine Seq.done ?_; refine Zc ?_; refine Wp.seq ?_; refine Wp.region ?_; refine Zq ?_; refine Za ?_; refine Seq.done ?_; refine Wp.ret ?_; refine blkR ?_; refine thenR ?_; refine loopR ?_; refine blkR ?_; refine thenR ?_))
              exact ret1 (H' := []) rfl rfl (List.nil_sublist _) (bad (fun n' hn => by rw [hval] at hn; injection hn with hn; subst hn; intro h; exact absurd h (Int.not_le.2 c4)))
            ((refine Zq ?_; refine Zu ?_; refine Zq ?_; refine Zm ?_; refine Zy ?_; refine Zm ?_; refine Zy ?_; refine Zf T ?_; refine Zy ?_; refine Zl T 0 ?_))
            (((refine Zy ?_)); (refine q_gtrD (by exact rfl) (by exact rfl) (fun c5 => ?_) (fun c5 => ?_)))
            · ((refine Zq ?_; refine Zu ?_; refine Seq.done ?_; refine Zc ?_; refine Wp.seq ?_; refine Wp.region ?_; refine Zq ?_; refine Za ?_; refine Seq.done ?_; refine Wp.ret ?_; refine blkR ?_; refine thenR ?_; refine loopR ?_; refine blkR ?_; refine thenR ?_))
              exact ret1 (H' := []) rfl rfl (List.nil_sublist _) (bad (fun n' hn => by rw [hval] at hn; injection hn with hn; subst hn; intro _; exact Int.not_le.2 c5))
            ((refine Zq ?_; refine Zu ?_; refine Seq.done ?_; refine Zd ?_; refine Wp.skip ?_; refine blkN ?_; refine thenN ?_; refine Wp.region ?_; refine Zq ?_; refine Zm ?_; refine Zq ?_; refine q_add (by exact rfl) (by exact rfl) (wrap_in (by omega)) ?_; refine Zq ?_; refine Za ?_; refine Seq.end_ ?_))
            exact loopN ⟨k + 1, _, by omega, rfl, rfl, rfl, rfl, assignM_next hA hx hval hf (Int.not_lt.1 c4) (Int.not_lt.1 c5)⟩ (by omega) (by repeat (first | exact trivial | refine ⟨by exact rfl, ?_⟩)) (by repeat (first | exact List.Sublist.refl _ | exact List.nil_sublist _ | refine List.Sublist.cons_cons _ ?_ | refine List.Sublist.cons _ ?_))
        · have hA' : assignM g S.values o.assigns S.values = some xs := by rw [← hA, List.take_of_length_le (by omega)]
          ((refine Seq.done ?_; refine Zd ?_; refine Wp.exit ?_; refine thenX ?_; refine loopX ?_; refine blkX (by exact rfl) ?_; refine thenN ?_; refine Wp.seq ?_; refine Wp.region ?_; refine Zq ?_; refine Za ?_; refine Seq.done ?_; refine Wp.ret ?_))
          exact ret1 (H' := []) rfl rfl (List.nil_sublist _) ⟨0, xs, .ok o xs hv r0 r1 hp ho' hh3 hA', rfl⟩
      · ((refine Zq ?_; refine q_not (by exact rfl) ?_; refine Seq.done ?_; refine Zc ?_; refine Wp.seq ?_; refine Wp.region ?_; refine Zq ?_; refine Za ?_; refine Seq.done ?_; refine Wp.ret ?_; refine thenR ?_))
        exact ret1 (H' := []) rfl rfl (List.nil_sublist _) ⟨12, [], .pre o hv r0 r1 hp ho' (of_decide_eq_false f3), rfl⟩
    · ((refine Zq ?_; refine q_not (by exact rfl) ?_; refine Seq.done ?_; refine Zc ?_; refine Wp.seq ?_; refine Wp.region ?_; refine Zq ?_; refine Za ?_; refine Seq.done ?_; refine Wp.ret ?_; refine thenR ?_))
      exact ret1 rfl rfl (by repeat (first | exact List.Sublist.refl _ | exact List.nil_sublist _ | refine List.Sublist.cons_cons _ ?_ | refine List.Sublist.cons _ ?_)) ⟨2, [], .improper hv r0 r1 (of_decide_eq_false f2), rfl⟩
  · ((refine Zq ?_; refine q_not (by exact rfl) ?_; refine Seq.done ?_; refine Zc ?_; refine Wp.seq ?_; refine Wp.region ?_; refine Zq ?_; refine Za ?_; refine Seq.done ?_; refine Wp.ret ?_; refine thenR ?_))
    exact ret1 rfl rfl (by repeat (first | exact List.Sublist.refl _ | exact List.nil_sublist _ | refine List.Sublist.cons_cons _ ?_ | refine List.Sublist.cons _ ?_)) ⟨2, [], .invalid (of_decide_eq_false f1), rfl⟩
theorem rapplicable_q {fz : FZ} {g : GTask} {v1 v2 v3 v4 v5 : Value} {S : GState} {u1 u2 : Value} {op code : Int} {vs : List Int} (hg : GTaskR fz g v1 v2 v3 v4 v5) (hs : GStateR fz S u1 u2) (ha : AppR g S op code vs) :
    QFn Tryz.prog 51 [gV v1 v2 v3 v4 v5, sV u1 u2, .int .i64 op] fz (.int .i64 code) :=
  GFn.quiet ((rapp_f hg hs).mono fun v _ _ ⟨c', vs', h', e⟩ => by rw [e, (h'.det ha).1])
end Go.Proofs.YtegmololhnipiaaGreatDoor
namespace Go.Proofs.YtegmololhnipiaaGreatDoor
open Go.Lx Go.Gr Go.RowKit
attribute [local instance 10] Classical.propDecidable
set_option maxRecDepth 20000
def AddP (S : GState) (l : List GChange) (i : Int) : Prop := ∃ c ∈ l, c.add = true ∧ HoldP S c.when_ ∧ c.atom = i
def DelP (S : GState) (l : List GChange) (i : Int) : Prop := ∃ c ∈ l, c.add = false ∧ HoldP S c.when_ ∧ c.atom = i
def NextP (S : GState) (l : List GChange) (i : Int) : Prop := AddP S l i ∨ (i ∈ S.tru ∧ ¬ DelP S l i)
noncomputable def truUpto (S : GState) (l : List GChange) (n : Nat) : List Int := ((List.range n).filter fun i : Nat => decide (NextP S l i)).map fun i : Nat => (i : Int)
noncomputable def nextT (g : GTask) (S : GState) (op : Int) : List Int := match g.ops[op.toNat]? with
  | some o => truUpto S o.changes g.atoms.length
  | none => []
noncomputable def nextS (g : GTask) (S : GState) (op code : Int) (vs : List Int) : GState := if code = 0 then ⟨nextT g S op, vs⟩ else ⟨[], []⟩
theorem truUpto_succ {S : GState} {l : List GChange} {k : Nat} : truUpto S l (k + 1) = if NextP S l k then truUpto S l k ++ [(k : Int)] else truUpto S l k := by
  unfold truUpto
  rw [List.range_succ, List.filter_append, List.map_append]
  by_cases h : NextP S l k
  · rw [if_pos h]; simp [h]
  · rw [if_neg h]; simp [h]
theorem truUpto_len {S : GState} {l : List GChange} {k : Nat} : (truUpto S l k).length ≤ k := by
  unfold truUpto
  rw [List.length_map]
  exact Nat.le_trans (List.length_filter_le _ _) (by simp)
theorem truUpto_i64 {S : GState} {l : List GChange} {k : Nat} (hk : k ≤ 1000000) : ∀ z ∈ truUpto S l k, I64 z := fun z hz => by
  obtain ⟨i, hi, rfl⟩ := List.mem_map.1 hz
  have := List.mem_range.1 (List.mem_filter.1 hi).1
  unfold I64; omega
theorem some_take {l : List GChange} {k : Nat} {c : GChange} {p : GChange → Prop} (hc : l[k]? = some c) : (∃ x ∈ l.take (k + 1), p x) ↔ (∃ x ∈ l.take k, p x) ∨ p c := by
  rw [List.take_add_one, hc]
  simp only [Option.toList, List.mem_append, List.mem_singleton]
  constructor
  · rintro ⟨x, h | rfl, hp⟩
    · exact .inl ⟨x, h, hp⟩
    · exact .inr hp
  · rintro (⟨x, h, hp⟩ | hp)
    · exact ⟨x, .inl h, hp⟩
    · exact ⟨c, .inr rfl, hp⟩
theorem add_skip {S : GState} {l : List GChange} {k : Nat} {c : GChange} {x : Int} (hc : l[k]? = some c) (h : ¬ (c.add = true ∧ HoldP S c.when_)) : AddP S (l.take (k + 1)) x ↔ AddP S (l.take k) x := by
  unfold AddP
  rw [some_take hc]
  exact ⟨fun hh => hh.elim id (fun hp => absurd ⟨hp.1, hp.2.1⟩ h), .inl⟩
theorem del_skip {S : GState} {l : List GChange} {k : Nat} {c : GChange} {x : Int} (hc : l[k]? = some c) (h : ¬ (c.add = false ∧ HoldP S c.when_)) : DelP S (l.take (k + 1)) x ↔ DelP S (l.take k) x := by
  unfold DelP
  rw [some_take hc]
  exact ⟨fun hh => hh.elim id (fun hp => absurd ⟨hp.1, hp.2.1⟩ h), .inl⟩
theorem add_take {S : GState} {l : List GChange} {k : Nat} {c : GChange} {x : Int} (hc : l[k]? = some c) (h1 : c.add = true) (h2 : HoldP S c.when_) : AddP S (l.take (k + 1)) x ↔ AddP S (l.take k) x ∨ x = c.atom := by
  unfold AddP
  rw [some_take hc]
  exact ⟨fun hh => hh.elim .inl (fun hp => .inr hp.2.2.symm), fun hh => hh.elim .inl (fun hp => .inr ⟨h1, h2, hp.symm⟩)⟩
theorem del_take {S : GState} {l : List GChange} {k : Nat} {c : GChange} {x : Int} (hc : l[k]? = some c) (h1 : c.add = false) (h2 : HoldP S c.when_) : DelP S (l.take (k + 1)) x ↔ DelP S (l.take k) x ∨ x = c.atom := by
  unfold DelP
  rw [some_take hc]
  exact ⟨fun hh => hh.elim .inl (fun hp => .inr hp.2.2.symm), fun hh => hh.elim .inl (fun hp => .inr ⟨h1, h2, hp.symm⟩)⟩
theorem AppR.ok_inv {g : GTask} {S : GState} {op : Int} {vs : List Int} (h : AppR g S op 0 vs) : ∃ o, ValidP g ∧ 0 ≤ op ∧ op < g.ops.length ∧ ProperP g S ∧ g.ops[op.toNat]? = some o ∧ HoldP S o.pre ∧ assignM g S.values o.assigns S.values = some vs := by
  cases h
  rename_i o a b c d e f h
  exact ⟨o, a, b, c, d, e, f, h⟩
def ApR (g : GTask) (S : GState) (op code : Int) (vs : List Int) : Value → FZ → HP → Prop := fun v fz' H' => H' = [] ∧ ∃ w1 w2, v = .tuple #[sV w1 w2, errV code] ∧ GStateR fz' (nextS g S op code vs) w1 w2
set_option maxHeartbeats 4000000 in
theorem apply_f {fz : FZ} {g : GTask} {v1 v2 v3 v4 v5 : Value} {S : GState} {u1 u2 : Value} {op code : Int} {vs : List Int} (hg : GTaskR fz g v1 v2 v3 v4 v5) (hs : GStateR fz S u1 u2) (ha : AppR g S op code vs) :
    GFn Tryz.prog 14 [gV v1 v2 v3 v4 v5, sV u1 u2, .int .i64 op] fz [] (ApR g S op code vs) := by
  have hg0 := hg
  have hs0 := hs
  (obtain ⟨A1, n1, cap1, rfl, ga⟩ := hg.atoms; obtain ⟨A2, n2, cap2, rfl, gf⟩ := hg.fluents; obtain ⟨A3, n3, cap3, rfl, gi⟩ := hg.init; obtain ⟨A4, n4, cap4, rfl, gg⟩ := hg.goal; obtain ⟨A5, n5, cap5, rfl, go⟩ := hg.ops; have e1 := ga.len; subst e1; have e2 := gf.len; subst e2)
  obtain ⟨B1, m1, d1, rfl, st⟩ := hs.tru
  obtain ⟨B2, m2, d2, rfl, sv⟩ := hs.values
  have l5 := go.len
  have q5 := go.short
  (refine GFn.of_wp Tryz.func14 rfl Tryz.ntmps14 rfl rfl (fun w0 => ?_))
  (refine Wp.seq (Wp.region (Seq.stepK (by exact rfl) (k_box _ (by exact rfl) (by exact rfl) (fun g0 => ?_)))))
  (refine Seq.stepK (by exact rfl) (k_box _ (by exact rfl) (by exact rfl) (fun g1 => ?_)))
  refine Seq.stepK (by exact rfl) (k_alloc T (by exact rfl) (by exact rfl) (fun g6 => ?_))
  ((refine Zq ?_; refine Za ?_; refine Seq.done ?_; refine Wp.seq ?_; refine Wp.region ?_; refine Zq ?_; refine ZL T 2 ?_; refine Zq ?_; refine ZL T 1 ?_; refine Zq ?_; refine Zm ?_))
  refine Seq.stepK (by exact rfl) (k_call [] [_, _, _] (by exact rfl) (by exact rfl) (by exact rfl) (assigned_f hg0 hs0) (fun v fz1 H1 hle1 hR => ?_))
  obtain ⟨rfl, c', vs', w, hA, rfl, hw⟩ := hR
  obtain ⟨rfl, rfl⟩ := hA.det ha
  by_cases hc : c' = 0
  · subst hc
    obtain ⟨o, hv, r0, r1, hp, ho', hpre, hasg⟩ := hA.ok_inv
    obtain ⟨j, o2, hj, ho, ho2⟩ := op_get r0 r1
    rw [ho'] at ho2; injection ho2 with ho2; subst ho2
    have hok := ops_ok hv ho
    have hat : g.atoms.length ≤ 4096 := by have := hv.1; omega
    obtain ⟨W1, wn, wc, rfl, hsw⟩ := hw
    replace hg0 := hg0.mono hle1
    replace hs0 := hs0.mono hle1
    replace go := go.mono hle1
    replace st := st.mono hle1
    rw [show errV 0 = .nilIface from rfl]
    ((refine Zq ?_; refine Zm ?_; refine Zq ?_; refine Ze ?_; refine Zq ?_; refine Ze ?_; refine Zq ?_; refine Za ?_; refine Zq ?_; refine Za ?_; refine Seq.done ?_; refine Wp.seq ?_; refine Wp.seq ?_; refine Wp.region ?_; refine Zq ?_; refine Zm ?_; refine Zq ?_; refine q_neq_nil T (by exact rfl) (by exact rfl) (by exact rfl) (by exact rfl) ?_; refine Seq.done ?_; refine Zd ?_; refine Wp.skip ?_; refine thenN ?_; refine Wp.seq ?_; refine Wp.region ?_))
    refine Seq.stepK (by exact rfl) (k_makeMap (fun gm1 => ?_))
    refine Seq.stepK (by exact rfl) (k_makeMap (fun gm2 => ?_))
    ((refine Zq ?_; refine Za ?_; refine Zq ?_; refine Za ?_; refine Seq.done ?_; refine Wp.seq ?_; refine Wp.seq ?_; refine Wp.region ?_; refine Zq ?_; refine Zf T ?_; refine Zq ?_; refine Zl T 4 ?_; refine Zq ?_; refine Zm ?_))
    (((refine Zq ?_)); refine q_index T j (by exact rfl) (by exact rfl) (by exact rfl) (by exact rfl) (by exact rfl) (by exact rfl) go (by first | rfl | omega) ho (fun p hp1 => ?_))
    ((refine Zq ?_; refine Zf T ?_))
    (((refine Zq ?_)); refine q_load_sl T (by exact rfl) (by exact rfl) (by exact rfl) hp1.GOp_changes (fun P4 p4 o4 oc => ?_))
    have lc := oc.len
    have qc := oc.short
    ((refine Zq ?_; refine Zs T ?_; refine Zq ?_; refine Zm ?_; refine Seq.done ?_; refine Wp.block ?_))
    refine Wp.loop (fun q σ fz' H' => ∃ (k : Nat) (ks1 ks2 : List Int), k ≤ p4 ∧ q = p4 - k ∧ σ = [(38, .int .i64 k), (37, .int .i64 p4), (36, .slice P4 p4 o4), (11, .map (some gm2)), (10, .map (some gm1)), (8, .slice W1 wn wc), (6, .pointer (some ⟨g6, 0, none⟩)), (4, .pointer (some ⟨g1, 0, none⟩)), (3, .pointer (some ⟨g0, 0, none⟩))] ∧ fz1 = fz' ∧
        H' = [(gm2, mapB (setB ks2)), (gm1, mapB (setB ks1)), (g6, .cells #[.slice none 0 0, .slice none 0 0] 33 (0, 0)), ((g1, .cells #[.slice B1 m1 d1, .slice B2 m2 d2] 33 (0, 0))), ((g0, .cells #[.slice A1 g.atoms.length cap1, .slice A2 g.fluents.length cap2, .slice A3 n3 cap3, .slice A4 n4 cap4, .slice A5 n5 cap5] 28 (0, 0)))] ∧ (∀ x, x ∈ ks1 ↔ AddP S (o.changes.take k) x) ∧ ∀ x, x ∈ ks2 ↔ DelP S (o.changes.take k) x)
      ⟨0, [], [], Nat.zero_le _, rfl, rfl, rfl, rfl, by simp [AddP], by simp [DelP]⟩ (by repeat (first | exact trivial | refine ⟨by exact rfl, ?_⟩)) (by repeat (first | exact List.Sublist.refl _ | exact List.nil_sublist _ | refine List.Sublist.cons_cons _ ?_ | refine List.Sublist.cons _ ?_)) ?_
    rintro q σ fz' H' ⟨k, ks1, ks2, hk, rfl, rfl, rfl, rfl, hk1, hk2⟩
    ((refine Wp.seq ?_; refine Wp.region ?_))
    (((refine Zq ?_)); (refine q_lssD (by exact rfl) (by exact rfl) (fun c3 => ?_) (fun c3 => ?_)))
    · obtain ⟨x, hx⟩ := get_some (l := o.changes) (k := k) (by omega)
      have hxok := hok.2.2.2.2.2.1 x (List.mem_of_getElem? hx)
      ((refine Seq.done ?_; refine Wp.seq ?_; refine Zc ?_; refine Wp.skip ?_; refine thenN ?_; refine Wp.seq ?_; refine Wp.block ?_; refine Wp.seq ?_; refine Wp.region ?_))
      (((refine Zq ?_)); refine q_index T k (by exact rfl) (by exact rfl) (by exact rfl) (by exact rfl) (by exact rfl) (by exact rfl) oc (by first | rfl | omega) hx (fun p hp2 => ?_))
      (((refine Zq ?_)); refine q_load_at T (by exact rfl) (by exact rfl) (by exact rfl) hp2 (by exact rfl) ?_)
      intro cs hcs
      obtain ⟨y1, y2, y3, rfl, hy⟩ := gChangeL_open hcs
      obtain ⟨E1, r1', q1', rfl, _⟩ := hy.when_.pos
      obtain ⟨E2, r2', q2', rfl, _⟩ := hy.when_.neg
      obtain ⟨E3, r3', q3', rfl, _⟩ := hy.when_.tests
      ((refine Seq.stepK (by exact rfl) (k_alloc T (by exact rfl) (by exact rfl) (fun _ => ?_)); refine Seq.stepK0 (k_store0 T (by exact rfl) (by exact rfl) (by exact rfl) (by exact rfl) (by exact rfl) (by exact rfl) ?_); refine Seq.done ?_; refine Wp.seq ?_; refine Wp.seq ?_; refine Wp.region ?_; refine Zq ?_; refine ZL T 4 ?_; refine Zq ?_; refine Zf T ?_))
      (((refine Zq ?_)); refine q_load_own_sub (vs := [.slice E1 r1' q1', .slice E2 r2' q2', .slice E3 r3' q3']) T 0 (by exact rfl) (by exact rfl) (by exact rfl) (by exact rfl) (by exact rfl) (by exact rfl) ?_)
      (((refine Zq ?_)); refine q_callB (by exact rfl) (by exact rfl) (holds_q hs0 hy.when_ hp.2.1 (proper_in hv hp) (tests_of hp hxok.2.2)) (fun f3 => ?_) (fun f3 => ?_))
      · have hh3 := of_decide_eq_true f3
        ((refine Zq ?_; refine q_not (by exact rfl) ?_; refine Seq.done ?_; refine Zd ?_; refine Wp.skip ?_; refine thenN ?_; refine Wp.seq ?_; refine Wp.region ?_; refine Zq ?_; refine Zf T ?_; refine Zq ?_; refine Zl T 0 ?_; refine Seq.done ?_))
        cases hadd : x.add with
        | true =>
          ((refine Zc ?_; refine Wp.region ?_; refine Zq ?_; refine Zm ?_; refine Zq ?_; refine Zf T ?_; refine Zq ?_; refine Zl T 0 ?_))
          refine Seq.stepK0 (k_mapUpdate T (pre := [_, _]) (by exact rfl) (by exact rfl) (by exact rfl) (by exact rfl) (by exact rfl) (by exact rfl) (by exact rfl) (List.Perm.refl _) ?_)
          rw [upd_set]
          ((refine Seq.end_ ?_; refine blkN ?_; refine thenN ?_; refine Wp.region ?_; refine Zq ?_; refine q_add (by exact rfl) (by exact rfl) (wrap_in (by omega)) ?_; refine Zq ?_; refine Zm ?_; refine Seq.end_ ?_))
          exact loopN ⟨k + 1, _, _, by omega, rfl, rfl, rfl, rfl, fun z => by rw [mem_insK, add_take hx hadd hh3, hk1], fun z => by rw [del_skip hx (by simp [hadd]), hk2]⟩ (by omega) (by repeat (first | exact trivial | refine ⟨by exact rfl, ?_⟩)) (by repeat (first | exact List.Sublist.refl _ | exact List.nil_sublist _ | refine List.Sublist.cons_cons _ ?_ | refine List.Sublist.cons _ ?_))
        | false =>
          ((refine Zd ?_; refine Wp.region ?_; refine Zq ?_; refine Zm ?_; refine Zq ?_; refine Zf T ?_; refine Zq ?_; refine Zl T 0 ?_))
          refine Seq.stepK0 (k_mapUpdate T (pre := [_]) (by exact rfl) (by exact rfl) (by exact rfl) (by exact rfl) (by exact rfl) (by exact rfl) (by exact rfl) (List.Perm.refl _) ?_)
          rw [upd_set]
          ((refine Seq.end_ ?_; refine blkN ?_; refine thenN ?_; refine Wp.region ?_; refine Zq ?_; refine q_add (by exact rfl) (by exact rfl) (wrap_in (by omega)) ?_; refine Zq ?_; refine Zm ?_; refine Seq.end_ ?_))
          exact loopN ⟨k + 1, _, _, by omega, rfl, rfl, rfl, rfl, fun z => by rw [add_skip hx (by simp [hadd]), hk1], fun z => by rw [mem_insK, del_take hx hadd hh3, hk2]⟩ (by omega) (by repeat (first | exact trivial | refine ⟨by exact rfl, ?_⟩)) (by repeat (first | exact List.Sublist.refl _ | exact List.nil_sublist _ | refine List.Sublist.cons_cons _ ?_ | refine List.Sublist.cons _ ?_))
      · have hh3 := of_decide_eq_false f3
        ((refine Zq ?_; refine q_not (by exact rfl) ?_; refine Seq.done ?_; refine Zc ?_; refine Wp.exit ?_; refine thenX ?_; refine blkX (by exact rfl) ?_; refine thenN ?_; refine Wp.region ?_; refine Zq ?_; refine q_add (by exact rfl) (by exact rfl) (wrap_in (by omega)) ?_; refine Zq ?_; refine Zm ?_; refine Seq.end_ ?_))
        exact loopN ⟨k + 1, _, _, by omega, rfl, rfl, rfl, rfl, fun z => by rw [add_skip hx (fun h => hh3 h.2), hk1], fun z => by rw [del_skip hx (fun h => hh3 h.2), hk2]⟩ (by omega) (by repeat (first | exact trivial | refine ⟨by exact rfl, ?_⟩)) (by repeat (first | exact List.Sublist.refl _ | exact List.nil_sublist _ | refine List.Sublist.cons_cons _ ?_ | refine List.Sublist.cons _ ?_))
    · rw [List.take_of_length_le (by omega)] at hk1 hk2
      ((refine Seq.done ?_; refine Wp.seq ?_; refine Zd ?_; refine Wp.exit ?_; refine thenX ?_; refine loopX ?_; refine blkX (by exact rfl) ?_; refine thenN ?_; refine Wp.seq ?_; refine Wp.region ?_; refine Zq ?_; refine Zm ?_; refine Zq ?_; refine q_build T (by exact rfl) (by exact rfl) (by exact rfl) (by exact rfl) (by exact rfl) ?_; refine Seq.stepK (by exact rfl) (k_alloc T (by exact rfl) (by exact rfl) (fun _ => ?_)); refine Seq.stepK0 (k_store0 T (by exact rfl) (by exact rfl) (by exact rfl) (by exact rfl) (by exact rfl) (by exact rfl) ?_); refine Seq.done ?_; refine Wp.seq ?_; refine Wp.seq ?_; refine Wp.region ?_; refine Zq ?_; refine Zf T ?_; refine Zq ?_; refine Zl T 5 ?_; refine Zq ?_; refine Zs T ?_; refine Zq ?_; refine Zm ?_; refine Seq.done ?_; refine Wp.block ?_))
      rename_i g14
      refine Wp.loop (fun q σ fz' H' => ∃ (k : Nat) (v : Value) (Hs : HP), k ≤ g.atoms.length ∧ q = g.atoms.length - k ∧ σ = [(61, .int .i64 k), (60, .int .i64 g.atoms.length), (14, .pointer (some ⟨g14, 0, none⟩)), (11, .map (some gm2)), (10, .map (some gm1)), (6, .pointer (some ⟨g6, 0, none⟩)), (4, .pointer (some ⟨g1, 0, none⟩))] ∧ fz1 = fz' ∧
          H' = (g14, .cells #[v, .slice W1 wn wc] 33 (0, 0)) :: (gm2, mapB (setB ks2)) :: (gm1, mapB (setB ks1)) :: (g6, .cells #[.slice none 0 0, .slice none 0 0] 33 (0, 0)) :: ((g1, .cells #[.slice B1 m1 d1, .slice B2 m2 d2] 33 (0, 0))) :: Hs ∧ OwnS 3 1 v (truUpto S o.changes k).length ((truUpto S o.changes k).map (Value.int .i64)) Hs)
        ⟨0, _, _, Nat.zero_le _, rfl, rfl, rfl, rfl, OwnS.nil _ _⟩ (by repeat (first | exact trivial | refine ⟨by exact rfl, ?_⟩)) (by repeat (first | exact List.Sublist.refl _ | exact List.nil_sublist _ | refine List.Sublist.cons_cons _ ?_ | refine List.Sublist.cons _ ?_)) ?_
      rintro q σ fz' H' ⟨k, v, Hs, hk', rfl, rfl, rfl, rfl, hO⟩
      have htl := truUpto_len (S := S) (l := o.changes) (k := k)
      ((refine Wp.seq ?_; refine Wp.region ?_))
      (((refine Zq ?_)); (refine q_lssD (by exact rfl) (by exact rfl) (fun c4 => ?_) (fun c4 => ?_)))
      · have go_on : NextP S o.changes k → ∀ {v' Hs'}, OwnS 3 1 v' ((truUpto S o.changes k).length + 1) ((truUpto S o.changes k).map (Value.int .i64) ++ [.int .i64 k]) Hs' → OwnS 3 1 v' (truUpto S o.changes (k + 1)).length ((truUpto S o.changes (k + 1)).map (Value.int .i64)) Hs' := fun h v' Hs' hO' => by
          rw [truUpto_succ, if_pos h]; simpa using hO'
        have stay : ¬ NextP S o.changes k → OwnS 3 1 v (truUpto S o.changes (k + 1)).length ((truUpto S o.changes (k + 1)).map (Value.int .i64)) Hs := fun h => by
          rw [truUpto_succ, if_neg h]; exact hO
        ((refine Seq.done ?_; refine Wp.seq ?_; refine Zc ?_; refine Wp.skip ?_; refine thenN ?_; refine Wp.seq ?_; refine Wp.block ?_; refine Wp.seq ?_; refine Wp.region ?_; refine Zq ?_; refine Zm ?_; refine Zq ?_; refine Za ?_; refine Seq.done ?_; refine Wp.seq ?_; refine Wp.region ?_; refine Zq ?_; refine Zf T ?_; refine Zq ?_; refine Zl T 4 ?_; refine Zq ?_; refine Zm ?_))
        (((refine Zq ?_)); refine q_call (by exact rfl) (by exact rfl) (search_q (t := (k : Int)) st hp.2.1) ?_)
        ((refine Zq ?_; refine Zm ?_; refine Zq ?_; refine Ze ?_; refine Zq ?_; refine Ze ?_; refine Zq ?_; refine Za ?_; refine Zq ?_; refine Za ?_; refine Seq.done ?_; refine Wp.seq ?_; refine Wp.region ?_; refine Zq ?_; refine Zm ?_; refine Zq ?_; refine Zm ?_))
        ((refine Zq ?_)); refine q_lookup_set T 2 (by exact rfl) (by exact rfl) (by exact rfl) (by exact rfl) (by exact rfl) (by exact rfl) (by exact rfl) (by exact rfl) (by exact rfl) (fun b1 => ?_) (fun b1 => ?_)
        · have hN : NextP S o.changes k := .inl ((hk1 _).1 b1)
          ((refine Zq ?_; refine Zm ?_; refine Zn ?_; refine Zn ?_; refine Zo ?_; refine Zo ?_; refine Zo ?_; refine Zo ?_; refine Zn ?_; refine Zq ?_; refine Zt ?_; refine Seq.done ?_; refine Zc ?_; refine Wp.region ?_; refine Zq ?_; refine Zf T ?_; refine Zq ?_; refine Zl T 0 ?_; refine Zq ?_; refine Zm ?_))
          (refine Seq.stepK (by exact rfl) (k_buildSlice T (cs := [_]) (by exact rfl) (by exact rfl) (by exact rfl) (by exact rfl) (by exact rfl) (by exact rfl) (by exact rfl) (by exact rfl) (fun gb => ?_)))
          (refine Seq.stepK (by exact rfl) (k_append T (Hr := [_, _, _, _, _, _]) (by exact rfl) (by exact rfl) (by exact rfl) (by exact rfl) (by exact rfl) (by exact rfl) (by exact rfl) (List.Perm.refl _) hO rfl (src_own (.head _)) (by intro u hu; simp at hu; subst hu; rfl) (by show _ * 8 ≤ _; omega) (by omega) (fun v' Hs' hO' => ?_)))
          obtain ⟨Av, cv, rfl, _, _⟩ := hO'.form
          ((refine Zq ?_; refine Zf T ?_; refine Seq.stepK0 (k_store1 T (by exact rfl) (by exact rfl) (by exact rfl) (by exact rfl) (by exact rfl) (by exact rfl) ?_); refine Seq.end_ ?_; refine blkN ?_; refine thenN ?_; refine Wp.region ?_; refine Zq ?_; refine q_add (by exact rfl) (by exact rfl) (wrap_in (by omega)) ?_; refine Zq ?_; refine Zm ?_; refine Seq.end_ ?_))
          exact loopN ⟨k + 1, _, Hs', by omega, rfl, rfl, rfl, rfl, go_on hN hO'⟩ (by omega) (by repeat (first | exact trivial | refine ⟨by exact rfl, ?_⟩)) (by repeat (first | exact List.Sublist.refl _ | exact List.nil_sublist _ | refine List.Sublist.cons_cons _ ?_ | refine List.Sublist.cons _ ?_))
        · have hna : ¬ AddP S o.changes k := fun h => b1 ((hk1 _).2 h)
          by_cases hin : (k : Int) ∈ S.tru
          · rw [decide_eq_true hin]
            ((refine Zq ?_; refine Zm ?_; refine Zy ?_; refine Zm ?_; refine Zy ?_; refine Zm ?_; refine Zy ?_; refine Zm ?_; refine Zy ?_; refine Zm ?_))
            ((refine Zy ?_)); refine q_lookup_set T 1 (by exact rfl) (by exact rfl) (by exact rfl) (by exact rfl) (by exact rfl) (by exact rfl) (by exact rfl) (by exact rfl) (by exact rfl) (fun b2 => ?_) (fun b2 => ?_)
            · ((refine Zy ?_; refine q_not (by exact rfl) ?_; refine Zy ?_; refine Zt ?_; refine Zq ?_; refine Zu ?_; refine Seq.done ?_; refine Zd ?_; refine Wp.skip ?_; refine blkN ?_; refine thenN ?_; refine Wp.region ?_; refine Zq ?_; refine q_add (by exact rfl) (by exact rfl) (wrap_in (by omega)) ?_; refine Zq ?_; refine Zm ?_; refine Seq.end_ ?_))
              exact loopN ⟨k + 1, _, Hs, by omega, rfl, rfl, rfl, rfl, stay (fun h => h.elim hna (fun h => h.2 ((hk2 _).1 b2)))⟩ (by omega) (by repeat (first | exact trivial | refine ⟨by exact rfl, ?_⟩)) (by repeat (first | exact List.Sublist.refl _ | exact List.nil_sublist _ | refine List.Sublist.cons_cons _ ?_ | refine List.Sublist.cons _ ?_))
            · have hN : NextP S o.changes k := .inr ⟨hin, fun h => b2 ((hk2 _).2 h)⟩
              ((refine Zy ?_; refine q_not (by exact rfl) ?_; refine Zy ?_; refine Zt ?_; refine Zq ?_; refine Zu ?_; refine Seq.done ?_; refine Zc ?_; refine Wp.region ?_; refine Zq ?_; refine Zf T ?_; refine Zq ?_; refine Zl T 0 ?_; refine Zq ?_; refine Zm ?_))
              (refine Seq.stepK (by exact rfl) (k_buildSlice T (cs := [_]) (by exact rfl) (by exact rfl) (by exact rfl) (by exact rfl) (by exact rfl) (by exact rfl) (by exact rfl) (by exact rfl) (fun gb => ?_)))
              (refine Seq.stepK (by exact rfl) (k_append T (Hr := [_, _, _, _, _, _]) (by exact rfl) (by exact rfl) (by exact rfl) (by exact rfl) (by exact rfl) (by exact rfl) (by exact rfl) (List.Perm.refl _) hO rfl (src_own (.head _)) (by intro u hu; simp at hu; subst hu; rfl) (by show _ * 8 ≤ _; omega) (by omega) (fun v' Hs' hO' => ?_)))
              obtain ⟨Av, cv, rfl, _, _⟩ := hO'.form
              ((refine Zq ?_; refine Zf T ?_; refine Seq.stepK0 (k_store1 T (by exact rfl) (by exact rfl) (by exact rfl) (by exact rfl) (by exact rfl) (by exact rfl) ?_); refine Seq.end_ ?_; refine blkN ?_; refine thenN ?_; refine Wp.region ?_; refine Zq ?_; refine q_add (by exact rfl) (by exact rfl) (wrap_in (by omega)) ?_; refine Zq ?_; refine Zm ?_; refine Seq.end_ ?_))
              exact loopN ⟨k + 1, _, Hs', by omega, rfl, rfl, rfl, rfl, go_on hN hO'⟩ (by omega) (by repeat (first | exact trivial | refine ⟨by exact rfl, ?_⟩)) (by repeat (first | exact List.Sublist.refl _ | exact List.nil_sublist _ | refine List.Sublist.cons_cons _ ?_ | refine List.Sublist.cons _ ?_))
          · rw [decide_eq_false hin]
            ((refine Zq ?_; refine Zm ?_; refine Zy ?_; refine Zm ?_; refine Zy ?_; refine Zm ?_; refine Zn ?_; refine Zn ?_; refine Zn ?_; refine Zn ?_; refine Zy ?_; refine Zu ?_; refine Zq ?_; refine Zu ?_; refine Seq.done ?_; refine Zd ?_; refine Wp.skip ?_; refine blkN ?_; refine thenN ?_; refine Wp.region ?_; refine Zq ?_; refine q_add (by exact rfl) (by exact rfl) (wrap_in (by omega)) ?_; refine Zq ?_; refine Zm ?_; refine Seq.end_ ?_))
            exact loopN ⟨k + 1, _, Hs, by omega, rfl, rfl, rfl, rfl, stay (fun h => h.elim hna (fun h => hin h.1))⟩ (by omega) (by repeat (first | exact trivial | refine ⟨by exact rfl, ?_⟩)) (by repeat (first | exact List.Sublist.refl _ | exact List.nil_sublist _ | refine List.Sublist.cons_cons _ ?_ | refine List.Sublist.cons _ ?_))
      · have hk1' : k = g.atoms.length := by omega
        subst hk1'
        obtain ⟨Av, cv, rfl, _, _⟩ := hO.form
        ((refine Seq.done ?_; refine Wp.seq ?_; refine Zd ?_; refine Wp.exit ?_; refine thenX ?_; refine loopX ?_; refine blkX (by exact rfl) ?_; refine thenN ?_; refine Wp.seq ?_; refine Wp.region ?_; refine Zq ?_; refine ZL T 0 ?_; refine Seq.stepK0 (k_store3 T (by exact rfl) (by exact rfl) (by exact rfl) (by exact rfl) (by exact rfl) (by exact rfl) ?_); refine Zq ?_; refine Za ?_; refine Seq.done ?_; refine Wp.ret ?_))
        refine retNF T (vs := [.agg #[_, _], .nilIface]) (by exact rfl) ⟨⟨_, _, 3, _, _, _, rfl, rfl, rfl, rfl, rfl, rfl⟩, rfl, trivial⟩ (fun fz3 hle3 hf3 => ?_)
        obtain ⟨A', c', he, hsl'⟩ := sl_ints hO (fun p hp => hf3 p (by simp [hp])) (by omega) (truUpto_i64 (by omega))
        refine ⟨rfl, _, _, rfl, ?_, ?_⟩
        · rw [he]
          have : (nextS g S op 0 vs').tru = truUpto S o.changes g.atoms.length := by simp [nextS, nextT, ho']
          rw [this]; exact hsl'.is
        · have : (nextS g S op 0 vs').values = vs' := by simp [nextS]
          rw [this]; exact (hsw.mono hle3).is
  · rw [errV_ne hc]
    ((refine Zq ?_; refine Zm ?_; refine Zq ?_; refine Ze ?_; refine Zq ?_; refine Ze ?_; refine Zq ?_; refine Za ?_; refine Zq ?_; refine Za ?_; refine Seq.done ?_; refine Wp.seq ?_; refine Wp.seq ?_; refine Wp.region ?_; refine Zq ?_; refine Zm ?_; refine Zq ?_; refine q_neq_some T (by exact rfl) (by exact rfl) (by exact rfl) (by exact rfl) ?_; refine Seq.done ?_; refine Zc ?_; refine Wp.seq ?_; refine Wp.region ?_; refine Zq ?_; refine q_build T (by exact rfl) (by exact rfl) (by exact rfl) (by exact rfl) (by exact rfl) ?_; refine Zq ?_; refine Zm ?_; refine Seq.stepK0 (k_store0 T (by exact rfl) (by exact rfl) (by exact rfl) (by exact rfl) (by exact rfl) (by exact rfl) ?_); refine Zq ?_; refine Za ?_; refine Seq.done ?_; refine Wp.ret ?_; refine thenR ?_))
    refine retNF T (vs := [.agg #[_, _], .iface 71 (.int .i64 c')]) (by exact rfl) ⟨⟨_, _, 0, _, _, _, rfl, rfl, rfl, rfl, rfl, rfl⟩, rfl, trivial⟩ (fun fz3 hle3 hf3 => ?_)
    refine ⟨rfl, _, _, by rw [errV_ne hc], ?_, ?_⟩
    · have : (nextS g S op c' vs').tru = [] := by simp [nextS, hc]
      rw [this]; exact IsSl.nil
    · have : (nextS g S op c' vs').values = [] := by simp [nextS, hc]
      rw [this]; exact IsSl.nil
end Go.Proofs.YtegmololhnipiaaGreatDoor
namespace Go.Proofs.YtegmololhnipiaaGreatDoor
open Go.Lx Go.Gr Go.RowKit
attribute [local instance 10] Classical.propDecidable
set_option maxRecDepth 20000
def passP (S : GState) (l : List GChange) (i : Int) (a k : Nat) : Prop := if a = 1 then (AddP S (l.take k) i ∨ (i ∈ S.tru ∧ ¬ DelP S l i)) else (i ∈ S.tru ∧ ¬ DelP S (l.take k) i)
def stepP (S : GState) (l : List GChange) (i : Int) (a : Nat) : Prop := if a = 0 then i ∈ S.tru else if a = 1 then (i ∈ S.tru ∧ ¬ DelP S l i) else NextP S l i
theorem pass_in {S : GState} {l : List GChange} {i : Int} {a : Nat} (ha : a < 2) : stepP S l i a ↔ passP S l i a 0 := by
  unfold stepP passP
  rcases (by omega : a = 0 ∨ a = 1) with rfl | rfl
  · simp [DelP]
  · simp [AddP]
theorem pass_out {S : GState} {l : List GChange} {i : Int} {a k : Nat} (ha : a < 2) (hk : l.length ≤ k) : passP S l i a k ↔ stepP S l i (a + 1) := by
  unfold stepP passP
  rw [List.take_of_length_le hk]
  rcases (by omega : a = 0 ∨ a = 1) with rfl | rfl
  · simp
  · simp [NextP]
theorem pass_skip {S : GState} {l : List GChange} {i : Int} {a k : Nat} {c : GChange} (hc : l[k]? = some c) (ha : a < 2) (h : ¬ (c.atom = i ∧ (c.add = true ↔ a = 1) ∧ HoldP S c.when_)) : passP S l i a (k + 1) ↔ passP S l i a k := by
  unfold passP AddP DelP
  rw [some_take hc, some_take hc]
  rcases (by omega : a = 0 ∨ a = 1) with rfl | rfl
  · have : ¬ (c.add = false ∧ HoldP S c.when_ ∧ c.atom = i) := fun hh => h ⟨hh.2.2, by simp [hh.1], hh.2.1⟩
    simp [this]
  · have : ¬ (c.add = true ∧ HoldP S c.when_ ∧ c.atom = i) := fun hh => h ⟨hh.2.2, by simp [hh.1], hh.2.1⟩
    simp [this]
theorem pass_add {S : GState} {l : List GChange} {i : Int} {k : Nat} {c : GChange} (hc : l[k]? = some c) (h1 : c.atom = i) (h2 : c.add = true) (h3 : HoldP S c.when_) : passP S l i 1 (k + 1) := by
  unfold passP AddP
  rw [if_pos rfl, some_take hc]
  exact .inl (.inr ⟨h2, h3, h1⟩)
theorem pass_del {S : GState} {l : List GChange} {i : Int} {a k : Nat} {c : GChange} (ha : a ≠ 1) (hc : l[k]? = some c) (h1 : c.atom = i) (h2 : c.add = false) (h3 : HoldP S c.when_) : ¬ passP S l i a (k + 1) := by
  unfold passP DelP
  rw [if_neg ha, some_take hc]
  exact fun h => h.2 (.inr ⟨h2, h3, h1⟩)
theorem assignM_step {g : GTask} {vs : List Int} {l : List GAssign} {out o1 r : List Int} {k : Nat} {a : GAssign} (hr : assignM g vs l out = some r) (h : assignM g vs (l.take k) out = some o1) (ha : l[k]? = some a) :
    ∃ n, valE vs a.value = some n ∧ assignM g vs (l.take (k + 1)) out = some (o1.set a.fluent.toNat n) := by
  have hs : l = l.take k ++ a :: l.drop (k + 1) := by
    have hlt := lt_of_get ha
    have e : l[k] = a := by rw [List.getElem?_eq_getElem hlt] at ha; injection ha
    rw [← e, ← List.drop_eq_getElem_cons hlt, List.take_append_drop]
  rw [hs, assignM_append, h] at hr
  simp only [Option.bind_some, assignM] at hr
  split at hr
  · cases hr
  · rename_i n hn
    split at hr
    · cases hr
    · rename_i f hf
      split at hr
      · rename_i hc
        exact ⟨n, hn, assignM_next h ha hn hf hc.1 hc.2⟩
      · cases hr
theorem dec_same {p q : Prop} [Decidable p] [Decidable q] (h : p ↔ q) : decide p = decide q := decide_eq_decide.2 h
set_option maxHeartbeats 4000000 in
theorem rnext_f {fz : FZ} {g : GTask} {v1 v2 v3 v4 v5 : Value} {S : GState} {u1 u2 : Value} {op : Int} {vs : List Int} (hg : GTaskR fz g v1 v2 v3 v4 v5) (hs : GStateR fz S u1 u2) (ha : AppR g S op 0 vs) :
    GFn Tryz.prog 52 [gV v1 v2 v3 v4 v5, sV u1 u2, .int .i64 op] fz [] (StR (nextS g S op 0 vs)) := by
  obtain ⟨o, hv, r0, r1, hp, ho', hpre, hasg⟩ := ha.ok_inv
  obtain ⟨j, o2, hj, ho, ho2⟩ := op_get r0 r1
  rw [ho'] at ho2; injection ho2 with ho2; subst ho2
  have hok := ops_ok hv ho
  have hat : g.atoms.length ≤ 4096 := by have := hv.1; omega
  have hfl : g.fluents.length ≤ 4096 := by have := hv.2.1; omega
  have hpl := hp.1
  have hg0 := hg
  have hs0 := hs
  (obtain ⟨A1, n1, cap1, rfl, ga⟩ := hg.atoms; obtain ⟨A2, n2, cap2, rfl, gf⟩ := hg.fluents; obtain ⟨A3, n3, cap3, rfl, gi⟩ := hg.init; obtain ⟨A4, n4, cap4, rfl, gg⟩ := hg.goal; obtain ⟨A5, n5, cap5, rfl, go⟩ := hg.ops; have e1 := ga.len; subst e1; have e2 := gf.len; subst e2)
  obtain ⟨B1, m1, d1, rfl, st⟩ := hs.tru
  obtain ⟨B2, m2, d2, rfl, sv⟩ := hs.values
  have l5 := go.len
  have q5 := go.short
  have lv := sv.len
  (refine GFn.of_wp Tryz.func52 rfl Tryz.ntmps52 rfl rfl (fun w0 => ?_))
  (refine Wp.seq (Wp.region (Seq.stepK (by exact rfl) (k_box _ (by exact rfl) (by exact rfl) (fun g0 => ?_)))))
  (refine Seq.stepK (by exact rfl) (k_box _ (by exact rfl) (by exact rfl) (fun g1 => ?_)))
  refine Seq.stepK (by exact rfl) (k_alloc T (by exact rfl) (by exact rfl) (fun g6 => ?_))
  ((refine Seq.done ?_; refine Wp.seq ?_; refine Wp.region ?_; refine Zq ?_; refine Zf T ?_; refine Zq ?_; refine Zl T 2 ?_; refine Zq ?_; refine Zm ?_))
  (((refine Zq ?_)); refine q_index T j (by exact rfl) (by exact rfl) (by exact rfl) (by exact rfl) (by exact rfl) (by exact rfl) go (by first | rfl | omega) ho (fun p hp1 => ?_))
  (((refine Zq ?_)); refine q_load_at T (by exact rfl) (by exact rfl) (by exact rfl) hp1 (by exact rfl) ?_)
  intro cs hcs
  obtain ⟨w1, w2, w3, w4, w5, rfl, hO⟩ := gOpL_open hcs
  obtain ⟨P1, p1, o1, rfl, _⟩ := hO.pre.pos
  obtain ⟨P2, p2, o2, rfl, _⟩ := hO.pre.neg
  obtain ⟨P3, p3, o3, rfl, _⟩ := hO.pre.tests
  obtain ⟨P4, p4, o4, rfl, oc⟩ := hO.changes
  obtain ⟨P5, p5, o5, rfl, oa⟩ := hO.assigns
  have la := oa.len
  have qa := oa.short
  have lc := oc.len
  have qc := oc.short
  refine Seq.stepK (by exact rfl) (k_alloc T (by exact rfl) (by exact rfl) (fun g7 => ?_))
  ((refine Seq.stepK0 (k_store0 T (by exact rfl) (by exact rfl) (by exact rfl) (by exact rfl) (by exact rfl) (by exact rfl) ?_); refine Seq.done ?_; refine Wp.seq ?_; refine Wp.region ?_; refine Seq.stepK (by exact rfl) (k_alloc T (by exact rfl) (by exact rfl) (fun _ => ?_)); refine Seq.done ?_; refine Wp.seq ?_; refine Wp.seq ?_; refine Wp.region ?_; refine Zq ?_; refine Za ?_; refine Seq.done ?_; refine Wp.block ?_))
  rename_i g8
  refine Wp.loop (fun q σ fz' H' => ∃ (i : Nat) (v : Value) (Hs : HP), i ≤ g.atoms.length ∧ q = g.atoms.length - i ∧ σ = [(9, .int .i64 i), (8, .pointer (some ⟨g8, 0, none⟩)), (7, .pointer (some ⟨g7, 0, none⟩)), (6, .pointer (some ⟨g6, 0, none⟩)), (4, .pointer (some ⟨g1, 0, none⟩)), (3, .pointer (some ⟨g0, 0, none⟩))] ∧ fz = fz' ∧
      H' = (g8, .cells #[v, .slice none 0 0] 33 (0, 0)) :: (g7, .cells #[.string o.name, .int .i64 o.cost, .slice P1 p1 o1, .slice P2 p2 o2, .slice P3 p3 o3, .slice P4 p4 o4, .slice P5 p5 o5] 46 (0, 0)) :: (g6, .cells #[.slice none 0 0, .slice none 0 0] 33 (0, 0)) :: ((g1, .cells #[.slice B1 m1 d1, .slice B2 m2 d2] 33 (0, 0))) :: ((g0, .cells #[.slice A1 g.atoms.length cap1, .slice A2 g.fluents.length cap2, .slice A3 n3 cap3, .slice A4 n4 cap4, .slice A5 n5 cap5] 28 (0, 0))) :: Hs ∧ OwnS 3 1 v (truUpto S o.changes i).length ((truUpto S o.changes i).map (Value.int .i64)) Hs)
    ⟨0, _, _, Nat.zero_le _, rfl, rfl, rfl, rfl, OwnS.nil _ _⟩ (by repeat (first | exact trivial | refine ⟨by exact rfl, ?_⟩)) (by repeat (first | exact List.Sublist.refl _ | exact List.nil_sublist _ | refine List.Sublist.cons_cons _ ?_ | refine List.Sublist.cons _ ?_)) ?_
  rintro q σ fz' H' ⟨i, v, Hs, hi, rfl, rfl, rfl, rfl, hOw⟩
  have htl := truUpto_len (S := S) (l := o.changes) (k := i)
  ((refine Wp.seq ?_; refine Wp.seq ?_; refine Wp.region ?_; refine Zq ?_; refine Zm ?_; refine Zq ?_; refine Zf T ?_; refine Zq ?_; refine Zl T 4 ?_; refine Zq ?_; refine Zs T ?_))
  (((refine Zq ?_)); (refine q_lssD (by exact rfl) (by exact rfl) (fun c1 => ?_) (fun c1 => ?_)))
  · ((refine Seq.done ?_; refine Zc ?_; refine Wp.skip ?_; refine thenN ?_; refine Wp.seq ?_; refine Wp.block ?_; refine Wp.seq ?_; refine Wp.region ?_; refine Zq ?_; refine Zf T ?_; refine Zq ?_; refine Zl T 3 ?_; refine Zq ?_; refine Zm ?_))
    (((refine Zq ?_)); refine q_call (by exact rfl) (by exact rfl) (in_q (m := (i : Int)) st) ?_)
    ((refine Zq ?_; refine Za ?_; refine Seq.done ?_; refine Wp.seq ?_; refine Wp.seq ?_; refine Wp.region ?_; refine Zq ?_; refine Za ?_; refine Seq.done ?_; refine Wp.block ?_))
    refine Wp.loop (fun q σ fz' H' => ∃ (a : Nat), a ≤ 2 ∧ q = 2 - a ∧ σ = [(11, .int .i64 a), (10, .bool (decide (stepP S o.changes i a))), (9, .int .i64 i), (8, .pointer (some ⟨g8, 0, none⟩)), (7, .pointer (some ⟨g7, 0, none⟩)), (6, .pointer (some ⟨g6, 0, none⟩)), (4, .pointer (some ⟨g1, 0, none⟩)), (3, .pointer (some ⟨g0, 0, none⟩))] ∧ fz = fz' ∧
        H' = (g8, .cells #[v, .slice none 0 0] 33 (0, 0)) :: (g7, .cells #[.string o.name, .int .i64 o.cost, .slice P1 p1 o1, .slice P2 p2 o2, .slice P3 p3 o3, .slice P4 p4 o4, .slice P5 p5 o5] 46 (0, 0)) :: (g6, .cells #[.slice none 0 0, .slice none 0 0] 33 (0, 0)) :: ((g1, .cells #[.slice B1 m1 d1, .slice B2 m2 d2] 33 (0, 0))) :: ((g0, .cells #[.slice A1 g.atoms.length cap1, .slice A2 g.fluents.length cap2, .slice A3 n3 cap3, .slice A4 n4 cap4, .slice A5 n5 cap5] 28 (0, 0))) :: Hs)
      ⟨0, by omega, rfl, rfl, rfl, rfl⟩ (by rw [dec_same (show stepP S o.changes i 0 ↔ (i : Int) ∈ S.tru from by simp [stepP])]; exact (by repeat (first | exact trivial | refine ⟨by exact rfl, ?_⟩))) (by repeat (first | exact List.Sublist.refl _ | exact List.nil_sublist _ | refine List.Sublist.cons_cons _ ?_ | refine List.Sublist.cons _ ?_)) ?_
    rintro q σ fz' H' ⟨a, ha2, rfl, rfl, rfl, rfl⟩
    ((refine Wp.seq ?_; refine Wp.seq ?_; refine Wp.region ?_; refine Zq ?_; refine Zm ?_))
    (((refine Zq ?_)); (refine q_lssD (by exact rfl) (by exact rfl) (fun c2 => ?_) (fun c2 => ?_)))
    · ((refine Seq.done ?_; refine Zc ?_; refine Wp.skip ?_; refine thenN ?_; refine Wp.seq ?_; refine Wp.block ?_; refine Wp.seq ?_; refine Wp.region ?_; refine Zq ?_; refine Za ?_; refine Seq.done ?_; refine Wp.block ?_))
      refine Wp.loop (fun q σ fz' H' => ∃ (k : Nat) (b : Bool), k ≤ p4 ∧ q = p4 - k ∧ σ = [(12, .int .i64 k), (11, .int .i64 a), (10, .bool b), (9, .int .i64 i), (8, .pointer (some ⟨g8, 0, none⟩)), (7, .pointer (some ⟨g7, 0, none⟩)), (6, .pointer (some ⟨g6, 0, none⟩)), (4, .pointer (some ⟨g1, 0, none⟩)), (3, .pointer (some ⟨g0, 0, none⟩))] ∧ fz = fz' ∧
          H' = (g8, .cells #[v, .slice none 0 0] 33 (0, 0)) :: (g7, .cells #[.string o.name, .int .i64 o.cost, .slice P1 p1 o1, .slice P2 p2 o2, .slice P3 p3 o3, .slice P4 p4 o4, .slice P5 p5 o5] 46 (0, 0)) :: (g6, .cells #[.slice none 0 0, .slice none 0 0] 33 (0, 0)) :: ((g1, .cells #[.slice B1 m1 d1, .slice B2 m2 d2] 33 (0, 0))) :: ((g0, .cells #[.slice A1 g.atoms.length cap1, .slice A2 g.fluents.length cap2, .slice A3 n3 cap3, .slice A4 n4 cap4, .slice A5 n5 cap5] 28 (0, 0))) :: Hs ∧ b = decide (passP S o.changes i a k))
        ⟨0, _, Nat.zero_le _, rfl, rfl, rfl, rfl, dec_same (pass_in (by omega))⟩ (by repeat (first | exact trivial | refine ⟨by exact rfl, ?_⟩)) (by repeat (first | exact List.Sublist.refl _ | exact List.nil_sublist _ | refine List.Sublist.cons_cons _ ?_ | refine List.Sublist.cons _ ?_)) ?_
      rintro q σ fz' H' ⟨k, b, hk, rfl, rfl, rfl, rfl, hb⟩
      ((refine Wp.seq ?_; refine Wp.seq ?_; refine Wp.region ?_; refine Zq ?_; refine Zm ?_; refine Zq ?_; refine Zf T ?_; refine Zq ?_; refine Zl T 1 ?_; refine Zq ?_; refine Zs T ?_))
      (((refine Zq ?_)); (refine q_lssD (by exact rfl) (by exact rfl) (fun c3 => ?_) (fun c3 => ?_)))
      · obtain ⟨x, hx⟩ := get_some (l := o.changes) (k := k) (by omega)
        have hxok := hok.2.2.2.2.2.1 x (List.mem_of_getElem? hx)
        have same : ¬ (x.atom = i ∧ (x.add = true ↔ a = 1) ∧ HoldP S x.when_) → b = decide (passP S o.changes i a (k + 1)) := fun h => by rw [hb, dec_same (pass_skip hx (by omega) h)]
        ((refine Seq.done ?_; refine Zc ?_; refine Wp.skip ?_; refine thenN ?_; refine Wp.seq ?_; refine Wp.block ?_; refine Wp.seq ?_; refine Wp.region ?_; refine Zq ?_; refine Zf T ?_; refine Zq ?_; refine Zl T 1 ?_; refine Zq ?_; refine Zm ?_))
        (((refine Zq ?_)); refine q_index T k (by exact rfl) (by exact rfl) (by exact rfl) (by exact rfl) (by exact rfl) (by exact rfl) oc (by first | rfl | omega) hx (fun p hp2 => ?_))
        (((refine Zq ?_)); refine q_load_at T (by exact rfl) (by exact rfl) (by exact rfl) hp2 (by exact rfl) ?_)
        intro cs hcs
        obtain ⟨y1, y2, y3, rfl, hy⟩ := gChangeL_open hcs
        obtain ⟨E1, r1', q1', rfl, _⟩ := hy.when_.pos
        obtain ⟨E2, r2', q2', rfl, _⟩ := hy.when_.neg
        obtain ⟨E3, r3', q3', rfl, _⟩ := hy.when_.tests
        ((refine Seq.stepK (by exact rfl) (k_alloc T (by exact rfl) (by exact rfl) (fun _ => ?_)); refine Seq.stepK0 (k_store0 T (by exact rfl) (by exact rfl) (by exact rfl) (by exact rfl) (by exact rfl) (by exact rfl) ?_); refine Seq.done ?_; refine Wp.seq ?_; refine Wp.region ?_; refine Zq ?_; refine Zf T ?_; refine Zq ?_; refine Zl T 0 ?_; refine Zq ?_; refine Zm ?_))
        (((refine Zq ?_)); (refine q_eqlD (by exact rfl) (by exact rfl) (fun e1 => ?_) (fun e1 => ?_)))
        · ((refine Zq ?_; refine Zm ?_; refine Zy ?_; refine Zf T ?_; refine Zy ?_; refine Zl T 0 ?_; refine Zy ?_; refine Zm ?_))
          (((refine Zy ?_)); (refine q_eqlD (by exact rfl) (by exact rfl) (fun e2 => ?_) (fun e2 => ?_)))
          · have ha1 : a = 1 := by omega
            ((refine Zy ?_)); refine q_eql_boolD T (by exact rfl) (by exact rfl) (by exact rfl) (by exact rfl) (fun e3 => ?_) (fun e3 => ?_)
            · ((refine Zq ?_; refine Zt ?_; refine Zq ?_; refine Zm ?_; refine Zy ?_; refine ZL T 4 ?_; refine Zy ?_; refine Zf T ?_))
              (((refine Zy ?_)); refine q_load_own_sub (vs := [.slice E1 r1' q1', .slice E2 r2' q2', .slice E3 r3' q3']) T 0 (by exact rfl) (by exact rfl) (by exact rfl) (by exact rfl) (by exact rfl) (by exact rfl) ?_)
              (((refine Zy ?_)); refine q_callB (by exact rfl) (by exact rfl) (rholds_q hs0 hy.when_ (proper_in hv hp) (tests_of hp hxok.2.2)) (fun f3 => ?_) (fun f3 => ?_))
              · rw [e3]
                ((refine Zq ?_; refine Zt ?_; refine Seq.done ?_; refine Zc ?_; refine Wp.region ?_; refine Zq ?_; refine Zf T ?_; refine Zq ?_; refine Zl T 0 ?_; refine Zq ?_; refine Za ?_; refine Seq.end_ ?_; refine blkN ?_; refine thenN ?_; refine Wp.region ?_; refine Zq ?_; refine Zm ?_; refine Zq ?_; refine q_add (by exact rfl) (by exact rfl) (wrap_in (by omega)) ?_; refine Zq ?_; refine Za ?_; refine Seq.end_ ?_))
                exact loopN ⟨k + 1, true, by omega, rfl, rfl, rfl, rfl, by rw [ha1]; exact (decide_eq_true (pass_add hx e1 e3 (of_decide_eq_true f3))).symm⟩ (by omega) (by repeat (first | exact trivial | refine ⟨by exact rfl, ?_⟩)) (by repeat (first | exact List.Sublist.refl _ | exact List.nil_sublist _ | refine List.Sublist.cons_cons _ ?_ | refine List.Sublist.cons _ ?_))
              · ((refine Zq ?_; refine Zt ?_; refine Seq.done ?_; refine Zd ?_; refine Wp.skip ?_; refine blkN ?_; refine thenN ?_; refine Wp.region ?_; refine Zq ?_; refine Zm ?_; refine Zq ?_; refine q_add (by exact rfl) (by exact rfl) (wrap_in (by omega)) ?_; refine Zq ?_; refine Za ?_; refine Seq.end_ ?_))
                exact loopN ⟨k + 1, b, by omega, rfl, rfl, rfl, rfl, same (fun h => of_decide_eq_false f3 h.2.2)⟩ (by omega) (by repeat (first | exact trivial | refine ⟨by exact rfl, ?_⟩)) (by repeat (first | exact List.Sublist.refl _ | exact List.nil_sublist _ | refine List.Sublist.cons_cons _ ?_ | refine List.Sublist.cons _ ?_))
            · ((refine Zq ?_; refine Zt ?_; refine Zq ?_; refine Zm ?_; refine Zn ?_; refine Zn ?_; refine Zn ?_; refine Zn ?_; refine Zq ?_; refine Zu ?_; refine Seq.done ?_; refine Zd ?_; refine Wp.skip ?_; refine blkN ?_; refine thenN ?_; refine Wp.region ?_; refine Zq ?_; refine Zm ?_; refine Zq ?_; refine q_add (by exact rfl) (by exact rfl) (wrap_in (by omega)) ?_; refine Zq ?_; refine Za ?_; refine Seq.end_ ?_))
              exact loopN ⟨k + 1, b, by omega, rfl, rfl, rfl, rfl, same (fun h => e3 (h.2.1.2 ha1))⟩ (by omega) (by repeat (first | exact trivial | refine ⟨by exact rfl, ?_⟩)) (by repeat (first | exact List.Sublist.refl _ | exact List.nil_sublist _ | refine List.Sublist.cons_cons _ ?_ | refine List.Sublist.cons _ ?_))
          · have ha1 : a ≠ 1 := by omega
            ((refine Zy ?_)); refine q_eql_boolD T (by exact rfl) (by exact rfl) (by exact rfl) (by exact rfl) (fun e3 => ?_) (fun e3 => ?_)
            · ((refine Zq ?_; refine Zt ?_; refine Zq ?_; refine Zm ?_; refine Zy ?_; refine ZL T 4 ?_; refine Zy ?_; refine Zf T ?_))
              (((refine Zy ?_)); refine q_load_own_sub (vs := [.slice E1 r1' q1', .slice E2 r2' q2', .slice E3 r3' q3']) T 0 (by exact rfl) (by exact rfl) (by exact rfl) (by exact rfl) (by exact rfl) (by exact rfl) ?_)
              (((refine Zy ?_)); refine q_callB (by exact rfl) (by exact rfl) (rholds_q hs0 hy.when_ (proper_in hv hp) (tests_of hp hxok.2.2)) (fun f3 => ?_) (fun f3 => ?_))
              · rw [e3]
                ((refine Zq ?_; refine Zt ?_; refine Seq.done ?_; refine Zc ?_; refine Wp.region ?_; refine Zq ?_; refine Zf T ?_; refine Zq ?_; refine Zl T 0 ?_; refine Zq ?_; refine Za ?_; refine Seq.end_ ?_; refine blkN ?_; refine thenN ?_; refine Wp.region ?_; refine Zq ?_; refine Zm ?_; refine Zq ?_; refine q_add (by exact rfl) (by exact rfl) (wrap_in (by omega)) ?_; refine Zq ?_; refine Za ?_; refine Seq.end_ ?_))
                exact loopN ⟨k + 1, false, by omega, rfl, rfl, rfl, rfl, (decide_eq_false (pass_del ha1 hx e1 e3 (of_decide_eq_true f3))).symm⟩ (by omega) (by repeat (first | exact trivial | refine ⟨by exact rfl, ?_⟩)) (by repeat (first | exact List.Sublist.refl _ | exact List.nil_sublist _ | refine List.Sublist.cons_cons _ ?_ | refine List.Sublist.cons _ ?_))
              · ((refine Zq ?_; refine Zt ?_; refine Seq.done ?_; refine Zd ?_; refine Wp.skip ?_; refine blkN ?_; refine thenN ?_; refine Wp.region ?_; refine Zq ?_; refine Zm ?_; refine Zq ?_; refine q_add (by exact rfl) (by exact rfl) (wrap_in (by omega)) ?_; refine Zq ?_; refine Za ?_; refine Seq.end_ ?_))
                exact loopN ⟨k + 1, b, by omega, rfl, rfl, rfl, rfl, same (fun h => of_decide_eq_false f3 h.2.2)⟩ (by omega) (by repeat (first | exact trivial | refine ⟨by exact rfl, ?_⟩)) (by repeat (first | exact List.Sublist.refl _ | exact List.nil_sublist _ | refine List.Sublist.cons_cons _ ?_ | refine List.Sublist.cons _ ?_))
            · ((refine Zq ?_; refine Zt ?_; refine Zq ?_; refine Zm ?_; refine Zn ?_; refine Zn ?_; refine Zn ?_; refine Zn ?_; refine Zq ?_; refine Zu ?_; refine Seq.done ?_; refine Zd ?_; refine Wp.skip ?_; refine blkN ?_; refine thenN ?_; refine Wp.region ?_; refine Zq ?_; refine Zm ?_; refine Zq ?_; refine q_add (by exact rfl) (by exact rfl) (wrap_in (by omega)) ?_; refine Zq ?_; refine Za ?_; refine Seq.end_ ?_))
              exact loopN ⟨k + 1, b, by omega, rfl, rfl, rfl, rfl, same (fun h => ha1 (h.2.1.1 (by cases hadd : x.add <;> simp_all)))⟩ (by omega) (by repeat (first | exact trivial | refine ⟨by exact rfl, ?_⟩)) (by repeat (first | exact List.Sublist.refl _ | exact List.nil_sublist _ | refine List.Sublist.cons_cons _ ?_ | refine List.Sublist.cons _ ?_))
        · ((refine Zq ?_; refine Zm ?_; refine Zn ?_; refine Zn ?_; refine Zn ?_; refine Zn ?_; refine Zn ?_; refine Zq ?_; refine Zu ?_; refine Zq ?_; refine Zm ?_; refine Zn ?_; refine Zn ?_; refine Zn ?_; refine Zn ?_; refine Zq ?_; refine Zu ?_; refine Seq.done ?_; refine Zd ?_; refine Wp.skip ?_; refine blkN ?_; refine thenN ?_; refine Wp.region ?_; refine Zq ?_; refine Zm ?_; refine Zq ?_; refine q_add (by exact rfl) (by exact rfl) (wrap_in (by omega)) ?_; refine Zq ?_; refine Za ?_; refine Seq.end_ ?_))
          exact loopN ⟨k + 1, b, by omega, rfl, rfl, rfl, rfl, same (fun h => e1 h.1)⟩ (by omega) (by repeat (first | exact trivial | refine ⟨by exact rfl, ?_⟩)) (by repeat (first | exact List.Sublist.refl _ | exact List.nil_sublist _ | refine List.Sublist.cons_cons _ ?_ | refine List.Sublist.cons _ ?_))
      · ((refine Seq.done ?_; refine Zd ?_; refine Wp.exit ?_; refine thenX ?_; refine loopX ?_; refine blkX (by exact rfl) ?_; refine blkN ?_; refine thenN ?_; refine Wp.region ?_; refine Zq ?_; refine Zm ?_; refine Zq ?_; refine q_add (by exact rfl) (by exact rfl) (wrap_in (by omega)) ?_; refine Zq ?_; refine Za ?_; refine Seq.end_ ?_))
        exact loopN ⟨a + 1, by omega, rfl, rfl, rfl, rfl⟩ (by omega) (by rw [hb, dec_same (pass_out (S := S) (i := i) (by omega : a < 2) (by omega : o.changes.length ≤ k))]; exact (by repeat (first | exact trivial | refine ⟨by exact rfl, ?_⟩))) (by repeat (first | exact List.Sublist.refl _ | exact List.nil_sublist _ | refine List.Sublist.cons_cons _ ?_ | refine List.Sublist.cons _ ?_))
    · have ha3 : a = 2 := by omega
      subst ha3
      by_cases hN : NextP S o.changes i
      · rw [decide_eq_true (show stepP S o.changes i 2 from by simpa [stepP] using hN)]
        ((refine Seq.done ?_; refine Zd ?_; refine Wp.exit ?_; refine thenX ?_; refine loopX ?_; refine blkX (by exact rfl) ?_; refine thenN ?_; refine Wp.seq ?_; refine Wp.region ?_; refine Zq ?_; refine Zm ?_; refine Seq.done ?_; refine Zc ?_; refine Wp.region ?_; refine Zq ?_; refine Zf T ?_; refine Zq ?_; refine Zl T 0 ?_; refine Zq ?_; refine Zm ?_))
        (refine Seq.stepK (by exact rfl) (k_buildSlice T (cs := [_]) (by exact rfl) (by exact rfl) (by exact rfl) (by exact rfl) (by exact rfl) (by exact rfl) (by exact rfl) (by exact rfl) (fun gb => ?_)))
        (refine Seq.stepK (by exact rfl) (k_append T (Hr := [_, _, _, _, _, _]) (by exact rfl) (by exact rfl) (by exact rfl) (by exact rfl) (by exact rfl) (by exact rfl) (by exact rfl) (List.Perm.refl _) hOw rfl (src_own (.head _)) (by intro u hu; simp at hu; subst hu; rfl) (by show _ * 8 ≤ _; omega) (by omega) (fun v' Hs' hO' => ?_)))
        obtain ⟨Av, cv, rfl, _, _⟩ := hO'.form
        have hO2 : OwnS 3 1 _ _ _ Hs' := hO'
        ((refine Zq ?_; refine Zf T ?_; refine Seq.stepK0 (k_store1 T (by exact rfl) (by exact rfl) (by exact rfl) (by exact rfl) (by exact rfl) (by exact rfl) ?_); refine Seq.end_ ?_; refine blkN ?_; refine thenN ?_; refine Wp.region ?_; refine Zq ?_; refine Zm ?_; refine Zq ?_; refine q_add (by exact rfl) (by exact rfl) (wrap_in (by omega)) ?_; refine Zq ?_; refine Za ?_; refine Seq.end_ ?_))
        exact loopN ⟨i + 1, _, Hs', by omega, rfl, rfl, rfl, rfl, by rw [truUpto_succ, if_pos hN]; simpa using hO2⟩ (by omega) (by repeat (first | exact trivial | refine ⟨by exact rfl, ?_⟩)) (by repeat (first | exact List.Sublist.refl _ | exact List.nil_sublist _ | refine List.Sublist.cons_cons _ ?_ | refine List.Sublist.cons _ ?_))
      · rw [decide_eq_false (show ¬ stepP S o.changes i 2 from by simpa [stepP] using hN)]
        ((refine Seq.done ?_; refine Zd ?_; refine Wp.exit ?_; refine thenX ?_; refine loopX ?_; refine blkX (by exact rfl) ?_; refine thenN ?_; refine Wp.seq ?_; refine Wp.region ?_; refine Zq ?_; refine Zm ?_; refine Seq.done ?_; refine Zd ?_; refine Wp.skip ?_; refine blkN ?_; refine thenN ?_; refine Wp.region ?_; refine Zq ?_; refine Zm ?_; refine Zq ?_; refine q_add (by exact rfl) (by exact rfl) (wrap_in (by omega)) ?_; refine Zq ?_; refine Za ?_; refine Seq.end_ ?_))
        exact loopN ⟨i + 1, _, Hs, by omega, rfl, rfl, rfl, rfl, by rw [truUpto_succ, if_neg hN]; exact hOw⟩ (by omega) (by repeat (first | exact trivial | refine ⟨by exact rfl, ?_⟩)) (by repeat (first | exact List.Sublist.refl _ | exact List.nil_sublist _ | refine List.Sublist.cons_cons _ ?_ | refine List.Sublist.cons _ ?_))
  · have hi1 : i = g.atoms.length := by omega
    subst hi1
    obtain ⟨Av, cv, rfl, _, _⟩ := hOw.form
    ((refine Seq.done ?_; refine Zd ?_; refine Wp.exit ?_; refine thenX ?_; refine loopX ?_; refine blkX (by exact rfl) ?_; refine thenN ?_; refine Wp.seq ?_; refine Wp.region ?_))
    refine Seq.freezeAll (H1 := [_, _, _, _, _]) (H2 := Hs) (List.Perm.refl _) (fun fz2 hle2 hf2 => ?_)
    obtain ⟨A', c', he', hsl'⟩ := sl_ints hOw hf2 (by omega) (truUpto_i64 (by omega))
    injection he' with hA1 _ hc1
    subst hA1 hc1
    replace hs0 := hs0.mono hle2
    replace sv := sv.mono hle2
    replace oa := oa.mono hle2
    refine Seq.stepK (by exact rfl) (k_buildSlice0 T (by exact rfl) (by exact rfl) (by exact rfl) (fun g5 => ?_))
    ((refine Zq ?_; refine Zf T ?_; refine Zq ?_; refine Zl T 4 ?_))
    refine Seq.stepK (by exact rfl) (k_append T (Hr := [_, _, _, _, _]) (by exact rfl) (by exact rfl) (by exact rfl) (by exact rfl) (by exact rfl) (by exact rfl) (by exact rfl) (List.perm_append_comm (l₁ := [_]) (l₂ := [_, _, _, _, _])) (OwnS.of_block (cs := []) (n := 0) rfl (by decide)) (by show _ = _ * 1; simp [lv]) (src_row (sl_row sv)) (by intro u hu; obtain ⟨x, _, rfl⟩ := List.mem_map.1 hu; rfl) (by show _ * 8 ≤ _; omega) (by omega) (fun v Hs hO => ?_))
    simp only [Nat.zero_add, List.nil_append] at hO
    obtain ⟨Bv, bv, rfl, _, _⟩ := hO.form
    ((refine Zq ?_; refine Zf T ?_; refine Seq.stepK0 (k_store0 T (by exact rfl) (by exact rfl) (by exact rfl) (by exact rfl) (by exact rfl) (by exact rfl) ?_); refine Seq.done ?_; refine Wp.seq ?_; refine Wp.seq ?_; refine Wp.region ?_; refine Zq ?_; refine Za ?_; refine Seq.done ?_; refine Wp.block ?_))
    refine Wp.loop (fun q σ fz' H' => ∃ (k : Nat) (xs : List Int) (Hs : HP), k ≤ p5 ∧ q = p5 - k ∧ σ = [(14, .int .i64 k), (8, .pointer (some ⟨g8, 0, none⟩)), (7, .pointer (some ⟨g7, 0, none⟩)), (6, .pointer (some ⟨g6, 0, none⟩)), (4, .pointer (some ⟨g1, 0, none⟩))] ∧ fz2 = fz' ∧
        H' = (g8, .cells #[.slice Av (truUpto S o.changes g.atoms.length).length cv, .slice Bv m2 bv] 33 (0, 0)) :: (g7, .cells #[.string o.name, .int .i64 o.cost, .slice P1 p1 o1, .slice P2 p2 o2, .slice P3 p3 o3, .slice P4 p4 o4, .slice P5 p5 o5] 46 (0, 0)) :: (g6, .cells #[.slice none 0 0, .slice none 0 0] 33 (0, 0)) :: ((g1, .cells #[.slice B1 m1 d1, .slice B2 m2 d2] 33 (0, 0))) :: Hs ∧ OwnS 3 1 (.slice Bv m2 bv) m2 (xs.map (Value.int .i64)) Hs ∧ assignM g S.values (o.assigns.take k) S.values = some xs)
      ⟨0, _, _, Nat.zero_le _, rfl, rfl, rfl, rfl, hO, rfl⟩ (by repeat (first | exact trivial | refine ⟨by exact rfl, ?_⟩)) (by repeat (first | exact List.Sublist.refl _ | exact List.nil_sublist _ | refine List.Sublist.cons_cons _ ?_ | refine List.Sublist.cons _ ?_)) ?_
    rintro q σ fz' H' ⟨k, xs, Hs, hk, rfl, rfl, rfl, rfl, hOx, hA⟩
    ((refine Wp.seq ?_; refine Wp.seq ?_; refine Wp.region ?_; refine Zq ?_; refine Zm ?_; refine Zq ?_; refine Zf T ?_; refine Zq ?_; refine Zl T 1 ?_; refine Zq ?_; refine Zs T ?_))
    (((refine Zq ?_)); (refine q_lssD (by exact rfl) (by exact rfl) (fun c3 => ?_) (fun c3 => ?_)))
    · obtain ⟨x, hx⟩ := get_some (l := o.assigns) (k := k) (by omega)
      obtain ⟨a0, a1, ar, _⟩ := hok.2.2.2.2.2.2 k x hx
      obtain ⟨n, hval, hnext⟩ := assignM_step hasg hA hx
      obtain ⟨gx, cap, cur, he1, rfl, hcur, hset⟩ := ownS_block hOx (by omega)
      injection he1 with he2 _ he3
      subst he2 he3
      ((refine Seq.done ?_; refine Zc ?_; refine Wp.skip ?_; refine thenN ?_; refine Wp.seq ?_; refine Wp.block ?_))
      (refine Wp.drawK (Hq := [_, _, _, _]) T.mixed (by kernel_rfl) (by kernel_rfl) (by repeat (first | exact List.Sublist.refl _ | exact List.nil_sublist _ | refine List.Sublist.cons_cons _ ?_ | refine List.Sublist.cons _ ?_)) ?_)
      ((refine QK.q ?_; refine Zf T ?_; refine QK.q ?_; refine Zl T 0 ?_; refine QK.q ?_; refine Zf T ?_; refine QK.q ?_; refine Zl T 1 ?_; refine QK.q ?_; refine Zm ?_))
      (((refine QK.q ?_)); refine q_index T k (by exact rfl) (by exact rfl) (by exact rfl) (by exact rfl) (by exact rfl) (by exact rfl) oa (by first | rfl | omega) hx (fun p hp2 => ?_))
      ((refine QK.q ?_; refine Zf T ?_))
      (((refine QK.q ?_)); refine q_load_int T (by exact rfl) (by exact rfl) (by exact rfl) hp2.GAssign_fluent (fun i1 => ?_))
      ((refine QK.q ?_; refine ZL T 3 ?_; refine QK.q ?_; refine Zf T ?_; refine QK.q ?_; refine Zl T 1 ?_; refine QK.q ?_; refine Zm ?_))
      (((refine QK.q ?_)); refine q_index T k (by exact rfl) (by exact rfl) (by exact rfl) (by exact rfl) (by exact rfl) (by exact rfl) oa (by first | rfl | omega) hx (fun p2' hp3 => ?_))
      ((refine QK.q ?_; refine Zf T ?_))
      (((refine QK.q ?_)); refine q_load_at T (by exact rfl) (by exact rfl) (by exact rfl) hp3.GAssign_value (by exact rfl) ?_)
      intro cs2 hcs2
      obtain ⟨y, rfl, hy⟩ := gExprL_open hcs2
      obtain ⟨z, hq⟩ := rvalue_aux _ (Nat.le_refl _) hs0 hy (by rw [hpl]; exact ar) (proper_in hv hp)
      rw [hval] at hq
      (((refine QK.q ?_)); refine q_call (by exact rfl) (by exact rfl) hq ?_)
      ((refine QK.q ?_; refine Zm ?_; refine QK.q ?_; refine Ze ?_; refine QK.q ?_; refine Ze ?_))
      ((refine QK.q ?_)); refine q_index_own T (by exact rfl) (by exact rfl) (by exact rfl) (by exact rfl) (by exact rfl) (by exact rfl) (by omega) (by omega) ?_
      (refine QK.later ?_)
      (refine QK.done ⟨by kernel_rfl, ?_⟩)
      refine Ch.soft0 (k_store_row T (pre := [_, _, _, _]) (post := []) (by exact rfl) (by exact rfl) (by exact rfl) (by exact rfl) (by exact rfl) (by exact rfl) (by exact rfl) (by omega) ⟨(⟨Le.refl _, by intro p hp; simp only [List.mem_cons, List.not_mem_nil, or_false] at hp; first | (rcases hp with rfl | rfl | rfl | rfl | rfl <;> simp) | (rcases hp with rfl | rfl | rfl | rfl <;> simp) | (rcases hp with rfl | rfl | rfl <;> simp) | (rcases hp with rfl | rfl <;> simp) | (subst hp; simp)⟩), ?_⟩)
      refine Ch.done ?_
      ((refine blkN ?_; refine thenN ?_; refine Wp.region ?_; refine Zq ?_; refine Zm ?_; refine Zq ?_; refine q_add (by exact rfl) (by exact rfl) (wrap_in (by omega)) ?_; refine Zq ?_; refine Za ?_; refine Seq.end_ ?_))
      exact loopN ⟨k + 1, xs.set x.fluent.toNat n, _, by omega, rfl, rfl, rfl, rfl, by rw [List.map_set]; exact hset _ _, hnext⟩ (by omega) (by repeat (first | exact trivial | refine ⟨by exact rfl, ?_⟩)) (by repeat (first | exact List.Sublist.refl _ | exact List.nil_sublist _ | refine List.Sublist.cons_cons _ ?_ | refine List.Sublist.cons _ ?_))
    · have hA' : xs = vs := by
        rw [List.take_of_length_le (by omega), hasg] at hA
        injection hA with hA; exact hA.symm
      subst hA'
      ((refine Seq.done ?_; refine Zd ?_; refine Wp.exit ?_; refine thenX ?_; refine loopX ?_; refine blkX (by exact rfl) ?_; refine thenN ?_; refine Wp.seq ?_; refine Wp.region ?_; refine Zq ?_; refine ZL T 0 ?_; refine Seq.stepK0 (k_store2 T (by exact rfl) (by exact rfl) (by exact rfl) (by exact rfl) (by exact rfl) (by exact rfl) ?_); refine Seq.done ?_; refine Wp.ret ?_))
      refine ret_cellF T (i := 2) rfl (by exact rfl) (by exact rfl) (by exact rfl) (by exact rfl) (by exact rfl) (fun fz3 hle3 hf3 => ?_)
      obtain ⟨A2', c2', he4, hsl2⟩ := sl_ints hOx (fun p hp => hf3 p (by simp [hp])) (by omega) (inB_i64 (assignM_in (proper_in hv hp) (fun a ha => by
        obtain ⟨i, hi⟩ := List.mem_iff_getElem?.1 ha
        exact (hok.2.2.2.2.2.2 i a hi).2.2.1) (proper_in hv hp) hasg))
      refine ⟨rfl, _, _, rfl, ?_, ?_⟩
      · have : (nextS g S op 0 xs).tru = truUpto S o.changes g.atoms.length := by simp [nextS, nextT, ho']
        rw [this]; exact (hsl'.mono hle3).is
      · have : (nextS g S op 0 xs).values = xs := by simp [nextS]
        rw [this, he4]; exact hsl2.is
end Go.Proofs.YtegmololhnipiaaGreatDoor
namespace Go.Proofs.YtegmololhnipiaaGreatDoor
open Go.Lx Go.Gr Go.RowKit
attribute [local instance 10] Classical.propDecidable
set_option maxRecDepth 20000
def RApR2 (g : GTask) (S : GState) (op code : Int) (vs : List Int) : Value → FZ → HP → Prop := fun v fz' H' => H' = [] ∧ ∃ w1 w2, v = .tuple #[sV w1 w2, .int .i64 code] ∧ GStateR fz' (nextS g S op code vs) w1 w2
set_option maxHeartbeats 1000000 in
theorem rapply_f {fz : FZ} {g : GTask} {v1 v2 v3 v4 v5 : Value} {S : GState} {u1 u2 : Value} {op code : Int} {vs : List Int} (hg : GTaskR fz g v1 v2 v3 v4 v5) (hs : GStateR fz S u1 u2) (ha : AppR g S op code vs) :
    GFn Tryz.prog 19 [gV v1 v2 v3 v4 v5, sV u1 u2, .int .i64 op] fz [] (RApR2 g S op code vs) := by
  have hg0 := hg
  have hs0 := hs
  (obtain ⟨A1, n1, cap1, rfl, ga⟩ := hg.atoms; obtain ⟨A2, n2, cap2, rfl, gf⟩ := hg.fluents; obtain ⟨A3, n3, cap3, rfl, gi⟩ := hg.init; obtain ⟨A4, n4, cap4, rfl, gg⟩ := hg.goal; obtain ⟨A5, n5, cap5, rfl, go⟩ := hg.ops; have e1 := ga.len; subst e1; have e2 := gf.len; subst e2)
  obtain ⟨B1, m1, d1, rfl, st⟩ := hs.tru
  obtain ⟨B2, m2, d2, rfl, sv⟩ := hs.values
  (refine GFn.of_wp Tryz.func19 rfl Tryz.ntmps19 rfl rfl (fun w0 => ?_))
  (refine Wp.seq (Wp.region (Seq.stepK (by exact rfl) (k_box _ (by exact rfl) (by exact rfl) (fun g0 => ?_)))))
  (refine Seq.stepK (by exact rfl) (k_box _ (by exact rfl) (by exact rfl) (fun g1 => ?_)))
  refine Seq.stepK (by exact rfl) (k_alloc T (by exact rfl) (by exact rfl) (fun g6 => ?_))
  ((refine Zq ?_; refine Za ?_; refine Seq.done ?_; refine Wp.seq ?_; refine Wp.region ?_; refine Zq ?_; refine ZL T 2 ?_; refine Zq ?_; refine ZL T 1 ?_; refine Zq ?_; refine Zm ?_))
  (((refine Zq ?_)); refine q_call (by exact rfl) (by exact rfl) (rapplicable_q hg0 hs0 ha) ?_)
  ((refine Zq ?_; refine Za ?_; refine Seq.done ?_; refine Wp.seq ?_; refine Wp.seq ?_; refine Wp.region ?_; refine Zq ?_; refine Zm ?_))
  (((refine Zq ?_)); (refine q_neqD (by exact rfl) (by exact rfl) (fun c1 => ?_) (fun c1 => ?_)))
  · ((refine Seq.done ?_; refine Zc ?_; refine Wp.seq ?_; refine Wp.region ?_; refine Zq ?_; refine q_build T (by exact rfl) (by exact rfl) (by exact rfl) (by exact rfl) (by exact rfl) ?_; refine Zq ?_; refine Zm ?_; refine Seq.stepK0 (k_store0 T (by exact rfl) (by exact rfl) (by exact rfl) (by exact rfl) (by exact rfl) (by exact rfl) ?_); refine Zq ?_; refine Za ?_; refine Seq.done ?_; refine Wp.ret ?_; refine thenR ?_))
    refine retNF T (vs := [.agg #[_, _], .int .i64 code]) (by exact rfl) ⟨⟨_, _, 0, _, _, _, rfl, rfl, rfl, rfl, rfl, rfl⟩, rfl, trivial⟩ (fun fz3 hle3 hf3 => ?_)
    refine ⟨rfl, _, _, rfl, ?_, ?_⟩
    · have : (nextS g S op code vs).tru = [] := by simp [nextS, c1]
      rw [this]; exact IsSl.nil
    · have : (nextS g S op code vs).values = [] := by simp [nextS, c1]
      rw [this]; exact IsSl.nil
  · subst c1
    ((refine Seq.done ?_; refine Zd ?_; refine Wp.skip ?_; refine thenN ?_; refine Wp.seq ?_; refine Wp.region ?_; refine Zq ?_; refine ZL T 2 ?_; refine Zq ?_; refine ZL T 1 ?_; refine Zq ?_; refine Zm ?_))
    refine Seq.stepK (by exact rfl) (k_call [] [_, _, _] (by exact rfl) (by exact rfl) (by exact rfl) (rnext_f hg0 hs0 ha) (fun v fz1 H1 hle1 hR => ?_))
    obtain ⟨rfl, w1, w2, rfl, hN⟩ := hR
    obtain ⟨N1, r1, s1, rfl, n1⟩ := hN.tru
    obtain ⟨N2, r2, s2, rfl, n2⟩ := hN.values
    ((refine Seq.stepK0 (k_store0 T (by exact rfl) (by exact rfl) (by exact rfl) (by exact rfl) (by exact rfl) (by exact rfl) ?_); refine Zq ?_; refine Za ?_; refine Seq.done ?_; refine Wp.ret ?_))
    refine retNF T (vs := [.agg #[_, _], .int .i64 0]) (by exact rfl) ⟨⟨_, _, 0, _, _, _, rfl, rfl, rfl, rfl, rfl, rfl⟩, rfl, trivial⟩ (fun fz3 hle3 hf3 => ?_)
    exact ⟨rfl, _, _, rfl, (n1.mono hle3).is, (n2.mono hle3).is⟩
set_option maxHeartbeats 4000000 in
theorem large_f {fz : FZ} {g : GTask} {v1 v2 v3 v4 v5 : Value} (hg : GTaskR fz g v1 v2 v3 v4 v5) :
    GFn Tryz.prog 7 [gV v1 v2 v3 v4 v5] fz [] fun u fz' H' => fz' = fz ∧ H' = [] ∧ ∃ b, u = .bool b := by
  (obtain ⟨A1, n1, cap1, rfl, ga⟩ := hg.atoms; obtain ⟨A2, n2, cap2, rfl, gf⟩ := hg.fluents; obtain ⟨A3, n3, cap3, rfl, gi⟩ := hg.init; obtain ⟨A4, n4, cap4, rfl, gg⟩ := hg.goal; obtain ⟨A5, n5, cap5, rfl, go⟩ := hg.ops; have e1 := ga.len; subst e1; have e2 := gf.len; subst e2)
  have l3 := gi.len
  have l4 := gg.len
  have l5 := go.len
  have q1 := ga.short
  have q2 := gf.short
  have q3 := gi.short
  have q4 := gg.short
  have q5 := go.short
  (refine GFn.of_wp Tryz.func7 rfl Tryz.ntmps7 rfl rfl (fun w0 => ?_))
  (refine Wp.seq (Wp.region (Seq.stepK (by exact rfl) (k_box _ (by exact rfl) (by exact rfl) (fun g0 => ?_)))))
  ((refine Zq ?_; refine Za ?_; refine Seq.done ?_; refine Wp.seq ?_; refine Wp.region ?_; refine Zq ?_; refine Zf T ?_; refine Zq ?_; refine Zl T 0 ?_; refine Zq ?_; refine Zs T ?_; refine Zq ?_; refine Zf T ?_; refine Zq ?_; refine Zl T 0 ?_; refine Zq ?_; refine Zs T ?_; refine Zq ?_; refine q_add (by exact rfl) (by exact rfl) (wrap_in (by omega)) ?_; refine Zq ?_; refine Zf T ?_; refine Zq ?_; refine Zl T 0 ?_; refine Zq ?_; refine Zs T ?_; refine Zq ?_; refine q_add (by exact rfl) (by exact rfl) (wrap_in (by omega)) ?_; refine Zq ?_; refine Za ?_; refine Seq.done ?_; refine Wp.seq ?_; refine Wp.seq ?_; refine Wp.region ?_; refine Zq ?_; refine Za ?_; refine Seq.done ?_; refine Wp.block ?_))
  refine Wp.loop (fun q σ fz' H' => ∃ (k : Nat) (z : Int), k ≤ n4 ∧ q = n4 - k ∧ σ = [(4, .int .i64 k), (3, .int .i64 z), (1, .pointer (some ⟨g0, 0, none⟩))] ∧ fz = fz' ∧ H' = [((g0, .cells #[.slice A1 g.atoms.length cap1, .slice A2 g.fluents.length cap2, .slice A3 n3 cap3, .slice A4 n4 cap4, .slice A5 n5 cap5] 28 (0, 0)))])
    ⟨0, _, Nat.zero_le _, rfl, rfl, rfl, rfl⟩ (by repeat (first | exact trivial | refine ⟨by exact rfl, ?_⟩)) (by repeat (first | exact List.Sublist.refl _ | exact List.nil_sublist _ | refine List.Sublist.cons_cons _ ?_ | refine List.Sublist.cons _ ?_)) ?_
  rintro q σ fz' H' ⟨k, z, hk, rfl, rfl, rfl, rfl⟩
  ((refine Wp.seq ?_; refine Wp.seq ?_; refine Wp.region ?_; refine Zq ?_; refine Zm ?_; refine Zq ?_; refine Zf T ?_; refine Zq ?_; refine Zl T 0 ?_; refine Zq ?_; refine Zs T ?_))
  (((refine Zq ?_)); (refine q_lssD (by exact rfl) (by exact rfl) (fun c1 => ?_) (fun c1 => ?_)))
  · obtain ⟨x, hx⟩ := get_some (l := g.goal) (k := k) (by omega)
    ((refine Seq.done ?_; refine Zc ?_; refine Wp.skip ?_; refine thenN ?_; refine Wp.seq ?_; refine Wp.block ?_; refine Wp.region ?_; refine Zq ?_; refine Zm ?_; refine Zq ?_; refine Zf T ?_; refine Zq ?_; refine Zl T 0 ?_; refine Zq ?_; refine Zm ?_))
    (((refine Zq ?_)); refine q_index T k (by exact rfl) (by exact rfl) (by exact rfl) (by exact rfl) (by exact rfl) (by exact rfl) gg (by first | rfl | omega) hx (fun p hp => ?_))
    (((refine Zq ?_)); refine q_load_at T (by exact rfl) (by exact rfl) (by exact rfl) hp (by exact rfl) ?_)
    intro cs hcs
    obtain ⟨w1, w2, w3, rfl, hc⟩ := condL_open hcs
    (((refine Zq ?_)); refine q_call (by exact rfl) (by exact rfl) (heavy_q hc) ?_)
    ((refine Zq ?_)); refine q_add (by exact rfl) (by exact rfl) rfl ?_
    ((refine Zq ?_)); refine q_add (by exact rfl) (by exact rfl) rfl ?_
    ((refine Zq ?_; refine Za ?_; refine Seq.end_ ?_; refine blkN ?_; refine thenN ?_; refine Wp.region ?_; refine Zq ?_; refine Zm ?_; refine Zq ?_; refine q_add (by exact rfl) (by exact rfl) (wrap_in (by omega)) ?_; refine Zq ?_; refine Za ?_; refine Seq.end_ ?_))
    exact loopN ⟨k + 1, _, by omega, rfl, rfl, rfl, rfl⟩ (by omega) (by repeat (first | exact trivial | refine ⟨by exact rfl, ?_⟩)) (by repeat (first | exact List.Sublist.refl _ | exact List.nil_sublist _ | refine List.Sublist.cons_cons _ ?_ | refine List.Sublist.cons _ ?_))
  · ((refine Seq.done ?_; refine Zd ?_; refine Wp.exit ?_; refine thenX ?_; refine loopX ?_; refine blkX (by exact rfl) ?_; refine thenN ?_; refine Wp.seq ?_; refine Wp.seq ?_; refine Wp.region ?_; refine Zq ?_; refine Za ?_; refine Seq.done ?_; refine Wp.block ?_))
    refine Wp.loop (fun q σ fz' H' => ∃ (k : Nat) (z : Int), k ≤ n5 ∧ q = n5 - k ∧ σ = [(5, .int .i64 k), (3, .int .i64 z), (1, .pointer (some ⟨g0, 0, none⟩))] ∧ fz = fz' ∧ H' = [((g0, .cells #[.slice A1 g.atoms.length cap1, .slice A2 g.fluents.length cap2, .slice A3 n3 cap3, .slice A4 n4 cap4, .slice A5 n5 cap5] 28 (0, 0)))])
      ⟨0, _, Nat.zero_le _, rfl, rfl, rfl, rfl⟩ (by repeat (first | exact trivial | refine ⟨by exact rfl, ?_⟩)) (by repeat (first | exact List.Sublist.refl _ | exact List.nil_sublist _ | refine List.Sublist.cons_cons _ ?_ | refine List.Sublist.cons _ ?_)) ?_
    rintro q σ fz' H' ⟨k, z, hk, rfl, rfl, rfl, rfl⟩
    ((refine Wp.seq ?_; refine Wp.seq ?_; refine Wp.region ?_; refine Zq ?_; refine Zm ?_; refine Zq ?_; refine Zf T ?_; refine Zq ?_; refine Zl T 0 ?_; refine Zq ?_; refine Zs T ?_))
    (((refine Zq ?_)); (refine q_lssD (by exact rfl) (by exact rfl) (fun c2 => ?_) (fun c2 => ?_)))
    · obtain ⟨o, ho⟩ := get_some (l := g.ops) (k := k) (by omega)
      ((refine Seq.done ?_; refine Zc ?_; refine Wp.skip ?_; refine thenN ?_; refine Wp.seq ?_; refine Wp.block ?_; refine Wp.seq ?_; refine Wp.region ?_; refine Zq ?_; refine Zf T ?_; refine Zq ?_; refine Zl T 0 ?_; refine Zq ?_; refine Zm ?_))
      (((refine Zq ?_)); refine q_index T k (by exact rfl) (by exact rfl) (by exact rfl) (by exact rfl) (by exact rfl) (by exact rfl) go (by first | rfl | omega) ho (fun p hp => ?_))
      (((refine Zq ?_)); refine q_load_at T (by exact rfl) (by exact rfl) (by exact rfl) hp (by exact rfl) ?_)
      intro cs hcs
      obtain ⟨w1, w2, w3, w4, w5, rfl, hO⟩ := gOpL_open hcs
      obtain ⟨P1, p1, o1, rfl, _⟩ := hO.pre.pos
      obtain ⟨P2, p2, o2, rfl, _⟩ := hO.pre.neg
      obtain ⟨P3, p3, o3, rfl, _⟩ := hO.pre.tests
      obtain ⟨P4, p4, o4, rfl, oc⟩ := hO.changes
      obtain ⟨P5, p5, o5, rfl, oa⟩ := hO.assigns
      have la := oa.len
      have qa := oa.short
      have lc := oc.len
      have qc := oc.short
      refine Seq.stepK (by exact rfl) (k_alloc T (by exact rfl) (by exact rfl) (fun g6 => ?_))
      ((refine Seq.stepK0 (k_store0 T (by exact rfl) (by exact rfl) (by exact rfl) (by exact rfl) (by exact rfl) (by exact rfl) ?_); refine Seq.done ?_; refine Wp.seq ?_; refine Wp.draw (by decide +kernel) T.mixed (by kernel_rfl) (by kernel_rfl) ?_; refine QL.q ?_; refine Zm ?_; refine QL.q ?_; refine Zf T ?_))
      (((refine QL.q ?_)); refine q_load_own_sub (vs := [.slice P1 p1 o1, .slice P2 p2 o2, .slice P3 p3 o3]) T 0 (by exact rfl) (by exact rfl) (by exact rfl) (by exact rfl) (by exact rfl) (by exact rfl) ?_)
      (((refine QL.q ?_)); refine q_call (by exact rfl) (by exact rfl) (heavy_q hO.pre) ?_)
      ((refine QL.q ?_)); refine q_add (by exact rfl) (by exact rfl) rfl ?_
      ((refine QL.q ?_; refine Zf T ?_; refine QL.q ?_; refine Zl T 0 ?_; refine QL.q ?_; refine q_len_string T (by exact rfl) (by exact rfl) (by exact rfl) ?_))
      ((refine QL.q ?_)); refine qg_quo (by exact rfl) (by exact rfl) (by decide) rfl ?_
      ((refine QL.q ?_)); refine q_add (by exact rfl) (by exact rfl) rfl ?_
      ((refine QL.q ?_)); refine q_add (by exact rfl) (by exact rfl) rfl ?_
      ((refine QL.q ?_; refine Za ?_; refine QL.done ?_; refine thenN ?_; refine Wp.seq ?_; refine Wp.seq ?_; refine Wp.region ?_; refine Zq ?_; refine Za ?_; refine Seq.done ?_; refine Wp.block ?_))
      refine Wp.loop (fun q σ fz' H' => ∃ (i : Nat) (z : Int), i ≤ p4 ∧ q = p4 - i ∧ σ = [(7, .int .i64 i), (6, .pointer (some ⟨g6, 0, none⟩)), (5, .int .i64 k), (3, .int .i64 z), (1, .pointer (some ⟨g0, 0, none⟩))] ∧ fz = fz' ∧ H' = [(g6, .cells #[.string o.name, .int .i64 o.cost, .slice P1 p1 o1, .slice P2 p2 o2, .slice P3 p3 o3, .slice P4 p4 o4, .slice P5 p5 o5] 46 (0, 0)), ((g0, .cells #[.slice A1 g.atoms.length cap1, .slice A2 g.fluents.length cap2, .slice A3 n3 cap3, .slice A4 n4 cap4, .slice A5 n5 cap5] 28 (0, 0)))])
        ⟨0, _, Nat.zero_le _, rfl, rfl, rfl, rfl⟩ (by repeat (first | exact trivial | refine ⟨by exact rfl, ?_⟩)) (by repeat (first | exact List.Sublist.refl _ | exact List.nil_sublist _ | refine List.Sublist.cons_cons _ ?_ | refine List.Sublist.cons _ ?_)) ?_
      rintro q σ fz' H' ⟨i, z2, hi, rfl, rfl, rfl, rfl⟩
      ((refine Wp.seq ?_; refine Wp.seq ?_; refine Wp.region ?_; refine Zq ?_; refine Zm ?_; refine Zq ?_; refine Zf T ?_; refine Zq ?_; refine Zl T 0 ?_; refine Zq ?_; refine Zs T ?_))
      (((refine Zq ?_)); (refine q_lssD (by exact rfl) (by exact rfl) (fun c3 => ?_) (fun c3 => ?_)))
      · obtain ⟨x, hx⟩ := get_some (l := o.changes) (k := i) (by omega)
        ((refine Seq.done ?_; refine Zc ?_; refine Wp.skip ?_; refine thenN ?_; refine Wp.seq ?_; refine Wp.block ?_; refine Wp.region ?_; refine Zq ?_; refine Zm ?_; refine Zq ?_; refine Zf T ?_; refine Zq ?_; refine Zl T 0 ?_; refine Zq ?_; refine Zm ?_))
        (((refine Zq ?_)); refine q_index T i (by exact rfl) (by exact rfl) (by exact rfl) (by exact rfl) (by exact rfl) (by exact rfl) oc (by first | rfl | omega) hx (fun p hp2 => ?_))
        ((refine Zq ?_; refine Zf T ?_))
        (((refine Zq ?_)); refine q_load_at T (by exact rfl) (by exact rfl) (by exact rfl) hp2.GChange_when_ (by exact rfl) ?_)
        intro cs hcs
        obtain ⟨w1, w2, w3, rfl, hc⟩ := condL_open hcs
        (((refine Zq ?_)); refine q_call (by exact rfl) (by exact rfl) (heavy_q hc) ?_)
        ((refine Zq ?_)); refine q_add (by exact rfl) (by exact rfl) rfl ?_
        ((refine Zq ?_)); refine q_add (by exact rfl) (by exact rfl) rfl ?_
        ((refine Zq ?_; refine Za ?_; refine Seq.end_ ?_; refine blkN ?_; refine thenN ?_; refine Wp.region ?_; refine Zq ?_; refine Zm ?_; refine Zq ?_; refine q_add (by exact rfl) (by exact rfl) (wrap_in (by omega)) ?_; refine Zq ?_; refine Za ?_; refine Seq.end_ ?_))
        exact loopN ⟨i + 1, _, by omega, rfl, rfl, rfl, rfl⟩ (by omega) (by repeat (first | exact trivial | refine ⟨by exact rfl, ?_⟩)) (by repeat (first | exact List.Sublist.refl _ | exact List.nil_sublist _ | refine List.Sublist.cons_cons _ ?_ | refine List.Sublist.cons _ ?_))
      · ((refine Seq.done ?_; refine Zd ?_; refine Wp.exit ?_; refine thenX ?_; refine loopX ?_; refine blkX (by exact rfl) ?_; refine thenN ?_; refine Wp.seq ?_; refine Wp.region ?_; refine Zq ?_; refine Za ?_; refine Seq.done ?_; refine Wp.block ?_))
        refine Wp.loop (fun q σ fz' H' => ∃ (i : Nat) (z : Int), i ≤ p5 ∧ q = p5 - i ∧ σ = [(8, .int .i64 i), (6, .pointer (some ⟨g6, 0, none⟩)), (5, .int .i64 k), (3, .int .i64 z), (1, .pointer (some ⟨g0, 0, none⟩))] ∧ fz = fz' ∧ H' = [(g6, .cells #[.string o.name, .int .i64 o.cost, .slice P1 p1 o1, .slice P2 p2 o2, .slice P3 p3 o3, .slice P4 p4 o4, .slice P5 p5 o5] 46 (0, 0)), ((g0, .cells #[.slice A1 g.atoms.length cap1, .slice A2 g.fluents.length cap2, .slice A3 n3 cap3, .slice A4 n4 cap4, .slice A5 n5 cap5] 28 (0, 0)))])
          ⟨0, _, Nat.zero_le _, rfl, rfl, rfl, rfl⟩ (by repeat (first | exact trivial | refine ⟨by exact rfl, ?_⟩)) (by repeat (first | exact List.Sublist.refl _ | exact List.nil_sublist _ | refine List.Sublist.cons_cons _ ?_ | refine List.Sublist.cons _ ?_)) ?_
        rintro q σ fz' H' ⟨i, z3, hi, rfl, rfl, rfl, rfl⟩
        ((refine Wp.seq ?_; refine Wp.seq ?_; refine Wp.region ?_; refine Zq ?_; refine Zm ?_; refine Zq ?_; refine Zf T ?_; refine Zq ?_; refine Zl T 0 ?_; refine Zq ?_; refine Zs T ?_))
        (((refine Zq ?_)); (refine q_lssD (by exact rfl) (by exact rfl) (fun c4 => ?_) (fun c4 => ?_)))
        · obtain ⟨x, hx⟩ := get_some (l := o.assigns) (k := i) (by omega)
          ((refine Seq.done ?_; refine Zc ?_; refine Wp.skip ?_; refine thenN ?_; refine Wp.seq ?_; refine Wp.block ?_; refine Wp.region ?_; refine Zq ?_; refine Zm ?_; refine Zq ?_; refine Zf T ?_; refine Zq ?_; refine Zl T 0 ?_; refine Zq ?_; refine Zm ?_))
          (((refine Zq ?_)); refine q_index T i (by exact rfl) (by exact rfl) (by exact rfl) (by exact rfl) (by exact rfl) (by exact rfl) oa (by first | rfl | omega) hx (fun p hp3 => ?_))
          ((refine Zq ?_; refine Zf T ?_))
          (((refine Zq ?_)); refine q_load_at T (by exact rfl) (by exact rfl) (by exact rfl) hp3.GAssign_value (by exact rfl) ?_)
          intro cs hcs
          obtain ⟨y, rfl, hy⟩ := gExprL_open hcs
          (((refine Zq ?_)); refine q_call (by exact rfl) (by exact rfl) (size_q hy) ?_)
          ((refine Zq ?_)); refine q_add (by exact rfl) (by exact rfl) rfl ?_
          ((refine Zq ?_; refine Za ?_; refine Seq.end_ ?_; refine blkN ?_; refine thenN ?_; refine Wp.region ?_; refine Zq ?_; refine Zm ?_; refine Zq ?_; refine q_add (by exact rfl) (by exact rfl) (wrap_in (by omega)) ?_; refine Zq ?_; refine Za ?_; refine Seq.end_ ?_))
          exact loopN ⟨i + 1, _, by omega, rfl, rfl, rfl, rfl⟩ (by omega) (by repeat (first | exact trivial | refine ⟨by exact rfl, ?_⟩)) (by repeat (first | exact List.Sublist.refl _ | exact List.nil_sublist _ | refine List.Sublist.cons_cons _ ?_ | refine List.Sublist.cons _ ?_))
        · ((refine Seq.done ?_; refine Zd ?_; refine Wp.exit ?_; refine thenX ?_; refine loopX ?_; refine blkX (by exact rfl) ?_; refine blkN ?_; refine thenN ?_; refine Wp.region ?_; refine Zq ?_; refine Zm ?_; refine Zq ?_; refine q_add (by exact rfl) (by exact rfl) (wrap_in (by omega)) ?_; refine Zq ?_; refine Za ?_; refine Seq.end_ ?_))
          exact loopN ⟨k + 1, _, by omega, rfl, rfl, rfl, rfl⟩ (by omega) (by repeat (first | exact trivial | refine ⟨by exact rfl, ?_⟩)) (by repeat (first | exact List.Sublist.refl _ | exact List.nil_sublist _ | refine List.Sublist.cons_cons _ ?_ | refine List.Sublist.cons _ ?_))
    · ((refine Seq.done ?_; refine Zd ?_; refine Wp.exit ?_; refine thenX ?_; refine loopX ?_; refine blkX (by exact rfl) ?_; refine thenN ?_; refine Wp.seq ?_; refine Wp.region ?_; refine Zq ?_; refine Zm ?_))
      (((refine Zq ?_)); (refine q_gtrD (by exact rfl) (by exact rfl) (fun c5 => ?_) (fun c5 => ?_)))
      · ((refine Zq ?_; refine Za ?_; refine Seq.done ?_; refine Wp.ret ?_))
        exact ret1 rfl rfl (by repeat (first | exact List.Sublist.refl _ | exact List.nil_sublist _ | refine List.Sublist.cons_cons _ ?_ | refine List.Sublist.cons _ ?_)) ⟨rfl, rfl, _, rfl⟩
      · ((refine Zq ?_; refine Za ?_; refine Seq.done ?_; refine Wp.ret ?_))
        exact ret1 rfl rfl (by repeat (first | exact List.Sublist.refl _ | exact List.nil_sublist _ | refine List.Sublist.cons_cons _ ?_ | refine List.Sublist.cons _ ?_)) ⟨rfl, rfl, _, rfl⟩
end Go.Proofs.YtegmololhnipiaaGreatDoor
namespace Go.Proofs.YtegmololhnipiaaGreatDoor
open Go.Lx Go.Gr Go.RowKit
attribute [local instance 10] Classical.propDecidable
set_option maxRecDepth 20000
def Awk : Prop := ∀ fz, QFn Tryz.prog 8 [] fz (.bool true)
set_option maxHeartbeats 4000000 in
theorem gapplies_q (awk : Awk) {fz : FZ} {g : GTask} {v1 v2 v3 v4 v5 : Value} {S : GState} {u1 u2 : Value} {op : Int} (hg : GTaskR fz g v1 v2 v3 v4 v5) (hs : GStateR fz S u1 u2) :
    QFn Tryz.prog 5 [gV v1 v2 v3 v4 v5, sV u1 u2, .int .i64 op] fz (.bool true) := by
  have hg0 := hg
  have hs0 := hs
  (obtain ⟨A1, n1, cap1, rfl, ga⟩ := hg.atoms; obtain ⟨A2, n2, cap2, rfl, gf⟩ := hg.fluents; obtain ⟨A3, n3, cap3, rfl, gi⟩ := hg.init; obtain ⟨A4, n4, cap4, rfl, gg⟩ := hg.goal; obtain ⟨A5, n5, cap5, rfl, go⟩ := hg.ops; have e1 := ga.len; subst e1; have e2 := gf.len; subst e2)
  obtain ⟨B1, m1, d1, rfl, st⟩ := hs.tru
  obtain ⟨B2, m2, d2, rfl, sv⟩ := hs.values
  obtain ⟨code, vs, hA⟩ := app_total g S op
  refine GFn.quiet ?_
  (refine GFn.of_wp Tryz.func5 rfl Tryz.ntmps5 rfl rfl (fun w0 => ?_))
  (refine Wp.seq (Wp.region (Seq.stepK (by exact rfl) (k_box _ (by exact rfl) (by exact rfl) (fun g0 => ?_)))))
  (refine Seq.stepK (by exact rfl) (k_box _ (by exact rfl) (by exact rfl) (fun g1 => ?_)))
  ((refine Zq ?_; refine Za ?_; refine Seq.done ?_; refine Wp.seq ?_; refine Wp.seq ?_; refine Wp.region ?_; refine Zq ?_; refine ZL T 1 ?_))
  refine Seq.stepK (by exact rfl) (k_call [] [_, _] (by exact rfl) (by exact rfl) (by exact rfl) (large_f hg0) (fun v fz1 H1 hle1 hR => ?_))
  obtain ⟨rfl, rfl, b, rfl⟩ := hR
  cases b with
  | true => ((((refine Zq ?_; refine Zm ?_; refine Zn ?_; refine Zn ?_; refine Zn ?_; refine Zn ?_; refine Zq ?_; refine Zt ?_; refine Zq ?_; refine Zm ?_; refine Zn ?_; refine Zn ?_; refine Zn ?_; refine Zn ?_; refine Zq ?_; refine Zt ?_; refine Zq ?_; refine Zm ?_; refine Zn ?_; refine Zn ?_; refine Zq ?_; refine Zt ?_; refine Seq.done ?_; refine Zc ?_; refine Wp.seq ?_; refine Wp.region ?_)); (((refine Zq ?_)); refine q_call (by exact rfl) (by exact rfl) (awk _) ?_); ((refine Zq ?_; refine Za ?_; refine Seq.done ?_; refine Wp.ret ?_; refine thenR ?_)); (exact ret1 rfl rfl (by repeat (first | exact List.Sublist.refl _ | exact List.nil_sublist _ | refine List.Sublist.cons_cons _ ?_ | refine List.Sublist.cons _ ?_)) rfl)))
  | false =>
    ((refine Zq ?_; refine Zm ?_; refine Zy ?_; refine Zf T ?_; refine Zy ?_; refine Zl T 0 ?_; refine Zy ?_; refine Zs T ?_))
    (((refine Zy ?_)); (refine q_gtrD (by exact rfl) (by exact rfl) (fun c1 => ?_) (fun c1 => ?_)))
    · ((((refine Zq ?_; refine Zu ?_; refine Zq ?_; refine Zm ?_; refine Zn ?_; refine Zn ?_; refine Zn ?_; refine Zn ?_; refine Zq ?_; refine Zt ?_; refine Zq ?_; refine Zm ?_; refine Zn ?_; refine Zn ?_; refine Zq ?_; refine Zt ?_; refine Seq.done ?_; refine Zc ?_; refine Wp.seq ?_; refine Wp.region ?_)); (((refine Zq ?_)); refine q_call (by exact rfl) (by exact rfl) (awk _) ?_); ((refine Zq ?_; refine Za ?_; refine Seq.done ?_; refine Wp.ret ?_; refine thenR ?_)); (exact ret1 rfl rfl (by repeat (first | exact List.Sublist.refl _ | exact List.nil_sublist _ | refine List.Sublist.cons_cons _ ?_ | refine List.Sublist.cons _ ?_)) rfl)))
    ((refine Zq ?_; refine Zu ?_; refine Zq ?_; refine Zm ?_; refine Zy ?_; refine Zf T ?_; refine Zy ?_; refine Zl T 0 ?_; refine Zy ?_; refine Zs T ?_))
    (((refine Zy ?_)); (refine q_gtrD (by exact rfl) (by exact rfl) (fun c2 => ?_) (fun c2 => ?_)))
    · ((((refine Zq ?_; refine Zu ?_; refine Zq ?_; refine Zm ?_; refine Zn ?_; refine Zn ?_; refine Zq ?_; refine Zt ?_; refine Seq.done ?_; refine Zc ?_; refine Wp.seq ?_; refine Wp.region ?_)); (((refine Zq ?_)); refine q_call (by exact rfl) (by exact rfl) (awk _) ?_); ((refine Zq ?_; refine Za ?_; refine Seq.done ?_; refine Wp.ret ?_; refine thenR ?_)); (exact ret1 rfl rfl (by repeat (first | exact List.Sublist.refl _ | exact List.nil_sublist _ | refine List.Sublist.cons_cons _ ?_ | refine List.Sublist.cons _ ?_)) rfl)))
    ((refine Zq ?_; refine Zu ?_; refine Zq ?_; refine Zm ?_))
    (((refine Zy ?_)); refine q_call (by exact rfl) (by exact rfl) (awk _) ?_)
    ((refine Zy ?_; refine q_not (by exact rfl) ?_; refine Zq ?_; refine Zu ?_; refine Seq.done ?_; refine Zd ?_; refine Wp.skip ?_; refine thenN ?_; refine Wp.seq ?_; refine Wp.region ?_; refine Zq ?_; refine ZL T 1 ?_; refine Zq ?_; refine ZL T 0 ?_; refine Zq ?_; refine Zm ?_))
    (((refine Zq ?_)); refine q_call (by exact rfl) (by exact rfl) (applicable_q hg0 hs0 hA) ?_)
    ((refine Zq ?_; refine Za ?_; refine Seq.done ?_; refine Wp.seq ?_; refine Wp.region ?_; refine Zq ?_; refine ZL T 1 ?_; refine Zq ?_; refine ZL T 0 ?_; refine Zq ?_; refine Zm ?_))
    refine Seq.stepK (by exact rfl) (k_call [] [_, _] (by exact rfl) (by exact rfl) (by exact rfl) (apply_f hg0 hs0 hA) (fun v fz2 H2 hle2 hR => ?_))
    obtain ⟨rfl, w1, w2, rfl, hN1⟩ := hR
    have hN1' := hN1
    obtain ⟨N1, r1, s1, rfl, _⟩ := hN1'.tru
    obtain ⟨N2, r2, s2, rfl, _⟩ := hN1'.values
    replace hg0 := hg0.mono hle2
    replace hs0 := hs0.mono hle2
    ((refine Zq ?_; refine Zm ?_; refine Zq ?_; refine Ze ?_; refine Zq ?_; refine Ze ?_; refine Seq.stepK (by exact rfl) (k_alloc T (by exact rfl) (by exact rfl) (fun _ => ?_)); refine Seq.stepK0 (k_store0 T (by exact rfl) (by exact rfl) (by exact rfl) (by exact rfl) (by exact rfl) (by exact rfl) ?_); refine Zq ?_; refine Za ?_; refine Seq.done ?_; refine Wp.seq ?_; refine Wp.region ?_; refine Zq ?_; refine ZL T 2 ?_; refine Zq ?_; refine ZL T 1 ?_; refine Zq ?_; refine Zm ?_))
    refine Seq.stepK (by exact rfl) (k_call [] [_, _, _] (by exact rfl) (by exact rfl) (by exact rfl) (rapply_f hg0 hs0 hA) (fun v fz3 H3 hle3 hR => ?_))
    obtain ⟨rfl, y1, y2, rfl, hN2⟩ := hR
    have hN2' := hN2
    obtain ⟨M1, r3, s3, rfl, _⟩ := hN2'.tru
    obtain ⟨M2, r4, s4, rfl, _⟩ := hN2'.values
    replace hg0 := hg0.mono hle3
    replace hs0 := hs0.mono hle3
    replace hN1 := hN1.mono hle3
    ((refine Zq ?_; refine Zm ?_; refine Zq ?_; refine Ze ?_; refine Zq ?_; refine Ze ?_; refine Seq.stepK (by exact rfl) (k_alloc T (by exact rfl) (by exact rfl) (fun _ => ?_)); refine Seq.stepK0 (k_store0 T (by exact rfl) (by exact rfl) (by exact rfl) (by exact rfl) (by exact rfl) (by exact rfl) ?_); refine Zq ?_; refine Za ?_; refine Seq.done ?_; refine Wp.seq ?_; refine Wp.region ?_; refine Zq ?_; refine ZL T 3 ?_))
    (((refine Zq ?_)); refine q_callB (by exact rfl) (by exact rfl) (rvalid_q hg0) (fun f1 => ?_) (fun f1 => ?_))
    · have hv := of_decide_eq_true f1
      ((refine Zq ?_; refine Zm ?_; refine Zy ?_; refine ZL T 3 ?_; refine Zy ?_; refine ZL T 2 ?_))
      (((refine Zy ?_)); refine q_callB (by exact rfl) (by exact rfl) (rproper_q hg0 hs0) (fun f2 => ?_) (fun f2 => ?_))
      · have hp := of_decide_eq_true f2
        ((refine Zq ?_; refine Zt ?_; refine Zq ?_; refine Zm ?_; refine Zy ?_; refine ZL T 3 ?_; refine Zy ?_; refine ZL T 2 ?_))
        (((refine Zy ?_)); refine q_call (by exact rfl) (by exact rfl) (rgoal_q hg0 hs0 hv hp) ?_)
        ((((refine Zq ?_; refine Zt ?_; refine Zq ?_; refine Za ?_; refine Seq.done ?_; refine Wp.seq ?_; refine Wp.region ?_; refine Zq ?_; refine Zm ?_)); (((refine Zq ?_)); refine q_call (by exact rfl) (by exact rfl) num_q ?_); ((refine Zq ?_; refine Zm ?_)); (((refine Zq ?_)); (refine q_eqlD (by exact rfl) (by exact rfl) (fun n1 => ?_) (fun n1 => ?_))); rotate_left 1; (exact absurd rfl n1); ((refine Zq ?_; refine Zm ?_; refine Zy ?_; refine Zm ?_)); (((refine Zy ?_)); refine q_call (by exact rfl) (by exact rfl) num_q ?_); ((refine Zy ?_; refine Zm ?_)); (((refine Zy ?_)); (refine q_eqlD (by exact rfl) (by exact rfl) (fun n2 => ?_) (fun n2 => ?_))); rotate_left 1; (exact absurd rfl n2); ((refine Zq ?_; refine Zt ?_; refine Zq ?_; refine Zm ?_; refine Zy ?_; refine ZL T 1 ?_; refine Zy ?_; refine ZL T 0 ?_)); (((refine Zy ?_)); refine q_callB (by exact rfl) (by exact rfl) (same_q hN1 hN2) (fun f7 => ?_) (fun f7 => ?_)); rotate_left 1; (exact absurd ⟨rfl, rfl⟩ (of_decide_eq_false f7)); ((refine Zq ?_; refine Zt ?_; refine Zq ?_; refine Zm ?_; refine Zy ?_; refine ZL T 3 ?_; refine Zy ?_; refine ZL T 2 ?_)); (((refine Zy ?_)); refine q_call (by exact rfl) (by exact rfl) (goal_q hg0 hs0) ?_); ((refine Zy ?_; refine Zm ?_)); (((refine Zy ?_)); refine q_eql_boolD T (by exact rfl) (by exact rfl) (by exact rfl) (by exact rfl) (fun h8 => ?_) (fun h8 => ?_)); rotate_left 1; (exact absurd (decide_eq_decide.2 ⟨fun h => h.2.2, fun h => ⟨hv, hp, h⟩⟩) h8); ((refine Zq ?_; refine Zt ?_; refine Zq ?_; refine Za ?_; refine Seq.done ?_; refine Wp.ret ?_)); (exact ret1 rfl rfl (by repeat (first | exact List.Sublist.refl _ | exact List.nil_sublist _ | refine List.Sublist.cons_cons _ ?_ | refine List.Sublist.cons _ ?_)) rfl)))
      · ((((refine Zq ?_; refine Zt ?_; refine Zq ?_; refine Zm ?_; refine Zn ?_; refine Zn ?_; refine Zn ?_; refine Zq ?_; refine Zu ?_; refine Zq ?_; refine Za ?_; refine Seq.done ?_; refine Wp.seq ?_; refine Wp.region ?_; refine Zq ?_; refine Zm ?_)); (((refine Zq ?_)); refine q_call (by exact rfl) (by exact rfl) num_q ?_); ((refine Zq ?_; refine Zm ?_)); (((refine Zq ?_)); (refine q_eqlD (by exact rfl) (by exact rfl) (fun n1 => ?_) (fun n1 => ?_))); rotate_left 1; (exact absurd rfl n1); ((refine Zq ?_; refine Zm ?_; refine Zy ?_; refine Zm ?_)); (((refine Zy ?_)); refine q_call (by exact rfl) (by exact rfl) num_q ?_); ((refine Zy ?_; refine Zm ?_)); (((refine Zy ?_)); (refine q_eqlD (by exact rfl) (by exact rfl) (fun n2 => ?_) (fun n2 => ?_))); rotate_left 1; (exact absurd rfl n2); ((refine Zq ?_; refine Zt ?_; refine Zq ?_; refine Zm ?_; refine Zy ?_; refine ZL T 1 ?_; refine Zy ?_; refine ZL T 0 ?_)); (((refine Zy ?_)); refine q_callB (by exact rfl) (by exact rfl) (same_q hN1 hN2) (fun f7 => ?_) (fun f7 => ?_)); rotate_left 1; (exact absurd ⟨rfl, rfl⟩ (of_decide_eq_false f7)); ((refine Zq ?_; refine Zt ?_; refine Zq ?_; refine Zm ?_; refine Zy ?_; refine ZL T 3 ?_; refine Zy ?_; refine ZL T 2 ?_)); (((refine Zy ?_)); refine q_call (by exact rfl) (by exact rfl) (goal_q hg0 hs0) ?_); ((refine Zy ?_; refine Zm ?_)); (((refine Zy ?_)); refine q_eql_boolD T (by exact rfl) (by exact rfl) (by exact rfl) (by exact rfl) (fun h8 => ?_) (fun h8 => ?_)); rotate_left 1; (exact absurd (decide_eq_false (fun h => of_decide_eq_false f2 h.2.1)) h8); ((refine Zq ?_; refine Zt ?_; refine Zq ?_; refine Za ?_; refine Seq.done ?_; refine Wp.ret ?_)); (exact ret1 rfl rfl (by repeat (first | exact List.Sublist.refl _ | exact List.nil_sublist _ | refine List.Sublist.cons_cons _ ?_ | refine List.Sublist.cons _ ?_)) rfl)))
    · ((((refine Zq ?_; refine Zm ?_; refine Zn ?_; refine Zn ?_; refine Zn ?_; refine Zq ?_; refine Zu ?_; refine Zq ?_; refine Zm ?_; refine Zn ?_; refine Zn ?_; refine Zn ?_; refine Zq ?_; refine Zu ?_; refine Zq ?_; refine Za ?_; refine Seq.done ?_; refine Wp.seq ?_; refine Wp.region ?_; refine Zq ?_; refine Zm ?_)); (((refine Zq ?_)); refine q_call (by exact rfl) (by exact rfl) num_q ?_); ((refine Zq ?_; refine Zm ?_)); (((refine Zq ?_)); (refine q_eqlD (by exact rfl) (by exact rfl) (fun n1 => ?_) (fun n1 => ?_))); rotate_left 1; (exact absurd rfl n1); ((refine Zq ?_; refine Zm ?_; refine Zy ?_; refine Zm ?_)); (((refine Zy ?_)); refine q_call (by exact rfl) (by exact rfl) num_q ?_); ((refine Zy ?_; refine Zm ?_)); (((refine Zy ?_)); (refine q_eqlD (by exact rfl) (by exact rfl) (fun n2 => ?_) (fun n2 => ?_))); rotate_left 1; (exact absurd rfl n2); ((refine Zq ?_; refine Zt ?_; refine Zq ?_; refine Zm ?_; refine Zy ?_; refine ZL T 1 ?_; refine Zy ?_; refine ZL T 0 ?_)); (((refine Zy ?_)); refine q_callB (by exact rfl) (by exact rfl) (same_q hN1 hN2) (fun f7 => ?_) (fun f7 => ?_)); rotate_left 1; (exact absurd ⟨rfl, rfl⟩ (of_decide_eq_false f7)); ((refine Zq ?_; refine Zt ?_; refine Zq ?_; refine Zm ?_; refine Zy ?_; refine ZL T 3 ?_; refine Zy ?_; refine ZL T 2 ?_)); (((refine Zy ?_)); refine q_call (by exact rfl) (by exact rfl) (goal_q hg0 hs0) ?_); ((refine Zy ?_; refine Zm ?_)); (((refine Zy ?_)); refine q_eql_boolD T (by exact rfl) (by exact rfl) (by exact rfl) (by exact rfl) (fun h8 => ?_) (fun h8 => ?_)); rotate_left 1; (exact absurd (decide_eq_false (fun h => of_decide_eq_false f1 h.1)) h8); ((refine Zq ?_; refine Zt ?_; refine Zq ?_; refine Za ?_; refine Seq.done ?_; refine Wp.ret ?_)); (exact ret1 rfl rfl (by repeat (first | exact List.Sublist.refl _ | exact List.nil_sublist _ | refine List.Sublist.cons_cons _ ?_ | refine List.Sublist.cons _ ?_)) rfl)))
end Go.Proofs.YtegmololhnipiaaGreatDoor
namespace Go.Lx
open Go.RowKit
abbrev Pend := List (Nat × HP)
abbrev Fl := Nat → Oper → Env → Option (Obj × (Nat → Value))
def putT (d : Option Nat) (v : Value) (τ : Env) : Env := match d with
  | some d => (d, v) :: τ
  | none => τ
def rdg (ops : List Oper) (i : Nat) (o : Oper) (σ ve : Env) : Operand → Option Value
  | .tmp t => match whose ops t 0 with
    | none => lk σ t
    | some j => match waits o j with
      | true => lk ve j
      | false => match ops[j]? with
        | some oj => match waits oj i with
          | true => lk σ t
          | false => none
        | none => none
  | .const v => some v
  | .func f => some (.func (.func f) #[] #[])
  | .global g => some (.pointer (some ⟨g, 0, none⟩))
theorem rdg_ext {ops : List Oper} {i : Nat} {o : Oper} {σ a b : Env} (h : VExt a b) : ∀ x v, rdg ops i o σ a x = some v → rdg ops i o σ b x = some v := by
  intro x v hv
  cases x with
  | tmp t =>
    unfold rdg at hv ⊢
    cases hw : whose ops t 0 with
    | none => simp only [hw] at hv ⊢; exact hv
    | some j =>
      simp only [hw] at hv ⊢
      cases hwt : waits o j with
      | true => simp only [hwt] at hv ⊢; exact h _ _ hv
      | false => simp only [hwt] at hv ⊢; exact hv
  | const c => exact hv
  | global g => exact hv
  | func f => exact hv
def QOkG (P : Program) (cx : Cx) (ops : List Oper) (i : Nat) (o : Oper) (σ ve : Env) (fz : FZ) (H : HP) (v : Value) : Prop :=
  (wantq o ve = some true ∧ Quiet P cx o (rdg ops i o σ ve) fz H v) ∨ (wantq o ve = some false ∧ v = undef)
theorem QOkG.ext {P : Program} {cx : Cx} {σ : Env} {fz : FZ} {H : HP} {ops : List Oper} {i : Nat} {o : Oper} {a b : Env} {v : Value} (h : VExt a b) (hq : QOkG P cx ops i o σ a fz H v) : QOkG P cx ops i o σ b fz H v := by
  rcases hq with ⟨h1, h2⟩ | ⟨h1, h2⟩
  · exact .inl ⟨wantq_ext h h1, fun ρ w hr hi => h2 ρ w (fun x v hx => hr x v (rdg_ext h x v hx)) hi⟩
  · exact .inr ⟨wantq_ext h h1, h2⟩
def num : Nat → List Oper → List (Nat × Oper)
  | _, [] => []
  | i, o :: r => (i, o) :: num (i + 1) r
section
variable (P : Program) (cx : Cx) (l : List Oper) (σ : Env)
def NP (fk : Oper → Bool) (fz : FZ) (H : HP) (K : Env → Env → Pend → List (Nat × Oper) → Prop) : List (Nat × Oper) → Env → Env → Pend → List (Nat × Oper) → Prop
  | [], ve, τ, pend, kept => K ve τ pend kept
  | (i, o) :: r, ve, τ, pend, kept =>
      (fk o = false ∧ ∃ v H0, H0.Sublist H ∧ QOkG P cx l i o σ ve fz H0 v ∧ NP fk fz H K r ((i, v) :: ve) (putT o.dst v τ) ((i, H0) :: pend) kept) ∨
      NP fk fz H K r ve τ pend (kept ++ [(i, o)])
def leftOver (pend : Pend) (o : Oper) : Pend := pend.filter fun q => !waits o q.1
def DoesF (o : Oper) (r : Operand → Option Value) (fz : FZ) (H : HP) (K : Value → FZ → HP → Prop) : Prop :=
  ∀ Hx, Does P cx o r fz (Hx ++ H) fun v fz' H' => ∃ H1, H' = Hx ++ H1 ∧ K v fz' H1
def stuckBy (ve : Env) (fls : List Nat) (o : Oper) : Bool := o.after.toList.any fun e => Region.binds .any e && ((lk ve e.on).isNone && !fls.any (Nat.beq e.on))
inductive Clo (fk : Oper → Bool) (ve : Env) (kept : List (Nat × Oper)) : Nat → Prop where
  | mk (p : Nat × Oper) : p ∈ kept → fk p.2 = true → (∀ e ∈ p.2.after, Region.binds .any e = true → lk ve e.on = none → Clo fk ve kept e.on) → Clo fk ve kept p.1
def plainV : Value → Bool
  | .pointer _ => true
  | .slice _ _ _ => true
  | .map _ => true
  | _ => false
def Early (fk : Oper → Bool) (fl : Fl) (ve : Env) (p : Nat × Oper) : Prop :=
  fk p.2 = true ∧ ∀ ve', VExt ve ve' → (∀ k v, lk ve' k = some v → lk ve k = none → plainV v = true) → (∀ e ∈ p.2.after, Region.binds .any e = true → lk ve' e.on ≠ none) → (fl p.1 p.2 ve').isSome = true
def rm (i : Nat) (kept : List (Nat × Oper)) : List (Nat × Oper) := kept.filter fun p => !Nat.beq p.1 i
def Dr (fk : Oper → Bool) (fl : Fl) (Q : QQ) : Nat → List (Nat × Oper) → Env → Env → Pend → FZ → HP → Prop
  | 0, _, _, _, _, _, _ => False
  | m + 1, rem, ve, τ, pend, fz, H => NP P cx l σ fk fz H (fun ve τ pend kept => (kept = [] ∧ Q .normal τ fz H) ∨
      ((∃ p ∈ kept, fk p.2 = false) ∧ ∃ fls : List Nat, (∀ k, Clo fk ve kept k → k ∈ fls) ∧ ∀ p ∈ kept, (p.1 ∈ fls ∧ Early fk fl ve p) ∨ stuckBy ve fls p.2 = true ∨
        (fk p.2 = false ∧ wantq p.2 ve = some true ∧ DoesF P cx p.2 (rdg l p.1 p.2 σ ve) fz H fun v fz' H' =>
          Le fz fz' ∧ (∀ q ∈ leftOver pend p.2, ∀ b ∈ q.2, b ∈ H') ∧ Dr fk fl Q m (rm p.1 kept) ((p.1, v) :: ve) (putT p.2.dst v τ) (leftOver pend p.2) fz' H')) ∨
      (∃ i o, (i, o) ∈ kept ∧ ∃ obj mk, fl i o ve = some (obj, mk) ∧ ∃ fls : List Nat, (∀ k, Clo fk ve (rm i kept) k → k ∈ fls) ∧ (∀ p ∈ rm i kept, (p.1 ∈ fls ∧ Early fk fl ve p) ∨ stuckBy ve fls p.2 = true) ∧ ∀ g, (∀ p ∈ H, p.1 ≠ g) → Dr fk fl Q m (rm i kept) ((i, mk g) :: ve) (putT o.dst (mk g) τ) pend fz ((g, obj) :: H))) rem ve τ pend []
end
section
variable {P : Program} {cx : Cx} {n : Nat} {σ : Env} {fz : FZ} {H : HP} {Q : QQ} {l : List Oper}
theorem num_mem : ∀ (r : List Oper) (i : Nat) (p : Nat × Oper), p ∈ num i r → i ≤ p.1 ∧ r[p.1 - i]? = some p.2
  | [], _, _, h => by cases h
  | o :: r, i, p, h => by
    cases h with
    | head => simp
    | tail _ h =>
      obtain ⟨h1, h2⟩ := num_mem r (i + 1) p h
      refine ⟨by omega, ?_⟩
      rw [show p.1 - i = (p.1 - (i + 1)) + 1 from by omega]
      simpa using h2
theorem num_all : ∀ (r : List Oper) (i k : Nat) (o : Oper), r[k]? = some o → (i + k, o) ∈ num i r
  | [], _, _, _, h => by simp at h
  | x :: r, i, 0, o, h => by simp at h; subst h; simp [num]
  | x :: r, i, k + 1, o, h => by
    have := num_all r (i + 1) k o (by simpa using h)
    unfold num
    rw [show i + (k + 1) = i + 1 + k from by omega]
    exact List.mem_cons_of_mem _ this
theorem num_nodup : ∀ (r : List Oper) (i : Nat), ((num i r).map Prod.fst).Nodup
  | [], _ => by simp [num]
  | o :: r, i => by
    simp only [num, List.map_cons, List.nodup_cons]
    refine ⟨fun h => ?_, num_nodup r (i + 1)⟩
    obtain ⟨p, hp, he⟩ := List.mem_map.1 h
    have := (num_mem r (i + 1) p hp).1
    omega
structure NPOut (P : Program) (cx : Cx) (l : List Oper) (σ : Env) (fk : Oper → Bool) (fz : FZ) (H : HP) (rem : List (Nat × Oper)) (ve τ : Env) (pend : Pend) (ve' τ' : Env) (pend' : Pend) (sub : List (Nat × Oper)) : Prop where
  ext : VExt ve ve'
  pen : ∀ k ∈ pend, k ∈ pend'
  subl : sub.Sublist rem
  none_ : ∀ p ∈ sub, lk ve' p.1 = none
  val : ∀ p ∈ rem, p ∈ sub ∨ fk p.2 = false ∧ ∃ v, lk ve' p.1 = some v ∧ ∃ H0, H0.Sublist H ∧ QOkG P cx l p.1 p.2 σ ve' fz H0 v ∧ (p.1, H0) ∈ pend'
  new : ∀ k v, lk ve' k = some v → lk ve k = some v ∨ ∃ p ∈ rem, p.1 = k ∧ p ∉ sub
  tau : ∀ s v, lk τ' s = some v → (∃ p ∈ rem, p.2.dst = some s ∧ lk ve' p.1 = some v) ∨ (lk τ s = some v ∧ ∀ p ∈ rem, p ∉ sub → p.2.dst ≠ some s)
theorem NP.out {fk : Oper → Bool} {K : Env → Env → Pend → List (Nat × Oper) → Prop} : ∀ (rem : List (Nat × Oper)) (ve τ : Env) (pend : Pend) (kept : List (Nat × Oper)),
    NP P cx l σ fk fz H K rem ve τ pend kept → (rem.map Prod.fst).Nodup → (∀ p ∈ rem, lk ve p.1 = none) →
    ∃ ve' τ' pend' sub, K ve' τ' pend' (kept ++ sub) ∧ NPOut P cx l σ fk fz H rem ve τ pend ve' τ' pend' sub
  | [], ve, τ, pend, kept, h, _, _ => ⟨ve, τ, pend, [], by simpa [NP] using h, ⟨fun _ _ h => h, fun _ h => h, List.Sublist.refl _, by simp, by simp, fun _ _ h => .inl h, fun _ _ h => .inr ⟨h, by simp⟩⟩⟩
  | (i, o) :: r, ve, τ, pend, kept, h, hnd, hnone => by
    simp only [List.map_cons, List.nodup_cons] at hnd
    have hi : lk ve i = none := hnone (i, o) (by simp)
    have hri : ∀ p ∈ r, p.1 ≠ i := fun p hp he => hnd.1 (List.mem_map.2 ⟨p, hp, he⟩)
    -- a value was found
    have found : fk o = false → ∀ (v : Value) (pend1 : Pend), (∀ k ∈ pend, k ∈ pend1) → (∃ H0, H0.Sublist H ∧ QOkG P cx l i o σ ve fz H0 v ∧ (i, H0) ∈ pend1) →
        NP P cx l σ fk fz H K r ((i, v) :: ve) (putT o.dst v τ) pend1 kept →
        ∃ ve' τ' pend' sub, K ve' τ' pend' (kept ++ sub) ∧ NPOut P cx l σ fk fz H ((i, o) :: r) ve τ pend ve' τ' pend' sub := by
      intro hfl v pend1 hp1 hq hn
      obtain ⟨ve', τ', pend', sub, hK, h1, h2, h3, h4, h5, h6, h7⟩ := NP.out r _ _ _ _ hn hnd.2 (fun p hp => by rw [lk_cons_ne _ _ (fun he => hri p hp he.symm)]; exact hnone p (by simp [hp]))
      have hvi : lk ve' i = some v := h1 i v (lk_cons_same _ _ _)
      have hext : VExt ve ve' := fun k u hk => h1 k u (by
        rw [lk_cons_ne _ _ (fun he => by subst he; rw [hi] at hk; cases hk)]; exact hk)
      have hisub : (i, o) ∉ sub := fun hs => by have := h4 _ hs; simp only at this; rw [hvi] at this; cases this
      refine ⟨ve', τ', pend', sub, hK, ⟨hext, fun k hk => h2 k (hp1 k hk), h3.cons _, h4, fun p hp => ?_, fun k u hk => ?_, fun s u hs => ?_⟩⟩
      · cases hp with
        | head =>
          refine .inr ⟨hfl, v, hvi, ?_⟩
          obtain ⟨H0, hs, hq, hm⟩ := hq
          exact ⟨H0, hs, QOkG.ext hext hq, h2 _ hm⟩
        | tail _ hp => exact h5 p hp
      · rcases h6 k u hk with h8 | ⟨p, hp, he, hns⟩
        · by_cases hki : i = k
          · exact .inr ⟨(i, o), by simp, hki, hisub⟩
          · rw [lk_cons_ne _ _ hki] at h8; exact .inl h8
        · exact .inr ⟨p, by simp [hp], he, hns⟩
      · rcases h7 s u hs with ⟨p, hp, hd, hv⟩ | ⟨hτ, hne⟩
        · exact .inl ⟨p, by simp [hp], hd, hv⟩
        · unfold putT at hτ
          cases hd : o.dst with
          | none =>
            simp only [hd] at hτ
            refine .inr ⟨hτ, fun p hp hns => ?_⟩
            cases hp with
            | head => simp only; rw [hd]; simp
            | tail _ hp => exact hne p hp hns
          | some d =>
            simp only [hd] at hτ
            by_cases hds : d = s
            · subst hds
              rw [lk_cons_same] at hτ
              injection hτ with hτ
              subst hτ
              exact .inl ⟨(i, o), by simp, hd, hvi⟩
            · rw [lk_cons_ne _ _ hds] at hτ
              refine .inr ⟨hτ, fun p hp hns => ?_⟩
              cases hp with
              | head => simp only; rw [hd]; simpa using hds
              | tail _ hp => exact hne p hp hns
    unfold NP at h
    rcases h with ⟨hfl, v, H0, hs, hq, hn⟩ | hn
    · exact found hfl v ((i, H0) :: pend) (fun k hk => by simp [hk]) ⟨H0, hs, hq, by simp⟩ hn
    · obtain ⟨ve', τ', pend', sub, hK, h1, h2, h3, h4, h5, h6, h7⟩ := NP.out r _ _ _ _ hn hnd.2 (fun p hp => hnone p (by simp [hp]))
      refine ⟨ve', τ', pend', (i, o) :: sub, by simpa using hK, ⟨h1, h2, h3.cons_cons _, fun p hp => ?_, fun p hp => ?_, fun k u hk => ?_, fun s u hs => ?_⟩⟩
      · cases hp with
        | head =>
          cases hv : lk ve' i with
          | none => rfl
          | some v =>
            rcases h6 i v hv with h8 | ⟨p, hp, he, _⟩
            · rw [hi] at h8; cases h8
            · exact absurd he (hri p hp)
        | tail _ hp => exact h4 p hp
      · cases hp with
        | head => exact .inl (by simp)
        | tail _ hp =>
          rcases h5 p hp with h8 | h8
          · exact .inl (by simp [h8])
          · exact .inr h8
      · rcases h6 k u hk with h8 | ⟨p, hp, he, hns⟩
        · exact .inl h8
        · refine .inr ⟨p, by simp [hp], he, fun hc => ?_⟩
          cases hc with
          | head => exact hri _ hp rfl
          | tail _ hc => exact hns hc
      · rcases h7 s u hs with ⟨p, hp, hd, hv⟩ | ⟨hτ, hne⟩
        · exact .inl ⟨p, by simp [hp], hd, hv⟩
        · refine .inr ⟨hτ, fun p hp hns => ?_⟩
          cases hp with
          | head => exact absurd (by simp) hns
          | tail _ hp => exact hne p hp (fun hc => hns (by simp [hc]))
def Pd (P : Program) (cx : Cx) (l : List Oper) (σ ve : Env) (pend : Pend) (fz : FZ) (H : HP) (k : Nat) (o : Oper) (v : Value) : Prop :=
  ∃ fz0 H0, (∃ w1, Inv cx fz0 H0 w1) ∧ Keep fz0 H0 fz H ∧ QOkG P cx l k o σ ve fz0 H0 v ∧ (k, H0) ∈ pend
abbrev Ex := List (Nat × (Nat × Obj) × (Nat → Value))
def hx (ex : Ex) : HP := ex.map fun e => e.2.1
def veX : Ex → Env → Env
  | [], ve => ve
  | e :: r, ve => (e.1, e.2.2 e.2.1.1) :: veX r ve
theorem veX_ve {ve : Env} : ∀ {ex : Ex}, (∀ e ∈ ex, lk ve e.1 = none) → VExt ve (veX ex ve)
  | [], _ => fun _ _ h => h
  | e :: r, h => fun k v hk => by
    unfold veX
    rw [lk_cons_ne _ _ (fun he => by have := h e (by simp); rw [he, hk] at this; cases this)]
    exact veX_ve (fun x hx => h x (by simp [hx])) k v hk
theorem veX_cases {ve : Env} : ∀ {ex : Ex} {k : Nat} {v : Value}, lk (veX ex ve) k = some v → (∃ e ∈ ex, e.1 = k ∧ v = e.2.2 e.2.1.1) ∨ lk ve k = some v
  | [], _, _, h => .inr h
  | e :: r, k, v, h => by
    unfold veX at h
    by_cases hek : e.1 = k
    · rw [hek, lk_cons_same] at h
      injection h with h
      exact .inl ⟨e, by simp, hek, h.symm⟩
    · rw [lk_cons_ne _ _ hek] at h
      rcases veX_cases h with ⟨x, hx, h1⟩ | h1
      · exact .inl ⟨x, by simp [hx], h1⟩
      · exact .inr h1
theorem veX_ex {ve : Env} : ∀ {ex : Ex}, (ex.map Prod.fst).Nodup → ∀ e ∈ ex, lk (veX ex ve) e.1 = some (e.2.2 e.2.1.1)
  | [], _, e, h => by cases h
  | x :: r, hn, e, h => by
    simp only [List.map_cons, List.nodup_cons] at hn
    unfold veX
    cases h with
    | head => exact lk_cons_same _ _ _
    | tail _ h =>
      rw [lk_cons_ne _ _ (fun he => hn.1 (List.mem_map.2 ⟨e, h, he.symm⟩))]
      exact veX_ex hn.2 e h
theorem veX_ext {ve ve' : Env} {ex ex' : Ex} (h1 : ∀ k v, lk ve k = some v → lk (veX ex' ve') k = some v) (h2 : ∀ e ∈ ex, lk (veX ex' ve') e.1 = some (e.2.2 e.2.1.1)) : VExt (veX ex ve) (veX ex' ve') := fun k v hk => by
  rcases veX_cases hk with ⟨e, he, hek, hv⟩ | hk
  · rw [hv, ← hek]; exact h2 e he
  · exact h1 k v hk
structure DA (P : Program) (cx : Cx) (n : Nat) (l : List Oper) (σ : Env) (fk : Oper → Bool) (fl : Fl) (ve τ : Env) (pend : Pend) (fz : FZ) (H : HP) (kept : List (Nat × Oper)) (ex : Ex) (listed : Array Bool) (a : Act) (w : World) : Prop where
  inv : Inv cx fz (hx ex ++ H) w
  size : a.tmps.size = n
  defers : a.defers = []
  ls : listed.size = l.length
  old : ∀ s v, lk σ s = some v → (∀ (k : Nat) (o : Oper), l[k]? = some o → o.dst = some s → listed.getD k true = false) → a.tmps[s]? = some v
  dc : ∀ (j : Nat) (o : Oper), l[j]? = some o → listed.getD j true = true → ∀ k, waits o k = true → listed.getD k true = true
  got : ∀ (k : Nat) (o : Oper) (v : Value), l[k]? = some o → lk ve k = some v → (listed.getD k true = true → ∀ d, o.dst = some d → a.tmps[d]? = some v) ∧ (listed.getD k true = false → Pd P cx l σ ve pend fz H k o v)
  nd : (kept.map Prod.fst).Nodup
  kp : ∀ p ∈ kept, l[p.1]? = some p.2 ∧ lk ve p.1 = none ∧ (listed.getD p.1 true = false ∨ ∃ e ∈ ex, e.1 = p.1)
  rest : ∀ k, k < l.length → lk ve k = none → ∃ p ∈ kept, p.1 = k
  exk : ∀ e ∈ ex, ∃ o, (e.1, o) ∈ kept ∧ (fk o = true ∧ fl e.1 o (veX ex ve) = some (e.2.1.2, e.2.2)) ∧ listed.getD e.1 true = true ∧ ∀ d, o.dst = some d → a.tmps[d]? = some (e.2.2 e.2.1.1)
  exn : (ex.map Prod.fst).Nodup
  tau : ∀ s v, lk τ s = some v → (∃ (k : Nat) (o : Oper), l[k]? = some o ∧ o.dst = some s ∧ lk ve k = some v) ∨ (lk σ s = some v ∧ ∀ (k : Nat) (o : Oper), l[k]? = some o → lk ve k ≠ none → o.dst ≠ some s)
theorem Keep.refl (fz : FZ) (H : HP) : Keep fz H fz H := ⟨Le.refl _, fun _ h => h⟩
theorem Keep.trans {a b c : FZ} {x y z : HP} (h : Keep a x b y) (k : Keep b y c z) : Keep a x c z := ⟨h.1.trans k.1, fun p hp => k.2 p (h.2 p hp)⟩
theorem Keep.nil {a b c : FZ} {y z : HP} (h : Keep a [] b y) (k : Le b c) : Keep a [] c z := ⟨h.1.trans k, by simp⟩
theorem Keep.more {a b : FZ} {x y : HP} (z : HP) (h : Keep a x b y) : Keep a x b (z ++ y) := ⟨h.1, fun p hp => List.mem_append.2 (.inr (h.2 p hp))⟩
theorem Pd.more {ve : Env} {pend : Pend} {k : Nat} {o : Oper} {v : Value} {H' : HP} (h : Pd P cx l σ ve pend fz H k o v) (hk : Keep fz H fz H') : Pd P cx l σ ve pend fz H' k o v := by
  obtain ⟨fz0, H0, h1, h2, h3⟩ := h
  exact ⟨fz0, H0, h1, h2.trans hk, h3⟩
theorem DA.step {fk : Oper → Bool} {fl : Fl} {ve τ : Env} {pend : Pend} {kept r : List (Nat × Oper)} {ex : Ex} {listed : Array Bool} {a : Act} {w : World} {i : Nat} {o : Oper} {e : Nat × (Nat × Obj) × (Nat → Value)} (hfm : ∀ i o a b x, VExt a b → fl i o a = some x → fl i o b = some x) (d : DA P cx n l σ fk fl ve τ pend fz H kept ex listed a w)
    (hp : kept.Perm ((i, o) :: r)) (he : e ∈ ex) (hei : e.1 = i) :
    ∃ ex', DA P cx n l σ fk fl ((i, e.2.2 e.2.1.1) :: ve) (putT o.dst (e.2.2 e.2.1.1) τ) pend fz ((e.2.1.1, e.2.1.2) :: H) r ex' listed a w := by
  have hmem : (i, o) ∈ kept := hp.symm.subset (by simp)
  obtain ⟨hio, hvi, _⟩ := d.kp _ hmem
  simp only at hio hvi
  have hnd : (((i, o) :: r).map Prod.fst).Nodup := (hp.map _).nodup d.nd
  simp only [List.map_cons, List.nodup_cons] at hnd
  have hrne : ∀ x ∈ r, x.1 ≠ i := fun x hx he => hnd.1 (List.mem_map.2 ⟨x, hx, he⟩)
  have hext : VExt ve ((i, e.2.2 e.2.1.1) :: ve) := fun k u hk => by
    rw [lk_cons_ne _ _ (fun he => by subst he; rw [hvi] at hk; cases hk)]; exact hk
  obtain ⟨s1, s2, hs⟩ := List.append_of_mem he
  have hexn := d.exn
  subst hs
  simp only [List.map_append, List.map_cons] at hexn
  rw [List.nodup_append] at hexn
  obtain ⟨hn1, hn2, hn3⟩ := hexn
  simp only [List.nodup_cons] at hn2
  have hinv : Inv cx fz (hx (s1 ++ s2) ++ (e.2.1.1, e.2.1.2) :: H) w := by
    refine d.inv.perm ?_
    simp only [hx, List.map_append, List.map_cons, List.append_assoc, List.cons_append]
    refine List.Perm.append_left _ ?_
    exact List.perm_middle
  obtain ⟨oe, ho1, ho2, ho3, ho4⟩ := d.exk e (by simp)
  have hoe : oe = o := by
    have h1 := (d.kp _ ho1).1
    simp only at h1
    rw [hei, hio] at h1
    injection h1 with h1
    exact h1.symm
  subst hoe
  have hn4 : ((s1 ++ s2).map Prod.fst).Nodup := by
    simp only [List.map_append]
    rw [List.nodup_append]
    exact ⟨hn1, hn2.2, fun x hx y hy => hn3 x hx y (by simp only [List.mem_cons]; exact .inr hy)⟩
  have hexne : ∀ x ∈ s1 ++ s2, x.1 ≠ i := by
    intro x hx hc
    rw [← hei] at hc
    rcases List.mem_append.1 hx with h | h
    · exact hn3 x.1 (List.mem_map.2 ⟨x, h, rfl⟩) e.1 (by simp) hc
    · exact hn2.1 (List.mem_map.2 ⟨x, h, hc⟩)
  have hX : VExt (veX (s1 ++ e :: s2) ve) (veX (s1 ++ s2) ((i, e.2.2 e.2.1.1) :: ve)) := by
    have hnone : ∀ x ∈ s1 ++ s2, lk ((i, e.2.2 e.2.1.1) :: ve) x.1 = none := fun x hx => by
      rw [lk_cons_ne _ _ (fun he => hexne x hx he.symm)]
      obtain ⟨ox, h1, _⟩ := d.exk x (by rcases List.mem_append.1 hx with h | h <;> simp [h])
      exact (d.kp _ h1).2.1
    refine veX_ext (fun k v hk => veX_ve hnone k v (hext k v hk)) fun x hx => ?_
    by_cases hxi : x.1 = i
    · have hxe : x = e := by
        simp only [List.mem_append, List.mem_cons] at hx
        rcases hx with hx | hx | hx
        · exact absurd hxi (hexne x (by simp [hx]))
        · exact hx
        · exact absurd hxi (hexne x (by simp [hx]))
      rw [hxe, hei]
      exact veX_ve hnone _ _ (lk_cons_same _ _ _)
    · refine veX_ex hn4 x ?_
      simp only [List.mem_append, List.mem_cons] at hx
      rcases hx with hx | hx | hx
      · simp [hx]
      · exact absurd (hx ▸ hei) hxi
      · simp [hx]
  refine ⟨s1 ++ s2, ⟨hinv, d.size, d.defers, d.ls, d.old, d.dc, fun k ok v hk hv => ?_, hnd.2, fun x hx => ?_, fun k hk hn => ?_, fun x hx => ?_, ?_, fun s u hsu => ?_⟩⟩
  · by_cases hki : i = k
    · subst hki
      rw [hio] at hk; injection hk with hk; subst hk
      rw [lk_cons_same] at hv; injection hv with hv; subst hv
      exact ⟨fun _ s hd => ho4 s hd, fun hc => by rw [hei, hc] at ho3; cases ho3⟩
    · rw [lk_cons_ne _ _ hki] at hv
      obtain ⟨h1, h2⟩ := d.got k ok v hk hv
      refine ⟨h1, fun hl => ?_⟩
      obtain ⟨fz0, H0, h3, h4, h5, h6⟩ := h2 hl
      exact ⟨fz0, H0, h3, ⟨h4.1, fun p hp => by simp [h4.2 p hp]⟩, QOkG.ext hext h5, h6⟩
  · obtain ⟨h1, h2, h3⟩ := d.kp x (hp.symm.subset (by simp [hx]))
    refine ⟨h1, by rw [lk_cons_ne _ _ (fun he => hrne x hx he.symm)]; exact h2, h3.imp id fun ⟨y, hy, hyx⟩ => ⟨y, ?_, hyx⟩⟩
    simp only [List.mem_append, List.mem_cons] at hy
    rcases hy with hy | hy | hy
    · simp [hy]
    · subst hy; exact absurd (hyx.symm.trans hei) (hrne x hx)
    · simp [hy]
  · by_cases hki : i = k
    · subst hki; rw [lk_cons_same] at hn; cases hn
    · rw [lk_cons_ne _ _ hki] at hn
      obtain ⟨x, hx, hxk⟩ := d.rest k hk hn
      have := hp.subset hx
      cases this with
      | head => exact absurd hxk hki
      | tail _ hx => exact ⟨x, hx, hxk⟩
  · have hxe : x ∈ s1 ++ e :: s2 := by
      rcases List.mem_append.1 hx with h | h <;> simp [h]
    obtain ⟨ox, h1, h2, h3, h4⟩ := d.exk x hxe
    refine ⟨ox, ?_, ⟨h2.1, hfm _ _ _ _ _ hX h2.2⟩, h3, h4⟩
    have := hp.subset h1
    have hne : x.1 ≠ i := by
      intro hc
      rw [← hei] at hc
      rcases List.mem_append.1 hx with h | h
      · exact hn3 x.1 (List.mem_map.2 ⟨x, h, rfl⟩) e.1 (by simp) hc
      · exact hn2.1 (List.mem_map.2 ⟨x, h, hc⟩)
    cases this with
    | head => exact absurd rfl hne
    | tail _ hx => exact hx
  · exact hn4
  · have hstep : ∀ (hτ : lk τ s = some u) (hne : oe.dst ≠ some s), (∃ (k : Nat) (o : Oper), l[k]? = some o ∧ o.dst = some s ∧ lk ((i, e.2.2 e.2.1.1) :: ve) k = some u) ∨ (lk σ s = some u ∧ ∀ (k : Nat) (o : Oper), l[k]? = some o → lk ((i, e.2.2 e.2.1.1) :: ve) k ≠ none → o.dst ≠ some s) := by
      intro hτ hne
      rcases d.tau s u hτ with ⟨k, o, h1, h2, h3⟩ | ⟨h1, h2⟩
      · exact .inl ⟨k, o, h1, h2, hext k u h3⟩
      · refine .inr ⟨h1, fun k o hk hnn => ?_⟩
        by_cases hki : i = k
        · subst hki; rw [hio] at hk; injection hk with hk; subst hk; exact hne
        · rw [lk_cons_ne _ _ hki] at hnn; exact h2 k o hk hnn
    unfold putT at hsu
    cases hd : oe.dst with
    | none => simp only [hd] at hsu; exact hstep hsu (by rw [hd]; simp)
    | some dd =>
      simp only [hd] at hsu
      by_cases hds : dd = s
      · subst hds
        rw [lk_cons_same] at hsu
        injection hsu with hsu
        subst hsu
        exact .inl ⟨i, oe, hio, hd, lk_cons_same _ _ _⟩
      · rw [lk_cons_ne _ _ hds] at hsu
        exact hstep hsu (by rw [hd]; simpa using hds)
theorem rm_perm {i : Nat} {o : Oper} : ∀ {kept : List (Nat × Oper)}, (kept.map Prod.fst).Nodup → (i, o) ∈ kept → kept.Perm ((i, o) :: rm i kept)
  | [], _, h => by cases h
  | (j, x) :: r, hnd, h => by
    simp only [List.map_cons, List.nodup_cons] at hnd
    by_cases hji : j = i
    · subst hji
      have hx : x = o := by
        cases h with
        | head => rfl
        | tail _ h => exact absurd (List.mem_map.2 ⟨_, h, rfl⟩) hnd.1
      subst hx
      have : rm j ((j, x) :: r) = r := by
        unfold rm
        rw [List.filter_cons_of_neg (by simp)]
        refine List.filter_eq_self.2 fun p hp => ?_
        simp only [Bool.not_eq_true']
        cases hb : Nat.beq p.1 j with
        | false => rfl
        | true => exact absurd (List.mem_map.2 ⟨p, hp, Nat.eq_of_beq_eq_true hb⟩) hnd.1
      rw [this]
    · have h' : (i, o) ∈ r := by
        cases h with
        | head => exact absurd rfl hji
        | tail _ h => exact h
      have : rm i ((j, x) :: r) = (j, x) :: rm i r := by
        unfold rm
        rw [List.filter_cons_of_pos]
        simp only [Bool.not_eq_true']
        cases hb : Nat.beq j i with
        | false => rfl
        | true => exact absurd (Nat.eq_of_beq_eq_true hb) hji
      rw [this]
      exact ((rm_perm hnd.2 h').cons _).trans (List.Perm.swap ..)
def SL (P : Program) (cx : Cx) (l : List Oper) (σ : Env) (fk : Oper → Bool) (fl : Fl) (Q : QQ) (m : Nat) (ve τ : Env) (pend : Pend) (fz : FZ) (H : HP) (kept : List (Nat × Oper)) (listed : Array Bool) : Prop :=
  (kept = [] ∧ Q .normal τ fz H) ∨
      ((∃ p ∈ kept, fk p.2 = false) ∧ ∃ fls : List Nat, (∀ k, Clo fk ve kept k → k ∈ fls) ∧ ∀ p ∈ kept, (p.1 ∈ fls ∧ Early fk fl ve p) ∨ stuckBy ve fls p.2 = true ∨
        (fk p.2 = false ∧ wantq p.2 ve = some true ∧ DoesF P cx p.2 (rdg l p.1 p.2 σ ve) fz H fun v fz' H' =>
          Le fz fz' ∧ (∀ q ∈ leftOver pend p.2, ∀ b ∈ q.2, b ∈ H') ∧ Dr P cx l σ fk fl Q m (rm p.1 kept) ((p.1, v) :: ve) (putT p.2.dst v τ) (leftOver pend p.2) fz' H')) ∨
      (∃ i o, (i, o) ∈ kept ∧ listed.getD i true = false ∧ ∃ obj mk, fl i o ve = some (obj, mk) ∧ ∃ fls : List Nat, (∀ k, Clo fk ve (rm i kept) k → k ∈ fls) ∧ (∀ p ∈ rm i kept, (p.1 ∈ fls ∧ Early fk fl ve p) ∨ stuckBy ve fls p.2 = true) ∧ ∀ g, (∀ p ∈ H, p.1 ≠ g) → Dr P cx l σ fk fl Q m (rm i kept) ((i, mk g) :: ve) (putT o.dst (mk g) τ) pend fz ((g, obj) :: H))
theorem Dr.enter {fk : Oper → Bool} {fl : Fl} (hfm : ∀ i o a b x, VExt a b → fl i o a = some x → fl i o b = some x) {listed : Array Bool} {a : Act} {w : World} : ∀ {m : Nat} {rem : List (Nat × Oper)} {ve τ : Env} {pend : Pend} {H : HP} {ex : Ex}, Dr P cx l σ fk fl Q m rem ve τ pend fz H → DA P cx n l σ fk fl ve τ pend fz H rem ex listed a w →
    ∃ m' ve' τ' pend' H' kept ex', SL P cx l σ fk fl Q m' ve' τ' pend' fz H' kept listed ∧ DA P cx n l σ fk fl ve' τ' pend' fz H' kept ex' listed a w
  | 0, _, _, _, _, _, _, h, _ => h.elim
  | m + 1, rem, ve, τ, pend, H, ex, h, d => by
    unfold Dr at h
    obtain ⟨ve', τ', pend', sub, hK, o⟩ := NP.out rem ve τ pend [] h d.nd (fun p hp => (d.kp p hp).2.1)
    simp only [List.nil_append] at hK
    -- floats that have run stay among the kept only if the walk kept them
    by_cases hex : ∀ e ∈ ex, ∀ p ∈ rem, p.1 = e.1 → p ∈ sub
    · have d' : DA P cx n l σ fk fl ve' τ' pend' fz H sub ex listed a w := by
        refine ⟨d.inv, d.size, d.defers, d.ls, d.old, d.dc, fun k ok v hk hv => ?_, (o.subl.map _).nodup d.nd, fun p hp => ?_, fun k hk hn => ?_, fun e he => ?_, d.exn, fun s v hs => ?_⟩
        · rcases o.new k v hv with h1 | ⟨p, hp, he, hns⟩
          · obtain ⟨g1, g2⟩ := d.got k ok v hk h1
            refine ⟨g1, fun hl => ?_⟩
            obtain ⟨fz0, H0, hw, hkp, hq, hm⟩ := g2 hl
            exact ⟨fz0, H0, hw, hkp, QOkG.ext o.ext hq, o.pen _ hm⟩
          · obtain ⟨h2, h3, h4⟩ := d.kp p hp
            rw [he, hk] at h2
            injection h2 with h2
            have h4' : listed.getD k true = false := by
              rcases h4 with h4 | ⟨e, hee, hep⟩
              · rw [← he]; exact h4
              · exact absurd (hex e hee p hp hep.symm) hns
            refine ⟨fun hl => (by rw [hl] at h4'; cases h4'), fun _ => ?_⟩
            rcases o.val p hp with h5 | ⟨_, u, hu, h5⟩
            · exact absurd h5 hns
            · rw [he, hv] at hu
              injection hu with hu
              subst hu
              rw [← h2, he] at h5
              have hi0 : Inv cx fz H w := d.inv.forget (List.sublist_append_right _ _)
              obtain ⟨H0, hs, h5, h6⟩ := h5
              exact ⟨fz, H0, ⟨w, hi0.forget hs⟩, ⟨Le.refl _, fun p hp => hs.subset hp⟩, h5, h6⟩
        · obtain ⟨h1, h2, h3⟩ := d.kp p (o.subl.subset hp)
          exact ⟨h1, o.none_ p hp, h3⟩
        · have h1 : lk ve k = none := by
            cases hc : lk ve k with
            | none => rfl
            | some v => rw [o.ext k v hc] at hn; cases hn
          obtain ⟨p, hp, he⟩ := d.rest k hk h1
          rcases o.val p hp with h2 | ⟨_, u, hu, _⟩
          · exact ⟨p, h2, he⟩
          · rw [he, hn] at hu; cases hu
        · obtain ⟨oe, h1, h2, h3, h4⟩ := d.exk e he
          refine ⟨oe, hex e he _ h1 rfl, ⟨h2.1, hfm _ _ _ _ _ ?_ h2.2⟩, h3, h4⟩
          have hnone : ∀ x ∈ ex, lk ve' x.1 = none := fun x hx => by
            obtain ⟨ox, g1, _⟩ := d.exk x hx
            exact o.none_ _ (hex x hx _ g1 rfl)
          exact veX_ext (fun k v hk => veX_ve hnone k v (o.ext k v hk)) (fun x hx => veX_ex d.exn x hx)
        · rcases o.tau s v hs with ⟨p, hp, hd, hv⟩ | ⟨hτ, hne⟩
          · exact .inl ⟨p.1, p.2, (d.kp p hp).1, hd, hv⟩
          · rcases d.tau s v hτ with ⟨k, ok, h1, h2, h3⟩ | ⟨h1, h2⟩
            · exact .inl ⟨k, ok, h1, h2, o.ext k v h3⟩
            · refine .inr ⟨h1, fun k ok hk hnn hd => ?_⟩
              cases hc : lk ve' k with
              | none => exact hnn hc
              | some u =>
                rcases o.new k u hc with h3 | ⟨p, hp, he, hns⟩
                · exact h2 k ok hk (by rw [h3]; simp) hd
                · have h4 := (d.kp p hp).1
                  rw [he, hk] at h4
                  injection h4 with h4
                  exact hne p hp hns (by rw [← h4]; exact hd)
      rcases hK with ⟨h1, h2⟩ | hE | ⟨i, oi, hp, obj, mk, hfl, fls, hcl, hr, hg⟩
      · exact ⟨m, ve', τ', pend', H, sub, ex, .inl ⟨h1, h2⟩, d'⟩
      · exact ⟨m, ve', τ', pend', H, sub, ex, .inr (.inl hE), d'⟩
      · obtain ⟨h1, _, h3⟩ := d'.kp (i, oi) hp
        rcases h3 with h3 | ⟨e, he, hei⟩
        · exact ⟨m, ve', τ', pend', H, sub, ex, .inr (.inr ⟨i, oi, hp, h3, obj, mk, hfl, fls, hcl, hr, hg⟩), d'⟩
        · obtain ⟨oe, g1, g2, _, _⟩ := d'.exk e he
          have := (d'.kp _ g1).1
          simp only at this hei h1
          rw [hei, h1] at this
          injection this with this
          subst this
          have hnone : ∀ x ∈ ex, lk ve' x.1 = none := fun x hx => by
            obtain ⟨ox, g1, _⟩ := d'.exk x hx
            exact (d'.kp _ g1).2.1
          have g2 := g2.2
          rw [hei, hfm _ _ _ _ _ (veX_ve hnone) hfl] at g2
          injection g2 with g2
          injection g2 with g2 g3
          subst g2
          subst g3
          obtain ⟨ex', d''⟩ := d'.step hfm (rm_perm d'.nd hp) he hei
          have hne : ∀ p ∈ H, p.1 ≠ e.2.1.1 := fun p hp hc => by
            have hnd := d'.inv.hp.nd
            rw [List.map_append, List.nodup_append] at hnd
            exact hnd.2.2 e.2.1.1 (List.mem_map.2 ⟨e.2.1, List.mem_map.2 ⟨e, he, rfl⟩, rfl⟩) p.1 (List.mem_map.2 ⟨p, hp, rfl⟩) hc.symm
          exact Dr.enter hfm (hg e.2.1.1 hne) d''
    · exfalso
      simp only [Classical.not_forall] at hex
      obtain ⟨e, he, p, hp, hpe, hns⟩ := hex
      rcases o.val p hp with h5 | ⟨hfl, _⟩
      · exact hns h5
      · obtain ⟨oe, g1, g2, _, _⟩ := d.exk e he
        have h1 := (d.kp _ g1).1
        have h2 := (d.kp p hp).1
        simp only at h1
        rw [hpe, h1] at h2
        injection h2 with h2
        rw [h2] at g2
        rw [hfl] at g2
        exact absurd g2.1 (by simp)
theorem Wp.drawG {fk : Oper → Bool} {fl : Fl} {id m : Nat} (hm : P.follows .mixedOrders = true) (hB : okFrom n l 0 [] = true) (hG : guardsOk l = true)
    (hfm : ∀ i o a b x, VExt a b → fl i o a = some x → fl i o b = some x)
    (hfl : ∀ i o ve obj mk, fl i o ve = some (obj, mk) → o.guard = none ∧ ∀ ρ w, Reads (rdg l i o σ ve) ρ → (execOp ρ o).run P w = .ok (.value (mk w.heap.size)) (w.alloc obj))
    (hone : ∀ i o ve obj mk, fl i o ve = some (obj, mk) → ∀ g, plainV (mk g) = true)
    (h : Dr P cx l σ fk fl Q m (num 0 l) [] σ [] fz H) : Wp P cx n (.region id l.toArray true) σ fz H Q := by
  refine Wp.of fun a w hs hi => ?_
  have hedge := okFrom_edges (n := n) l 0 [] hB
  have hdst := okFrom_dst (n := n) l 0 [] hB
  simp only [Nat.zero_add] at hedge
  have hops : ∀ k : Nat, (l.toArray)[k]? = l[k]? := fun k => by simp
  let A : Array Bool → Act → World → Prop := fun listed a w => ∃ m ve τ pend fz H kept ex, SL P cx l σ fk fl Q m ve τ pend fz H kept listed ∧ DA P cx n l σ fk fl ve τ pend fz H kept ex listed a w
  have hall : ∀ (listed : Array Bool), listed.size = l.length → Region.ready .any l.toArray listed = [] → ∀ k, k < l.length → listed.getD k true = true := by
    intro listed hsz hr k
    induction k using Nat.strongRecOn with
    | _ k ih =>
      intro hk
      cases hl : listed.getD k true with
      | true => rfl
      | false =>
        exfalso
        have hmem : k ∈ Region.ready .any l.toArray listed := by
          unfold Region.ready
          simp only [List.mem_filter, List.mem_range, List.size_toArray, hk, true_and, hl, Bool.not_false, Bool.true_and]
          rw [hops k, List.getElem?_eq_getElem hk]
          simp only [Option.map_some, Option.getD_some, Array.all_eq_true_iff_forall_mem]
          intro e he
          cases hb : Region.binds .any e with
          | false => rfl
          | true =>
            have h1 := hedge k l[k] (List.getElem?_eq_getElem hk) e he hb
            have h2 := ih e.on (by omega) (by omega)
            have h3 : e.on < listed.size := by omega
            simp only [Bool.not_true, Bool.false_or]
            simpa [Array.getD, h3] using h2
        rw [hr] at hmem
        cases hmem
  have hfin : ∀ listed a w, A listed a w → Region.ready .any l.toArray listed = [] → lift cx n Q .normal a w := by
    rintro listed a w ⟨m, ve, τ, pend, fz, H, kept, ex, hS, d⟩ hr
    rcases hS with ⟨hk, hQ⟩ | ⟨⟨p, hp, hpf⟩, _⟩ | ⟨i, o, hp, hl, _⟩
    · subst hk
      have hsome : ∀ k, k < l.length → lk ve k ≠ none := fun k hk hn => by obtain ⟨p, hp, _⟩ := d.rest k hk hn; cases hp
      refine ⟨τ, fz, H, ⟨d.size, d.defers, fun s v hsv => ?_⟩, d.inv.forget (List.sublist_append_right _ _), hQ⟩
      rcases d.tau s v hsv with ⟨k, o, hk, hd, hv⟩ | ⟨hv, hn⟩
      · exact (d.got k o v hk hv).1 (hall listed d.ls hr k (List.getElem?_eq_some_iff.1 hk).1) s hd
      · exact d.old s v hv fun k o hk hd => absurd hd (hn k o hk (hsome k (List.getElem?_eq_some_iff.1 hk).1))
    · obtain ⟨h1, _, h3⟩ := d.kp p hp
      have h4 := hall listed d.ls hr p.1 (List.getElem?_eq_some_iff.1 h1).1
      rcases h3 with h3 | ⟨e, he, hei⟩
      · rw [h3] at h4; cases h4
      · obtain ⟨oe, g1, g2, _, _⟩ := d.exk e he
        have := (d.kp _ g1).1
        simp only at this
        rw [hei, h1] at this
        injection this with this
        rw [← this, hpf] at g2
        exact absurd g2.1 (by simp)
    · have h1 := (d.kp (i, o) hp).1
      have := hall listed d.ls hr i (List.getElem?_eq_some_iff.1 h1).1
      rw [hl] at this; cases this
  have main : ∀ (fuel : Nat) (listed : Array Bool) (a : Act) (w : World), (List.range l.length).countP (fun i => !listed.getD i true) ≤ fuel → A listed a w → wpAny P .any l.toArray (lift cx n Q) fuel listed a w := by
    intro fuel
    induction fuel with
    | zero =>
      intro listed a w hc hA
      have hr : Region.ready .any l.toArray listed = [] := by
        unfold Region.ready
        rw [List.filter_eq_nil_iff]
        intro k hk
        have : (List.range l.length).countP (fun i => !listed.getD i true) = 0 := by omega
        rw [List.countP_eq_zero] at this
        have := this k (by simpa using hk)
        simp only [Bool.not_eq_true, Bool.not_eq_false'] at this
        simp only [this]; simp
      exact ⟨hr, hfin listed a w hA hr⟩
    | succ fuel ih =>
      intro listed a w hc hA
      refine ⟨fun hr => hfin listed a w hA hr, fun i hir => ?_⟩
      obtain ⟨m, ve, τ, pend, fz, H, kept, ex, hS, d⟩ := hA
      unfold Region.ready at hir
      simp only [List.mem_filter, List.mem_range, List.size_toArray, Bool.and_eq_true, Bool.not_eq_true'] at hir
      obtain ⟨hil, hun, hrdy⟩ := hir
      have hio : l[i]? = some l[i] := List.getElem?_eq_getElem hil
      rw [hops i, hio] at hrdy
      simp only [Option.map_some, Option.getD_some, Array.all_eq_true_iff_forall_mem] at hrdy
      have hls := d.ls
      have hilt : i < listed.size := by omega
      have hdone1 : ∀ e ∈ l[i].after, Region.binds .any e = true → listed.getD e.on true = true ∧ e.on < l.length := by
        intro e he hb
        have h1 := hrdy e he
        rw [hb] at h1
        have h3 := hedge i l[i] hio e he hb
        simp only [Bool.not_true, Bool.false_or] at h1
        have h5 : e.on < listed.size := by omega
        exact ⟨by simpa [Array.getD, h5] using h1, by omega⟩
      have hdone : ∀ j, waits l[i] j = true → listed.getD j true = true ∧ j < l.length := by
        intro j hj
        unfold waits at hj
        obtain ⟨e, he, hej⟩ := List.any_eq_true.1 hj
        simp only [Bool.and_eq_true] at hej
        have h2 : e.on = j := Nat.eq_of_beq_eq_true hej.1
        subst h2
        exact hdone1 e (by simpa using he) hej.2
      have hother : ∀ k, k ≠ i → (listed.setIfInBounds i true).getD k true = listed.getD k true := by
        intro k hk
        simp only [Array.getD_eq_getD_getElem?]
        rw [Array.getElem?_setIfInBounds_ne (by omega)]
      have hsame : (listed.setIfInBounds i true).getD i true = true := by simp [Array.getD, hilt]
      have hmono : ∀ k, listed.getD k true = true → (listed.setIfInBounds i true).getD k true = true := by
        intro k hk
        by_cases he : k = i
        · subst he; exact hsame
        · rw [hother k he]; exact hk
      have hcount : (List.range l.length).countP (fun j => !(listed.setIfInBounds i true).getD j true) ≤ fuel := by
        have := countP_lt (p := fun j => !listed.getD j true) (q := fun j => !(listed.setIfInBounds i true).getD j true) (List.range l.length) i (by simpa using hil) (fun j hj => by
          by_cases hji : j = i
          · subst hji; rw [hsame] at hj; cases hj
          · rw [hother j hji] at hj; exact hj) (by simp only [hun, Bool.not_false]) (by rw [hsame]; rfl)
        omega
      have putOther : ∀ (v : Value) (s : Nat) (u : Value), a.tmps[s]? = some u → l[i].dst ≠ some s → (a.put l[i].dst v).tmps[s]? = some u := by
        intro v s u hu hne
        cases hd : l[i].dst with
        | none => exact hu
        | some d =>
          have : d ≠ s := fun he => hne (by rw [hd, he])
          simp only [Act.put]
          rw [Array.getElem?_setIfInBounds_ne this]
          exact hu
      have putSame : ∀ (v : Value) (s : Nat), l[i].dst = some s → (a.put l[i].dst v).tmps[s]? = some v := by
        intro v s hd
        rw [hd]
        simp [Act.put, d.size, (hdst i _ s hio hd).1]
      have putSize : ∀ v, (a.put l[i].dst v).tmps.size = n := by intro v; cases hd : l[i].dst <;> simp [Act.put, d.size]
      have putDef : ∀ v, (a.put l[i].dst v).defers = [] := by intro v; cases hd : l[i].dst <;> simp [Act.put, d.defers]
      have dstNe : ∀ (k : Nat) (o : Oper) (s : Nat), l[k]? = some o → o.dst = some s → k ≠ i → l[i].dst ≠ some s := fun k o s hk hd hki hc => hki ((hdst i _ s hio hc).2.2 k o hk hd)
      have hnoneX : ∀ x ∈ ex, lk ve x.1 = none := fun x hx => by
        obtain ⟨ox, g1, _⟩ := d.exk x hx
        exact (d.kp _ g1).2.1
      have hreadsX : Reads (rdg l i l[i] σ (veX ex ve)) a.eval := by
        intro x u hx
        cases x with
        | tmp t =>
          unfold rdg at hx
          cases hw : whose l t 0 with
          | none =>
            simp only [hw] at hx
            have := d.old t u hx (fun k o hk hd => absurd hd (whose_none l t 0 hw k o hk))
            simp [Act.eval, this]
          | some j =>
            simp only [hw] at hx
            cases hwt : waits l[i] j with
            | false =>
              simp only [hwt] at hx
              obtain ⟨k, o, rfl, hk, hd⟩ := whose_some l t 0 j hw
              simp only [Nat.zero_add] at *
              simp only [hk] at hx
              cases hwj : waits o i with
              | false => simp [hwj] at hx
              | true =>
                simp only [hwj] at hx
                have hkl : listed.getD k true = false := by
                  cases hkl : listed.getD k true with
                  | false => rfl
                  | true => have := d.dc k o hk hkl i hwj; rw [hun] at this; cases this
                have := d.old t u hx (fun k' o' hk' hd' => by
                  have := (hdst k o t hk hd).2.2 k' o' hk' hd'
                  rw [this]; exact hkl)
                simp [Act.eval, this]
            | true =>
              simp only [hwt] at hx
              obtain ⟨k, o, rfl, hk, hd⟩ := whose_some l t 0 j hw
              simp only [Nat.zero_add] at *
              rcases veX_cases hx with ⟨e, he, hek, hv⟩ | hx
              · obtain ⟨oe, g1, _, _, g4⟩ := d.exk e he
                have h5 := (d.kp _ g1).1
                simp only at h5
                rw [hek, hk] at h5
                injection h5 with h5
                subst h5
                have := g4 t hd
                rw [← hv] at this
                simp [Act.eval, this]
              · have := (d.got k o u hk hx).1 (hdone k hwt).1 t hd
                simp [Act.eval, this]
        | const c => injection hx
        | global g => injection hx
        | func f => injection hx
      have hreads : Reads (rdg l i l[i] σ ve) a.eval := fun x v hx => hreadsX x v (rdg_ext (veX_ve hnoneX) x v hx)
      have hdc : ∀ (j : Nat) (o : Oper), l[j]? = some o → (listed.setIfInBounds i true).getD j true = true → ∀ k, waits o k = true → (listed.setIfInBounds i true).getD k true = true := by
        intro j o hj hjl k hk
        by_cases hji : j = i
        · subst hji
          rw [hio] at hj; injection hj with hj; subst hj
          exact hmono k (hdone k hk).1
        · rw [hother j hji] at hjl
          exact hmono k (d.dc j o hj hjl k hk)
      have hold : ∀ (v : Value) s u, lk σ s = some u → (∀ (k : Nat) (o : Oper), l[k]? = some o → o.dst = some s → (listed.setIfInBounds i true).getD k true = false) → (a.put l[i].dst v).tmps[s]? = some u := by
        intro v s u hsu hn
        refine putOther v s u (d.old s u hsu fun k o hk hd => ?_) (fun hd => ?_)
        · have := hn k o hk hd
          cases hkl : listed.getD k true with
          | false => rfl
          | true => rw [hmono k hkl] at this; cases this
        · have := hn i _ hio hd
          rw [hsame] at this; cases this
      -- one that is stuck cannot be this one
      have hstuck : ∀ (o : Oper) (fls : List Nat), o = l[i] → (∀ p ∈ kept, p.1 ∉ fls → listed.getD p.1 true = false) → stuckBy ve fls o = true → False := by
        intro o fls ho hfls hb
        subst ho
        obtain ⟨e, he, hej⟩ := List.any_eq_true.1 hb
        simp only [Bool.and_eq_true, Option.isNone_iff_eq_none, Bool.not_eq_true'] at hej
        obtain ⟨h1, h2⟩ := hdone1 e (by simpa using he) hej.1
        obtain ⟨x, hx, hxe⟩ := d.rest e.on h2 hej.2.1
        have h3 := hfls x hx (fun hc => by
          have := List.any_eq_false.1 hej.2.2 x.1 hc
          rw [hxe] at this
          exact this (Nat.beq_refl _))
        rw [hxe, h1] at h3; cases h3
      have hyield : ∀ j b, l[i].guard = some (j, b) → waits l[i] j = true → ∀ c, lk ve j = some c → yielded l.toArray a.tmps j = asB c := by
        intro j b hg hwt c hcv
        obtain ⟨h1, h2⟩ := hdone j hwt
        unfold yielded
        rw [hops j, List.getElem?_eq_getElem h2]
        cases hd : l[j].dst with
        | none =>
          have h7 := List.all_eq_true.1 hG l[i] (List.getElem_mem hil)
          simp [hg, List.getElem?_eq_getElem h2, hd] at h7
        | some s =>
          have := (d.got j l[j] c (List.getElem?_eq_getElem h2) hcv).1 h1 s hd
          simp only [Option.bind_some, hd, this]
          cases c <;> rfl
      have hwanted : ∀ b, wantq l[i] ve = some b → Region.wanted l[i] (yielded l.toArray a.tmps) = b := by
        intro b hw
        unfold Region.wanted
        unfold wantq at hw
        cases hg : l[i].guard with
        | none => simp only [hg] at hw; exact Option.some.inj hw
        | some jb =>
          obtain ⟨j, b'⟩ := jb
          simp only [hg] at hw ⊢
          cases hwt : waits l[i] j with
          | false => simp [hwt] at hw
          | true =>
            simp only [hwt] at hw
            split at hw
            · rename_i c hc
              rw [hyield j b' hg hwt c hc]
              exact Option.some.inj hw
            · cases hw
      unfold wpOp
      rw [hops i, hio]
      simp only
      cases hvi : lk ve i with
      | some v =>
        obtain ⟨fz0, H0, ⟨w1, hw1⟩, hkp, hqv, _⟩ := (d.got i l[i] v hio hvi).2 hun
        have hkeep : Inv cx fz0 H0 w := hw1.keep d.inv (hkp.more _)
        have hnext : ∀ w', Fr [] w w' → A (listed.setIfInBounds i true) (a.put l[i].dst v) w' := by
          intro w' hw'
          have hS' : SL P cx l σ fk fl Q m ve τ pend fz H kept (listed.setIfInBounds i true) := by
            rcases hS with h1 | h1 | ⟨j, o, hp, hl, hh⟩
            · exact .inl h1
            · exact .inr (.inl h1)
            · refine .inr (.inr ⟨j, o, hp, ?_, hh⟩)
              have := (d.kp (j, o) hp).2.1
              rw [hother j (fun he => by simp only at this; rw [he, hvi] at this; cases this)]
              exact hl
          refine ⟨m, ve, τ, pend, fz, H, kept, ex, hS', ⟨d.inv.quiet hw', putSize v, putDef v, by simpa using hls, hold v, hdc, fun k o u hk hu => ?_, d.nd, fun p hp => ?_, d.rest, fun e he => ?_, d.exn, d.tau⟩⟩
          · by_cases hki : k = i
            · subst hki
              rw [hio] at hk; injection hk with hk; subst hk
              rw [hvi] at hu; injection hu with hu; subst hu
              exact ⟨fun _ s hd => putSame v s hd, fun hc => by rw [hsame] at hc; cases hc⟩
            · rw [hother k hki]
              obtain ⟨h1, h2⟩ := d.got k o u hk hu
              exact ⟨fun hl s hd => putOther v s u (h1 hl s hd) (dstNe k o s hk hd hki), h2⟩
          · obtain ⟨h1, h2, h3⟩ := d.kp p hp
            have hpi : p.1 ≠ i := fun he => by rw [he, hvi] at h2; cases h2
            exact ⟨h1, h2, by rw [hother _ hpi]; exact h3⟩
          · obtain ⟨o, h1, h2, h3, h4⟩ := d.exk e he
            obtain ⟨h5, h6, _⟩ := d.kp _ h1
            have hpi : e.1 ≠ i := fun he => by simp only at h6; rw [he, hvi] at h6; cases h6
            exact ⟨o, h1, h2, hmono _ h3, fun s hd => putOther v s _ (h4 s hd) (dstNe e.1 o s h5 hd hpi)⟩
        rcases hqv with ⟨hq1, hq2⟩ | ⟨hq1, hq2⟩
        · rw [if_pos (hwanted true hq1)]
          exact .inl (OpPost.wp ((hq2 a.eval w hreads hkeep).mono fun v' w' ⟨he, hw'⟩ => by subst he; exact ih _ _ _ hcount (hnext w' hw')))
        · rw [if_neg (by simp [hwanted false hq1])]
          subst hq2
          exact ih _ _ _ hcount (hnext w (Fr.refl _ _))
      | none =>
        obtain ⟨p, hp, hpi⟩ := d.rest i hil hvi
        have hpl := (d.kp p hp).1
        rw [hpi, hio] at hpl
        injection hpl with hpl
        obtain ⟨pi, po⟩ := p
        simp only at hpi hpl
        subst hpi
        subst hpl
        have hexi : ∀ e ∈ ex, e.1 ≠ pi := fun e he hc => by
          obtain ⟨_, _, _, h3, _⟩ := d.exk e he
          rw [hc, hun] at h3; cases h3
        have hcloX : ∀ (S : List (Nat × Oper)), (∀ e ∈ ex, ∀ o, (e.1, o) ∈ kept → (e.1, o) ∈ S) → ∀ (k : Nat) (e : Nat × (Nat × Obj) × (Nat → Value)), e ∈ ex → e.1 = k → Clo fk ve S k := by
          intro S hS' k
          induction k using Nat.strongRecOn with
          | _ k ihk =>
            intro e he hek
            obtain ⟨oe, g1, g2, g3, _⟩ := d.exk e he
            have h5 := (d.kp _ g1).1
            simp only at h5
            have := Clo.mk (fk := fk) (ve := ve) (kept := S) (e.1, oe) (hS' e he oe g1) g2.1 (fun e2 he2 hb2 hn2 => by
              have hlt := hedge e.1 oe h5 e2 he2 hb2
              have hlen : e.1 < l.length := (List.getElem?_eq_some_iff.1 h5).1
              obtain ⟨y, hy, hye⟩ := d.rest e2.on (by omega) hn2
              have hw2 : waits oe e2.on = true := by
                unfold waits
                exact List.any_eq_true.2 ⟨e2, by simpa using he2, by simp [hb2]⟩
              have hl2 := d.dc e.1 oe h5 g3 e2.on hw2
              rcases (d.kp y hy).2.2 with h6 | ⟨e', he', hey⟩
              · rw [hye, hl2] at h6; cases h6
              · exact ihk e2.on (by omega) e' he' (hey.trans hye))
            rw [← hek]; exact this
        have hkfl : ∀ (S : List (Nat × Oper)) (fls : List Nat), (∀ e ∈ ex, ∀ o, (e.1, o) ∈ kept → (e.1, o) ∈ S) → (∀ k, Clo fk ve S k → k ∈ fls) → ∀ x ∈ kept, x.1 ∉ fls → listed.getD x.1 true = false := by
          intro S fls hS' hcl x hx hnf
          rcases (d.kp x hx).2.2 with h1 | ⟨e, he, hex⟩
          · exact h1
          · exact absurd (hcl _ (hcloX S hS' x.1 e he hex)) hnf
        have hXv : ∀ v, VExt (veX ex ve) (veX ex ((pi, v) :: ve)) := fun v =>
          veX_ext (fun k u hk => veX_ve (fun x hx => by rw [lk_cons_ne _ _ (fun he => hexi x hx he.symm)]; exact hnoneX x hx) k u (by
            rw [lk_cons_ne _ _ (fun he => by subst he; rw [hvi] at hk; cases hk)]; exact hk)) (fun x hx => veX_ex d.exn x hx)
        -- an allocation of which enough is known
        have hearly : Early fk fl ve (pi, l[pi]) → ∃ obj mk, fl pi l[pi] (veX ex ve) = some (obj, mk) := by
          intro ⟨_, he⟩
          have := he (veX ex ve) (veX_ve hnoneX) (fun k v hk hn => by
            rcases veX_cases hk with ⟨e, hee, _, hv⟩ | hk
            · obtain ⟨oe, _, g2, _⟩ := d.exk e hee
              rw [hv]; exact hone _ _ _ _ _ g2.2 _
            · rw [hn] at hk; cases hk) (fun e2 he2 hb2 hn2 => by
            obtain ⟨h1, h2⟩ := hdone1 e2 he2 hb2
            have hv2 : lk ve e2.on = none := by
              cases hc : lk ve e2.on with
              | none => rfl
              | some v => have := veX_ve hnoneX _ _ hc; rw [hn2] at this; cases this
            obtain ⟨y, hy, hye⟩ := d.rest e2.on h2 hv2
            rcases (d.kp y hy).2.2 with h6 | ⟨e', he', hey⟩
            · rw [hye, h1] at h6; cases h6
            · have := veX_ex d.exn e' he' (ve := ve)
              rw [hey, hye, hn2] at this; cases this)
          cases hfo : fl pi l[pi] (veX ex ve) with
          | none => simp only at this; rw [hfo] at this; cases this
          | some om => exact ⟨om.1, om.2, rfl⟩
        have hpm : kept.Perm ((pi, l[pi]) :: rm pi kept) := rm_perm d.nd hp
        have hext : ∀ v, VExt ve ((pi, v) :: ve) := fun v k u hk => by
          rw [lk_cons_ne _ _ (fun he => by subst he; rw [hvi] at hk; cases hk)]; exact hk
        -- the next one has run
        have take : ∀ (v : Value) (fz' : FZ) (H1 : HP) (pend' : Pend) (w' : World), Inv cx fz' (hx ex ++ H1) w' →
            (∀ (k : Nat) (ok : Oper) (u : Value), listed.getD k true = false → Pd P cx l σ ve pend fz H k ok u → Pd P cx l σ ((pi, v) :: ve) pend' fz' H1 k ok u) →
            DA P cx n l σ fk fl ((pi, v) :: ve) (putT l[pi].dst v τ) pend' fz' H1 (rm pi kept) ex (listed.setIfInBounds pi true) (a.put l[pi].dst v) w' := by
          intro v fz' H1 pend' w' hinv hpd
          have hnd := (hpm.map Prod.fst).nodup d.nd
          simp only [List.map_cons, List.nodup_cons] at hnd
          have hrne : ∀ x ∈ rm pi kept, x.1 ≠ pi := fun x hx he => hnd.1 (List.mem_map.2 ⟨x, hx, he⟩)
          refine ⟨hinv, putSize v, putDef v, by simpa using hls, hold v, hdc, fun k ok u hk hu => ?_, hnd.2, fun x hx => ?_, fun k hk hn => ?_, fun e he => ?_, d.exn, fun s u hsu => ?_⟩
          · by_cases hki : k = pi
            · subst hki
              rw [hio] at hk; injection hk with hk; subst hk
              rw [lk_cons_same] at hu; injection hu with hu; subst hu
              exact ⟨fun _ s hd => putSame v s hd, fun hc => by rw [hsame] at hc; cases hc⟩
            · rw [lk_cons_ne _ _ (fun he => hki he.symm)] at hu
              rw [hother k hki]
              obtain ⟨h1, h2⟩ := d.got k ok u hk hu
              exact ⟨fun hl s hd => putOther v s u (h1 hl s hd) (dstNe k ok s hk hd hki), fun hl => hpd k ok u hl (h2 hl)⟩
          · obtain ⟨h1, h2, h3⟩ := d.kp x (hpm.symm.subset (by simp [hx]))
            exact ⟨h1, by rw [lk_cons_ne _ _ (fun he => hrne x hx he.symm)]; exact h2, by rw [hother _ (hrne x hx)]; exact h3⟩
          · by_cases hki : pi = k
            · subst hki; rw [lk_cons_same] at hn; cases hn
            · rw [lk_cons_ne _ _ hki] at hn
              obtain ⟨x, hx, he⟩ := d.rest k hk hn
              have := hpm.subset hx
              cases this with
              | head => exact absurd he hki
              | tail _ hx => exact ⟨x, hx, he⟩
          · obtain ⟨oe, h1, h2, h3, h4⟩ := d.exk e he
            have hne := hexi e he
            have h5 := hpm.subset h1
            refine ⟨oe, ?_, ⟨h2.1, hfm _ _ _ _ _ (hXv v) h2.2⟩, hmono _ h3, fun s hd => putOther v s _ (h4 s hd) (dstNe e.1 oe s (d.kp _ h1).1 hd hne)⟩
            cases h5 with
            | head => exact absurd rfl hne
            | tail _ h5 => exact h5
          · have hstep : ∀ (hτ : lk τ s = some u) (hne : l[pi].dst ≠ some s), (∃ (k : Nat) (o : Oper), l[k]? = some o ∧ o.dst = some s ∧ lk ((pi, v) :: ve) k = some u) ∨ (lk σ s = some u ∧ ∀ (k : Nat) (o : Oper), l[k]? = some o → lk ((pi, v) :: ve) k ≠ none → o.dst ≠ some s) := by
              intro hτ hne
              rcases d.tau s u hτ with ⟨k, ok, h1, h2, h3⟩ | ⟨h1, h2⟩
              · exact .inl ⟨k, ok, h1, h2, hext v k u h3⟩
              · refine .inr ⟨h1, fun k ok hk hnn => ?_⟩
                by_cases hki : pi = k
                · subst hki; rw [hio] at hk; injection hk with hk; subst hk; exact hne
                · rw [lk_cons_ne _ _ hki] at hnn; exact h2 k ok hk hnn
            unfold putT at hsu
            cases hd : l[pi].dst with
            | none => simp only [hd] at hsu; exact hstep hsu (by rw [hd]; simp)
            | some dd =>
              simp only [hd] at hsu
              by_cases hds : dd = s
              · subst hds
                rw [lk_cons_same] at hsu
                injection hsu with hsu
                subst hsu
                exact .inl ⟨pi, l[pi], hio, hd, lk_cons_same _ _ _⟩
              · rw [lk_cons_ne _ _ hds] at hsu
                exact hstep hsu (by rw [hd]; simpa using hds)
        -- an early float
        have early : ∀ obj mk, fk l[pi] = true → fl pi l[pi] (veX ex ve) = some (obj, mk) → SL P cx l σ fk fl Q m ve τ pend fz H kept (listed.setIfInBounds pi true) → A (listed.setIfInBounds pi true) (a.put l[pi].dst (mk w.heap.size)) (w.alloc obj) := by
          intro obj mk hfk hfo hS'
          have hXe : VExt (veX ex ve) (veX ((pi, (w.heap.size, obj), mk) :: ex) ve) := fun k v hk => by
            unfold veX
            rw [lk_cons_ne _ _ (fun he => by
              rcases veX_cases hk with ⟨e, hee, hek, _⟩ | hk
              · exact hexi e hee (hek.trans he.symm)
              · rw [← he, hvi] at hk; cases hk)]
            exact hk
          refine ⟨m, ve, τ, pend, fz, H, kept, (pi, (w.heap.size, obj), mk) :: ex, hS', ⟨d.inv.alloc obj, putSize _, putDef _, by simpa using hls, hold _, hdc, fun k ok u hk hu => ?_, d.nd, fun x hx => ?_, d.rest, fun e he => ?_, ?_, d.tau⟩⟩
          · have hki : k ≠ pi := fun he => by subst he; rw [hvi] at hu; cases hu
            rw [hother k hki]
            obtain ⟨h1, h2⟩ := d.got k ok u hk hu
            exact ⟨fun hl s hd => putOther _ s u (h1 hl s hd) (dstNe k ok s hk hd hki), h2⟩
          · obtain ⟨h1, h2, h3⟩ := d.kp x hx
            refine ⟨h1, h2, ?_⟩
            by_cases hxi : x.1 = pi
            · exact .inr ⟨_, List.mem_cons_self .., hxi.symm⟩
            · rw [hother _ hxi]
              exact h3.imp (fun h => h) fun ⟨e, he, hex⟩ => ⟨e, List.mem_cons_of_mem _ he, hex⟩
          · cases he with
            | head => exact ⟨l[pi], hp, ⟨hfk, hfm _ _ _ _ _ hXe hfo⟩, hsame, fun s hd => putSame _ s hd⟩
            | tail _ he =>
              obtain ⟨oe, h1, h2, h3, h4⟩ := d.exk e he
              exact ⟨oe, h1, ⟨h2.1, hfm _ _ _ _ _ hXe h2.2⟩, hmono _ h3, fun s hd => putOther _ s _ (h4 s hd) (dstNe e.1 oe s (d.kp _ h1).1 hd (hexi e he))⟩
          · simp only [List.map_cons, List.nodup_cons]
            exact ⟨fun hc => by obtain ⟨e, he, hep⟩ := List.mem_map.1 hc; exact hexi e he hep, d.exn⟩
        rcases hS with ⟨hk, _⟩ | ⟨hex0, fls, hcl, hh⟩ | ⟨j, o, hpj, hjl, obj, mk, hf, fls, hcl, hr, hg⟩
        · subst hk; cases hp
        · rcases hh _ hp with ⟨_, hea⟩ | hst | ⟨_, hgd, hdo⟩
          · obtain ⟨obj, mk, hfo⟩ := hearly hea
            obtain ⟨hgd, hrun⟩ := hfl _ _ _ _ _ hfo
            rw [if_pos (by simp [Region.wanted, hgd])]
            refine .inl (OpPost.wp ?_)
            rw [hrun _ _ hreadsX]
            exact ih _ _ _ hcount (early obj mk hea.1 hfo (.inr (.inl ⟨hex0, fls, hcl, hh⟩)))
          · exact (hstuck _ _ rfl (hkfl kept fls (fun _ _ _ h => h) hcl) hst).elim
          · simp only at hgd hdo
            rw [if_pos (hwanted true hgd)]
            refine .inl (OpPost.wp (((hdo (hx ex)).run a.eval w hreads d.inv).mono fun v w' ⟨fz', H', hinv, H1, hH1, hle, hkc, hD⟩ => ih _ _ _ hcount ?_))
            subst hH1
            have hDA := take v fz' H1 (leftOver pend l[pi]) w' hinv (fun k ok u hl hq => by
              obtain ⟨fz0, H0, hw, hkp, hq, hmm⟩ := hq
              have hnw : waits l[pi] k = false := by
                cases hwt : waits l[pi] k with
                | false => rfl
                | true => have := (hdone k hwt).1; rw [hl] at this; cases this
              have hmem : (k, H0) ∈ leftOver pend l[pi] := by
                unfold leftOver
                exact List.mem_filter.2 ⟨hmm, by simp [hnw]⟩
              exact ⟨fz0, H0, hw, ⟨hkp.1.trans hle, hkc _ hmem⟩, QOkG.ext (hext v) hq, hmem⟩)
            obtain ⟨m', ve', τ', pend', H'', kept', ex', hS', hA'⟩ := hD.enter hfm hDA
            exact ⟨m', ve', τ', pend', fz', H'', kept', ex', hS', hA'⟩
        · by_cases hji : j = pi
          · subst hji
            have ho : o = l[j] := by
              have := (d.kp _ hpj).1
              simp only at this
              rw [hio] at this
              injection this with this
              exact this.symm
            subst ho
            obtain ⟨hgd, hrun⟩ := hfl _ _ _ _ _ hf
            rw [if_pos (by simp [Region.wanted, hgd])]
            refine .inl (OpPost.wp ?_)
            rw [hrun _ _ hreads]
            refine ih _ _ _ hcount ?_
            have hDA := take (mk w.heap.size) fz ((w.heap.size, obj) :: H) pend (w.alloc obj) ((d.inv.alloc obj).perm List.perm_middle) (fun k ok u _ hq => by
              obtain ⟨fz0, H0, hw, hkp, hq, hmm⟩ := hq
              exact ⟨fz0, H0, hw, ⟨hkp.1, fun p hp => by simp [hkp.2 p hp]⟩, QOkG.ext (hext _) hq, hmm⟩)
            obtain ⟨m', ve', τ', pend', H'', kept', ex', hS', hA'⟩ := (hg w.heap.size (fun p hp hc => by have := lt_of_heap (d.inv.hp.own p (by simp [hp])).1; omega)).enter hfm hDA
            exact ⟨m', ve', τ', pend', fz, H'', kept', ex', hS', hA'⟩
          · have hrmem : ∀ x ∈ kept, x.1 ≠ j → x ∈ rm j kept := fun x hx hne => by
              unfold rm
              refine List.mem_filter.2 ⟨hx, ?_⟩
              simp only [Bool.not_eq_true']
              cases hb : Nat.beq x.1 j with
              | false => rfl
              | true => exact absurd (Nat.eq_of_beq_eq_true hb) hne
            have hexj : ∀ e ∈ ex, e.1 ≠ j := fun e he hc => by
              obtain ⟨_, _, _, h3, _⟩ := d.exk e he
              rw [hc, hjl] at h3; cases h3
            rcases hr _ (hrmem _ hp (fun h => hji h.symm)) with ⟨_, hea⟩ | hst
            · obtain ⟨obj', mk', hfo⟩ := hearly hea
              obtain ⟨hgd, hrun⟩ := hfl _ _ _ _ _ hfo
              rw [if_pos (by simp [Region.wanted, hgd])]
              refine .inl (OpPost.wp ?_)
              rw [hrun _ _ hreadsX]
              exact ih _ _ _ hcount (early obj' mk' hea.1 hfo (.inr (.inr ⟨j, o, hpj, by rw [hother j hji]; exact hjl, obj, mk, hf, fls, hcl, hr, hg⟩)))
            · exact (hstuck _ _ rfl (fun x hx hnf => by
                by_cases hxj : x.1 = j
                · rw [hxj]; exact hjl
                · exact hkfl (rm j kept) fls (fun e he o h => hrmem _ h (hexj e he)) hcl x hx hnf) hst).elim
  refine wp_region_any hm (main _ _ _ _ ?_ ?_)
  · have := List.countP_le_length (p := fun i => !(Array.replicate l.toArray.size false).getD i true) (l := List.range l.length)
    simpa using this
  · have hlt : ∀ p ∈ num 0 l, p.1 < l.length := fun p hp => by
      have := (num_mem l 0 p hp).2
      exact (List.getElem?_eq_some_iff.1 this).1
    obtain ⟨m', ve', τ', pend', H', kept', ex', hS', hA'⟩ := h.enter hfm (n := n) (listed := Array.replicate l.toArray.size false) (a := a) (ex := []) ⟨by simpa [hx] using hi.drew, hs.size, hs.defers, by simp, fun s v hv _ => hs.slot s v hv, fun j o hj hjl => absurd hjl (by have := (List.getElem?_eq_some_iff.1 hj).1; simp [Array.getD, this]), fun k o v _ hv => (by cases hv), num_nodup l 0,
      fun p hp => ⟨by simpa using (num_mem l 0 p hp).2, rfl, .inl (by simp [Array.getD, hlt p hp])⟩, fun k hk _ => ⟨(k, l[k]), by simpa using num_all l 0 k l[k] (List.getElem?_eq_getElem hk), rfl⟩, by simp, by simp, fun s v hv => .inr ⟨hv, fun k o _ hn => absurd rfl hn⟩⟩
    exact ⟨m', ve', τ', pend', fz, H', kept', ex', hS', hA'⟩
end
end Go.Lx
