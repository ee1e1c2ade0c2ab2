/- The texts GWalkI, GWalkJ, GWalkK, GWalkL, GWalkM, GWalkN, GWalkO, GWalkP, GWalkQ, GRet, GWalkR, GWalkS, GWalkT, GWalkU, GWalkV, GWalkW, GLawA, GLawB, laid together. Conditions: none. -/
import Derived.Test.YtegmololhnipiaaGreatDoorQfC
namespace Go.Proofs.YtegmololhnipiaaGreatDoor
open Go.Lx Go.Gr Go.RowKit
attribute [local instance 10] Classical.propDecidable
abbrev resV (o : Option Int) (z : Int) : Value := .tuple #[.int .i64 (o.getD z), .bool o.isSome]
theorem comb_some {op : ByteArray} {a b : Int} (h1 : -maxN ≤ combN op a b) (h2 : combN op a b ≤ maxN) : comb op a b = some (combN op a b) := by unfold comb; rw [if_pos ⟨h1, h2⟩]
theorem comb_none {op : ByteArray} {a b : Int} (h : ¬ (-maxN ≤ combN op a b ∧ combN op a b ≤ maxN)) : comb op a b = none := by unfold comb; rw [if_neg h]
theorem combN_plus {op : ByteArray} {a b : Int} (h : op = kPlus) : combN op a b = a + b := by unfold combN; rw [if_pos h]
theorem combN_minus {op : ByteArray} {a b : Int} (h : op = kMinus) : combN op a b = a - b := by
  unfold combN; rw [if_neg (by rw [h]; exact bytes_ne (by decide)), if_pos h]
theorem combN_times {op : ByteArray} {a b : Int} (h1 : ¬ op = kPlus) (h2 : ¬ op = kMinus) : combN op a b = a * b := by unfold combN; rw [if_neg h1, if_neg h2]
theorem res_some {op : ByteArray} {a b z : Int} (h1 : -maxN ≤ combN op a b) (h2 : combN op a b ≤ maxN) : Value.tuple #[.int .i64 (combN op a b), .bool true] = resV (comb op a b) z := by rw [comb_some h1 h2]; rfl
theorem res_none {op : ByteArray} {a b z : Int} (h : ¬ (-maxN ≤ combN op a b ∧ combN op a b ≤ maxN)) : Value.tuple #[.int .i64 z, .bool false] = resV (comb op a b) z := by rw [comb_none h]; rfl
theorem quo_in {a : Int} (h : a ≠ 0) : IntKind.i64.wrap ((1099511627776 : Int).tdiv (max a (-a))) = maxN / max a (-a) := by
  have hp : 0 < max a (-a) := by omega
  rw [Int.tdiv_eq_ediv_of_nonneg (by omega)]
  have h1 : 0 ≤ (1099511627776 : Int) / max a (-a) := Int.ediv_nonneg (by omega) (by omega)
  have h2 : (1099511627776 : Int) / max a (-a) ≤ 1099511627776 := Int.ediv_le_self _ (by omega)
  exact wrap_in (by omega)
theorem combine_q {fz : FZ} {op : ByteArray} {a b : Int} (ha : -1099511627776 ≤ a ∧ a ≤ 1099511627776) (hb : -1099511627776 ≤ b ∧ b ≤ 1099511627776) :
    ∃ z, QFn Tryz.prog 79 [.string op, .int .i64 a, .int .i64 b] fz (resV (comb op a b) z) := by
  by_cases hz : ¬ op = kPlus ∧ ¬ op = kMinus ∧ a ≠ 0 ∧ max b (-b) > maxN / max a (-a)
  · obtain ⟨z1, z2, z3, z4⟩ := hz
    refine ⟨0, GFn.quiet ?_⟩
    (refine GFn.of_wp Tryz.func79 rfl Tryz.ntmps79 rfl rfl (fun w0 => ?_))
    ((refine Wp.seq ?_; refine Wp.region ?_; refine Zq ?_; refine Za ?_; refine Zq ?_; refine Za ?_; refine Seq.done ?_; refine Wp.seq ?_; refine Wp.region ?_; refine Zq ?_; refine Za ?_; refine Seq.done ?_; refine Wp.seq ?_; refine Wp.seq ?_; refine Wp.region ?_; refine Zq ?_; refine Zm ?_; refine Seq.done ?_; refine Wp.block ?_; refine Wp.seq ?_; refine Wp.region ?_))
    (((refine Zq ?_)); (refine q_eql_strD (by exact rfl) (by exact rfl) (fun e1 => ?_) (fun x1 => ?_)))
    · exact absurd e1 z1
    · ((refine Zq ?_; refine Za ?_; refine Seq.done ?_; refine Zd ?_; refine Wp.seq ?_; refine Wp.region ?_))
      (((refine Zq ?_)); (refine q_eql_strD (by exact rfl) (by exact rfl) (fun e2 => ?_) (fun x2 => ?_)))
      · exact absurd e2 z2
      · ((refine Zq ?_; refine Za ?_; refine Seq.done ?_; refine Zd ?_; refine Wp.seq ?_; refine Wp.seq ?_; refine Wp.region ?_; refine Zq ?_; refine Zm ?_))
        (((refine Zq ?_)); (refine q_neqD (by exact rfl) (by exact rfl) (fun c1 => ?_) (fun c1 => ?_)))
        · ((refine Zq ?_; refine Zm ?_; refine Zy ?_; refine Zm ?_; refine Zy ?_; refine Zm ?_))
          ((refine Zy ?_)); refine qg_neg (by exact rfl) (wrap_in (by omega)) ?_
          ((refine Zy ?_; refine q_max (by exact rfl) (by exact rfl) ?_; refine Zy ?_; refine Zm ?_; refine Zy ?_; refine Zm ?_))
          ((refine Zy ?_)); refine qg_neg (by exact rfl) (wrap_in (by omega)) ?_
          ((refine Zy ?_; refine q_max (by exact rfl) (by exact rfl) ?_))
          ((refine Zy ?_)); refine qg_quo (by exact rfl) (by exact rfl) (by omega) (quo_in z3) ?_
          (((refine Zy ?_)); (refine q_gtrD (by exact rfl) (by exact rfl) (fun c2 => ?_) (fun c2 => ?_)))
          · ((refine Zq ?_; refine Zt ?_; refine Seq.done ?_; refine Zc ?_; refine Wp.seq ?_; refine Wp.region ?_; refine Zq ?_; refine Za ?_; refine Zq ?_; refine Za ?_; refine Seq.done ?_; refine Wp.ret ?_; refine thenR ?_; refine blkR ?_; refine thenR ?_))
            exact ret2 rfl rfl rfl (by repeat (first | exact List.Sublist.refl _ | exact List.nil_sublist _ | refine List.Sublist.cons_cons _ ?_ | refine List.Sublist.cons _ ?_)) (res_none (by rw [combN_times z1 z2]; exact (mul_guard z3).1 z4))
          · exact absurd z4 c2
        · exact absurd c1 z3
  · have hm : ¬ op = kPlus → ¬ op = kMinus → -1099511627776 ≤ a * b ∧ a * b ≤ 1099511627776 := fun h1 h2 => by
      by_cases h0 : a = 0
      · rw [h0, Int.zero_mul]; omega
      · exact Classical.byContradiction fun hc => hz ⟨h1, h2, h0, (mul_guard h0).2 hc⟩
    refine ⟨combN op a b, GFn.quiet ?_⟩
    (refine GFn.of_wp Tryz.func79 rfl Tryz.ntmps79 rfl rfl (fun w0 => ?_))
    ((refine Wp.seq ?_; refine Wp.region ?_; refine Zq ?_; refine Za ?_; refine Zq ?_; refine Za ?_; refine Seq.done ?_; refine Wp.seq ?_; refine Wp.region ?_; refine Zq ?_; refine Za ?_; refine Seq.done ?_; refine Wp.seq ?_; refine Wp.seq ?_; refine Wp.region ?_; refine Zq ?_; refine Zm ?_; refine Seq.done ?_; refine Wp.block ?_; refine Wp.seq ?_; refine Wp.region ?_))
    (((refine Zq ?_)); (refine q_eql_strD (by exact rfl) (by exact rfl) (fun e1 => ?_) (fun x1 => ?_)))
    · have hn := combN_plus (a := a) (b := b) e1
      ((refine Zq ?_; refine Za ?_; refine Seq.done ?_; refine Zc ?_; refine Wp.region ?_; refine Zq ?_; refine Zm ?_; refine Zq ?_; refine Zm ?_; refine Zq ?_; refine q_add (by exact rfl) (by exact rfl) (wrap_in (by omega)) ?_; refine Zq ?_; refine Za ?_; refine Seq.end_ ?_; refine blkN ?_; refine thenN ?_; refine Wp.seq ?_; refine Wp.region ?_; refine Zq ?_; refine Zm ?_; refine Zq ?_; refine Zm ?_))
      (((refine Zq ?_)); (refine q_geqD (by exact rfl) (by exact rfl) (fun c3 => ?_) (fun c3 => ?_)))
      · ((refine Zq ?_; refine Zm ?_; refine Zy ?_; refine Zm ?_))
        (((refine Zy ?_)); (refine q_leqD (by exact rfl) (by exact rfl) (fun c4 => ?_) (fun c4 => ?_)))
        · ((refine Zq ?_; refine Zt ?_; refine Zq ?_; refine Za ?_; refine Zq ?_; refine Za ?_; refine Seq.done ?_; refine Wp.ret ?_))
          exact ret2 rfl rfl rfl (by repeat (first | exact List.Sublist.refl _ | exact List.nil_sublist _ | refine List.Sublist.cons_cons _ ?_ | refine List.Sublist.cons _ ?_)) (by rw [← hn]; exact res_some (by rw [hn]; exact c3) (by rw [hn]; exact c4))
        · ((refine Zq ?_; refine Zt ?_; refine Zq ?_; refine Za ?_; refine Zq ?_; refine Za ?_; refine Seq.done ?_; refine Wp.ret ?_))
          exact ret2 rfl rfl rfl (by repeat (first | exact List.Sublist.refl _ | exact List.nil_sublist _ | refine List.Sublist.cons_cons _ ?_ | refine List.Sublist.cons _ ?_)) (by rw [← hn]; exact res_none (by rw [hn]; exact fun h => c4 h.2))
      · ((refine Zq ?_; refine Zm ?_; refine Zn ?_; refine Zn ?_; refine Zq ?_; refine Zu ?_; refine Zq ?_; refine Za ?_; refine Zq ?_; refine Za ?_; refine Seq.done ?_; refine Wp.ret ?_))
        exact ret2 rfl rfl rfl (by repeat (first | exact List.Sublist.refl _ | exact List.nil_sublist _ | refine List.Sublist.cons_cons _ ?_ | refine List.Sublist.cons _ ?_)) (by rw [← hn]; exact res_none (by rw [hn]; exact fun h => c3 h.1))
    · ((refine Zq ?_; refine Za ?_; refine Seq.done ?_; refine Zd ?_; refine Wp.seq ?_; refine Wp.region ?_))
      (((refine Zq ?_)); (refine q_eql_strD (by exact rfl) (by exact rfl) (fun e2 => ?_) (fun x2 => ?_)))
      · have hn := combN_minus (a := a) (b := b) e2
        ((refine Zq ?_; refine Za ?_; refine Seq.done ?_; refine Zc ?_; refine Wp.region ?_; refine Zq ?_; refine Zm ?_; refine Zq ?_; refine Zm ?_; refine Zq ?_; refine q_sub (by exact rfl) (by exact rfl) (wrap_in (by omega)) ?_; refine Zq ?_; refine Za ?_; refine Seq.end_ ?_; refine blkN ?_; refine thenN ?_; refine Wp.seq ?_; refine Wp.region ?_; refine Zq ?_; refine Zm ?_; refine Zq ?_; refine Zm ?_))
        (((refine Zq ?_)); (refine q_geqD (by exact rfl) (by exact rfl) (fun c3 => ?_) (fun c3 => ?_)))
        · ((refine Zq ?_; refine Zm ?_; refine Zy ?_; refine Zm ?_))
          (((refine Zy ?_)); (refine q_leqD (by exact rfl) (by exact rfl) (fun c4 => ?_) (fun c4 => ?_)))
          · ((refine Zq ?_; refine Zt ?_; refine Zq ?_; refine Za ?_; refine Zq ?_; refine Za ?_; refine Seq.done ?_; refine Wp.ret ?_))
            exact ret2 rfl rfl rfl (by repeat (first | exact List.Sublist.refl _ | exact List.nil_sublist _ | refine List.Sublist.cons_cons _ ?_ | refine List.Sublist.cons _ ?_)) (by rw [← hn]; exact res_some (by rw [hn]; exact c3) (by rw [hn]; exact c4))
          · ((refine Zq ?_; refine Zt ?_; refine Zq ?_; refine Za ?_; refine Zq ?_; refine Za ?_; refine Seq.done ?_; refine Wp.ret ?_))
            exact ret2 rfl rfl rfl (by repeat (first | exact List.Sublist.refl _ | exact List.nil_sublist _ | refine List.Sublist.cons_cons _ ?_ | refine List.Sublist.cons _ ?_)) (by rw [← hn]; exact res_none (by rw [hn]; exact fun h => c4 h.2))
        · ((refine Zq ?_; refine Zm ?_; refine Zn ?_; refine Zn ?_; refine Zq ?_; refine Zu ?_; refine Zq ?_; refine Za ?_; refine Zq ?_; refine Za ?_; refine Seq.done ?_; refine Wp.ret ?_))
          exact ret2 rfl rfl rfl (by repeat (first | exact List.Sublist.refl _ | exact List.nil_sublist _ | refine List.Sublist.cons_cons _ ?_ | refine List.Sublist.cons _ ?_)) (by rw [← hn]; exact res_none (by rw [hn]; exact fun h => c3 h.1))
      · have hn := combN_times (a := a) (b := b) x1 x2
        have hmr := hm x1 x2
        ((refine Zq ?_; refine Za ?_; refine Seq.done ?_; refine Zd ?_; refine Wp.seq ?_; refine Wp.seq ?_; refine Wp.region ?_; refine Zq ?_; refine Zm ?_))
        (((refine Zq ?_)); (refine q_neqD (by exact rfl) (by exact rfl) (fun c1 => ?_) (fun c1 => ?_)))
        · ((refine Zq ?_; refine Zm ?_; refine Zy ?_; refine Zm ?_; refine Zy ?_; refine Zm ?_))
          ((refine Zy ?_)); refine qg_neg (by exact rfl) (wrap_in (by omega)) ?_
          ((refine Zy ?_; refine q_max (by exact rfl) (by exact rfl) ?_; refine Zy ?_; refine Zm ?_; refine Zy ?_; refine Zm ?_))
          ((refine Zy ?_)); refine qg_neg (by exact rfl) (wrap_in (by omega)) ?_
          ((refine Zy ?_; refine q_max (by exact rfl) (by exact rfl) ?_))
          ((refine Zy ?_)); refine qg_quo (by exact rfl) (by exact rfl) (by omega) (quo_in c1) ?_
          (((refine Zy ?_)); (refine q_gtrD (by exact rfl) (by exact rfl) (fun c2 => ?_) (fun c2 => ?_)))
          · exact absurd ⟨x1, x2, c1, c2⟩ hz
          · ((refine Zq ?_; refine Zt ?_; refine Seq.done ?_; refine Zd ?_; refine Wp.skip ?_; refine thenN ?_; refine Wp.region ?_; refine Zq ?_; refine Zm ?_; refine Zq ?_; refine Zm ?_))
            ((refine Zq ?_)); refine q_mul (by exact rfl) (by exact rfl) (wrap_in (by omega)) ?_
            ((refine Zq ?_; refine Za ?_; refine Seq.end_ ?_; refine blkN ?_; refine thenN ?_; refine Wp.seq ?_; refine Wp.region ?_; refine Zq ?_; refine Zm ?_; refine Zq ?_; refine Zm ?_))
            (((refine Zq ?_)); (refine q_geqD (by exact rfl) (by exact rfl) (fun c3 => ?_) (fun c3 => ?_)))
            · ((refine Zq ?_; refine Zm ?_; refine Zy ?_; refine Zm ?_))
              (((refine Zy ?_)); (refine q_leqD (by exact rfl) (by exact rfl) (fun c4 => ?_) (fun c4 => ?_)))
              · ((refine Zq ?_; refine Zt ?_; refine Zq ?_; refine Za ?_; refine Zq ?_; refine Za ?_; refine Seq.done ?_; refine Wp.ret ?_))
                exact ret2 rfl rfl rfl (by repeat (first | exact List.Sublist.refl _ | exact List.nil_sublist _ | refine List.Sublist.cons_cons _ ?_ | refine List.Sublist.cons _ ?_)) (by rw [← hn]; exact res_some (by rw [hn]; exact c3) (by rw [hn]; exact c4))
              · ((refine Zq ?_; refine Zt ?_; refine Zq ?_; refine Za ?_; refine Zq ?_; refine Za ?_; refine Seq.done ?_; refine Wp.ret ?_))
                exact ret2 rfl rfl rfl (by repeat (first | exact List.Sublist.refl _ | exact List.nil_sublist _ | refine List.Sublist.cons_cons _ ?_ | refine List.Sublist.cons _ ?_)) (by rw [← hn]; exact res_none (by rw [hn]; exact fun h => c4 h.2))
            · ((refine Zq ?_; refine Zm ?_; refine Zn ?_; refine Zn ?_; refine Zq ?_; refine Zu ?_; refine Zq ?_; refine Za ?_; refine Zq ?_; refine Za ?_; refine Seq.done ?_; refine Wp.ret ?_))
              exact ret2 rfl rfl rfl (by repeat (first | exact List.Sublist.refl _ | exact List.nil_sublist _ | refine List.Sublist.cons_cons _ ?_ | refine List.Sublist.cons _ ?_)) (by rw [← hn]; exact res_none (by rw [hn]; exact fun h => c3 h.1))
        · ((refine Zq ?_; refine Zm ?_; refine Zn ?_; refine Zn ?_; refine Zn ?_; refine Zn ?_; refine Zn ?_; refine Zn ?_; refine Zn ?_; refine Zn ?_; refine Zn ?_; refine Zn ?_; refine Zq ?_; refine Zu ?_; refine Seq.done ?_; refine Zd ?_; refine Wp.skip ?_; refine thenN ?_; refine Wp.region ?_; refine Zq ?_; refine Zm ?_; refine Zq ?_; refine Zm ?_))
          ((refine Zq ?_)); refine q_mul (by exact rfl) (by exact rfl) (wrap_in (by omega)) ?_
          ((refine Zq ?_; refine Za ?_; refine Seq.end_ ?_; refine blkN ?_; refine thenN ?_; refine Wp.seq ?_; refine Wp.region ?_; refine Zq ?_; refine Zm ?_; refine Zq ?_; refine Zm ?_))
          (((refine Zq ?_)); (refine q_geqD (by exact rfl) (by exact rfl) (fun c3 => ?_) (fun c3 => ?_)))
          · ((refine Zq ?_; refine Zm ?_; refine Zy ?_; refine Zm ?_))
            (((refine Zy ?_)); (refine q_leqD (by exact rfl) (by exact rfl) (fun c4 => ?_) (fun c4 => ?_)))
            · ((refine Zq ?_; refine Zt ?_; refine Zq ?_; refine Za ?_; refine Zq ?_; refine Za ?_; refine Seq.done ?_; refine Wp.ret ?_))
              exact ret2 rfl rfl rfl (by repeat (first | exact List.Sublist.refl _ | exact List.nil_sublist _ | refine List.Sublist.cons_cons _ ?_ | refine List.Sublist.cons _ ?_)) (by rw [← hn]; exact res_some (by rw [hn]; exact c3) (by rw [hn]; exact c4))
            · ((refine Zq ?_; refine Zt ?_; refine Zq ?_; refine Za ?_; refine Zq ?_; refine Za ?_; refine Seq.done ?_; refine Wp.ret ?_))
              exact ret2 rfl rfl rfl (by repeat (first | exact List.Sublist.refl _ | exact List.nil_sublist _ | refine List.Sublist.cons_cons _ ?_ | refine List.Sublist.cons _ ?_)) (by rw [← hn]; exact res_none (by rw [hn]; exact fun h => c4 h.2))
          · ((refine Zq ?_; refine Zm ?_; refine Zn ?_; refine Zn ?_; refine Zq ?_; refine Zu ?_; refine Zq ?_; refine Za ?_; refine Zq ?_; refine Za ?_; refine Seq.done ?_; refine Wp.ret ?_))
            exact ret2 rfl rfl rfl (by repeat (first | exact List.Sublist.refl _ | exact List.nil_sublist _ | refine List.Sublist.cons_cons _ ?_ | refine List.Sublist.cons _ ?_)) (by rw [← hn]; exact res_none (by rw [hn]; exact fun h => c3 h.1))
end Go.Proofs.YtegmololhnipiaaGreatDoor
namespace Go.Proofs.YtegmololhnipiaaGreatDoor
open Go.Lx Go.Gr Go.RowKit
attribute [local instance 10] Classical.propDecidable
def InB (vs : List Int) : Prop := ∀ x ∈ vs, -maxN ≤ x ∧ x ≤ maxN
theorem valE_in' {vs : List Int} {m : Int} (hv : InB vs) {e : GExpr} (hr : RightP m e) {n : Int} (h : valE vs e = some n) : -1099511627776 ≤ n ∧ n ≤ 1099511627776 := valE_in hv hr h
theorem value_aux : ∀ (s : Nat) {fz : FZ} {S : GState} {u1 u2 : Value} {e : GExpr} {v : Value}, SizeOf.sizeOf e ≤ s → GStateR fz S u1 u2 → GExprR fz e v → RightP S.values.length e → InB S.values →
    ∃ z, QFn Tryz.prog 56 [sV u1 u2, eV e v] fz (resV (valE S.values e) z)
  | 0, _, _, _, _, e, _, hs, _, _, _, _ => by cases e; simp at hs
  | s + 1, fz, S, u1, u2, e, v, hsz, hs, h, hr, hin => by
    have hs0 := hs
    (obtain ⟨B1, m1, d1, rfl, st⟩ := hs.tru; obtain ⟨B2, m2, d2, rfl, sv⟩ := hs.values)
    obtain ⟨A, n, c, rfl, hk⟩ := h.kids
    have l1 := hk.len
    have l2 := sv.len
    cases hr with
    | number h1 h2 h3 h4 =>
      refine ⟨0, GFn.quiet ?_⟩
      (refine GFn.of_wp Tryz.func56 rfl Tryz.ntmps56 rfl rfl (fun w0 => ?_))
      ((refine Wp.seq ?_; refine Wp.region ?_; refine Seq.stepK (by exact rfl) (k_box _ (by exact rfl) (by exact rfl) (fun _ => ?_)); refine Seq.stepK (by exact rfl) (k_box _ (by exact rfl) (by exact rfl) (fun _ => ?_)); refine Zq ?_; refine Za ?_; refine Zq ?_; refine Za ?_; refine Seq.done ?_; refine Wp.seq ?_; refine Wp.seq ?_; refine Wp.region ?_; refine Zq ?_; refine Zf T ?_; refine Zq ?_; refine Zl T 0 ?_; refine Seq.done ?_; refine Wp.block ?_; refine Wp.seq ?_; refine Wp.region ?_))
      (((refine Zq ?_)); (refine q_eql_strD (by exact rfl) (by exact rfl) (fun e1 => ?_) (fun x1 => ?_)))
      · ((refine Zq ?_; refine Za ?_; refine Seq.done ?_; refine Zc ?_; refine Wp.seq ?_; refine Wp.region ?_; refine Zq ?_; refine Zf T ?_; refine Zq ?_; refine Zl T 0 ?_; refine Zq ?_; refine Za ?_; refine Zq ?_; refine Za ?_; refine Seq.done ?_; refine Wp.ret ?_; refine blkR ?_; refine thenR ?_))
        exact ret2 rfl rfl rfl (by repeat (first | exact List.Sublist.refl _ | exact List.nil_sublist _ | refine List.Sublist.cons_cons _ ?_ | refine List.Sublist.cons _ ?_)) (by rw [valE_number h1]; rfl)
      · exact absurd h1 x1
    | fluent h1 h2 h3 h4 =>
      refine ⟨0, GFn.quiet ?_⟩
      (refine GFn.of_wp Tryz.func56 rfl Tryz.ntmps56 rfl rfl (fun w0 => ?_))
      ((refine Wp.seq ?_; refine Wp.region ?_; refine Seq.stepK (by exact rfl) (k_box _ (by exact rfl) (by exact rfl) (fun _ => ?_)); refine Seq.stepK (by exact rfl) (k_box _ (by exact rfl) (by exact rfl) (fun _ => ?_)); refine Zq ?_; refine Za ?_; refine Zq ?_; refine Za ?_; refine Seq.done ?_; refine Wp.seq ?_; refine Wp.seq ?_; refine Wp.region ?_; refine Zq ?_; refine Zf T ?_; refine Zq ?_; refine Zl T 0 ?_; refine Seq.done ?_; refine Wp.block ?_; refine Wp.seq ?_; refine Wp.region ?_))
      (((refine Zq ?_)); (refine q_eql_strD (by exact rfl) (by exact rfl) (fun e1 => ?_) (fun x1 => ?_)))
      · exact absurd (h1.symm.trans e1) (bytes_ne (by decide))
      · ((refine Zq ?_; refine Za ?_; refine Seq.done ?_; refine Zd ?_; refine Wp.seq ?_; refine Wp.region ?_))
        (((refine Zq ?_)); (refine q_eql_strD (by exact rfl) (by exact rfl) (fun e2 => ?_) (fun x2 => ?_)))
        · ((refine Zq ?_; refine Za ?_; refine Seq.done ?_; refine Zc ?_; refine Wp.seq ?_; refine Wp.region ?_; refine Zq ?_; refine Zf T ?_; refine Zq ?_; refine Zl T 1 ?_; refine Zq ?_; refine Zf T ?_; refine Zq ?_; refine Zl T 0 ?_))
          obtain ⟨x, hx⟩ := get_int (l := S.values) (k := e.n) h3 h4
          (((refine Zq ?_)); refine q_index T e.n.toNat (by exact rfl) (by exact rfl) (by exact rfl) (by exact rfl) (by exact rfl) (by exact rfl) sv (by first | rfl | omega) hx (fun p hp => ?_))
          (((refine Zq ?_)); refine q_load_int T (by exact rfl) (by exact rfl) (by exact rfl) hp (fun ix => ?_))
          ((refine Zq ?_; refine Za ?_; refine Zq ?_; refine Za ?_; refine Seq.done ?_; refine Wp.ret ?_; refine blkR ?_; refine thenR ?_))
          exact ret2 rfl rfl rfl (by repeat (first | exact List.Sublist.refl _ | exact List.nil_sublist _ | refine List.Sublist.cons_cons _ ?_ | refine List.Sublist.cons _ ?_)) (by rw [valE_fluent h1, hx]; rfl)
        · exact absurd h1 x2
    | @bin _ a b hb h0 hab ra rb =>
      have sa := GExpr.kids_lt (x := e) (k := a) (by rw [hab]; simp)
      have sb := GExpr.kids_lt (x := e) (k := b) (by rw [hab]; simp)
      have x1 : ¬ e.op = kNumber := by rcases hb with h | h | h <;> rw [h] <;> exact bytes_ne (by decide)
      have x2 : ¬ e.op = kFluent := by rcases hb with h | h | h <;> rw [h] <;> exact bytes_ne (by decide)
      have ka : ∀ va, GExprR fz a va → ∃ z, QFn Tryz.prog 56 [sV (.slice B1 m1 d1) (.slice B2 m2 d2), eV a va] fz (resV (valE S.values a) z) := fun va hva => value_aux s (by omega) hs0 hva ra hin
      have kb : ∀ vb, GExprR fz b vb → ∃ z, QFn Tryz.prog 56 [sV (.slice B1 m1 d1) (.slice B2 m2 d2), eV b vb] fz (resV (valE S.values b) z) := fun vb hvb => value_aux s (by omega) hs0 hvb rb hin
      cases va0 : valE S.values a with
      | none =>
        refine ⟨0, GFn.quiet ?_⟩
        (refine GFn.of_wp Tryz.func56 rfl Tryz.ntmps56 rfl rfl (fun w0 => ?_))
        ((refine Wp.seq ?_; refine Wp.region ?_; refine Seq.stepK (by exact rfl) (k_box _ (by exact rfl) (by exact rfl) (fun _ => ?_)); refine Seq.stepK (by exact rfl) (k_box _ (by exact rfl) (by exact rfl) (fun _ => ?_)); refine Zq ?_; refine Za ?_; refine Zq ?_; refine Za ?_; refine Seq.done ?_; refine Wp.seq ?_; refine Wp.seq ?_; refine Wp.region ?_; refine Zq ?_; refine Zf T ?_; refine Zq ?_; refine Zl T 0 ?_; refine Seq.done ?_; refine Wp.block ?_; refine Wp.seq ?_; refine Wp.region ?_))
        (((refine Zq ?_)); (refine q_eql_strD (by exact rfl) (by exact rfl) (fun e1 => ?_) (fun y1 => ?_)))
        · exact absurd e1 x1
        · ((refine Zq ?_; refine Za ?_; refine Seq.done ?_; refine Zd ?_; refine Wp.seq ?_; refine Wp.region ?_))
          (((refine Zq ?_)); (refine q_eql_strD (by exact rfl) (by exact rfl) (fun e2 => ?_) (fun y2 => ?_)))
          · exact absurd e2 x2
          · ((refine Zq ?_; refine Za ?_; refine Seq.done ?_; refine Zd ?_; refine Wp.skip ?_; refine blkN ?_; refine thenN ?_; refine Wp.seq ?_; refine Wp.draw (by decide +kernel) T.mixed (by kernel_rfl) (by kernel_rfl) ?_; refine QL.q ?_; refine ZL T 1 ?_; refine QL.q ?_; refine Zf T ?_; refine QL.q ?_; refine Zl T 0 ?_))
            (((refine QL.q ?_)); refine q_index T 0 (by exact rfl) (by exact rfl) (by exact rfl) (by exact rfl) (by exact rfl) (by exact rfl) hk (by first | rfl | omega) (by rw [hab]; rfl : e.kids[0]? = some a) (fun p hp => ?_))
            (((refine QL.q ?_)); refine q_load_at T (by exact rfl) (by exact rfl) (by exact rfl) hp (by exact rfl) ?_)
            intro cs hcs
            obtain ⟨va, rfl, ha⟩ := gExprL_open hcs
            obtain ⟨za, qa⟩ := ka va ha
            rw [va0] at qa
            (skip)
            (((refine QL.q ?_)); refine q_call (by exact rfl) (by exact rfl) qa ?_)
            ((refine QL.q ?_; refine Zm ?_; refine QL.q ?_; refine Ze ?_; refine QL.q ?_; refine Ze ?_; refine QL.q ?_; refine Za ?_; refine QL.q ?_; refine Za ?_; refine QL.done ?_; refine thenN ?_; refine Wp.seq ?_; refine Wp.seq ?_; refine Wp.region ?_; refine Zq ?_; refine Zm ?_; refine Zq ?_; refine q_not (by exact rfl) ?_; refine Seq.done ?_; refine Zc ?_; refine Wp.seq ?_; refine Wp.region ?_; refine Zq ?_; refine Za ?_; refine Zq ?_; refine Za ?_; refine Seq.done ?_; refine Wp.ret ?_; refine thenR ?_))
            exact ret2 rfl rfl rfl (by repeat (first | exact List.Sublist.refl _ | exact List.nil_sublist _ | refine List.Sublist.cons_cons _ ?_ | refine List.Sublist.cons _ ?_)) (by rw [valE_bin hb hab, va0]; rfl)
      | some x =>
        cases vb0 : valE S.values b with
        | none =>
          refine ⟨0, GFn.quiet ?_⟩
          (refine GFn.of_wp Tryz.func56 rfl Tryz.ntmps56 rfl rfl (fun w0 => ?_))
          ((refine Wp.seq ?_; refine Wp.region ?_; refine Seq.stepK (by exact rfl) (k_box _ (by exact rfl) (by exact rfl) (fun _ => ?_)); refine Seq.stepK (by exact rfl) (k_box _ (by exact rfl) (by exact rfl) (fun _ => ?_)); refine Zq ?_; refine Za ?_; refine Zq ?_; refine Za ?_; refine Seq.done ?_; refine Wp.seq ?_; refine Wp.seq ?_; refine Wp.region ?_; refine Zq ?_; refine Zf T ?_; refine Zq ?_; refine Zl T 0 ?_; refine Seq.done ?_; refine Wp.block ?_; refine Wp.seq ?_; refine Wp.region ?_))
          (((refine Zq ?_)); (refine q_eql_strD (by exact rfl) (by exact rfl) (fun e1 => ?_) (fun y1 => ?_)))
          · exact absurd e1 x1
          · ((refine Zq ?_; refine Za ?_; refine Seq.done ?_; refine Zd ?_; refine Wp.seq ?_; refine Wp.region ?_))
            (((refine Zq ?_)); (refine q_eql_strD (by exact rfl) (by exact rfl) (fun e2 => ?_) (fun y2 => ?_)))
            · exact absurd e2 x2
            · ((refine Zq ?_; refine Za ?_; refine Seq.done ?_; refine Zd ?_; refine Wp.skip ?_; refine blkN ?_; refine thenN ?_; refine Wp.seq ?_; refine Wp.draw (by decide +kernel) T.mixed (by kernel_rfl) (by kernel_rfl) ?_; refine QL.q ?_; refine ZL T 1 ?_; refine QL.q ?_; refine Zf T ?_; refine QL.q ?_; refine Zl T 0 ?_))
              (((refine QL.q ?_)); refine q_index T 0 (by exact rfl) (by exact rfl) (by exact rfl) (by exact rfl) (by exact rfl) (by exact rfl) hk (by first | rfl | omega) (by rw [hab]; rfl : e.kids[0]? = some a) (fun p hp => ?_))
              (((refine QL.q ?_)); refine q_load_at T (by exact rfl) (by exact rfl) (by exact rfl) hp (by exact rfl) ?_)
              intro cs hcs
              obtain ⟨va, rfl, ha⟩ := gExprL_open hcs
              obtain ⟨za, qa⟩ := ka va ha
              rw [va0] at qa
              (skip)
              (((refine QL.q ?_)); refine q_call (by exact rfl) (by exact rfl) qa ?_)
              ((refine QL.q ?_; refine Zm ?_; refine QL.q ?_; refine Ze ?_; refine QL.q ?_; refine Ze ?_; refine QL.q ?_; refine Za ?_; refine QL.q ?_; refine Za ?_; refine QL.done ?_; refine thenN ?_; refine Wp.seq ?_; refine Wp.seq ?_; refine Wp.region ?_; refine Zq ?_; refine Zm ?_; refine Zq ?_; refine q_not (by exact rfl) ?_; refine Seq.done ?_; refine Zd ?_; refine Wp.skip ?_; refine thenN ?_; refine Wp.seq ?_; refine Wp.draw (by decide +kernel) T.mixed (by kernel_rfl) (by kernel_rfl) ?_; refine QL.q ?_; refine ZL T 1 ?_; refine QL.q ?_; refine Zf T ?_; refine QL.q ?_; refine Zl T 0 ?_))
              (((refine QL.q ?_)); refine q_index T 1 (by exact rfl) (by exact rfl) (by exact rfl) (by exact rfl) (by exact rfl) (by exact rfl) hk (by first | rfl | omega) (by rw [hab]; rfl : e.kids[1]? = some b) (fun p2 hp2 => ?_))
              (((refine QL.q ?_)); refine q_load_at T (by exact rfl) (by exact rfl) (by exact rfl) hp2 (by exact rfl) ?_)
              intro cs2 hcs2
              obtain ⟨vb, rfl, hb2⟩ := gExprL_open hcs2
              obtain ⟨zb, qb⟩ := kb vb hb2
              rw [vb0] at qb
              (skip)
              (((refine QL.q ?_)); refine q_call (by exact rfl) (by exact rfl) qb ?_)
              ((refine QL.q ?_; refine Zm ?_; refine QL.q ?_; refine Ze ?_; refine QL.q ?_; refine Ze ?_; refine QL.q ?_; refine Za ?_; refine QL.q ?_; refine Za ?_; refine QL.done ?_; refine thenN ?_; refine Wp.seq ?_; refine Wp.seq ?_; refine Wp.region ?_; refine Zq ?_; refine Zm ?_; refine Zq ?_; refine q_not (by exact rfl) ?_; refine Seq.done ?_; refine Zc ?_; refine Wp.seq ?_; refine Wp.region ?_; refine Zq ?_; refine Za ?_; refine Zq ?_; refine Za ?_; refine Seq.done ?_; refine Wp.ret ?_; refine thenR ?_))
              exact ret2 rfl rfl rfl (by repeat (first | exact List.Sublist.refl _ | exact List.nil_sublist _ | refine List.Sublist.cons_cons _ ?_ | refine List.Sublist.cons _ ?_)) (by rw [valE_bin hb hab, va0, vb0]; rfl)
        | some y =>
          obtain ⟨z, qc⟩ := combine_q (fz := fz) (op := e.op) (valE_in' hin ra va0) (valE_in' hin rb vb0)
          refine ⟨z, GFn.quiet ?_⟩
          (refine GFn.of_wp Tryz.func56 rfl Tryz.ntmps56 rfl rfl (fun w0 => ?_))
          ((refine Wp.seq ?_; refine Wp.region ?_; refine Seq.stepK (by exact rfl) (k_box _ (by exact rfl) (by exact rfl) (fun _ => ?_)); refine Seq.stepK (by exact rfl) (k_box _ (by exact rfl) (by exact rfl) (fun _ => ?_)); refine Zq ?_; refine Za ?_; refine Zq ?_; refine Za ?_; refine Seq.done ?_; refine Wp.seq ?_; refine Wp.seq ?_; refine Wp.region ?_; refine Zq ?_; refine Zf T ?_; refine Zq ?_; refine Zl T 0 ?_; refine Seq.done ?_; refine Wp.block ?_; refine Wp.seq ?_; refine Wp.region ?_))
          (((refine Zq ?_)); (refine q_eql_strD (by exact rfl) (by exact rfl) (fun e1 => ?_) (fun y1 => ?_)))
          · exact absurd e1 x1
          · ((refine Zq ?_; refine Za ?_; refine Seq.done ?_; refine Zd ?_; refine Wp.seq ?_; refine Wp.region ?_))
            (((refine Zq ?_)); (refine q_eql_strD (by exact rfl) (by exact rfl) (fun e2 => ?_) (fun y2 => ?_)))
            · exact absurd e2 x2
            · ((refine Zq ?_; refine Za ?_; refine Seq.done ?_; refine Zd ?_; refine Wp.skip ?_; refine blkN ?_; refine thenN ?_; refine Wp.seq ?_; refine Wp.draw (by decide +kernel) T.mixed (by kernel_rfl) (by kernel_rfl) ?_; refine QL.q ?_; refine ZL T 1 ?_; refine QL.q ?_; refine Zf T ?_; refine QL.q ?_; refine Zl T 0 ?_))
              (((refine QL.q ?_)); refine q_index T 0 (by exact rfl) (by exact rfl) (by exact rfl) (by exact rfl) (by exact rfl) (by exact rfl) hk (by first | rfl | omega) (by rw [hab]; rfl : e.kids[0]? = some a) (fun p hp => ?_))
              (((refine QL.q ?_)); refine q_load_at T (by exact rfl) (by exact rfl) (by exact rfl) hp (by exact rfl) ?_)
              intro cs hcs
              obtain ⟨va, rfl, ha⟩ := gExprL_open hcs
              obtain ⟨za, qa⟩ := ka va ha
              rw [va0] at qa
              (skip)
              (((refine QL.q ?_)); refine q_call (by exact rfl) (by exact rfl) qa ?_)
              ((refine QL.q ?_; refine Zm ?_; refine QL.q ?_; refine Ze ?_; refine QL.q ?_; refine Ze ?_; refine QL.q ?_; refine Za ?_; refine QL.q ?_; refine Za ?_; refine QL.done ?_; refine thenN ?_; refine Wp.seq ?_; refine Wp.seq ?_; refine Wp.region ?_; refine Zq ?_; refine Zm ?_; refine Zq ?_; refine q_not (by exact rfl) ?_; refine Seq.done ?_; refine Zd ?_; refine Wp.skip ?_; refine thenN ?_; refine Wp.seq ?_; refine Wp.draw (by decide +kernel) T.mixed (by kernel_rfl) (by kernel_rfl) ?_; refine QL.q ?_; refine ZL T 1 ?_; refine QL.q ?_; refine Zf T ?_; refine QL.q ?_; refine Zl T 0 ?_))
              (((refine QL.q ?_)); refine q_index T 1 (by exact rfl) (by exact rfl) (by exact rfl) (by exact rfl) (by exact rfl) (by exact rfl) hk (by first | rfl | omega) (by rw [hab]; rfl : e.kids[1]? = some b) (fun p2 hp2 => ?_))
              (((refine QL.q ?_)); refine q_load_at T (by exact rfl) (by exact rfl) (by exact rfl) hp2 (by exact rfl) ?_)
              intro cs2 hcs2
              obtain ⟨vb, rfl, hb2⟩ := gExprL_open hcs2
              obtain ⟨zb, qb⟩ := kb vb hb2
              rw [vb0] at qb
              (skip)
              (((refine QL.q ?_)); refine q_call (by exact rfl) (by exact rfl) qb ?_)
              ((refine QL.q ?_; refine Zm ?_; refine QL.q ?_; refine Ze ?_; refine QL.q ?_; refine Ze ?_; refine QL.q ?_; refine Za ?_; refine QL.q ?_; refine Za ?_; refine QL.done ?_; refine thenN ?_; refine Wp.seq ?_; refine Wp.seq ?_; refine Wp.region ?_; refine Zq ?_; refine Zm ?_; refine Zq ?_; refine q_not (by exact rfl) ?_; refine Seq.done ?_; refine Zd ?_; refine Wp.skip ?_; refine thenN ?_; refine Wp.seq ?_; refine Wp.region ?_; refine Zq ?_; refine Zf T ?_; refine Zq ?_; refine Zl T 0 ?_; refine Zq ?_; refine Zm ?_; refine Zq ?_; refine Zm ?_))
              (((refine Zq ?_)); refine q_call (by exact rfl) (by exact rfl) qc ?_)
              ((refine Zq ?_; refine Ze ?_; refine Zq ?_; refine Ze ?_; refine Zq ?_; refine Za ?_; refine Zq ?_; refine Za ?_; refine Seq.done ?_; refine Wp.ret ?_))
              exact ret2 rfl rfl rfl (by repeat (first | exact List.Sublist.refl _ | exact List.nil_sublist _ | refine List.Sublist.cons_cons _ ?_ | refine List.Sublist.cons _ ?_)) (by rw [valE_bin hb hab, va0, vb0]; rfl)
end Go.Proofs.YtegmololhnipiaaGreatDoor
namespace Go.Proofs.YtegmololhnipiaaGreatDoor
open Go.Lx Go.Gr Go.RowKit
attribute [local instance 10] Classical.propDecidable
abbrev tV (t : GTest) (w1 w2 : Value) : Value := .agg #[.string t.op, .string t.a.op, .int .i64 t.a.n, w1, .string t.b.op, .int .i64 t.b.n, w2]
theorem test_iff {vs : List Int} {t : GTest} {x y : Int} (h1 : valE vs t.a = some x) (h2 : valE vs t.b = some y) : TestP vs t ↔ (t.op = kLt ∧ x < y) ∨ (t.op = kLe ∧ x ≤ y) ∨ (t.op = kEq ∧ x = y) := by
  constructor
  · rintro ⟨a, b, h3, h4, h5⟩
    rw [h1] at h3; rw [h2] at h4
    injection h3 with h3; injection h4 with h4
    subst h3 h4; exact h5
  · intro h; exact ⟨x, y, h1, h2, h⟩
theorem test_no1 {vs : List Int} {t : GTest} (h : valE vs t.a = none) : ¬ TestP vs t := by rintro ⟨a, b, h3, _⟩; rw [h] at h3; cases h3
theorem test_no2 {vs : List Int} {t : GTest} (h : valE vs t.b = none) : ¬ TestP vs t := by rintro ⟨a, b, _, h3, _⟩; rw [h] at h3; cases h3
set_option maxHeartbeats 1000000 in
theorem test_q {fz : FZ} {S : GState} {u1 u2 : Value} {t : GTest} {w1 w2 : Value} (hs : GStateR fz S u1 u2) (ht : GTestR fz t w1 w2) (hok : TestOk S.values.length t) (hin : InB S.values) :
    QFn Tryz.prog 76 [sV u1 u2, tV t w1 w2] fz (.bool (decide (TestP S.values t))) := by
  obtain ⟨za, qa⟩ := value_aux _ (Nat.le_refl _) hs ht.a hok.2.1 hin
  obtain ⟨zb, qb⟩ := value_aux _ (Nat.le_refl _) hs ht.b hok.2.2 hin
  (obtain ⟨B1, m1, d1, rfl, st⟩ := hs.tru; obtain ⟨B2, m2, d2, rfl, sv⟩ := hs.values)
  obtain ⟨Ea, na, ca, rfl, _⟩ := ht.a.kids
  obtain ⟨Eb, nb, cb, rfl, _⟩ := ht.b.kids
  refine GFn.quiet ?_
  (refine GFn.of_wp Tryz.func76 rfl Tryz.ntmps76 rfl rfl (fun w0 => ?_))
  cases va0 : valE S.values t.a with
  | none =>
    rw [va0] at qa
    ((refine Wp.seq ?_; refine Wp.region ?_; refine Seq.stepK (by exact rfl) (k_box _ (by exact rfl) (by exact rfl) (fun _ => ?_)); refine Seq.stepK (by exact rfl) (k_box _ (by exact rfl) (by exact rfl) (fun _ => ?_)); refine Zq ?_; refine Za ?_; refine Seq.done ?_; refine Wp.seq ?_; refine Wp.region ?_; refine Zq ?_; refine ZL T 1 ?_; refine Zq ?_; refine Zf T ?_))
    (((refine Zq ?_)); refine q_load_own_sub (vs := [.string t.a.op, .int .i64 t.a.n, .slice Ea na ca]) T 0 (by exact rfl) (by exact rfl) (by exact rfl) (by exact rfl) (by exact rfl) (by exact rfl) ?_)
    (skip)
    (((refine Zq ?_)); refine q_call (by exact rfl) (by exact rfl) qa ?_)
    ((refine Zq ?_; refine Zm ?_; refine Zq ?_; refine Ze ?_; refine Zq ?_; refine Ze ?_; refine Zq ?_; refine Za ?_; refine Zq ?_; refine Za ?_; refine Seq.done ?_; refine Wp.seq ?_; refine Wp.region ?_; refine Zq ?_; refine ZL T 1 ?_; refine Zq ?_; refine Zf T ?_))
    (((refine Zq ?_)); refine q_load_own_sub (vs := [.string t.b.op, .int .i64 t.b.n, .slice Eb nb cb]) T 0 (by exact rfl) (by exact rfl) (by exact rfl) (by exact rfl) (by exact rfl) (by exact rfl) ?_)
    (skip)
    (((refine Zq ?_)); refine q_call (by exact rfl) (by exact rfl) qb ?_)
    ((refine Zq ?_; refine Zm ?_; refine Zq ?_; refine Ze ?_; refine Zq ?_; refine Ze ?_; refine Zq ?_; refine Za ?_; refine Zq ?_; refine Za ?_; refine Seq.done ?_; refine Wp.seq ?_; refine Wp.region ?_; refine Zq ?_; refine Zm ?_; refine Zq ?_; refine Zm ?_; refine Zn ?_; refine Zq ?_; refine Zu ?_; refine Zq ?_; refine Zm ?_; refine Zn ?_; refine Zn ?_; refine Zn ?_; refine Zn ?_; refine Zo ?_; refine Zo ?_; refine Zo ?_; refine Zn ?_; refine Zn ?_; refine Zo ?_; refine Zo ?_; refine Zo ?_; refine Zo ?_; refine Zo ?_; refine Zo ?_; refine Zo ?_; refine Zo ?_; refine Zn ?_; refine Zn ?_; refine Zo ?_; refine Zo ?_; refine Zo ?_; refine Zo ?_; refine Zo ?_; refine Zo ?_; refine Zo ?_; refine Zo ?_; refine Zn ?_; refine Zq ?_; refine Zu ?_; refine Zq ?_; refine Za ?_; refine Seq.done ?_; refine Wp.ret ?_))
    (exact ret1 rfl rfl (by repeat (first | exact List.Sublist.refl _ | exact List.nil_sublist _ | refine List.Sublist.cons_cons _ ?_ | refine List.Sublist.cons _ ?_)) (bool_false (test_no1 va0)))
  | some x =>
    rw [va0] at qa
    cases vb0 : valE S.values t.b with
    | none =>
      rw [vb0] at qb
      ((refine Wp.seq ?_; refine Wp.region ?_; refine Seq.stepK (by exact rfl) (k_box _ (by exact rfl) (by exact rfl) (fun _ => ?_)); refine Seq.stepK (by exact rfl) (k_box _ (by exact rfl) (by exact rfl) (fun _ => ?_)); refine Zq ?_; refine Za ?_; refine Seq.done ?_; refine Wp.seq ?_; refine Wp.region ?_; refine Zq ?_; refine ZL T 1 ?_; refine Zq ?_; refine Zf T ?_))
      (((refine Zq ?_)); refine q_load_own_sub (vs := [.string t.a.op, .int .i64 t.a.n, .slice Ea na ca]) T 0 (by exact rfl) (by exact rfl) (by exact rfl) (by exact rfl) (by exact rfl) (by exact rfl) ?_)
      (skip)
      (((refine Zq ?_)); refine q_call (by exact rfl) (by exact rfl) qa ?_)
      ((refine Zq ?_; refine Zm ?_; refine Zq ?_; refine Ze ?_; refine Zq ?_; refine Ze ?_; refine Zq ?_; refine Za ?_; refine Zq ?_; refine Za ?_; refine Seq.done ?_; refine Wp.seq ?_; refine Wp.region ?_; refine Zq ?_; refine ZL T 1 ?_; refine Zq ?_; refine Zf T ?_))
      (((refine Zq ?_)); refine q_load_own_sub (vs := [.string t.b.op, .int .i64 t.b.n, .slice Eb nb cb]) T 0 (by exact rfl) (by exact rfl) (by exact rfl) (by exact rfl) (by exact rfl) (by exact rfl) ?_)
      (skip)
      (((refine Zq ?_)); refine q_call (by exact rfl) (by exact rfl) qb ?_)
      ((refine Zq ?_; refine Zm ?_; refine Zq ?_; refine Ze ?_; refine Zq ?_; refine Ze ?_; refine Zq ?_; refine Za ?_; refine Zq ?_; refine Za ?_; refine Seq.done ?_; refine Wp.seq ?_; refine Wp.region ?_; refine Zq ?_; refine Zm ?_; refine Zq ?_; refine Zm ?_; refine Zy ?_; refine Zm ?_; refine Zq ?_; refine Zt ?_; refine Zq ?_; refine Zm ?_; refine Zn ?_; refine Zn ?_; refine Zn ?_; refine Zn ?_; refine Zo ?_; refine Zo ?_; refine Zo ?_; refine Zn ?_; refine Zn ?_; refine Zo ?_; refine Zo ?_; refine Zo ?_; refine Zo ?_; refine Zo ?_; refine Zo ?_; refine Zo ?_; refine Zo ?_; refine Zn ?_; refine Zn ?_; refine Zo ?_; refine Zo ?_; refine Zo ?_; refine Zo ?_; refine Zo ?_; refine Zo ?_; refine Zo ?_; refine Zo ?_; refine Zn ?_; refine Zq ?_; refine Zu ?_; refine Zq ?_; refine Za ?_; refine Seq.done ?_; refine Wp.ret ?_))
      (exact ret1 rfl rfl (by repeat (first | exact List.Sublist.refl _ | exact List.nil_sublist _ | refine List.Sublist.cons_cons _ ?_ | refine List.Sublist.cons _ ?_)) (bool_false (test_no2 vb0)))
    | some y =>
      rw [vb0] at qb
      have qa' : QFn Tryz.prog _ _ fz (.tuple #[.int .i64 x, .bool true]) := qa
      have qb' : QFn Tryz.prog _ _ fz (.tuple #[.int .i64 y, .bool true]) := qb
      have ti := test_iff va0 vb0
      ((refine Wp.seq ?_; refine Wp.region ?_; refine Seq.stepK (by exact rfl) (k_box _ (by exact rfl) (by exact rfl) (fun _ => ?_)); refine Seq.stepK (by exact rfl) (k_box _ (by exact rfl) (by exact rfl) (fun _ => ?_)); refine Zq ?_; refine Za ?_; refine Seq.done ?_; refine Wp.seq ?_; refine Wp.region ?_; refine Zq ?_; refine ZL T 1 ?_; refine Zq ?_; refine Zf T ?_))
      (((refine Zq ?_)); refine q_load_own_sub (vs := [.string t.a.op, .int .i64 t.a.n, .slice Ea na ca]) T 0 (by exact rfl) (by exact rfl) (by exact rfl) (by exact rfl) (by exact rfl) (by exact rfl) ?_)
      (skip)
      (((refine Zq ?_)); refine q_call (by exact rfl) (by exact rfl) qa' ?_)
      ((refine Zq ?_; refine Zm ?_; refine Zq ?_; refine Ze ?_; refine Zq ?_; refine Ze ?_; refine Zq ?_; refine Za ?_; refine Zq ?_; refine Za ?_; refine Seq.done ?_; refine Wp.seq ?_; refine Wp.region ?_; refine Zq ?_; refine ZL T 1 ?_; refine Zq ?_; refine Zf T ?_))
      (((refine Zq ?_)); refine q_load_own_sub (vs := [.string t.b.op, .int .i64 t.b.n, .slice Eb nb cb]) T 0 (by exact rfl) (by exact rfl) (by exact rfl) (by exact rfl) (by exact rfl) (by exact rfl) ?_)
      (skip)
      (((refine Zq ?_)); refine q_call (by exact rfl) (by exact rfl) qb' ?_)
      rcases hok.1 with ho | ho | ho
      · have o2 : ¬ t.op = kLe := by rw [ho]; exact bytes_ne (by decide)
        have o3 : ¬ t.op = kEq := by rw [ho]; exact bytes_ne (by decide)
        ((refine Zq ?_; refine Zm ?_; refine Zq ?_; refine Ze ?_; refine Zq ?_; refine Ze ?_; refine Zq ?_; refine Za ?_; refine Zq ?_; refine Za ?_; refine Seq.done ?_; refine Wp.seq ?_; refine Wp.region ?_; refine Zq ?_; refine Zm ?_; refine Zq ?_; refine Zm ?_; refine Zy ?_; refine Zm ?_; refine Zq ?_; refine Zt ?_; refine Zq ?_; refine Zm ?_; refine Zy ?_; refine Zf T ?_; refine Zy ?_; refine Zl T 0 ?_))
        (((refine Zy ?_)); (refine q_eql_strD (by exact rfl) (by exact rfl) (fun p1 => ?_) (fun n1 => ?_)))
        · ((refine Zy ?_; refine Zm ?_; refine Zy ?_; refine Zm ?_; refine Zy ?_; refine Zm ?_))
          (((refine Zy ?_)); (refine q_lssD (by exact rfl) (by exact rfl) (fun c1 => ?_) (fun c1 => ?_)))
          · ((refine Zy ?_; refine Zt ?_; refine Zy ?_; refine Zm ?_; refine Zn ?_; refine Zn ?_; refine Zn ?_; refine Zn ?_; refine Zo ?_; refine Zo ?_; refine Zo ?_; refine Zn ?_; refine Zy ?_; refine Zt ?_; refine Zy ?_; refine Zm ?_; refine Zn ?_; refine Zn ?_; refine Zn ?_; refine Zn ?_; refine Zo ?_; refine Zo ?_; refine Zo ?_; refine Zn ?_; refine Zy ?_; refine Zt ?_; refine Zq ?_; refine Zt ?_; refine Zq ?_; refine Za ?_; refine Seq.done ?_; refine Wp.ret ?_))
            (exact ret1 rfl rfl (by repeat (first | exact List.Sublist.refl _ | exact List.nil_sublist _ | refine List.Sublist.cons_cons _ ?_ | refine List.Sublist.cons _ ?_)) (bool_true (ti.2 (.inl ⟨ho, c1⟩))))
          · ((refine Zy ?_; refine Zt ?_; refine Zy ?_; refine Zm ?_; refine Zy ?_; refine Zf T ?_; refine Zy ?_; refine Zl T 0 ?_))
            (((refine Zy ?_)); (refine q_eql_strD (by exact rfl) (by exact rfl) (fun p2 => ?_) (fun n2 => ?_)))
            · exact absurd p2 o2
            · ((refine Zy ?_; refine Zm ?_; refine Zn ?_; refine Zn ?_; refine Zn ?_; refine Zy ?_; refine Zu ?_; refine Zy ?_; refine Zu ?_; refine Zy ?_; refine Zm ?_; refine Zy ?_; refine Zf T ?_; refine Zy ?_; refine Zl T 0 ?_))
              (((refine Zy ?_)); (refine q_eql_strD (by exact rfl) (by exact rfl) (fun p3 => ?_) (fun n3 => ?_)))
              · exact absurd p3 o3
              · ((refine Zy ?_; refine Zm ?_; refine Zn ?_; refine Zn ?_; refine Zn ?_; refine Zy ?_; refine Zu ?_; refine Zy ?_; refine Zu ?_; refine Zq ?_; refine Zt ?_; refine Zq ?_; refine Za ?_; refine Seq.done ?_; refine Wp.ret ?_))
                (exact ret1 rfl rfl (by repeat (first | exact List.Sublist.refl _ | exact List.nil_sublist _ | refine List.Sublist.cons_cons _ ?_ | refine List.Sublist.cons _ ?_)) (bool_false (fun h => (ti.1 h).elim (fun h => c1 h.2) (fun h => h.elim (fun h => o2 h.1) (fun h => o3 h.1)))))
        · exact absurd ho n1
      · have o1 : ¬ t.op = kLt := by rw [ho]; exact bytes_ne (by decide)
        have o3 : ¬ t.op = kEq := by rw [ho]; exact bytes_ne (by decide)
        ((refine Zq ?_; refine Zm ?_; refine Zq ?_; refine Ze ?_; refine Zq ?_; refine Ze ?_; refine Zq ?_; refine Za ?_; refine Zq ?_; refine Za ?_; refine Seq.done ?_; refine Wp.seq ?_; refine Wp.region ?_; refine Zq ?_; refine Zm ?_; refine Zq ?_; refine Zm ?_; refine Zy ?_; refine Zm ?_; refine Zq ?_; refine Zt ?_; refine Zq ?_; refine Zm ?_; refine Zy ?_; refine Zf T ?_; refine Zy ?_; refine Zl T 0 ?_))
        (((refine Zy ?_)); (refine q_eql_strD (by exact rfl) (by exact rfl) (fun p1 => ?_) (fun n1 => ?_)))
        · exact absurd p1 o1
        · ((refine Zy ?_; refine Zm ?_; refine Zn ?_; refine Zn ?_; refine Zn ?_; refine Zy ?_; refine Zu ?_; refine Zy ?_; refine Zm ?_; refine Zy ?_; refine Zf T ?_; refine Zy ?_; refine Zl T 0 ?_))
          (((refine Zy ?_)); (refine q_eql_strD (by exact rfl) (by exact rfl) (fun p2 => ?_) (fun n2 => ?_)))
          · ((refine Zy ?_; refine Zm ?_; refine Zy ?_; refine Zm ?_; refine Zy ?_; refine Zm ?_))
            (((refine Zy ?_)); (refine q_leqD (by exact rfl) (by exact rfl) (fun c1 => ?_) (fun c1 => ?_)))
            · ((refine Zy ?_; refine Zt ?_; refine Zy ?_; refine Zu ?_; refine Zy ?_; refine Zm ?_; refine Zn ?_; refine Zn ?_; refine Zn ?_; refine Zn ?_; refine Zo ?_; refine Zo ?_; refine Zo ?_; refine Zn ?_; refine Zy ?_; refine Zt ?_; refine Zq ?_; refine Zt ?_; refine Zq ?_; refine Za ?_; refine Seq.done ?_; refine Wp.ret ?_))
              (exact ret1 rfl rfl (by repeat (first | exact List.Sublist.refl _ | exact List.nil_sublist _ | refine List.Sublist.cons_cons _ ?_ | refine List.Sublist.cons _ ?_)) (bool_true (ti.2 (.inr (.inl ⟨ho, c1⟩)))))
            · ((refine Zy ?_; refine Zt ?_; refine Zy ?_; refine Zu ?_; refine Zy ?_; refine Zm ?_; refine Zy ?_; refine Zf T ?_; refine Zy ?_; refine Zl T 0 ?_))
              (((refine Zy ?_)); (refine q_eql_strD (by exact rfl) (by exact rfl) (fun p3 => ?_) (fun n3 => ?_)))
              · exact absurd p3 o3
              · ((refine Zy ?_; refine Zm ?_; refine Zn ?_; refine Zn ?_; refine Zn ?_; refine Zy ?_; refine Zu ?_; refine Zy ?_; refine Zu ?_; refine Zq ?_; refine Zt ?_; refine Zq ?_; refine Za ?_; refine Seq.done ?_; refine Wp.ret ?_))
                (exact ret1 rfl rfl (by repeat (first | exact List.Sublist.refl _ | exact List.nil_sublist _ | refine List.Sublist.cons_cons _ ?_ | refine List.Sublist.cons _ ?_)) (bool_false (fun h => (ti.1 h).elim (fun h => o1 h.1) (fun h => h.elim (fun h => c1 h.2) (fun h => o3 h.1)))))
          · exact absurd ho n2
      · have o1 : ¬ t.op = kLt := by rw [ho]; exact bytes_ne (by decide)
        have o2 : ¬ t.op = kLe := by rw [ho]; exact bytes_ne (by decide)
        ((refine Zq ?_; refine Zm ?_; refine Zq ?_; refine Ze ?_; refine Zq ?_; refine Ze ?_; refine Zq ?_; refine Za ?_; refine Zq ?_; refine Za ?_; refine Seq.done ?_; refine Wp.seq ?_; refine Wp.region ?_; refine Zq ?_; refine Zm ?_; refine Zq ?_; refine Zm ?_; refine Zy ?_; refine Zm ?_; refine Zq ?_; refine Zt ?_; refine Zq ?_; refine Zm ?_; refine Zy ?_; refine Zf T ?_; refine Zy ?_; refine Zl T 0 ?_))
        (((refine Zy ?_)); (refine q_eql_strD (by exact rfl) (by exact rfl) (fun p1 => ?_) (fun n1 => ?_)))
        · exact absurd p1 o1
        · ((refine Zy ?_; refine Zm ?_; refine Zn ?_; refine Zn ?_; refine Zn ?_; refine Zy ?_; refine Zu ?_; refine Zy ?_; refine Zm ?_; refine Zy ?_; refine Zf T ?_; refine Zy ?_; refine Zl T 0 ?_))
          (((refine Zy ?_)); (refine q_eql_strD (by exact rfl) (by exact rfl) (fun p2 => ?_) (fun n2 => ?_)))
          · exact absurd p2 o2
          · ((refine Zy ?_; refine Zm ?_; refine Zn ?_; refine Zn ?_; refine Zn ?_; refine Zy ?_; refine Zu ?_; refine Zy ?_; refine Zu ?_; refine Zy ?_; refine Zm ?_; refine Zy ?_; refine Zf T ?_; refine Zy ?_; refine Zl T 0 ?_))
            (((refine Zy ?_)); (refine q_eql_strD (by exact rfl) (by exact rfl) (fun p3 => ?_) (fun n3 => ?_)))
            · ((refine Zy ?_; refine Zm ?_; refine Zy ?_; refine Zm ?_; refine Zy ?_; refine Zm ?_))
              (((refine Zy ?_)); (refine q_eqlD (by exact rfl) (by exact rfl) (fun c1 => ?_) (fun c1 => ?_)))
              · ((refine Zy ?_; refine Zt ?_; refine Zy ?_; refine Zu ?_; refine Zq ?_; refine Zt ?_; refine Zq ?_; refine Za ?_; refine Seq.done ?_; refine Wp.ret ?_))
                (exact ret1 rfl rfl (by repeat (first | exact List.Sublist.refl _ | exact List.nil_sublist _ | refine List.Sublist.cons_cons _ ?_ | refine List.Sublist.cons _ ?_)) (bool_true (ti.2 (.inr (.inr ⟨ho, c1⟩)))))
              · ((refine Zy ?_; refine Zt ?_; refine Zy ?_; refine Zu ?_; refine Zq ?_; refine Zt ?_; refine Zq ?_; refine Za ?_; refine Seq.done ?_; refine Wp.ret ?_))
                (exact ret1 rfl rfl (by repeat (first | exact List.Sublist.refl _ | exact List.nil_sublist _ | refine List.Sublist.cons_cons _ ?_ | refine List.Sublist.cons _ ?_)) (bool_false (fun h => (ti.1 h).elim (fun h => o1 h.1) (fun h => h.elim (fun h => o2 h.1) (fun h => c1 h.2)))))
            · exact absurd ho n3
end Go.Proofs.YtegmololhnipiaaGreatDoor
namespace Go.Proofs.YtegmololhnipiaaGreatDoor
open Go.Lx Go.Gr Go.RowKit
attribute [local instance 10] Classical.propDecidable
theorem indexInt_q {fz : FZ} {A : Option Addr} {n c : Nat} {l : List Int} {ff : FuncId} {cap : List Value} {p : Int → Prop} [DecidablePred p] (h1 : Sl intL fz A n c l) (hq : ∀ x, I64 x → QFn Tryz.prog ff (.int .i64 x :: cap) fz (.bool (decide (p x)))) :
    QFn Tryz.prog 111 [.slice A n c, .func (.func ff) #[] cap.toArray] fz (.int .i64 (firstI p l 0)) := by
  refine GFn.quiet ?_
  (refine GFn.of_wp Tryz.func111 rfl Tryz.ntmps111 rfl rfl (fun w0 => ?_))
  have l1 := h1.len
  have hm := h1.short
  ((refine Wp.seq ?_; refine Wp.region ?_; refine Zq ?_; refine Za ?_; refine Seq.done ?_; refine Wp.seq ?_; refine Wp.seq ?_; refine Wp.region ?_; refine Zq ?_; refine Zm ?_; refine Zq ?_; refine Zs T ?_; refine Zq ?_; refine Zm ?_; refine Seq.done ?_; refine Wp.block ?_))
  (refine Wp.loop (fun q σ fz' H' => ∃ k : Nat, k ≤ n ∧ q = n - k ∧ σ = [(8, .int .i64 k), (7, .int .i64 n), (0, .slice A n c), (1, .func (.func ff) #[] cap.toArray)] ∧ fz = fz' ∧ H' = [] ∧ (∀ i, i < k → ∀ x, l[i]? = some x → ¬ p x)) ⟨0, Nat.zero_le _, rfl, rfl, rfl, rfl, (fun i hi => absurd hi (by omega))⟩ (by repeat (first | exact trivial | refine ⟨by exact rfl, ?_⟩)) (by repeat (first | exact List.Sublist.refl _ | exact List.nil_sublist _ | refine List.Sublist.cons_cons _ ?_ | refine List.Sublist.cons _ ?_)) ?_; rintro q σ fz' H' ⟨k, hk, rfl, rfl, rfl, rfl, hh⟩)
  ((refine Wp.seq ?_; refine Wp.region ?_))
  (((refine Zq ?_)); (refine q_lssD (by exact rfl) (by exact rfl) (fun hlt => ?_) (fun hge => ?_)))
  · ((refine Seq.done ?_; refine Wp.seq ?_; refine Zc ?_; refine Wp.skip ?_; refine thenN ?_; refine Wp.seq ?_; refine Wp.block ?_; refine Wp.seq ?_; refine Wp.region ?_; refine Zq ?_; refine Zm ?_; refine Zq ?_; refine Za ?_; refine Seq.done ?_; refine Wp.seq ?_; refine Wp.region ?_; refine Zq ?_; refine Zm ?_; refine Zq ?_; refine Zm ?_; refine Zq ?_; refine Zm ?_))
    obtain ⟨x, hx⟩ := get_some (l := l) (k := k) (by omega)
    (((refine Zq ?_)); refine q_index T k (by exact rfl) (by exact rfl) (by exact rfl) (by exact rfl) (by exact rfl) (by exact rfl) h1 (by first | rfl | omega) hx (fun a ha => ?_))
    (((refine Zq ?_)); refine q_load_int T (by exact rfl) (by exact rfl) (by exact rfl) ha (fun ix => ?_))
    (skip)
    (((refine Zq ?_)); refine q_callvD (by exact rfl) (by exact rfl) (by exact rfl) (hq x ix) (fun c1 => ?_) (fun c1 => ?_))
    · ((refine Seq.done ?_; refine Zc ?_; refine Wp.seq ?_; refine Wp.region ?_; refine Zq ?_; refine Zm ?_; refine Zq ?_; refine Za ?_; refine Seq.done ?_; refine Wp.ret ?_; refine blkR ?_; refine thenR ?_; refine loopR ?_; refine blkR ?_; refine thenR ?_))
      (exact ret1 rfl rfl (by repeat (first | exact List.Sublist.refl _ | exact List.nil_sublist _ | refine List.Sublist.cons_cons _ ?_ | refine List.Sublist.cons _ ?_)) (by rw [firstI_at hh hx c1, Int.zero_add]))
    · ((refine Seq.done ?_; refine Zd ?_; refine Wp.skip ?_; refine blkN ?_; refine thenN ?_; refine Wp.region ?_; refine Zq ?_; refine q_add (by exact rfl) (by exact rfl) (wrap_in (by omega)) ?_; refine Zq ?_; refine Zm ?_; refine Seq.end_ ?_))
      (exact loopN ⟨k + 1, by omega, rfl, rfl, rfl, rfl, (all_next hh hx c1)⟩ (by omega) (by repeat (first | exact trivial | refine ⟨by exact rfl, ?_⟩)) (by repeat (first | exact List.Sublist.refl _ | exact List.nil_sublist _ | refine List.Sublist.cons_cons _ ?_ | refine List.Sublist.cons _ ?_)))
  · ((refine Seq.done ?_; refine Wp.seq ?_; refine Zd ?_; refine Wp.exit ?_; refine thenX ?_; refine loopX ?_; refine blkX (by exact rfl) ?_; refine thenN ?_; refine Wp.seq ?_; refine Wp.region ?_; refine Zq ?_; refine Za ?_; refine Seq.done ?_; refine Wp.ret ?_))
    (exact ret1 rfl rfl (by repeat (first | exact List.Sublist.refl _ | exact List.nil_sublist _ | refine List.Sublist.cons_cons _ ?_ | refine List.Sublist.cons _ ?_)) (by rw [firstI_none (all_of hh (by omega))]))
theorem containsInt_q {fz : FZ} {A : Option Addr} {n c : Nat} {l : List Int} {ff : FuncId} {cap : List Value} {p : Int → Prop} [DecidablePred p] (h1 : Sl intL fz A n c l) (hq : ∀ x, I64 x → QFn Tryz.prog ff (.int .i64 x :: cap) fz (.bool (decide (p x)))) :
    QFn Tryz.prog 72 [.slice A n c, .func (.func ff) #[] cap.toArray] fz (.bool (decide (∃ x ∈ l, p x))) := by
  refine GFn.quiet ?_
  (refine GFn.of_wp Tryz.func72 rfl Tryz.ntmps72 rfl rfl (fun w0 => ?_))
  ((refine Wp.seq ?_; refine Wp.region ?_; refine Zq ?_; refine Za ?_; refine Seq.done ?_; refine Wp.seq ?_; refine Wp.region ?_; refine Zq ?_; refine Zm ?_; refine Zq ?_; refine Zm ?_))
  (((refine Zq ?_)); refine q_call (by exact rfl) (by exact rfl) (indexInt_q h1 hq) ?_)
  (((refine Zq ?_)); (refine q_geqD (by exact rfl) (by exact rfl) (fun c1 => ?_) (fun c1 => ?_)))
  · ((refine Zq ?_; refine Za ?_; refine Seq.done ?_; refine Wp.ret ?_))
    (exact ret1 rfl rfl (by repeat (first | exact List.Sublist.refl _ | exact List.nil_sublist _ | refine List.Sublist.cons_cons _ ?_ | refine List.Sublist.cons _ ?_)) (bool_true ((firstI_iff (Int.le_refl 0)).1 c1)))
  · ((refine Zq ?_; refine Za ?_; refine Seq.done ?_; refine Wp.ret ?_))
    (exact ret1 rfl rfl (by repeat (first | exact List.Sublist.refl _ | exact List.nil_sublist _ | refine List.Sublist.cons_cons _ ?_ | refine List.Sublist.cons _ ?_)) (bool_false (fun h => c1 ((firstI_iff (Int.le_refl 0)).2 h))))
end Go.Proofs.YtegmololhnipiaaGreatDoor
namespace Go.Proofs.YtegmololhnipiaaGreatDoor
open Go.Lx Go.Gr Go.RowKit
attribute [local instance 10] Classical.propDecidable
theorem nan_q {fz : FZ} {a : Int} : QFn Tryz.prog 78 [.int .i64 a] fz (.bool false) := by
  refine GFn.quiet ?_
  (refine GFn.of_wp Tryz.func78 rfl Tryz.ntmps78 rfl rfl (fun w0 => ?_))
  ((refine Wp.seq ?_; refine Wp.region ?_; refine Zq ?_; refine Za ?_; refine Seq.done ?_; refine Wp.seq ?_; refine Wp.region ?_; refine Zq ?_; refine Zm ?_; refine Zq ?_; refine Zm ?_))
  (((refine Zq ?_)); (refine q_neqD (by exact rfl) (by exact rfl) (fun c1 => ?_) (fun c1 => ?_)))
  · exact absurd rfl c1
  · ((refine Zq ?_; refine Za ?_; refine Seq.done ?_; refine Wp.ret ?_))
    (exact ret1 rfl rfl (by repeat (first | exact List.Sublist.refl _ | exact List.nil_sublist _ | refine List.Sublist.cons_cons _ ?_ | refine List.Sublist.cons _ ?_)) rfl)
theorem cnan_q {fz : FZ} {a : Int} : QFn Tryz.prog 113 [.int .i64 a] fz (.bool false) := by
  refine GFn.quiet ?_
  (refine GFn.of_wp Tryz.func113 rfl Tryz.ntmps113 rfl rfl (fun w0 => ?_))
  ((refine Wp.seq ?_; refine Wp.region ?_; refine Zq ?_; refine Za ?_; refine Seq.done ?_; refine Wp.seq ?_; refine Wp.region ?_; refine Zq ?_; refine Zm ?_; refine Zq ?_; refine Zm ?_))
  (((refine Zq ?_)); (refine q_neqD (by exact rfl) (by exact rfl) (fun c1 => ?_) (fun c1 => ?_)))
  · exact absurd rfl c1
  · ((refine Zq ?_; refine Za ?_; refine Seq.done ?_; refine Wp.ret ?_))
    (exact ret1 rfl rfl (by repeat (first | exact List.Sublist.refl _ | exact List.nil_sublist _ | refine List.Sublist.cons_cons _ ?_ | refine List.Sublist.cons _ ?_)) rfl)
theorem less_q {fz : FZ} {a b : Int} : QFn Tryz.prog 77 [.int .i64 a, .int .i64 b] fz (.bool (decide (a < b))) := by
  refine GFn.quiet ?_
  (refine GFn.of_wp Tryz.func77 rfl Tryz.ntmps77 rfl rfl (fun w0 => ?_))
  ((refine Wp.seq ?_; refine Wp.region ?_; refine Zq ?_; refine Za ?_; refine Seq.done ?_; refine Wp.seq ?_; refine Wp.region ?_; refine Zq ?_; refine Zm ?_))
  (((refine Zq ?_)); refine q_call (by exact rfl) (by exact rfl) (cnan_q (a := a)) ?_)
  ((refine Zq ?_; refine Zm ?_; refine Zn ?_; refine Zn ?_; refine Zn ?_; refine Zq ?_; refine Zu ?_; refine Zq ?_; refine Zm ?_; refine Zy ?_; refine Zm ?_; refine Zy ?_; refine Zm ?_))
  (((refine Zy ?_)); (refine q_lssD (by exact rfl) (by exact rfl) (fun c1 => ?_) (fun c1 => ?_)))
  · ((refine Zq ?_; refine Zu ?_; refine Zq ?_; refine Za ?_; refine Seq.done ?_; refine Wp.ret ?_))
    (exact ret1 rfl rfl (by repeat (first | exact List.Sublist.refl _ | exact List.nil_sublist _ | refine List.Sublist.cons_cons _ ?_ | refine List.Sublist.cons _ ?_)) (bool_true c1))
  · ((refine Zq ?_; refine Zu ?_; refine Zq ?_; refine Za ?_; refine Seq.done ?_; refine Wp.ret ?_))
    (exact ret1 rfl rfl (by repeat (first | exact List.Sublist.refl _ | exact List.nil_sublist _ | refine List.Sublist.cons_cons _ ?_ | refine List.Sublist.cons _ ?_)) (bool_false c1))
end Go.Proofs.YtegmololhnipiaaGreatDoor
namespace Go.Proofs.YtegmololhnipiaaGreatDoor
open Go.Lx Go.Gr Go.RowKit
attribute [local instance 10] Classical.propDecidable
set_option maxRecDepth 20000
def lowI (t : Int) : List Int → Int
  | [] => 0
  | x :: r => if x < t then 1 + lowI t r else 0
theorem lowI_eq {t : Int} : ∀ {l : List Int} {i : Nat}, i ≤ l.length → (∀ j y, j < i → l[j]? = some y → y < t) → (∀ y, l[i]? = some y → t ≤ y) → lowI t l = i
  | [], i, h, _, _ => by simp at h; subst h; rfl
  | x :: r, 0, _, _, h2 => by
    have := h2 x rfl
    unfold lowI
    rw [if_neg (by omega)]; rfl
  | x :: r, i + 1, h, h1, h2 => by
    have h0 := h1 0 x (by omega) rfl
    unfold lowI
    rw [if_pos h0, lowI_eq (l := r) (i := i) (by simpa using h) (fun j y hj hy => h1 (j + 1) y (by omega) (by simpa using hy)) (fun y hy => h2 y (by simpa using hy))]
    omega
theorem half {i j : Nat} : ((i : Int) + j).fdiv (2 ^ (min (1 : Int).toNat IntKind.u64.bits)) = ((i + j) / 2 : Nat) := by
  have : (2 ^ (min (1 : Int).toNat IntKind.u64.bits) : Int) = 2 := by decide
  rw [this, Int.fdiv_eq_ediv_of_nonneg _ (by omega)]
  omega
theorem wrapU {n : Int} (h : 0 ≤ n ∧ n ≤ 18446744073709551615) : IntKind.u64.wrap n = n := by
  simp [IntKind.wrap, IntKind.bits, IntKind.signed]
  omega
theorem asc_lo {m t : Int} {l : List Int} (ha : AscP m l) {h : Nat} {x : Int} (hx : l[h]? = some x) (hlt : x < t) {i : Nat} {y : Int} (hi : i < h + 1) (hy : l[i]? = some y) : y < t := by
  by_cases e : i = h
  · subst e; rw [hx] at hy; injection hy with hy; omega
  · have := ha.lt hy hx (by omega); omega
theorem asc_hi {m t : Int} {l : List Int} (ha : AscP m l) {h : Nat} {x : Int} (hx : l[h]? = some x) (hlt : ¬ x < t) {i : Nat} {y : Int} (hi : h ≤ i) (hy : l[i]? = some y) : t ≤ y := by
  by_cases e : i = h
  · subst e; rw [hx] at hy; injection hy with hy; omega
  · have := ha.lt hx hy (by omega); omega
theorem search_q {fz : FZ} {A : Option Addr} {n c : Nat} {l : List Int} {t m : Int} (h1 : Sl intL fz A n c l) (ha : AscP m l) :
    QFn Tryz.prog 49 [.slice A n c, .int .i64 t] fz (.tuple #[.int .i64 (lowI t l), .bool (decide (t ∈ l))]) := by
  refine GFn.quiet ?_
  (refine GFn.of_wp Tryz.func49 rfl Tryz.ntmps49 rfl rfl (fun w0 => ?_))
  have l1 := h1.len
  have hm := h1.short
  ((refine Wp.seq ?_; refine Wp.region ?_; refine Zq ?_; refine Za ?_; refine Zq ?_; refine Za ?_; refine Seq.done ?_; refine Wp.seq ?_; refine Wp.region ?_; refine Zq ?_; refine Zm ?_; refine Zq ?_; refine Zs T ?_; refine Zq ?_; refine Za ?_; refine Seq.done ?_; refine Wp.seq ?_; refine Wp.region ?_; refine Zq ?_; refine Zm ?_; refine Zq ?_; refine Za ?_; refine Zq ?_; refine Za ?_; refine Seq.done ?_; refine Wp.seq ?_; refine Wp.block ?_))
  refine Wp.loop (fun q σ fz' H' => ∃ i j : Nat, i ≤ j ∧ j ≤ n ∧ q = j - i ∧ σ = [(7, .int .i64 i), (8, .int .i64 j), (6, .int .i64 n), (0, .slice A n c), (1, .int .i64 t)] ∧ fz = fz' ∧ H' = [] ∧ (∀ a y, a < i → l[a]? = some y → y < t) ∧ (∀ a y, j ≤ a → l[a]? = some y → t ≤ y)) ⟨0, n, Nat.zero_le _, Nat.le_refl _, rfl, rfl, rfl, rfl, fun _ _ h _ => absurd h (by omega), fun a y h hy => absurd (lt_of_get hy) (by omega)⟩ (by repeat (first | exact trivial | refine ⟨by exact rfl, ?_⟩)) (by repeat (first | exact List.Sublist.refl _ | exact List.nil_sublist _ | refine List.Sublist.cons_cons _ ?_ | refine List.Sublist.cons _ ?_)) ?_
  rintro q σ fz' H' ⟨i, j, hij, hjn, rfl, rfl, rfl, rfl, hlo, hhi⟩
  ((refine Wp.seq ?_; refine Wp.seq ?_; refine Wp.region ?_; refine Zq ?_; refine Zm ?_; refine Zq ?_; refine Zm ?_))
  (((refine Zq ?_)); (refine q_lssD (by exact rfl) (by exact rfl) (fun c1 => ?_) (fun c1 => ?_)))
  · ((refine Seq.done ?_; refine Zc ?_; refine Wp.skip ?_; refine thenN ?_; refine Wp.block ?_; refine Wp.seq ?_; refine Wp.region ?_; refine Zq ?_; refine Zm ?_; refine Zq ?_; refine Zm ?_; refine Zq ?_; refine q_add (by exact rfl) (by exact rfl) (wrap_in (by omega)) ?_))
    ((refine Zq ?_)); refine q_convert_int T (by exact rfl) (by exact rfl) (by exact rfl) (by exact rfl) (wrapU (by omega)) ?_
    ((refine Zq ?_)); refine qg_shr (by exact rfl) (by exact rfl) (by decide) half ?_
    ((refine Zq ?_)); refine q_convert_int T (by exact rfl) (by exact rfl) (by exact rfl) (by exact rfl) (wrap_in (by omega)) ?_
    obtain ⟨x, hx⟩ := get_some (l := l) (k := (i + j) / 2) (by omega)
    ((refine Zq ?_; refine Za ?_; refine Seq.done ?_; refine Wp.seq ?_; refine Wp.region ?_; refine Zq ?_; refine Zm ?_; refine Zq ?_; refine Zm ?_))
    (((refine Zq ?_)); refine q_index T ((i + j) / 2) (by exact rfl) (by exact rfl) (by exact rfl) (by exact rfl) (by exact rfl) (by exact rfl) h1 (by first | rfl | omega) hx (fun p hp => ?_))
    (((refine Zq ?_)); refine q_load_int T (by exact rfl) (by exact rfl) (by exact rfl) hp (fun ix => ?_))
    ((refine Zq ?_; refine Zm ?_))
    (((refine Zq ?_)); refine q_callB (by exact rfl) (by exact rfl) (less_q (a := x) (b := t)) (fun f1 => ?_) (fun f1 => ?_))
    · ((refine Seq.done ?_; refine Zc ?_; refine Wp.region ?_; refine Zq ?_; refine Zm ?_; refine Zq ?_; refine q_add (by exact rfl) (by exact rfl) (wrap_in (by omega)) ?_; refine Zq ?_; refine Za ?_; refine Seq.end_ ?_; refine blkN ?_))
      exact loopN ⟨(i + j) / 2 + 1, j, by omega, hjn, rfl, rfl, rfl, rfl, fun a y h hy => asc_lo ha hx (of_decide_eq_true f1) h hy, hhi⟩ (by omega) (by repeat (first | exact trivial | refine ⟨by exact rfl, ?_⟩)) (by repeat (first | exact List.Sublist.refl _ | exact List.nil_sublist _ | refine List.Sublist.cons_cons _ ?_ | refine List.Sublist.cons _ ?_))
    · ((refine Seq.done ?_; refine Zd ?_; refine Wp.region ?_; refine Zq ?_; refine Zm ?_; refine Zq ?_; refine Za ?_; refine Seq.end_ ?_; refine blkN ?_))
      exact loopN ⟨i, (i + j) / 2, by omega, by omega, rfl, rfl, rfl, rfl, hlo, fun a y h hy => asc_hi ha hx (of_decide_eq_false f1) h hy⟩ (by omega) (by repeat (first | exact trivial | refine ⟨by exact rfl, ?_⟩)) (by repeat (first | exact List.Sublist.refl _ | exact List.nil_sublist _ | refine List.Sublist.cons_cons _ ?_ | refine List.Sublist.cons _ ?_))
  · have hi : i = j := by omega
    subst hi
    have hl := lowI_eq (t := t) (l := l) (i := i) (by omega) (fun a y h hy => hlo a y h hy) (fun y hy => hhi i y (Nat.le_refl _) hy)
    have hmem := ha.found (k := i) (x := t) (fun a y h hy => hlo a y h hy) (fun a y h hy => hhi a y h hy)
    ((refine Seq.done ?_; refine Zd ?_; refine Wp.exit ?_; refine thenX ?_; refine loopX ?_; refine blkX (by exact rfl) ?_; refine thenN ?_; refine Wp.seq ?_; refine Wp.region ?_; refine Zq ?_; refine Zm ?_; refine Zq ?_; refine Zm ?_; refine Zq ?_; refine Zm ?_))
    (((refine Zq ?_)); (refine q_lssD (by exact rfl) (by exact rfl) (fun c2 => ?_) (fun c2 => ?_)))
    · obtain ⟨x, hx⟩ := get_some (l := l) (k := i) (by omega)
      ((refine Zq ?_; refine Zm ?_; refine Zy ?_; refine Zm ?_; refine Zy ?_; refine Zm ?_))
      (((refine Zy ?_)); refine q_index T i (by exact rfl) (by exact rfl) (by exact rfl) (by exact rfl) (by exact rfl) (by exact rfl) h1 (by first | rfl | omega) hx (fun p hp => ?_))
      (((refine Zy ?_)); refine q_load_int T (by exact rfl) (by exact rfl) (by exact rfl) hp (fun ix => ?_))
      ((refine Zy ?_; refine Zm ?_))
      (((refine Zy ?_)); (refine q_eqlD (by exact rfl) (by exact rfl) (fun c3 => ?_) (fun c3 => ?_)))
      · ((refine Zy ?_; refine Zm ?_; refine Zn ?_; refine Zn ?_; refine Zn ?_; refine Zn ?_; refine Zn ?_; refine Zn ?_; refine Zo ?_; refine Zo ?_; refine Zn ?_; refine Zy ?_; refine Zt ?_; refine Zq ?_; refine Zt ?_; refine Zq ?_; refine Za ?_; refine Zq ?_; refine Za ?_; refine Seq.done ?_; refine Wp.ret ?_))
        exact ret2 rfl rfl rfl (by repeat (first | exact List.Sublist.refl _ | exact List.nil_sublist _ | refine List.Sublist.cons_cons _ ?_ | refine List.Sublist.cons _ ?_)) (by rw [hl, decide_eq_true (hmem.2 (by rw [hx, c3]))])
      · ((refine Zy ?_; refine Zm ?_; refine Zy ?_; refine Zm ?_; refine Zy ?_; refine Zm ?_))
        (((refine Zy ?_)); refine q_index T i (by exact rfl) (by exact rfl) (by exact rfl) (by exact rfl) (by exact rfl) (by exact rfl) h1 (by first | rfl | omega) hx (fun p2 hp2 => ?_))
        (((refine Zy ?_)); refine q_load_int T (by exact rfl) (by exact rfl) (by exact rfl) hp2 (fun ix2 => ?_))
        (skip)
        (((refine Zy ?_)); refine q_call (by exact rfl) (by exact rfl) (nan_q (a := x)) ?_)
        ((refine Zy ?_; refine Zm ?_; refine Zn ?_; refine Zn ?_; refine Zy ?_; refine Zu ?_; refine Zy ?_; refine Zu ?_; refine Zq ?_; refine Zt ?_; refine Zq ?_; refine Za ?_; refine Zq ?_; refine Za ?_; refine Seq.done ?_; refine Wp.ret ?_))
        exact ret2 rfl rfl rfl (by repeat (first | exact List.Sublist.refl _ | exact List.nil_sublist _ | refine List.Sublist.cons_cons _ ?_ | refine List.Sublist.cons _ ?_)) (by rw [hl, decide_eq_false (fun h => by have := hmem.1 h; rw [hx] at this; injection this with this; exact c3 this)])
    · ((refine Zq ?_; refine Zm ?_; refine Zn ?_; refine Zn ?_; refine Zn ?_; refine Zn ?_; refine Zn ?_; refine Zn ?_; refine Zn ?_; refine Zo ?_; refine Zo ?_; refine Zo ?_; refine Zo ?_; refine Zo ?_; refine Zo ?_; refine Zo ?_; refine Zo ?_; refine Zo ?_; refine Zn ?_; refine Zq ?_; refine Zu ?_; refine Zq ?_; refine Za ?_; refine Zq ?_; refine Za ?_; refine Seq.done ?_; refine Wp.ret ?_))
      exact ret2 rfl rfl rfl (by repeat (first | exact List.Sublist.refl _ | exact List.nil_sublist _ | refine List.Sublist.cons_cons _ ?_ | refine List.Sublist.cons _ ?_)) (by rw [hl, decide_eq_false (fun h => by have := lt_of_get (hmem.1 h); omega)])
end Go.Proofs.YtegmololhnipiaaGreatDoor
namespace Go.Proofs.YtegmololhnipiaaGreatDoor
open Go.Lx Go.Gr Go.RowKit
attribute [local instance 10] Classical.propDecidable
set_option maxRecDepth 20000
theorem holds1_q {fz : FZ} {m : Int} {S : GState} {u1 u2 : Value} {gb : Nat} {x : Int} (hs : GStateR fz S u1 u2) (ha : AscP m S.tru) (hx : fz gb = some (.cells #[u1, u2] 33 (0, 0))) :
    QFn Tryz.prog 71 [.int .i64 x, .pointer (some ⟨gb, 0, none⟩)] fz (.bool (decide (x ∈ S.tru))) := by
  (obtain ⟨B1, m1, d1, rfl, st⟩ := hs.tru; obtain ⟨B2, m2, d2, rfl, sv⟩ := hs.values)
  refine GFn.quiet ?_
  (refine GFn.of_wp Tryz.func71 rfl Tryz.ntmps71 rfl rfl (fun w0 => ?_))
  ((refine Wp.seq ?_; refine Wp.region ?_; refine Zq ?_; refine Za ?_; refine Seq.done ?_; refine Wp.seq ?_; refine Wp.region ?_; refine Zq ?_; refine Zf T ?_; refine Zq ?_; refine q_load_fz T (by exact rfl) (by exact rfl) (by exact rfl) (by assumption) (by exact rfl) ?_; refine Zq ?_; refine Zm ?_))
  (((refine Zq ?_)); refine q_call (by exact rfl) (by exact rfl) (search_q (t := x) st ha) ?_)
  ((refine Zq ?_; refine Zm ?_; refine Zq ?_; refine Ze ?_; refine Zq ?_; refine Ze ?_; refine Zq ?_; refine Za ?_; refine Zq ?_; refine Za ?_; refine Seq.done ?_; refine Wp.seq ?_; refine Wp.region ?_; refine Zq ?_; refine Zm ?_; refine Zq ?_; refine Za ?_; refine Seq.done ?_; refine Wp.ret ?_))
  (exact ret1 rfl rfl (by repeat (first | exact List.Sublist.refl _ | exact List.nil_sublist _ | refine List.Sublist.cons_cons _ ?_ | refine List.Sublist.cons _ ?_)) rfl)
theorem holds2_q {fz : FZ} {m : Int} {S : GState} {u1 u2 : Value} {gb gh : Nat} {x : Int} (hs : GStateR fz S u1 u2) (ha : AscP m S.tru) (hx : fz gb = some (.cells #[u1, u2] 33 (0, 0)))
    (hy : fz gh = some (.cells #[.func (.func 71) #[] #[.pointer (some ⟨gb, 0, none⟩)]] 153 (0, 0))) :
    QFn Tryz.prog 73 [.int .i64 x, .pointer (some ⟨gh, 0, none⟩)] fz (.bool (decide (¬ x ∈ S.tru))) := by
  refine GFn.quiet ?_
  (refine GFn.of_wp Tryz.func73 rfl Tryz.ntmps73 rfl rfl (fun w0 => ?_))
  ((refine Wp.seq ?_; refine Wp.region ?_; refine Zq ?_; refine Za ?_; refine Seq.done ?_; refine Wp.seq ?_; refine Wp.region ?_; refine Zq ?_; refine q_load_fz T (by exact rfl) (by exact rfl) (by exact rfl) (by assumption) (by exact rfl) ?_; refine Zq ?_; refine Zm ?_))
  ((refine Zq ?_)); refine q_callv (first := []) (capt := [.pointer (some ⟨gb, 0, none⟩)]) (by exact rfl) (by exact rfl) (by exact rfl) (holds1_q (x := x) hs ha hx) ?_
  ((refine Zq ?_; refine q_not (by exact rfl) ?_; refine Zq ?_; refine Za ?_; refine Seq.done ?_; refine Wp.ret ?_))
  (exact ret1 rfl rfl (by repeat (first | exact List.Sublist.refl _ | exact List.nil_sublist _ | refine List.Sublist.cons_cons _ ?_ | refine List.Sublist.cons _ ?_)) bool_not)
theorem holds3_q {fz : FZ} {S : GState} {u1 u2 : Value} {gb : Nat} {t : GTest} {cs : List Value} (hs : GStateR fz S u1 u2) (hx : fz gb = some (.cells #[u1, u2] 33 (0, 0))) (hok : TestOk S.values.length t) (hin : InB S.values) (h : gTestL.rep fz t cs) :
    QFn Tryz.prog 75 [.agg cs.toArray, .pointer (some ⟨gb, 0, none⟩)] fz (.bool (decide (¬ TestP S.values t))) := by
  obtain ⟨w1, w2, rfl, ht⟩ := gTestL_open h
  (obtain ⟨B1, m1, d1, rfl, st⟩ := hs.tru; obtain ⟨B2, m2, d2, rfl, sv⟩ := hs.values)
  obtain ⟨Ea, na, ca, rfl, _⟩ := ht.a.kids
  obtain ⟨Eb, nb, cb, rfl, _⟩ := ht.b.kids
  refine GFn.quiet ?_
  (refine GFn.of_wp Tryz.func75 rfl Tryz.ntmps75 rfl rfl (fun w0 => ?_))
  ((refine Wp.seq ?_; refine Wp.region ?_; refine Seq.stepK (by exact rfl) (k_box _ (by exact rfl) (by exact rfl) (fun _ => ?_)); refine Zq ?_; refine Za ?_; refine Seq.done ?_; refine Wp.seq ?_; refine Wp.region ?_; refine Zq ?_; refine q_load_fz_all T (by exact rfl) (by exact rfl) (by exact rfl) (by assumption) (by exact rfl) ?_; refine Zq ?_; refine ZL T 0 ?_))
  (((refine Zq ?_)); refine q_call (by exact rfl) (by exact rfl) (test_q hs ht hok hin) ?_)
  ((refine Zq ?_; refine q_not (by exact rfl) ?_; refine Zq ?_; refine Za ?_; refine Seq.done ?_; refine Wp.ret ?_))
  (exact ret1 rfl rfl (by repeat (first | exact List.Sublist.refl _ | exact List.nil_sublist _ | refine List.Sublist.cons_cons _ ?_ | refine List.Sublist.cons _ ?_)) bool_not)
end Go.Proofs.YtegmololhnipiaaGreatDoor
namespace Go.Proofs.YtegmololhnipiaaGreatDoor
open Go.Lx Go.Gr Go.RowKit
attribute [local instance 10] Classical.propDecidable
set_option maxRecDepth 20000
def TestsOk (m : Int) (c : Cond) : Prop := ∀ t ∈ c.tests, TestOk m t
set_option maxHeartbeats 1000000 in
theorem holds_q {fz : FZ} {m : Int} {S : GState} {u1 u2 : Value} {c : Cond} {w1 w2 w3 : Value} (hs : GStateR fz S u1 u2) (hc : CondR fz c w1 w2 w3) (ha : AscP m S.tru) (hin : InB S.values) (hok : TestsOk S.values.length c) :
    QFn Tryz.prog 48 [sV u1 u2, cV w1 w2 w3] fz (.bool (decide (HoldP S c))) := by
  (obtain ⟨B1, m1, d1, rfl, cp⟩ := hc.pos; obtain ⟨B2, m2, d2, rfl, cn⟩ := hc.neg; obtain ⟨B3, m3, d3, rfl, ct⟩ := hc.tests)
  refine GFn.quiet ?_
  (refine GFn.of_wp Tryz.func48 rfl Tryz.ntmps48 rfl rfl (fun w0 => ?_))
  (refine Wp.seq (Wp.region (Seq.stepK (by exact rfl) (k_box _ (by exact rfl) (by exact rfl) (fun g0 => ?_)))))
  (first | refine Wp.freeze (by exact rfl) (fun fz1 hle hx => ?_) | refine Seq.freeze (by exact rfl) (fun fz1 hle hx => ?_))
  replace hs := hs.mono hle
  replace cp := cp.mono hle
  replace cn := cn.mono hle
  replace ct := ct.mono hle
  (refine Seq.stepK (by exact rfl) (k_box _ (by exact rfl) (by exact rfl) (fun g1 => ?_)))
  ((refine Zq ?_; refine Za ?_; refine Seq.done ?_; refine Wp.seq ?_; refine Wp.region ?_))
  ((refine Zq ?_)); refine qg_makeFunc (by exact rfl) (by exact rfl) ?_
  ((refine Seq.stepK (by exact rfl) (k_alloc T (by exact rfl) (by exact rfl) (fun _ => ?_)); refine Seq.stepK0 (k_store0 T (by exact rfl) (by exact rfl) (by exact rfl) (by exact rfl) (by exact rfl) (by exact rfl) ?_); refine Seq.done ?_; refine Wp.seq ?_; refine Wp.region ?_; refine Zq ?_; refine Zf T ?_; refine Zq ?_; refine Zl T 1 ?_))
  (first | refine Wp.freeze (by exact rfl) (fun fz2 hle2 hx2 => ?_) | refine Seq.freeze (by exact rfl) (fun fz2 hle2 hx2 => ?_))
  replace hs := hs.mono hle2
  replace cp := cp.mono hle2
  replace cn := cn.mono hle2
  replace ct := ct.mono hle2
  replace hx := hle2 _ _ hx
  ((refine Zq ?_)); refine qg_makeFunc (by exact rfl) (by exact rfl) ?_
  (((refine Zq ?_)); refine q_callB (by exact rfl) (by exact rfl) (containsInt_q (cap := [.pointer (some ⟨_, 0, none⟩)]) (p := fun x => ¬ x ∈ S.tru) cp (fun x _ => holds2_q hs ha hx hx2)) (fun f1 => ?_) (fun f1 => ?_))
  · ((refine Zq ?_; refine q_not (by exact rfl) ?_; refine Zq ?_; refine Zm ?_; refine Zn ?_; refine Zn ?_; refine Zn ?_; refine Zn ?_; refine Zn ?_; refine Zq ?_; refine Zu ?_; refine Zq ?_; refine Zm ?_; refine Zn ?_; refine Zn ?_; refine Zn ?_; refine Zn ?_; refine Zn ?_; refine Zq ?_; refine Zu ?_; refine Zq ?_; refine Za ?_; refine Seq.done ?_; refine Wp.ret ?_))
    (exact ret1 rfl rfl (by repeat (first | exact List.Sublist.refl _ | exact List.nil_sublist _ | refine List.Sublist.cons_cons _ ?_ | refine List.Sublist.cons _ ?_)) (bool_false (fun h => by obtain ⟨x, h1, h2⟩ := of_decide_eq_true f1; exact h2 (h.1 x h1))))
  · have k1 : ∀ x ∈ c.pos, x ∈ S.tru := fun x hx => Classical.byContradiction fun hc => of_decide_eq_false f1 ⟨x, hx, hc⟩
    ((refine Zq ?_; refine q_not (by exact rfl) ?_; refine Zq ?_; refine Zm ?_; refine Zy ?_; refine Zf T ?_; refine Zy ?_; refine Zl T 0 ?_; refine Zy ?_; refine q_load_fz T (by exact rfl) (by exact rfl) (by exact rfl) (by assumption) (by exact rfl) ?_))
    (((refine Zy ?_)); refine q_callB (by exact rfl) (by exact rfl) (containsInt_q (cap := [.pointer (some ⟨_, 0, none⟩)]) (p := fun x => x ∈ S.tru) cn (fun x _ => holds1_q hs ha hx)) (fun f2 => ?_) (fun f2 => ?_))
    · ((refine Zy ?_; refine q_not (by exact rfl) ?_; refine Zq ?_; refine Zt ?_; refine Zq ?_; refine Zm ?_; refine Zn ?_; refine Zn ?_; refine Zn ?_; refine Zn ?_; refine Zn ?_; refine Zq ?_; refine Zu ?_; refine Zq ?_; refine Za ?_; refine Seq.done ?_; refine Wp.ret ?_))
      (exact ret1 rfl rfl (by repeat (first | exact List.Sublist.refl _ | exact List.nil_sublist _ | refine List.Sublist.cons_cons _ ?_ | refine List.Sublist.cons _ ?_)) (bool_false (fun h => by obtain ⟨x, h1, h2⟩ := of_decide_eq_true f2; exact h.2.1 x h1 h2)))
    · have k2 : ∀ x ∈ c.neg, x ∉ S.tru := fun x hx hc => of_decide_eq_false f2 ⟨x, hx, hc⟩
      ((refine Zy ?_; refine q_not (by exact rfl) ?_; refine Zq ?_; refine Zt ?_; refine Zq ?_; refine Zm ?_; refine Zy ?_; refine Zf T ?_; refine Zy ?_; refine Zl T 0 ?_))
      ((refine Zy ?_)); refine qg_makeFunc (by exact rfl) (by exact rfl) ?_
      (((refine Zy ?_)); refine q_callB (by exact rfl) (by exact rfl) (containsGTest_q (cap := [.pointer (some ⟨_, 0, none⟩)]) ct (fun x cs hm h => holds3_q hs hx (hok x hm) hin h)) (fun f3 => ?_) (fun f3 => ?_))
      · ((refine Zy ?_; refine q_not (by exact rfl) ?_; refine Zq ?_; refine Zt ?_; refine Zq ?_; refine Za ?_; refine Seq.done ?_; refine Wp.ret ?_))
        (exact ret1 rfl rfl (by repeat (first | exact List.Sublist.refl _ | exact List.nil_sublist _ | refine List.Sublist.cons_cons _ ?_ | refine List.Sublist.cons _ ?_)) (bool_false (fun h => by obtain ⟨x, h1, h2⟩ := of_decide_eq_true f3; exact h2 (h.2.2 x h1))))
      · ((refine Zy ?_; refine q_not (by exact rfl) ?_; refine Zq ?_; refine Zt ?_; refine Zq ?_; refine Za ?_; refine Seq.done ?_; refine Wp.ret ?_))
        (exact ret1 rfl rfl (by repeat (first | exact List.Sublist.refl _ | exact List.nil_sublist _ | refine List.Sublist.cons_cons _ ?_ | refine List.Sublist.cons _ ?_)) (bool_true ⟨k1, k2, fun x hx => Classical.byContradiction fun hc => of_decide_eq_false f3 ⟨x, hx, hc⟩⟩))
theorem tests_of {g : GTask} {S : GState} {c : Cond} (hp : ProperP g S) (hc : CondOk g.atoms.length g.fluents.length c) : TestsOk S.values.length c := fun t ht => by
  rw [hp.1]; exact hc.2.2 t ht
theorem proper_in {g : GTask} {S : GState} (hv : ValidP g) (hp : ProperP g S) : InB S.values := ProperP.in hv hp
set_option maxHeartbeats 1000000 in
theorem tholds_q {fz : FZ} {g : GTask} {v1 v2 v3 v4 v5 : Value} {S : GState} {u1 u2 : Value} {c : Cond} {w1 w2 w3 : Value} (hg : GTaskR fz g v1 v2 v3 v4 v5) (hs : GStateR fz S u1 u2) (hc : CondR fz c w1 w2 w3) :
    QFn Tryz.prog 16 [gV v1 v2 v3 v4 v5, sV u1 u2, cV w1 w2 w3] fz (.bool (decide (ValidP g ∧ ProperP g S ∧ CondOk g.atoms.length g.fluents.length c ∧ HoldP S c))) := by
  have hg0 := hg
  have hs0 := hs
  have hc0 := hc
  (obtain ⟨A1, n1, cap1, rfl, ga⟩ := hg.atoms; obtain ⟨A2, n2, cap2, rfl, gf⟩ := hg.fluents; obtain ⟨A3, n3, cap3, rfl, gi⟩ := hg.init; obtain ⟨A4, n4, cap4, rfl, gg⟩ := hg.goal; obtain ⟨A5, n5, cap5, rfl, go⟩ := hg.ops; have e1 := ga.len; subst e1; have e2 := gf.len; subst e2)
  obtain ⟨B1, m1, d1, rfl, st⟩ := hs.tru
  obtain ⟨B2, m2, d2, rfl, sv⟩ := hs.values
  obtain ⟨E1, n1, x1, rfl, cp⟩ := hc.pos
  obtain ⟨E2, n2, x2, rfl, cn⟩ := hc.neg
  obtain ⟨E3, n3, x3, rfl, ct⟩ := hc.tests
  refine GFn.quiet ?_
  (refine GFn.of_wp Tryz.func16 rfl Tryz.ntmps16 rfl rfl (fun w0 => ?_))
  ((refine Wp.seq ?_; refine Wp.region ?_; refine Seq.stepK (by exact rfl) (k_box _ (by exact rfl) (by exact rfl) (fun _ => ?_)); refine Seq.stepK (by exact rfl) (k_box _ (by exact rfl) (by exact rfl) (fun _ => ?_)); refine Seq.stepK (by exact rfl) (k_box _ (by exact rfl) (by exact rfl) (fun _ => ?_)); refine Zq ?_; refine Za ?_; refine Seq.done ?_; refine Wp.seq ?_; refine Wp.region ?_; refine Zq ?_; refine ZL T 2 ?_))
  (((refine Zq ?_)); refine q_callB (by exact rfl) (by exact rfl) (valid_q hg0) (fun f1 => ?_) (fun f1 => ?_))
  · have hv := of_decide_eq_true f1
    ((refine Zq ?_; refine Zm ?_; refine Zy ?_; refine ZL T 2 ?_; refine Zy ?_; refine ZL T 1 ?_))
    (((refine Zy ?_)); refine q_callB (by exact rfl) (by exact rfl) (proper_q hg0 hs0) (fun f2 => ?_) (fun f2 => ?_))
    · have hp := of_decide_eq_true f2
      ((refine Zq ?_; refine Zt ?_; refine Zq ?_; refine Zm ?_; refine Zy ?_; refine ZL T 2 ?_; refine Zy ?_; refine ZL T 0 ?_))
      (((refine Zy ?_)); refine q_callB (by exact rfl) (by exact rfl) (condition_q hg0 hc0) (fun f3 => ?_) (fun f3 => ?_))
      · have hk := of_decide_eq_true f3
        ((refine Zq ?_; refine Zt ?_; refine Zq ?_; refine Zm ?_; refine Zy ?_; refine ZL T 1 ?_; refine Zy ?_; refine ZL T 0 ?_))
        (((refine Zy ?_)); refine q_call (by exact rfl) (by exact rfl) (holds_q hs0 hc0 hp.2.1 (proper_in hv hp) (tests_of hp hk)) ?_)
        ((refine Zq ?_; refine Zt ?_; refine Zq ?_; refine Za ?_; refine Seq.done ?_; refine Wp.ret ?_))
        (exact ret1 rfl rfl (by repeat (first | exact List.Sublist.refl _ | exact List.nil_sublist _ | refine List.Sublist.cons_cons _ ?_ | refine List.Sublist.cons _ ?_)) (bool_same ⟨fun h => ⟨hv, hp, hk, h⟩, fun h => h.2.2.2⟩))
      · ((refine Zq ?_; refine Zt ?_; refine Zq ?_; refine Zm ?_; refine Zn ?_; refine Zn ?_; refine Zn ?_; refine Zq ?_; refine Zu ?_; refine Zq ?_; refine Za ?_; refine Seq.done ?_; refine Wp.ret ?_))
        (exact ret1 rfl rfl (by repeat (first | exact List.Sublist.refl _ | exact List.nil_sublist _ | refine List.Sublist.cons_cons _ ?_ | refine List.Sublist.cons _ ?_)) (bool_false (fun h => of_decide_eq_false f3 h.2.2.1)))
    · ((refine Zq ?_; refine Zt ?_; refine Zq ?_; refine Zm ?_; refine Zn ?_; refine Zn ?_; refine Zn ?_; refine Zq ?_; refine Zu ?_; refine Zq ?_; refine Zm ?_; refine Zn ?_; refine Zn ?_; refine Zn ?_; refine Zq ?_; refine Zu ?_; refine Zq ?_; refine Za ?_; refine Seq.done ?_; refine Wp.ret ?_))
      (exact ret1 rfl rfl (by repeat (first | exact List.Sublist.refl _ | exact List.nil_sublist _ | refine List.Sublist.cons_cons _ ?_ | refine List.Sublist.cons _ ?_)) (bool_false (fun h => of_decide_eq_false f2 h.2.1)))
  · ((refine Zq ?_; refine Zm ?_; refine Zn ?_; refine Zn ?_; refine Zn ?_; refine Zq ?_; refine Zu ?_; refine Zq ?_; refine Zm ?_; refine Zn ?_; refine Zn ?_; refine Zn ?_; refine Zq ?_; refine Zu ?_; refine Zq ?_; refine Zm ?_; refine Zn ?_; refine Zn ?_; refine Zn ?_; refine Zq ?_; refine Zu ?_; refine Zq ?_; refine Za ?_; refine Seq.done ?_; refine Wp.ret ?_))
    (exact ret1 rfl rfl (by repeat (first | exact List.Sublist.refl _ | exact List.nil_sublist _ | refine List.Sublist.cons_cons _ ?_ | refine List.Sublist.cons _ ?_)) (bool_false (fun h => of_decide_eq_false f1 h.1)))
end Go.Proofs.YtegmololhnipiaaGreatDoor
namespace Go.Proofs.YtegmololhnipiaaGreatDoor
open Go.Lx Go.Gr Go.RowKit
attribute [local instance 10] Classical.propDecidable
set_option maxRecDepth 20000
def errV : Int → Value := fun n => if n = 0 then .nilIface else .iface 71 (.int .i64 n)
theorem errV_ne {n : Int} (h : n ≠ 0) : errV n = .iface 71 (.int .i64 n) := if_neg h
theorem sl_row {fz : FZ} {A : Option Addr} {n c : Nat} {xs : List Int} (h : Sl intL fz A n c xs) : RowS fz A n (xs.map (Value.int .i64)) := by
  rcases h.elem with h0 | ⟨ad, h1, h2⟩
  · exact .inl h0
  · refine .inr ⟨ad, h1, fun j u hu => ?_⟩
    rw [List.getElem?_map] at hu
    cases hx : xs[j]? with
    | none => simp [hx] at hu
    | some x =>
      simp [hx] at hu
      subst hu
      obtain ⟨v, ⟨he, _⟩, hc⟩ := (h2 j x hx).cell rfl
      injection he with he
      subst he
      simpa [intL] using hc
theorem sl_ints {v : Value} {zs : List Int} {n : Nat} {b : HP} {fz' : FZ} (hO : OwnS 3 1 v n (zs.map (Value.int .i64)) b) (hf : ∀ p ∈ b, fz' p.1 = some p.2) (hn : n ≤ 140737488355328) (hi : ∀ z ∈ zs, I64 z) : ∃ A c, v = .slice A n c ∧ Sl intL fz' A n c zs := by
  obtain ⟨A, c, h1, h2, h3, h4⟩ := hO.row hf
  refine ⟨A, c, h1, h4.sl h2 h3 hn (by have := hO.1; simpa using this) fun i z hz => ⟨[.int .i64 z], ⟨rfl, hi z (List.mem_of_getElem? hz)⟩, fun j u hu => ?_⟩⟩
  cases j with
  | zero => simp at hu; subst hu; simp [intL, hz]
  | succ j => simp at hu
theorem clone_f {fz : FZ} {A : Option Addr} {n c : Nat} {xs : List Int} (h : Sl intL fz A n c xs) (hn : n ≤ 1000000) :
    GFn Tryz.prog 46 [.slice A n c] fz [] fun v fz' H' => fz' = fz ∧ OwnS 3 1 v n (xs.map (Value.int .i64)) H' := by
  (refine GFn.of_wp Tryz.func46 rfl Tryz.ntmps46 rfl rfl (fun w0 => ?_))
  have l1 := h.len
  have hsrc := sl_row h
  ((refine Wp.seq ?_; refine Wp.region ?_; refine Zq ?_; refine Za ?_; refine Seq.done ?_; refine Wp.seq ?_; refine Wp.seq ?_; refine Wp.region ?_; refine Zq ?_; refine Zm ?_))
  ((refine Zq ?_)); refine q_eql_nilslice T (by exact rfl) (by exact rfl) (by exact rfl) (by exact rfl) (fun hA => ?_) (fun hA => ?_)
  · ((refine Seq.done ?_; refine Zc ?_; refine Wp.seq ?_; refine Wp.region ?_; refine Zq ?_; refine Za ?_; refine Seq.done ?_; refine Wp.ret ?_; refine thenR ?_))
    have hn0 : n = 0 := by
      rcases hsrc with h0 | ⟨ad, h1, _⟩
      · exact h0
      · rw [hA] at h1; cases h1
    have hx : xs = [] := List.eq_nil_of_length_eq_zero (by omega)
    subst hx hn0
    exact ret1 rfl rfl (by repeat (first | exact List.Sublist.refl _ | exact List.nil_sublist _ | refine List.Sublist.cons_cons _ ?_ | refine List.Sublist.cons _ ?_)) ⟨rfl, OwnS.nil _ _⟩
  · ((refine Seq.done ?_; refine Zd ?_; refine Wp.skip ?_; refine thenN ?_; refine Wp.seq ?_; refine Wp.region ?_))
    refine Seq.stepK (by exact rfl) (k_buildSlice0 T (by exact rfl) (by exact rfl) (by exact rfl) (fun g => ?_))
    ((refine Zq ?_; refine Zm ?_))
    (refine Seq.stepK (by exact rfl) (k_append T (Hr := []) (by exact rfl) (by exact rfl) (by exact rfl) (by exact rfl) (by exact rfl) (by exact rfl) (by exact rfl) (List.Perm.refl _) (OwnS.of_block (cs := []) (n := 0) rfl (by decide)) (by show _ = _ * 1; simp [l1]) (src_row hsrc) (by intro u hu; obtain ⟨x, _, rfl⟩ := List.mem_map.1 hu; rfl) (by show _ * 8 ≤ _; omega) (by omega) (fun v Hs hO => ?_)))
    ((refine Zq ?_; refine Za ?_; refine Seq.done ?_; refine Wp.ret ?_))
    simp only [Nat.zero_add, List.nil_append] at hO
    exact ret1 (H' := Hs) rfl rfl (List.Sublist.refl _) ⟨rfl, hO⟩
noncomputable def sizeF : Nat → GExpr → Int
  | 0, _ => 1
  | d + 1, e => e.kids.foldl (fun n x => if n < 2000 then IntKind.i64.wrap (n + sizeF d x) else n) 1
theorem fold_stop {d : Nat} : ∀ {l : List GExpr} {n : Int}, ¬ n < 2000 → l.foldl (fun n x => if n < 2000 then IntKind.i64.wrap (n + sizeF d x) else n) n = n
  | [], _, _ => rfl
  | x :: r, n, h => by simp only [List.foldl_cons]; rw [if_neg h]; exact fold_stop h
theorem fold_take {α β : Type} {f : β → α → β} {b : β} {l : List α} {k : Nat} {x : α} (hx : l[k]? = some x) : (l.take (k + 1)).foldl f b = f ((l.take k).foldl f b) x := by
  rw [List.take_add_one, hx]; simp
theorem fold_split {α β : Type} {f : β → α → β} {b : β} {l : List α} (k : Nat) : l.foldl f b = (l.drop k).foldl f ((l.take k).foldl f b) := by
  rw [← List.foldl_append, List.take_append_drop]
theorem size_aux : ∀ (s : Nat) {fz : FZ} {e : GExpr} {v : Value}, SizeOf.sizeOf e ≤ s → GExprR fz e v →
    QFn Tryz.prog 24 [eV e v] fz (.int .i64 (sizeF s e))
  | 0, _, e, _, hs, _ => absurd hs (by cases e; simp)
  | s + 1, fz, e, v, hs, h => by
    have hk : ∀ (x : GExpr) (w : Value), GExprR fz x w → x ∈ e.kids → QFn Tryz.prog 24 [eV x w] fz (.int .i64 (sizeF s x)) := fun x w hx hm => size_aux s (by have := GExpr.kids_lt hm; omega) hx
    obtain ⟨A, n, c, rfl, sk⟩ := h.kids
    have l1 := sk.len
    have q1 := sk.short
    refine GFn.quiet ?_
    (refine GFn.of_wp Tryz.func24 rfl Tryz.ntmps24 rfl rfl (fun w0 => ?_))
    (refine Wp.seq (Wp.region (Seq.stepK (by exact rfl) (k_box _ (by exact rfl) (by exact rfl) (fun g0 => ?_)))))
    ((refine Zq ?_; refine Za ?_; refine Seq.done ?_; refine Wp.seq ?_; refine Wp.region ?_; refine Zq ?_; refine Za ?_; refine Seq.done ?_; refine Wp.seq ?_; refine Wp.seq ?_; refine Wp.region ?_; refine Zq ?_; refine Za ?_; refine Seq.done ?_; refine Wp.block ?_))
    refine Wp.loop (fun q σ fz' H' => ∃ (k : Nat) (z : Int), k ≤ n ∧ q = n - k ∧ σ = [(4, .int .i64 k), (3, .int .i64 z), (1, .pointer (some ⟨g0, 0, none⟩))] ∧ fz = fz' ∧ H' = [(g0, .cells #[.string e.op, .int .i64 e.n, .slice A n c] 53 (0, 0))] ∧ (e.kids.take k).foldl (fun n x => if n < 2000 then IntKind.i64.wrap (n + sizeF s x) else n) 1 = z) ⟨0, _, Nat.zero_le _, rfl, rfl, rfl, rfl, rfl⟩ (by repeat (first | exact trivial | refine ⟨by exact rfl, ?_⟩)) (by repeat (first | exact List.Sublist.refl _ | exact List.nil_sublist _ | refine List.Sublist.cons_cons _ ?_ | refine List.Sublist.cons _ ?_)) ?_
    rintro q σ fz' H' ⟨k, z, hk1, rfl, rfl, rfl, rfl, hz⟩
    ((refine Wp.seq ?_; refine Wp.seq ?_; refine Wp.region ?_; refine Zq ?_; refine Zm ?_; refine Zq ?_; refine Zf T ?_; refine Zq ?_; refine Zl T 0 ?_; refine Zq ?_; refine Zs T ?_))
    (((refine Zq ?_)); (refine q_lssD (by exact rfl) (by exact rfl) (fun c1 => ?_) (fun c1 => ?_)))
    · ((refine Zq ?_; refine Zm ?_; refine Zy ?_; refine Zm ?_))
      (((refine Zy ?_)); (refine q_lssD (by exact rfl) (by exact rfl) (fun c2 => ?_) (fun c2 => ?_)))
      · obtain ⟨x, hx⟩ := get_some (l := e.kids) (k := k) (by omega)
        ((refine Zq ?_; refine Zt ?_; refine Seq.done ?_; refine Zc ?_; refine Wp.skip ?_; refine thenN ?_; refine Wp.seq ?_; refine Wp.block ?_; refine Wp.region ?_; refine Zq ?_; refine Zm ?_; refine Zq ?_; refine Zf T ?_; refine Zq ?_; refine Zl T 0 ?_; refine Zq ?_; refine Zm ?_))
        (((refine Zq ?_)); refine q_index T k (by exact rfl) (by exact rfl) (by exact rfl) (by exact rfl) (by exact rfl) (by exact rfl) sk (by first | rfl | omega) hx (fun p hp => ?_))
        (((refine Zq ?_)); refine q_load_at T (by exact rfl) (by exact rfl) (by exact rfl) hp (by exact rfl) ?_)
        intro cs hcs
        obtain ⟨y, rfl, hy⟩ := gExprL_open hcs
        (((refine Zq ?_)); refine q_call (by exact rfl) (by exact rfl) (hk x y hy (List.mem_of_getElem? hx)) ?_)
        ((refine Zq ?_)); refine q_add (by exact rfl) (by exact rfl) rfl ?_
        ((refine Zq ?_; refine Za ?_; refine Seq.end_ ?_; refine blkN ?_; refine thenN ?_; refine Wp.region ?_; refine Zq ?_; refine Zm ?_; refine Zq ?_; refine q_add (by exact rfl) (by exact rfl) (wrap_in (by omega)) ?_; refine Zq ?_; refine Za ?_; refine Seq.end_ ?_))
        exact loopN ⟨k + 1, _, by omega, rfl, rfl, rfl, rfl, by rw [fold_take hx, hz, if_pos c2]⟩ (by omega) (by repeat (first | exact trivial | refine ⟨by exact rfl, ?_⟩)) (by repeat (first | exact List.Sublist.refl _ | exact List.nil_sublist _ | refine List.Sublist.cons_cons _ ?_ | refine List.Sublist.cons _ ?_))
      · ((refine Zq ?_; refine Zt ?_; refine Seq.done ?_; refine Zd ?_; refine Wp.exit ?_; refine thenX ?_; refine loopX ?_; refine blkX (by exact rfl) ?_; refine thenN ?_; refine Wp.seq ?_; refine Wp.region ?_; refine Zq ?_; refine Zm ?_; refine Zq ?_; refine Za ?_; refine Seq.done ?_; refine Wp.ret ?_))
        (exact ret1 rfl rfl (by repeat (first | exact List.Sublist.refl _ | exact List.nil_sublist _ | refine List.Sublist.cons_cons _ ?_ | refine List.Sublist.cons _ ?_)) (by rw [sizeF, fold_split k, hz, fold_stop c2]))
    · ((refine Zq ?_; refine Zm ?_; refine Zn ?_; refine Zn ?_; refine Zq ?_; refine Zu ?_; refine Seq.done ?_; refine Zd ?_; refine Wp.exit ?_; refine thenX ?_; refine loopX ?_; refine blkX (by exact rfl) ?_; refine thenN ?_; refine Wp.seq ?_; refine Wp.region ?_; refine Zq ?_; refine Zm ?_; refine Zq ?_; refine Za ?_; refine Seq.done ?_; refine Wp.ret ?_))
      (exact ret1 rfl rfl (by repeat (first | exact List.Sublist.refl _ | exact List.nil_sublist _ | refine List.Sublist.cons_cons _ ?_ | refine List.Sublist.cons _ ?_)) (by rw [sizeF, ← hz, List.take_of_length_le (by omega)]))
noncomputable def sizeE (e : GExpr) : Int := sizeF (SizeOf.sizeOf e) e
theorem size_q {fz : FZ} {e : GExpr} {v : Value} (h : GExprR fz e v) : QFn Tryz.prog 24 [eV e v] fz (.int .i64 (sizeE e)) := size_aux _ (Nat.le_refl _) h
noncomputable def heavyE (c : Cond) : Int := c.tests.foldl (fun n t => IntKind.i64.wrap (n + IntKind.i64.wrap (sizeE t.a + sizeE t.b))) ((c.pos.length : Int) + c.neg.length)
theorem heavy_q {fz : FZ} {c : Cond} {w1 w2 w3 : Value} (hc : CondR fz c w1 w2 w3) : QFn Tryz.prog 23 [cV w1 w2 w3] fz (.int .i64 (heavyE c)) := by
  (obtain ⟨B1, m1, d1, rfl, cp⟩ := hc.pos; obtain ⟨B2, m2, d2, rfl, cn⟩ := hc.neg; obtain ⟨B3, m3, d3, rfl, ct⟩ := hc.tests)
  have l1 := cp.len
  have l2 := cn.len
  have l3 := ct.len
  have q1 := cp.short
  have q2 := cn.short
  have q3 := ct.short
  refine GFn.quiet ?_
  (refine GFn.of_wp Tryz.func23 rfl Tryz.ntmps23 rfl rfl (fun w0 => ?_))
  (refine Wp.seq (Wp.region (Seq.stepK (by exact rfl) (k_box _ (by exact rfl) (by exact rfl) (fun g1 => ?_)))))
  ((refine Zq ?_; refine Za ?_; refine Seq.done ?_; refine Wp.seq ?_; refine Wp.region ?_; refine Zq ?_; refine Zf T ?_; refine Zq ?_; refine Zl T 0 ?_; refine Zq ?_; refine Zs T ?_; refine Zq ?_; refine Zf T ?_; refine Zq ?_; refine Zl T 0 ?_; refine Zq ?_; refine Zs T ?_; refine Zq ?_; refine q_add (by exact rfl) (by exact rfl) (wrap_in (by omega)) ?_; refine Zq ?_; refine Za ?_; refine Seq.done ?_; refine Wp.seq ?_; refine Wp.seq ?_; refine Wp.region ?_; refine Zq ?_; refine Za ?_; refine Seq.done ?_; refine Wp.block ?_))
  refine Wp.loop (fun q σ fz' H' => ∃ (k : Nat) (z : Int), k ≤ m3 ∧ q = m3 - k ∧ σ = [(4, .int .i64 k), (3, .int .i64 z), (1, .pointer (some ⟨g1, 0, none⟩))] ∧ fz = fz' ∧ H' = [((g1, .cells #[.slice B1 m1 d1, .slice B2 m2 d2, .slice B3 m3 d3] 42 (0, 0)))] ∧ (c.tests.take k).foldl (fun n t => IntKind.i64.wrap (n + IntKind.i64.wrap (sizeE t.a + sizeE t.b))) ((c.pos.length : Int) + c.neg.length) = z) ⟨0, _, Nat.zero_le _, rfl, rfl, rfl, rfl, by rw [l1, l2, List.take_zero, List.foldl_nil]⟩ (by repeat (first | exact trivial | refine ⟨by exact rfl, ?_⟩)) (by repeat (first | exact List.Sublist.refl _ | exact List.nil_sublist _ | refine List.Sublist.cons_cons _ ?_ | refine List.Sublist.cons _ ?_)) ?_
  rintro q σ fz' H' ⟨k, z, hk1, rfl, rfl, rfl, rfl, hz⟩
  ((refine Wp.seq ?_; refine Wp.seq ?_; refine Wp.region ?_; refine Zq ?_; refine Zm ?_; refine Zq ?_; refine Zf T ?_; refine Zq ?_; refine Zl T 0 ?_; refine Zq ?_; refine Zs T ?_))
  (((refine Zq ?_)); (refine q_lssD (by exact rfl) (by exact rfl) (fun c1 => ?_) (fun c1 => ?_)))
  · obtain ⟨x, hx⟩ := get_some (l := c.tests) (k := k) (by omega)
    ((refine Seq.done ?_; refine Zc ?_; refine Wp.skip ?_; refine thenN ?_; refine Wp.seq ?_; refine Wp.block ?_; refine Wp.draw (by decide +kernel) T.mixed (by kernel_rfl) (by kernel_rfl) ?_; refine QL.q ?_; refine Zm ?_; refine QL.q ?_; refine Zf T ?_; refine QL.q ?_; refine Zl T 0 ?_; refine QL.q ?_; refine Zm ?_))
    (((refine QL.q ?_)); refine q_index T k (by exact rfl) (by exact rfl) (by exact rfl) (by exact rfl) (by exact rfl) (by exact rfl) ct (by first | rfl | omega) hx (fun p hp => ?_))
    ((refine QL.q ?_; refine Zf T ?_))
    (((refine QL.q ?_)); refine q_load_at T (by exact rfl) (by exact rfl) (by exact rfl) hp.GTest_a (by exact rfl) ?_)
    intro cs hcs
    obtain ⟨y, rfl, hy⟩ := gExprL_open hcs
    (((refine QL.q ?_)); refine q_call (by exact rfl) (by exact rfl) (size_q hy) ?_)
    ((refine QL.q ?_; refine Zf T ?_; refine QL.q ?_; refine Zl T 0 ?_; refine QL.q ?_; refine Zm ?_))
    (((refine QL.q ?_)); refine q_index T k (by exact rfl) (by exact rfl) (by exact rfl) (by exact rfl) (by exact rfl) (by exact rfl) ct (by first | rfl | omega) hx (fun p2 hp2 => ?_))
    ((refine QL.q ?_; refine Zf T ?_))
    (((refine QL.q ?_)); refine q_load_at T (by exact rfl) (by exact rfl) (by exact rfl) hp2.GTest_b (by exact rfl) ?_)
    intro cs2 hcs2
    obtain ⟨y2, rfl, hy2⟩ := gExprL_open hcs2
    (((refine QL.q ?_)); refine q_call (by exact rfl) (by exact rfl) (size_q hy2) ?_)
    ((refine QL.q ?_)); refine q_add (by exact rfl) (by exact rfl) rfl ?_
    ((refine QL.q ?_)); refine q_add (by exact rfl) (by exact rfl) rfl ?_
    ((refine QL.q ?_; refine Za ?_; refine QL.done ?_; refine blkN ?_; refine thenN ?_; refine Wp.region ?_; refine Zq ?_; refine Zm ?_; refine Zq ?_; refine q_add (by exact rfl) (by exact rfl) (wrap_in (by omega)) ?_; refine Zq ?_; refine Za ?_; refine Seq.end_ ?_))
    exact loopN ⟨k + 1, _, by omega, rfl, rfl, rfl, rfl, by rw [fold_take hx, hz]⟩ (by omega) (by repeat (first | exact trivial | refine ⟨by exact rfl, ?_⟩)) (by repeat (first | exact List.Sublist.refl _ | exact List.nil_sublist _ | refine List.Sublist.cons_cons _ ?_ | refine List.Sublist.cons _ ?_))
  · ((refine Seq.done ?_; refine Zd ?_; refine Wp.exit ?_; refine thenX ?_; refine loopX ?_; refine blkX (by exact rfl) ?_; refine thenN ?_; refine Wp.seq ?_; refine Wp.region ?_; refine Zq ?_; refine Zm ?_; refine Zq ?_; refine Za ?_; refine Seq.done ?_; refine Wp.ret ?_))
    (exact ret1 rfl rfl (by repeat (first | exact List.Sublist.refl _ | exact List.nil_sublist _ | refine List.Sublist.cons_cons _ ?_ | refine List.Sublist.cons _ ?_)) (by rw [heavyE, ← hz, List.take_of_length_le (by omega)]))
end Go.Proofs.YtegmololhnipiaaGreatDoor
namespace Go.Lx
open Go.RowKit
section
variable {P : Program} {cx : Cx} {n : Nat} {σ : Env} {fz : FZ} {H H' : HP} {fn : Func} {R : Value → FZ → HP → Prop}
def resI (T : Tab P) (σ : Env) (H : HP) : List ResultVar → List Value → Prop
  | [], [] => True
  | .tmp t :: r, v :: vs => lk σ t = some v ∧ resI T σ H r vs
  | .cell p t :: r, v :: vs => (∃ (X : Ty) (g i : Nat) (cs : List Value) (t' : TypeId) (f : Nat × Nat), T.inf t = some X ∧ isAggD X.desc = true ∧ lk σ p = some (.pointer (some ⟨g, 0, none⟩)) ∧ H[i]? = some (g, Obj.cells (List.toArray cs) t' f) ∧ X.size = cs.length ∧ v = .agg cs.toArray) ∧ resI T σ H r vs
  | _, _ => False
theorem resI_run (T : Tab P) {a : Act} {w : World} (hs : Sat n σ a) (hw : Inv cx fz H w) {f : ResultVar → Sem Value} (hf1 : ∀ t, f (.tmp t) = pure (a.tmps.getD t undef)) (hf2 : ∀ x t, f (.cell x t) = (asAddr (a.tmps.getD x undef) >>= fun b => loadVar t b)) : ∀ (l : List ResultVar) (vs : List Value), resI T σ H l vs → (l.mapM f).run P w = .ok vs w
  | [], [], _ => by simp [List.mapM_nil]
  | [], _ :: _, h => h.elim
  | .tmp t :: r, [], h => h.elim
  | .cell p t :: r, [], h => h.elim
  | .tmp t :: r, v :: vs, ⟨h1, h2⟩ => by
    have := resI_run T hs hw hf1 hf2 r vs h2
    simp only [List.mapM_cons, hf1, Sem.run_bind, Sem.run_pure, Result.andThen_ok, this]
    simp [hs.slot t v h1]
  | .cell p t :: r, v :: vs, ⟨⟨X, g, i, cs, t', ff, hT, hd, hv, hi, hsz, he⟩, h2⟩ => by
    have := resI_run T hs hw hf1 hf2 r vs h2
    have hc : ∀ j v, cs[j]? = some v → w.cell? ((⟨g, 0, none⟩ : Addr).add j) = some v := fun j v hv => by
      have hadd : (⟨g, 0, none⟩ : Addr).add j = ⟨g, j, none⟩ := by unfold Addr.add; split <;> simp_all
      rw [hadd, hw.cellOwn hi]; simpa using hv
    have ha : asAddr (a.tmps.getD p undef) = (pure ⟨g, 0, none⟩ : Sem Addr) := by simp [asAddr, hs.slot p _ hv]
    simp only [List.mapM_cons, hf2, Sem.run_bind, ha, Sem.run_pure, Result.andThen_ok, run_loadN T hT hd hsz hc, this, he]
theorem retN' (T : Tab P) {vs : List Value} (hl : Nat.ble 2 vs.length = true) (hr : resI T σ H fn.results.toList vs) (h : ∀ w, Inv cx fz H w → ∃ fz' H', Inv cx fz' H' w ∧ R (.tuple vs.toArray) fz' H') : retQ P cx n fn R .ret σ fz H :=
  ret_of (fun a w hs hw => by
    have h2 : ∀ (f : ResultVar → Sem Value) (w' : World), (fn.results.mapM f).run P w' = ((fn.results.toList.mapM f).run P w').andThen fun l w'' => .ok l.toArray w'' := fun f w' => by
      rw [Array.mapM_eq_mapM_toList, map_eq_pure_bind, Sem.run_bind]
      simp only [Sem.run_pure]
    have hne : ¬ vs.toArray.size = 1 := by
      have := Nat.le_of_ble_eq_true hl
      simp; omega
    unfold results
    rw [Sem.run_bind, h2, resI_run T hs hw (fun _ => rfl) (fun _ _ => rfl) _ _ hr]
    simp only [Result.andThen_ok, Sem.run_pure]
    rw [dif_neg hne]) h
theorem retNF (T : Tab P) {vs : List Value} (hl : Nat.ble 2 vs.length = true) (hr : resI T σ H fn.results.toList vs) (h : ∀ fz', Le fz fz' → (∀ p ∈ H, fz' p.1 = some p.2) → R (.tuple vs.toArray) fz' []) : retQ P cx n fn R .ret σ fz H := retN' T hl hr (rFreeze h)
theorem Keep.of {fz fz' : FZ} {Hq H' : HP} (h1 : Le fz fz') (h2 : Hq.Sublist H') : Keep fz Hq fz' H' := ⟨h1, fun _ hp => h2.subset hp⟩
variable {Q : QQ} {Hq : HP} {σ' τ ve cv : Env} {l : List Oper} {ch all : List (Nat × Oper)} {i d : Nat} {op : Op} {ty : TypeId} {pos : String} {af : Array Edge} {dn : Bool} {fz0 : FZ}
theorem q_index_own (T : Tab P) {t e : TypeId} {x i : Operand} {X Y : Ty} {g n c : Nat} {k : IntKind} {j : Int} {V : Value → Prop} {r : Operand → Option Value} {dst : Option Nat} {gd : Option (Nat × Bool)} (hT : T.inf t = some X) (hd : X.desc = .slice e) (hY : T.inf e = some Y)
    (hx : r x = some (.slice (some ⟨g, 0, none⟩) n c)) (hi : r i = some (.int k j)) (hs : Y.size = 1) (h0 : 0 ≤ j) (hn : j < n) (h : V (.pointer (some ⟨g, j.toNat, none⟩))) : DoesQ P cx ⟨dst, .indexAddr t x i, ty, pos, af, gd⟩ r fz H V := by
  refine q_indexAddr T hT hd hY hx hi h0 hn ?_
  have hadd : (⟨g, 0, none⟩ : Addr).add (j.toNat * Y.size) = ⟨g, j.toNat, none⟩ := by rw [hs]; unfold Addr.add; split <;> simp_all
  rw [hadd]
  exact h
theorem q_neq_boolD (T : Tab P) {t t' : TypeId} {x y : Operand} {X : Ty} {a b : Bool} {V : Value → Prop} {r : Operand → Option Value} {dst : Option Nat} {gd : Option (Nat × Bool)} (hT : T.inf t = some X) (hd : X.desc = .bool) (hx : r x = some (.bool a)) (hy : r y = some (.bool b)) (ht : a ≠ b → V (.bool true)) (hf : a = b → V (.bool false)) :
    DoesQ P cx ⟨dst, .binOp .neq t x y t', ty, pos, af, gd⟩ r fz H V := by
  refine q_neq_bool T hT hd hx hy ?_
  by_cases h : a = b
  · subst h; simpa using hf rfl
  · have := ht h
    cases a <;> cases b <;> simp_all
theorem ownS_block {e n : Nat} {v : Value} {xs : List Value} {Hs : HP} (h : OwnS e 1 v n xs Hs) (hn : 0 < n) : ∃ g cap cur, v = .slice (some ⟨g, 0, none⟩) n cap ∧ Hs = [(g, .cells (List.toArray cur) e (0, 0))] ∧ n ≤ cur.length ∧
    ∀ j u, OwnS e 1 v n (xs.set j u) [(g, .cells (cur.set j u).toArray e (0, 0))] := by
  obtain ⟨h0, h | ⟨g, cap, cur, h1, h2, h3, h4, h5, h6⟩⟩ := h
  · omega
  · refine ⟨g, cap, cur.toList, h1, h2, by simp; omega, fun j u => ⟨by simpa using h0, .inr ⟨g, cap, _, h1, rfl, h3, h4, by simpa using h5, ?_⟩⟩⟩
    rw [← h6]
    simp [List.take_set]
end
end Go.Lx
namespace Go.Proofs.YtegmololhnipiaaGreatDoor
open Go.Lx Go.Gr Go.RowKit
attribute [local instance 10] Classical.propDecidable
set_option maxRecDepth 20000
end Go.Proofs.YtegmololhnipiaaGreatDoor
namespace Go.Proofs.YtegmololhnipiaaGreatDoor
open Go.Lx Go.Gr Go.RowKit
attribute [local instance 10] Classical.propDecidable
set_option maxRecDepth 20000
noncomputable def assignM (g : GTask) (vs : List Int) : List GAssign → List Int → Option (List Int)
  | [], out => some out
  | a :: r, out => match valE vs a.value with
    | none => none
    | some n => match g.fluents[a.fluent.toNat]? with
      | none => none
      | some f => if f.lo ≤ n ∧ n ≤ f.hi then assignM g vs r (out.set a.fluent.toNat n) else none
theorem assignM_append {g : GTask} {vs : List Int} : ∀ {l r : List GAssign} {out : List Int}, assignM g vs (l ++ r) out = (assignM g vs l out).bind (assignM g vs r)
  | [], r, out => rfl
  | a :: l, r, out => by
    simp only [List.cons_append, assignM]
    cases valE vs a.value with
    | none => rfl
    | some n =>
      cases g.fluents[a.fluent.toNat]? with
      | none => rfl
      | some f =>
        simp only
        split
        · exact assignM_append
        · rfl
theorem assignM_next {g : GTask} {vs : List Int} {l : List GAssign} {out o1 : List Int} {k : Nat} {a : GAssign} {n : Int} {f : GFluent} (h : assignM g vs (l.take k) out = some o1) (ha : l[k]? = some a) (hn : valE vs a.value = some n) (hf : g.fluents[a.fluent.toNat]? = some f) (h1 : f.lo ≤ n) (h2 : n ≤ f.hi) :
    assignM g vs (l.take (k + 1)) out = some (o1.set a.fluent.toNat n) := by
  rw [List.take_add_one, ha, assignM_append, h]
  simp [assignM, hn, hf, h1, h2]
theorem assignM_bad {g : GTask} {vs : List Int} {l : List GAssign} {out o1 : List Int} {k : Nat} {a : GAssign} {f : GFluent} (h : assignM g vs (l.take k) out = some o1) (ha : l[k]? = some a) (hf : g.fluents[a.fluent.toNat]? = some f) (hn : ∀ n, valE vs a.value = some n → f.lo ≤ n → ¬ n ≤ f.hi) :
    assignM g vs l out = none := by
  have hs : l = l.take k ++ a :: l.drop (k + 1) := by
    have hlt := lt_of_get ha
    have e : l[k] = a := by rw [List.getElem?_eq_getElem hlt] at ha; injection ha
    rw [← e, ← List.drop_eq_getElem_cons hlt, List.take_append_drop]
  rw [hs, assignM_append, h]
  simp only [Option.bind_some, assignM]
  cases hv : valE vs a.value with
  | none => rfl
  | some n =>
    simp only [hf]
    rw [if_neg (fun hc => hn n hv hc.1 hc.2)]
theorem assignM_len {g : GTask} {vs : List Int} : ∀ {l : List GAssign} {out o : List Int}, assignM g vs l out = some o → o.length = out.length
  | [], out, o, h => by injection h with h; rw [h]
  | a :: l, out, o, h => by
    simp only [assignM] at h
    split at h
    · cases h
    · split at h
      · cases h
      · split at h
        · rw [assignM_len h]; simp
        · cases h
theorem assignM_in {g : GTask} {vs : List Int} {m : Int} (hv : InB vs) : ∀ {l : List GAssign} {out o : List Int}, (∀ a ∈ l, RightP m a.value) → InB out → assignM g vs l out = some o → InB o
  | [], out, o, _, ho, h => by injection h with h; rw [← h]; exact ho
  | a :: l, out, o, hr, ho, h => by
    simp only [assignM] at h
    split at h
    · cases h
    · rename_i n hn
      split at h
      · cases h
      · split at h
        · refine assignM_in hv (fun b hb => hr b (by simp [hb])) (fun x hx => ?_) h
          rcases List.mem_or_eq_of_mem_set hx with h1 | h1
          · exact ho x h1
          · rw [h1]; exact valE_in hv (hr a (by simp)) hn
        · cases h
theorem inB_i64 {l : List Int} (h : InB l) : ∀ z ∈ l, I64 z := fun z hz => by
  have := h z hz
  have hm : maxN = 1099511627776 := rfl
  unfold I64; omega
inductive AppR (g : GTask) (S : GState) (op : Int) : Int → List Int → Prop where
  | invalid : ¬ ValidP g → AppR g S op 2 []
  | range : ValidP g → (op < 0 ∨ g.ops.length ≤ op) → AppR g S op 1 []
  | improper : ValidP g → 0 ≤ op → op < g.ops.length → ¬ ProperP g S → AppR g S op 2 []
  | pre (o : GOp) : ValidP g → 0 ≤ op → op < g.ops.length → ProperP g S → g.ops[op.toNat]? = some o → ¬ HoldP S o.pre → AppR g S op 12 []
  | bounds (o : GOp) : ValidP g → 0 ≤ op → op < g.ops.length → ProperP g S → g.ops[op.toNat]? = some o → HoldP S o.pre → assignM g S.values o.assigns S.values = none → AppR g S op 14 []
  | ok (o : GOp) (vs : List Int) : ValidP g → 0 ≤ op → op < g.ops.length → ProperP g S → g.ops[op.toNat]? = some o → HoldP S o.pre → assignM g S.values o.assigns S.values = some vs → AppR g S op 0 vs
theorem AppR.det {g : GTask} {S : GState} {op c c' : Int} {vs vs' : List Int} (h : AppR g S op c vs) (h' : AppR g S op c' vs') : c = c' ∧ vs = vs' := by
  cases h <;> cases h' <;> first
    | exact ⟨rfl, rfl⟩
    | contradiction
    | (exfalso; omega)
    | simp_all
theorem ops_ok {g : GTask} (hv : ValidP g) {i : Nat} {o : GOp} (ho : g.ops[i]? = some o) : OpOk g.atoms.length g.fluents.length o := hv.2.2.2.2.2.2.2 o (List.mem_of_getElem? ho)
theorem op_get {g : GTask} {op : Int} (h0 : 0 ≤ op) (h1 : op < g.ops.length) : ∃ (j : Nat) (o : GOp), op = j ∧ g.ops[j]? = some o ∧ g.ops[op.toNat]? = some o := by
  obtain ⟨o, ho⟩ := get_int (l := g.ops) h0 h1
  exact ⟨op.toNat, o, by omega, ho, ho⟩
def AsgR (g : GTask) (S : GState) (op : Int) : Value → FZ → HP → Prop := fun v fz' H' => H' = [] ∧ ∃ code vs w, AppR g S op code vs ∧ v = .tuple #[w, errV code] ∧ IsSl intL fz' w vs
set_option maxHeartbeats 2000000 in
theorem assigned_f {fz : FZ} {g : GTask} {v1 v2 v3 v4 v5 : Value} {S : GState} {u1 u2 : Value} {op : Int} (hg : GTaskR fz g v1 v2 v3 v4 v5) (hs : GStateR fz S u1 u2) :
    GFn Tryz.prog 47 [gV v1 v2 v3 v4 v5, sV u1 u2, .int .i64 op] fz [] (AsgR g S op) := by
  have hg0 := hg
  have hs0 := hs
  (obtain ⟨A1, n1, cap1, rfl, ga⟩ := hg.atoms; obtain ⟨A2, n2, cap2, rfl, gf⟩ := hg.fluents; obtain ⟨A3, n3, cap3, rfl, gi⟩ := hg.init; obtain ⟨A4, n4, cap4, rfl, gg⟩ := hg.goal; obtain ⟨A5, n5, cap5, rfl, go⟩ := hg.ops; have e1 := ga.len; subst e1; have e2 := gf.len; subst e2)
  obtain ⟨B1, m1, d1, rfl, st⟩ := hs.tru
  obtain ⟨B2, m2, d2, rfl, sv⟩ := hs.values
  have l5 := go.len
  have lv := sv.len
  have q5 := go.short
  (refine GFn.of_wp Tryz.func47 rfl Tryz.ntmps47 rfl rfl (fun w0 => ?_))
  (refine Wp.seq (Wp.region (Seq.stepK (by exact rfl) (k_box _ (by exact rfl) (by exact rfl) (fun g0 => ?_)))))
  (refine Seq.stepK (by exact rfl) (k_box _ (by exact rfl) (by exact rfl) (fun g1 => ?_)))
  ((refine Zq ?_; refine Za ?_; refine Zq ?_; refine Za ?_; refine Seq.done ?_; refine Wp.seq ?_; refine Wp.seq ?_; refine Wp.region ?_; refine Zq ?_; refine ZL T 1 ?_))
  (((refine Zq ?_)); refine q_callB (by exact rfl) (by exact rfl) (valid_q hg0) (fun f1 => ?_) (fun f1 => ?_))
  · have hv := of_decide_eq_true f1
    ((refine Zq ?_; refine q_not (by exact rfl) ?_; refine Seq.done ?_; refine Zd ?_; refine Wp.skip ?_; refine thenN ?_; refine Wp.seq ?_; refine Wp.seq ?_; refine Wp.region ?_; refine Zq ?_; refine Zm ?_))
    (((refine Zq ?_)); (refine q_lssD (by exact rfl) (by exact rfl) (fun c1 => ?_) (fun c1 => ?_)))
    · ((refine Zq ?_; refine Zm ?_; refine Zn ?_; refine Zn ?_; refine Zn ?_; refine Zn ?_; refine Zn ?_; refine Zq ?_; refine Zt ?_; refine Seq.done ?_; refine Zc ?_; refine Wp.seq ?_; refine Wp.region ?_; refine Zq ?_; refine q_makeInterface T (by exact rfl) (by exact rfl) (by exact rfl) ?_; refine Zq ?_; refine Za ?_; refine Zq ?_; refine Za ?_; refine Seq.done ?_; refine Wp.ret ?_; refine thenR ?_))
      exact ret2 rfl rfl rfl (by repeat (first | exact List.Sublist.refl _ | exact List.nil_sublist _ | refine List.Sublist.cons_cons _ ?_ | refine List.Sublist.cons _ ?_)) ⟨rfl, 1, [], _, .range hv (.inl c1), by rw [errV_ne (by decide)], IsSl.nil⟩
    ((refine Zq ?_; refine Zm ?_; refine Zy ?_; refine Zm ?_; refine Zy ?_; refine Zf T ?_; refine Zy ?_; refine Zl T 1 ?_; refine Zy ?_; refine Zs T ?_))
    (((refine Zy ?_)); (refine q_geqD (by exact rfl) (by exact rfl) (fun c2 => ?_) (fun c2 => ?_)))
    · ((refine Zq ?_; refine Zu ?_; refine Seq.done ?_; refine Zc ?_; refine Wp.seq ?_; refine Wp.region ?_; refine Zq ?_; refine q_makeInterface T (by exact rfl) (by exact rfl) (by exact rfl) ?_; refine Zq ?_; refine Za ?_; refine Zq ?_; refine Za ?_; refine Seq.done ?_; refine Wp.ret ?_; refine thenR ?_))
      exact ret2 rfl rfl rfl (by repeat (first | exact List.Sublist.refl _ | exact List.nil_sublist _ | refine List.Sublist.cons_cons _ ?_ | refine List.Sublist.cons _ ?_)) ⟨rfl, 1, [], _, .range hv (.inr (by omega)), by rw [errV_ne (by decide)], IsSl.nil⟩
    have r0 : 0 ≤ op := by omega
    have r1 : op < g.ops.length := by omega
    ((refine Zq ?_; refine Zu ?_; refine Seq.done ?_; refine Zd ?_; refine Wp.skip ?_; refine thenN ?_; refine Wp.seq ?_; refine Wp.seq ?_; refine Wp.region ?_; refine Zq ?_; refine ZL T 1 ?_; refine Zq ?_; refine ZL T 0 ?_))
    (((refine Zq ?_)); refine q_callB (by exact rfl) (by exact rfl) (proper_q hg0 hs0) (fun f2 => ?_) (fun f2 => ?_))
    · have hp := of_decide_eq_true f2
      obtain ⟨j, o, hj, ho, ho'⟩ := op_get r0 r1
      have hok := ops_ok hv ho
      have hfl : g.fluents.length ≤ 4096 := by have := hv.2.1; omega
      have hpl := hp.1
      ((refine Zq ?_; refine q_not (by exact rfl) ?_; refine Seq.done ?_; refine Zd ?_; refine Wp.skip ?_; refine thenN ?_; refine Wp.seq ?_; refine Wp.region ?_; refine Zq ?_; refine Zf T ?_; refine Zq ?_; refine Zl T 1 ?_; refine Zq ?_; refine Zm ?_))
      (((refine Zq ?_)); refine q_index T j (by exact rfl) (by exact rfl) (by exact rfl) (by exact rfl) (by exact rfl) (by exact rfl) go (by first | rfl | omega) ho (fun p hp1 => ?_))
      (((refine Zq ?_)); refine q_load_at T (by exact rfl) (by exact rfl) (by exact rfl) hp1 (by exact rfl) ?_)
      intro cs hcs
      obtain ⟨w1, w2, w3, w4, w5, rfl, hO⟩ := gOpL_open hcs
      obtain ⟨P1, p1, o1, rfl, _⟩ := hO.pre.pos
      obtain ⟨P2, p2, o2, rfl, _⟩ := hO.pre.neg
      obtain ⟨P3, p3, o3, rfl, _⟩ := hO.pre.tests
      obtain ⟨P4, p4, o4, rfl, oc⟩ := hO.changes
      obtain ⟨P5, p5, o5, rfl, oa⟩ := hO.assigns
      have la := oa.len
      have qa := oa.short
      ((refine Seq.stepK (by exact rfl) (k_alloc T (by exact rfl) (by exact rfl) (fun _ => ?_)); refine Seq.stepK0 (k_store0 T (by exact rfl) (by exact rfl) (by exact rfl) (by exact rfl) (by exact rfl) (by exact rfl) ?_); refine Seq.done ?_; refine Wp.seq ?_; refine Wp.seq ?_; refine Wp.region ?_; refine Zq ?_; refine ZL T 1 ?_; refine Zq ?_; refine Zf T ?_))
      (((refine Zq ?_)); refine q_load_own_sub (vs := [.slice P1 p1 o1, .slice P2 p2 o2, .slice P3 p3 o3]) T 0 (by exact rfl) (by exact rfl) (by exact rfl) (by exact rfl) (by exact rfl) (by exact rfl) ?_)
      (((refine Zq ?_)); refine q_callB (by exact rfl) (by exact rfl) (holds_q hs0 hO.pre hp.2.1 (proper_in hv hp) (tests_of hp hok.2.2.2.2.1)) (fun f3 => ?_) (fun f3 => ?_))
      · have hh3 := of_decide_eq_true f3
        ((refine Zq ?_; refine q_not (by exact rfl) ?_; refine Seq.done ?_; refine Zd ?_; refine Wp.skip ?_; refine thenN ?_; refine Wp.seq ?_; refine Wp.region ?_; refine Zq ?_; refine Zf T ?_; refine Zq ?_; refine Zl T 1 ?_))
        refine Seq.stepK (by exact rfl) (k_call [] [_, _, _] (by exact rfl) (by exact rfl) (by exact rfl) (clone_f sv (by omega)) (fun v fz1 H1 hle1 hR => ?_))
        obtain ⟨rfl, hO1⟩ := hR
        refine Seq.perm (H' := [_, _, _] ++ H1) List.perm_append_comm ?_
        ((refine Zq ?_; refine Za ?_; refine Seq.done ?_; refine Wp.seq ?_; refine Wp.seq ?_; refine Wp.region ?_; refine Zq ?_; refine Zf T ?_; refine Zq ?_; refine Zl T 0 ?_; refine Zq ?_; refine Zs T ?_; refine Zq ?_; refine Zm ?_; refine Seq.done ?_; refine Wp.block ?_))
        refine Wp.loop (fun q σ fz' H' => ∃ (k : Nat) (xs : List Int) (Hs : HP), k ≤ p5 ∧ q = p5 - k ∧ σ = [(50, .int .i64 k), (49, .int .i64 p5), (48, .slice P5 p5 o5), (9, v), (4, .pointer (some ⟨g1, 0, none⟩)), (3, .pointer (some ⟨g0, 0, none⟩))] ∧ fz1 = fz' ∧
            H' = ((g1, .cells #[.slice B1 m1 d1, .slice B2 m2 d2] 33 (0, 0))) :: ((g0, .cells #[.slice A1 g.atoms.length cap1, .slice A2 g.fluents.length cap2, .slice A3 n3 cap3, .slice A4 n4 cap4, .slice A5 n5 cap5] 28 (0, 0))) :: Hs ∧ OwnS 3 1 v m2 (xs.map (Value.int .i64)) Hs ∧ assignM g S.values (o.assigns.take k) S.values = some xs)
          ⟨0, _, _, Nat.zero_le _, rfl, rfl, rfl, rfl, hO1, rfl⟩ (by repeat (first | exact trivial | refine ⟨by exact rfl, ?_⟩)) (by repeat (first | exact List.Sublist.refl _ | exact List.nil_sublist _ | refine List.Sublist.cons_cons _ ?_ | refine List.Sublist.cons _ ?_)) ?_
        rintro q σ fz' H' ⟨k, xs, Hs, hk, rfl, rfl, rfl, rfl, hOx, hA⟩
        ((refine Wp.seq ?_; refine Wp.region ?_))
        (((refine Zq ?_)); (refine q_lssD (by exact rfl) (by exact rfl) (fun c3 => ?_) (fun c3 => ?_)))
        · obtain ⟨x, hx⟩ := get_some (l := o.assigns) (k := k) (by omega)
          obtain ⟨a0, a1, ar, _⟩ := hok.2.2.2.2.2.2 k x hx
          obtain ⟨f, hf⟩ := get_int (l := g.fluents) a0 a1
          ((refine Seq.done ?_; refine Wp.seq ?_; refine Zc ?_; refine Wp.skip ?_; refine thenN ?_; refine Wp.seq ?_; refine Wp.block ?_; refine Wp.seq ?_; refine Wp.region ?_))
          (((refine Zq ?_)); refine q_index T k (by exact rfl) (by exact rfl) (by exact rfl) (by exact rfl) (by exact rfl) (by exact rfl) oa (by first | rfl | omega) hx (fun p hp2 => ?_))
          (((refine Zq ?_)); refine q_load_at T (by exact rfl) (by exact rfl) (by exact rfl) hp2 (by exact rfl) ?_)
          intro cs2 hcs2
          obtain ⟨y, rfl, hy⟩ := gAssignL_open hcs2
          obtain ⟨E1, r1', q1', rfl, _⟩ := hy.value.kids
          obtain ⟨z, hq⟩ := value_aux _ (Nat.le_refl _) hs0 hy.value (by rw [hpl]; exact ar) (proper_in hv hp)
          have bad : (∀ n, valE S.values x.value = some n → f.lo ≤ n → ¬ n ≤ f.hi) → AsgR g S op (.tuple #[.slice none 0 0, .iface 71 (.int .i64 14)]) fz1 [] := fun h =>
            ⟨rfl, 14, [], _, .bounds o hv r0 r1 hp ho' hh3 (assignM_bad hA hx hf h), by rw [errV_ne (by decide)], IsSl.nil⟩
          cases hval : valE S.values x.value with
          | none =>
            rw [hval] at hq
            ((refine Seq.stepK (by exact rfl) (k_alloc T (by exact rfl) (by exact rfl) (fun _ => ?_)); refine Seq.stepK0 (k_store0 T (by exact rfl) (by exact rfl) (by exact rfl) (by exact rfl) (by exact rfl) (by exact rfl) ?_); refine Seq.done ?_; refine Wp.seq ?_; refine Wp.region ?_; refine Zq ?_; refine ZL T 1 ?_; refine Zq ?_; refine Zf T ?_))
            (((refine Zq ?_)); refine q_load_own_sub (vs := [.string x.value.op, .int .i64 x.value.n, .slice E1 r1' q1']) T 0 (by exact rfl) (by exact rfl) (by exact rfl) (by exact rfl) (by exact rfl) (by exact rfl) ?_)
            (((refine Zq ?_)); refine q_call (by exact rfl) (by exact rfl) hq ?_)
            ((refine Zq ?_; refine Zm ?_; refine Zq ?_; refine Ze ?_; refine Zq ?_; refine Ze ?_; refine Zq ?_; refine Za ?_; refine Zq ?_; refine Za ?_; refine Seq.done ?_; refine Wp.seq ?_; refine Wp.seq ?_; refine Wp.region ?_; refine Zq ?_; refine Zm ?_; refine Zq ?_; refine q_not (by exact rfl) ?_; refine Zq ?_; refine Zm ?_; refine Zn ?_; refine Zn ?_; refine Zn ?_; refine Zn ?_; refine Zn ?_; refine Zn ?_; refine Zn ?_; refine Zn ?_; refine Zn ?_; refine Zq ?_; refine Zt ?_; refine Zq ?_; refine Zm ?_; refine Zn ?_; refine Zn ?_; refine Zn ?_; refine Zn ?_; refine Zn ?_; refine Zn ?_; refine Zn ?_; refine Zn ?_; refine Zn ?_; refine Zq ?_; refine Zt ?_; refine Seq.done ?_; refine Zc ?_; refine Wp.seq ?_; refine Wp.region ?_; refine Zq ?_; refine q_makeInterface T (by exact rfl) (by exact rfl) (by exact rfl) ?_; refine Zq ?_; refine Za ?_; refine Zq ?_; refine Za ?_; refine Seq.done ?_; refine Wp.ret ?_; refine thenR ?_; refine blkR ?_; refine thenR ?_; refine loopR ?_; refine blkR ?_; refine thenR ?_))
            exact ret2 rfl rfl rfl (List.nil_sublist _) (bad (fun n hn => by rw [hval] at hn; cases hn))
          | some n =>
            rw [hval] at hq
            ((refine Seq.stepK (by exact rfl) (k_alloc T (by exact rfl) (by exact rfl) (fun _ => ?_)); refine Seq.stepK0 (k_store0 T (by exact rfl) (by exact rfl) (by exact rfl) (by exact rfl) (by exact rfl) (by exact rfl) ?_); refine Seq.done ?_; refine Wp.seq ?_; refine Wp.region ?_; refine Zq ?_; refine ZL T 1 ?_; refine Zq ?_; refine Zf T ?_))
            (((refine Zq ?_)); refine q_load_own_sub (vs := [.string x.value.op, .int .i64 x.value.n, .slice E1 r1' q1']) T 0 (by exact rfl) (by exact rfl) (by exact rfl) (by exact rfl) (by exact rfl) (by exact rfl) ?_)
            (((refine Zq ?_)); refine q_call (by exact rfl) (by exact rfl) hq ?_)
            ((refine Zq ?_; refine Zm ?_; refine Zq ?_; refine Ze ?_; refine Zq ?_; refine Ze ?_; refine Zq ?_; refine Za ?_; refine Zq ?_; refine Za ?_; refine Seq.done ?_; refine Wp.seq ?_; refine Wp.seq ?_; refine Wp.region ?_; refine Zq ?_; refine Zm ?_; refine Zq ?_; refine q_not (by exact rfl) ?_; refine Zq ?_; refine Zm ?_; refine Zy ?_; refine Zm ?_; refine Zy ?_; refine Zf T ?_; refine Zy ?_; refine Zl T 2 ?_; refine Zy ?_; refine Zf T ?_; refine Zy ?_; refine Zl T 0 ?_))
            (((refine Zy ?_)); refine q_index T x.fluent.toNat (by exact rfl) (by exact rfl) (by exact rfl) (by exact rfl) (by exact rfl) (by exact rfl) gf (by first | rfl | omega) hf (fun p2 hp3 => ?_))
            ((refine Zy ?_; refine Zf T ?_))
            (((refine Zy ?_)); refine q_load_int T (by exact rfl) (by exact rfl) (by exact rfl) hp3.GFluent_lo (fun i1 => ?_))
            (((refine Zy ?_)); (refine q_lssD (by exact rfl) (by exact rfl) (fun c4 => ?_) (fun c4 => ?_)))
            · ((refine Zq ?_; refine Zu ?_; refine Zq ?_; refine Zm ?_; refine Zn ?_; refine Zn ?_; refine Zn ?_; refine Zn ?_; refine Zn ?_; refine Zn ?_; refine Zn ?_; refine Zn ?_; refine Zn ?_; refine Zq ?_; refine Zt ?_; refine Seq.done ?_; refine Zc ?_; refine Wp.seq ?_; refine Wp.region ?_; refine Zq ?_; refine q_makeInterface T (by exact rfl) (by exact rfl) (by exact rfl) ?_; refine Zq ?_; refine Za ?_; refine Zq ?_; refine Za ?_; refine Seq.done ?_; refine Wp.ret ?_; refine thenR ?_; refine blkR ?_; refine thenR ?_; refine loopR ?_; refine blkR ?_; refine thenR ?_))
              exact ret2 rfl rfl rfl (List.nil_sublist _) (bad (fun n' hn => by rw [hval] at hn; injection hn with hn; subst hn; intro h; exact absurd h (Int.not_le.2 c4)))
            ((refine Zq ?_; refine Zu ?_; refine Zq ?_; refine Zm ?_; refine Zy ?_; refine Zm ?_; refine Zy ?_; refine Zf T ?_; refine Zy ?_; refine Zl T 2 ?_; refine Zy ?_; refine Zf T ?_; refine Zy ?_; refine Zl T 0 ?_))
            (((refine Zy ?_)); refine q_index T x.fluent.toNat (by exact rfl) (by exact rfl) (by exact rfl) (by exact rfl) (by exact rfl) (by exact rfl) gf (by first | rfl | omega) hf (fun p3' hp4 => ?_))
            ((refine Zy ?_; refine Zf T ?_))
            (((refine Zy ?_)); refine q_load_int T (by exact rfl) (by exact rfl) (by exact rfl) hp4.GFluent_hi (fun i2 => ?_))
            (((refine Zy ?_)); (refine q_gtrD (by exact rfl) (by exact rfl) (fun c5 => ?_) (fun c5 => ?_)))
            · ((refine Zq ?_; refine Zu ?_; refine Seq.done ?_; refine Zc ?_; refine Wp.seq ?_; refine Wp.region ?_; refine Zq ?_; refine q_makeInterface T (by exact rfl) (by exact rfl) (by exact rfl) ?_; refine Zq ?_; refine Za ?_; refine Zq ?_; refine Za ?_; refine Seq.done ?_; refine Wp.ret ?_; refine thenR ?_; refine blkR ?_; refine thenR ?_; refine loopR ?_; refine blkR ?_; refine thenR ?_))
              exact ret2 rfl rfl rfl (List.nil_sublist _) (bad (fun n' hn => by rw [hval] at hn; injection hn with hn; subst hn; intro _; exact Int.not_le.2 c5))
            obtain ⟨gx, cap, cur, rfl, rfl, hcur, hset⟩ := ownS_block hOx (by omega)
            ((refine Zq ?_; refine Zu ?_; refine Seq.done ?_; refine Zd ?_; refine Wp.skip ?_; refine thenN ?_; refine Wp.region ?_; refine Zq ?_; refine Zm ?_; refine Zq ?_; refine Zf T ?_; refine Zq ?_; refine Zl T 0 ?_; refine Zq ?_; refine Zm ?_))
            ((refine Zq ?_)); refine q_index_own T (by exact rfl) (by exact rfl) (by exact rfl) (by exact rfl) (by exact rfl) (by exact rfl) (by omega) (by omega) ?_
            refine Seq.stepK0 (k_store_row T (pre := [_, _, _]) (post := []) (by exact rfl) (by exact rfl) (by exact rfl) (by exact rfl) (by exact rfl) (by exact rfl) (by exact rfl) (by omega) ?_)
            ((refine Seq.end_ ?_; refine blkN ?_; refine thenN ?_; refine Wp.region ?_; refine Zq ?_; refine q_add (by exact rfl) (by exact rfl) (wrap_in (by omega)) ?_; refine Zq ?_; refine Zm ?_; refine Seq.end_ ?_))
            exact loopN ⟨k + 1, xs.set x.fluent.toNat n, _, by omega, rfl, rfl, rfl, rfl, by rw [List.map_set]; exact hset _ _, assignM_next hA hx hval hf (Int.not_lt.1 c4) (Int.not_lt.1 c5)⟩ (by omega) (by repeat (first | exact trivial | refine ⟨by exact rfl, ?_⟩)) (by repeat (first | exact List.Sublist.refl _ | exact List.nil_sublist _ | refine List.Sublist.cons_cons _ ?_ | refine List.Sublist.cons _ ?_))
        · have hA' : assignM g S.values o.assigns S.values = some xs := by rw [← hA, List.take_of_length_le (by omega)]
          ((refine Seq.done ?_; refine Wp.seq ?_; refine Zd ?_; refine Wp.exit ?_; refine thenX ?_; refine loopX ?_; refine blkX (by exact rfl) ?_; refine thenN ?_; refine Wp.seq ?_; refine Wp.region ?_; refine Zq ?_; refine Zm ?_; refine Zq ?_; refine Za ?_; refine Zq ?_; refine Za ?_; refine Seq.done ?_; refine Wp.ret ?_))
          refine ret2F rfl rfl rfl (fun fz3 hle3 hf3 => ?_)
          obtain ⟨A', c', he, hsl'⟩ := sl_ints hOx (fun p hp => hf3 p (by simp [hp])) (by omega) (inB_i64 (assignM_in (proper_in hv hp) (fun a ha => by
            obtain ⟨i, hi⟩ := List.mem_iff_getElem?.1 ha
            exact (hok.2.2.2.2.2.2 i a hi).2.2.1) (proper_in hv hp) hA'))
          exact ⟨rfl, 0, xs, _, .ok o xs hv r0 r1 hp ho' hh3 hA', rfl, by rw [he]; exact hsl'.is⟩
      · ((refine Zq ?_; refine q_not (by exact rfl) ?_; refine Seq.done ?_; refine Zc ?_; refine Wp.seq ?_; refine Wp.region ?_; refine Zq ?_; refine q_makeInterface T (by exact rfl) (by exact rfl) (by exact rfl) ?_; refine Zq ?_; refine Za ?_; refine Zq ?_; refine Za ?_; refine Seq.done ?_; refine Wp.ret ?_; refine thenR ?_))
        exact ret2 rfl rfl rfl (by repeat (first | exact List.Sublist.refl _ | exact List.nil_sublist _ | refine List.Sublist.cons_cons _ ?_ | refine List.Sublist.cons _ ?_)) ⟨rfl, 12, [], _, .pre o hv r0 r1 hp ho' (of_decide_eq_false f3), by rw [errV_ne (by decide)], IsSl.nil⟩
    · ((refine Zq ?_; refine q_not (by exact rfl) ?_; refine Seq.done ?_; refine Zc ?_; refine Wp.seq ?_; refine Wp.region ?_; refine Zq ?_; refine q_makeInterface T (by exact rfl) (by exact rfl) (by exact rfl) ?_; refine Zq ?_; refine Za ?_; refine Zq ?_; refine Za ?_; refine Seq.done ?_; refine Wp.ret ?_; refine thenR ?_))
      exact ret2 rfl rfl rfl (by repeat (first | exact List.Sublist.refl _ | exact List.nil_sublist _ | refine List.Sublist.cons_cons _ ?_ | refine List.Sublist.cons _ ?_)) ⟨rfl, 2, [], _, .improper hv r0 r1 (of_decide_eq_false f2), by rw [errV_ne (by decide)], IsSl.nil⟩
  · ((refine Zq ?_; refine q_not (by exact rfl) ?_; refine Seq.done ?_; refine Zc ?_; refine Wp.seq ?_; refine Wp.region ?_; refine Zq ?_; refine q_makeInterface T (by exact rfl) (by exact rfl) (by exact rfl) ?_; refine Zq ?_; refine Za ?_; refine Zq ?_; refine Za ?_; refine Seq.done ?_; refine Wp.ret ?_; refine thenR ?_))
    exact ret2 rfl rfl rfl (by repeat (first | exact List.Sublist.refl _ | exact List.nil_sublist _ | refine List.Sublist.cons_cons _ ?_ | refine List.Sublist.cons _ ?_)) ⟨rfl, 2, [], _, .invalid (of_decide_eq_false f1), by rw [errV_ne (by decide)], IsSl.nil⟩
end Go.Proofs.YtegmololhnipiaaGreatDoor
namespace Go.Proofs.YtegmololhnipiaaGreatDoor
open Go.Lx Go.Gr Go.RowKit
attribute [local instance 10] Classical.propDecidable
set_option maxRecDepth 20000
theorem app_total (g : GTask) (S : GState) (op : Int) : ∃ code vs, AppR g S op code vs := by
  by_cases hv : ValidP g
  · by_cases hr : op < 0 ∨ g.ops.length ≤ op
    · exact ⟨_, _, .range hv hr⟩
    · have r0 : 0 ≤ op := by omega
      have r1 : op < g.ops.length := by omega
      by_cases hp : ProperP g S
      · obtain ⟨j, o, hj, ho, ho'⟩ := op_get r0 r1
        by_cases hh : HoldP S o.pre
        · cases hA : assignM g S.values o.assigns S.values with
          | none => exact ⟨_, _, .bounds o hv r0 r1 hp ho' hh hA⟩
          | some vs => exact ⟨_, _, .ok o vs hv r0 r1 hp ho' hh hA⟩
        · exact ⟨_, _, .pre o hv r0 r1 hp ho' hh⟩
      · exact ⟨_, _, .improper hv r0 r1 hp⟩
  · exact ⟨_, _, .invalid hv⟩
end Go.Proofs.YtegmololhnipiaaGreatDoor
namespace Go.Proofs.YtegmololhnipiaaGreatDoor
open Go.Lx Go.Gr Go.RowKit
attribute [local instance 10] Classical.propDecidable
set_option maxRecDepth 20000
def AddP (S : GState) (l : List GChange) (i : Int) : Prop := ∃ c ∈ l, c.add = true ∧ HoldP S c.when_ ∧ c.atom = i
def DelP (S : GState) (l : List GChange) (i : Int) : Prop := ∃ c ∈ l, c.add = false ∧ HoldP S c.when_ ∧ c.atom = i
def NextP (S : GState) (l : List GChange) (i : Int) : Prop := AddP S l i ∨ (i ∈ S.tru ∧ ¬ DelP S l i)
noncomputable def truUpto (S : GState) (l : List GChange) (n : Nat) : List Int := ((List.range n).filter fun i : Nat => decide (NextP S l i)).map fun i : Nat => (i : Int)
noncomputable def nextT (g : GTask) (S : GState) (op : Int) : List Int := match g.ops[op.toNat]? with
  | some o => truUpto S o.changes g.atoms.length
  | none => []
noncomputable def nextS (g : GTask) (S : GState) (op code : Int) (vs : List Int) : GState := if code = 0 then ⟨nextT g S op, vs⟩ else ⟨[], []⟩
theorem truUpto_succ {S : GState} {l : List GChange} {k : Nat} : truUpto S l (k + 1) = if NextP S l k then truUpto S l k ++ [(k : Int)] else truUpto S l k := by
  unfold truUpto
  rw [List.range_succ, List.filter_append, List.map_append]
  by_cases h : NextP S l k
  · rw [if_pos h]; simp [h]
  · rw [if_neg h]; simp [h]
theorem truUpto_len {S : GState} {l : List GChange} {k : Nat} : (truUpto S l k).length ≤ k := by
  unfold truUpto
  rw [List.length_map]
  exact Nat.le_trans (List.length_filter_le _ _) (by simp)
theorem truUpto_i64 {S : GState} {l : List GChange} {k : Nat} (hk : k ≤ 1000000) : ∀ z ∈ truUpto S l k, I64 z := fun z hz => by
  obtain ⟨i, hi, rfl⟩ := List.mem_map.1 hz
  have := List.mem_range.1 (List.mem_filter.1 hi).1
  unfold I64; omega
theorem some_take {l : List GChange} {k : Nat} {c : GChange} {p : GChange → Prop} (hc : l[k]? = some c) : (∃ x ∈ l.take (k + 1), p x) ↔ (∃ x ∈ l.take k, p x) ∨ p c := by
  rw [List.take_add_one, hc]
  simp only [Option.toList, List.mem_append, List.mem_singleton]
  constructor
  · rintro ⟨x, h | rfl, hp⟩
    · exact .inl ⟨x, h, hp⟩
    · exact .inr hp
  · rintro (⟨x, h, hp⟩ | hp)
    · exact ⟨x, .inl h, hp⟩
    · exact ⟨c, .inr rfl, hp⟩
theorem add_skip {S : GState} {l : List GChange} {k : Nat} {c : GChange} {x : Int} (hc : l[k]? = some c) (h : ¬ (c.add = true ∧ HoldP S c.when_)) : AddP S (l.take (k + 1)) x ↔ AddP S (l.take k) x := by
  unfold AddP
  rw [some_take hc]
  exact ⟨fun hh => hh.elim id (fun hp => absurd ⟨hp.1, hp.2.1⟩ h), .inl⟩
theorem del_skip {S : GState} {l : List GChange} {k : Nat} {c : GChange} {x : Int} (hc : l[k]? = some c) (h : ¬ (c.add = false ∧ HoldP S c.when_)) : DelP S (l.take (k + 1)) x ↔ DelP S (l.take k) x := by
  unfold DelP
  rw [some_take hc]
  exact ⟨fun hh => hh.elim id (fun hp => absurd ⟨hp.1, hp.2.1⟩ h), .inl⟩
theorem add_take {S : GState} {l : List GChange} {k : Nat} {c : GChange} {x : Int} (hc : l[k]? = some c) (h1 : c.add = true) (h2 : HoldP S c.when_) : AddP S (l.take (k + 1)) x ↔ AddP S (l.take k) x ∨ x = c.atom := by
  unfold AddP
  rw [some_take hc]
  exact ⟨fun hh => hh.elim .inl (fun hp => .inr hp.2.2.symm), fun hh => hh.elim .inl (fun hp => .inr ⟨h1, h2, hp.symm⟩)⟩
theorem del_take {S : GState} {l : List GChange} {k : Nat} {c : GChange} {x : Int} (hc : l[k]? = some c) (h1 : c.add = false) (h2 : HoldP S c.when_) : DelP S (l.take (k + 1)) x ↔ DelP S (l.take k) x ∨ x = c.atom := by
  unfold DelP
  rw [some_take hc]
  exact ⟨fun hh => hh.elim .inl (fun hp => .inr hp.2.2.symm), fun hh => hh.elim .inl (fun hp => .inr ⟨h1, h2, hp.symm⟩)⟩
theorem AppR.ok_inv {g : GTask} {S : GState} {op : Int} {vs : List Int} (h : AppR g S op 0 vs) : ∃ o, ValidP g ∧ 0 ≤ op ∧ op < g.ops.length ∧ ProperP g S ∧ g.ops[op.toNat]? = some o ∧ HoldP S o.pre ∧ assignM g S.values o.assigns S.values = some vs := by
  cases h
  rename_i o a b c d e f h
  exact ⟨o, a, b, c, d, e, f, h⟩
def ApR (g : GTask) (S : GState) (op code : Int) (vs : List Int) : Value → FZ → HP → Prop := fun v fz' H' => H' = [] ∧ ∃ w1 w2, v = .tuple #[sV w1 w2, errV code] ∧ GStateR fz' (nextS g S op code vs) w1 w2
set_option maxHeartbeats 4000000 in
theorem apply_f {fz : FZ} {g : GTask} {v1 v2 v3 v4 v5 : Value} {S : GState} {u1 u2 : Value} {op code : Int} {vs : List Int} (hg : GTaskR fz g v1 v2 v3 v4 v5) (hs : GStateR fz S u1 u2) (ha : AppR g S op code vs) :
    GFn Tryz.prog 14 [gV v1 v2 v3 v4 v5, sV u1 u2, .int .i64 op] fz [] (ApR g S op code vs) := by
  have hg0 := hg
  have hs0 := hs
  (obtain ⟨A1, n1, cap1, rfl, ga⟩ := hg.atoms; obtain ⟨A2, n2, cap2, rfl, gf⟩ := hg.fluents; obtain ⟨A3, n3, cap3, rfl, gi⟩ := hg.init; obtain ⟨A4, n4, cap4, rfl, gg⟩ := hg.goal; obtain ⟨A5, n5, cap5, rfl, go⟩ := hg.ops; have e1 := ga.len; subst e1; have e2 := gf.len; subst e2)
  obtain ⟨B1, m1, d1, rfl, st⟩ := hs.tru
  obtain ⟨B2, m2, d2, rfl, sv⟩ := hs.values
  have l5 := go.len
  have q5 := go.short
  (refine GFn.of_wp Tryz.func14 rfl Tryz.ntmps14 rfl rfl (fun w0 => ?_))
  (refine Wp.seq (Wp.region (Seq.stepK (by exact rfl) (k_box _ (by exact rfl) (by exact rfl) (fun g0 => ?_)))))
  (refine Seq.stepK (by exact rfl) (k_box _ (by exact rfl) (by exact rfl) (fun g1 => ?_)))
  refine Seq.stepK (by exact rfl) (k_alloc T (by exact rfl) (by exact rfl) (fun g6 => ?_))
  ((refine Zq ?_; refine Za ?_; refine Seq.done ?_; refine Wp.seq ?_; refine Wp.region ?_; refine Zq ?_; refine ZL T 2 ?_; refine Zq ?_; refine ZL T 1 ?_; refine Zq ?_; refine Zm ?_))
  refine Seq.stepK (by exact rfl) (k_call [] [_, _, _] (by exact rfl) (by exact rfl) (by exact rfl) (assigned_f hg0 hs0) (fun v fz1 H1 hle1 hR => ?_))
  obtain ⟨rfl, c', vs', w, hA, rfl, hw⟩ := hR
  obtain ⟨rfl, rfl⟩ := hA.det ha
  by_cases hc : c' = 0
  · subst hc
    obtain ⟨o, hv, r0, r1, hp, ho', hpre, hasg⟩ := hA.ok_inv
    obtain ⟨j, o2, hj, ho, ho2⟩ := op_get r0 r1
    rw [ho'] at ho2; injection ho2 with ho2; subst ho2
    have hok := ops_ok hv ho
    have hat : g.atoms.length ≤ 4096 := by have := hv.1; omega
    obtain ⟨W1, wn, wc, rfl, hsw⟩ := hw
    replace hg0 := hg0.mono hle1
    replace hs0 := hs0.mono hle1
    replace go := go.mono hle1
    replace st := st.mono hle1
    rw [show errV 0 = .nilIface from rfl]
    ((refine Zq ?_; refine Zm ?_; refine Zq ?_; refine Ze ?_; refine Zq ?_; refine Ze ?_; refine Zq ?_; refine Za ?_; refine Zq ?_; refine Za ?_; refine Seq.done ?_; refine Wp.seq ?_; refine Wp.seq ?_; refine Wp.region ?_; refine Zq ?_; refine Zm ?_; refine Zq ?_; refine q_neq_nil T (by exact rfl) (by exact rfl) (by exact rfl) (by exact rfl) ?_; refine Seq.done ?_; refine Zd ?_; refine Wp.skip ?_; refine thenN ?_; refine Wp.seq ?_; refine Wp.region ?_))
    refine Seq.stepK (by exact rfl) (k_makeMap (fun gm1 => ?_))
    refine Seq.stepK (by exact rfl) (k_makeMap (fun gm2 => ?_))
    ((refine Zq ?_; refine Za ?_; refine Zq ?_; refine Za ?_; refine Seq.done ?_; refine Wp.seq ?_; refine Wp.seq ?_; refine Wp.region ?_; refine Zq ?_; refine Zf T ?_; refine Zq ?_; refine Zl T 4 ?_; refine Zq ?_; refine Zm ?_))
    (((refine Zq ?_)); refine q_index T j (by exact rfl) (by exact rfl) (by exact rfl) (by exact rfl) (by exact rfl) (by exact rfl) go (by first | rfl | omega) ho (fun p hp1 => ?_))
    ((refine Zq ?_; refine Zf T ?_))
    (((refine Zq ?_)); refine q_load_sl T (by exact rfl) (by exact rfl) (by exact rfl) hp1.GOp_changes (fun P4 p4 o4 oc => ?_))
    have lc := oc.len
    have qc := oc.short
    ((refine Zq ?_; refine Zs T ?_; refine Zq ?_; refine Zm ?_; refine Seq.done ?_; refine Wp.block ?_))
    refine Wp.loop (fun q σ fz' H' => ∃ (k : Nat) (ks1 ks2 : List Int), k ≤ p4 ∧ q = p4 - k ∧ σ = [(38, .int .i64 k), (37, .int .i64 p4), (36, .slice P4 p4 o4), (11, .map (some gm2)), (10, .map (some gm1)), (8, .slice W1 wn wc), (6, .pointer (some ⟨g6, 0, none⟩)), (4, .pointer (some ⟨g1, 0, none⟩)), (3, .pointer (some ⟨g0, 0, none⟩))] ∧ fz1 = fz' ∧
        H' = [(gm2, mapB (setB ks2)), (gm1, mapB (setB ks1)), (g6, .cells #[.slice none 0 0, .slice none 0 0] 33 (0, 0)), ((g1, .cells #[.slice B1 m1 d1, .slice B2 m2 d2] 33 (0, 0))), ((g0, .cells #[.slice A1 g.atoms.length cap1, .slice A2 g.fluents.length cap2, .slice A3 n3 cap3, .slice A4 n4 cap4, .slice A5 n5 cap5] 28 (0, 0)))] ∧ (∀ x, x ∈ ks1 ↔ AddP S (o.changes.take k) x) ∧ ∀ x, x ∈ ks2 ↔ DelP S (o.changes.take k) x)
      ⟨0, [], [], Nat.zero_le _, rfl, rfl, rfl, rfl, by simp [AddP], by simp [DelP]⟩ (by repeat (first | exact trivial | refine ⟨by exact rfl, ?_⟩)) (by repeat (first | exact List.Sublist.refl _ | exact List.nil_sublist _ | refine List.Sublist.cons_cons _ ?_ | refine List.Sublist.cons _ ?_)) ?_
    rintro q σ fz' H' ⟨k, ks1, ks2, hk, rfl, rfl, rfl, rfl, hk1, hk2⟩
    ((refine Wp.seq ?_; refine Wp.region ?_))
    (((refine Zq ?_)); (refine q_lssD (by exact rfl) (by exact rfl) (fun c3 => ?_) (fun c3 => ?_)))
    · obtain ⟨x, hx⟩ := get_some (l := o.changes) (k := k) (by omega)
      have hxok := hok.2.2.2.2.2.1 x (List.mem_of_getElem? hx)
      ((refine Seq.done ?_; refine Wp.seq ?_; refine Zc ?_; refine Wp.skip ?_; refine thenN ?_; refine Wp.seq ?_; refine Wp.block ?_; refine Wp.seq ?_; refine Wp.region ?_))
      (((refine Zq ?_)); refine q_index T k (by exact rfl) (by exact rfl) (by exact rfl) (by exact rfl) (by exact rfl) (by exact rfl) oc (by first | rfl | omega) hx (fun p hp2 => ?_))
      (((refine Zq ?_)); refine q_load_at T (by exact rfl) (by exact rfl) (by exact rfl) hp2 (by exact rfl) ?_)
      intro cs hcs
      obtain ⟨y1, y2, y3, rfl, hy⟩ := gChangeL_open hcs
      obtain ⟨E1, r1', q1', rfl, _⟩ := hy.when_.pos
      obtain ⟨E2, r2', q2', rfl, _⟩ := hy.when_.neg
      obtain ⟨E3, r3', q3', rfl, _⟩ := hy.when_.tests
      ((refine Seq.stepK (by exact rfl) (k_alloc T (by exact rfl) (by exact rfl) (fun _ => ?_)); refine Seq.stepK0 (k_store0 T (by exact rfl) (by exact rfl) (by exact rfl) (by exact rfl) (by exact rfl) (by exact rfl) ?_); refine Seq.done ?_; refine Wp.seq ?_; refine Wp.seq ?_; refine Wp.region ?_; refine Zq ?_; refine ZL T 4 ?_; refine Zq ?_; refine Zf T ?_))
      (((refine Zq ?_)); refine q_load_own_sub (vs := [.slice E1 r1' q1', .slice E2 r2' q2', .slice E3 r3' q3']) T 0 (by exact rfl) (by exact rfl) (by exact rfl) (by exact rfl) (by exact rfl) (by exact rfl) ?_)
      (((refine Zq ?_)); refine q_callB (by exact rfl) (by exact rfl) (holds_q hs0 hy.when_ hp.2.1 (proper_in hv hp) (tests_of hp hxok.2.2)) (fun f3 => ?_) (fun f3 => ?_))
      · have hh3 := of_decide_eq_true f3
        ((refine Zq ?_; refine q_not (by exact rfl) ?_; refine Seq.done ?_; refine Zd ?_; refine Wp.skip ?_; refine thenN ?_; refine Wp.seq ?_; refine Wp.region ?_; refine Zq ?_; refine Zf T ?_; refine Zq ?_; refine Zl T 0 ?_; refine Seq.done ?_))
        cases hadd : x.add with
        | true =>
          ((refine Zc ?_; refine Wp.region ?_; refine Zq ?_; refine Zm ?_; refine Zq ?_; refine Zf T ?_; refine Zq ?_; refine Zl T 0 ?_))
          refine Seq.stepK0 (k_mapUpdate T (pre := [_, _]) (by exact rfl) (by exact rfl) (by exact rfl) (by exact rfl) (by exact rfl) (by exact rfl) (by exact rfl) (List.Perm.refl _) ?_)
          rw [upd_set]
          ((refine Seq.end_ ?_; refine blkN ?_; refine thenN ?_; refine Wp.region ?_; refine Zq ?_; refine q_add (by exact rfl) (by exact rfl) (wrap_in (by omega)) ?_; refine Zq ?_; refine Zm ?_; refine Seq.end_ ?_))
          exact loopN ⟨k + 1, _, _, by omega, rfl, rfl, rfl, rfl, fun z => by rw [mem_insK, add_take hx hadd hh3, hk1], fun z => by rw [del_skip hx (by simp [hadd]), hk2]⟩ (by omega) (by repeat (first | exact trivial | refine ⟨by exact rfl, ?_⟩)) (by repeat (first | exact List.Sublist.refl _ | exact List.nil_sublist _ | refine List.Sublist.cons_cons _ ?_ | refine List.Sublist.cons _ ?_))
        | false =>
          ((refine Zd ?_; refine Wp.region ?_; refine Zq ?_; refine Zm ?_; refine Zq ?_; refine Zf T ?_; refine Zq ?_; refine Zl T 0 ?_))
          refine Seq.stepK0 (k_mapUpdate T (pre := [_]) (by exact rfl) (by exact rfl) (by exact rfl) (by exact rfl) (by exact rfl) (by exact rfl) (by exact rfl) (List.Perm.refl _) ?_)
          rw [upd_set]
          ((refine Seq.end_ ?_; refine blkN ?_; refine thenN ?_; refine Wp.region ?_; refine Zq ?_; refine q_add (by exact rfl) (by exact rfl) (wrap_in (by omega)) ?_; refine Zq ?_; refine Zm ?_; refine Seq.end_ ?_))
          exact loopN ⟨k + 1, _, _, by omega, rfl, rfl, rfl, rfl, fun z => by rw [add_skip hx (by simp [hadd]), hk1], fun z => by rw [mem_insK, del_take hx hadd hh3, hk2]⟩ (by omega) (by repeat (first | exact trivial | refine ⟨by exact rfl, ?_⟩)) (by repeat (first | exact List.Sublist.refl _ | exact List.nil_sublist _ | refine List.Sublist.cons_cons _ ?_ | refine List.Sublist.cons _ ?_))
      · have hh3 := of_decide_eq_false f3
        ((refine Zq ?_; refine q_not (by exact rfl) ?_; refine Seq.done ?_; refine Zc ?_; refine Wp.exit ?_; refine thenX ?_; refine blkX (by exact rfl) ?_; refine thenN ?_; refine Wp.region ?_; refine Zq ?_; refine q_add (by exact rfl) (by exact rfl) (wrap_in (by omega)) ?_; refine Zq ?_; refine Zm ?_; refine Seq.end_ ?_))
        exact loopN ⟨k + 1, _, _, by omega, rfl, rfl, rfl, rfl, fun z => by rw [add_skip hx (fun h => hh3 h.2), hk1], fun z => by rw [del_skip hx (fun h => hh3 h.2), hk2]⟩ (by omega) (by repeat (first | exact trivial | refine ⟨by exact rfl, ?_⟩)) (by repeat (first | exact List.Sublist.refl _ | exact List.nil_sublist _ | refine List.Sublist.cons_cons _ ?_ | refine List.Sublist.cons _ ?_))
    · rw [List.take_of_length_le (by omega)] at hk1 hk2
      ((refine Seq.done ?_; refine Wp.seq ?_; refine Zd ?_; refine Wp.exit ?_; refine thenX ?_; refine loopX ?_; refine blkX (by exact rfl) ?_; refine thenN ?_; refine Wp.seq ?_; refine Wp.region ?_; refine Zq ?_; refine Zm ?_; refine Zq ?_; refine q_build T (by exact rfl) (by exact rfl) (by exact rfl) (by exact rfl) (by exact rfl) ?_; refine Seq.stepK (by exact rfl) (k_alloc T (by exact rfl) (by exact rfl) (fun _ => ?_)); refine Seq.stepK0 (k_store0 T (by exact rfl) (by exact rfl) (by exact rfl) (by exact rfl) (by exact rfl) (by exact rfl) ?_); refine Seq.done ?_; refine Wp.seq ?_; refine Wp.seq ?_; refine Wp.region ?_; refine Zq ?_; refine Zf T ?_; refine Zq ?_; refine Zl T 5 ?_; refine Zq ?_; refine Zs T ?_; refine Zq ?_; refine Zm ?_; refine Seq.done ?_; refine Wp.block ?_))
      rename_i g14
      refine Wp.loop (fun q σ fz' H' => ∃ (k : Nat) (v : Value) (Hs : HP), k ≤ g.atoms.length ∧ q = g.atoms.length - k ∧ σ = [(61, .int .i64 k), (60, .int .i64 g.atoms.length), (14, .pointer (some ⟨g14, 0, none⟩)), (11, .map (some gm2)), (10, .map (some gm1)), (6, .pointer (some ⟨g6, 0, none⟩)), (4, .pointer (some ⟨g1, 0, none⟩))] ∧ fz1 = fz' ∧
          H' = (g14, .cells #[v, .slice W1 wn wc] 33 (0, 0)) :: (gm2, mapB (setB ks2)) :: (gm1, mapB (setB ks1)) :: (g6, .cells #[.slice none 0 0, .slice none 0 0] 33 (0, 0)) :: ((g1, .cells #[.slice B1 m1 d1, .slice B2 m2 d2] 33 (0, 0))) :: Hs ∧ OwnS 3 1 v (truUpto S o.changes k).length ((truUpto S o.changes k).map (Value.int .i64)) Hs)
        ⟨0, _, _, Nat.zero_le _, rfl, rfl, rfl, rfl, OwnS.nil _ _⟩ (by repeat (first | exact trivial | refine ⟨by exact rfl, ?_⟩)) (by repeat (first | exact List.Sublist.refl _ | exact List.nil_sublist _ | refine List.Sublist.cons_cons _ ?_ | refine List.Sublist.cons _ ?_)) ?_
      rintro q σ fz' H' ⟨k, v, Hs, hk', rfl, rfl, rfl, rfl, hO⟩
      have htl := truUpto_len (S := S) (l := o.changes) (k := k)
      ((refine Wp.seq ?_; refine Wp.region ?_))
      (((refine Zq ?_)); (refine q_lssD (by exact rfl) (by exact rfl) (fun c4 => ?_) (fun c4 => ?_)))
      · have go_on : NextP S o.changes k → ∀ {v' Hs'}, OwnS 3 1 v' ((truUpto S o.changes k).length + 1) ((truUpto S o.changes k).map (Value.int .i64) ++ [.int .i64 k]) Hs' → OwnS 3 1 v' (truUpto S o.changes (k + 1)).length ((truUpto S o.changes (k + 1)).map (Value.int .i64)) Hs' := fun h v' Hs' hO' => by
          rw [truUpto_succ, if_pos h]; simpa using hO'
        have stay : ¬ NextP S o.changes k → OwnS 3 1 v (truUpto S o.changes (k + 1)).length ((truUpto S o.changes (k + 1)).map (Value.int .i64)) Hs := fun h => by
          rw [truUpto_succ, if_neg h]; exact hO
        ((refine Seq.done ?_; refine Wp.seq ?_; refine Zc ?_; refine Wp.skip ?_; refine thenN ?_; refine Wp.seq ?_; refine Wp.block ?_; refine Wp.seq ?_; refine Wp.region ?_; refine Zq ?_; refine Zm ?_; refine Zq ?_; refine Za ?_; refine Seq.done ?_; refine Wp.seq ?_; refine Wp.region ?_; refine Zq ?_; refine Zf T ?_; refine Zq ?_; refine Zl T 4 ?_; refine Zq ?_; refine Zm ?_))
        (((refine Zq ?_)); refine q_call (by exact rfl) (by exact rfl) (search_q (t := (k : Int)) st hp.2.1) ?_)
        ((refine Zq ?_; refine Zm ?_; refine Zq ?_; refine Ze ?_; refine Zq ?_; refine Ze ?_; refine Zq ?_; refine Za ?_; refine Zq ?_; refine Za ?_; refine Seq.done ?_; refine Wp.seq ?_; refine Wp.region ?_; refine Zq ?_; refine Zm ?_; refine Zq ?_; refine Zm ?_))
        ((refine Zq ?_)); refine q_lookup_set T 2 (by exact rfl) (by exact rfl) (by exact rfl) (by exact rfl) (by exact rfl) (by exact rfl) (by exact rfl) (by exact rfl) (by exact rfl) (fun b1 => ?_) (fun b1 => ?_)
        · have hN : NextP S o.changes k := .inl ((hk1 _).1 b1)
          ((refine Zq ?_; refine Zm ?_; refine Zn ?_; refine Zn ?_; refine Zo ?_; refine Zo ?_; refine Zo ?_; refine Zo ?_; refine Zn ?_; refine Zq ?_; refine Zt ?_; refine Seq.done ?_; refine Zc ?_; refine Wp.region ?_; refine Zq ?_; refine Zf T ?_; refine Zq ?_; refine Zl T 0 ?_; refine Zq ?_; refine Zm ?_))
          (refine Seq.stepK (by exact rfl) (k_buildSlice T (cs := [_]) (by exact rfl) (by exact rfl) (by exact rfl) (by exact rfl) (by exact rfl) (by exact rfl) (by exact rfl) (by exact rfl) (fun gb => ?_)))
          (refine Seq.stepK (by exact rfl) (k_append T (Hr := [_, _, _, _, _, _]) (by exact rfl) (by exact rfl) (by exact rfl) (by exact rfl) (by exact rfl) (by exact rfl) (by exact rfl) (List.Perm.refl _) hO rfl (src_own (.head _)) (by intro u hu; simp at hu; subst hu; rfl) (by show _ * 8 ≤ _; omega) (by omega) (fun v' Hs' hO' => ?_)))
          obtain ⟨Av, cv, rfl, _, _⟩ := hO'.form
          ((refine Zq ?_; refine Zf T ?_; refine Seq.stepK0 (k_store1 T (by exact rfl) (by exact rfl) (by exact rfl) (by exact rfl) (by exact rfl) (by exact rfl) ?_); refine Seq.end_ ?_; refine blkN ?_; refine thenN ?_; refine Wp.region ?_; refine Zq ?_; refine q_add (by exact rfl) (by exact rfl) (wrap_in (by omega)) ?_; refine Zq ?_; refine Zm ?_; refine Seq.end_ ?_))
          exact loopN ⟨k + 1, _, Hs', by omega, rfl, rfl, rfl, rfl, go_on hN hO'⟩ (by omega) (by repeat (first | exact trivial | refine ⟨by exact rfl, ?_⟩)) (by repeat (first | exact List.Sublist.refl _ | exact List.nil_sublist _ | refine List.Sublist.cons_cons _ ?_ | refine List.Sublist.cons _ ?_))
        · have hna : ¬ AddP S o.changes k := fun h => b1 ((hk1 _).2 h)
          by_cases hin : (k : Int) ∈ S.tru
          · rw [decide_eq_true hin]
            ((refine Zq ?_; refine Zm ?_; refine Zy ?_; refine Zm ?_; refine Zy ?_; refine Zm ?_; refine Zy ?_; refine Zm ?_; refine Zy ?_; refine Zm ?_))
            ((refine Zy ?_)); refine q_lookup_set T 1 (by exact rfl) (by exact rfl) (by exact rfl) (by exact rfl) (by exact rfl) (by exact rfl) (by exact rfl) (by exact rfl) (by exact rfl) (fun b2 => ?_) (fun b2 => ?_)
            · ((refine Zy ?_; refine q_not (by exact rfl) ?_; refine Zy ?_; refine Zt ?_; refine Zq ?_; refine Zu ?_; refine Seq.done ?_; refine Zd ?_; refine Wp.skip ?_; refine blkN ?_; refine thenN ?_; refine Wp.region ?_; refine Zq ?_; refine q_add (by exact rfl) (by exact rfl) (wrap_in (by omega)) ?_; refine Zq ?_; refine Zm ?_; refine Seq.end_ ?_))
              exact loopN ⟨k + 1, _, Hs, by omega, rfl, rfl, rfl, rfl, stay (fun h => h.elim hna (fun h => h.2 ((hk2 _).1 b2)))⟩ (by omega) (by repeat (first | exact trivial | refine ⟨by exact rfl, ?_⟩)) (by repeat (first | exact List.Sublist.refl _ | exact List.nil_sublist _ | refine List.Sublist.cons_cons _ ?_ | refine List.Sublist.cons _ ?_))
            · have hN : NextP S o.changes k := .inr ⟨hin, fun h => b2 ((hk2 _).2 h)⟩
              ((refine Zy ?_; refine q_not (by exact rfl) ?_; refine Zy ?_; refine Zt ?_; refine Zq ?_; refine Zu ?_; refine Seq.done ?_; refine Zc ?_; refine Wp.region ?_; refine Zq ?_; refine Zf T ?_; refine Zq ?_; refine Zl T 0 ?_; refine Zq ?_; refine Zm ?_))
              (refine Seq.stepK (by exact rfl) (k_buildSlice T (cs := [_]) (by exact rfl) (by exact rfl) (by exact rfl) (by exact rfl) (by exact rfl) (by exact rfl) (by exact rfl) (by exact rfl) (fun gb => ?_)))
              (refine Seq.stepK (by exact rfl) (k_append T (Hr := [_, _, _, _, _, _]) (by exact rfl) (by exact rfl) (by exact rfl) (by exact rfl) (by exact rfl) (by exact rfl) (by exact rfl) (List.Perm.refl _) hO rfl (src_own (.head _)) (by intro u hu; simp at hu; subst hu; rfl) (by show _ * 8 ≤ _; omega) (by omega) (fun v' Hs' hO' => ?_)))
              obtain ⟨Av, cv, rfl, _, _⟩ := hO'.form
              ((refine Zq ?_; refine Zf T ?_; refine Seq.stepK0 (k_store1 T (by exact rfl) (by exact rfl) (by exact rfl) (by exact rfl) (by exact rfl) (by exact rfl) ?_); refine Seq.end_ ?_; refine blkN ?_; refine thenN ?_; refine Wp.region ?_; refine Zq ?_; refine q_add (by exact rfl) (by exact rfl) (wrap_in (by omega)) ?_; refine Zq ?_; refine Zm ?_; refine Seq.end_ ?_))
              exact loopN ⟨k + 1, _, Hs', by omega, rfl, rfl, rfl, rfl, go_on hN hO'⟩ (by omega) (by repeat (first | exact trivial | refine ⟨by exact rfl, ?_⟩)) (by repeat (first | exact List.Sublist.refl _ | exact List.nil_sublist _ | refine List.Sublist.cons_cons _ ?_ | refine List.Sublist.cons _ ?_))
          · rw [decide_eq_false hin]
            ((refine Zq ?_; refine Zm ?_; refine Zy ?_; refine Zm ?_; refine Zy ?_; refine Zm ?_; refine Zn ?_; refine Zn ?_; refine Zn ?_; refine Zn ?_; refine Zy ?_; refine Zu ?_; refine Zq ?_; refine Zu ?_; refine Seq.done ?_; refine Zd ?_; refine Wp.skip ?_; refine blkN ?_; refine thenN ?_; refine Wp.region ?_; refine Zq ?_; refine q_add (by exact rfl) (by exact rfl) (wrap_in (by omega)) ?_; refine Zq ?_; refine Zm ?_; refine Seq.end_ ?_))
            exact loopN ⟨k + 1, _, Hs, by omega, rfl, rfl, rfl, rfl, stay (fun h => h.elim hna (fun h => hin h.1))⟩ (by omega) (by repeat (first | exact trivial | refine ⟨by exact rfl, ?_⟩)) (by repeat (first | exact List.Sublist.refl _ | exact List.nil_sublist _ | refine List.Sublist.cons_cons _ ?_ | refine List.Sublist.cons _ ?_))
      · have hk1' : k = g.atoms.length := by omega
        subst hk1'
        obtain ⟨Av, cv, rfl, _, _⟩ := hO.form
        ((refine Seq.done ?_; refine Wp.seq ?_; refine Zd ?_; refine Wp.exit ?_; refine thenX ?_; refine loopX ?_; refine blkX (by exact rfl) ?_; refine thenN ?_; refine Wp.seq ?_; refine Wp.region ?_; refine Zq ?_; refine ZL T 0 ?_; refine Seq.stepK0 (k_store3 T (by exact rfl) (by exact rfl) (by exact rfl) (by exact rfl) (by exact rfl) (by exact rfl) ?_); refine Zq ?_; refine Za ?_; refine Seq.done ?_; refine Wp.ret ?_))
        refine retNF T (vs := [.agg #[_, _], .nilIface]) (by exact rfl) ⟨⟨_, _, 3, _, _, _, rfl, rfl, rfl, rfl, rfl, rfl⟩, rfl, trivial⟩ (fun fz3 hle3 hf3 => ?_)
        obtain ⟨A', c', he, hsl'⟩ := sl_ints hO (fun p hp => hf3 p (by simp [hp])) (by omega) (truUpto_i64 (by omega))
        refine ⟨rfl, _, _, rfl, ?_, ?_⟩
        · rw [he]
          have : (nextS g S op 0 vs').tru = truUpto S o.changes g.atoms.length := by simp [nextS, nextT, ho']
          rw [this]; exact hsl'.is
        · have : (nextS g S op 0 vs').values = vs' := by simp [nextS]
          rw [this]; exact (hsw.mono hle3).is
  · rw [errV_ne hc]
    ((refine Zq ?_; refine Zm ?_; refine Zq ?_; refine Ze ?_; refine Zq ?_; refine Ze ?_; refine Zq ?_; refine Za ?_; refine Zq ?_; refine Za ?_; refine Seq.done ?_; refine Wp.seq ?_; refine Wp.seq ?_; refine Wp.region ?_; refine Zq ?_; refine Zm ?_; refine Zq ?_; refine q_neq_some T (by exact rfl) (by exact rfl) (by exact rfl) (by exact rfl) ?_; refine Seq.done ?_; refine Zc ?_; refine Wp.seq ?_; refine Wp.region ?_; refine Zq ?_; refine q_build T (by exact rfl) (by exact rfl) (by exact rfl) (by exact rfl) (by exact rfl) ?_; refine Zq ?_; refine Zm ?_; refine Seq.stepK0 (k_store0 T (by exact rfl) (by exact rfl) (by exact rfl) (by exact rfl) (by exact rfl) (by exact rfl) ?_); refine Zq ?_; refine Za ?_; refine Seq.done ?_; refine Wp.ret ?_; refine thenR ?_))
    refine retNF T (vs := [.agg #[_, _], .iface 71 (.int .i64 c')]) (by exact rfl) ⟨⟨_, _, 0, _, _, _, rfl, rfl, rfl, rfl, rfl, rfl⟩, rfl, trivial⟩ (fun fz3 hle3 hf3 => ?_)
    refine ⟨rfl, _, _, by rw [errV_ne hc], ?_, ?_⟩
    · have : (nextS g S op c' vs').tru = [] := by simp [nextS, hc]
      rw [this]; exact IsSl.nil
    · have : (nextS g S op c' vs').values = [] := by simp [nextS, hc]
      rw [this]; exact IsSl.nil
end Go.Proofs.YtegmololhnipiaaGreatDoor
namespace Go.Proofs.YtegmololhnipiaaGreatDoor
open Go.Lx Go.Gr Go.RowKit
attribute [local instance 10] Classical.propDecidable
set_option maxRecDepth 20000
theorem dec_same {p q : Prop} [Decidable p] [Decidable q] (h : p ↔ q) : decide p = decide q := decide_eq_decide.2 h
end Go.Proofs.YtegmololhnipiaaGreatDoor
namespace Go.Proofs.YtegmololhnipiaaGreatDoor
open Go.Lx Go.Gr Go.RowKit
attribute [local instance 10] Classical.propDecidable
set_option maxRecDepth 20000
set_option maxHeartbeats 4000000 in
theorem large_f {fz : FZ} {g : GTask} {v1 v2 v3 v4 v5 : Value} (hg : GTaskR fz g v1 v2 v3 v4 v5) :
    GFn Tryz.prog 7 [gV v1 v2 v3 v4 v5] fz [] fun u fz' H' => fz' = fz ∧ H' = [] ∧ ∃ b, u = .bool b := by
  (obtain ⟨A1, n1, cap1, rfl, ga⟩ := hg.atoms; obtain ⟨A2, n2, cap2, rfl, gf⟩ := hg.fluents; obtain ⟨A3, n3, cap3, rfl, gi⟩ := hg.init; obtain ⟨A4, n4, cap4, rfl, gg⟩ := hg.goal; obtain ⟨A5, n5, cap5, rfl, go⟩ := hg.ops; have e1 := ga.len; subst e1; have e2 := gf.len; subst e2)
  have l3 := gi.len
  have l4 := gg.len
  have l5 := go.len
  have q1 := ga.short
  have q2 := gf.short
  have q3 := gi.short
  have q4 := gg.short
  have q5 := go.short
  (refine GFn.of_wp Tryz.func7 rfl Tryz.ntmps7 rfl rfl (fun w0 => ?_))
  (refine Wp.seq (Wp.region (Seq.stepK (by exact rfl) (k_box _ (by exact rfl) (by exact rfl) (fun g0 => ?_)))))
  ((refine Zq ?_; refine Za ?_; refine Seq.done ?_; refine Wp.seq ?_; refine Wp.region ?_; refine Zq ?_; refine Zf T ?_; refine Zq ?_; refine Zl T 0 ?_; refine Zq ?_; refine Zs T ?_; refine Zq ?_; refine Zf T ?_; refine Zq ?_; refine Zl T 0 ?_; refine Zq ?_; refine Zs T ?_; refine Zq ?_; refine q_add (by exact rfl) (by exact rfl) (wrap_in (by omega)) ?_; refine Zq ?_; refine Zf T ?_; refine Zq ?_; refine Zl T 0 ?_; refine Zq ?_; refine Zs T ?_; refine Zq ?_; refine q_add (by exact rfl) (by exact rfl) (wrap_in (by omega)) ?_; refine Zq ?_; refine Za ?_; refine Seq.done ?_; refine Wp.seq ?_; refine Wp.seq ?_; refine Wp.region ?_; refine Zq ?_; refine Za ?_; refine Seq.done ?_; refine Wp.block ?_))
  refine Wp.loop (fun q σ fz' H' => ∃ (k : Nat) (z : Int), k ≤ n4 ∧ q = n4 - k ∧ σ = [(4, .int .i64 k), (3, .int .i64 z), (1, .pointer (some ⟨g0, 0, none⟩))] ∧ fz = fz' ∧ H' = [((g0, .cells #[.slice A1 g.atoms.length cap1, .slice A2 g.fluents.length cap2, .slice A3 n3 cap3, .slice A4 n4 cap4, .slice A5 n5 cap5] 28 (0, 0)))])
    ⟨0, _, Nat.zero_le _, rfl, rfl, rfl, rfl⟩ (by repeat (first | exact trivial | refine ⟨by exact rfl, ?_⟩)) (by repeat (first | exact List.Sublist.refl _ | exact List.nil_sublist _ | refine List.Sublist.cons_cons _ ?_ | refine List.Sublist.cons _ ?_)) ?_
  rintro q σ fz' H' ⟨k, z, hk, rfl, rfl, rfl, rfl⟩
  ((refine Wp.seq ?_; refine Wp.seq ?_; refine Wp.region ?_; refine Zq ?_; refine Zm ?_; refine Zq ?_; refine Zf T ?_; refine Zq ?_; refine Zl T 0 ?_; refine Zq ?_; refine Zs T ?_))
  (((refine Zq ?_)); (refine q_lssD (by exact rfl) (by exact rfl) (fun c1 => ?_) (fun c1 => ?_)))
  · obtain ⟨x, hx⟩ := get_some (l := g.goal) (k := k) (by omega)
    ((refine Seq.done ?_; refine Zc ?_; refine Wp.skip ?_; refine thenN ?_; refine Wp.seq ?_; refine Wp.block ?_; refine Wp.region ?_; refine Zq ?_; refine Zm ?_; refine Zq ?_; refine Zf T ?_; refine Zq ?_; refine Zl T 0 ?_; refine Zq ?_; refine Zm ?_))
    (((refine Zq ?_)); refine q_index T k (by exact rfl) (by exact rfl) (by exact rfl) (by exact rfl) (by exact rfl) (by exact rfl) gg (by first | rfl | omega) hx (fun p hp => ?_))
    (((refine Zq ?_)); refine q_load_at T (by exact rfl) (by exact rfl) (by exact rfl) hp (by exact rfl) ?_)
    intro cs hcs
    obtain ⟨w1, w2, w3, rfl, hc⟩ := condL_open hcs
    (((refine Zq ?_)); refine q_call (by exact rfl) (by exact rfl) (heavy_q hc) ?_)
    ((refine Zq ?_)); refine q_add (by exact rfl) (by exact rfl) rfl ?_
    ((refine Zq ?_)); refine q_add (by exact rfl) (by exact rfl) rfl ?_
    ((refine Zq ?_; refine Za ?_; refine Seq.end_ ?_; refine blkN ?_; refine thenN ?_; refine Wp.region ?_; refine Zq ?_; refine Zm ?_; refine Zq ?_; refine q_add (by exact rfl) (by exact rfl) (wrap_in (by omega)) ?_; refine Zq ?_; refine Za ?_; refine Seq.end_ ?_))
    exact loopN ⟨k + 1, _, by omega, rfl, rfl, rfl, rfl⟩ (by omega) (by repeat (first | exact trivial | refine ⟨by exact rfl, ?_⟩)) (by repeat (first | exact List.Sublist.refl _ | exact List.nil_sublist _ | refine List.Sublist.cons_cons _ ?_ | refine List.Sublist.cons _ ?_))
  · ((refine Seq.done ?_; refine Zd ?_; refine Wp.exit ?_; refine thenX ?_; refine loopX ?_; refine blkX (by exact rfl) ?_; refine thenN ?_; refine Wp.seq ?_; refine Wp.seq ?_; refine Wp.region ?_; refine Zq ?_; refine Za ?_; refine Seq.done ?_; refine Wp.block ?_))
    refine Wp.loop (fun q σ fz' H' => ∃ (k : Nat) (z : Int), k ≤ n5 ∧ q = n5 - k ∧ σ = [(5, .int .i64 k), (3, .int .i64 z), (1, .pointer (some ⟨g0, 0, none⟩))] ∧ fz = fz' ∧ H' = [((g0, .cells #[.slice A1 g.atoms.length cap1, .slice A2 g.fluents.length cap2, .slice A3 n3 cap3, .slice A4 n4 cap4, .slice A5 n5 cap5] 28 (0, 0)))])
      ⟨0, _, Nat.zero_le _, rfl, rfl, rfl, rfl⟩ (by repeat (first | exact trivial | refine ⟨by exact rfl, ?_⟩)) (by repeat (first | exact List.Sublist.refl _ | exact List.nil_sublist _ | refine List.Sublist.cons_cons _ ?_ | refine List.Sublist.cons _ ?_)) ?_
    rintro q σ fz' H' ⟨k, z, hk, rfl, rfl, rfl, rfl⟩
    ((refine Wp.seq ?_; refine Wp.seq ?_; refine Wp.region ?_; refine Zq ?_; refine Zm ?_; refine Zq ?_; refine Zf T ?_; refine Zq ?_; refine Zl T 0 ?_; refine Zq ?_; refine Zs T ?_))
    (((refine Zq ?_)); (refine q_lssD (by exact rfl) (by exact rfl) (fun c2 => ?_) (fun c2 => ?_)))
    · obtain ⟨o, ho⟩ := get_some (l := g.ops) (k := k) (by omega)
      ((refine Seq.done ?_; refine Zc ?_; refine Wp.skip ?_; refine thenN ?_; refine Wp.seq ?_; refine Wp.block ?_; refine Wp.seq ?_; refine Wp.region ?_; refine Zq ?_; refine Zf T ?_; refine Zq ?_; refine Zl T 0 ?_; refine Zq ?_; refine Zm ?_))
      (((refine Zq ?_)); refine q_index T k (by exact rfl) (by exact rfl) (by exact rfl) (by exact rfl) (by exact rfl) (by exact rfl) go (by first | rfl | omega) ho (fun p hp => ?_))
      (((refine Zq ?_)); refine q_load_at T (by exact rfl) (by exact rfl) (by exact rfl) hp (by exact rfl) ?_)
      intro cs hcs
      obtain ⟨w1, w2, w3, w4, w5, rfl, hO⟩ := gOpL_open hcs
      obtain ⟨P1, p1, o1, rfl, _⟩ := hO.pre.pos
      obtain ⟨P2, p2, o2, rfl, _⟩ := hO.pre.neg
      obtain ⟨P3, p3, o3, rfl, _⟩ := hO.pre.tests
      obtain ⟨P4, p4, o4, rfl, oc⟩ := hO.changes
      obtain ⟨P5, p5, o5, rfl, oa⟩ := hO.assigns
      have la := oa.len
      have qa := oa.short
      have lc := oc.len
      have qc := oc.short
      refine Seq.stepK (by exact rfl) (k_alloc T (by exact rfl) (by exact rfl) (fun g6 => ?_))
      ((refine Seq.stepK0 (k_store0 T (by exact rfl) (by exact rfl) (by exact rfl) (by exact rfl) (by exact rfl) (by exact rfl) ?_); refine Seq.done ?_; refine Wp.seq ?_; refine Wp.draw (by decide +kernel) T.mixed (by kernel_rfl) (by kernel_rfl) ?_; refine QL.q ?_; refine Zm ?_; refine QL.q ?_; refine Zf T ?_))
      (((refine QL.q ?_)); refine q_load_own_sub (vs := [.slice P1 p1 o1, .slice P2 p2 o2, .slice P3 p3 o3]) T 0 (by exact rfl) (by exact rfl) (by exact rfl) (by exact rfl) (by exact rfl) (by exact rfl) ?_)
      (((refine QL.q ?_)); refine q_call (by exact rfl) (by exact rfl) (heavy_q hO.pre) ?_)
      ((refine QL.q ?_)); refine q_add (by exact rfl) (by exact rfl) rfl ?_
      ((refine QL.q ?_; refine Zf T ?_; refine QL.q ?_; refine Zl T 0 ?_; refine QL.q ?_; refine q_len_string T (by exact rfl) (by exact rfl) (by exact rfl) ?_))
      ((refine QL.q ?_)); refine qg_quo (by exact rfl) (by exact rfl) (by decide) rfl ?_
      ((refine QL.q ?_)); refine q_add (by exact rfl) (by exact rfl) rfl ?_
      ((refine QL.q ?_)); refine q_add (by exact rfl) (by exact rfl) rfl ?_
      ((refine QL.q ?_; refine Za ?_; refine QL.done ?_; refine thenN ?_; refine Wp.seq ?_; refine Wp.seq ?_; refine Wp.region ?_; refine Zq ?_; refine Za ?_; refine Seq.done ?_; refine Wp.block ?_))
      refine Wp.loop (fun q σ fz' H' => ∃ (i : Nat) (z : Int), i ≤ p4 ∧ q = p4 - i ∧ σ = [(7, .int .i64 i), (6, .pointer (some ⟨g6, 0, none⟩)), (5, .int .i64 k), (3, .int .i64 z), (1, .pointer (some ⟨g0, 0, none⟩))] ∧ fz = fz' ∧ H' = [(g6, .cells #[.string o.name, .int .i64 o.cost, .slice P1 p1 o1, .slice P2 p2 o2, .slice P3 p3 o3, .slice P4 p4 o4, .slice P5 p5 o5] 46 (0, 0)), ((g0, .cells #[.slice A1 g.atoms.length cap1, .slice A2 g.fluents.length cap2, .slice A3 n3 cap3, .slice A4 n4 cap4, .slice A5 n5 cap5] 28 (0, 0)))])
        ⟨0, _, Nat.zero_le _, rfl, rfl, rfl, rfl⟩ (by repeat (first | exact trivial | refine ⟨by exact rfl, ?_⟩)) (by repeat (first | exact List.Sublist.refl _ | exact List.nil_sublist _ | refine List.Sublist.cons_cons _ ?_ | refine List.Sublist.cons _ ?_)) ?_
      rintro q σ fz' H' ⟨i, z2, hi, rfl, rfl, rfl, rfl⟩
      ((refine Wp.seq ?_; refine Wp.seq ?_; refine Wp.region ?_; refine Zq ?_; refine Zm ?_; refine Zq ?_; refine Zf T ?_; refine Zq ?_; refine Zl T 0 ?_; refine Zq ?_; refine Zs T ?_))
      (((refine Zq ?_)); (refine q_lssD (by exact rfl) (by exact rfl) (fun c3 => ?_) (fun c3 => ?_)))
      · obtain ⟨x, hx⟩ := get_some (l := o.changes) (k := i) (by omega)
        ((refine Seq.done ?_; refine Zc ?_; refine Wp.skip ?_; refine thenN ?_; refine Wp.seq ?_; refine Wp.block ?_; refine Wp.region ?_; refine Zq ?_; refine Zm ?_; refine Zq ?_; refine Zf T ?_; refine Zq ?_; refine Zl T 0 ?_; refine Zq ?_; refine Zm ?_))
        (((refine Zq ?_)); refine q_index T i (by exact rfl) (by exact rfl) (by exact rfl) (by exact rfl) (by exact rfl) (by exact rfl) oc (by first | rfl | omega) hx (fun p hp2 => ?_))
        ((refine Zq ?_; refine Zf T ?_))
        (((refine Zq ?_)); refine q_load_at T (by exact rfl) (by exact rfl) (by exact rfl) hp2.GChange_when_ (by exact rfl) ?_)
        intro cs hcs
        obtain ⟨w1, w2, w3, rfl, hc⟩ := condL_open hcs
        (((refine Zq ?_)); refine q_call (by exact rfl) (by exact rfl) (heavy_q hc) ?_)
        ((refine Zq ?_)); refine q_add (by exact rfl) (by exact rfl) rfl ?_
        ((refine Zq ?_)); refine q_add (by exact rfl) (by exact rfl) rfl ?_
        ((refine Zq ?_; refine Za ?_; refine Seq.end_ ?_; refine blkN ?_; refine thenN ?_; refine Wp.region ?_; refine Zq ?_; refine Zm ?_; refine Zq ?_; refine q_add (by exact rfl) (by exact rfl) (wrap_in (by omega)) ?_; refine Zq ?_; refine Za ?_; refine Seq.end_ ?_))
        exact loopN ⟨i + 1, _, by omega, rfl, rfl, rfl, rfl⟩ (by omega) (by repeat (first | exact trivial | refine ⟨by exact rfl, ?_⟩)) (by repeat (first | exact List.Sublist.refl _ | exact List.nil_sublist _ | refine List.Sublist.cons_cons _ ?_ | refine List.Sublist.cons _ ?_))
      · ((refine Seq.done ?_; refine Zd ?_; refine Wp.exit ?_; refine thenX ?_; refine loopX ?_; refine blkX (by exact rfl) ?_; refine thenN ?_; refine Wp.seq ?_; refine Wp.region ?_; refine Zq ?_; refine Za ?_; refine Seq.done ?_; refine Wp.block ?_))
        refine Wp.loop (fun q σ fz' H' => ∃ (i : Nat) (z : Int), i ≤ p5 ∧ q = p5 - i ∧ σ = [(8, .int .i64 i), (6, .pointer (some ⟨g6, 0, none⟩)), (5, .int .i64 k), (3, .int .i64 z), (1, .pointer (some ⟨g0, 0, none⟩))] ∧ fz = fz' ∧ H' = [(g6, .cells #[.string o.name, .int .i64 o.cost, .slice P1 p1 o1, .slice P2 p2 o2, .slice P3 p3 o3, .slice P4 p4 o4, .slice P5 p5 o5] 46 (0, 0)), ((g0, .cells #[.slice A1 g.atoms.length cap1, .slice A2 g.fluents.length cap2, .slice A3 n3 cap3, .slice A4 n4 cap4, .slice A5 n5 cap5] 28 (0, 0)))])
          ⟨0, _, Nat.zero_le _, rfl, rfl, rfl, rfl⟩ (by repeat (first | exact trivial | refine ⟨by exact rfl, ?_⟩)) (by repeat (first | exact List.Sublist.refl _ | exact List.nil_sublist _ | refine List.Sublist.cons_cons _ ?_ | refine List.Sublist.cons _ ?_)) ?_
        rintro q σ fz' H' ⟨i, z3, hi, rfl, rfl, rfl, rfl⟩
        ((refine Wp.seq ?_; refine Wp.seq ?_; refine Wp.region ?_; refine Zq ?_; refine Zm ?_; refine Zq ?_; refine Zf T ?_; refine Zq ?_; refine Zl T 0 ?_; refine Zq ?_; refine Zs T ?_))
        (((refine Zq ?_)); (refine q_lssD (by exact rfl) (by exact rfl) (fun c4 => ?_) (fun c4 => ?_)))
        · obtain ⟨x, hx⟩ := get_some (l := o.assigns) (k := i) (by omega)
          ((refine Seq.done ?_; refine Zc ?_; refine Wp.skip ?_; refine thenN ?_; refine Wp.seq ?_; refine Wp.block ?_; refine Wp.region ?_; refine Zq ?_; refine Zm ?_; refine Zq ?_; refine Zf T ?_; refine Zq ?_; refine Zl T 0 ?_; refine Zq ?_; refine Zm ?_))
          (((refine Zq ?_)); refine q_index T i (by exact rfl) (by exact rfl) (by exact rfl) (by exact rfl) (by exact rfl) (by exact rfl) oa (by first | rfl | omega) hx (fun p hp3 => ?_))
          ((refine Zq ?_; refine Zf T ?_))
          (((refine Zq ?_)); refine q_load_at T (by exact rfl) (by exact rfl) (by exact rfl) hp3.GAssign_value (by exact rfl) ?_)
          intro cs hcs
          obtain ⟨y, rfl, hy⟩ := gExprL_open hcs
          (((refine Zq ?_)); refine q_call (by exact rfl) (by exact rfl) (size_q hy) ?_)
          ((refine Zq ?_)); refine q_add (by exact rfl) (by exact rfl) rfl ?_
          ((refine Zq ?_; refine Za ?_; refine Seq.end_ ?_; refine blkN ?_; refine thenN ?_; refine Wp.region ?_; refine Zq ?_; refine Zm ?_; refine Zq ?_; refine q_add (by exact rfl) (by exact rfl) (wrap_in (by omega)) ?_; refine Zq ?_; refine Za ?_; refine Seq.end_ ?_))
          exact loopN ⟨i + 1, _, by omega, rfl, rfl, rfl, rfl⟩ (by omega) (by repeat (first | exact trivial | refine ⟨by exact rfl, ?_⟩)) (by repeat (first | exact List.Sublist.refl _ | exact List.nil_sublist _ | refine List.Sublist.cons_cons _ ?_ | refine List.Sublist.cons _ ?_))
        · ((refine Seq.done ?_; refine Zd ?_; refine Wp.exit ?_; refine thenX ?_; refine loopX ?_; refine blkX (by exact rfl) ?_; refine blkN ?_; refine thenN ?_; refine Wp.region ?_; refine Zq ?_; refine Zm ?_; refine Zq ?_; refine q_add (by exact rfl) (by exact rfl) (wrap_in (by omega)) ?_; refine Zq ?_; refine Za ?_; refine Seq.end_ ?_))
          exact loopN ⟨k + 1, _, by omega, rfl, rfl, rfl, rfl⟩ (by omega) (by repeat (first | exact trivial | refine ⟨by exact rfl, ?_⟩)) (by repeat (first | exact List.Sublist.refl _ | exact List.nil_sublist _ | refine List.Sublist.cons_cons _ ?_ | refine List.Sublist.cons _ ?_))
    · ((refine Seq.done ?_; refine Zd ?_; refine Wp.exit ?_; refine thenX ?_; refine loopX ?_; refine blkX (by exact rfl) ?_; refine thenN ?_; refine Wp.seq ?_; refine Wp.region ?_; refine Zq ?_; refine Zm ?_))
      (((refine Zq ?_)); (refine q_gtrD (by exact rfl) (by exact rfl) (fun c5 => ?_) (fun c5 => ?_)))
      · ((refine Zq ?_; refine Za ?_; refine Seq.done ?_; refine Wp.ret ?_))
        exact ret1 rfl rfl (by repeat (first | exact List.Sublist.refl _ | exact List.nil_sublist _ | refine List.Sublist.cons_cons _ ?_ | refine List.Sublist.cons _ ?_)) ⟨rfl, rfl, _, rfl⟩
      · ((refine Zq ?_; refine Za ?_; refine Seq.done ?_; refine Wp.ret ?_))
        exact ret1 rfl rfl (by repeat (first | exact List.Sublist.refl _ | exact List.nil_sublist _ | refine List.Sublist.cons_cons _ ?_ | refine List.Sublist.cons _ ?_)) ⟨rfl, rfl, _, rfl⟩
end Go.Proofs.YtegmololhnipiaaGreatDoor
namespace Go.Proofs.YtegmololhnipiaaGreatDoor
open Go.Lx Go.Gr Go.RowKit
attribute [local instance 10] Classical.propDecidable
set_option maxRecDepth 20000
def Awk : Prop := ∀ fz, QFn Tryz.prog 8 [] fz (.bool true)
end Go.Proofs.YtegmololhnipiaaGreatDoor
namespace Go.Proofs.YtegmololhnipiaaGreatDoor
open Go.Lx Go.Gr Go.RowKit
attribute [local instance 10] Classical.propDecidable
set_option maxRecDepth 20000
theorem mem_truUpto {S : GState} {l : List GChange} {n : Nat} {i : Nat} (hi : i < n) : (i : Int) ∈ truUpto S l n ↔ NextP S l i := by
  unfold truUpto
  constructor
  · intro h
    obtain ⟨j, hj, he⟩ := List.mem_map.1 h
    have : j = i := by omega
    subst this
    exact of_decide_eq_true (List.mem_filter.1 hj).2
  · intro h
    exact List.mem_map.2 ⟨i, List.mem_filter.2 ⟨List.mem_range.2 hi, decide_eq_true h⟩, rfl⟩
theorem truUpto_asc {S : GState} {l : List GChange} {n : Nat} : AscP n (truUpto S l n) := by
  have hp : (truUpto S l n).Pairwise (· < ·) := by
    unfold truUpto
    rw [List.pairwise_map]
    exact (List.pairwise_lt_range.filter _).imp (fun h => by omega)
  intro i x hx
  have hm := List.mem_of_getElem? hx
  obtain ⟨j, hj, rfl⟩ := List.mem_map.1 hm
  have hlt := List.mem_range.1 (List.mem_filter.1 hj).1
  refine ⟨by omega, by omega, fun y hi hy => ?_⟩
  have h1 := lt_of_get hx
  have h2 := lt_of_get hy
  have h3 := List.pairwise_iff_getElem.1 hp (i - 1) i h2 h1 (by omega)
  rw [List.getElem?_eq_getElem h1] at hx
  rw [List.getElem?_eq_getElem h2] at hy
  injection hx with hx
  injection hy with hy
  rw [hx, hy] at h3
  exact h3
def InBds (g : GTask) (vs : List Int) : Prop := ∀ (i : Nat) (n : Int) (f : GFluent), vs[i]? = some n → g.fluents[i]? = some f → f.lo ≤ n ∧ n ≤ f.hi
theorem assignM_bds {g : GTask} {vs : List Int} : ∀ {l : List GAssign} {out o : List Int}, (∀ a ∈ l, 0 ≤ a.fluent) → InBds g out → assignM g vs l out = some o → InBds g o
  | [], out, o, _, ho, h => by injection h with h; rw [← h]; exact ho
  | a :: l, out, o, h0, ho, h => by
    simp only [assignM] at h
    split at h
    · cases h
    · rename_i n hn
      split at h
      · cases h
      · rename_i f hf
        split at h
        · rename_i hc
          refine assignM_bds (fun b hb => h0 b (by simp [hb])) (fun i m fi hm hfi => ?_) h
          rw [List.getElem?_set] at hm
          split at hm
          · rename_i he
            split at hm
            · injection hm with hm
              subst hm
              rw [← he, hf] at hfi
              injection hfi with hfi
              subst hfi
              exact hc
            · cases hm
          · exact ho i m fi hm hfi
        · cases h
theorem assignM_get {g : GTask} {vs : List Int} {i : Nat} : ∀ {l : List GAssign} {out o : List Int}, (∀ a ∈ l, 0 ≤ a.fluent) → (¬ ∃ a ∈ l, a.fluent = i) → assignM g vs l out = some o → o[i]? = out[i]?
  | [], out, o, _, _, h => by injection h with h; rw [h]
  | a :: l, out, o, h0, hn, h => by
    simp only [assignM] at h
    split at h
    · cases h
    · split at h
      · cases h
      · split at h
        · rw [assignM_get (fun b hb => h0 b (by simp [hb])) (fun ⟨b, hb, he⟩ => hn ⟨b, by simp [hb], he⟩) h, List.getElem?_set_ne]
          have h1 := h0 a (by simp)
          have h2 : a.fluent ≠ i := fun he => hn ⟨a, by simp, he⟩
          omega
        · cases h
theorem add_next {S : GState} {l : List GChange} {k : Nat} {c : GChange} {i : Int} {ab b' : Bool} (hc : l[k]? = some c) (h : ab = decide (AddP S (l.take k) i)) (hb : b' = true ↔ (ab = true ∨ (c.add = true ∧ HoldP S c.when_ ∧ c.atom = i))) : b' = decide (AddP S (l.take (k + 1)) i) := by
  rw [Bool.eq_iff_iff, hb, h]
  simp only [decide_eq_true_iff]
  unfold AddP
  rw [some_take hc]
def MenP (l : List GChange) (i : Int) : Prop := ∃ x ∈ l, x.atom = i
def AsgP (l : List GAssign) (i : Int) : Prop := ∃ x ∈ l, x.fluent = i
theorem men_next {l : List GChange} {k : Nat} {c : GChange} {i : Int} {mb b' : Bool} (hc : l[k]? = some c) (h : mb = decide (MenP (l.take k) i)) (hb : b' = true ↔ (mb = true ∨ c.atom = i)) : b' = decide (MenP (l.take (k + 1)) i) := by
  rw [Bool.eq_iff_iff, hb, h]
  simp only [decide_eq_true_iff]
  unfold MenP
  rw [some_take (p := fun x => x.atom = i) hc]
theorem asg_next {l : List GAssign} {k : Nat} {c : GAssign} {i : Int} {mb b' : Bool} (hc : l[k]? = some c) (h : mb = decide (AsgP (l.take k) i)) (hb : b' = true ↔ (mb = true ∨ c.fluent = i)) : b' = decide (AsgP (l.take (k + 1)) i) := by
  rw [Bool.eq_iff_iff, hb, h]
  simp only [decide_eq_true_iff]
  unfold AsgP
  rw [List.take_add_one, hc]
  simp only [Option.toList, List.mem_append, List.mem_singleton]
  constructor
  · rintro (⟨x, h, hp⟩ | hp)
    · exact ⟨x, .inl h, hp⟩
    · exact ⟨c, .inr rfl, hp⟩
  · rintro ⟨x, h | rfl, hp⟩
    · exact .inl ⟨x, h, hp⟩
    · exact .inr hp
theorem hold_here {fz : FZ} {g : GTask} {S : GState} {c : Cond} {f : FuncId} {args : List Value} (hv : ValidP g) (hp : ProperP g S) (hk : CondOk g.atoms.length g.fluents.length c) (h : QFn Tryz.prog f args fz (.bool (decide (ValidP g ∧ ProperP g S ∧ CondOk g.atoms.length g.fluents.length c ∧ HoldP S c)))) : QFn Tryz.prog f args fz (.bool (decide (HoldP S c))) := by
  rw [dec_same (show (ValidP g ∧ ProperP g S ∧ CondOk g.atoms.length g.fluents.length c ∧ HoldP S c) ↔ HoldP S c from ⟨fun h => h.2.2.2, fun h => ⟨hv, hp, hk, h⟩⟩)] at h
  exact h
set_option maxHeartbeats 8000000 in
theorem gframe_q (awk : Awk) {fz : FZ} {g : GTask} {v1 v2 v3 v4 v5 : Value} {S : GState} {u1 u2 : Value} {op : Int} (hg : GTaskR fz g v1 v2 v3 v4 v5) (hs : GStateR fz S u1 u2) :
    QFn Tryz.prog 4 [gV v1 v2 v3 v4 v5, sV u1 u2, .int .i64 op] fz (.bool true) := by
  have hg0 := hg
  have hs0 := hs
  (obtain ⟨A1, n1, cap1, rfl, ga⟩ := hg.atoms; obtain ⟨A2, n2, cap2, rfl, gf⟩ := hg.fluents; obtain ⟨A3, n3, cap3, rfl, gi⟩ := hg.init; obtain ⟨A4, n4, cap4, rfl, gg⟩ := hg.goal; obtain ⟨A5, n5, cap5, rfl, go⟩ := hg.ops; have e1 := ga.len; subst e1; have e2 := gf.len; subst e2)
  obtain ⟨B1, m1, d1, rfl, st⟩ := hs.tru
  obtain ⟨B2, m2, d2, rfl, sv⟩ := hs.values
  have l5 := go.len
  have q5 := go.short
  obtain ⟨code, vs, hA⟩ := app_total g S op
  refine GFn.quiet ?_
  (refine GFn.of_wp Tryz.func4 rfl Tryz.ntmps4 rfl rfl (fun w0 => ?_))
  (refine Wp.seq (Wp.region (Seq.stepK (by exact rfl) (k_box _ (by exact rfl) (by exact rfl) (fun g0 => ?_)))))
  (refine Seq.stepK (by exact rfl) (k_box _ (by exact rfl) (by exact rfl) (fun g1 => ?_)))
  ((refine Zq ?_; refine Za ?_; refine Seq.done ?_; refine Wp.seq ?_; refine Wp.seq ?_; refine Wp.region ?_; refine Zq ?_; refine ZL T 1 ?_))
  refine Seq.stepK (by exact rfl) (k_call [] [_, _] (by exact rfl) (by exact rfl) (by exact rfl) (large_f hg0) (fun v fz1 H1 hle1 hR => ?_))
  obtain ⟨rfl, rfl, b, rfl⟩ := hR
  cases b with
  | true => ((((refine Zq ?_; refine Zm ?_; refine Zn ?_; refine Zn ?_; refine Zn ?_; refine Zn ?_; refine Zq ?_; refine Zt ?_; refine Zq ?_; refine Zm ?_; refine Zn ?_; refine Zn ?_; refine Zn ?_; refine Zn ?_; refine Zq ?_; refine Zt ?_; refine Zq ?_; refine Zm ?_; refine Zn ?_; refine Zn ?_; refine Zq ?_; refine Zt ?_; refine Seq.done ?_; refine Zc ?_; refine Wp.seq ?_; refine Wp.region ?_)); (((refine Zq ?_)); refine q_call (by exact rfl) (by exact rfl) (awk _) ?_); ((refine Zq ?_; refine Za ?_; refine Seq.done ?_; refine Wp.ret ?_; refine thenR ?_)); (exact ret1 rfl rfl (by repeat (first | exact List.Sublist.refl _ | exact List.nil_sublist _ | refine List.Sublist.cons_cons _ ?_ | refine List.Sublist.cons _ ?_)) rfl)))
  | false =>
    ((refine Zq ?_; refine Zm ?_; refine Zy ?_; refine Zf T ?_; refine Zy ?_; refine Zl T 0 ?_; refine Zy ?_; refine Zs T ?_))
    (((refine Zy ?_)); (refine q_gtrD (by exact rfl) (by exact rfl) (fun c1 => ?_) (fun c1 => ?_)))
    · ((((refine Zq ?_; refine Zu ?_; refine Zq ?_; refine Zm ?_; refine Zn ?_; refine Zn ?_; refine Zn ?_; refine Zn ?_; refine Zq ?_; refine Zt ?_; refine Zq ?_; refine Zm ?_; refine Zn ?_; refine Zn ?_; refine Zq ?_; refine Zt ?_; refine Seq.done ?_; refine Zc ?_; refine Wp.seq ?_; refine Wp.region ?_)); (((refine Zq ?_)); refine q_call (by exact rfl) (by exact rfl) (awk _) ?_); ((refine Zq ?_; refine Za ?_; refine Seq.done ?_; refine Wp.ret ?_; refine thenR ?_)); (exact ret1 rfl rfl (by repeat (first | exact List.Sublist.refl _ | exact List.nil_sublist _ | refine List.Sublist.cons_cons _ ?_ | refine List.Sublist.cons _ ?_)) rfl)))
    ((refine Zq ?_; refine Zu ?_; refine Zq ?_; refine Zm ?_; refine Zy ?_; refine Zf T ?_; refine Zy ?_; refine Zl T 0 ?_; refine Zy ?_; refine Zs T ?_))
    (((refine Zy ?_)); (refine q_gtrD (by exact rfl) (by exact rfl) (fun c2 => ?_) (fun c2 => ?_)))
    · ((((refine Zq ?_; refine Zu ?_; refine Zq ?_; refine Zm ?_; refine Zn ?_; refine Zn ?_; refine Zq ?_; refine Zt ?_; refine Seq.done ?_; refine Zc ?_; refine Wp.seq ?_; refine Wp.region ?_)); (((refine Zq ?_)); refine q_call (by exact rfl) (by exact rfl) (awk _) ?_); ((refine Zq ?_; refine Za ?_; refine Seq.done ?_; refine Wp.ret ?_; refine thenR ?_)); (exact ret1 rfl rfl (by repeat (first | exact List.Sublist.refl _ | exact List.nil_sublist _ | refine List.Sublist.cons_cons _ ?_ | refine List.Sublist.cons _ ?_)) rfl)))
    ((refine Zq ?_; refine Zu ?_; refine Zq ?_; refine Zm ?_))
    (((refine Zy ?_)); refine q_call (by exact rfl) (by exact rfl) (awk _) ?_)
    ((refine Zy ?_; refine q_not (by exact rfl) ?_; refine Zq ?_; refine Zu ?_; refine Seq.done ?_; refine Zd ?_; refine Wp.skip ?_; refine thenN ?_; refine Wp.seq ?_; refine Wp.region ?_; refine Zq ?_; refine ZL T 1 ?_; refine Zq ?_; refine ZL T 0 ?_; refine Zq ?_; refine Zm ?_))
    refine Seq.stepK (by exact rfl) (k_call [] [_, _] (by exact rfl) (by exact rfl) (by exact rfl) (apply_f hg0 hs0 hA) (fun v fz2 H2 hle2 hR => ?_))
    obtain ⟨rfl, w1, w2, rfl, hN⟩ := hR
    have hN0 := hN
    obtain ⟨N1, r1, s1, rfl, n1⟩ := hN.tru
    obtain ⟨N2, r2, s2, rfl, n2⟩ := hN.values
    replace hg0 := hg0.mono hle2
    replace hs0 := hs0.mono hle2
    replace go := go.mono hle2
    replace gf := gf.mono hle2
    replace st := st.mono hle2
    replace sv := sv.mono hle2
    by_cases hc : code = 0
    · subst hc
      obtain ⟨o, hv, p0, p1, hp, ho', hpre, hasg⟩ := hA.ok_inv
      obtain ⟨j, o2, hj, ho, ho2⟩ := op_get p0 p1
      rw [ho'] at ho2; injection ho2 with ho2; subst ho2
      have hok := ops_ok hv ho
      have hat : g.atoms.length ≤ 4096 := by have := hv.1; omega
      have hfl : g.fluents.length ≤ 4096 := by have := hv.2.1; omega
      have hNt : (nextS g S op 0 vs).tru = truUpto S o.changes g.atoms.length := by simp [nextS, nextT, ho']
      have hNv : (nextS g S op 0 vs).values = vs := by simp [nextS]
      have hasgs : ∀ a ∈ o.assigns, 0 ≤ a.fluent := fun a ha => by
        obtain ⟨i, hi⟩ := List.mem_iff_getElem?.1 ha
        exact (hok.2.2.2.2.2.2 i a hi).1
      have hprop : ProperP g (nextS g S op 0 vs) := ⟨by rw [hNv, assignM_len hasg]; exact hp.1, by rw [hNt]; exact truUpto_asc, by rw [hNv]; exact assignM_bds hasgs hp.2.2 hasg⟩
      have lNv : vs.length = g.fluents.length := by rw [assignM_len hasg]; exact hp.1
      have lSv : S.values.length = g.fluents.length := hp.1
      rw [hNt] at n1
      rw [hNv] at n2
      rw [show errV 0 = .nilIface from rfl]
      ((refine Zq ?_; refine Zm ?_; refine Zq ?_; refine Ze ?_; refine Zq ?_; refine Ze ?_; refine Seq.stepK (by exact rfl) (k_alloc T (by exact rfl) (by exact rfl) (fun _ => ?_)); refine Seq.stepK0 (k_store0 T (by exact rfl) (by exact rfl) (by exact rfl) (by exact rfl) (by exact rfl) (by exact rfl) ?_); refine Zq ?_; refine Za ?_; refine Seq.done ?_; refine Wp.seq ?_; refine Wp.seq ?_; refine Wp.region ?_; refine Zq ?_; refine Zm ?_; refine Zq ?_; refine q_neq_nil T (by exact rfl) (by exact rfl) (by exact rfl) (by exact rfl) ?_; refine Seq.done ?_; refine Zd ?_; refine Wp.skip ?_; refine thenN ?_; refine Wp.seq ?_; refine Wp.seq ?_; refine Wp.region ?_; refine Zq ?_; refine ZL T 2 ?_; refine Zq ?_; refine ZL T 0 ?_))
      rename_i g7
      (((refine Zq ?_)); refine q_callB (by exact rfl) (by exact rfl) (rproper_q hg0 hN0) (fun f1 => ?_) (fun f1 => ?_))
      rotate_left 1
      · exact absurd hprop (of_decide_eq_false f1)
      ((refine Zq ?_; refine q_not (by exact rfl) ?_; refine Zq ?_; refine Zm ?_; refine Zy ?_; refine Zm ?_))
      (((refine Zy ?_)); (refine q_lssD (by exact rfl) (by exact rfl) (fun c3 => ?_) (fun c3 => ?_)))
      · exact absurd p0 (Int.not_le.2 c3)
      ((refine Zq ?_; refine Zu ?_; refine Zq ?_; refine Zm ?_; refine Zy ?_; refine Zm ?_; refine Zy ?_; refine Zf T ?_; refine Zy ?_; refine Zl T 2 ?_; refine Zy ?_; refine Zs T ?_))
      (((refine Zy ?_)); (refine q_geqD (by exact rfl) (by exact rfl) (fun c4 => ?_) (fun c4 => ?_)))
      · omega
      ((refine Zq ?_; refine Zu ?_; refine Seq.done ?_; refine Zd ?_; refine Wp.skip ?_; refine thenN ?_; refine Wp.seq ?_; refine Wp.region ?_; refine Zq ?_; refine Zf T ?_; refine Zq ?_; refine Zl T 2 ?_; refine Zq ?_; refine Zm ?_))
      (((refine Zq ?_)); refine q_index T j (by exact rfl) (by exact rfl) (by exact rfl) (by exact rfl) (by exact rfl) (by exact rfl) go (by first | rfl | omega) ho (fun p hp1 => ?_))
      (((refine Zq ?_)); refine q_load_at T (by exact rfl) (by exact rfl) (by exact rfl) hp1 (by exact rfl) ?_)
      intro cs hcs
      obtain ⟨x1, x2, x3, x4, x5, rfl, hO⟩ := gOpL_open hcs
      obtain ⟨P1, p1', o1, rfl, _⟩ := hO.pre.pos
      obtain ⟨P2, p2, o2, rfl, _⟩ := hO.pre.neg
      obtain ⟨P3, p3, o3, rfl, _⟩ := hO.pre.tests
      obtain ⟨P4, p4, o4, rfl, oc⟩ := hO.changes
      obtain ⟨P5, p5, o5, rfl, oa⟩ := hO.assigns
      have la := oa.len
      have qa := oa.short
      have lc := oc.len
      have qc := oc.short
      refine Seq.stepK (by exact rfl) (k_alloc T (by exact rfl) (by exact rfl) (fun g9 => ?_))
      ((refine Seq.stepK0 (k_store0 T (by exact rfl) (by exact rfl) (by exact rfl) (by exact rfl) (by exact rfl) (by exact rfl) ?_); refine Seq.done ?_; refine Wp.seq ?_; refine Wp.seq ?_; refine Wp.region ?_; refine Zq ?_; refine Za ?_; refine Seq.done ?_; refine Wp.block ?_))
      refine Wp.loop (fun q σ fz' H' => ∃ (i : Nat), i ≤ g.atoms.length ∧ q = g.atoms.length - i ∧ σ = [(10, .int .i64 i), (9, .pointer (some ⟨g9, 0, none⟩)), (7, .pointer (some ⟨g7, 0, none⟩)), (4, .pointer (some ⟨g1, 0, none⟩)), (3, .pointer (some ⟨g0, 0, none⟩))] ∧ fz2 = fz' ∧
          H' = [(g9, .cells #[.string o.name, .int .i64 o.cost, .slice P1 p1' o1, .slice P2 p2 o2, .slice P3 p3 o3, .slice P4 p4 o4, .slice P5 p5 o5] 46 (0, 0)), (g7, .cells #[.slice N1 r1 s1, .slice N2 r2 s2] 33 (0, 0)), ((g1, .cells #[.slice B1 m1 d1, .slice B2 m2 d2] 33 (0, 0))), ((g0, .cells #[.slice A1 g.atoms.length cap1, .slice A2 g.fluents.length cap2, .slice A3 n3 cap3, .slice A4 n4 cap4, .slice A5 n5 cap5] 28 (0, 0)))])
        ⟨0, Nat.zero_le _, rfl, rfl, rfl, rfl⟩ (by repeat (first | exact trivial | refine ⟨by exact rfl, ?_⟩)) (by repeat (first | exact List.Sublist.refl _ | exact List.nil_sublist _ | refine List.Sublist.cons_cons _ ?_ | refine List.Sublist.cons _ ?_)) ?_
      rintro q σ fz' H' ⟨i, hi, rfl, rfl, rfl, rfl⟩
      ((refine Wp.seq ?_; refine Wp.seq ?_; refine Wp.region ?_; refine Zq ?_; refine Zm ?_; refine Zq ?_; refine Zf T ?_; refine Zq ?_; refine Zl T 3 ?_; refine Zq ?_; refine Zs T ?_))
      (((refine Zq ?_)); (refine q_lssD (by exact rfl) (by exact rfl) (fun dd1 => ?_) (fun dd1 => ?_)))
      · ((refine Seq.done ?_; refine Zc ?_; refine Wp.skip ?_; refine thenN ?_; refine Wp.seq ?_; refine Wp.block ?_; refine Wp.seq ?_; refine Wp.region ?_; refine Zq ?_; refine Za ?_; refine Zq ?_; refine Za ?_; refine Seq.done ?_; refine Wp.seq ?_; refine Wp.seq ?_; refine Wp.region ?_; refine Zq ?_; refine Za ?_; refine Seq.done ?_; refine Wp.block ?_))
        refine Wp.loop (fun q σ fz' H' => ∃ (k : Nat) (mb ab : Bool), k ≤ p4 ∧ q = p4 - k ∧ σ = [(13, .int .i64 k), (12, .bool ab), (11, .bool mb), (10, .int .i64 i), (9, .pointer (some ⟨g9, 0, none⟩)), (7, .pointer (some ⟨g7, 0, none⟩)), (4, .pointer (some ⟨g1, 0, none⟩)), (3, .pointer (some ⟨g0, 0, none⟩))] ∧ fz2 = fz' ∧
            H' = [(g9, .cells #[.string o.name, .int .i64 o.cost, .slice P1 p1' o1, .slice P2 p2 o2, .slice P3 p3 o3, .slice P4 p4 o4, .slice P5 p5 o5] 46 (0, 0)), (g7, .cells #[.slice N1 r1 s1, .slice N2 r2 s2] 33 (0, 0)), ((g1, .cells #[.slice B1 m1 d1, .slice B2 m2 d2] 33 (0, 0))), ((g0, .cells #[.slice A1 g.atoms.length cap1, .slice A2 g.fluents.length cap2, .slice A3 n3 cap3, .slice A4 n4 cap4, .slice A5 n5 cap5] 28 (0, 0)))] ∧ mb = decide (MenP (o.changes.take k) i) ∧ ab = decide (AddP S (o.changes.take k) i))
          ⟨0, _, _, Nat.zero_le _, rfl, rfl, rfl, rfl, (decide_eq_false (by simp [MenP])).symm, (decide_eq_false (by simp [AddP])).symm⟩ (by repeat (first | exact trivial | refine ⟨by exact rfl, ?_⟩)) (by repeat (first | exact List.Sublist.refl _ | exact List.nil_sublist _ | refine List.Sublist.cons_cons _ ?_ | refine List.Sublist.cons _ ?_)) ?_
        rintro q σ fz' H' ⟨k, mb, ab, hk, rfl, rfl, rfl, rfl, hmb, hab⟩
        ((refine Wp.seq ?_; refine Wp.seq ?_; refine Wp.region ?_; refine Zq ?_; refine Zm ?_; refine Zq ?_; refine Zf T ?_; refine Zq ?_; refine Zl T 0 ?_; refine Zq ?_; refine Zs T ?_))
        (((refine Zq ?_)); (refine q_lssD (by exact rfl) (by exact rfl) (fun dd2 => ?_) (fun dd2 => ?_)))
        · obtain ⟨x, hx⟩ := get_some (l := o.changes) (k := k) (by omega)
          have hxok := hok.2.2.2.2.2.1 x (List.mem_of_getElem? hx)
          cases mb with
          | true =>
            ((((refine Seq.done ?_; refine Zc ?_; refine Wp.skip ?_; refine thenN ?_; refine Wp.seq ?_; refine Wp.block ?_; refine Wp.seq ?_; refine Wp.region ?_; refine Zq ?_; refine Zm ?_; refine Zq ?_; refine Zm ?_; refine Zn ?_; refine Zn ?_; refine Zn ?_; refine Zn ?_; refine Zn ?_; refine Zn ?_; refine Zn ?_; refine Zn ?_; refine Zq ?_; refine Zt ?_; refine Zq ?_; refine Za ?_; refine Seq.done ?_)); cases ab with | true => (((refine Wp.draw (by decide +kernel) T.mixed (by kernel_rfl) (by kernel_rfl) ?_; refine QL.q ?_; refine Zm ?_; refine QL.q ?_; refine Zm ?_; refine QL.no (by exact rfl) ?_; refine QL.no (by exact rfl) ?_; refine QL.no (by exact rfl) ?_; refine QL.no (by exact rfl) ?_; refine QL.no (by exact rfl) ?_; refine QL.no (by exact rfl) ?_; refine QL.no (by exact rfl) ?_; refine QL.no (by exact rfl) ?_; refine QL.no (by exact rfl) ?_; refine QL.no (by exact rfl) ?_; refine QL.no (by exact rfl) ?_; refine QL.no (by exact rfl) ?_; refine QL.no (by exact rfl) ?_; refine QL.no (by exact rfl) ?_; refine QL.no (by exact rfl) ?_; refine QL.no (by exact rfl) ?_; refine QL.no (by exact rfl) ?_; refine QL.no (by exact rfl) ?_; refine QL.no (by exact rfl) ?_; refine QL.no (by exact rfl) ?_; refine QL.no (by exact rfl) ?_; refine QL.no (by exact rfl) ?_; refine QL.no (by exact rfl) ?_; refine QL.no (by exact rfl) ?_; refine QL.no (by exact rfl) ?_; refine QL.no (by exact rfl) ?_; refine QL.no (by exact rfl) ?_; refine QL.q ?_; refine Zt ?_; refine QL.q ?_; refine Za ?_; refine QL.done ?_; refine blkN ?_; refine thenN ?_; refine Wp.region ?_; refine Zq ?_; refine Zm ?_; refine Zq ?_; refine q_add (by exact rfl) (by exact rfl) (wrap_in (by omega)) ?_; refine Zq ?_; refine Za ?_; refine Seq.end_ ?_)); exact loopN ⟨k + 1, true, true, by omega, rfl, rfl, rfl, rfl, (men_next (b' := true) hx hmb (by simp)), add_next (b' := true) hx hab (by simp)⟩ (by omega) (by repeat (first | exact trivial | refine ⟨by exact rfl, ?_⟩)) (by repeat (first | exact List.Sublist.refl _ | exact List.nil_sublist _ | refine List.Sublist.cons_cons _ ?_ | refine List.Sublist.cons _ ?_))) | false => (((refine Wp.draw (by decide +kernel) T.mixed (by kernel_rfl) (by kernel_rfl) ?_; refine QL.q ?_; refine Zm ?_; refine QL.q ?_; refine Zm ?_; refine QL.yes (by exact rfl) ?_; refine Zf T ?_; refine QL.yes (by exact rfl) ?_; refine Zl T 0 ?_; refine QL.yes (by exact rfl) ?_; refine Zm ?_)); (((refine QL.yes (by exact rfl) ?_)); refine q_index T k (by exact rfl) (by exact rfl) (by exact rfl) (by exact rfl) (by exact rfl) (by exact rfl) oc (by first | rfl | omega) hx (fun pb hpb => ?_)); ((refine QL.yes (by exact rfl) ?_; refine Zf T ?_)); (((refine QL.yes (by exact rfl) ?_)); refine q_load_int T (by exact rfl) (by exact rfl) (by exact rfl) hpb.GChange_atom (fun ib => ?_)); ((refine QL.yes (by exact rfl) ?_; refine Zm ?_)); (((refine QL.yes (by exact rfl) ?_)); (refine q_eqlD (by exact rfl) (by exact rfl) (fun e2 => ?_) (fun e2 => ?_))); rotate_left 1; (((refine QL.yes (by exact rfl) ?_; refine Zm ?_; refine QL.no (by exact rfl) ?_; refine QL.no (by exact rfl) ?_; refine QL.no (by exact rfl) ?_; refine QL.no (by exact rfl) ?_; refine QL.no (by exact rfl) ?_; refine QL.no (by exact rfl) ?_; refine QL.yes (by exact rfl) ?_; refine Zu ?_; refine QL.yes (by exact rfl) ?_; refine Zm ?_; refine QL.no (by exact rfl) ?_; refine QL.no (by exact rfl) ?_; refine QL.no (by exact rfl) ?_; refine QL.no (by exact rfl) ?_; refine QL.no (by exact rfl) ?_; refine QL.no (by exact rfl) ?_; refine QL.no (by exact rfl) ?_; refine QL.no (by exact rfl) ?_; refine QL.no (by exact rfl) ?_; refine QL.yes (by exact rfl) ?_; refine Zu ?_; refine QL.q ?_; refine Zu ?_; refine QL.q ?_; refine Za ?_; refine QL.done ?_; refine blkN ?_; refine thenN ?_; refine Wp.region ?_; refine Zq ?_; refine Zm ?_; refine Zq ?_; refine q_add (by exact rfl) (by exact rfl) (wrap_in (by omega)) ?_; refine Zq ?_; refine Za ?_; refine Seq.end_ ?_)); exact loopN ⟨k + 1, true, false, by omega, rfl, rfl, rfl, rfl, (men_next (b' := true) hx hmb (by simp)), add_next (b' := false) hx hab (by simp [e2])⟩ (by omega) (by repeat (first | exact trivial | refine ⟨by exact rfl, ?_⟩)) (by repeat (first | exact List.Sublist.refl _ | exact List.nil_sublist _ | refine List.Sublist.cons_cons _ ?_ | refine List.Sublist.cons _ ?_))); ((refine QL.yes (by exact rfl) ?_; refine Zm ?_; refine QL.yes (by exact rfl) ?_; refine Zf T ?_; refine QL.yes (by exact rfl) ?_; refine Zl T 0 ?_; refine QL.yes (by exact rfl) ?_; refine Zm ?_)); (((refine QL.yes (by exact rfl) ?_)); refine q_index T k (by exact rfl) (by exact rfl) (by exact rfl) (by exact rfl) (by exact rfl) (by exact rfl) oc (by first | rfl | omega) hx (fun pc hpc => ?_)); ((refine QL.yes (by exact rfl) ?_; refine Zf T ?_)); (((refine QL.yes (by exact rfl) ?_)); refine q_load_bool T (by exact rfl) (by exact rfl) (by exact rfl) hpc.GChange_add ?_); cases hadd : x.add with | false => (((refine QL.yes (by exact rfl) ?_; refine Zt ?_; refine QL.yes (by exact rfl) ?_; refine Zm ?_; refine QL.no (by exact rfl) ?_; refine QL.no (by exact rfl) ?_; refine QL.no (by exact rfl) ?_; refine QL.no (by exact rfl) ?_; refine QL.no (by exact rfl) ?_; refine QL.no (by exact rfl) ?_; refine QL.no (by exact rfl) ?_; refine QL.no (by exact rfl) ?_; refine QL.no (by exact rfl) ?_; refine QL.yes (by exact rfl) ?_; refine Zu ?_; refine QL.q ?_; refine Zu ?_; refine QL.q ?_; refine Za ?_; refine QL.done ?_; refine blkN ?_; refine thenN ?_; refine Wp.region ?_; refine Zq ?_; refine Zm ?_; refine Zq ?_; refine q_add (by exact rfl) (by exact rfl) (wrap_in (by omega)) ?_; refine Zq ?_; refine Za ?_; refine Seq.end_ ?_)); exact loopN ⟨k + 1, true, false, by omega, rfl, rfl, rfl, rfl, (men_next (b' := true) hx hmb (by simp)), add_next (b' := false) hx hab (by simp [hadd])⟩ (by omega) (by repeat (first | exact trivial | refine ⟨by exact rfl, ?_⟩)) (by repeat (first | exact List.Sublist.refl _ | exact List.nil_sublist _ | refine List.Sublist.cons_cons _ ?_ | refine List.Sublist.cons _ ?_))) | true => (((refine QL.yes (by exact rfl) ?_; refine Zt ?_; refine QL.yes (by exact rfl) ?_; refine Zm ?_; refine QL.yes (by exact rfl) ?_; refine ZL T 3 ?_; refine QL.yes (by exact rfl) ?_; refine ZL T 2 ?_; refine QL.yes (by exact rfl) ?_; refine Zf T ?_; refine QL.yes (by exact rfl) ?_; refine Zl T 0 ?_; refine QL.yes (by exact rfl) ?_; refine Zm ?_)); (((refine QL.yes (by exact rfl) ?_)); refine q_index T k (by exact rfl) (by exact rfl) (by exact rfl) (by exact rfl) (by exact rfl) (by exact rfl) oc (by first | rfl | omega) hx (fun pd hpd => ?_)); ((refine QL.yes (by exact rfl) ?_; refine Zf T ?_)); (((refine QL.yes (by exact rfl) ?_)); refine q_load_at T (by exact rfl) (by exact rfl) (by exact rfl) hpd.GChange_when_ (by exact rfl) ?_); intro cs9 hcs9; obtain ⟨z1, z2, z3, rfl, hz⟩ := condL_open hcs9; (((refine QL.yes (by exact rfl) ?_)); refine q_callB (by exact rfl) (by exact rfl) (hold_here hv hp hxok.2.2 (tholds_q hg0 hs0 hz)) (fun f3 => ?_) (fun f3 => ?_)); (((refine QL.yes (by exact rfl) ?_; refine Zt ?_; refine QL.q ?_; refine Zu ?_; refine QL.q ?_; refine Za ?_; refine QL.done ?_; refine blkN ?_; refine thenN ?_; refine Wp.region ?_; refine Zq ?_; refine Zm ?_; refine Zq ?_; refine q_add (by exact rfl) (by exact rfl) (wrap_in (by omega)) ?_; refine Zq ?_; refine Za ?_; refine Seq.end_ ?_)); exact loopN ⟨k + 1, true, true, by omega, rfl, rfl, rfl, rfl, (men_next (b' := true) hx hmb (by simp)), add_next (b' := true) hx hab (by simp [hadd, of_decide_eq_true f3, e2])⟩ (by omega) (by repeat (first | exact trivial | refine ⟨by exact rfl, ?_⟩)) (by repeat (first | exact List.Sublist.refl _ | exact List.nil_sublist _ | refine List.Sublist.cons_cons _ ?_ | refine List.Sublist.cons _ ?_))); (((refine QL.yes (by exact rfl) ?_; refine Zt ?_; refine QL.q ?_; refine Zu ?_; refine QL.q ?_; refine Za ?_; refine QL.done ?_; refine blkN ?_; refine thenN ?_; refine Wp.region ?_; refine Zq ?_; refine Zm ?_; refine Zq ?_; refine q_add (by exact rfl) (by exact rfl) (wrap_in (by omega)) ?_; refine Zq ?_; refine Za ?_; refine Seq.end_ ?_)); exact loopN ⟨k + 1, true, false, by omega, rfl, rfl, rfl, rfl, (men_next (b' := true) hx hmb (by simp)), add_next (b' := false) hx hab (by simp [of_decide_eq_false f3])⟩ (by omega) (by repeat (first | exact trivial | refine ⟨by exact rfl, ?_⟩)) (by repeat (first | exact List.Sublist.refl _ | exact List.nil_sublist _ | refine List.Sublist.cons_cons _ ?_ | refine List.Sublist.cons _ ?_)))))))
          | false =>
            ((refine Seq.done ?_; refine Zc ?_; refine Wp.skip ?_; refine thenN ?_; refine Wp.seq ?_; refine Wp.block ?_; refine Wp.seq ?_; refine Wp.region ?_; refine Zq ?_; refine Zm ?_; refine Zq ?_; refine Zm ?_; refine Zy ?_; refine Zf T ?_; refine Zy ?_; refine Zl T 0 ?_; refine Zy ?_; refine Zm ?_))
            (((refine Zy ?_)); refine q_index T k (by exact rfl) (by exact rfl) (by exact rfl) (by exact rfl) (by exact rfl) (by exact rfl) oc (by first | rfl | omega) hx (fun pa hpa => ?_))
            ((refine Zy ?_; refine Zf T ?_))
            (((refine Zy ?_)); refine q_load_int T (by exact rfl) (by exact rfl) (by exact rfl) hpa.GChange_atom (fun ia => ?_))
            ((refine Zy ?_; refine Zm ?_))
            (((refine Zy ?_)); (refine q_eqlD (by exact rfl) (by exact rfl) (fun e1 => ?_) (fun e1 => ?_)))
            · ((((refine Zq ?_; refine Zu ?_; refine Zq ?_; refine Za ?_; refine Seq.done ?_)); cases ab with | true => (((refine Wp.draw (by decide +kernel) T.mixed (by kernel_rfl) (by kernel_rfl) ?_; refine QL.q ?_; refine Zm ?_; refine QL.q ?_; refine Zm ?_; refine QL.no (by exact rfl) ?_; refine QL.no (by exact rfl) ?_; refine QL.no (by exact rfl) ?_; refine QL.no (by exact rfl) ?_; refine QL.no (by exact rfl) ?_; refine QL.no (by exact rfl) ?_; refine QL.no (by exact rfl) ?_; refine QL.no (by exact rfl) ?_; refine QL.no (by exact rfl) ?_; refine QL.no (by exact rfl) ?_; refine QL.no (by exact rfl) ?_; refine QL.no (by exact rfl) ?_; refine QL.no (by exact rfl) ?_; refine QL.no (by exact rfl) ?_; refine QL.no (by exact rfl) ?_; refine QL.no (by exact rfl) ?_; refine QL.no (by exact rfl) ?_; refine QL.no (by exact rfl) ?_; refine QL.no (by exact rfl) ?_; refine QL.no (by exact rfl) ?_; refine QL.no (by exact rfl) ?_; refine QL.no (by exact rfl) ?_; refine QL.no (by exact rfl) ?_; refine QL.no (by exact rfl) ?_; refine QL.no (by exact rfl) ?_; refine QL.no (by exact rfl) ?_; refine QL.no (by exact rfl) ?_; refine QL.q ?_; refine Zt ?_; refine QL.q ?_; refine Za ?_; refine QL.done ?_; refine blkN ?_; refine thenN ?_; refine Wp.region ?_; refine Zq ?_; refine Zm ?_; refine Zq ?_; refine q_add (by exact rfl) (by exact rfl) (wrap_in (by omega)) ?_; refine Zq ?_; refine Za ?_; refine Seq.end_ ?_)); exact loopN ⟨k + 1, true, true, by omega, rfl, rfl, rfl, rfl, (men_next (b' := true) hx hmb (by simp [e1])), add_next (b' := true) hx hab (by simp)⟩ (by omega) (by repeat (first | exact trivial | refine ⟨by exact rfl, ?_⟩)) (by repeat (first | exact List.Sublist.refl _ | exact List.nil_sublist _ | refine List.Sublist.cons_cons _ ?_ | refine List.Sublist.cons _ ?_))) | false => (((refine Wp.draw (by decide +kernel) T.mixed (by kernel_rfl) (by kernel_rfl) ?_; refine QL.q ?_; refine Zm ?_; refine QL.q ?_; refine Zm ?_; refine QL.yes (by exact rfl) ?_; refine Zf T ?_; refine QL.yes (by exact rfl) ?_; refine Zl T 0 ?_; refine QL.yes (by exact rfl) ?_; refine Zm ?_)); (((refine QL.yes (by exact rfl) ?_)); refine q_index T k (by exact rfl) (by exact rfl) (by exact rfl) (by exact rfl) (by exact rfl) (by exact rfl) oc (by first | rfl | omega) hx (fun pb hpb => ?_)); ((refine QL.yes (by exact rfl) ?_; refine Zf T ?_)); (((refine QL.yes (by exact rfl) ?_)); refine q_load_int T (by exact rfl) (by exact rfl) (by exact rfl) hpb.GChange_atom (fun ib => ?_)); ((refine QL.yes (by exact rfl) ?_; refine Zm ?_)); (((refine QL.yes (by exact rfl) ?_)); (refine q_eqlD (by exact rfl) (by exact rfl) (fun e2 => ?_) (fun e2 => ?_))); rotate_left 1; (((refine QL.yes (by exact rfl) ?_; refine Zm ?_; refine QL.no (by exact rfl) ?_; refine QL.no (by exact rfl) ?_; refine QL.no (by exact rfl) ?_; refine QL.no (by exact rfl) ?_; refine QL.no (by exact rfl) ?_; refine QL.no (by exact rfl) ?_; refine QL.yes (by exact rfl) ?_; refine Zu ?_; refine QL.yes (by exact rfl) ?_; refine Zm ?_; refine QL.no (by exact rfl) ?_; refine QL.no (by exact rfl) ?_; refine QL.no (by exact rfl) ?_; refine QL.no (by exact rfl) ?_; refine QL.no (by exact rfl) ?_; refine QL.no (by exact rfl) ?_; refine QL.no (by exact rfl) ?_; refine QL.no (by exact rfl) ?_; refine QL.no (by exact rfl) ?_; refine QL.yes (by exact rfl) ?_; refine Zu ?_; refine QL.q ?_; refine Zu ?_; refine QL.q ?_; refine Za ?_; refine QL.done ?_; refine blkN ?_; refine thenN ?_; refine Wp.region ?_; refine Zq ?_; refine Zm ?_; refine Zq ?_; refine q_add (by exact rfl) (by exact rfl) (wrap_in (by omega)) ?_; refine Zq ?_; refine Za ?_; refine Seq.end_ ?_)); exact loopN ⟨k + 1, true, false, by omega, rfl, rfl, rfl, rfl, (men_next (b' := true) hx hmb (by simp [e1])), add_next (b' := false) hx hab (by simp [e2])⟩ (by omega) (by repeat (first | exact trivial | refine ⟨by exact rfl, ?_⟩)) (by repeat (first | exact List.Sublist.refl _ | exact List.nil_sublist _ | refine List.Sublist.cons_cons _ ?_ | refine List.Sublist.cons _ ?_))); ((refine QL.yes (by exact rfl) ?_; refine Zm ?_; refine QL.yes (by exact rfl) ?_; refine Zf T ?_; refine QL.yes (by exact rfl) ?_; refine Zl T 0 ?_; refine QL.yes (by exact rfl) ?_; refine Zm ?_)); (((refine QL.yes (by exact rfl) ?_)); refine q_index T k (by exact rfl) (by exact rfl) (by exact rfl) (by exact rfl) (by exact rfl) (by exact rfl) oc (by first | rfl | omega) hx (fun pc hpc => ?_)); ((refine QL.yes (by exact rfl) ?_; refine Zf T ?_)); (((refine QL.yes (by exact rfl) ?_)); refine q_load_bool T (by exact rfl) (by exact rfl) (by exact rfl) hpc.GChange_add ?_); cases hadd : x.add with | false => (((refine QL.yes (by exact rfl) ?_; refine Zt ?_; refine QL.yes (by exact rfl) ?_; refine Zm ?_; refine QL.no (by exact rfl) ?_; refine QL.no (by exact rfl) ?_; refine QL.no (by exact rfl) ?_; refine QL.no (by exact rfl) ?_; refine QL.no (by exact rfl) ?_; refine QL.no (by exact rfl) ?_; refine QL.no (by exact rfl) ?_; refine QL.no (by exact rfl) ?_; refine QL.no (by exact rfl) ?_; refine QL.yes (by exact rfl) ?_; refine Zu ?_; refine QL.q ?_; refine Zu ?_; refine QL.q ?_; refine Za ?_; refine QL.done ?_; refine blkN ?_; refine thenN ?_; refine Wp.region ?_; refine Zq ?_; refine Zm ?_; refine Zq ?_; refine q_add (by exact rfl) (by exact rfl) (wrap_in (by omega)) ?_; refine Zq ?_; refine Za ?_; refine Seq.end_ ?_)); exact loopN ⟨k + 1, true, false, by omega, rfl, rfl, rfl, rfl, (men_next (b' := true) hx hmb (by simp [e1])), add_next (b' := false) hx hab (by simp [hadd])⟩ (by omega) (by repeat (first | exact trivial | refine ⟨by exact rfl, ?_⟩)) (by repeat (first | exact List.Sublist.refl _ | exact List.nil_sublist _ | refine List.Sublist.cons_cons _ ?_ | refine List.Sublist.cons _ ?_))) | true => (((refine QL.yes (by exact rfl) ?_; refine Zt ?_; refine QL.yes (by exact rfl) ?_; refine Zm ?_; refine QL.yes (by exact rfl) ?_; refine ZL T 3 ?_; refine QL.yes (by exact rfl) ?_; refine ZL T 2 ?_; refine QL.yes (by exact rfl) ?_; refine Zf T ?_; refine QL.yes (by exact rfl) ?_; refine Zl T 0 ?_; refine QL.yes (by exact rfl) ?_; refine Zm ?_)); (((refine QL.yes (by exact rfl) ?_)); refine q_index T k (by exact rfl) (by exact rfl) (by exact rfl) (by exact rfl) (by exact rfl) (by exact rfl) oc (by first | rfl | omega) hx (fun pd hpd => ?_)); ((refine QL.yes (by exact rfl) ?_; refine Zf T ?_)); (((refine QL.yes (by exact rfl) ?_)); refine q_load_at T (by exact rfl) (by exact rfl) (by exact rfl) hpd.GChange_when_ (by exact rfl) ?_); intro cs9 hcs9; obtain ⟨z1, z2, z3, rfl, hz⟩ := condL_open hcs9; (((refine QL.yes (by exact rfl) ?_)); refine q_callB (by exact rfl) (by exact rfl) (hold_here hv hp hxok.2.2 (tholds_q hg0 hs0 hz)) (fun f3 => ?_) (fun f3 => ?_)); (((refine QL.yes (by exact rfl) ?_; refine Zt ?_; refine QL.q ?_; refine Zu ?_; refine QL.q ?_; refine Za ?_; refine QL.done ?_; refine blkN ?_; refine thenN ?_; refine Wp.region ?_; refine Zq ?_; refine Zm ?_; refine Zq ?_; refine q_add (by exact rfl) (by exact rfl) (wrap_in (by omega)) ?_; refine Zq ?_; refine Za ?_; refine Seq.end_ ?_)); exact loopN ⟨k + 1, true, true, by omega, rfl, rfl, rfl, rfl, (men_next (b' := true) hx hmb (by simp [e1])), add_next (b' := true) hx hab (by simp [hadd, of_decide_eq_true f3, e2])⟩ (by omega) (by repeat (first | exact trivial | refine ⟨by exact rfl, ?_⟩)) (by repeat (first | exact List.Sublist.refl _ | exact List.nil_sublist _ | refine List.Sublist.cons_cons _ ?_ | refine List.Sublist.cons _ ?_))); (((refine QL.yes (by exact rfl) ?_; refine Zt ?_; refine QL.q ?_; refine Zu ?_; refine QL.q ?_; refine Za ?_; refine QL.done ?_; refine blkN ?_; refine thenN ?_; refine Wp.region ?_; refine Zq ?_; refine Zm ?_; refine Zq ?_; refine q_add (by exact rfl) (by exact rfl) (wrap_in (by omega)) ?_; refine Zq ?_; refine Za ?_; refine Seq.end_ ?_)); exact loopN ⟨k + 1, true, false, by omega, rfl, rfl, rfl, rfl, (men_next (b' := true) hx hmb (by simp [e1])), add_next (b' := false) hx hab (by simp [of_decide_eq_false f3])⟩ (by omega) (by repeat (first | exact trivial | refine ⟨by exact rfl, ?_⟩)) (by repeat (first | exact List.Sublist.refl _ | exact List.nil_sublist _ | refine List.Sublist.cons_cons _ ?_ | refine List.Sublist.cons _ ?_)))))))
            · ((((refine Zq ?_; refine Zu ?_; refine Zq ?_; refine Za ?_; refine Seq.done ?_)); cases ab with | true => (((refine Wp.draw (by decide +kernel) T.mixed (by kernel_rfl) (by kernel_rfl) ?_; refine QL.q ?_; refine Zm ?_; refine QL.q ?_; refine Zm ?_; refine QL.no (by exact rfl) ?_; refine QL.no (by exact rfl) ?_; refine QL.no (by exact rfl) ?_; refine QL.no (by exact rfl) ?_; refine QL.no (by exact rfl) ?_; refine QL.no (by exact rfl) ?_; refine QL.no (by exact rfl) ?_; refine QL.no (by exact rfl) ?_; refine QL.no (by exact rfl) ?_; refine QL.no (by exact rfl) ?_; refine QL.no (by exact rfl) ?_; refine QL.no (by exact rfl) ?_; refine QL.no (by exact rfl) ?_; refine QL.no (by exact rfl) ?_; refine QL.no (by exact rfl) ?_; refine QL.no (by exact rfl) ?_; refine QL.no (by exact rfl) ?_; refine QL.no (by exact rfl) ?_; refine QL.no (by exact rfl) ?_; refine QL.no (by exact rfl) ?_; refine QL.no (by exact rfl) ?_; refine QL.no (by exact rfl) ?_; refine QL.no (by exact rfl) ?_; refine QL.no (by exact rfl) ?_; refine QL.no (by exact rfl) ?_; refine QL.no (by exact rfl) ?_; refine QL.no (by exact rfl) ?_; refine QL.q ?_; refine Zt ?_; refine QL.q ?_; refine Za ?_; refine QL.done ?_; refine blkN ?_; refine thenN ?_; refine Wp.region ?_; refine Zq ?_; refine Zm ?_; refine Zq ?_; refine q_add (by exact rfl) (by exact rfl) (wrap_in (by omega)) ?_; refine Zq ?_; refine Za ?_; refine Seq.end_ ?_)); exact loopN ⟨k + 1, false, true, by omega, rfl, rfl, rfl, rfl, (men_next (b' := false) hx hmb (by simp [e1])), add_next (b' := true) hx hab (by simp)⟩ (by omega) (by repeat (first | exact trivial | refine ⟨by exact rfl, ?_⟩)) (by repeat (first | exact List.Sublist.refl _ | exact List.nil_sublist _ | refine List.Sublist.cons_cons _ ?_ | refine List.Sublist.cons _ ?_))) | false => (((refine Wp.draw (by decide +kernel) T.mixed (by kernel_rfl) (by kernel_rfl) ?_; refine QL.q ?_; refine Zm ?_; refine QL.q ?_; refine Zm ?_; refine QL.yes (by exact rfl) ?_; refine Zf T ?_; refine QL.yes (by exact rfl) ?_; refine Zl T 0 ?_; refine QL.yes (by exact rfl) ?_; refine Zm ?_)); (((refine QL.yes (by exact rfl) ?_)); refine q_index T k (by exact rfl) (by exact rfl) (by exact rfl) (by exact rfl) (by exact rfl) (by exact rfl) oc (by first | rfl | omega) hx (fun pb hpb => ?_)); ((refine QL.yes (by exact rfl) ?_; refine Zf T ?_)); (((refine QL.yes (by exact rfl) ?_)); refine q_load_int T (by exact rfl) (by exact rfl) (by exact rfl) hpb.GChange_atom (fun ib => ?_)); ((refine QL.yes (by exact rfl) ?_; refine Zm ?_)); (((refine QL.yes (by exact rfl) ?_)); (refine q_eqlD (by exact rfl) (by exact rfl) (fun e2 => ?_) (fun e2 => ?_))); rotate_left 1; (((refine QL.yes (by exact rfl) ?_; refine Zm ?_; refine QL.no (by exact rfl) ?_; refine QL.no (by exact rfl) ?_; refine QL.no (by exact rfl) ?_; refine QL.no (by exact rfl) ?_; refine QL.no (by exact rfl) ?_; refine QL.no (by exact rfl) ?_; refine QL.yes (by exact rfl) ?_; refine Zu ?_; refine QL.yes (by exact rfl) ?_; refine Zm ?_; refine QL.no (by exact rfl) ?_; refine QL.no (by exact rfl) ?_; refine QL.no (by exact rfl) ?_; refine QL.no (by exact rfl) ?_; refine QL.no (by exact rfl) ?_; refine QL.no (by exact rfl) ?_; refine QL.no (by exact rfl) ?_; refine QL.no (by exact rfl) ?_; refine QL.no (by exact rfl) ?_; refine QL.yes (by exact rfl) ?_; refine Zu ?_; refine QL.q ?_; refine Zu ?_; refine QL.q ?_; refine Za ?_; refine QL.done ?_; refine blkN ?_; refine thenN ?_; refine Wp.region ?_; refine Zq ?_; refine Zm ?_; refine Zq ?_; refine q_add (by exact rfl) (by exact rfl) (wrap_in (by omega)) ?_; refine Zq ?_; refine Za ?_; refine Seq.end_ ?_)); exact loopN ⟨k + 1, false, false, by omega, rfl, rfl, rfl, rfl, (men_next (b' := false) hx hmb (by simp [e1])), add_next (b' := false) hx hab (by simp [e2])⟩ (by omega) (by repeat (first | exact trivial | refine ⟨by exact rfl, ?_⟩)) (by repeat (first | exact List.Sublist.refl _ | exact List.nil_sublist _ | refine List.Sublist.cons_cons _ ?_ | refine List.Sublist.cons _ ?_))); ((refine QL.yes (by exact rfl) ?_; refine Zm ?_; refine QL.yes (by exact rfl) ?_; refine Zf T ?_; refine QL.yes (by exact rfl) ?_; refine Zl T 0 ?_; refine QL.yes (by exact rfl) ?_; refine Zm ?_)); (((refine QL.yes (by exact rfl) ?_)); refine q_index T k (by exact rfl) (by exact rfl) (by exact rfl) (by exact rfl) (by exact rfl) (by exact rfl) oc (by first | rfl | omega) hx (fun pc hpc => ?_)); ((refine QL.yes (by exact rfl) ?_; refine Zf T ?_)); (((refine QL.yes (by exact rfl) ?_)); refine q_load_bool T (by exact rfl) (by exact rfl) (by exact rfl) hpc.GChange_add ?_); cases hadd : x.add with | false => (((refine QL.yes (by exact rfl) ?_; refine Zt ?_; refine QL.yes (by exact rfl) ?_; refine Zm ?_; refine QL.no (by exact rfl) ?_; refine QL.no (by exact rfl) ?_; refine QL.no (by exact rfl) ?_; refine QL.no (by exact rfl) ?_; refine QL.no (by exact rfl) ?_; refine QL.no (by exact rfl) ?_; refine QL.no (by exact rfl) ?_; refine QL.no (by exact rfl) ?_; refine QL.no (by exact rfl) ?_; refine QL.yes (by exact rfl) ?_; refine Zu ?_; refine QL.q ?_; refine Zu ?_; refine QL.q ?_; refine Za ?_; refine QL.done ?_; refine blkN ?_; refine thenN ?_; refine Wp.region ?_; refine Zq ?_; refine Zm ?_; refine Zq ?_; refine q_add (by exact rfl) (by exact rfl) (wrap_in (by omega)) ?_; refine Zq ?_; refine Za ?_; refine Seq.end_ ?_)); exact loopN ⟨k + 1, false, false, by omega, rfl, rfl, rfl, rfl, (men_next (b' := false) hx hmb (by simp [e1])), add_next (b' := false) hx hab (by simp [hadd])⟩ (by omega) (by repeat (first | exact trivial | refine ⟨by exact rfl, ?_⟩)) (by repeat (first | exact List.Sublist.refl _ | exact List.nil_sublist _ | refine List.Sublist.cons_cons _ ?_ | refine List.Sublist.cons _ ?_))) | true => (((refine QL.yes (by exact rfl) ?_; refine Zt ?_; refine QL.yes (by exact rfl) ?_; refine Zm ?_; refine QL.yes (by exact rfl) ?_; refine ZL T 3 ?_; refine QL.yes (by exact rfl) ?_; refine ZL T 2 ?_; refine QL.yes (by exact rfl) ?_; refine Zf T ?_; refine QL.yes (by exact rfl) ?_; refine Zl T 0 ?_; refine QL.yes (by exact rfl) ?_; refine Zm ?_)); (((refine QL.yes (by exact rfl) ?_)); refine q_index T k (by exact rfl) (by exact rfl) (by exact rfl) (by exact rfl) (by exact rfl) (by exact rfl) oc (by first | rfl | omega) hx (fun pd hpd => ?_)); ((refine QL.yes (by exact rfl) ?_; refine Zf T ?_)); (((refine QL.yes (by exact rfl) ?_)); refine q_load_at T (by exact rfl) (by exact rfl) (by exact rfl) hpd.GChange_when_ (by exact rfl) ?_); intro cs9 hcs9; obtain ⟨z1, z2, z3, rfl, hz⟩ := condL_open hcs9; (((refine QL.yes (by exact rfl) ?_)); refine q_callB (by exact rfl) (by exact rfl) (hold_here hv hp hxok.2.2 (tholds_q hg0 hs0 hz)) (fun f3 => ?_) (fun f3 => ?_)); (((refine QL.yes (by exact rfl) ?_; refine Zt ?_; refine QL.q ?_; refine Zu ?_; refine QL.q ?_; refine Za ?_; refine QL.done ?_; refine blkN ?_; refine thenN ?_; refine Wp.region ?_; refine Zq ?_; refine Zm ?_; refine Zq ?_; refine q_add (by exact rfl) (by exact rfl) (wrap_in (by omega)) ?_; refine Zq ?_; refine Za ?_; refine Seq.end_ ?_)); exact loopN ⟨k + 1, false, true, by omega, rfl, rfl, rfl, rfl, (men_next (b' := false) hx hmb (by simp [e1])), add_next (b' := true) hx hab (by simp [hadd, of_decide_eq_true f3, e2])⟩ (by omega) (by repeat (first | exact trivial | refine ⟨by exact rfl, ?_⟩)) (by repeat (first | exact List.Sublist.refl _ | exact List.nil_sublist _ | refine List.Sublist.cons_cons _ ?_ | refine List.Sublist.cons _ ?_))); (((refine QL.yes (by exact rfl) ?_; refine Zt ?_; refine QL.q ?_; refine Zu ?_; refine QL.q ?_; refine Za ?_; refine QL.done ?_; refine blkN ?_; refine thenN ?_; refine Wp.region ?_; refine Zq ?_; refine Zm ?_; refine Zq ?_; refine q_add (by exact rfl) (by exact rfl) (wrap_in (by omega)) ?_; refine Zq ?_; refine Za ?_; refine Seq.end_ ?_)); exact loopN ⟨k + 1, false, false, by omega, rfl, rfl, rfl, rfl, (men_next (b' := false) hx hmb (by simp [e1])), add_next (b' := false) hx hab (by simp [of_decide_eq_false f3])⟩ (by omega) (by repeat (first | exact trivial | refine ⟨by exact rfl, ?_⟩)) (by repeat (first | exact List.Sublist.refl _ | exact List.nil_sublist _ | refine List.Sublist.cons_cons _ ?_ | refine List.Sublist.cons _ ?_)))))))
        · rw [List.take_of_length_le (by omega)] at hmb hab
          have hmem := mem_truUpto (S := S) (l := o.changes) (n := g.atoms.length) (i := i) (by omega)
          have F1 : mb = false → decide ((i : Int) ∈ truUpto S o.changes g.atoms.length) = decide ((i : Int) ∈ S.tru) := fun h => by
            rw [hmb] at h
            have hno : ¬ MenP o.changes i := of_decide_eq_false h
            refine dec_same (hmem.trans ⟨fun hn => ?_, fun hn => .inr ⟨hn, fun ⟨c, h1, _, _, h2⟩ => hno ⟨c, h1, h2⟩⟩⟩)
            rcases hn with ⟨c, h1, _, _, h2⟩ | hn
            · exact absurd ⟨c, h1, h2⟩ hno
            · exact hn.1
          have F2 : ab = true → decide ((i : Int) ∈ truUpto S o.changes g.atoms.length) = true := fun h => by
            rw [hab] at h
            exact decide_eq_true (hmem.2 (.inl (of_decide_eq_true h)))
          ((refine Seq.done ?_; refine Zd ?_; refine Wp.exit ?_; refine thenX ?_; refine loopX ?_; refine blkX (by exact rfl) ?_; refine thenN ?_; refine Wp.seq ?_; refine Wp.region ?_; refine Zq ?_; refine Zf T ?_; refine Zq ?_; refine Zl T 1 ?_; refine Zq ?_; refine Zm ?_))
          (((refine Zq ?_)); refine q_call (by exact rfl) (by exact rfl) (in_q (m := (i : Int)) n1) ?_)
          generalize hib : decide ((i : Int) ∈ truUpto S o.changes g.atoms.length) = ib at F1 F2
          cases mb with
          | true =>
            cases ab with
            | true =>
              have := F2 rfl
              subst this
              ((refine Zq ?_; refine Za ?_; refine Seq.done ?_; refine Wp.seq ?_; refine Wp.region ?_; refine Zq ?_; refine Zm ?_; refine Zq ?_; refine q_not (by exact rfl) ?_; refine Zq ?_; refine Zm ?_; refine Zn ?_; refine Zn ?_; refine Zn ?_; refine Zn ?_; refine Zn ?_; refine Zn ?_; refine Zq ?_; refine Zu ?_; refine Zq ?_; refine Zm ?_; refine Zy ?_; refine Zm ?_; refine Zy ?_; refine Zm ?_; refine Zy ?_; refine Zm ?_; refine Zy ?_; refine q_not (by exact rfl) ?_; refine Zy ?_; refine Zt ?_; refine Zq ?_; refine Zu ?_; refine Seq.done ?_; refine Zd ?_; refine Wp.skip ?_; refine blkN ?_; refine thenN ?_; refine Wp.region ?_; refine Zq ?_; refine Zm ?_; refine Zq ?_; refine q_add (by exact rfl) (by exact rfl) (wrap_in (by omega)) ?_; refine Zq ?_; refine Za ?_; refine Seq.end_ ?_))
              exact loopN ⟨i + 1, by omega, rfl, rfl, rfl, rfl⟩ (by omega) (by repeat (first | exact trivial | refine ⟨by exact rfl, ?_⟩)) (by repeat (first | exact List.Sublist.refl _ | exact List.nil_sublist _ | refine List.Sublist.cons_cons _ ?_ | refine List.Sublist.cons _ ?_))
            | false =>
              ((refine Zq ?_; refine Za ?_; refine Seq.done ?_; refine Wp.seq ?_; refine Wp.region ?_; refine Zq ?_; refine Zm ?_; refine Zq ?_; refine q_not (by exact rfl) ?_; refine Zq ?_; refine Zm ?_; refine Zn ?_; refine Zn ?_; refine Zn ?_; refine Zn ?_; refine Zn ?_; refine Zn ?_; refine Zq ?_; refine Zu ?_; refine Zq ?_; refine Zm ?_; refine Zy ?_; refine Zm ?_; refine Zy ?_; refine Zm ?_; refine Zn ?_; refine Zn ?_; refine Zy ?_; refine Zu ?_; refine Zq ?_; refine Zu ?_; refine Seq.done ?_; refine Zd ?_; refine Wp.skip ?_; refine blkN ?_; refine thenN ?_; refine Wp.region ?_; refine Zq ?_; refine Zm ?_; refine Zq ?_; refine q_add (by exact rfl) (by exact rfl) (wrap_in (by omega)) ?_; refine Zq ?_; refine Za ?_; refine Seq.end_ ?_))
              exact loopN ⟨i + 1, by omega, rfl, rfl, rfl, rfl⟩ (by omega) (by repeat (first | exact trivial | refine ⟨by exact rfl, ?_⟩)) (by repeat (first | exact List.Sublist.refl _ | exact List.nil_sublist _ | refine List.Sublist.cons_cons _ ?_ | refine List.Sublist.cons _ ?_))
          | false =>
            have h1 := F1 rfl
            ((refine Zq ?_; refine Za ?_; refine Seq.done ?_; refine Wp.seq ?_; refine Wp.region ?_; refine Zq ?_; refine Zm ?_; refine Zq ?_; refine q_not (by exact rfl) ?_; refine Zq ?_; refine Zm ?_; refine Zy ?_; refine Zm ?_; refine Zy ?_; refine Zf T ?_; refine Zy ?_; refine Zl T 2 ?_; refine Zy ?_; refine Zm ?_))
            (((refine Zy ?_)); refine q_call (by exact rfl) (by exact rfl) (in_q (m := (i : Int)) st) ?_)
            ((refine Zy ?_)); refine q_neq_boolD T (by exact rfl) (by exact rfl) (by exact rfl) (by exact rfl) (fun h8 => ?_) (fun h8 => ?_)
            · exact absurd h1 h8
            cases ab with
            | true =>
              have := F2 rfl
              subst this
              ((refine Zq ?_; refine Zt ?_; refine Zq ?_; refine Zm ?_; refine Zy ?_; refine Zm ?_; refine Zy ?_; refine Zm ?_; refine Zy ?_; refine Zm ?_; refine Zy ?_; refine q_not (by exact rfl) ?_; refine Zy ?_; refine Zt ?_; refine Zq ?_; refine Zu ?_; refine Seq.done ?_; refine Zd ?_; refine Wp.skip ?_; refine blkN ?_; refine thenN ?_; refine Wp.region ?_; refine Zq ?_; refine Zm ?_; refine Zq ?_; refine q_add (by exact rfl) (by exact rfl) (wrap_in (by omega)) ?_; refine Zq ?_; refine Za ?_; refine Seq.end_ ?_))
              exact loopN ⟨i + 1, by omega, rfl, rfl, rfl, rfl⟩ (by omega) (by repeat (first | exact trivial | refine ⟨by exact rfl, ?_⟩)) (by repeat (first | exact List.Sublist.refl _ | exact List.nil_sublist _ | refine List.Sublist.cons_cons _ ?_ | refine List.Sublist.cons _ ?_))
            | false =>
              ((refine Zq ?_; refine Zt ?_; refine Zq ?_; refine Zm ?_; refine Zy ?_; refine Zm ?_; refine Zy ?_; refine Zm ?_; refine Zn ?_; refine Zn ?_; refine Zy ?_; refine Zu ?_; refine Zq ?_; refine Zu ?_; refine Seq.done ?_; refine Zd ?_; refine Wp.skip ?_; refine blkN ?_; refine thenN ?_; refine Wp.region ?_; refine Zq ?_; refine Zm ?_; refine Zq ?_; refine q_add (by exact rfl) (by exact rfl) (wrap_in (by omega)) ?_; refine Zq ?_; refine Za ?_; refine Seq.end_ ?_))
              exact loopN ⟨i + 1, by omega, rfl, rfl, rfl, rfl⟩ (by omega) (by repeat (first | exact trivial | refine ⟨by exact rfl, ?_⟩)) (by repeat (first | exact List.Sublist.refl _ | exact List.nil_sublist _ | refine List.Sublist.cons_cons _ ?_ | refine List.Sublist.cons _ ?_))
      · ((refine Seq.done ?_; refine Zd ?_; refine Wp.exit ?_; refine thenX ?_; refine loopX ?_; refine blkX (by exact rfl) ?_; refine thenN ?_; refine Wp.seq ?_; refine Wp.seq ?_; refine Wp.region ?_; refine Zq ?_; refine Za ?_; refine Seq.done ?_; refine Wp.block ?_))
        refine Wp.loop (fun q σ fz' H' => ∃ (i : Nat), i ≤ g.fluents.length ∧ q = g.fluents.length - i ∧ σ = [(15, .int .i64 i), (9, .pointer (some ⟨g9, 0, none⟩)), (7, .pointer (some ⟨g7, 0, none⟩)), (4, .pointer (some ⟨g1, 0, none⟩)), (3, .pointer (some ⟨g0, 0, none⟩))] ∧ fz2 = fz' ∧
            H' = [(g9, .cells #[.string o.name, .int .i64 o.cost, .slice P1 p1' o1, .slice P2 p2 o2, .slice P3 p3 o3, .slice P4 p4 o4, .slice P5 p5 o5] 46 (0, 0)), (g7, .cells #[.slice N1 r1 s1, .slice N2 r2 s2] 33 (0, 0)), ((g1, .cells #[.slice B1 m1 d1, .slice B2 m2 d2] 33 (0, 0))), ((g0, .cells #[.slice A1 g.atoms.length cap1, .slice A2 g.fluents.length cap2, .slice A3 n3 cap3, .slice A4 n4 cap4, .slice A5 n5 cap5] 28 (0, 0)))])
          ⟨0, Nat.zero_le _, rfl, rfl, rfl, rfl⟩ (by repeat (first | exact trivial | refine ⟨by exact rfl, ?_⟩)) (by repeat (first | exact List.Sublist.refl _ | exact List.nil_sublist _ | refine List.Sublist.cons_cons _ ?_ | refine List.Sublist.cons _ ?_)) ?_
        rintro q σ fz' H' ⟨i, hi, rfl, rfl, rfl, rfl⟩
        ((refine Wp.seq ?_; refine Wp.seq ?_; refine Wp.region ?_; refine Zq ?_; refine Zm ?_; refine Zq ?_; refine Zf T ?_; refine Zq ?_; refine Zl T 3 ?_; refine Zq ?_; refine Zs T ?_))
        (((refine Zq ?_)); (refine q_lssD (by exact rfl) (by exact rfl) (fun dd3 => ?_) (fun dd3 => ?_)))
        · ((refine Seq.done ?_; refine Zc ?_; refine Wp.skip ?_; refine thenN ?_; refine Wp.seq ?_; refine Wp.block ?_; refine Wp.seq ?_; refine Wp.region ?_; refine Zq ?_; refine Za ?_; refine Seq.done ?_; refine Wp.seq ?_; refine Wp.seq ?_; refine Wp.region ?_; refine Zq ?_; refine Za ?_; refine Seq.done ?_; refine Wp.block ?_))
          refine Wp.loop (fun q σ fz' H' => ∃ (k : Nat) (sb : Bool), k ≤ p5 ∧ q = p5 - k ∧ σ = [(17, .int .i64 k), (16, .bool sb), (15, .int .i64 i), (9, .pointer (some ⟨g9, 0, none⟩)), (7, .pointer (some ⟨g7, 0, none⟩)), (4, .pointer (some ⟨g1, 0, none⟩)), (3, .pointer (some ⟨g0, 0, none⟩))] ∧ fz2 = fz' ∧
              H' = [(g9, .cells #[.string o.name, .int .i64 o.cost, .slice P1 p1' o1, .slice P2 p2 o2, .slice P3 p3 o3, .slice P4 p4 o4, .slice P5 p5 o5] 46 (0, 0)), (g7, .cells #[.slice N1 r1 s1, .slice N2 r2 s2] 33 (0, 0)), ((g1, .cells #[.slice B1 m1 d1, .slice B2 m2 d2] 33 (0, 0))), ((g0, .cells #[.slice A1 g.atoms.length cap1, .slice A2 g.fluents.length cap2, .slice A3 n3 cap3, .slice A4 n4 cap4, .slice A5 n5 cap5] 28 (0, 0)))] ∧ sb = decide (AsgP (o.assigns.take k) i))
            ⟨0, _, Nat.zero_le _, rfl, rfl, rfl, rfl, (decide_eq_false (by simp [AsgP])).symm⟩ (by repeat (first | exact trivial | refine ⟨by exact rfl, ?_⟩)) (by repeat (first | exact List.Sublist.refl _ | exact List.nil_sublist _ | refine List.Sublist.cons_cons _ ?_ | refine List.Sublist.cons _ ?_)) ?_
          rintro q σ fz' H' ⟨k, sb, hk, rfl, rfl, rfl, rfl, hsb⟩
          ((refine Wp.seq ?_; refine Wp.seq ?_; refine Wp.region ?_; refine Zq ?_; refine Zm ?_; refine Zq ?_; refine Zf T ?_; refine Zq ?_; refine Zl T 0 ?_; refine Zq ?_; refine Zs T ?_))
          (((refine Zq ?_)); (refine q_lssD (by exact rfl) (by exact rfl) (fun dd4 => ?_) (fun dd4 => ?_)))
          · obtain ⟨x, hx⟩ := get_some (l := o.assigns) (k := k) (by omega)
            cases sb with
            | true =>
              ((refine Seq.done ?_; refine Zc ?_; refine Wp.skip ?_; refine thenN ?_; refine Wp.seq ?_; refine Wp.block ?_; refine Wp.region ?_; refine Zq ?_; refine Zm ?_; refine Zq ?_; refine Zm ?_; refine Zn ?_; refine Zn ?_; refine Zn ?_; refine Zn ?_; refine Zn ?_; refine Zn ?_; refine Zn ?_; refine Zn ?_; refine Zq ?_; refine Zt ?_; refine Zq ?_; refine Za ?_; refine Seq.end_ ?_; refine blkN ?_; refine thenN ?_; refine Wp.region ?_; refine Zq ?_; refine Zm ?_; refine Zq ?_; refine q_add (by exact rfl) (by exact rfl) (wrap_in (by omega)) ?_; refine Zq ?_; refine Za ?_; refine Seq.end_ ?_))
              exact loopN ⟨k + 1, true, by omega, rfl, rfl, rfl, rfl, asg_next hx hsb (by simp)⟩ (by omega) (by repeat (first | exact trivial | refine ⟨by exact rfl, ?_⟩)) (by repeat (first | exact List.Sublist.refl _ | exact List.nil_sublist _ | refine List.Sublist.cons_cons _ ?_ | refine List.Sublist.cons _ ?_))
            | false =>
              ((refine Seq.done ?_; refine Zc ?_; refine Wp.skip ?_; refine thenN ?_; refine Wp.seq ?_; refine Wp.block ?_; refine Wp.region ?_; refine Zq ?_; refine Zm ?_; refine Zq ?_; refine Zm ?_; refine Zy ?_; refine Zf T ?_; refine Zy ?_; refine Zl T 0 ?_; refine Zy ?_; refine Zm ?_))
              (((refine Zy ?_)); refine q_index T k (by exact rfl) (by exact rfl) (by exact rfl) (by exact rfl) (by exact rfl) (by exact rfl) oa (by first | rfl | omega) hx (fun pa hpa => ?_))
              ((refine Zy ?_; refine Zf T ?_))
              (((refine Zy ?_)); refine q_load_int T (by exact rfl) (by exact rfl) (by exact rfl) hpa.GAssign_fluent (fun ia => ?_))
              ((refine Zy ?_; refine Zm ?_))
              (((refine Zy ?_)); (refine q_eqlD (by exact rfl) (by exact rfl) (fun e1 => ?_) (fun e1 => ?_)))
              · ((refine Zq ?_; refine Zu ?_; refine Zq ?_; refine Za ?_; refine Seq.end_ ?_; refine blkN ?_; refine thenN ?_; refine Wp.region ?_; refine Zq ?_; refine Zm ?_; refine Zq ?_; refine q_add (by exact rfl) (by exact rfl) (wrap_in (by omega)) ?_; refine Zq ?_; refine Za ?_; refine Seq.end_ ?_))
                exact loopN ⟨k + 1, true, by omega, rfl, rfl, rfl, rfl, asg_next hx hsb (by simp [e1])⟩ (by omega) (by repeat (first | exact trivial | refine ⟨by exact rfl, ?_⟩)) (by repeat (first | exact List.Sublist.refl _ | exact List.nil_sublist _ | refine List.Sublist.cons_cons _ ?_ | refine List.Sublist.cons _ ?_))
              · ((refine Zq ?_; refine Zu ?_; refine Zq ?_; refine Za ?_; refine Seq.end_ ?_; refine blkN ?_; refine thenN ?_; refine Wp.region ?_; refine Zq ?_; refine Zm ?_; refine Zq ?_; refine q_add (by exact rfl) (by exact rfl) (wrap_in (by omega)) ?_; refine Zq ?_; refine Za ?_; refine Seq.end_ ?_))
                exact loopN ⟨k + 1, false, by omega, rfl, rfl, rfl, rfl, asg_next hx hsb (by simp [e1])⟩ (by omega) (by repeat (first | exact trivial | refine ⟨by exact rfl, ?_⟩)) (by repeat (first | exact List.Sublist.refl _ | exact List.nil_sublist _ | refine List.Sublist.cons_cons _ ?_ | refine List.Sublist.cons _ ?_))
          · rw [List.take_of_length_le (by omega)] at hsb
            cases sb with
            | true =>
              ((refine Seq.done ?_; refine Zd ?_; refine Wp.exit ?_; refine thenX ?_; refine loopX ?_; refine blkX (by exact rfl) ?_; refine thenN ?_; refine Wp.seq ?_; refine Wp.draw (by decide +kernel) T.mixed (by kernel_rfl) (by kernel_rfl) ?_; refine QL.q ?_; refine Zm ?_; refine QL.q ?_; refine q_not (by exact rfl) ?_; refine QL.q ?_; refine Zm ?_; refine QL.no (by exact rfl) ?_; refine QL.no (by exact rfl) ?_; refine QL.no (by exact rfl) ?_; refine QL.no (by exact rfl) ?_; refine QL.no (by exact rfl) ?_; refine QL.no (by exact rfl) ?_; refine QL.no (by exact rfl) ?_; refine QL.no (by exact rfl) ?_; refine QL.no (by exact rfl) ?_; refine QL.no (by exact rfl) ?_; refine QL.no (by exact rfl) ?_; refine QL.q ?_; refine Zu ?_; refine QL.done ?_; refine thenN ?_; refine Zd ?_; refine Wp.skip ?_; refine blkN ?_; refine thenN ?_; refine Wp.region ?_; refine Zq ?_; refine Zm ?_; refine Zq ?_; refine q_add (by exact rfl) (by exact rfl) (wrap_in (by omega)) ?_; refine Zq ?_; refine Za ?_; refine Seq.end_ ?_))
              exact loopN ⟨i + 1, by omega, rfl, rfl, rfl, rfl⟩ (by omega) (by repeat (first | exact trivial | refine ⟨by exact rfl, ?_⟩)) (by repeat (first | exact List.Sublist.refl _ | exact List.nil_sublist _ | refine List.Sublist.cons_cons _ ?_ | refine List.Sublist.cons _ ?_))
            | false =>
              have hno : ¬ AsgP o.assigns i := of_decide_eq_false hsb.symm
              have hsame := assignM_get (i := i) hasgs hno hasg
              obtain ⟨n, hn⟩ := get_some (l := S.values) (k := i) (by omega)
              have hn2 : vs[i]? = some n := by rw [hsame]; exact hn
              ((refine Seq.done ?_; refine Zd ?_; refine Wp.exit ?_; refine thenX ?_; refine loopX ?_; refine blkX (by exact rfl) ?_; refine thenN ?_; refine Wp.seq ?_; refine Wp.draw (by decide +kernel) T.mixed (by kernel_rfl) (by kernel_rfl) ?_; refine QL.q ?_; refine Zm ?_; refine QL.q ?_; refine q_not (by exact rfl) ?_; refine QL.q ?_; refine Zm ?_; refine QL.yes (by exact rfl) ?_; refine Zf T ?_; refine QL.yes (by exact rfl) ?_; refine Zl T 1 ?_; refine QL.yes (by exact rfl) ?_; refine Zm ?_))
              (((refine QL.yes (by exact rfl) ?_)); refine q_index T i (by exact rfl) (by exact rfl) (by exact rfl) (by exact rfl) (by exact rfl) (by exact rfl) n2 (by first | rfl | omega) hn2 (fun pe hpe => ?_))
              (((refine QL.yes (by exact rfl) ?_)); refine q_load_int T (by exact rfl) (by exact rfl) (by exact rfl) hpe (fun ie => ?_))
              ((refine QL.yes (by exact rfl) ?_; refine Zf T ?_; refine QL.yes (by exact rfl) ?_; refine Zl T 2 ?_; refine QL.yes (by exact rfl) ?_; refine Zm ?_))
              (((refine QL.yes (by exact rfl) ?_)); refine q_index T i (by exact rfl) (by exact rfl) (by exact rfl) (by exact rfl) (by exact rfl) (by exact rfl) sv (by first | rfl | omega) hn (fun pf hpf => ?_))
              (((refine QL.yes (by exact rfl) ?_)); refine q_load_int T (by exact rfl) (by exact rfl) (by exact rfl) hpf (fun if_ => ?_))
              (((refine QL.yes (by exact rfl) ?_)); (refine q_neqD (by exact rfl) (by exact rfl) (fun e1 => ?_) (fun e1 => ?_)))
              · exact absurd rfl e1
              · ((refine QL.q ?_; refine Zt ?_; refine QL.done ?_; refine thenN ?_; refine Zd ?_; refine Wp.skip ?_; refine blkN ?_; refine thenN ?_; refine Wp.region ?_; refine Zq ?_; refine Zm ?_; refine Zq ?_; refine q_add (by exact rfl) (by exact rfl) (wrap_in (by omega)) ?_; refine Zq ?_; refine Za ?_; refine Seq.end_ ?_))
                exact loopN ⟨i + 1, by omega, rfl, rfl, rfl, rfl⟩ (by omega) (by repeat (first | exact trivial | refine ⟨by exact rfl, ?_⟩)) (by repeat (first | exact List.Sublist.refl _ | exact List.nil_sublist _ | refine List.Sublist.cons_cons _ ?_ | refine List.Sublist.cons _ ?_))
        · ((refine Seq.done ?_; refine Zd ?_; refine Wp.exit ?_; refine thenX ?_; refine loopX ?_; refine blkX (by exact rfl) ?_; refine thenN ?_; refine Wp.seq ?_; refine Wp.region ?_; refine Zq ?_; refine Za ?_; refine Seq.done ?_; refine Wp.ret ?_))
          exact ret1 (H' := []) rfl rfl (List.nil_sublist _) rfl
    · have hN1 : (nextS g S op code vs).tru = [] := by simp [nextS, hc]
      have hN2 : (nextS g S op code vs).values = [] := by simp [nextS, hc]
      rw [hN1] at n1
      rw [hN2] at n2
      have e1 := n1.len
      have e2 := n2.len
      simp only [List.length_nil] at e1 e2
      subst e1 e2
      rw [errV_ne hc]
      ((refine Zq ?_; refine Zm ?_; refine Zq ?_; refine Ze ?_; refine Zq ?_; refine Ze ?_; refine Seq.stepK (by exact rfl) (k_alloc T (by exact rfl) (by exact rfl) (fun _ => ?_)); refine Seq.stepK0 (k_store0 T (by exact rfl) (by exact rfl) (by exact rfl) (by exact rfl) (by exact rfl) (by exact rfl) ?_); refine Zq ?_; refine Za ?_; refine Seq.done ?_; refine Wp.seq ?_; refine Wp.seq ?_; refine Wp.region ?_; refine Zq ?_; refine Zm ?_; refine Zq ?_; refine q_neq_some T (by exact rfl) (by exact rfl) (by exact rfl) (by exact rfl) ?_; refine Seq.done ?_; refine Zc ?_; refine Wp.seq ?_; refine Wp.region ?_; refine Zq ?_; refine Zf T ?_; refine Zq ?_; refine Zl T 0 ?_; refine Zq ?_; refine Zs T ?_; refine Zq ?_; refine Zf T ?_; refine Zq ?_; refine Zl T 0 ?_; refine Zq ?_; refine Zs T ?_; refine Zq ?_; refine q_add (by exact rfl) (by exact rfl) (wrap_in (by omega)) ?_))
      (((refine Zq ?_)); (refine q_eqlD (by exact rfl) (by exact rfl) (fun c3 => ?_) (fun c3 => ?_)))
      · ((refine Zq ?_; refine Za ?_; refine Seq.done ?_; refine Wp.ret ?_; refine thenR ?_))
        exact ret1 (H' := []) rfl rfl (List.nil_sublist _) rfl
      · exact absurd rfl c3
end Go.Proofs.YtegmololhnipiaaGreatDoor
