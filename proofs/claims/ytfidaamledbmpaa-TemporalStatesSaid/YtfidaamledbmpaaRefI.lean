/- The reference's States, and equality of lists of states. Conditions: the arguments read as data, the task is right. -/
import Derived.Test.YtfidaamledbmpaaRefH
import Derived.Test.YtfidaamledbmpaaWalkI
namespace Go.Proofs.Ytfidaamledbmpaa
open Go.Lx Go.RowKit
attribute [local instance 10] Classical.propDecidable

set_option maxHeartbeats 2000000 in
theorem rstates_f {fz : FZ} {t : Temporal} {A1 : Option Addr} {n1 c1 : Nat} {A2 : Option Addr} {n2 c2 : Nat} {A3 : Option Addr} {n3 c3 : Nat} {A4 : Option Addr} {n4 c4 : Nat} (ht : TempR fz t A1 n1 c1 A2 n2 c2 A3 n3 c3 A4 n4 c4) (hj : n4 ≤ 1000)
    {B : Option Addr} {m d : Nat} {ls : List Launch} (hl : Sl launchL fz B m d ls) (hcode : CheckR t 0) :
    GFn Try.prog 22 [.agg #[.slice A1 n1 c1, .slice A2 n2 c2, .slice A3 n3 c3, .slice A4 n4 c4], .slice B m d] fz []
      fun v fz' H' => H' = [] ∧ ∃ A k c, v = .tuple #[.slice A k c, .int .i64 (stsC 0 t ls)] ∧ Sl (slL intL) fz' A k c (stsL 0 t ls) := by
  (refine GFn.of_wp Try.func22 rfl Try.ntmps22 rfl rfl (fun w0 => ?_))
  have l1 := hl.len
  have bad : stsC 0 t ls ≠ 0 → stsL 0 t ls = [] := fun h => if_neg h
  refine Wp.seq (Wp.region (Seq.stepK (by exact rfl) (k_box _ (by exact rfl) (by exact rfl) (fun gt => ?_))))
  ((refine Seq.q (by exact rfl) ?_; refine q_assign (by exact rfl) ?_; refine Seq.q (by exact rfl) ?_; refine q_assign (by exact rfl) ?_; refine Seq.done ?_; refine Wp.seq ?_; refine Wp.seq ?_; refine Wp.region ?_; refine Seq.q (by exact rfl) ?_; refine q_load_own_all T 0 (by exact rfl) (by exact rfl) (by exact rfl) (by exact rfl) (by exact rfl) ?_; refine Seq.q (by exact rfl) ?_; refine q_move (by exact rfl) ?_))
  (((refine Seq.q (by exact rfl) ?_)); refine q_call (by exact rfl) (by exact rfl) (launches_q ht hl) ?_)
  ((refine Seq.q (by exact rfl) ?_; refine q_assign (by exact rfl) ?_; refine Seq.done ?_; refine Wp.seq ?_; refine Wp.region ?_; refine Seq.q (by exact rfl) ?_; refine q_move (by exact rfl) ?_))
  (((refine Seq.q (by exact rfl) ?_)); (refine q_neqD (by exact rfl) (by exact rfl) (fun h1 => ?_) (fun h1 => ?_)))
  · ((refine Seq.done ?_; refine Wp.cond_true (by exact rfl) ?_; refine Wp.seq ?_; refine Wp.region ?_; refine Seq.q (by exact rfl) ?_; refine q_move (by exact rfl) ?_; refine Seq.q (by exact rfl) ?_; refine q_assign (by exact rfl) ?_; refine Seq.q (by exact rfl) ?_; refine q_assign (by exact rfl) ?_; refine Seq.done ?_; refine Wp.ret ?_; refine thenR ?_))
    have hc : stsC 0 t ls = launchesM t ls := by unfold stsC; rw [if_neg (fun h => h rfl), if_pos h1]
    rw [bad (by rw [hc]; exact h1), hc]
    exact ret2 rfl rfl rfl (by repeat (first | exact List.Sublist.refl _ | exact List.nil_sublist _ | refine List.Sublist.cons_cons _ ?_ | refine List.Sublist.cons _ ?_)) ⟨rfl, none, 0, 0, rfl, Sl.nil (by omega)⟩
  have hG := good_of hcode
  obtain ⟨hlen, hok⟩ := launches_ok h1
  have l2 := ht.init.len
  have hv := hG.vars
  have hi := hG.init
  have hwr := hG.wr
  rw [l2] at hwr
  obtain ⟨K, hK⟩ := span_nat t ls
  ((refine Seq.done ?_; refine Wp.cond_false (by exact rfl) ?_; refine Wp.skip ?_; refine thenN ?_; refine Wp.seq ?_; refine Wp.seq ?_; refine Wp.region ?_; refine Seq.q (by exact rfl) ?_; refine q_load_own_all T 0 (by exact rfl) (by exact rfl) (by exact rfl) (by exact rfl) (by exact rfl) ?_; refine Seq.q (by exact rfl) ?_; refine q_move (by exact rfl) ?_))
  (((refine Seq.q (by exact rfl) ?_)); refine q_call (by exact rfl) (by exact rfl) (makespan_q ht hl hG.dur hok) ?_)
  rw [hK]
  (skip)
  (((refine Seq.q (by exact rfl) ?_)); (refine q_gtrD (by exact rfl) (by exact rfl) (fun h2 => ?_) (fun h2 => ?_)))
  · ((refine Seq.done ?_; refine Wp.cond_true (by exact rfl) ?_; refine Wp.seq ?_; refine Wp.region ?_; refine Seq.q (by exact rfl) ?_; refine q_assign (by exact rfl) ?_; refine Seq.q (by exact rfl) ?_; refine q_assign (by exact rfl) ?_; refine Seq.done ?_; refine Wp.ret ?_; refine thenR ?_))
    have hc : stsC 0 t ls = 5 := by unfold stsC; rw [if_neg (fun h => h rfl), if_neg (fun h => h h1), if_pos (by omega)]
    rw [bad (by rw [hc]; decide), hc]
    exact ret2 rfl rfl rfl (by repeat (first | exact List.Sublist.refl _ | exact List.nil_sublist _ | refine List.Sublist.cons_cons _ ?_ | refine List.Sublist.cons _ ?_)) ⟨rfl, none, 0, 0, rfl, Sl.nil (by omega)⟩
  have hc : stsC 0 t ls = 0 := by unfold stsC; rw [if_neg (fun h => h rfl), if_neg (fun h => h h1), if_neg (by omega)]
  have hL : stsL 0 t ls = stsM t ls (K + 1) := by unfold stsL; rw [if_pos hc, hK]; rfl
  rw [hc, hL]
  ((refine Seq.done ?_; refine Wp.cond_false (by exact rfl) ?_; refine Wp.skip ?_; refine thenN ?_; refine Wp.seq ?_; refine Wp.region ?_; refine Seq.q (by exact rfl) ?_; refine q_assign (by exact rfl) ?_; refine Seq.done ?_; refine Wp.seq ?_; refine Wp.region ?_; refine Seq.q (by exact rfl) ?_; refine q_fieldAddr T (by exact rfl) (by exact rfl) (by exact rfl) (by exact rfl) (by exact rfl) (by exact rfl) ?_; refine Seq.q (by exact rfl) ?_; refine q_load_own T 0 (by exact rfl) (by exact rfl) (by exact rfl) (by exact rfl) (by exact rfl) ?_; refine Seq.q (by exact rfl) ?_; refine q_assign (by exact rfl) ?_; refine Seq.done ?_; refine Wp.seq ?_; refine Wp.seq ?_; refine Wp.region ?_; refine Seq.q (by exact rfl) ?_; refine q_assign (by exact rfl) ?_; refine Seq.done ?_; refine Wp.block ?_))
  refine Wp.loop (fun q σ fz' H' => ∃ (i : Nat) (S : Option Addr) (cs : Nat) (v : Value) (vs : List Value) (Hs : HP), i ≤ K + 1 ∧ q = K + 1 - i ∧ σ = [(9, .int .i64 i), (8, .slice S n2 cs), (7, v), (1, .slice B m d), (2, .pointer (some ⟨gt, 0, none⟩))] ∧ Le fz fz' ∧
      H' = (gt, .cells #[.slice A1 n1 c1, .slice A2 n2 c2, .slice A3 n3 c3, .slice A4 n4 c4] 26 (0, 0)) :: Hs ∧ Sl intL fz' S n2 cs (stM t ls i) ∧ OwnS 22 1 v i vs Hs ∧ RepG intL fz' vs (stsM t ls i))
    ⟨0, _, _, _, _, _, Nat.zero_le _, rfl, rfl, Le.refl _, rfl, ht.init, OwnS.nil _ _, RepG.nil⟩ (by repeat (first | exact trivial | refine ⟨by exact rfl, ?_⟩)) (by repeat (first | exact List.Sublist.refl _ | exact List.nil_sublist _ | refine List.Sublist.cons_cons _ ?_ | refine List.Sublist.cons _ ?_)) ?_
  rintro q σ fz' H' ⟨i, S, cs, v, vs, Hs, hik, rfl, rfl, hle, rfl, hs, hO, hR⟩
  ((refine Wp.seq ?_; refine Wp.seq ?_; refine Wp.region ?_; refine Seq.q (by exact rfl) ?_; refine q_move (by exact rfl) ?_; refine Seq.q (by exact rfl) ?_; refine q_load_own_all T 0 (by exact rfl) (by exact rfl) (by exact rfl) (by exact rfl) (by exact rfl) ?_; refine Seq.q (by exact rfl) ?_; refine q_move (by exact rfl) ?_))
  (((refine Seq.q (by exact rfl) ?_)); refine q_call (by exact rfl) (by exact rfl) (makespan_q (ht.mono hle) (hl.mono hle) hG.dur hok) ?_)
  rw [hK]
  (skip)
  (((refine Seq.q (by exact rfl) ?_)); (refine q_leqD (by exact rfl) (by exact rfl) (fun hlt => ?_) (fun hge => ?_)))
  · ((refine Seq.done ?_; refine Wp.cond_true (by exact rfl) ?_; refine Wp.skip ?_; refine thenN ?_; refine Wp.seq ?_; refine Wp.block ?_; refine Wp.seq ?_; refine Wp.region ?_; refine Seq.q (by exact rfl) ?_; refine q_load_own_all T 0 (by exact rfl) (by exact rfl) (by exact rfl) (by exact rfl) (by exact rfl) ?_; refine Seq.q (by exact rfl) ?_; refine q_move (by exact rfl) ?_; refine Seq.q (by exact rfl) ?_; refine q_move (by exact rfl) ?_; refine Seq.q (by exact rfl) ?_; refine q_move (by exact rfl) ?_))
    refine Seq.stepK (by exact rfl) (k_call [] (_ :: Hs) (by exact rfl) (by exact rfl) (by exact rfl) (rafter_f (ht.mono hle) hj (hl.mono hle) (by omega) hG.dur hok (tick := i) hs (by omega) hwr) (fun v' fz3 Hs' hle3 hR' => ?_))
    obtain ⟨rfl, S', cs', rfl, hS'⟩ := hR'
    ((refine Seq.q (by exact rfl) ?_; refine q_assign (by exact rfl) ?_; refine Seq.done ?_; refine Wp.region ?_; refine Seq.q (by exact rfl) ?_; refine q_move (by exact rfl) ?_; refine Seq.q (by exact rfl) ?_; refine q_move (by exact rfl) ?_))
    (refine Seq.stepK (by exact rfl) (k_buildSlice T (cs := [_]) (by exact rfl) (by exact rfl) (by exact rfl) (by exact rfl) (by exact rfl) (by exact rfl) (by exact rfl) (by exact rfl) (fun gb => ?_)))
    refine Seq.stepK (by exact rfl) (k_append T (Hr := [_, _]) (by exact rfl) (by exact rfl) (by exact rfl) (by exact rfl) (by exact rfl) (by exact rfl) (by exact rfl) (List.Perm.refl _) hO rfl (src_own (.head _)) (by intro u hu; simp at hu; subst hu; rfl) (by show _ * 24 ≤ _; omega) (by omega) (fun v1 b1 hO1 => ?_))
    ((refine Seq.q (by exact rfl) ?_; refine q_assign (by exact rfl) ?_; refine Seq.end_ ?_; refine blkN ?_; refine thenN ?_; refine Wp.region ?_; refine Seq.q (by exact rfl) ?_; refine q_move (by exact rfl) ?_; refine Seq.q (by exact rfl) ?_; refine q_add (by exact rfl) (by exact rfl) (wrap_in (by omega)) ?_; refine Seq.q (by exact rfl) ?_; refine q_assign (by exact rfl) ?_; refine Seq.end_ ?_))
    refine loopN ⟨i + 1, S', cs', v1, _, b1, by omega, rfl, rfl, hle.trans hle3, rfl, hS', hO1, ?_⟩ (by omega) (by repeat (first | exact trivial | refine ⟨by exact rfl, ?_⟩)) (by repeat (first | exact List.Sublist.refl _ | exact List.nil_sublist _ | refine List.Sublist.cons_cons _ ?_ | refine List.Sublist.cons _ ?_))
    rw [sts_snoc]
    exact (hR.mono hle3).snoc hS'
  · ((refine Seq.done ?_; refine Wp.cond_false (by exact rfl) ?_; refine Wp.exit ?_; refine thenX ?_; refine loopX ?_; refine blkX (by exact rfl) ?_; refine thenN ?_; refine Wp.seq ?_; refine Wp.region ?_; refine Seq.q (by exact rfl) ?_; refine q_move (by exact rfl) ?_; refine Seq.q (by exact rfl) ?_; refine q_assign (by exact rfl) ?_; refine Seq.q (by exact rfl) ?_; refine q_assign (by exact rfl) ?_; refine Seq.done ?_; refine Wp.ret ?_))
    have hi : i = K + 1 := by omega
    subst hi
    refine ret2F rfl rfl rfl (fun fz3 hle3 hf => ?_)
    obtain ⟨A, c, rfl, g1, g2, g3⟩ := hO.row (fun p hp => hf p (.tail _ hp))
    exact ⟨rfl, A, _, c, rfl, (hR.mono hle3).sl g3 (by have := hO.1; simpa using this) g1 g2 (by omega)⟩

set_option maxHeartbeats 1000000 in
theorem same_q {fz : FZ} {A : Option Addr} {n c : Nat} {a : List (List Int)} (ha : Sl (slL intL) fz A n c a) {B : Option Addr} {m d : Nat} (hb : Sl (slL intL) fz B m d a) :
    QFn Try.prog 23 [.slice A n c, .slice B m d] fz (.bool true) := by
  refine GFn.quiet ?_
  (refine GFn.of_wp Try.func23 rfl Try.ntmps23 rfl rfl (fun w0 => ?_))
  have la := ha.len
  have lb := hb.len
  have sa := ha.short
  have sb := hb.short
  ((refine Wp.seq ?_; refine Wp.region ?_; refine Seq.q (by exact rfl) ?_; refine q_assign (by exact rfl) ?_; refine Seq.done ?_; refine Wp.seq ?_; refine Wp.seq ?_; refine Wp.region ?_; refine Seq.q (by exact rfl) ?_; refine q_move (by exact rfl) ?_; refine Seq.q (by exact rfl) ?_; refine q_len_slice T (by exact rfl) (by exact rfl) (by exact rfl) ?_; refine Seq.q (by exact rfl) ?_; refine q_move (by exact rfl) ?_; refine Seq.q (by exact rfl) ?_; refine q_len_slice T (by exact rfl) (by exact rfl) (by exact rfl) ?_))
  (((refine Seq.q (by exact rfl) ?_)); (refine q_neqD (by exact rfl) (by exact rfl) (fun h1 => ?_) (fun h1 => ?_)))
  · omega
  ((refine Seq.done ?_; refine Wp.cond_false (by exact rfl) ?_; refine Wp.skip ?_; refine thenN ?_; refine Wp.seq ?_; refine Wp.seq ?_; refine Wp.region ?_; refine Seq.q (by exact rfl) ?_; refine q_move (by exact rfl) ?_; refine Seq.q (by exact rfl) ?_; refine q_len_slice T (by exact rfl) (by exact rfl) (by exact rfl) ?_; refine Seq.q (by exact rfl) ?_; refine q_move (by exact rfl) ?_; refine Seq.done ?_; refine Wp.block ?_))
  (refine Wp.loop (fun q σ fz' H' => ∃ k : Nat, k ≤ n ∧ q = n - k ∧ σ = [(13, .int .i64 k), (12, .int .i64 n), (0, .slice A n c), (1, .slice B m d)] ∧ fz = fz' ∧ H' = [] ∧ True) ⟨0, Nat.zero_le _, rfl, rfl, rfl, rfl, trivial⟩ (by repeat (first | exact trivial | refine ⟨by exact rfl, ?_⟩)) (by repeat (first | exact List.Sublist.refl _ | exact List.nil_sublist _ | refine List.Sublist.cons_cons _ ?_ | refine List.Sublist.cons _ ?_)) ?_; rintro q σ fz' H' ⟨k, hk, rfl, rfl, rfl, rfl, hh⟩)
  ((refine Wp.seq ?_; refine Wp.region ?_))
  (((refine Seq.q (by exact rfl) ?_)); (refine q_lssD (by exact rfl) (by exact rfl) (fun hlt => ?_) (fun hge => ?_)))
  · ((refine Seq.done ?_; refine Wp.seq ?_; refine Wp.cond_true (by exact rfl) ?_; refine Wp.skip ?_; refine thenN ?_; refine Wp.seq ?_; refine Wp.block ?_; refine Wp.seq ?_; refine Wp.region ?_; refine Seq.q (by exact rfl) ?_; refine q_move (by exact rfl) ?_; refine Seq.q (by exact rfl) ?_; refine q_assign (by exact rfl) ?_; refine Seq.done ?_; refine Wp.seq ?_; refine Wp.draw (by decide +kernel) T.mixed (by kernel_rfl) (by kernel_rfl) ?_; refine QL.q ?_; refine q_move (by exact rfl) ?_; refine QL.q ?_; refine q_move (by exact rfl) ?_))
    obtain ⟨x, hx⟩ := get_some (l := a) (k := k) (by omega)
    (((refine QL.q ?_)); refine q_index T k (by exact rfl) (by exact rfl) (by exact rfl) (by exact rfl) (by exact rfl) (by exact rfl) ha (by first | rfl | omega) hx (fun p hp => ?_))
    (((refine QL.q ?_)); refine q_load_sl T (by exact rfl) (by exact rfl) (by exact rfl) hp (fun X n1 c1 hX => ?_))
    ((refine QL.q ?_; refine q_move (by exact rfl) ?_; refine QL.q ?_; refine q_move (by exact rfl) ?_))
    (((refine QL.q ?_)); refine q_index T k (by exact rfl) (by exact rfl) (by exact rfl) (by exact rfl) (by exact rfl) (by exact rfl) hb (by first | rfl | omega) hx (fun p2 hp2 => ?_))
    (((refine QL.q ?_)); refine q_load_sl T (by exact rfl) (by exact rfl) (by exact rfl) hp2 (fun Y n2 c2 hY => ?_))
    (skip)
    (((refine QL.q ?_)); refine q_call (by exact rfl) (by exact rfl) (ints_q hX hY) ?_)
    rw [decide_eq_true rfl]
    ((refine QL.q ?_; refine q_not (by exact rfl) ?_; refine QL.done ?_; refine thenN ?_; refine Wp.cond_false (by exact rfl) ?_; refine Wp.skip ?_; refine blkN ?_; refine thenN ?_; refine Wp.region ?_; refine Seq.q (by exact rfl) ?_; refine q_add (by exact rfl) (by exact rfl) (wrap_in (by omega)) ?_; refine Seq.q (by exact rfl) ?_; refine q_move (by exact rfl) ?_; refine Seq.end_ ?_))
    (exact loopN ⟨k + 1, by omega, rfl, rfl, rfl, rfl, trivial⟩ (by omega) (by repeat (first | exact trivial | refine ⟨by exact rfl, ?_⟩)) (by repeat (first | exact List.Sublist.refl _ | exact List.nil_sublist _ | refine List.Sublist.cons_cons _ ?_ | refine List.Sublist.cons _ ?_)))
  · ((refine Seq.done ?_; refine Wp.seq ?_; refine Wp.cond_false (by exact rfl) ?_; refine Wp.exit ?_; refine thenX ?_; refine loopX ?_; refine blkX (by exact rfl) ?_; refine thenN ?_; refine Wp.seq ?_; refine Wp.region ?_; refine Seq.q (by exact rfl) ?_; refine q_assign (by exact rfl) ?_; refine Seq.done ?_; refine Wp.ret ?_))
    (exact ret1 rfl rfl (by repeat (first | exact List.Sublist.refl _ | exact List.nil_sublist _ | refine List.Sublist.cons_cons _ ?_ | refine List.Sublist.cons _ ?_)) rfl)
end Go.Proofs.Ytfidaamledbmpaa
