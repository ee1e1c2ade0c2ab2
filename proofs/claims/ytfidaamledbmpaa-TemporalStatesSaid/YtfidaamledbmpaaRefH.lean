/- The reference's Validate and States. Conditions: the arguments read as data, the task is right. -/
import Derived.Test.YtfidaamledbmpaaRefG
namespace Go.Proofs.Ytfidaamledbmpaa
open Go.Lx Go.RowKit
attribute [local instance 10] Classical.propDecidable

set_option maxHeartbeats 2000000 in
theorem rvalidate_q {fz : FZ} {t : Temporal} {A1 : Option Addr} {n1 c1 : Nat} {A2 : Option Addr} {n2 c2 : Nat} {A3 : Option Addr} {n3 c3 : Nat} {A4 : Option Addr} {n4 c4 : Nat} (ht : TempR fz t A1 n1 c1 A2 n2 c2 A3 n3 c3 A4 n4 c4) (hj : n4 ≤ 1000)
    {B : Option Addr} {m d : Nat} {ls : List Launch} (hl : Sl launchL fz B m d ls) (hcode : CheckR t 0) {ticks : List Int} (hticks : launchesM t ls = 0 → TicksR t ls ticks) :
    QFn Try.prog 14 [.agg #[.slice A1 n1 c1, .slice A2 n2 c2, .slice A3 n3 c3, .slice A4 n4 c4], .slice B m d] fz (.tuple #[.int .i64 (validM 0 t ls ticks).1, .int .i64 (validM 0 t ls ticks).2]) := by
  refine GFn.quiet ?_
  (refine GFn.of_wp Try.func14 rfl Try.ntmps14 rfl rfl (fun w0 => ?_))
  have l1 := hl.len
  refine Wp.seq (Wp.region (Seq.stepK (by exact rfl) (k_box _ (by exact rfl) (by exact rfl) (fun gt => ?_))))
  ((refine Seq.q (by exact rfl) ?_; refine q_assign (by exact rfl) ?_; refine Seq.q (by exact rfl) ?_; refine q_assign (by exact rfl) ?_; refine Seq.done ?_; refine Wp.seq ?_; refine Wp.seq ?_; refine Wp.region ?_; refine Seq.q (by exact rfl) ?_; refine q_load_own_all T 0 (by exact rfl) (by exact rfl) (by exact rfl) (by exact rfl) (by exact rfl) ?_; refine Seq.q (by exact rfl) ?_; refine q_move (by exact rfl) ?_))
  (((refine Seq.q (by exact rfl) ?_)); refine q_call (by exact rfl) (by exact rfl) (launches_q ht hl) ?_)
  ((refine Seq.q (by exact rfl) ?_; refine q_assign (by exact rfl) ?_; refine Seq.done ?_; refine Wp.seq ?_; refine Wp.region ?_; refine Seq.q (by exact rfl) ?_; refine q_move (by exact rfl) ?_))
  (((refine Seq.q (by exact rfl) ?_)); (refine q_neqD (by exact rfl) (by exact rfl) (fun h1 => ?_) (fun h1 => ?_)))
  · ((refine Seq.done ?_; refine Wp.cond_true (by exact rfl) ?_; refine Wp.seq ?_; refine Wp.region ?_; refine Seq.q (by exact rfl) ?_; refine q_move (by exact rfl) ?_; refine Seq.q (by exact rfl) ?_; refine q_assign (by exact rfl) ?_; refine Seq.q (by exact rfl) ?_; refine q_assign (by exact rfl) ?_; refine Seq.done ?_; refine Wp.ret ?_; refine thenR ?_))
    have : validM 0 t ls ticks = (0, launchesM t ls) := by unfold validM; rw [if_neg (fun h => h rfl), if_pos h1]
    rw [this]
    exact ret2 rfl rfl rfl (by repeat (first | exact List.Sublist.refl _ | exact List.nil_sublist _ | refine List.Sublist.cons_cons _ ?_ | refine List.Sublist.cons _ ?_)) rfl
  have hG := good_of hcode
  obtain ⟨hlen, hok⟩ := launches_ok h1
  replace hticks := hticks h1
  have l2 := ht.init.len
  have hv := hG.vars
  have hi := hG.init
  have hwr := hG.wr
  rw [l2] at hwr
  ((refine Seq.done ?_; refine Wp.cond_false (by exact rfl) ?_; refine Wp.skip ?_; refine thenN ?_; refine Wp.seq ?_; refine Wp.region ?_; refine Seq.q (by exact rfl) ?_; refine q_fieldAddr T (by exact rfl) (by exact rfl) (by exact rfl) (by exact rfl) (by exact rfl) (by exact rfl) ?_; refine Seq.q (by exact rfl) ?_; refine q_load_own T 0 (by exact rfl) (by exact rfl) (by exact rfl) (by exact rfl) (by exact rfl) ?_; refine Seq.q (by exact rfl) ?_; refine q_assign (by exact rfl) ?_; refine Seq.done ?_; refine Wp.seq ?_; refine Wp.seq ?_; refine Wp.region ?_; refine Seq.q (by exact rfl) ?_; refine q_load_own_all T 0 (by exact rfl) (by exact rfl) (by exact rfl) (by exact rfl) (by exact rfl) ?_; refine Seq.q (by exact rfl) ?_; refine q_move (by exact rfl) ?_))
  refine Seq.stepK (by exact rfl) (k_call [] [_] (by exact rfl) (by exact rfl) (by exact rfl) (ticks_f ht hl (by omega) hG.dur hok) (fun v fz1 Hs hle1 hR => ?_))
  obtain ⟨rfl, A, k, c, tk, rfl, htk, hT⟩ := hR
  have : tk = ticks := ticks_unique hT hticks
  subst this
  have lt := htk.len
  have st := htk.short
  ((refine Seq.q (by exact rfl) ?_; refine q_len_slice T (by exact rfl) (by exact rfl) (by exact rfl) ?_; refine Seq.q (by exact rfl) ?_; refine q_move (by exact rfl) ?_; refine Seq.done ?_; refine Wp.block ?_))
  refine Wp.loop (fun q σ fz' H' => ∃ (i : Nat) (S : Option Addr) (cs : Nat) (s : List Int), i ≤ k ∧ q = k - i ∧ σ = [(24, .int .i64 i), (23, .int .i64 k), (22, .slice A k c), (7, .slice S n2 cs), (1, .slice B m d), (2, .pointer (some ⟨gt, 0, none⟩))] ∧ Le fz1 fz' ∧
      H' = [(gt, .cells #[.slice A1 n1 c1, .slice A2 n2 c2, .slice A3 n3 c3, .slice A4 n4 c4] 26 (0, 0))] ∧ Sl intL fz' S n2 cs s ∧ runM t ls tk t.init = runM t ls (tk.drop i) s)
    ⟨0, _, _, _, Nat.zero_le _, rfl, rfl, Le.refl _, rfl, ht.init.mono hle1, rfl⟩ (by repeat (first | exact trivial | refine ⟨by exact rfl, ?_⟩)) (by repeat (first | exact List.Sublist.refl _ | exact List.nil_sublist _ | refine List.Sublist.cons_cons _ ?_ | refine List.Sublist.cons _ ?_)) ?_
  rintro q σ fz' H' ⟨i, S, cs, s, hik, rfl, rfl, hle2, rfl, hs, hrun⟩
  have hle := hle1.trans hle2
  ((refine Wp.seq ?_; refine Wp.region ?_))
  (((refine Seq.q (by exact rfl) ?_)); (refine q_lssD (by exact rfl) (by exact rfl) (fun hlt => ?_) (fun hge => ?_)))
  · ((refine Seq.done ?_; refine Wp.seq ?_; refine Wp.cond_true (by exact rfl) ?_; refine Wp.skip ?_; refine thenN ?_; refine Wp.seq ?_; refine Wp.block ?_; refine Wp.seq ?_; refine Wp.region ?_))
    obtain ⟨x, hx⟩ := get_some (l := tk) (k := i) (by omega)
    (((refine Seq.q (by exact rfl) ?_)); refine q_index T i (by exact rfl) (by exact rfl) (by exact rfl) (by exact rfl) (by exact rfl) (by exact rfl) (htk.mono hle2) (by first | rfl | omega) hx (fun p hp => ?_))
    (((refine Seq.q (by exact rfl) ?_)); refine q_load_int T (by exact rfl) (by exact rfl) (by exact rfl) hp (fun hx64 => ?_))
    ((refine Seq.q (by exact rfl) ?_; refine q_assign (by exact rfl) ?_; refine Seq.done ?_; refine Wp.seq ?_; refine Wp.region ?_; refine Seq.q (by exact rfl) ?_; refine q_load_own_all T 0 (by exact rfl) (by exact rfl) (by exact rfl) (by exact rfl) (by exact rfl) ?_; refine Seq.q (by exact rfl) ?_; refine q_move (by exact rfl) ?_; refine Seq.q (by exact rfl) ?_; refine q_move (by exact rfl) ?_; refine Seq.q (by exact rfl) ?_; refine q_move (by exact rfl) ?_))
    refine Seq.stepK (by exact rfl) (k_call [] [_] (by exact rfl) (by exact rfl) (by exact rfl) (rafter_f (ht.mono hle) hj (hl.mono hle) (by omega) hG.dur hok (tick := x) hs (by omega) hwr) (fun v fz3 Hs hle3 hR => ?_))
    obtain ⟨rfl, S', cs', rfl, hS'⟩ := hR
    ((refine Seq.q (by exact rfl) ?_; refine q_assign (by exact rfl) ?_; refine Seq.done ?_; refine Wp.seq ?_; refine Wp.seq ?_; refine Wp.region ?_; refine Seq.q (by exact rfl) ?_; refine q_load_own_all T 0 (by exact rfl) (by exact rfl) (by exact rfl) (by exact rfl) (by exact rfl) ?_; refine Seq.q (by exact rfl) ?_; refine q_move (by exact rfl) ?_; refine Seq.q (by exact rfl) ?_; refine q_move (by exact rfl) ?_; refine Seq.q (by exact rfl) ?_; refine q_move (by exact rfl) ?_; refine Seq.q (by exact rfl) ?_; refine q_move (by exact rfl) ?_))
    rw [drop_get hx] at hrun
    (((refine Seq.q (by exact rfl) ?_)); refine q_call (by exact rfl) (by exact rfl) (rtick_q ((ht.mono hle).mono hle3) hj ((hl.mono hle).mono hle3) (by omega) hG.dur hok (tick := x) (hs.mono hle3) hS') ?_)
    ((refine Seq.q (by exact rfl) ?_; refine q_assign (by exact rfl) ?_; refine Seq.done ?_; refine Wp.seq ?_; refine Wp.region ?_; refine Seq.q (by exact rfl) ?_; refine q_move (by exact rfl) ?_))
    (((refine Seq.q (by exact rfl) ?_)); (refine q_neqD (by exact rfl) (by exact rfl) (fun h2 => ?_) (fun h2 => ?_)))
    · ((refine Seq.done ?_; refine Wp.cond_true (by exact rfl) ?_; refine Wp.seq ?_; refine Wp.region ?_; refine Seq.q (by exact rfl) ?_; refine q_move (by exact rfl) ?_; refine Seq.q (by exact rfl) ?_; refine q_assign (by exact rfl) ?_; refine Seq.q (by exact rfl) ?_; refine q_assign (by exact rfl) ?_; refine Seq.done ?_; refine Wp.ret ?_; refine thenR ?_; refine blkR ?_; refine thenR ?_; refine loopR ?_; refine blkR ?_; refine thenR ?_))
      rw [runM, if_neg h2] at hrun
      have : validM 0 t ls tk = (0, tickM t ls x s (hapsM t ls x) (afterM t s (hapsM t ls x))) := by
        unfold validM
        rw [if_neg (fun h => h rfl), if_neg (fun h => h h1), hrun, if_pos h2]
      rw [this]
      exact ret2 rfl rfl rfl (by repeat (first | exact List.Sublist.refl _ | exact List.nil_sublist _ | refine List.Sublist.cons_cons _ ?_ | refine List.Sublist.cons _ ?_)) rfl
    · ((refine Seq.done ?_; refine Wp.cond_false (by exact rfl) ?_; refine Wp.skip ?_; refine thenN ?_; refine Wp.region ?_; refine Seq.q (by exact rfl) ?_; refine q_move (by exact rfl) ?_; refine Seq.q (by exact rfl) ?_; refine q_assign (by exact rfl) ?_; refine Seq.end_ ?_; refine blkN ?_; refine thenN ?_; refine Wp.region ?_; refine Seq.q (by exact rfl) ?_; refine q_add (by exact rfl) (by exact rfl) (wrap_in (by omega)) ?_; refine Seq.q (by exact rfl) ?_; refine q_move (by exact rfl) ?_; refine Seq.end_ ?_))
      refine loopN ⟨i + 1, S', cs', _, by omega, rfl, rfl, hle2.trans hle3, rfl, hS', ?_⟩ (by omega) (by repeat (first | exact trivial | refine ⟨by exact rfl, ?_⟩)) (by repeat (first | exact List.Sublist.refl _ | exact List.nil_sublist _ | refine List.Sublist.cons_cons _ ?_ | refine List.Sublist.cons _ ?_))
      rw [hrun, runM, if_pos h2]
  · ((refine Seq.done ?_; refine Wp.seq ?_; refine Wp.cond_false (by exact rfl) ?_; refine Wp.exit ?_; refine thenX ?_; refine loopX ?_; refine blkX (by exact rfl) ?_; refine thenN ?_; refine Wp.seq ?_; refine Wp.seq ?_; refine Wp.region ?_; refine Seq.q (by exact rfl) ?_; refine q_fieldAddr T (by exact rfl) (by exact rfl) (by exact rfl) (by exact rfl) (by exact rfl) (by exact rfl) ?_; refine Seq.q (by exact rfl) ?_; refine q_load_own T 0 (by exact rfl) (by exact rfl) (by exact rfl) (by exact rfl) (by exact rfl) ?_; refine Seq.q (by exact rfl) ?_; refine q_move (by exact rfl) ?_))
    rw [List.drop_eq_nil_of_le (by omega)] at hrun
    (((refine Seq.q (by exact rfl) ?_)); refine q_callB (by exact rfl) (by exact rfl) (holds_q (ht.goal.mono hle) hs) (fun h2 => ?_) (fun h2 => ?_))
    · replace h2 := of_decide_eq_true h2
      ((refine Seq.q (by exact rfl) ?_; refine q_not (by exact rfl) ?_; refine Seq.done ?_; refine Wp.cond_false (by exact rfl) ?_; refine Wp.skip ?_; refine thenN ?_; refine Wp.seq ?_; refine Wp.region ?_; refine Seq.q (by exact rfl) ?_; refine q_load_own_all T 0 (by exact rfl) (by exact rfl) (by exact rfl) (by exact rfl) (by exact rfl) ?_; refine Seq.q (by exact rfl) ?_; refine q_move (by exact rfl) ?_))
      (((refine Seq.q (by exact rfl) ?_)); refine q_call (by exact rfl) (by exact rfl) (makespan_q (ht.mono hle) (hl.mono hle) hG.dur hok) ?_)
      ((refine Seq.q (by exact rfl) ?_; refine q_assign (by exact rfl) ?_; refine Seq.q (by exact rfl) ?_; refine q_assign (by exact rfl) ?_; refine Seq.done ?_; refine Wp.ret ?_))
      have : validM 0 t ls tk = (spanM t ls, 0) := by
        unfold validM
        rw [if_neg (fun h => h rfl), if_neg (fun h => h h1), hrun]
        simp only [runM]
        simp [h2]
      rw [this]
      exact ret2 rfl rfl rfl (by repeat (first | exact List.Sublist.refl _ | exact List.nil_sublist _ | refine List.Sublist.cons_cons _ ?_ | refine List.Sublist.cons _ ?_)) rfl
    · replace h2 := of_decide_eq_false h2
      ((refine Seq.q (by exact rfl) ?_; refine q_not (by exact rfl) ?_; refine Seq.done ?_; refine Wp.cond_true (by exact rfl) ?_; refine Wp.seq ?_; refine Wp.region ?_; refine Seq.q (by exact rfl) ?_; refine q_assign (by exact rfl) ?_; refine Seq.q (by exact rfl) ?_; refine q_assign (by exact rfl) ?_; refine Seq.done ?_; refine Wp.ret ?_; refine thenR ?_))
      have : validM 0 t ls tk = (0, 13) := by
        unfold validM
        rw [if_neg (fun h => h rfl), if_neg (fun h => h h1), hrun]
        simp only [runM]
        simp [h2]
      rw [this]
      exact ret2 rfl rfl rfl (by repeat (first | exact List.Sublist.refl _ | exact List.nil_sublist _ | refine List.Sublist.cons_cons _ ?_ | refine List.Sublist.cons _ ?_)) rfl
end Go.Proofs.Ytfidaamledbmpaa
