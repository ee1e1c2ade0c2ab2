/- TemporalStates, walked: it returns true, whatever the task and the launches. Conditions: the arguments read as data. -/
import Derived.Test.YtfidaamledbmpaaWalkL
import Derived.Test.YtfidaamledbmpaaRefI
namespace Go.Proofs.Ytfidaamledbmpaa
open Go.Lx Go.RowKit
attribute [local instance 10] Classical.propDecidable

set_option maxHeartbeats 1000000 in
theorem states_q {fz : FZ} {t : Temporal} {A1 : Option Addr} {n1 c1 : Nat} {A2 : Option Addr} {n2 c2 : Nat} {A3 : Option Addr} {n3 c3 : Nat} {A4 : Option Addr} {n4 c4 : Nat} (ht : TempR fz t A1 n1 c1 A2 n2 c2 A3 n3 c3 A4 n4 c4) {B : Option Addr} {m d : Nat} {ls : List Launch} (hl : Sl launchL fz B m d ls) :
    QFn Try.prog 7 [.agg #[.slice A1 n1 c1, .slice A2 n2 c2, .slice A3 n3 c3, .slice A4 n4 c4], .slice B m d] fz (.bool true) := by
  refine GFn.quiet ?_
  (refine GFn.of_wp Try.func7 rfl Try.ntmps7 rfl rfl (fun w0 => ?_))
  have l4 := ht.jobs.len
  have lm := hl.len
  have sm := hl.short
  obtain ⟨code, hcode⟩ := check_total t
  refine Wp.seq (Wp.region (Seq.stepK (by exact rfl) (k_box _ (by exact rfl) (by exact rfl) (fun gt => ?_))))
  ((refine Seq.q (by exact rfl) ?_; refine q_assign (by exact rfl) ?_; refine Seq.done ?_; refine Wp.seq ?_; refine Wp.seq ?_; refine Wp.region ?_))
  (((refine Seq.q (by exact rfl) ?_)); refine q_call (by exact rfl) (by exact rfl) awake_q ?_)
  ((refine Seq.q (by exact rfl) ?_; refine q_not (by exact rfl) ?_; refine Seq.q (by exact rfl) ?_; refine q_move (by exact rfl) ?_; refine Seq.guard_yes (by exact rfl) (by exact rfl) (by exact rfl) ?_; refine q_load_own_all T 0 (by exact rfl) (by exact rfl) (by exact rfl) (by exact rfl) (by exact rfl) ?_; refine Seq.guard_yes (by exact rfl) (by exact rfl) (by exact rfl) ?_; refine q_move (by exact rfl) ?_))
  (((refine Seq.guard_yes (by exact rfl) (by exact rfl) (by exact rfl) ?_)); refine q_callB (by exact rfl) (by exact rfl) (few_q ht) (fun q1 => ?_) (fun q1 => ?_))
  · replace q1 := of_decide_eq_true q1
    have h4 : n4 ≤ 1000 := by have := q1.2.1; omega
    ((refine Seq.guard_yes (by exact rfl) (by exact rfl) (by exact rfl) ?_; refine q_not (by exact rfl) ?_; refine Seq.q (by exact rfl) ?_; refine q_pick_false (by exact rfl) (by exact rfl) ?_; refine Seq.q (by exact rfl) ?_; refine q_move (by exact rfl) ?_; refine Seq.guard_yes (by exact rfl) (by exact rfl) (by exact rfl) ?_; refine q_load_own_all T 0 (by exact rfl) (by exact rfl) (by exact rfl) (by exact rfl) (by exact rfl) ?_))
    (((refine Seq.guard_yes (by exact rfl) (by exact rfl) (by exact rfl) ?_)); refine q_call (by exact rfl) (by exact rfl) (check_q ht h4 hcode) ?_)
    (skip)
    (((refine Seq.guard_yes (by exact rfl) (by exact rfl) (by exact rfl) ?_)); (refine q_neqD (by exact rfl) (by exact rfl) (fun q2 => ?_) (fun q2 => ?_)))
    · ((refine Seq.q (by exact rfl) ?_; refine q_pick_false (by exact rfl) (by exact rfl) ?_; refine Seq.done ?_; refine Wp.cond_true (by exact rfl) ?_; refine Wp.seq ?_; refine Wp.region ?_))
      (((refine Seq.q (by exact rfl) ?_)); refine q_call (by exact rfl) (by exact rfl) awake_q ?_)
      ((refine Seq.q (by exact rfl) ?_; refine q_assign (by exact rfl) ?_; refine Seq.done ?_; refine Wp.ret ?_; refine thenR ?_))
      (exact ret1 rfl rfl (by repeat (first | exact List.Sublist.refl _ | exact List.nil_sublist _ | refine List.Sublist.cons_cons _ ?_ | refine List.Sublist.cons _ ?_)) rfl)
    · subst q2
      ((refine Seq.q (by exact rfl) ?_; refine q_pick_false (by exact rfl) (by exact rfl) ?_; refine Seq.done ?_; refine Wp.cond_false (by exact rfl) ?_; refine Wp.skip ?_; refine thenN ?_; refine Wp.seq ?_; refine Wp.seq ?_; refine Wp.region ?_; refine Seq.q (by exact rfl) ?_; refine q_move (by exact rfl) ?_; refine Seq.q (by exact rfl) ?_; refine q_len_slice T (by exact rfl) (by exact rfl) (by exact rfl) ?_; refine Seq.q (by exact rfl) ?_; refine q_move (by exact rfl) ?_; refine Seq.done ?_; refine Wp.block ?_))
      (refine Wp.loop (fun q σ fz' H' => ∃ k : Nat, k ≤ m ∧ q = m - k ∧ σ = [(27, .int .i64 k), (26, .int .i64 m), (25, .slice B m d), (1, .slice B m d), (2, .pointer (some ⟨gt, 0, none⟩))] ∧ fz = fz' ∧ H' = [(gt, .cells #[.slice A1 n1 c1, .slice A2 n2 c2, .slice A3 n3 c3, .slice A4 n4 c4] 26 (0, 0))] ∧ True) ⟨0, Nat.zero_le _, rfl, rfl, rfl, rfl, trivial⟩ (by repeat (first | exact trivial | refine ⟨by exact rfl, ?_⟩)) (by repeat (first | exact List.Sublist.refl _ | exact List.nil_sublist _ | refine List.Sublist.cons_cons _ ?_ | refine List.Sublist.cons _ ?_)) ?_; rintro q σ fz' H' ⟨k, hk, rfl, rfl, rfl, rfl, hh⟩)
      ((refine Wp.seq ?_; refine Wp.region ?_))
      (((refine Seq.q (by exact rfl) ?_)); (refine q_lssD (by exact rfl) (by exact rfl) (fun hlt => ?_) (fun hge => ?_)))
      · ((refine Seq.done ?_; refine Wp.seq ?_; refine Wp.cond_true (by exact rfl) ?_; refine Wp.skip ?_; refine thenN ?_; refine Wp.seq ?_; refine Wp.block ?_; refine Wp.seq ?_; refine Wp.region ?_))
        obtain ⟨x, hx⟩ := get_some (l := ls) (k := k) (by omega)
        (((refine Seq.q (by exact rfl) ?_)); refine q_index T k (by exact rfl) (by exact rfl) (by exact rfl) (by exact rfl) (by exact rfl) (by exact rfl) hl (by first | rfl | omega) hx (fun p hp => ?_))
        (((refine Seq.q (by exact rfl) ?_)); refine q_load_at T (by exact rfl) (by exact rfl) (by exact rfl) hp (by exact rfl) ?_)
        rintro _ ⟨rfl, i1, i2⟩
        refine Seq.stepK (by exact rfl) (k_alloc T (by exact rfl) (by exact rfl) (fun g => ?_))
        ((refine Seq.stepK0 (k_store0 T (by exact rfl) (by exact rfl) (by exact rfl) (by exact rfl) (by exact rfl) (by exact rfl) ?_); refine Seq.done ?_; refine Wp.seq ?_; refine Wp.region ?_; refine Seq.q (by exact rfl) ?_; refine q_fieldAddr T (by exact rfl) (by exact rfl) (by exact rfl) (by exact rfl) (by exact rfl) (by exact rfl) ?_; refine Seq.q (by exact rfl) ?_; refine q_load_own T 0 (by exact rfl) (by exact rfl) (by exact rfl) (by exact rfl) (by exact rfl) ?_))
        (((refine Seq.q (by exact rfl) ?_)); (refine q_gtrD (by exact rfl) (by exact rfl) (fun q3 => ?_) (fun q3 => ?_)))
        · ((refine Seq.q (by exact rfl) ?_; refine q_move (by exact rfl) ?_; refine Seq.guard_yes (by exact rfl) (by exact rfl) (by exact rfl) ?_; refine q_fieldAddr T (by exact rfl) (by exact rfl) (by exact rfl) (by exact rfl) (by exact rfl) (by exact rfl) ?_; refine Seq.guard_yes (by exact rfl) (by exact rfl) (by exact rfl) ?_; refine q_load_own T 0 (by exact rfl) (by exact rfl) (by exact rfl) (by exact rfl) (by exact rfl) ?_))
          (((refine Seq.guard_yes (by exact rfl) (by exact rfl) (by exact rfl) ?_)); (refine q_leqD (by exact rfl) (by exact rfl) (fun q4 => ?_) (fun q4 => ?_)))
          · ((refine Seq.q (by exact rfl) ?_; refine q_pick_true (by exact rfl) (by exact rfl) ?_; refine Seq.done ?_; refine Wp.cond_true (by exact rfl) ?_; refine Wp.seq ?_; refine Wp.region ?_; refine Seq.q (by exact rfl) ?_; refine q_assign (by exact rfl) ?_; refine Seq.done ?_; refine Wp.ret ?_; refine blkR ?_; refine thenR ?_; refine loopR ?_; refine blkR ?_; refine thenR ?_))
            (exact ret1 rfl rfl (by repeat (first | exact List.Sublist.refl _ | exact List.nil_sublist _ | refine List.Sublist.cons_cons _ ?_ | refine List.Sublist.cons _ ?_)) rfl)
          · ((refine Seq.q (by exact rfl) ?_; refine q_pick_true (by exact rfl) (by exact rfl) ?_; refine Seq.done ?_; refine Wp.cond_false (by exact rfl) ?_; refine Wp.skip ?_; refine blkN ?_; refine thenN ?_; refine Wp.region ?_; refine Seq.q (by exact rfl) ?_; refine q_add (by exact rfl) (by exact rfl) (wrap_in (by omega)) ?_; refine Seq.q (by exact rfl) ?_; refine q_move (by exact rfl) ?_; refine Seq.end_ ?_))
            (exact loopN ⟨k + 1, by omega, rfl, rfl, rfl, rfl, trivial⟩ (by omega) (by repeat (first | exact trivial | refine ⟨by exact rfl, ?_⟩)) (by repeat (first | exact List.Sublist.refl _ | exact List.nil_sublist _ | refine List.Sublist.cons_cons _ ?_ | refine List.Sublist.cons _ ?_)))
        · ((refine Seq.q (by exact rfl) ?_; refine q_move (by exact rfl) ?_; refine Seq.guard_no (by exact rfl) (by exact rfl) (by exact rfl) (by exact rfl) ?_; refine Seq.guard_no (by exact rfl) (by exact rfl) (by exact rfl) (by exact rfl) ?_; refine Seq.guard_no (by exact rfl) (by exact rfl) (by exact rfl) (by exact rfl) ?_; refine Seq.q (by exact rfl) ?_; refine q_pick_false (by exact rfl) (by exact rfl) ?_; refine Seq.done ?_; refine Wp.cond_false (by exact rfl) ?_; refine Wp.skip ?_; refine blkN ?_; refine thenN ?_; refine Wp.region ?_; refine Seq.q (by exact rfl) ?_; refine q_add (by exact rfl) (by exact rfl) (wrap_in (by omega)) ?_; refine Seq.q (by exact rfl) ?_; refine q_move (by exact rfl) ?_; refine Seq.end_ ?_))
          (exact loopN ⟨k + 1, by omega, rfl, rfl, rfl, rfl, trivial⟩ (by omega) (by repeat (first | exact trivial | refine ⟨by exact rfl, ?_⟩)) (by repeat (first | exact List.Sublist.refl _ | exact List.nil_sublist _ | refine List.Sublist.cons_cons _ ?_ | refine List.Sublist.cons _ ?_)))
      · ((refine Seq.done ?_; refine Wp.seq ?_; refine Wp.cond_false (by exact rfl) ?_; refine Wp.exit ?_; refine thenX ?_; refine loopX ?_; refine blkX (by exact rfl) ?_; refine thenN ?_; refine Wp.seq ?_; refine Wp.region ?_; refine Seq.q (by exact rfl) ?_; refine q_load_own_all T 0 (by exact rfl) (by exact rfl) (by exact rfl) (by exact rfl) (by exact rfl) ?_; refine Seq.q (by exact rfl) ?_; refine q_move (by exact rfl) ?_))
        refine Seq.stepK (by exact rfl) (k_call [] [_] (by exact rfl) (by exact rfl) (by exact rfl) (tstates_f ht h4 hl hcode) (fun v fz1 Hs hle1 hR => ?_))
        obtain ⟨rfl, A, k1, e1, rfl, hsl⟩ := hR
        ((refine Seq.q (by exact rfl) ?_; refine q_move (by exact rfl) ?_; refine Seq.q (by exact rfl) ?_; refine q_extract (by exact rfl) (by exact rfl) ?_; refine Seq.q (by exact rfl) ?_; refine q_extract (by exact rfl) (by exact rfl) ?_; refine Seq.q (by exact rfl) ?_; refine q_assign (by exact rfl) ?_; refine Seq.q (by exact rfl) ?_; refine q_assign (by exact rfl) ?_; refine Seq.done ?_; refine Wp.seq ?_; refine Wp.region ?_; refine Seq.q (by exact rfl) ?_; refine q_load_own_all T 0 (by exact rfl) (by exact rfl) (by exact rfl) (by exact rfl) (by exact rfl) ?_; refine Seq.q (by exact rfl) ?_; refine q_move (by exact rfl) ?_))
        refine Seq.stepK (by exact rfl) (k_call [] [_] (by exact rfl) (by exact rfl) (by exact rfl) (rstates_f (ht.mono hle1) h4 (hl.mono hle1) hcode) (fun v fz2 Hs hle2 hR => ?_))
        obtain ⟨rfl, A', k2, e2, rfl, hsl'⟩ := hR
        ((refine Seq.q (by exact rfl) ?_; refine q_move (by exact rfl) ?_; refine Seq.q (by exact rfl) ?_; refine q_extract (by exact rfl) (by exact rfl) ?_; refine Seq.q (by exact rfl) ?_; refine q_extract (by exact rfl) (by exact rfl) ?_; refine Seq.q (by exact rfl) ?_; refine q_assign (by exact rfl) ?_; refine Seq.q (by exact rfl) ?_; refine q_assign (by exact rfl) ?_; refine Seq.done ?_; refine Wp.seq ?_; refine Wp.region ?_; refine Seq.q (by exact rfl) ?_; refine q_move (by exact rfl) ?_; refine Seq.q (by exact rfl) ?_; refine q_move (by exact rfl) ?_))
        (((refine Seq.q (by exact rfl) ?_)); refine q_call (by exact rfl) (by exact rfl) (same_q (hsl.mono hle2) hsl') ?_)
        ((refine Seq.q (by exact rfl) ?_; refine q_move (by exact rfl) ?_; refine Seq.guard_yes (by exact rfl) (by exact rfl) (by exact rfl) ?_; refine q_move (by exact rfl) ?_))
        (((refine Seq.guard_yes (by exact rfl) (by exact rfl) (by exact rfl) ?_)); refine q_call (by exact rfl) (by exact rfl) num_q ?_)
        ((refine Seq.guard_yes (by exact rfl) (by exact rfl) (by exact rfl) ?_; refine q_move (by exact rfl) ?_))
        (((refine Seq.guard_yes (by exact rfl) (by exact rfl) (by exact rfl) ?_)); (refine q_eqlD (by exact rfl) (by exact rfl) (fun q5 => ?_) (fun q5 => ?_)))
        · ((refine Seq.q (by exact rfl) ?_; refine q_pick_true (by exact rfl) (by exact rfl) ?_; refine Seq.q (by exact rfl) ?_; refine q_assign (by exact rfl) ?_; refine Seq.done ?_; refine Wp.ret ?_))
          (exact ret1 rfl rfl (by repeat (first | exact List.Sublist.refl _ | exact List.nil_sublist _ | refine List.Sublist.cons_cons _ ?_ | refine List.Sublist.cons _ ?_)) rfl)
        · exact absurd rfl q5
  · ((refine Seq.guard_yes (by exact rfl) (by exact rfl) (by exact rfl) ?_; refine q_not (by exact rfl) ?_; refine Seq.q (by exact rfl) ?_; refine q_pick_false (by exact rfl) (by exact rfl) ?_; refine Seq.q (by exact rfl) ?_; refine q_move (by exact rfl) ?_; refine Seq.guard_no (by exact rfl) (by exact rfl) (by exact rfl) (by exact rfl) ?_; refine Seq.guard_no (by exact rfl) (by exact rfl) (by exact rfl) (by exact rfl) ?_; refine Seq.guard_no (by exact rfl) (by exact rfl) (by exact rfl) (by exact rfl) ?_; refine Seq.q (by exact rfl) ?_; refine q_pick_true (by exact rfl) (by exact rfl) ?_; refine Seq.done ?_; refine Wp.cond_true (by exact rfl) ?_; refine Wp.seq ?_; refine Wp.region ?_))
    (((refine Seq.q (by exact rfl) ?_)); refine q_call (by exact rfl) (by exact rfl) awake_q ?_)
    ((refine Seq.q (by exact rfl) ?_; refine q_assign (by exact rfl) ?_; refine Seq.done ?_; refine Wp.ret ?_; refine thenR ?_))
    (exact ret1 rfl rfl (by repeat (first | exact List.Sublist.refl _ | exact List.nil_sublist _ | refine List.Sublist.cons_cons _ ?_ | refine List.Sublist.cons _ ?_)) rfl)
end Go.Proofs.Ytfidaamledbmpaa
