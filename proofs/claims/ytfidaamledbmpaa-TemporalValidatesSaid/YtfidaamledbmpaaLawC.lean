/- TemporalValidates, walked: it returns true, whatever the task and the launches. Conditions: the arguments read as data. -/
import Derived.Test.YtfidaamledbmpaaWalkL
import Derived.Test.YtfidaamledbmpaaRefH
namespace Go.Proofs.Ytfidaamledbmpaa
open Go.Lx Go.RowKit
attribute [local instance 10] Classical.propDecidable

set_option maxHeartbeats 1000000 in
theorem validates_q {fz : FZ} {t : Temporal} {A1 : Option Addr} {n1 c1 : Nat} {A2 : Option Addr} {n2 c2 : Nat} {A3 : Option Addr} {n3 c3 : Nat} {A4 : Option Addr} {n4 c4 : Nat} (ht : TempR fz t A1 n1 c1 A2 n2 c2 A3 n3 c3 A4 n4 c4) {B : Option Addr} {m d : Nat} {ls : List Launch} (hl : Sl launchL fz B m d ls) :
    QFn Try.prog 3 [.agg #[.slice A1 n1 c1, .slice A2 n2 c2, .slice A3 n3 c3, .slice A4 n4 c4], .slice B m d] fz (.bool true) := by
  refine GFn.quiet ?_
  (refine GFn.of_wp Try.func3 rfl Try.ntmps3 rfl rfl (fun w0 => ?_))
  have l4 := ht.jobs.len
  obtain ⟨code, hcode⟩ := check_total t
  refine Wp.seq (Wp.region (Seq.stepK (by exact rfl) (k_box _ (by exact rfl) (by exact rfl) (fun gt => ?_))))
  ((refine Seq.q (by exact rfl) ?_; refine q_assign (by exact rfl) ?_; refine Seq.done ?_; refine Wp.seq ?_; refine Wp.seq ?_; refine Wp.region ?_))
  (((refine Seq.q (by exact rfl) ?_)); refine q_call (by exact rfl) (by exact rfl) awake_q ?_)
  ((refine Seq.q (by exact rfl) ?_; refine q_not (by exact rfl) ?_; refine Seq.q (by exact rfl) ?_; refine q_move (by exact rfl) ?_; refine Seq.guard_yes (by exact rfl) (by exact rfl) (by exact rfl) ?_; refine q_load_own_all T 0 (by exact rfl) (by exact rfl) (by exact rfl) (by exact rfl) (by exact rfl) ?_; refine Seq.guard_yes (by exact rfl) (by exact rfl) (by exact rfl) ?_; refine q_move (by exact rfl) ?_))
  (((refine Seq.guard_yes (by exact rfl) (by exact rfl) (by exact rfl) ?_)); refine q_callB (by exact rfl) (by exact rfl) (few_q ht) (fun q1 => ?_) (fun q1 => ?_))
  · replace q1 := of_decide_eq_true q1
    have h4 : n4 ≤ 1000 := by have := q1.2.1; omega
    ((refine Seq.guard_yes (by exact rfl) (by exact rfl) (by exact rfl) ?_; refine q_not (by exact rfl) ?_; refine Seq.q (by exact rfl) ?_; refine q_pick_false (by exact rfl) (by exact rfl) ?_; refine Seq.q (by exact rfl) ?_; refine q_move (by exact rfl) ?_; refine Seq.guard_yes (by exact rfl) (by exact rfl) (by exact rfl) ?_; refine q_load_own_all T 0 (by exact rfl) (by exact rfl) (by exact rfl) (by exact rfl) (by exact rfl) ?_))
    (((refine Seq.guard_yes (by exact rfl) (by exact rfl) (by exact rfl) ?_)); refine q_call (by exact rfl) (by exact rfl) (check_q ht h4 hcode) ?_)
    (skip)
    (((refine Seq.guard_yes (by exact rfl) (by exact rfl) (by exact rfl) ?_)); (refine q_neqD (by exact rfl) (by exact rfl) (fun q2 => ?_) (fun q2 => ?_)))
    · ((refine Seq.q (by exact rfl) ?_; refine q_pick_false (by exact rfl) (by exact rfl) ?_; refine Seq.done ?_; refine Wp.cond_true (by exact rfl) ?_; refine Wp.seq ?_; refine Wp.region ?_))
      (((refine Seq.q (by exact rfl) ?_)); refine q_call (by exact rfl) (by exact rfl) awake_q ?_)
      ((refine Seq.q (by exact rfl) ?_; refine q_assign (by exact rfl) ?_; refine Seq.done ?_; refine Wp.ret ?_; refine thenR ?_))
      (exact ret1 rfl rfl (by repeat (first | exact List.Sublist.refl _ | exact List.nil_sublist _ | refine List.Sublist.cons_cons _ ?_ | refine List.Sublist.cons _ ?_)) rfl)
    · subst q2
      obtain ⟨ticks, hticks⟩ : ∃ ticks, launchesM t ls = 0 → TicksR t ls ticks := by
        by_cases h : launchesM t ls = 0
        · obtain ⟨tk, htk⟩ := ticks_total (good_of hcode).dur (launches_ok h).2
          exact ⟨tk, fun _ => htk⟩
        · exact ⟨[], fun hc => absurd hc h⟩
      ((refine Seq.q (by exact rfl) ?_; refine q_pick_false (by exact rfl) (by exact rfl) ?_; refine Seq.done ?_; refine Wp.cond_false (by exact rfl) ?_; refine Wp.skip ?_; refine thenN ?_; refine Wp.seq ?_; refine Wp.region ?_; refine Seq.q (by exact rfl) ?_; refine q_load_own_all T 0 (by exact rfl) (by exact rfl) (by exact rfl) (by exact rfl) (by exact rfl) ?_; refine Seq.q (by exact rfl) ?_; refine q_move (by exact rfl) ?_))
      (((refine Seq.q (by exact rfl) ?_)); refine q_call (by exact rfl) (by exact rfl) (tvalidate_q ht h4 hl hcode (fun _ => hticks)) ?_)
      ((refine Seq.q (by exact rfl) ?_; refine q_move (by exact rfl) ?_; refine Seq.q (by exact rfl) ?_; refine q_extract (by exact rfl) (by exact rfl) ?_; refine Seq.q (by exact rfl) ?_; refine q_extract (by exact rfl) (by exact rfl) ?_; refine Seq.q (by exact rfl) ?_; refine q_assign (by exact rfl) ?_; refine Seq.q (by exact rfl) ?_; refine q_assign (by exact rfl) ?_; refine Seq.done ?_; refine Wp.seq ?_; refine Wp.region ?_; refine Seq.q (by exact rfl) ?_; refine q_load_own_all T 0 (by exact rfl) (by exact rfl) (by exact rfl) (by exact rfl) (by exact rfl) ?_; refine Seq.q (by exact rfl) ?_; refine q_move (by exact rfl) ?_))
      (((refine Seq.q (by exact rfl) ?_)); refine q_call (by exact rfl) (by exact rfl) (rvalidate_q ht h4 hl hcode hticks) ?_)
      ((refine Seq.q (by exact rfl) ?_; refine q_move (by exact rfl) ?_; refine Seq.q (by exact rfl) ?_; refine q_extract (by exact rfl) (by exact rfl) ?_; refine Seq.q (by exact rfl) ?_; refine q_extract (by exact rfl) (by exact rfl) ?_; refine Seq.q (by exact rfl) ?_; refine q_assign (by exact rfl) ?_; refine Seq.q (by exact rfl) ?_; refine q_assign (by exact rfl) ?_; refine Seq.done ?_; refine Wp.seq ?_; refine Wp.region ?_; refine Seq.q (by exact rfl) ?_; refine q_move (by exact rfl) ?_; refine Seq.q (by exact rfl) ?_; refine q_move (by exact rfl) ?_))
      (((refine Seq.q (by exact rfl) ?_)); (refine q_eqlD (by exact rfl) (by exact rfl) (fun q3 => ?_) (fun q3 => ?_)))
      · ((refine Seq.q (by exact rfl) ?_; refine q_move (by exact rfl) ?_; refine Seq.guard_yes (by exact rfl) (by exact rfl) (by exact rfl) ?_; refine q_move (by exact rfl) ?_))
        (((refine Seq.guard_yes (by exact rfl) (by exact rfl) (by exact rfl) ?_)); refine q_call (by exact rfl) (by exact rfl) num_q ?_)
        ((refine Seq.guard_yes (by exact rfl) (by exact rfl) (by exact rfl) ?_; refine q_move (by exact rfl) ?_))
        (((refine Seq.guard_yes (by exact rfl) (by exact rfl) (by exact rfl) ?_)); (refine q_eqlD (by exact rfl) (by exact rfl) (fun q4 => ?_) (fun q4 => ?_)))
        · ((refine Seq.q (by exact rfl) ?_; refine q_pick_true (by exact rfl) (by exact rfl) ?_; refine Seq.q (by exact rfl) ?_; refine q_assign (by exact rfl) ?_; refine Seq.done ?_; refine Wp.ret ?_))
          (exact ret1 rfl rfl (by repeat (first | exact List.Sublist.refl _ | exact List.nil_sublist _ | refine List.Sublist.cons_cons _ ?_ | refine List.Sublist.cons _ ?_)) rfl)
        · exact absurd rfl q4
      · exact absurd rfl q3
  · ((refine Seq.guard_yes (by exact rfl) (by exact rfl) (by exact rfl) ?_; refine q_not (by exact rfl) ?_; refine Seq.q (by exact rfl) ?_; refine q_pick_false (by exact rfl) (by exact rfl) ?_; refine Seq.q (by exact rfl) ?_; refine q_move (by exact rfl) ?_; refine Seq.guard_no (by exact rfl) (by exact rfl) (by exact rfl) (by exact rfl) ?_; refine Seq.guard_no (by exact rfl) (by exact rfl) (by exact rfl) (by exact rfl) ?_; refine Seq.guard_no (by exact rfl) (by exact rfl) (by exact rfl) (by exact rfl) ?_; refine Seq.q (by exact rfl) ?_; refine q_pick_true (by exact rfl) (by exact rfl) ?_; refine Seq.done ?_; refine Wp.cond_true (by exact rfl) ?_; refine Wp.seq ?_; refine Wp.region ?_))
    (((refine Seq.q (by exact rfl) ?_)); refine q_call (by exact rfl) (by exact rfl) awake_q ?_)
    ((refine Seq.q (by exact rfl) ?_; refine q_assign (by exact rfl) ?_; refine Seq.done ?_; refine Wp.ret ?_; refine thenR ?_))
    (exact ret1 rfl rfl (by repeat (first | exact List.Sublist.refl _ | exact List.nil_sublist _ | refine List.Sublist.cons_cons _ ?_ | refine List.Sublist.cons _ ?_)) rfl)
end Go.Proofs.Ytfidaamledbmpaa
