/- What a tick of a plan does: overlaps, the state after happenings, the error of a tick. Conditions: the arguments read as data, the launches are of jobs of the task. -/
import Derived.Test.YtfidaamledbmpaaWalkE
namespace Go.Proofs.Ytfidaamledbmpaa
open Go.Lx Go.RowKit
attribute [local instance 10] Classical.propDecidable

/-! ### overlaps -/
def OvB (t : Temporal) (tick : Int) (i : Nat) (a : Launch) (k : Nat) (b : Launch) : Prop := i ≠ k ∧ a.job = b.job ∧ b.at_ ≤ tick ∧ tick ≤ endM t b
def OvA (t : Temporal) (ls : List Launch) (tick : Int) (i : Nat) (a : Launch) : Prop := a.at_ = tick ∧ ∃ k b, ls[k]? = some b ∧ OvB t tick i a k b
def OverP (t : Temporal) (ls : List Launch) (tick : Int) : Prop := ∃ i a, ls[i]? = some a ∧ OvA t ls tick i a

set_option maxHeartbeats 1000000 in
theorem overlaps_q {fz : FZ} {t : Temporal} {A1 : Option Addr} {n1 c1 : Nat} {A2 : Option Addr} {n2 c2 : Nat} {A3 : Option Addr} {n3 c3 : Nat} {A4 : Option Addr} {n4 c4 : Nat} (ht : TempR fz t A1 n1 c1 A2 n2 c2 A3 n3 c3 A4 n4 c4)
    {B : Option Addr} {n d : Nat} {ls : List Launch} (hl : Sl launchL fz B n d ls) (hd : DurOk t) (hok : ∀ l ∈ ls, LaunchOk t l) {tick : Int} :
    QFn Try.prog 54 [.agg #[.slice A1 n1 c1, .slice A2 n2 c2, .slice A3 n3 c3, .slice A4 n4 c4], .slice B n d, .int .i64 tick] fz (.bool (decide (OverP t ls tick))) := by
  refine GFn.quiet ?_
  (refine GFn.of_wp Try.func54 rfl Try.ntmps54 rfl rfl (fun w0 => ?_))
  have l1 := hl.len
  have hm := hl.short
  refine Wp.seq (Wp.region (Seq.stepK (by exact rfl) (k_box _ (by exact rfl) (by exact rfl) (fun gt => ?_))))
  ((refine Seq.q (by exact rfl) ?_; refine q_assign (by exact rfl) ?_; refine Seq.done ?_; refine Wp.seq ?_; refine Wp.seq ?_; refine Wp.region ?_; refine Seq.q (by exact rfl) ?_; refine q_move (by exact rfl) ?_; refine Seq.q (by exact rfl) ?_; refine q_len_slice T (by exact rfl) (by exact rfl) (by exact rfl) ?_; refine Seq.q (by exact rfl) ?_; refine q_move (by exact rfl) ?_; refine Seq.done ?_; refine Wp.block ?_))
  (refine Wp.loop (fun q σ fz' H' => ∃ k : Nat, k ≤ n ∧ q = n - k ∧ σ = [(13, .int .i64 k), (12, .int .i64 n), (11, .slice B n d), (1, .slice B n d), (2, .int .i64 tick), (3, .pointer (some ⟨gt, 0, none⟩))] ∧ fz = fz' ∧ H' = [(gt, .cells #[.slice A1 n1 c1, .slice A2 n2 c2, .slice A3 n3 c3, .slice A4 n4 c4] 26 (0, 0))] ∧ (∀ i, i < k → ∀ a, ls[i]? = some a → ¬ OvA t ls tick i a)) ⟨0, Nat.zero_le _, rfl, rfl, rfl, rfl, (fun i hi => absurd hi (by omega))⟩ (by repeat (first | exact trivial | refine ⟨by exact rfl, ?_⟩)) (by repeat (first | exact List.Sublist.refl _ | exact List.nil_sublist _ | refine List.Sublist.cons_cons _ ?_ | refine List.Sublist.cons _ ?_)) ?_; rintro q σ fz' H' ⟨k, hk, rfl, rfl, rfl, rfl, hh⟩)
  ((refine Wp.seq ?_; refine Wp.region ?_))
  (((refine Seq.q (by exact rfl) ?_)); (refine q_lssD (by exact rfl) (by exact rfl) (fun hlt => ?_) (fun hge => ?_)))
  · ((refine Seq.done ?_; refine Wp.seq ?_; refine Wp.cond_true (by exact rfl) ?_; refine Wp.skip ?_; refine thenN ?_; refine Wp.seq ?_; refine Wp.block ?_; refine Wp.seq ?_; refine Wp.region ?_; refine Seq.q (by exact rfl) ?_; refine q_move (by exact rfl) ?_))
    obtain ⟨a, ha⟩ := get_some (l := ls) (k := k) (by omega)
    (((refine Seq.q (by exact rfl) ?_)); refine q_index T k (by exact rfl) (by exact rfl) (by exact rfl) (by exact rfl) (by exact rfl) (by exact rfl) hl (by first | rfl | omega) ha (fun p hp => ?_))
    (((refine Seq.q (by exact rfl) ?_)); refine q_load_at T (by exact rfl) (by exact rfl) (by exact rfl) hp (by exact rfl) ?_)
    rintro _ ⟨rfl, i1, i2⟩
    refine Seq.stepK (by exact rfl) (k_alloc T (by exact rfl) (by exact rfl) (fun g => ?_))
    ((refine Seq.q (by exact rfl) ?_; refine q_assign (by exact rfl) ?_; refine Seq.stepK0 (k_store0 T (by exact rfl) (by exact rfl) (by exact rfl) (by exact rfl) (by exact rfl) (by exact rfl) ?_); refine Seq.done ?_; refine Wp.seq ?_; refine Wp.seq ?_; refine Wp.region ?_; refine Seq.q (by exact rfl) ?_; refine q_fieldAddr T (by exact rfl) (by exact rfl) (by exact rfl) (by exact rfl) (by exact rfl) (by exact rfl) ?_; refine Seq.q (by exact rfl) ?_; refine q_load_own T 0 (by exact rfl) (by exact rfl) (by exact rfl) (by exact rfl) (by exact rfl) ?_; refine Seq.q (by exact rfl) ?_; refine q_move (by exact rfl) ?_))
    (((refine Seq.q (by exact rfl) ?_)); (refine q_neqD (by exact rfl) (by exact rfl) (fun h1 => ?_) (fun h1 => ?_)))
    · ((refine Seq.done ?_; refine Wp.cond_true (by exact rfl) ?_; refine Wp.exit ?_; refine thenX ?_; refine blkX (by exact rfl) ?_; refine thenN ?_; refine Wp.region ?_; refine Seq.q (by exact rfl) ?_; refine q_add (by exact rfl) (by exact rfl) (wrap_in (by omega)) ?_; refine Seq.q (by exact rfl) ?_; refine q_move (by exact rfl) ?_; refine Seq.end_ ?_))
      (exact loopN ⟨k + 1, by omega, rfl, rfl, rfl, rfl, (lt_succ_cases hh (fun z hz hc => by rw [ha] at hz; injection hz with hz; subst hz; exact h1 hc.1))⟩ (by omega) (by repeat (first | exact trivial | refine ⟨by exact rfl, ?_⟩)) (by repeat (first | exact List.Sublist.refl _ | exact List.nil_sublist _ | refine List.Sublist.cons_cons _ ?_ | refine List.Sublist.cons _ ?_)))
    · ((refine Seq.done ?_; refine Wp.cond_false (by exact rfl) ?_; refine Wp.skip ?_; refine thenN ?_; refine Wp.seq ?_; refine Wp.region ?_; refine Seq.q (by exact rfl) ?_; refine q_move (by exact rfl) ?_; refine Seq.q (by exact rfl) ?_; refine q_len_slice T (by exact rfl) (by exact rfl) (by exact rfl) ?_; refine Seq.q (by exact rfl) ?_; refine q_move (by exact rfl) ?_; refine Seq.done ?_; refine Wp.block ?_))
      refine Wp.loop (fun q σ fz' H' => ∃ i : Nat, i ≤ n ∧ q = n - i ∧ σ = [(24, .int .i64 i), (23, .int .i64 n), (22, .slice B n d), (7, .int .i64 k), (8, .pointer (some ⟨g, 0, none⟩)), (13, .int .i64 k), (12, .int .i64 n), (11, .slice B n d), (1, .slice B n d), (2, .int .i64 tick), (3, .pointer (some ⟨gt, 0, none⟩))] ∧ fz = fz' ∧ H' = [(g, .cells #[.int .i64 a.at_, .int .i64 a.job] 40 (0, 0)), (gt, .cells #[.slice A1 n1 c1, .slice A2 n2 c2, .slice A3 n3 c3, .slice A4 n4 c4] 26 (0, 0))] ∧ ∀ u, u < i → ∀ b, ls[u]? = some b → ¬ OvB t tick k a u b) ⟨0, Nat.zero_le _, rfl, rfl, rfl, rfl, fun u hu => absurd hu (by omega)⟩ (by repeat (first | exact trivial | refine ⟨by exact rfl, ?_⟩)) (by repeat (first | exact List.Sublist.refl _ | exact List.nil_sublist _ | refine List.Sublist.cons_cons _ ?_ | refine List.Sublist.cons _ ?_)) ?_
      rintro q σ fz' H' ⟨i, hi, rfl, rfl, rfl, rfl, hin⟩
      ((refine Wp.seq ?_; refine Wp.region ?_))
      (((refine Seq.q (by exact rfl) ?_)); (refine q_lssD (by exact rfl) (by exact rfl) (fun hlt2 => ?_) (fun hge2 => ?_)))
      · ((refine Seq.done ?_; refine Wp.seq ?_; refine Wp.cond_true (by exact rfl) ?_; refine Wp.skip ?_; refine thenN ?_; refine Wp.seq ?_; refine Wp.block ?_; refine Wp.seq ?_; refine Wp.region ?_; refine Seq.q (by exact rfl) ?_; refine q_move (by exact rfl) ?_))
        obtain ⟨b, hb⟩ := get_some (l := ls) (k := i) (by omega)
        (((refine Seq.q (by exact rfl) ?_)); refine q_index T i (by exact rfl) (by exact rfl) (by exact rfl) (by exact rfl) (by exact rfl) (by exact rfl) hl (by first | rfl | omega) hb (fun p2 hp2 => ?_))
        (((refine Seq.q (by exact rfl) ?_)); refine q_load_at T (by exact rfl) (by exact rfl) (by exact rfl) hp2 (by exact rfl) ?_)
        rintro _ ⟨rfl, i3, i4⟩
        refine Seq.stepK (by exact rfl) (k_alloc T (by exact rfl) (by exact rfl) (fun g2 => ?_))
        have hlo := hok b (List.mem_of_getElem? hb)
        obtain ⟨kk, j, hkk, hj, he⟩ := launch_job hlo
        have hbd := end_bd hlo hd
        have hat := hlo.2.2
        have nope : ¬ OvB t tick k a i b → ∀ u, u < i + 1 → ∀ b, ls[u]? = some b → ¬ OvB t tick k a u b := fun hn => lt_succ_cases hin (fun z hz => by rw [hb] at hz; injection hz with hz; subst hz; exact hn)
        ((refine Seq.q (by exact rfl) ?_; refine q_assign (by exact rfl) ?_; refine Seq.stepK0 (k_store0 T (by exact rfl) (by exact rfl) (by exact rfl) (by exact rfl) (by exact rfl) (by exact rfl) ?_); refine Seq.done ?_; refine Wp.seq ?_; refine Wp.region ?_; refine Seq.q (by exact rfl) ?_; refine q_move (by exact rfl) ?_; refine Seq.q (by exact rfl) ?_; refine q_move (by exact rfl) ?_))
        (((refine Seq.q (by exact rfl) ?_)); (refine q_neqD (by exact rfl) (by exact rfl) (fun h2 => ?_) (fun h2 => ?_)))
        · ((refine Seq.q (by exact rfl) ?_; refine q_move (by exact rfl) ?_; refine Seq.guard_yes (by exact rfl) (by exact rfl) (by exact rfl) ?_; refine q_fieldAddr T (by exact rfl) (by exact rfl) (by exact rfl) (by exact rfl) (by exact rfl) (by exact rfl) ?_; refine Seq.guard_yes (by exact rfl) (by exact rfl) (by exact rfl) ?_; refine q_load_own T 1 (by exact rfl) (by exact rfl) (by exact rfl) (by exact rfl) (by exact rfl) ?_; refine Seq.guard_yes (by exact rfl) (by exact rfl) (by exact rfl) ?_; refine q_fieldAddr T (by exact rfl) (by exact rfl) (by exact rfl) (by exact rfl) (by exact rfl) (by exact rfl) ?_; refine Seq.guard_yes (by exact rfl) (by exact rfl) (by exact rfl) ?_; refine q_load_own T 0 (by exact rfl) (by exact rfl) (by exact rfl) (by exact rfl) (by exact rfl) ?_))
          (((refine Seq.guard_yes (by exact rfl) (by exact rfl) (by exact rfl) ?_)); (refine q_eqlD (by exact rfl) (by exact rfl) (fun h3 => ?_) (fun h3 => ?_)))
          · ((refine Seq.q (by exact rfl) ?_; refine q_pick_true (by exact rfl) (by exact rfl) ?_; refine Seq.q (by exact rfl) ?_; refine q_move (by exact rfl) ?_; refine Seq.guard_yes (by exact rfl) (by exact rfl) (by exact rfl) ?_; refine q_fieldAddr T (by exact rfl) (by exact rfl) (by exact rfl) (by exact rfl) (by exact rfl) (by exact rfl) ?_; refine Seq.guard_yes (by exact rfl) (by exact rfl) (by exact rfl) ?_; refine q_load_own T 0 (by exact rfl) (by exact rfl) (by exact rfl) (by exact rfl) (by exact rfl) ?_; refine Seq.guard_yes (by exact rfl) (by exact rfl) (by exact rfl) ?_; refine q_move (by exact rfl) ?_))
            (((refine Seq.guard_yes (by exact rfl) (by exact rfl) (by exact rfl) ?_)); (refine q_leqD (by exact rfl) (by exact rfl) (fun h4 => ?_) (fun h4 => ?_)))
            · ((refine Seq.q (by exact rfl) ?_; refine q_pick_true (by exact rfl) (by exact rfl) ?_; refine Seq.q (by exact rfl) ?_; refine q_move (by exact rfl) ?_; refine Seq.guard_yes (by exact rfl) (by exact rfl) (by exact rfl) ?_; refine q_move (by exact rfl) ?_; refine Seq.guard_yes (by exact rfl) (by exact rfl) (by exact rfl) ?_; refine q_load_own_all T 2 (by exact rfl) (by exact rfl) (by exact rfl) (by exact rfl) (by exact rfl) ?_; refine Seq.guard_yes (by exact rfl) (by exact rfl) (by exact rfl) ?_; refine q_load_own_all T 0 (by exact rfl) (by exact rfl) (by exact rfl) (by exact rfl) (by exact rfl) ?_))
              (((refine Seq.guard_yes (by exact rfl) (by exact rfl) (by exact rfl) ?_)); refine q_call (by exact rfl) (by exact rfl) (tend_q ht hkk hj (by unfold I64; omega)) ?_)
              (skip)
              rw [← he]
              (((refine Seq.guard_yes (by exact rfl) (by exact rfl) (by exact rfl) ?_)); (refine q_leqD (by exact rfl) (by exact rfl) (fun h5 => ?_) (fun h5 => ?_)))
              · ((refine Seq.q (by exact rfl) ?_; refine q_pick_true (by exact rfl) (by exact rfl) ?_; refine Seq.done ?_; refine Wp.cond_true (by exact rfl) ?_; refine Wp.seq ?_; refine Wp.region ?_; refine Seq.q (by exact rfl) ?_; refine q_assign (by exact rfl) ?_; refine Seq.done ?_; refine Wp.ret ?_; refine blkR ?_; refine thenR ?_; refine loopR ?_; refine blkR ?_; refine blkR ?_; refine thenR ?_; refine loopR ?_; refine blkR ?_; refine thenR ?_))
                (exact ret1 rfl rfl (by repeat (first | exact List.Sublist.refl _ | exact List.nil_sublist _ | refine List.Sublist.cons_cons _ ?_ | refine List.Sublist.cons _ ?_)) (bool_true ⟨k, a, ha, h1, i, b, hb, by omega, h3, h4, h5⟩))
              · ((refine Seq.q (by exact rfl) ?_; refine q_pick_true (by exact rfl) (by exact rfl) ?_; refine Seq.done ?_; refine Wp.cond_false (by exact rfl) ?_; refine Wp.skip ?_; refine blkN ?_; refine thenN ?_; refine Wp.region ?_; refine Seq.q (by exact rfl) ?_; refine q_add (by exact rfl) (by exact rfl) (wrap_in (by omega)) ?_; refine Seq.q (by exact rfl) ?_; refine q_move (by exact rfl) ?_; refine Seq.end_ ?_))
                exact loopN ⟨i + 1, by omega, rfl, rfl, rfl, rfl, nope (fun hc => h5 hc.2.2.2)⟩ (by omega) (by repeat (first | exact trivial | refine ⟨by exact rfl, ?_⟩)) (by repeat (first | exact List.Sublist.refl _ | exact List.nil_sublist _ | refine List.Sublist.cons_cons _ ?_ | refine List.Sublist.cons _ ?_))
            · ((refine Seq.q (by exact rfl) ?_; refine q_pick_true (by exact rfl) (by exact rfl) ?_; refine Seq.q (by exact rfl) ?_; refine q_move (by exact rfl) ?_; refine Seq.guard_no (by exact rfl) (by exact rfl) (by exact rfl) (by exact rfl) ?_; refine Seq.guard_no (by exact rfl) (by exact rfl) (by exact rfl) (by exact rfl) ?_; refine Seq.guard_no (by exact rfl) (by exact rfl) (by exact rfl) (by exact rfl) ?_; refine Seq.guard_no (by exact rfl) (by exact rfl) (by exact rfl) (by exact rfl) ?_; refine Seq.guard_no (by exact rfl) (by exact rfl) (by exact rfl) (by exact rfl) ?_; refine Seq.q (by exact rfl) ?_; refine q_pick_false (by exact rfl) (by exact rfl) ?_; refine Seq.done ?_; refine Wp.cond_false (by exact rfl) ?_; refine Wp.skip ?_; refine blkN ?_; refine thenN ?_; refine Wp.region ?_; refine Seq.q (by exact rfl) ?_; refine q_add (by exact rfl) (by exact rfl) (wrap_in (by omega)) ?_; refine Seq.q (by exact rfl) ?_; refine q_move (by exact rfl) ?_; refine Seq.end_ ?_))
              exact loopN ⟨i + 1, by omega, rfl, rfl, rfl, rfl, nope (fun hc => h4 hc.2.2.1)⟩ (by omega) (by repeat (first | exact trivial | refine ⟨by exact rfl, ?_⟩)) (by repeat (first | exact List.Sublist.refl _ | exact List.nil_sublist _ | refine List.Sublist.cons_cons _ ?_ | refine List.Sublist.cons _ ?_))
          · ((refine Seq.q (by exact rfl) ?_; refine q_pick_true (by exact rfl) (by exact rfl) ?_; refine Seq.q (by exact rfl) ?_; refine q_move (by exact rfl) ?_; refine Seq.guard_no (by exact rfl) (by exact rfl) (by exact rfl) (by exact rfl) ?_; refine Seq.guard_no (by exact rfl) (by exact rfl) (by exact rfl) (by exact rfl) ?_; refine Seq.guard_no (by exact rfl) (by exact rfl) (by exact rfl) (by exact rfl) ?_; refine Seq.guard_no (by exact rfl) (by exact rfl) (by exact rfl) (by exact rfl) ?_; refine Seq.q (by exact rfl) ?_; refine q_pick_false (by exact rfl) (by exact rfl) ?_; refine Seq.q (by exact rfl) ?_; refine q_move (by exact rfl) ?_; refine Seq.guard_no (by exact rfl) (by exact rfl) (by exact rfl) (by exact rfl) ?_; refine Seq.guard_no (by exact rfl) (by exact rfl) (by exact rfl) (by exact rfl) ?_; refine Seq.guard_no (by exact rfl) (by exact rfl) (by exact rfl) (by exact rfl) ?_; refine Seq.guard_no (by exact rfl) (by exact rfl) (by exact rfl) (by exact rfl) ?_; refine Seq.guard_no (by exact rfl) (by exact rfl) (by exact rfl) (by exact rfl) ?_; refine Seq.q (by exact rfl) ?_; refine q_pick_false (by exact rfl) (by exact rfl) ?_; refine Seq.done ?_; refine Wp.cond_false (by exact rfl) ?_; refine Wp.skip ?_; refine blkN ?_; refine thenN ?_; refine Wp.region ?_; refine Seq.q (by exact rfl) ?_; refine q_add (by exact rfl) (by exact rfl) (wrap_in (by omega)) ?_; refine Seq.q (by exact rfl) ?_; refine q_move (by exact rfl) ?_; refine Seq.end_ ?_))
            exact loopN ⟨i + 1, by omega, rfl, rfl, rfl, rfl, nope (fun hc => h3 hc.2.1)⟩ (by omega) (by repeat (first | exact trivial | refine ⟨by exact rfl, ?_⟩)) (by repeat (first | exact List.Sublist.refl _ | exact List.nil_sublist _ | refine List.Sublist.cons_cons _ ?_ | refine List.Sublist.cons _ ?_))
        · ((refine Seq.q (by exact rfl) ?_; refine q_move (by exact rfl) ?_; refine Seq.guard_no (by exact rfl) (by exact rfl) (by exact rfl) (by exact rfl) ?_; refine Seq.guard_no (by exact rfl) (by exact rfl) (by exact rfl) (by exact rfl) ?_; refine Seq.guard_no (by exact rfl) (by exact rfl) (by exact rfl) (by exact rfl) ?_; refine Seq.guard_no (by exact rfl) (by exact rfl) (by exact rfl) (by exact rfl) ?_; refine Seq.guard_no (by exact rfl) (by exact rfl) (by exact rfl) (by exact rfl) ?_; refine Seq.q (by exact rfl) ?_; refine q_pick_false (by exact rfl) (by exact rfl) ?_; refine Seq.q (by exact rfl) ?_; refine q_move (by exact rfl) ?_; refine Seq.guard_no (by exact rfl) (by exact rfl) (by exact rfl) (by exact rfl) ?_; refine Seq.guard_no (by exact rfl) (by exact rfl) (by exact rfl) (by exact rfl) ?_; refine Seq.guard_no (by exact rfl) (by exact rfl) (by exact rfl) (by exact rfl) ?_; refine Seq.guard_no (by exact rfl) (by exact rfl) (by exact rfl) (by exact rfl) ?_; refine Seq.q (by exact rfl) ?_; refine q_pick_false (by exact rfl) (by exact rfl) ?_; refine Seq.q (by exact rfl) ?_; refine q_move (by exact rfl) ?_; refine Seq.guard_no (by exact rfl) (by exact rfl) (by exact rfl) (by exact rfl) ?_; refine Seq.guard_no (by exact rfl) (by exact rfl) (by exact rfl) (by exact rfl) ?_; refine Seq.guard_no (by exact rfl) (by exact rfl) (by exact rfl) (by exact rfl) ?_; refine Seq.guard_no (by exact rfl) (by exact rfl) (by exact rfl) (by exact rfl) ?_; refine Seq.guard_no (by exact rfl) (by exact rfl) (by exact rfl) (by exact rfl) ?_; refine Seq.q (by exact rfl) ?_; refine q_pick_false (by exact rfl) (by exact rfl) ?_; refine Seq.done ?_; refine Wp.cond_false (by exact rfl) ?_; refine Wp.skip ?_; refine blkN ?_; refine thenN ?_; refine Wp.region ?_; refine Seq.q (by exact rfl) ?_; refine q_add (by exact rfl) (by exact rfl) (wrap_in (by omega)) ?_; refine Seq.q (by exact rfl) ?_; refine q_move (by exact rfl) ?_; refine Seq.end_ ?_))
          exact loopN ⟨i + 1, by omega, rfl, rfl, rfl, rfl, nope (fun hc => hc.1 (by omega))⟩ (by omega) (by repeat (first | exact trivial | refine ⟨by exact rfl, ?_⟩)) (by repeat (first | exact List.Sublist.refl _ | exact List.nil_sublist _ | refine List.Sublist.cons_cons _ ?_ | refine List.Sublist.cons _ ?_))
      · ((refine Seq.done ?_; refine Wp.seq ?_; refine Wp.cond_false (by exact rfl) ?_; refine Wp.exit ?_; refine thenX ?_; refine loopX ?_; refine blkX (by exact rfl) ?_; refine blkN ?_; refine thenN ?_; refine Wp.region ?_; refine Seq.q (by exact rfl) ?_; refine q_add (by exact rfl) (by exact rfl) (wrap_in (by omega)) ?_; refine Seq.q (by exact rfl) ?_; refine q_move (by exact rfl) ?_; refine Seq.end_ ?_))
        (exact loopN ⟨k + 1, by omega, rfl, rfl, rfl, rfl, (lt_succ_cases hh (fun z hz ⟨_, u, b, hu, hc⟩ => by
          rw [ha] at hz; injection hz with hz; subst hz
          exact hin u (by have := lt_of_get hu; omega) b hu hc))⟩ (by omega) (by repeat (first | exact trivial | refine ⟨by exact rfl, ?_⟩)) (by repeat (first | exact List.Sublist.refl _ | exact List.nil_sublist _ | refine List.Sublist.cons_cons _ ?_ | refine List.Sublist.cons _ ?_)))
  · ((refine Seq.done ?_; refine Wp.seq ?_; refine Wp.cond_false (by exact rfl) ?_; refine Wp.exit ?_; refine thenX ?_; refine loopX ?_; refine blkX (by exact rfl) ?_; refine thenN ?_; refine Wp.seq ?_; refine Wp.region ?_; refine Seq.q (by exact rfl) ?_; refine q_assign (by exact rfl) ?_; refine Seq.done ?_; refine Wp.ret ?_))
    (exact ret1 rfl rfl (by repeat (first | exact List.Sublist.refl _ | exact List.nil_sublist _ | refine List.Sublist.cons_cons _ ?_ | refine List.Sublist.cons _ ?_)) (bool_false (fun ⟨u, a, hu, hc⟩ => hh u (by have := lt_of_get hu; omega) a hu hc)))

/-! ### stores into a slice of the call's own -/
section
variable {P : Program} {cx : Cx} {r : Operand → Option Value} {fz : FZ} {H : HP} {V : Value → Prop} {dst : Option Nat} {ty : TypeId} {pos : String} {af : Array Edge} {gd : Option (Nat × Bool)}
theorem q_index_own (T : Tab P) {t e : TypeId} {x i : Operand} {X Y : Ty} {g n c : Nat} {k : IntKind} {j : Int} (hT : T.inf t = some X) (hd : X.desc = .slice e) (hY : T.inf e = some Y)
    (hx : r x = some (.slice (some ⟨g, 0, none⟩) n c)) (hi : r i = some (.int k j)) (hs : Y.size = 1) (h0 : 0 ≤ j) (hn : j < n) (h : V (.pointer (some ⟨g, j.toNat, none⟩))) : DoesQ P cx ⟨dst, .indexAddr t x i, ty, pos, af, gd⟩ r fz H V := by
  refine q_indexAddr T hT hd hY hx hi h0 hn ?_
  have hadd : (⟨g, 0, none⟩ : Addr).add (j.toNat * Y.size) = ⟨g, j.toNat, none⟩ := by rw [hs]; unfold Addr.add; split <;> simp_all
  rw [hadd]
  exact h
theorem q_neq_boolD (T : Tab P) {t t' : TypeId} {x y : Operand} {X : Ty} {a b : Bool} (hT : T.inf t = some X) (hd : X.desc = .bool) (hx : r x = some (.bool a)) (hy : r y = some (.bool b)) (ht : a ≠ b → V (.bool true)) (hf : a = b → V (.bool false)) :
    DoesQ P cx ⟨dst, .binOp .neq t x y t', ty, pos, af, gd⟩ r fz H V := by
  refine q_neq_bool T hT hd hx hy ?_
  by_cases h : a = b
  · subst h; simpa using hf rfl
  · have := ht h
    cases a <;> cases b <;> simp_all
end
theorem ownS_block {e n : Nat} {v : Value} {xs : List Value} {Hs : HP} (h : OwnS e 1 v n xs Hs) (hn : 0 < n) : ∃ g cap cur, v = .slice (some ⟨g, 0, none⟩) n cap ∧ Hs = [(g, .cells (List.toArray cur) e (0, 0))] ∧ n ≤ cur.length ∧
    ∀ j u, OwnS e 1 v n (xs.set j u) [(g, .cells (cur.set j u).toArray e (0, 0))] := by
  obtain ⟨h0, h | ⟨g, cap, cur, h1, h2, h3, h4, h5, h6⟩⟩ := h
  · omega
  · refine ⟨g, cap, cur.toList, h1, h2, by simp; omega, fun j u => ⟨by simpa using h0, .inr ⟨g, cap, _, h1, rfl, h3, h4, by simpa using h5, ?_⟩⟩⟩
    rw [← h6]
    simp [List.take_set]
theorem sl_bools {v : Value} {zs : List Bool} {n : Nat} {b : HP} {fz' : FZ} (hO : OwnS 4 1 v n (zs.map Value.bool) b) (hf : ∀ p ∈ b, fz' p.1 = some p.2) (hn : n ≤ 140737488355328) : ∃ A c, v = .slice A n c ∧ Sl boolL fz' A n c zs := by
  obtain ⟨A, c, h1, h2, h3, h4⟩ := hO.row hf
  refine ⟨A, c, h1, h4.sl h2 h3 hn (by have := hO.1; simpa using this) fun i z hz => ⟨[.bool z], rfl, fun j u hu => ?_⟩⟩
  cases j with
  | zero => simp at hu; subst hu; simp [boolL, hz]
  | succ j => simp at hu

/-! ### the state after happenings -/
def putF (s : List Int) (fs : List Fact) : List Int := fs.foldl (fun s f => s.set f.var.toNat f.val) s
def wrH (t : Temporal) (h : Hap) : List Fact := ((t.jobs[h.1.toNat]?).map fun j => wrJ j h.2).getD []
def rdH (t : Temporal) (h : Hap) : List Fact := ((t.jobs[h.1.toNat]?).map fun j => rdJ j h.2).getD []
def putHs (t : Temporal) (s : List Int) (hs : List Hap) : List Int := hs.foldl (fun s h => putF s (wrH t h)) s
def selH (hs : List Hap) (e : Bool) (j : Nat) : List Hap := hs.filter fun h => decide (h.1 = (j : Int) ∧ h.2 = e)
def ordE (t : Temporal) (hs : List Hap) (e : Bool) : List Hap := (List.range t.jobs.length).flatMap (selH hs e)
def afterM (t : Temporal) (s : List Int) (hs : List Hap) : List Int := putHs t s ([true, false].flatMap (ordE t hs))
theorem putF_len (s : List Int) (fs : List Fact) : (putF s fs).length = s.length := by
  induction fs generalizing s with
  | nil => rfl
  | cons f r ih => show (putF (s.set f.var.toNat f.val) r).length = _; rw [ih]; simp
theorem putF_snoc (s : List Int) (fs : List Fact) (f : Fact) : putF s (fs ++ [f]) = (putF s fs).set f.var.toNat f.val := by simp [putF]
theorem putHs_append (t : Temporal) (s : List Int) (a b : List Hap) : putHs t s (a ++ b) = putHs t (putHs t s a) b := by simp [putHs]
theorem putHs_len (t : Temporal) (s : List Int) (hs : List Hap) : (putHs t s hs).length = s.length := by
  induction hs generalizing s with
  | nil => rfl
  | cons f r ih => show (putHs t (putF s (wrH t f)) r).length = _; rw [ih, putF_len]
theorem after_len (t : Temporal) (s : List Int) (hs : List Hap) : (afterM t s hs).length = s.length := putHs_len _ _ _
def HapOk (t : Temporal) (h : Hap) : Prop := 0 ≤ h.1 ∧ h.1 < t.jobs.length
def WrOk (t : Temporal) (n : Nat) : Prop := ∀ j ∈ t.jobs, ∀ e, ∀ f ∈ wrJ j e, 0 ≤ f.var ∧ f.var < n
theorem hap_job {t : Temporal} {h : Hap} (ho : HapOk t h) : ∃ (k : Nat) (j : Job), h.1 = k ∧ t.jobs[k]? = some j ∧ wrH t h = wrJ j h.2 ∧ rdH t h = rdJ j h.2 := by
  obtain ⟨j, hj⟩ := get_int (l := t.jobs) (k := h.1) ho.1 ho.2
  exact ⟨h.1.toNat, j, by have := ho.1; omega, hj, by simp [wrH, hj], by simp [rdH, hj]⟩
theorem sel_snoc (hs : List Hap) (h : Hap) (e : Bool) (j : Nat) : selH (hs ++ [h]) e j = selH hs e j ++ (if h.1 = (j : Int) ∧ h.2 = e then [h] else []) := by
  simp only [selH, List.filter_append]
  congr 1
  by_cases hc : h.1 = (j : Int) ∧ h.2 = e
  · simp [hc]
  · rw [if_neg hc]; simpa using hc

set_option maxHeartbeats 2000000 in
theorem after_f {fz : FZ} {t : Temporal} {A1 : Option Addr} {n1 c1 : Nat} {A2 : Option Addr} {n2 c2 : Nat} {A3 : Option Addr} {n3 c3 : Nat} {A4 : Option Addr} {n4 c4 : Nat} (ht : TempR fz t A1 n1 c1 A2 n2 c2 A3 n3 c3 A4 n4 c4)
    {S : Option Addr} {n c : Nat} {s : List Int} (hs : Sl intL fz S n c s) (hn : n ≤ 1000000) {B : Option Addr} {m d : Nat} {hs' : List Hap} (hl : Sl hapL fz B m d hs') (hok : ∀ h ∈ hs', HapOk t h) (hw : WrOk t n) :
    GFn Try.prog 50 [.agg #[.slice A1 n1 c1, .slice A2 n2 c2, .slice A3 n3 c3, .slice A4 n4 c4], .slice S n c, .slice B m d] fz [] fun v fz' H' => H' = [] ∧ ∃ A c, v = .slice A n c ∧ Sl intL fz' A n c (afterM t s hs') := by
  (refine GFn.of_wp Try.func50 rfl Try.ntmps50 rfl rfl (fun w0 => ?_))
  have ls := hs.len
  have lm := hl.len
  have l4 := ht.jobs.len
  have hm := hl.short
  have hm4 := ht.jobs.short
  have hs64 : ∀ z ∈ s, I64 z := fun z hz => by
    obtain ⟨i, hi⟩ := List.mem_iff_getElem?.1 hz
    obtain ⟨ad, _, cs, hr, _⟩ := slAt hs hi
    exact hr.2
  refine Wp.seq (Wp.region (Seq.stepK (by exact rfl) (k_box _ (by exact rfl) (by exact rfl) (fun gt => ?_))))
  ((refine Seq.q (by exact rfl) ?_; refine q_assign (by exact rfl) ?_; refine Seq.done ?_; refine Wp.seq ?_; refine Wp.region ?_; refine Seq.q (by exact rfl) ?_; refine q_move (by exact rfl) ?_))
  refine Seq.stepK (by exact rfl) (k_call [] [_] (by exact rfl) (by exact rfl) (by exact rfl) (clone_f hs hn) (fun v fz1 Hs hle1 hO => ?_))
  refine Seq.perm List.perm_append_comm ?_
  ((refine Seq.q (by exact rfl) ?_; refine q_assign (by exact rfl) ?_; refine Seq.done ?_; refine Wp.seq ?_; refine Wp.seq ?_; refine Wp.region ?_))
  (refine Seq.stepK (by exact rfl) (k_buildSlice T (cs := [.bool true, .bool false]) (by exact rfl) (by exact rfl) (by exact rfl) (by exact rfl) (by exact rfl) (by exact rfl) (by exact rfl) (by exact rfl) (fun gb => ?_)))
  refine Seq.freeze (by exact rfl) (fun fz2 hle2 hx2 => ?_)
  have hle := hle1.trans hle2
  replace ht := ht.mono hle
  replace hl := hl.mono hle
  clear hs
  obtain ⟨Ab, cb, hv, hb⟩ := sl_bools (zs := [true, false]) (n := 2) (fz' := fz2) (OwnS.of_block (g := gb) (e := 4) (size := 1) (n := 2) (cs := [.bool true, .bool false]) rfl (by decide)) (by simpa using hx2) (by omega)
  injection hv with hv1 hv2 hv3
  subst hv1 hv3
  ((refine Seq.q (by exact rfl) ?_; refine q_len_slice T (by exact rfl) (by exact rfl) (by exact rfl) ?_; refine Seq.q (by exact rfl) ?_; refine q_move (by exact rfl) ?_; refine Seq.done ?_; refine Wp.block ?_))
  refine Wp.loop (fun q σ fz' H' => ∃ (k : Nat) (xs : List Int) (Hs : HP), k ≤ 2 ∧ q = 2 - k ∧ σ = [(19, .int .i64 k), (18, .int .i64 2), (17, .slice (some ⟨gb, 0, none⟩) 2 2), (7, v), (2, .slice B m d), (3, .pointer (some ⟨gt, 0, none⟩))] ∧ fz2 = fz' ∧
      H' = (gt, .cells #[.slice A1 n1 c1, .slice A2 n2 c2, .slice A3 n3 c3, .slice A4 n4 c4] 26 (0, 0)) :: Hs ∧ OwnS 3 1 v n (xs.map (Value.int .i64)) Hs ∧ (∀ z ∈ xs, I64 z) ∧ xs = putHs t s (([true, false].take k).flatMap (ordE t hs')))
    ⟨0, s, _, Nat.zero_le _, rfl, rfl, rfl, rfl, hO, hs64, rfl⟩ (by repeat (first | exact trivial | refine ⟨by exact rfl, ?_⟩)) (by repeat (first | exact List.Sublist.refl _ | exact List.nil_sublist _ | refine List.Sublist.cons_cons _ ?_ | refine List.Sublist.cons _ ?_)) ?_
  clear hO Hs
  rintro q σ fz' H' ⟨k, xs1, Hs, hk, rfl, rfl, rfl, rfl, hO, hx1, he1⟩
  ((refine Wp.seq ?_; refine Wp.region ?_))
  (((refine Seq.q (by exact rfl) ?_)); (refine q_lssD (by exact rfl) (by exact rfl) (fun hlt => ?_) (fun hge => ?_)))
  · ((refine Seq.done ?_; refine Wp.seq ?_; refine Wp.cond_true (by exact rfl) ?_; refine Wp.skip ?_; refine thenN ?_; refine Wp.seq ?_; refine Wp.block ?_; refine Wp.seq ?_; refine Wp.region ?_))
    obtain ⟨e, hee⟩ := get_some (l := [true, false]) (k := k) (by simp; omega)
    (((refine Seq.q (by exact rfl) ?_)); refine q_index T k (by exact rfl) (by exact rfl) (by exact rfl) (by exact rfl) (by exact rfl) (by exact rfl) hb (by first | rfl | omega) hee (fun p hp => ?_))
    (((refine Seq.q (by exact rfl) ?_)); refine q_load_bool T (by exact rfl) (by exact rfl) (by exact rfl) hp ?_)
    ((refine Seq.q (by exact rfl) ?_; refine q_assign (by exact rfl) ?_; refine Seq.done ?_; refine Wp.seq ?_; refine Wp.region ?_; refine Seq.q (by exact rfl) ?_; refine q_fieldAddr T (by exact rfl) (by exact rfl) (by exact rfl) (by exact rfl) (by exact rfl) (by exact rfl) ?_; refine Seq.q (by exact rfl) ?_; refine q_load_own T 0 (by exact rfl) (by exact rfl) (by exact rfl) (by exact rfl) (by exact rfl) ?_; refine Seq.q (by exact rfl) ?_; refine q_len_slice T (by exact rfl) (by exact rfl) (by exact rfl) ?_; refine Seq.q (by exact rfl) ?_; refine q_move (by exact rfl) ?_; refine Seq.done ?_; refine Wp.block ?_))
    refine Wp.loop (fun q σ fz' H' => ∃ (i : Nat) (xs : List Int) (Hs : HP), i ≤ n4 ∧ q = n4 - i ∧ σ = [(26, .int .i64 i), (25, .int .i64 n4), (9, .bool e), (19, .int .i64 k), (18, .int .i64 2), (17, .slice (some ⟨gb, 0, none⟩) 2 2), (7, v), (2, .slice B m d), (3, .pointer (some ⟨gt, 0, none⟩))] ∧ fz2 = fz' ∧
        H' = (gt, .cells #[.slice A1 n1 c1, .slice A2 n2 c2, .slice A3 n3 c3, .slice A4 n4 c4] 26 (0, 0)) :: Hs ∧ OwnS 3 1 v n (xs.map (Value.int .i64)) Hs ∧ (∀ z ∈ xs, I64 z) ∧ xs = putHs t xs1 ((List.range i).flatMap (selH hs' e)))
      ⟨0, xs1, _, Nat.zero_le _, rfl, rfl, rfl, rfl, hO, hx1, rfl⟩ (by repeat (first | exact trivial | refine ⟨by exact rfl, ?_⟩)) (by repeat (first | exact List.Sublist.refl _ | exact List.nil_sublist _ | refine List.Sublist.cons_cons _ ?_ | refine List.Sublist.cons _ ?_)) ?_
    clear hO Hs
    rintro q σ fz' H' ⟨i, xs2, Hs, hi, rfl, rfl, rfl, rfl, hO, hx2', he2⟩
    ((refine Wp.seq ?_; refine Wp.region ?_))
    (((refine Seq.q (by exact rfl) ?_)); (refine q_lssD (by exact rfl) (by exact rfl) (fun hlt2 => ?_) (fun hge2 => ?_)))
    · ((refine Seq.done ?_; refine Wp.seq ?_; refine Wp.cond_true (by exact rfl) ?_; refine Wp.skip ?_; refine thenN ?_; refine Wp.seq ?_; refine Wp.block ?_; refine Wp.seq ?_; refine Wp.region ?_; refine Seq.q (by exact rfl) ?_; refine q_move (by exact rfl) ?_; refine Seq.q (by exact rfl) ?_; refine q_assign (by exact rfl) ?_; refine Seq.done ?_; refine Wp.seq ?_; refine Wp.region ?_; refine Seq.q (by exact rfl) ?_; refine q_move (by exact rfl) ?_; refine Seq.q (by exact rfl) ?_; refine q_len_slice T (by exact rfl) (by exact rfl) (by exact rfl) ?_; refine Seq.q (by exact rfl) ?_; refine q_move (by exact rfl) ?_; refine Seq.done ?_; refine Wp.block ?_))
      refine Wp.loop (fun q σ fz' H' => ∃ (a : Nat) (xs : List Int) (Hs : HP), a ≤ m ∧ q = m - a ∧ σ = [(31, .int .i64 a), (30, .int .i64 m), (29, .slice B m d), (10, .int .i64 i), (26, .int .i64 i), (25, .int .i64 n4), (9, .bool e), (19, .int .i64 k), (18, .int .i64 2), (17, .slice (some ⟨gb, 0, none⟩) 2 2), (7, v), (2, .slice B m d), (3, .pointer (some ⟨gt, 0, none⟩))] ∧ fz2 = fz' ∧
          H' = (gt, .cells #[.slice A1 n1 c1, .slice A2 n2 c2, .slice A3 n3 c3, .slice A4 n4 c4] 26 (0, 0)) :: Hs ∧ OwnS 3 1 v n (xs.map (Value.int .i64)) Hs ∧ (∀ z ∈ xs, I64 z) ∧ xs = putHs t xs2 (selH (hs'.take a) e i))
        ⟨0, xs2, _, Nat.zero_le _, rfl, rfl, rfl, rfl, hO, hx2', rfl⟩ (by repeat (first | exact trivial | refine ⟨by exact rfl, ?_⟩)) (by repeat (first | exact List.Sublist.refl _ | exact List.nil_sublist _ | refine List.Sublist.cons_cons _ ?_ | refine List.Sublist.cons _ ?_)) ?_
      clear hO Hs
      rintro q σ fz' H' ⟨a, xs3, Hs, ha, rfl, rfl, rfl, rfl, hO, hx3, he3⟩
      ((refine Wp.seq ?_; refine Wp.region ?_))
      (((refine Seq.q (by exact rfl) ?_)); (refine q_lssD (by exact rfl) (by exact rfl) (fun hlt3 => ?_) (fun hge3 => ?_)))
      · ((refine Seq.done ?_; refine Wp.seq ?_; refine Wp.cond_true (by exact rfl) ?_; refine Wp.skip ?_; refine thenN ?_; refine Wp.seq ?_; refine Wp.block ?_; refine Wp.seq ?_; refine Wp.region ?_))
        obtain ⟨h, hh⟩ := get_some (l := hs') (k := a) (by omega)
        (((refine Seq.q (by exact rfl) ?_)); refine q_index T a (by exact rfl) (by exact rfl) (by exact rfl) (by exact rfl) (by exact rfl) (by exact rfl) hl (by first | rfl | omega) hh (fun p2 hp2 => ?_))
        (((refine Seq.q (by exact rfl) ?_)); refine q_load_at T (by exact rfl) (by exact rfl) (by exact rfl) hp2 (by exact rfl) ?_)
        rintro _ ⟨rfl, i1⟩
        refine Seq.stepK (by exact rfl) (k_alloc T (by exact rfl) (by exact rfl) (fun gh => ?_))
        have hho := hok h (List.mem_of_getElem? hh)
        obtain ⟨kk, j, hkk, hj, hwr, _⟩ := hap_job hho
        have htake : hs'.take (a + 1) = hs'.take a ++ [h] := by rw [List.take_add_one, hh]; rfl
        ((refine Seq.stepK0 (k_store0 T (by exact rfl) (by exact rfl) (by exact rfl) (by exact rfl) (by exact rfl) (by exact rfl) ?_); refine Seq.done ?_; refine Wp.seq ?_; refine Wp.seq ?_; refine Wp.region ?_; refine Seq.q (by exact rfl) ?_; refine q_fieldAddr T (by exact rfl) (by exact rfl) (by exact rfl) (by exact rfl) (by exact rfl) (by exact rfl) ?_; refine Seq.q (by exact rfl) ?_; refine q_load_own T 0 (by exact rfl) (by exact rfl) (by exact rfl) (by exact rfl) (by exact rfl) ?_; refine Seq.q (by exact rfl) ?_; refine q_move (by exact rfl) ?_))
        (((refine Seq.q (by exact rfl) ?_)); (refine q_neqD (by exact rfl) (by exact rfl) (fun q1 => ?_) (fun q1 => ?_)))
        · ((refine Seq.q (by exact rfl) ?_; refine q_move (by exact rfl) ?_; refine Seq.guard_no (by exact rfl) (by exact rfl) (by exact rfl) (by exact rfl) ?_; refine Seq.guard_no (by exact rfl) (by exact rfl) (by exact rfl) (by exact rfl) ?_; refine Seq.guard_no (by exact rfl) (by exact rfl) (by exact rfl) (by exact rfl) ?_; refine Seq.guard_no (by exact rfl) (by exact rfl) (by exact rfl) (by exact rfl) ?_; refine Seq.q (by exact rfl) ?_; refine q_pick_true (by exact rfl) (by exact rfl) ?_; refine Seq.done ?_; refine Wp.cond_true (by exact rfl) ?_; refine Wp.exit ?_; refine thenX ?_; refine blkX (by exact rfl) ?_; refine thenN ?_; refine Wp.region ?_; refine Seq.q (by exact rfl) ?_; refine q_add (by exact rfl) (by exact rfl) (wrap_in (by omega)) ?_; refine Seq.q (by exact rfl) ?_; refine q_move (by exact rfl) ?_; refine Seq.end_ ?_))
          refine loopN ⟨a + 1, xs3, Hs, by omega, rfl, rfl, rfl, rfl, hO, hx3, ?_⟩ (by omega) (by repeat (first | exact trivial | refine ⟨by exact rfl, ?_⟩)) (by repeat (first | exact List.Sublist.refl _ | exact List.nil_sublist _ | refine List.Sublist.cons_cons _ ?_ | refine List.Sublist.cons _ ?_))
          rw [htake, sel_snoc, if_neg (fun hc => q1 hc.1), List.append_nil, he3]
        · ((refine Seq.q (by exact rfl) ?_; refine q_move (by exact rfl) ?_; refine Seq.guard_yes (by exact rfl) (by exact rfl) (by exact rfl) ?_; refine q_fieldAddr T (by exact rfl) (by exact rfl) (by exact rfl) (by exact rfl) (by exact rfl) (by exact rfl) ?_; refine Seq.guard_yes (by exact rfl) (by exact rfl) (by exact rfl) ?_; refine q_load_own T 0 (by exact rfl) (by exact rfl) (by exact rfl) (by exact rfl) (by exact rfl) ?_; refine Seq.guard_yes (by exact rfl) (by exact rfl) (by exact rfl) ?_; refine q_move (by exact rfl) ?_))
          ((refine Seq.guard_yes (by exact rfl) (by exact rfl) (by exact rfl) ?_)); refine q_neq_boolD T (by exact rfl) (by exact rfl) (by exact rfl) (by exact rfl) (fun q2 => ?_) (fun q2 => ?_)
          · ((refine Seq.q (by exact rfl) ?_; refine q_pick_false (by exact rfl) (by exact rfl) ?_; refine Seq.done ?_; refine Wp.cond_true (by exact rfl) ?_; refine Wp.exit ?_; refine thenX ?_; refine blkX (by exact rfl) ?_; refine thenN ?_; refine Wp.region ?_; refine Seq.q (by exact rfl) ?_; refine q_add (by exact rfl) (by exact rfl) (wrap_in (by omega)) ?_; refine Seq.q (by exact rfl) ?_; refine q_move (by exact rfl) ?_; refine Seq.end_ ?_))
            refine loopN ⟨a + 1, xs3, Hs, by omega, rfl, rfl, rfl, rfl, hO, hx3, ?_⟩ (by omega) (by repeat (first | exact trivial | refine ⟨by exact rfl, ?_⟩)) (by repeat (first | exact List.Sublist.refl _ | exact List.nil_sublist _ | refine List.Sublist.cons_cons _ ?_ | refine List.Sublist.cons _ ?_))
            rw [htake, sel_snoc, if_neg (fun hc => q2 hc.2), List.append_nil, he3]
          · ((refine Seq.q (by exact rfl) ?_; refine q_pick_false (by exact rfl) (by exact rfl) ?_; refine Seq.done ?_; refine Wp.cond_false (by exact rfl) ?_; refine Wp.skip ?_; refine thenN ?_; refine Wp.seq ?_; refine Wp.region ?_; refine Seq.q (by exact rfl) ?_; refine q_load_own_all T 1 (by exact rfl) (by exact rfl) (by exact rfl) (by exact rfl) (by exact rfl) ?_; refine Seq.q (by exact rfl) ?_; refine q_load_own_all T 0 (by exact rfl) (by exact rfl) (by exact rfl) (by exact rfl) (by exact rfl) ?_))
            obtain ⟨F, f, cf, hsl, hq⟩ := twrites_q ht hkk hj (e := h.2)
            have hfl := hsl.len
            have hfs := hsl.short
            (((refine Seq.q (by exact rfl) ?_)); refine q_call (by exact rfl) (by exact rfl) hq ?_)
            ((refine Seq.q (by exact rfl) ?_; refine q_len_slice T (by exact rfl) (by exact rfl) (by exact rfl) ?_; refine Seq.q (by exact rfl) ?_; refine q_move (by exact rfl) ?_; refine Seq.done ?_; refine Wp.block ?_))
            refine Wp.loop (fun q σ fz' H' => ∃ (b : Nat) (xs : List Int) (Hs : HP), b ≤ f ∧ q = f - b ∧ σ = [(49, .int .i64 b), (48, .int .i64 f), (47, .slice F f cf), (31, .int .i64 a), (30, .int .i64 m), (29, .slice B m d), (10, .int .i64 i), (26, .int .i64 i), (25, .int .i64 n4), (9, .bool e), (19, .int .i64 k), (18, .int .i64 2), (17, .slice (some ⟨gb, 0, none⟩) 2 2), (7, v), (2, .slice B m d), (3, .pointer (some ⟨gt, 0, none⟩))] ∧ fz2 = fz' ∧
                H' = (gt, .cells #[.slice A1 n1 c1, .slice A2 n2 c2, .slice A3 n3 c3, .slice A4 n4 c4] 26 (0, 0)) :: Hs ∧ OwnS 3 1 v n (xs.map (Value.int .i64)) Hs ∧ (∀ z ∈ xs, I64 z) ∧ xs = putF xs3 ((wrJ j h.2).take b))
              ⟨0, xs3, _, Nat.zero_le _, rfl, rfl, rfl, rfl, hO, hx3, rfl⟩ (by repeat (first | exact trivial | refine ⟨by exact rfl, ?_⟩)) (by repeat (first | exact List.Sublist.refl _ | exact List.nil_sublist _ | refine List.Sublist.cons_cons _ ?_ | refine List.Sublist.cons _ ?_)) ?_
            clear hO Hs
            rintro q σ fz' H' ⟨b, xs4, Hs, hb', rfl, rfl, rfl, rfl, hO, hx4, he4⟩
            ((refine Wp.seq ?_; refine Wp.region ?_))
            (((refine Seq.q (by exact rfl) ?_)); (refine q_lssD (by exact rfl) (by exact rfl) (fun hlt4 => ?_) (fun hge4 => ?_)))
            · ((refine Seq.done ?_; refine Wp.seq ?_; refine Wp.cond_true (by exact rfl) ?_; refine Wp.skip ?_; refine thenN ?_; refine Wp.seq ?_; refine Wp.block ?_; refine Wp.seq ?_; refine Wp.region ?_))
              obtain ⟨y, hy⟩ := get_some (l := wrJ j h.2) (k := b) (by omega)
              have hwo := hw j (List.mem_of_getElem? hj) h.2 y (List.mem_of_getElem? hy)
              (((refine Seq.q (by exact rfl) ?_)); refine q_index T b (by exact rfl) (by exact rfl) (by exact rfl) (by exact rfl) (by exact rfl) (by exact rfl) hsl (by first | rfl | omega) hy (fun p3 hp3 => ?_))
              (((refine Seq.q (by exact rfl) ?_)); refine q_load_at T (by exact rfl) (by exact rfl) (by exact rfl) hp3 (by exact rfl) ?_)
              rintro _ ⟨rfl, i2, i3⟩
              refine Seq.stepK (by exact rfl) (k_alloc T (by exact rfl) (by exact rfl) (fun gf => ?_))
              obtain ⟨g, cap, cur, rfl, rfl, hcur, hset⟩ := ownS_block hO (by omega)
              ((refine Seq.stepK0 (k_store0 T (by exact rfl) (by exact rfl) (by exact rfl) (by exact rfl) (by exact rfl) (by exact rfl) ?_); refine Seq.done ?_; refine Wp.region ?_; refine Seq.q (by exact rfl) ?_; refine q_move (by exact rfl) ?_; refine Seq.q (by exact rfl) ?_; refine q_fieldAddr T (by exact rfl) (by exact rfl) (by exact rfl) (by exact rfl) (by exact rfl) (by exact rfl) ?_; refine Seq.q (by exact rfl) ?_; refine q_load_own T 0 (by exact rfl) (by exact rfl) (by exact rfl) (by exact rfl) (by exact rfl) ?_; refine Seq.q (by exact rfl) ?_; refine q_fieldAddr T (by exact rfl) (by exact rfl) (by exact rfl) (by exact rfl) (by exact rfl) (by exact rfl) ?_; refine Seq.q (by exact rfl) ?_; refine q_load_own T 0 (by exact rfl) (by exact rfl) (by exact rfl) (by exact rfl) (by exact rfl) ?_))
              ((refine Seq.q (by exact rfl) ?_)); refine q_index_own T (by exact rfl) (by exact rfl) (by exact rfl) (by exact rfl) (by exact rfl) (by exact rfl) (by omega) (by omega) ?_
              refine Seq.stepK0 (k_store_row T (pre := [_, _]) (post := []) (by exact rfl) (by exact rfl) (by exact rfl) (by exact rfl) (by exact rfl) (by exact rfl) (by exact rfl) (by omega) ?_)
              ((refine Seq.end_ ?_; refine blkN ?_; refine thenN ?_; refine Wp.region ?_; refine Seq.q (by exact rfl) ?_; refine q_add (by exact rfl) (by exact rfl) (wrap_in (by omega)) ?_; refine Seq.q (by exact rfl) ?_; refine q_move (by exact rfl) ?_; refine Seq.end_ ?_))
              refine loopN ⟨b + 1, xs4.set y.var.toNat y.val, _, by omega, rfl, rfl, rfl, rfl, ?_, ?_, ?_⟩ (by omega) (by repeat (first | exact trivial | refine ⟨by exact rfl, ?_⟩)) (by repeat (first | exact List.Sublist.refl _ | exact List.nil_sublist _ | refine List.Sublist.cons_cons _ ?_ | refine List.Sublist.cons _ ?_))
              · rw [List.map_set]; exact hset _ _
              · intro z hz
                rcases List.mem_or_eq_of_mem_set hz with hz | rfl
                · exact hx4 z hz
                · exact i3
              · rw [List.take_add_one, hy, he4]
                exact (putF_snoc _ _ _).symm
            · ((refine Seq.done ?_; refine Wp.seq ?_; refine Wp.cond_false (by exact rfl) ?_; refine Wp.exit ?_; refine thenX ?_; refine loopX ?_; refine blkX (by exact rfl) ?_; refine blkN ?_; refine thenN ?_; refine Wp.region ?_; refine Seq.q (by exact rfl) ?_; refine q_add (by exact rfl) (by exact rfl) (wrap_in (by omega)) ?_; refine Seq.q (by exact rfl) ?_; refine q_move (by exact rfl) ?_; refine Seq.end_ ?_))
              refine loopN ⟨a + 1, xs4, Hs, by omega, rfl, rfl, rfl, rfl, hO, hx4, ?_⟩ (by omega) (by repeat (first | exact trivial | refine ⟨by exact rfl, ?_⟩)) (by repeat (first | exact List.Sublist.refl _ | exact List.nil_sublist _ | refine List.Sublist.cons_cons _ ?_ | refine List.Sublist.cons _ ?_))
              rw [htake, sel_snoc, if_pos ⟨q1, q2⟩, putHs_append, ← he3, he4, List.take_of_length_le (by omega)]
              show _ = putF xs3 (wrH t h)
              rw [hwr]
      · ((refine Seq.done ?_; refine Wp.seq ?_; refine Wp.cond_false (by exact rfl) ?_; refine Wp.exit ?_; refine thenX ?_; refine loopX ?_; refine blkX (by exact rfl) ?_; refine blkN ?_; refine thenN ?_; refine Wp.region ?_; refine Seq.q (by exact rfl) ?_; refine q_add (by exact rfl) (by exact rfl) (wrap_in (by omega)) ?_; refine Seq.q (by exact rfl) ?_; refine q_move (by exact rfl) ?_; refine Seq.end_ ?_))
        refine loopN ⟨i + 1, xs3, Hs, by omega, rfl, rfl, rfl, rfl, hO, hx3, ?_⟩ (by omega) (by repeat (first | exact trivial | refine ⟨by exact rfl, ?_⟩)) (by repeat (first | exact List.Sublist.refl _ | exact List.nil_sublist _ | refine List.Sublist.cons_cons _ ?_ | refine List.Sublist.cons _ ?_))
        rw [List.range_succ, List.flatMap_append, putHs_append, ← he2, he3, List.take_of_length_le (by omega)]
        simp
    · ((refine Seq.done ?_; refine Wp.seq ?_; refine Wp.cond_false (by exact rfl) ?_; refine Wp.exit ?_; refine thenX ?_; refine loopX ?_; refine blkX (by exact rfl) ?_; refine blkN ?_; refine thenN ?_; refine Wp.region ?_; refine Seq.q (by exact rfl) ?_; refine q_add (by exact rfl) (by exact rfl) (wrap_in (by omega)) ?_; refine Seq.q (by exact rfl) ?_; refine q_move (by exact rfl) ?_; refine Seq.end_ ?_))
      refine loopN ⟨k + 1, xs2, Hs, by omega, rfl, rfl, rfl, rfl, hO, hx2', ?_⟩ (by omega) (by repeat (first | exact trivial | refine ⟨by exact rfl, ?_⟩)) (by repeat (first | exact List.Sublist.refl _ | exact List.nil_sublist _ | refine List.Sublist.cons_cons _ ?_ | refine List.Sublist.cons _ ?_))
      have hi4 : i = t.jobs.length := by omega
      rw [List.take_add_one, hee, List.flatMap_append, putHs_append, ← he1, he2, hi4]
      simp [ordE]
  · ((refine Seq.done ?_; refine Wp.seq ?_; refine Wp.cond_false (by exact rfl) ?_; refine Wp.exit ?_; refine thenX ?_; refine loopX ?_; refine blkX (by exact rfl) ?_; refine thenN ?_; refine Wp.seq ?_; refine Wp.region ?_; refine Seq.q (by exact rfl) ?_; refine q_move (by exact rfl) ?_; refine Seq.q (by exact rfl) ?_; refine q_assign (by exact rfl) ?_; refine Seq.done ?_; refine Wp.ret ?_))
    refine ret1F rfl rfl (fun fz3 hle3 hf => ?_)
    obtain ⟨A, c, hv, hsl⟩ := sl_ints hO (fun p hp => hf p (by simp [hp])) (by omega) hx1
    refine ⟨rfl, A, c, hv, ?_⟩
    have : k = 2 := by omega
    subst this
    rw [he1] at hsl
    exact hsl
end Go.Proofs.Ytfidaamledbmpaa
