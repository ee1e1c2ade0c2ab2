/- TemporalHolds, walked: it returns true, whatever the task and the launches. Conditions: the arguments read as data. -/
import Derived.Test.YtfidaamledbmpaaWalkL
import Derived.Test.YtfidaamledbmpaaCut
namespace Go.Proofs.Ytfidaamledbmpaa
open Go.Lx Go.RowKit
attribute [local instance 10] Classical.propDecidable

theorem sts_get (t : Temporal) (ls : List Launch) {i n : Nat} (h : i < n) : (stsM t ls n)[i]? = some (stM t ls (i + 1)) := by simp [stsM, h]
set_option maxHeartbeats 4000000 in
theorem holds_law_q {fz : FZ} {t : Temporal} {A1 : Option Addr} {n1 c1 : Nat} {A2 : Option Addr} {n2 c2 : Nat} {A3 : Option Addr} {n3 c3 : Nat} {A4 : Option Addr} {n4 c4 : Nat} (ht : TempR fz t A1 n1 c1 A2 n2 c2 A3 n3 c3 A4 n4 c4) {B : Option Addr} {m d : Nat} {ls : List Launch} (hl : Sl launchL fz B m d ls) :
    QFn Try.prog 8 [.agg #[.slice A1 n1 c1, .slice A2 n2 c2, .slice A3 n3 c3, .slice A4 n4 c4], .slice B m d] fz (.bool true) := by
  refine GFn.quiet ?_
  (refine GFn.of_wp Try.func8 rfl Try.ntmps8 rfl rfl (fun w0 => ?_))
  have l4 := ht.jobs.len
  have lm := hl.len
  have sm := hl.short
  obtain ⟨code, hcode⟩ := check_total t
  refine Wp.seq (Wp.region (Seq.stepK (by exact rfl) (k_box _ (by exact rfl) (by exact rfl) (fun gt => ?_))))
  ((refine Seq.q (by exact rfl) ?_; refine q_assign (by exact rfl) ?_; refine Seq.done ?_; refine Wp.seq ?_; refine Wp.seq ?_; refine Wp.region ?_))
  (((refine Seq.q (by exact rfl) ?_)); refine q_call (by exact rfl) (by exact rfl) awake_q ?_)
  ((refine Seq.q (by exact rfl) ?_; refine q_not (by exact rfl) ?_; refine Seq.q (by exact rfl) ?_; refine q_move (by exact rfl) ?_; refine Seq.guard_yes (by exact rfl) (by exact rfl) (by exact rfl) ?_; refine q_load_own_all T 0 (by exact rfl) (by exact rfl) (by exact rfl) (by exact rfl) (by exact rfl) ?_; refine Seq.guard_yes (by exact rfl) (by exact rfl) (by exact rfl) ?_; refine q_move (by exact rfl) ?_))
  (((refine Seq.guard_yes (by exact rfl) (by exact rfl) (by exact rfl) ?_)); refine q_callB (by exact rfl) (by exact rfl) (few_q ht) (fun q1 => ?_) (fun q1 => ?_))
  rotate_left
  · ((refine Seq.guard_yes (by exact rfl) (by exact rfl) (by exact rfl) ?_; refine q_not (by exact rfl) ?_; refine Seq.q (by exact rfl) ?_; refine q_pick_false (by exact rfl) (by exact rfl) ?_; refine Seq.done ?_; refine Wp.cond_true (by exact rfl) ?_; refine Wp.seq ?_; refine Wp.region ?_))
    (((refine Seq.q (by exact rfl) ?_)); refine q_call (by exact rfl) (by exact rfl) awake_q ?_)
    ((refine Seq.q (by exact rfl) ?_; refine q_assign (by exact rfl) ?_; refine Seq.done ?_; refine Wp.ret ?_; refine thenR ?_))
    (exact ret1 rfl rfl (by repeat (first | exact List.Sublist.refl _ | exact List.nil_sublist _ | refine List.Sublist.cons_cons _ ?_ | refine List.Sublist.cons _ ?_)) rfl)
  replace q1 := of_decide_eq_true q1
  have h4 : n4 ≤ 1000 := by have := q1.2.1; omega
  obtain ⟨ticks, hticks⟩ : ∃ ticks, code = 0 → launchesM t ls = 0 → TicksR t ls ticks := by
    by_cases h : code = 0 ∧ launchesM t ls = 0
    · obtain ⟨rfl, h⟩ := h
      obtain ⟨tk, htk⟩ := ticks_total (good_of hcode).dur (launches_ok h).2
      exact ⟨tk, fun _ _ => htk⟩
    · exact ⟨[], fun h1 h2 => absurd ⟨h1, h2⟩ h⟩
  have hvq := tvalidate_q ht h4 hl hcode hticks
  obtain ⟨nn, c, hv⟩ : ∃ n c, validM code t ls ticks = (n, c) := ⟨_, _, rfl⟩
  rw [hv] at hvq
  ((refine Seq.guard_yes (by exact rfl) (by exact rfl) (by exact rfl) ?_; refine q_not (by exact rfl) ?_; refine Seq.q (by exact rfl) ?_; refine q_pick_false (by exact rfl) (by exact rfl) ?_; refine Seq.done ?_; refine Wp.cond_false (by exact rfl) ?_; refine Wp.skip ?_; refine thenN ?_; refine Wp.seq ?_; refine Wp.region ?_; refine Seq.q (by exact rfl) ?_; refine q_load_own_all T 0 (by exact rfl) (by exact rfl) (by exact rfl) (by exact rfl) (by exact rfl) ?_; refine Seq.q (by exact rfl) ?_; refine q_move (by exact rfl) ?_))
  (((refine Seq.q (by exact rfl) ?_)); refine q_call (by exact rfl) (by exact rfl) hvq ?_)
  by_cases hc : c = 0
  rotate_left
  · rw [errV_ne hc]
    ((refine Seq.q (by exact rfl) ?_; refine q_move (by exact rfl) ?_; refine Seq.q (by exact rfl) ?_; refine q_extract (by exact rfl) (by exact rfl) ?_; refine Seq.q (by exact rfl) ?_; refine q_extract (by exact rfl) (by exact rfl) ?_; refine Seq.q (by exact rfl) ?_; refine q_assign (by exact rfl) ?_; refine Seq.q (by exact rfl) ?_; refine q_assign (by exact rfl) ?_; refine Seq.done ?_; refine Wp.seq ?_; refine Wp.seq ?_; refine Wp.region ?_; refine Seq.q (by exact rfl) ?_; refine q_move (by exact rfl) ?_; refine Seq.q (by exact rfl) ?_; refine q_neq_some T (by exact rfl) (by exact rfl) (by exact rfl) (by exact rfl) ?_; refine Seq.q (by exact rfl) ?_; refine q_move (by exact rfl) ?_; refine Seq.guard_no (by exact rfl) (by exact rfl) (by exact rfl) (by exact rfl) ?_; refine Seq.guard_no (by exact rfl) (by exact rfl) (by exact rfl) (by exact rfl) ?_; refine Seq.q (by exact rfl) ?_; refine q_pick_true (by exact rfl) (by exact rfl) ?_; refine Seq.done ?_; refine Wp.cond_true (by exact rfl) ?_; refine Wp.seq ?_; refine Wp.region ?_; refine Seq.q (by exact rfl) ?_; refine q_assign (by exact rfl) ?_; refine Seq.done ?_; refine Wp.ret ?_; refine thenR ?_))
    (exact ret1 rfl rfl (by repeat (first | exact List.Sublist.refl _ | exact List.nil_sublist _ | refine List.Sublist.cons_cons _ ?_ | refine List.Sublist.cons _ ?_)) rfl)
  subst hc
  rw [show errV 0 = .nilIface from rfl]
  have := valid_code hv
  subst this
  have V := valid_of (good_of hcode).dur (hticks rfl) hv
  obtain ⟨N, hN⟩ := span_nat t ls
  have hs1 := V.span
  rw [hN] at hs1
  subst hs1
  ((refine Seq.q (by exact rfl) ?_; refine q_move (by exact rfl) ?_; refine Seq.q (by exact rfl) ?_; refine q_extract (by exact rfl) (by exact rfl) ?_; refine Seq.q (by exact rfl) ?_; refine q_extract (by exact rfl) (by exact rfl) ?_; refine Seq.q (by exact rfl) ?_; refine q_assign (by exact rfl) ?_; refine Seq.q (by exact rfl) ?_; refine q_assign (by exact rfl) ?_; refine Seq.done ?_; refine Wp.seq ?_; refine Wp.seq ?_; refine Wp.region ?_; refine Seq.q (by exact rfl) ?_; refine q_move (by exact rfl) ?_; refine Seq.q (by exact rfl) ?_; refine q_neq_nil T (by exact rfl) (by exact rfl) (by exact rfl) (by exact rfl) ?_; refine Seq.q (by exact rfl) ?_; refine q_move (by exact rfl) ?_; refine Seq.guard_yes (by exact rfl) (by exact rfl) (by exact rfl) ?_; refine q_move (by exact rfl) ?_))
  (((refine Seq.guard_yes (by exact rfl) (by exact rfl) (by exact rfl) ?_)); (refine q_gtrD (by exact rfl) (by exact rfl) (fun h3 => ?_) (fun h3 => ?_)))
  · ((refine Seq.q (by exact rfl) ?_; refine q_pick_false (by exact rfl) (by exact rfl) ?_; refine Seq.done ?_; refine Wp.cond_true (by exact rfl) ?_; refine Wp.seq ?_; refine Wp.region ?_; refine Seq.q (by exact rfl) ?_; refine q_assign (by exact rfl) ?_; refine Seq.done ?_; refine Wp.ret ?_; refine thenR ?_))
    (exact ret1 rfl rfl (by repeat (first | exact List.Sublist.refl _ | exact List.nil_sublist _ | refine List.Sublist.cons_cons _ ?_ | refine List.Sublist.cons _ ?_)) rfl)
  ((refine Seq.q (by exact rfl) ?_; refine q_pick_false (by exact rfl) (by exact rfl) ?_; refine Seq.done ?_; refine Wp.cond_false (by exact rfl) ?_; refine Wp.skip ?_; refine thenN ?_; refine Wp.seq ?_; refine Wp.region ?_; refine Seq.q (by exact rfl) ?_; refine q_load_own_all T 0 (by exact rfl) (by exact rfl) (by exact rfl) (by exact rfl) (by exact rfl) ?_; refine Seq.q (by exact rfl) ?_; refine q_move (by exact rfl) ?_))
  have hG := good_of hcode
  have hd := hG.dur
  have hok := (launches_ok V.launches).2
  refine Seq.stepK (by exact rfl) (k_call [] [_] (by exact rfl) (by exact rfl) (by exact rfl) (tstates_f ht h4 hl hcode) (fun v fz1 Hs hle1 hR => ?_))
  obtain ⟨rfl, A, k1, e1, rfl, hsl⟩ := hR
  have hc : stsC 0 t ls = 0 := by unfold stsC; rw [if_neg (fun h => h rfl), if_neg (fun h => h V.launches), hN, if_neg (by omega)]
  have hL : stsL 0 t ls = stsM t ls (N + 1) := by unfold stsL; rw [if_pos hc, hN]; rfl
  rw [hc, show errV 0 = .nilIface from rfl]
  rw [hL] at hsl
  have lk1 := hsl.len
  simp [stsM] at lk1
  subst lk1
  replace ht := ht.mono hle1
  replace hl := hl.mono hle1
  ((refine Seq.q (by exact rfl) ?_; refine q_move (by exact rfl) ?_; refine Seq.q (by exact rfl) ?_; refine q_extract (by exact rfl) (by exact rfl) ?_; refine Seq.q (by exact rfl) ?_; refine q_extract (by exact rfl) (by exact rfl) ?_; refine Seq.q (by exact rfl) ?_; refine q_assign (by exact rfl) ?_; refine Seq.q (by exact rfl) ?_; refine q_assign (by exact rfl) ?_; refine Seq.done ?_; refine Wp.seq ?_; refine Wp.seq ?_; refine Wp.draw (by decide +kernel) T.mixed (by kernel_rfl) (by kernel_rfl) ?_; refine QL.q ?_; refine q_move (by exact rfl) ?_; refine QL.q ?_; refine q_neq_nil T (by exact rfl) (by exact rfl) (by exact rfl) (by exact rfl) ?_; refine QL.q ?_; refine q_move (by exact rfl) ?_; refine QL.yes (by exact rfl) ?_; refine q_move (by exact rfl) ?_; refine QL.yes (by exact rfl) ?_; refine q_len_slice T (by exact rfl) (by exact rfl) (by exact rfl) ?_; refine QL.yes (by exact rfl) ?_; refine q_move (by exact rfl) ?_; refine QL.yes (by exact rfl) ?_; refine q_add (by exact rfl) (by exact rfl) (wrap_in (by omega)) ?_))
  (((refine QL.yes (by exact rfl) ?_)); (refine q_neqD (by exact rfl) (by exact rfl) (fun h5 => ?_) (fun h5 => ?_)))
  · omega
  ((refine QL.q ?_; refine q_pick_false (by exact rfl) (by exact rfl) ?_; refine QL.q ?_; refine q_move (by exact rfl) ?_; refine QL.yes (by exact rfl) ?_; refine q_fieldAddr T (by exact rfl) (by exact rfl) (by exact rfl) (by exact rfl) (by exact rfl) (by exact rfl) ?_; refine QL.yes (by exact rfl) ?_; refine q_load_own T 0 (by exact rfl) (by exact rfl) (by exact rfl) (by exact rfl) (by exact rfl) ?_; refine QL.yes (by exact rfl) ?_; refine q_move (by exact rfl) ?_; refine QL.yes (by exact rfl) ?_; refine q_move (by exact rfl) ?_))
  (((refine QL.yes (by exact rfl) ?_)); refine q_index T N (by exact rfl) (by exact rfl) (by exact rfl) (by exact rfl) (by exact rfl) (by exact rfl) hsl (by first | rfl | omega) (sts_get t ls (by omega)) (fun p hp => ?_))
  (((refine QL.yes (by exact rfl) ?_)); refine q_load_sl T (by exact rfl) (by exact rfl) (by exact rfl) hp (fun X nx cx hX => ?_))
  (skip)
  (((refine QL.yes (by exact rfl) ?_)); refine q_call (by exact rfl) (by exact rfl) (holds_yes ht.goal hX V.goal) ?_)
  ((refine QL.yes (by exact rfl) ?_; refine q_not (by exact rfl) ?_; refine QL.q ?_; refine q_pick_false (by exact rfl) (by exact rfl) ?_; refine QL.done ?_; refine thenN ?_; refine Wp.cond_false (by exact rfl) ?_; refine Wp.skip ?_; refine thenN ?_; refine Wp.seq ?_; refine Wp.seq ?_; refine Wp.region ?_; refine Seq.q (by exact rfl) ?_; refine q_move (by exact rfl) ?_; refine Seq.q (by exact rfl) ?_; refine q_len_slice T (by exact rfl) (by exact rfl) (by exact rfl) ?_; refine Seq.q (by exact rfl) ?_; refine q_move (by exact rfl) ?_; refine Seq.done ?_; refine Wp.block ?_))
  clear hp hX
  refine Wp.loop (fun q σ fz' H' => ∃ k : Nat, k ≤ m ∧ q = m - k ∧ σ = [(62, .int .i64 k), (61, .int .i64 m), (60, .slice B m d), (5, .int .i64 N), (7, .slice A (N + 1) e1), (2, .pointer (some ⟨gt, 0, none⟩))] ∧ fz1 = fz' ∧
      H' = [(gt, .cells #[.slice A1 n1 c1, .slice A2 n2 c2, .slice A3 n3 c3, .slice A4 n4 c4] 26 (0, 0))])
    ⟨0, Nat.zero_le _, rfl, rfl, rfl, rfl⟩ (by repeat (first | exact trivial | refine ⟨by exact rfl, ?_⟩)) (by repeat (first | exact List.Sublist.refl _ | exact List.nil_sublist _ | refine List.Sublist.cons_cons _ ?_ | refine List.Sublist.cons _ ?_)) ?_
  rintro q σ fz' H' ⟨k, hk, rfl, rfl, rfl, rfl⟩
  ((refine Wp.seq ?_; refine Wp.region ?_))
  (((refine Seq.q (by exact rfl) ?_)); (refine q_lssD (by exact rfl) (by exact rfl) (fun hlt => ?_) (fun hge => ?_)))
  rotate_left
  · ((refine Seq.done ?_; refine Wp.seq ?_; refine Wp.cond_false (by exact rfl) ?_; refine Wp.exit ?_; refine thenX ?_; refine loopX ?_; refine blkX (by exact rfl) ?_; refine thenN ?_; refine Wp.seq ?_; refine Wp.region ?_; refine Seq.q (by exact rfl) ?_; refine q_assign (by exact rfl) ?_; refine Seq.done ?_; refine Wp.ret ?_))
    (exact ret1 rfl rfl (by repeat (first | exact List.Sublist.refl _ | exact List.nil_sublist _ | refine List.Sublist.cons_cons _ ?_ | refine List.Sublist.cons _ ?_)) rfl)
  ((refine Seq.done ?_; refine Wp.seq ?_; refine Wp.cond_true (by exact rfl) ?_; refine Wp.skip ?_; refine thenN ?_; refine Wp.seq ?_; refine Wp.block ?_; refine Wp.seq ?_; refine Wp.region ?_))
  obtain ⟨l, hlk⟩ := get_some (l := ls) (k := k) (by omega)
  have hlm := List.mem_of_getElem? hlk
  have hlo := hok l hlm
  obtain ⟨kk, j, hkk, hj, he⟩ := launch_job hlo
  have hbd := end_bd hlo hd
  have hdj := hd j (List.mem_of_getElem? hj)
  have hat := hlo.2.2
  have hjob := hlo.2.1
  have hend : endM t l = l.at_ + j.dur := he
  have hsp := span_le (t := t) ls 0 l hlm
  change endM t l ≤ spanM t ls at hsp
  rw [hN] at hsp
  obtain ⟨a, ha⟩ : ∃ a : Nat, l.at_ = a := ⟨l.at_.toNat, by omega⟩
  obtain ⟨e, hee⟩ : ∃ e : Nat, endM t l = e := ⟨(endM t l).toNat, by omega⟩
  have hj0 : t.jobs[l.job.toNat]? = some j := by rw [hkk]; exact hj
  obtain ⟨f1, f2⟩ := V.at hcode (ha ▸ (haps_has (t := t) hlm).1)
  obtain ⟨f3, f4⟩ := V.at hcode (hee ▸ (haps_has (t := t) hlm).2)
  simp only [rdH, wrH, hj0, Option.map_some, Option.getD_some, rdJ, wrJ, if_true, Bool.false_eq_true, if_false] at f1 f2 f3 f4
  have f5 := V.over hlm ha
  simp only [overL, hj0, Option.map_some, Option.getD_some] at f5
  (((refine Seq.q (by exact rfl) ?_)); refine q_index T k (by exact rfl) (by exact rfl) (by exact rfl) (by exact rfl) (by exact rfl) (by exact rfl) hl (by first | rfl | omega) hlk (fun p hp => ?_))
  (((refine Seq.q (by exact rfl) ?_)); refine q_load_at T (by exact rfl) (by exact rfl) (by exact rfl) hp (by exact rfl) ?_)
  rintro _ ⟨rfl, i1, i2⟩
  refine Seq.stepK (by exact rfl) (k_alloc T (by exact rfl) (by exact rfl) (fun gl => ?_))
  ((refine Seq.stepK0 (k_store0 T (by exact rfl) (by exact rfl) (by exact rfl) (by exact rfl) (by exact rfl) (by exact rfl) ?_); refine Seq.done ?_; refine Wp.seq ?_; refine Wp.seq ?_; refine Wp.region ?_; refine Seq.q (by exact rfl) ?_; refine q_fieldAddr T (by exact rfl) (by exact rfl) (by exact rfl) (by exact rfl) (by exact rfl) (by exact rfl) ?_; refine Seq.q (by exact rfl) ?_; refine q_load_own T 0 (by exact rfl) (by exact rfl) (by exact rfl) (by exact rfl) (by exact rfl) ?_))
  (((refine Seq.q (by exact rfl) ?_)); (refine q_lssD (by exact rfl) (by exact rfl) (fun z => ?_) (fun z => ?_)))
  · omega
  ((refine Seq.q (by exact rfl) ?_; refine q_move (by exact rfl) ?_; refine Seq.guard_yes (by exact rfl) (by exact rfl) (by exact rfl) ?_; refine q_fieldAddr T (by exact rfl) (by exact rfl) (by exact rfl) (by exact rfl) (by exact rfl) (by exact rfl) ?_; refine Seq.guard_yes (by exact rfl) (by exact rfl) (by exact rfl) ?_; refine q_load_own T 0 (by exact rfl) (by exact rfl) (by exact rfl) (by exact rfl) (by exact rfl) ?_; refine Seq.guard_yes (by exact rfl) (by exact rfl) (by exact rfl) ?_; refine q_fieldAddr T (by exact rfl) (by exact rfl) (by exact rfl) (by exact rfl) (by exact rfl) (by exact rfl) ?_; refine Seq.guard_yes (by exact rfl) (by exact rfl) (by exact rfl) ?_; refine q_load_own T 1 (by exact rfl) (by exact rfl) (by exact rfl) (by exact rfl) (by exact rfl) ?_; refine Seq.guard_yes (by exact rfl) (by exact rfl) (by exact rfl) ?_; refine q_len_slice T (by exact rfl) (by exact rfl) (by exact rfl) ?_))
  (((refine Seq.guard_yes (by exact rfl) (by exact rfl) (by exact rfl) ?_)); (refine q_geqD (by exact rfl) (by exact rfl) (fun z2 => ?_) (fun z2 => ?_)))
  · omega
  ((refine Seq.q (by exact rfl) ?_; refine q_pick_false (by exact rfl) (by exact rfl) ?_; refine Seq.q (by exact rfl) ?_; refine q_move (by exact rfl) ?_; refine Seq.guard_yes (by exact rfl) (by exact rfl) (by exact rfl) ?_; refine q_fieldAddr T (by exact rfl) (by exact rfl) (by exact rfl) (by exact rfl) (by exact rfl) (by exact rfl) ?_; refine Seq.guard_yes (by exact rfl) (by exact rfl) (by exact rfl) ?_; refine q_load_own T 0 (by exact rfl) (by exact rfl) (by exact rfl) (by exact rfl) (by exact rfl) ?_))
  (((refine Seq.guard_yes (by exact rfl) (by exact rfl) (by exact rfl) ?_)); (refine q_lssD (by exact rfl) (by exact rfl) (fun z3 => ?_) (fun z3 => ?_)))
  · omega
  ((refine Seq.q (by exact rfl) ?_; refine q_pick_false (by exact rfl) (by exact rfl) ?_; refine Seq.q (by exact rfl) ?_; refine q_move (by exact rfl) ?_; refine Seq.guard_yes (by exact rfl) (by exact rfl) (by exact rfl) ?_; refine q_fieldAddr T (by exact rfl) (by exact rfl) (by exact rfl) (by exact rfl) (by exact rfl) (by exact rfl) ?_; refine Seq.guard_yes (by exact rfl) (by exact rfl) (by exact rfl) ?_; refine q_load_own T 0 (by exact rfl) (by exact rfl) (by exact rfl) (by exact rfl) (by exact rfl) ?_; refine Seq.guard_yes (by exact rfl) (by exact rfl) (by exact rfl) ?_; refine q_move (by exact rfl) ?_))
  (((refine Seq.guard_yes (by exact rfl) (by exact rfl) (by exact rfl) ?_)); (refine q_geqD (by exact rfl) (by exact rfl) (fun z4 => ?_) (fun z4 => ?_)))
  · omega
  ((refine Seq.q (by exact rfl) ?_; refine q_pick_false (by exact rfl) (by exact rfl) ?_; refine Seq.done ?_; refine Wp.cond_false (by exact rfl) ?_; refine Wp.skip ?_; refine thenN ?_; refine Wp.seq ?_; refine Wp.region ?_; refine Seq.q (by exact rfl) ?_; refine q_fieldAddr T (by exact rfl) (by exact rfl) (by exact rfl) (by exact rfl) (by exact rfl) (by exact rfl) ?_; refine Seq.q (by exact rfl) ?_; refine q_load_own T 1 (by exact rfl) (by exact rfl) (by exact rfl) (by exact rfl) (by exact rfl) ?_; refine Seq.q (by exact rfl) ?_; refine q_fieldAddr T (by exact rfl) (by exact rfl) (by exact rfl) (by exact rfl) (by exact rfl) (by exact rfl) ?_; refine Seq.q (by exact rfl) ?_; refine q_load_own T 0 (by exact rfl) (by exact rfl) (by exact rfl) (by exact rfl) (by exact rfl) ?_))
  (((refine Seq.q (by exact rfl) ?_)); refine q_index T kk (by exact rfl) (by exact rfl) (by exact rfl) (by exact rfl) (by exact rfl) (by exact rfl) ht.jobs (by first | rfl | omega) hj (fun p3 hp3 => ?_))
  (((refine Seq.q (by exact rfl) ?_)); refine q_load_at T (by exact rfl) (by exact rfl) (by exact rfl) hp3 (by exact rfl) ?_)
  rintro _ ⟨B1, m1, d1, B2, m2, d2, B3, m3, d3, B4, m4, d4, B5, m5, d5, rfl, hJ⟩
  refine Seq.stepK (by exact rfl) (k_alloc T (by exact rfl) (by exact rfl) (fun gj => ?_))
  ((refine Seq.stepK0 (k_store0 T (by exact rfl) (by exact rfl) (by exact rfl) (by exact rfl) (by exact rfl) (by exact rfl) ?_); refine Seq.done ?_; refine Wp.seq ?_; refine Wp.region ?_; refine Seq.q (by exact rfl) ?_; refine q_fieldAddr T (by exact rfl) (by exact rfl) (by exact rfl) (by exact rfl) (by exact rfl) (by exact rfl) ?_; refine Seq.q (by exact rfl) ?_; refine q_load_own T 2 (by exact rfl) (by exact rfl) (by exact rfl) (by exact rfl) (by exact rfl) ?_; refine Seq.q (by exact rfl) ?_; refine q_assign (by exact rfl) ?_; refine Seq.done ?_; refine Wp.seq ?_; refine Wp.seq ?_; refine Wp.region ?_; refine Seq.q (by exact rfl) ?_; refine q_fieldAddr T (by exact rfl) (by exact rfl) (by exact rfl) (by exact rfl) (by exact rfl) (by exact rfl) ?_; refine Seq.q (by exact rfl) ?_; refine q_load_own T 1 (by exact rfl) (by exact rfl) (by exact rfl) (by exact rfl) (by exact rfl) ?_))
  ((refine Seq.q (by exact rfl) ?_)); refine q_gtr (by exact rfl) (by exact rfl) ?_
  ((refine Seq.done ?_))
  refine Wp.cutA (fun σ fz' H' => ∃ (S : Option Addr) (ns cs : Nat), Sl intL fz1 S ns cs (stM t ls a) ∧ σ = [(11, .slice S ns cs), (9, .pointer (some ⟨gl, 0, none⟩)), (10, .pointer (some ⟨gj, 0, none⟩)), (62, .int .i64 k), (61, .int .i64 m), (60, .slice B m d), (5, .int .i64 N), (7, .slice A (N + 1) e1), (2, .pointer (some ⟨gt, 0, none⟩))] ∧ fz1 = fz' ∧
      H' = [(gj, .cells #[.string j.name, .int .i64 j.dur, .slice B1 m1 d1, .slice B2 m2 d2, .slice B3 m3 d3, .slice B4 m4 d4, .slice B5 m5 d5] 47 (0, 0)), (gl, .cells #[.int .i64 l.at_, .int .i64 l.job] 40 (0, 0)), (gt, .cells #[.slice A1 n1 c1, .slice A2 n2 c2, .slice A3 n3 c3, .slice A4 n4 c4] 26 (0, 0))]) (Wp.condP rfl (fun hp0 => ?_) (fun hp0 => ?_)) ?_
  · ((refine Wp.region ?_; refine Seq.q (by exact rfl) ?_; refine q_move (by exact rfl) ?_; refine Seq.q (by exact rfl) ?_; refine q_fieldAddr T (by exact rfl) (by exact rfl) (by exact rfl) (by exact rfl) (by exact rfl) (by exact rfl) ?_; refine Seq.q (by exact rfl) ?_; refine q_load_own T 1 (by exact rfl) (by exact rfl) (by exact rfl) (by exact rfl) (by exact rfl) ?_; refine Seq.q (by exact rfl) ?_; refine q_sub (by exact rfl) (by exact rfl) (wrap_in (by omega)) ?_))
    (((refine Seq.q (by exact rfl) ?_)); refine q_index T (a - 1) (by exact rfl) (by exact rfl) (by exact rfl) (by exact rfl) (by exact rfl) (by exact rfl) hsl (by first | rfl | omega) (sts_get t ls (by omega)) (fun p5 hp5 => ?_))
    (((refine Seq.q (by exact rfl) ?_)); refine q_load_sl T (by exact rfl) (by exact rfl) (by exact rfl) hp5 (fun S ns cs hS => ?_))
    ((refine Seq.q (by exact rfl) ?_; refine q_assign (by exact rfl) ?_; refine Seq.end_ ?_))
    rw [show a - 1 + 1 = a by omega] at hS
    exact cutN ⟨S, ns, cs, hS, rfl, rfl, rfl⟩ (by repeat (first | exact trivial | refine ⟨by exact rfl, ?_⟩)) (by repeat (first | exact List.Sublist.refl _ | exact List.nil_sublist _ | refine List.Sublist.cons_cons _ ?_ | refine List.Sublist.cons _ ?_))
  · ((refine Wp.skip ?_))
    have : a = 0 := by omega
    subst this
    exact cutN ⟨_, _, _, ht.init, rfl, rfl, rfl⟩ (by repeat (first | exact trivial | refine ⟨by exact rfl, ?_⟩)) (by repeat (first | exact List.Sublist.refl _ | exact List.nil_sublist _ | refine List.Sublist.cons_cons _ ?_ | refine List.Sublist.cons _ ?_))
  rintro σ fz' H' ⟨S, ns, cs, hS, rfl, rfl, rfl⟩
  ((refine Wp.seq ?_; refine Wp.region ?_; refine Seq.q (by exact rfl) ?_; refine q_fieldAddr T (by exact rfl) (by exact rfl) (by exact rfl) (by exact rfl) (by exact rfl) (by exact rfl) ?_; refine Seq.q (by exact rfl) ?_; refine q_load_own T 1 (by exact rfl) (by exact rfl) (by exact rfl) (by exact rfl) (by exact rfl) ?_; refine Seq.q (by exact rfl) ?_; refine q_fieldAddr T (by exact rfl) (by exact rfl) (by exact rfl) (by exact rfl) (by exact rfl) (by exact rfl) ?_; refine Seq.q (by exact rfl) ?_; refine q_load_own T 0 (by exact rfl) (by exact rfl) (by exact rfl) (by exact rfl) (by exact rfl) ?_; refine Seq.q (by exact rfl) ?_; refine q_add (by exact rfl) (by exact rfl) (wrap_in (by omega)) ?_; refine Seq.q (by exact rfl) ?_; refine q_assign (by exact rfl) ?_; refine Seq.done ?_; refine Wp.seq ?_; refine Wp.seq ?_; refine Wp.draw (by decide +kernel) T.mixed (by kernel_rfl) (by kernel_rfl) ?_; refine QL.q ?_; refine q_move (by exact rfl) ?_; refine QL.q ?_; refine q_fieldAddr T (by exact rfl) (by exact rfl) (by exact rfl) (by exact rfl) (by exact rfl) (by exact rfl) ?_; refine QL.q ?_; refine q_load_own T 1 (by exact rfl) (by exact rfl) (by exact rfl) (by exact rfl) (by exact rfl) ?_))
  (((refine QL.q ?_)); (refine q_leqD (by exact rfl) (by exact rfl) (fun y1 => ?_) (fun y1 => ?_)))
  · omega
  ((refine QL.q ?_; refine q_move (by exact rfl) ?_; refine QL.yes (by exact rfl) ?_; refine q_move (by exact rfl) ?_; refine QL.yes (by exact rfl) ?_; refine q_move (by exact rfl) ?_))
  (((refine QL.yes (by exact rfl) ?_)); (refine q_gtrD (by exact rfl) (by exact rfl) (fun y2 => ?_) (fun y2 => ?_)))
  · omega
  ((refine QL.q ?_; refine q_pick_false (by exact rfl) (by exact rfl) ?_; refine QL.q ?_; refine q_move (by exact rfl) ?_; refine QL.yes (by exact rfl) ?_; refine q_fieldAddr T (by exact rfl) (by exact rfl) (by exact rfl) (by exact rfl) (by exact rfl) (by exact rfl) ?_; refine QL.yes (by exact rfl) ?_; refine q_load_own T 0 (by exact rfl) (by exact rfl) (by exact rfl) (by exact rfl) (by exact rfl) ?_; refine QL.yes (by exact rfl) ?_; refine q_move (by exact rfl) ?_))
  (((refine QL.yes (by exact rfl) ?_)); refine q_call (by exact rfl) (by exact rfl) (holds_yes hJ.start hS f1) ?_)
  ((refine QL.yes (by exact rfl) ?_; refine q_not (by exact rfl) ?_; refine QL.q ?_; refine q_pick_false (by exact rfl) (by exact rfl) ?_; refine QL.q ?_; refine q_move (by exact rfl) ?_; refine QL.yes (by exact rfl) ?_; refine q_fieldAddr T (by exact rfl) (by exact rfl) (by exact rfl) (by exact rfl) (by exact rfl) (by exact rfl) ?_; refine QL.yes (by exact rfl) ?_; refine q_load_own T 0 (by exact rfl) (by exact rfl) (by exact rfl) (by exact rfl) (by exact rfl) ?_; refine QL.yes (by exact rfl) ?_; refine q_move (by exact rfl) ?_; refine QL.yes (by exact rfl) ?_; refine q_move (by exact rfl) ?_; refine QL.yes (by exact rfl) ?_; refine q_sub (by exact rfl) (by exact rfl) (wrap_in (by omega)) ?_))
  (((refine QL.yes (by exact rfl) ?_)); refine q_index T (e - 1) (by exact rfl) (by exact rfl) (by exact rfl) (by exact rfl) (by exact rfl) (by exact rfl) hsl (by first | rfl | omega) (sts_get t ls (by omega)) (fun p6 hp6 => ?_))
  (((refine QL.yes (by exact rfl) ?_)); refine q_load_sl T (by exact rfl) (by exact rfl) (by exact rfl) hp6 (fun X6 n6 c6 hX6 => ?_))
  rw [show e - 1 + 1 = e by omega] at hX6
  (skip)
  (((refine QL.yes (by exact rfl) ?_)); refine q_call (by exact rfl) (by exact rfl) (holds_yes hJ.fin hX6 f3) ?_)
  ((refine QL.yes (by exact rfl) ?_; refine q_not (by exact rfl) ?_; refine QL.q ?_; refine q_pick_false (by exact rfl) (by exact rfl) ?_; refine QL.q ?_; refine q_move (by exact rfl) ?_; refine QL.yes (by exact rfl) ?_; refine q_fieldAddr T (by exact rfl) (by exact rfl) (by exact rfl) (by exact rfl) (by exact rfl) (by exact rfl) ?_; refine QL.yes (by exact rfl) ?_; refine q_load_own T 0 (by exact rfl) (by exact rfl) (by exact rfl) (by exact rfl) (by exact rfl) ?_; refine QL.yes (by exact rfl) ?_; refine q_move (by exact rfl) ?_; refine QL.yes (by exact rfl) ?_; refine q_fieldAddr T (by exact rfl) (by exact rfl) (by exact rfl) (by exact rfl) (by exact rfl) (by exact rfl) ?_; refine QL.yes (by exact rfl) ?_; refine q_load_own T 1 (by exact rfl) (by exact rfl) (by exact rfl) (by exact rfl) (by exact rfl) ?_))
  (((refine QL.yes (by exact rfl) ?_)); refine q_index T a (by exact rfl) (by exact rfl) (by exact rfl) (by exact rfl) (by exact rfl) (by exact rfl) hsl (by first | rfl | omega) (sts_get t ls (by omega)) (fun p7 hp7 => ?_))
  (((refine QL.yes (by exact rfl) ?_)); refine q_load_sl T (by exact rfl) (by exact rfl) (by exact rfl) hp7 (fun X7 n7 c7 hX7 => ?_))
  (skip)
  (((refine QL.yes (by exact rfl) ?_)); refine q_call (by exact rfl) (by exact rfl) (holds_yes hJ.atStart hX7 f2) ?_)
  ((refine QL.yes (by exact rfl) ?_; refine q_not (by exact rfl) ?_; refine QL.q ?_; refine q_pick_false (by exact rfl) (by exact rfl) ?_; refine QL.q ?_; refine q_move (by exact rfl) ?_; refine QL.yes (by exact rfl) ?_; refine q_fieldAddr T (by exact rfl) (by exact rfl) (by exact rfl) (by exact rfl) (by exact rfl) (by exact rfl) ?_; refine QL.yes (by exact rfl) ?_; refine q_load_own T 0 (by exact rfl) (by exact rfl) (by exact rfl) (by exact rfl) (by exact rfl) ?_; refine QL.yes (by exact rfl) ?_; refine q_move (by exact rfl) ?_; refine QL.yes (by exact rfl) ?_; refine q_move (by exact rfl) ?_))
  (((refine QL.yes (by exact rfl) ?_)); refine q_index T e (by exact rfl) (by exact rfl) (by exact rfl) (by exact rfl) (by exact rfl) (by exact rfl) hsl (by first | rfl | omega) (sts_get t ls (by omega)) (fun p8 hp8 => ?_))
  (((refine QL.yes (by exact rfl) ?_)); refine q_load_sl T (by exact rfl) (by exact rfl) (by exact rfl) hp8 (fun X8 n8 c8 hX8 => ?_))
  (skip)
  (((refine QL.yes (by exact rfl) ?_)); refine q_call (by exact rfl) (by exact rfl) (holds_yes hJ.atEnd hX8 f4) ?_)
  ((refine QL.yes (by exact rfl) ?_; refine q_not (by exact rfl) ?_; refine QL.q ?_; refine q_pick_false (by exact rfl) (by exact rfl) ?_; refine QL.done ?_; refine thenN ?_; refine Wp.cond_false (by exact rfl) ?_; refine Wp.skip ?_; refine thenN ?_; refine Wp.seq ?_; refine Wp.region ?_; refine Seq.q (by exact rfl) ?_; refine q_fieldAddr T (by exact rfl) (by exact rfl) (by exact rfl) (by exact rfl) (by exact rfl) (by exact rfl) ?_; refine Seq.q (by exact rfl) ?_; refine q_load_own T 1 (by exact rfl) (by exact rfl) (by exact rfl) (by exact rfl) (by exact rfl) ?_; refine Seq.q (by exact rfl) ?_; refine q_assign (by exact rfl) ?_; refine Seq.done ?_; refine Wp.block ?_))
  refine Wp.loop (fun q σ fz' H' => ∃ i : Nat, a + i ≤ e ∧ q = e - (a + i) ∧ σ = [(13, .int .i64 (a + i : Nat)), (12, .int .i64 e), (10, .pointer (some ⟨gj, 0, none⟩)), (62, .int .i64 k), (61, .int .i64 m), (60, .slice B m d), (5, .int .i64 N), (7, .slice A (N + 1) e1), (2, .pointer (some ⟨gt, 0, none⟩))] ∧ fz1 = fz' ∧
      H' = [(gj, .cells #[.string j.name, .int .i64 j.dur, .slice B1 m1 d1, .slice B2 m2 d2, .slice B3 m3 d3, .slice B4 m4 d4, .slice B5 m5 d5] 47 (0, 0)), (gt, .cells #[.slice A1 n1 c1, .slice A2 n2 c2, .slice A3 n3 c3, .slice A4 n4 c4] 26 (0, 0))])
    ⟨0, by omega, rfl, rfl, rfl, rfl⟩ (by
      rw [show l.at_ + j.dur = (e : Int) by omega, ha]
      exact (by repeat (first | exact trivial | refine ⟨by exact rfl, ?_⟩))) (by repeat (first | exact List.Sublist.refl _ | exact List.nil_sublist _ | refine List.Sublist.cons_cons _ ?_ | refine List.Sublist.cons _ ?_)) ?_
  rintro q σ fz' H' ⟨i, hi, rfl, rfl, rfl, rfl⟩
  ((refine Wp.seq ?_; refine Wp.seq ?_; refine Wp.region ?_; refine Seq.q (by exact rfl) ?_; refine q_move (by exact rfl) ?_; refine Seq.q (by exact rfl) ?_; refine q_move (by exact rfl) ?_))
  (((refine Seq.q (by exact rfl) ?_)); (refine q_lssD (by exact rfl) (by exact rfl) (fun y3 => ?_) (fun y3 => ?_)))
  · ((refine Seq.done ?_; refine Wp.cond_true (by exact rfl) ?_; refine Wp.skip ?_; refine thenN ?_; refine Wp.seq ?_; refine Wp.block ?_; refine Wp.seq ?_; refine Wp.draw (by decide +kernel) T.mixed (by kernel_rfl) (by kernel_rfl) ?_; refine QL.q ?_; refine q_fieldAddr T (by exact rfl) (by exact rfl) (by exact rfl) (by exact rfl) (by exact rfl) (by exact rfl) ?_; refine QL.q ?_; refine q_load_own T 0 (by exact rfl) (by exact rfl) (by exact rfl) (by exact rfl) (by exact rfl) ?_; refine QL.q ?_; refine q_move (by exact rfl) ?_; refine QL.q ?_; refine q_move (by exact rfl) ?_))
    (((refine QL.q ?_)); refine q_index T (a + i) (by exact rfl) (by exact rfl) (by exact rfl) (by exact rfl) (by exact rfl) (by exact rfl) hsl (by first | rfl | omega) (sts_get t ls (by omega)) (fun p9 hp9 => ?_))
    (((refine QL.q ?_)); refine q_load_sl T (by exact rfl) (by exact rfl) (by exact rfl) hp9 (fun X9 n9 c9 hX9 => ?_))
    (skip)
    (((refine QL.q ?_)); refine q_call (by exact rfl) (by exact rfl) (holds_yes hJ.over hX9 (f5 i (by omega))) ?_)
    ((refine QL.q ?_; refine q_not (by exact rfl) ?_; refine QL.done ?_; refine thenN ?_; refine Wp.cond_false (by exact rfl) ?_; refine Wp.skip ?_; refine blkN ?_; refine thenN ?_; refine Wp.region ?_; refine Seq.q (by exact rfl) ?_; refine q_move (by exact rfl) ?_; refine Seq.q (by exact rfl) ?_; refine q_add (by exact rfl) (by exact rfl) (wrap_in (by omega)) ?_; refine Seq.q (by exact rfl) ?_; refine q_assign (by exact rfl) ?_; refine Seq.end_ ?_))
    exact loopN ⟨i + 1, by omega, rfl, rfl, rfl, rfl⟩ (by omega) (by repeat (first | exact trivial | refine ⟨by exact rfl, ?_⟩)) (by repeat (first | exact List.Sublist.refl _ | exact List.nil_sublist _ | refine List.Sublist.cons_cons _ ?_ | refine List.Sublist.cons _ ?_))
  · ((refine Seq.done ?_; refine Wp.cond_false (by exact rfl) ?_; refine Wp.exit ?_; refine thenX ?_; refine loopX ?_; refine blkX (by exact rfl) ?_; refine blkN ?_; refine thenN ?_; refine Wp.region ?_; refine Seq.q (by exact rfl) ?_; refine q_add (by exact rfl) (by exact rfl) (wrap_in (by omega)) ?_; refine Seq.q (by exact rfl) ?_; refine q_move (by exact rfl) ?_; refine Seq.end_ ?_))
    exact loopN ⟨k + 1, by omega, rfl, rfl, rfl, rfl⟩ (by omega) (by repeat (first | exact trivial | refine ⟨by exact rfl, ?_⟩)) (by repeat (first | exact List.Sublist.refl _ | exact List.nil_sublist _ | refine List.Sublist.cons_cons _ ?_ | refine List.Sublist.cons _ ?_))
end Go.Proofs.Ytfidaamledbmpaa
