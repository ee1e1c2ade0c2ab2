/- What the functions that make lists compute: the lists of a task, copies; and whether a task is small. Conditions: the arguments read as data. -/
import Derived.Test.YtfidaamledbmpaaWalkB
import Derived.Test.YtfidaamledbmpaaOwn
namespace Go.Proofs.Ytfidaamledbmpaa
open Go.Lx Go.RowKit
attribute [local instance 10] Classical.propDecidable

/-! ### few -/
def FewJob (j : Job) : Prop := j.start.length + j.over.length + j.fin.length + j.atStart.length + j.atEnd.length ≤ 200 ∧ j.name.size ≤ 300
def FewP (t : Temporal) (n : Nat) : Prop := t.vars.length ≤ 70 ∧ t.jobs.length ≤ 30 ∧ n ≤ 20 ∧ t.goal.length ≤ 80 ∧ ∀ j ∈ t.jobs, FewJob j

theorem few_q {fz : FZ} {t : Temporal} {A1 : Option Addr} {n1 c1 : Nat} {A2 : Option Addr} {n2 c2 : Nat} {A3 : Option Addr} {n3 c3 : Nat} {A4 : Option Addr} {n4 c4 : Nat} (ht : TempR fz t A1 n1 c1 A2 n2 c2 A3 n3 c3 A4 n4 c4) {B : Option Addr} {m d : Nat} :
    QFn Try.prog 11 [.agg #[.slice A1 n1 c1, .slice A2 n2 c2, .slice A3 n3 c3, .slice A4 n4 c4], .slice B m d] fz (.bool (decide (FewP t m))) := by
  refine GFn.quiet ?_
  (refine GFn.of_wp Try.func11 rfl Try.ntmps11 rfl rfl (fun w0 => ?_))
  have l1 := ht.vars.len
  have l3 := ht.goal.len
  have l4 := ht.jobs.len
  have s4 := ht.jobs.short
  refine Wp.seq (Wp.region (Seq.stepK (by exact rfl) (k_box _ (by exact rfl) (by exact rfl) (fun g => ?_))))
  ((refine Seq.q (by exact rfl) ?_; refine q_assign (by exact rfl) ?_; refine Seq.done ?_; refine Wp.seq ?_; refine Wp.seq ?_; refine Wp.region ?_; refine Seq.q (by exact rfl) ?_; refine q_fieldAddr T (by exact rfl) (by exact rfl) (by exact rfl) (by exact rfl) (by exact rfl) (by exact rfl) ?_; refine Seq.q (by exact rfl) ?_; refine q_load_own T 0 (by exact rfl) (by exact rfl) (by exact rfl) (by exact rfl) (by exact rfl) ?_; refine Seq.q (by exact rfl) ?_; refine q_len_slice T (by exact rfl) (by exact rfl) (by exact rfl) ?_))
  (((refine Seq.q (by exact rfl) ?_)); (refine q_gtrD (by exact rfl) (by exact rfl) (fun d1 => ?_) (fun d1 => ?_)))
  · ((refine Seq.q (by exact rfl) ?_; refine q_move (by exact rfl) ?_; refine Seq.guard_no (by exact rfl) (by exact rfl) (by exact rfl) (by exact rfl) ?_; refine Seq.guard_no (by exact rfl) (by exact rfl) (by exact rfl) (by exact rfl) ?_; refine Seq.guard_no (by exact rfl) (by exact rfl) (by exact rfl) (by exact rfl) ?_; refine Seq.guard_no (by exact rfl) (by exact rfl) (by exact rfl) (by exact rfl) ?_; refine Seq.q (by exact rfl) ?_; refine q_pick_true (by exact rfl) (by exact rfl) ?_; refine Seq.q (by exact rfl) ?_; refine q_move (by exact rfl) ?_; refine Seq.guard_no (by exact rfl) (by exact rfl) (by exact rfl) (by exact rfl) ?_; refine Seq.guard_no (by exact rfl) (by exact rfl) (by exact rfl) (by exact rfl) ?_; refine Seq.guard_no (by exact rfl) (by exact rfl) (by exact rfl) (by exact rfl) ?_; refine Seq.q (by exact rfl) ?_; refine q_pick_true (by exact rfl) (by exact rfl) ?_; refine Seq.q (by exact rfl) ?_; refine q_move (by exact rfl) ?_; refine Seq.guard_no (by exact rfl) (by exact rfl) (by exact rfl) (by exact rfl) ?_; refine Seq.guard_no (by exact rfl) (by exact rfl) (by exact rfl) (by exact rfl) ?_; refine Seq.guard_no (by exact rfl) (by exact rfl) (by exact rfl) (by exact rfl) ?_; refine Seq.guard_no (by exact rfl) (by exact rfl) (by exact rfl) (by exact rfl) ?_; refine Seq.q (by exact rfl) ?_; refine q_pick_true (by exact rfl) (by exact rfl) ?_; refine Seq.done ?_; refine Wp.cond_true (by exact rfl) ?_; refine Wp.seq ?_; refine Wp.region ?_; refine Seq.q (by exact rfl) ?_; refine q_assign (by exact rfl) ?_; refine Seq.done ?_; refine Wp.ret ?_; refine thenR ?_))
    (exact ret1 rfl rfl (by repeat (first | exact List.Sublist.refl _ | exact List.nil_sublist _ | refine List.Sublist.cons_cons _ ?_ | refine List.Sublist.cons _ ?_)) (bool_false (fun h => by have := h.1; omega)))
  · ((refine Seq.q (by exact rfl) ?_; refine q_move (by exact rfl) ?_; refine Seq.guard_yes (by exact rfl) (by exact rfl) (by exact rfl) ?_; refine q_fieldAddr T (by exact rfl) (by exact rfl) (by exact rfl) (by exact rfl) (by exact rfl) (by exact rfl) ?_; refine Seq.guard_yes (by exact rfl) (by exact rfl) (by exact rfl) ?_; refine q_load_own T 0 (by exact rfl) (by exact rfl) (by exact rfl) (by exact rfl) (by exact rfl) ?_; refine Seq.guard_yes (by exact rfl) (by exact rfl) (by exact rfl) ?_; refine q_len_slice T (by exact rfl) (by exact rfl) (by exact rfl) ?_))
    (((refine Seq.guard_yes (by exact rfl) (by exact rfl) (by exact rfl) ?_)); (refine q_gtrD (by exact rfl) (by exact rfl) (fun d2 => ?_) (fun d2 => ?_)))
    · ((refine Seq.q (by exact rfl) ?_; refine q_pick_false (by exact rfl) (by exact rfl) ?_; refine Seq.q (by exact rfl) ?_; refine q_move (by exact rfl) ?_; refine Seq.guard_no (by exact rfl) (by exact rfl) (by exact rfl) (by exact rfl) ?_; refine Seq.guard_no (by exact rfl) (by exact rfl) (by exact rfl) (by exact rfl) ?_; refine Seq.guard_no (by exact rfl) (by exact rfl) (by exact rfl) (by exact rfl) ?_; refine Seq.q (by exact rfl) ?_; refine q_pick_true (by exact rfl) (by exact rfl) ?_; refine Seq.q (by exact rfl) ?_; refine q_move (by exact rfl) ?_; refine Seq.guard_no (by exact rfl) (by exact rfl) (by exact rfl) (by exact rfl) ?_; refine Seq.guard_no (by exact rfl) (by exact rfl) (by exact rfl) (by exact rfl) ?_; refine Seq.guard_no (by exact rfl) (by exact rfl) (by exact rfl) (by exact rfl) ?_; refine Seq.guard_no (by exact rfl) (by exact rfl) (by exact rfl) (by exact rfl) ?_; refine Seq.q (by exact rfl) ?_; refine q_pick_true (by exact rfl) (by exact rfl) ?_; refine Seq.done ?_; refine Wp.cond_true (by exact rfl) ?_; refine Wp.seq ?_; refine Wp.region ?_; refine Seq.q (by exact rfl) ?_; refine q_assign (by exact rfl) ?_; refine Seq.done ?_; refine Wp.ret ?_; refine thenR ?_))
      (exact ret1 rfl rfl (by repeat (first | exact List.Sublist.refl _ | exact List.nil_sublist _ | refine List.Sublist.cons_cons _ ?_ | refine List.Sublist.cons _ ?_)) (bool_false (fun h => by have := h.2.1; omega)))
    · ((refine Seq.q (by exact rfl) ?_; refine q_pick_false (by exact rfl) (by exact rfl) ?_; refine Seq.q (by exact rfl) ?_; refine q_move (by exact rfl) ?_; refine Seq.guard_yes (by exact rfl) (by exact rfl) (by exact rfl) ?_; refine q_move (by exact rfl) ?_; refine Seq.guard_yes (by exact rfl) (by exact rfl) (by exact rfl) ?_; refine q_len_slice T (by exact rfl) (by exact rfl) (by exact rfl) ?_))
      (((refine Seq.guard_yes (by exact rfl) (by exact rfl) (by exact rfl) ?_)); (refine q_gtrD (by exact rfl) (by exact rfl) (fun d3 => ?_) (fun d3 => ?_)))
      · ((refine Seq.q (by exact rfl) ?_; refine q_pick_false (by exact rfl) (by exact rfl) ?_; refine Seq.q (by exact rfl) ?_; refine q_move (by exact rfl) ?_; refine Seq.guard_no (by exact rfl) (by exact rfl) (by exact rfl) (by exact rfl) ?_; refine Seq.guard_no (by exact rfl) (by exact rfl) (by exact rfl) (by exact rfl) ?_; refine Seq.guard_no (by exact rfl) (by exact rfl) (by exact rfl) (by exact rfl) ?_; refine Seq.guard_no (by exact rfl) (by exact rfl) (by exact rfl) (by exact rfl) ?_; refine Seq.q (by exact rfl) ?_; refine q_pick_true (by exact rfl) (by exact rfl) ?_; refine Seq.done ?_; refine Wp.cond_true (by exact rfl) ?_; refine Wp.seq ?_; refine Wp.region ?_; refine Seq.q (by exact rfl) ?_; refine q_assign (by exact rfl) ?_; refine Seq.done ?_; refine Wp.ret ?_; refine thenR ?_))
        (exact ret1 rfl rfl (by repeat (first | exact List.Sublist.refl _ | exact List.nil_sublist _ | refine List.Sublist.cons_cons _ ?_ | refine List.Sublist.cons _ ?_)) (bool_false (fun h => by have := h.2.2.1; omega)))
      · ((refine Seq.q (by exact rfl) ?_; refine q_pick_false (by exact rfl) (by exact rfl) ?_; refine Seq.q (by exact rfl) ?_; refine q_move (by exact rfl) ?_; refine Seq.guard_yes (by exact rfl) (by exact rfl) (by exact rfl) ?_; refine q_fieldAddr T (by exact rfl) (by exact rfl) (by exact rfl) (by exact rfl) (by exact rfl) (by exact rfl) ?_; refine Seq.guard_yes (by exact rfl) (by exact rfl) (by exact rfl) ?_; refine q_load_own T 0 (by exact rfl) (by exact rfl) (by exact rfl) (by exact rfl) (by exact rfl) ?_; refine Seq.guard_yes (by exact rfl) (by exact rfl) (by exact rfl) ?_; refine q_len_slice T (by exact rfl) (by exact rfl) (by exact rfl) ?_))
        (((refine Seq.guard_yes (by exact rfl) (by exact rfl) (by exact rfl) ?_)); (refine q_gtrD (by exact rfl) (by exact rfl) (fun d4 => ?_) (fun d4 => ?_)))
        · ((refine Seq.q (by exact rfl) ?_; refine q_pick_false (by exact rfl) (by exact rfl) ?_; refine Seq.done ?_; refine Wp.cond_true (by exact rfl) ?_; refine Wp.seq ?_; refine Wp.region ?_; refine Seq.q (by exact rfl) ?_; refine q_assign (by exact rfl) ?_; refine Seq.done ?_; refine Wp.ret ?_; refine thenR ?_))
          (exact ret1 rfl rfl (by repeat (first | exact List.Sublist.refl _ | exact List.nil_sublist _ | refine List.Sublist.cons_cons _ ?_ | refine List.Sublist.cons _ ?_)) (bool_false (fun h => by have := h.2.2.2.1; omega)))
        · ((refine Seq.q (by exact rfl) ?_; refine q_pick_false (by exact rfl) (by exact rfl) ?_; refine Seq.done ?_; refine Wp.cond_false (by exact rfl) ?_; refine Wp.skip ?_; refine thenN ?_; refine Wp.seq ?_; refine Wp.seq ?_; refine Wp.region ?_; refine Seq.q (by exact rfl) ?_; refine q_fieldAddr T (by exact rfl) (by exact rfl) (by exact rfl) (by exact rfl) (by exact rfl) (by exact rfl) ?_; refine Seq.q (by exact rfl) ?_; refine q_load_own T 0 (by exact rfl) (by exact rfl) (by exact rfl) (by exact rfl) (by exact rfl) ?_; refine Seq.q (by exact rfl) ?_; refine q_len_slice T (by exact rfl) (by exact rfl) (by exact rfl) ?_; refine Seq.q (by exact rfl) ?_; refine q_move (by exact rfl) ?_; refine Seq.done ?_; refine Wp.block ?_))
          (refine Wp.loop (fun q σ fz' H' => ∃ k : Nat, k ≤ n4 ∧ q = n4 - k ∧ σ = [(31, .int .i64 k), (30, .int .i64 n4), (29, .slice A4 n4 c4)] ∧ fz = fz' ∧ H' = [] ∧ (∀ i, i < k → ∀ j, t.jobs[i]? = some j → FewJob j)) ⟨0, Nat.zero_le _, rfl, rfl, rfl, rfl, (fun i hi => absurd hi (by omega))⟩ (by repeat (first | exact trivial | refine ⟨by exact rfl, ?_⟩)) (by repeat (first | exact List.Sublist.refl _ | exact List.nil_sublist _ | refine List.Sublist.cons_cons _ ?_ | refine List.Sublist.cons _ ?_)) ?_; rintro q σ fz' H' ⟨k, hk, rfl, rfl, rfl, rfl, hh⟩)
          ((refine Wp.seq ?_; refine Wp.region ?_))
          (((refine Seq.q (by exact rfl) ?_)); (refine q_lssD (by exact rfl) (by exact rfl) (fun hlt => ?_) (fun hge => ?_)))
          · ((refine Seq.done ?_; refine Wp.seq ?_; refine Wp.cond_true (by exact rfl) ?_; refine Wp.skip ?_; refine thenN ?_; refine Wp.seq ?_; refine Wp.block ?_; refine Wp.seq ?_; refine Wp.region ?_))
            obtain ⟨j, hj⟩ := get_some (l := t.jobs) (k := k) (by omega)
            (((refine Seq.q (by exact rfl) ?_)); refine q_index T k (by exact rfl) (by exact rfl) (by exact rfl) (by exact rfl) (by exact rfl) (by exact rfl) ht.jobs (by first | rfl | omega) hj (fun p hp => ?_))
            (((refine Seq.q (by exact rfl) ?_)); refine q_load_at T (by exact rfl) (by exact rfl) (by exact rfl) hp (by exact rfl) ?_)
            rintro _ ⟨B1, m1, d1, B2, m2, d2, B3, m3, d3, B4, m4, d4, B5, m5, d5, rfl, hJ⟩
            have k1 := hJ.start.len
            have k2 := hJ.over.len
            have k3 := hJ.fin.len
            have k4 := hJ.atStart.len
            have k5 := hJ.atEnd.len
            have o1 := hJ.start.short
            have o2 := hJ.over.short
            have o3 := hJ.fin.short
            have o4 := hJ.atStart.short
            have o5 := hJ.atEnd.short
            have bad : ¬ FewJob j → ¬ FewP t m := fun h hc => h (hc.2.2.2.2 j (List.mem_of_getElem? hj))
            ((refine Seq.stepK (by exact rfl) (k_alloc T (by exact rfl) (by exact rfl) (fun _ => ?_)); refine Seq.stepK0 (k_store0 T (by exact rfl) (by exact rfl) (by exact rfl) (by exact rfl) (by exact rfl) (by exact rfl) ?_); refine Seq.done ?_; refine Wp.seq ?_; refine Wp.region ?_; refine Seq.q (by exact rfl) ?_; refine q_fieldAddr T (by exact rfl) (by exact rfl) (by exact rfl) (by exact rfl) (by exact rfl) (by exact rfl) ?_; refine Seq.q (by exact rfl) ?_; refine q_load_own T 0 (by exact rfl) (by exact rfl) (by exact rfl) (by exact rfl) (by exact rfl) ?_; refine Seq.q (by exact rfl) ?_; refine q_len_slice T (by exact rfl) (by exact rfl) (by exact rfl) ?_; refine Seq.q (by exact rfl) ?_; refine q_fieldAddr T (by exact rfl) (by exact rfl) (by exact rfl) (by exact rfl) (by exact rfl) (by exact rfl) ?_; refine Seq.q (by exact rfl) ?_; refine q_load_own T 0 (by exact rfl) (by exact rfl) (by exact rfl) (by exact rfl) (by exact rfl) ?_; refine Seq.q (by exact rfl) ?_; refine q_len_slice T (by exact rfl) (by exact rfl) (by exact rfl) ?_; refine Seq.q (by exact rfl) ?_; refine q_add (by exact rfl) (by exact rfl) (wrap_in (by omega)) ?_; refine Seq.q (by exact rfl) ?_; refine q_fieldAddr T (by exact rfl) (by exact rfl) (by exact rfl) (by exact rfl) (by exact rfl) (by exact rfl) ?_; refine Seq.q (by exact rfl) ?_; refine q_load_own T 0 (by exact rfl) (by exact rfl) (by exact rfl) (by exact rfl) (by exact rfl) ?_; refine Seq.q (by exact rfl) ?_; refine q_len_slice T (by exact rfl) (by exact rfl) (by exact rfl) ?_; refine Seq.q (by exact rfl) ?_; refine q_add (by exact rfl) (by exact rfl) (wrap_in (by omega)) ?_; refine Seq.q (by exact rfl) ?_; refine q_fieldAddr T (by exact rfl) (by exact rfl) (by exact rfl) (by exact rfl) (by exact rfl) (by exact rfl) ?_; refine Seq.q (by exact rfl) ?_; refine q_load_own T 0 (by exact rfl) (by exact rfl) (by exact rfl) (by exact rfl) (by exact rfl) ?_; refine Seq.q (by exact rfl) ?_; refine q_len_slice T (by exact rfl) (by exact rfl) (by exact rfl) ?_; refine Seq.q (by exact rfl) ?_; refine q_add (by exact rfl) (by exact rfl) (wrap_in (by omega)) ?_; refine Seq.q (by exact rfl) ?_; refine q_fieldAddr T (by exact rfl) (by exact rfl) (by exact rfl) (by exact rfl) (by exact rfl) (by exact rfl) ?_; refine Seq.q (by exact rfl) ?_; refine q_load_own T 0 (by exact rfl) (by exact rfl) (by exact rfl) (by exact rfl) (by exact rfl) ?_; refine Seq.q (by exact rfl) ?_; refine q_len_slice T (by exact rfl) (by exact rfl) (by exact rfl) ?_; refine Seq.q (by exact rfl) ?_; refine q_add (by exact rfl) (by exact rfl) (wrap_in (by omega)) ?_))
            (((refine Seq.q (by exact rfl) ?_)); (refine q_gtrD (by exact rfl) (by exact rfl) (fun d5 => ?_) (fun d5 => ?_)))
            · ((refine Seq.q (by exact rfl) ?_; refine q_move (by exact rfl) ?_; refine Seq.guard_no (by exact rfl) (by exact rfl) (by exact rfl) (by exact rfl) ?_; refine Seq.guard_no (by exact rfl) (by exact rfl) (by exact rfl) (by exact rfl) ?_; refine Seq.guard_no (by exact rfl) (by exact rfl) (by exact rfl) (by exact rfl) ?_; refine Seq.guard_no (by exact rfl) (by exact rfl) (by exact rfl) (by exact rfl) ?_; refine Seq.q (by exact rfl) ?_; refine q_pick_true (by exact rfl) (by exact rfl) ?_; refine Seq.done ?_; refine Wp.cond_true (by exact rfl) ?_; refine Wp.seq ?_; refine Wp.region ?_; refine Seq.q (by exact rfl) ?_; refine q_assign (by exact rfl) ?_; refine Seq.done ?_; refine Wp.ret ?_; refine blkR ?_; refine thenR ?_; refine loopR ?_; refine blkR ?_; refine thenR ?_))
              (exact ret1 rfl rfl (by repeat (first | exact List.Sublist.refl _ | exact List.nil_sublist _ | refine List.Sublist.cons_cons _ ?_ | refine List.Sublist.cons _ ?_)) (bool_false (bad (fun h => by have := h.1; omega))))
            · ((refine Seq.q (by exact rfl) ?_; refine q_move (by exact rfl) ?_; refine Seq.guard_yes (by exact rfl) (by exact rfl) (by exact rfl) ?_; refine q_fieldAddr T (by exact rfl) (by exact rfl) (by exact rfl) (by exact rfl) (by exact rfl) (by exact rfl) ?_; refine Seq.guard_yes (by exact rfl) (by exact rfl) (by exact rfl) ?_; refine q_load_own T 0 (by exact rfl) (by exact rfl) (by exact rfl) (by exact rfl) (by exact rfl) ?_; refine Seq.guard_yes (by exact rfl) (by exact rfl) (by exact rfl) ?_; refine q_len_string T (by exact rfl) (by exact rfl) (by exact rfl) ?_))
              (((refine Seq.guard_yes (by exact rfl) (by exact rfl) (by exact rfl) ?_)); (refine q_gtrD (by exact rfl) (by exact rfl) (fun d6 => ?_) (fun d6 => ?_)))
              · ((refine Seq.q (by exact rfl) ?_; refine q_pick_false (by exact rfl) (by exact rfl) ?_; refine Seq.done ?_; refine Wp.cond_true (by exact rfl) ?_; refine Wp.seq ?_; refine Wp.region ?_; refine Seq.q (by exact rfl) ?_; refine q_assign (by exact rfl) ?_; refine Seq.done ?_; refine Wp.ret ?_; refine blkR ?_; refine thenR ?_; refine loopR ?_; refine blkR ?_; refine thenR ?_))
                (exact ret1 rfl rfl (by repeat (first | exact List.Sublist.refl _ | exact List.nil_sublist _ | refine List.Sublist.cons_cons _ ?_ | refine List.Sublist.cons _ ?_)) (bool_false (bad (fun h => by have := h.2; omega))))
              · ((refine Seq.q (by exact rfl) ?_; refine q_pick_false (by exact rfl) (by exact rfl) ?_; refine Seq.done ?_; refine Wp.cond_false (by exact rfl) ?_; refine Wp.skip ?_; refine blkN ?_; refine thenN ?_; refine Wp.region ?_; refine Seq.q (by exact rfl) ?_; refine q_add (by exact rfl) (by exact rfl) (wrap_in (by omega)) ?_; refine Seq.q (by exact rfl) ?_; refine q_move (by exact rfl) ?_; refine Seq.end_ ?_))
                (exact loopN ⟨k + 1, by omega, rfl, rfl, rfl, rfl, (lt_succ_cases hh (fun x hx => by rw [hj] at hx; injection hx with hx; subst hx; exact ⟨by omega, by omega⟩))⟩ (by omega) (by repeat (first | exact trivial | refine ⟨by exact rfl, ?_⟩)) (by repeat (first | exact List.Sublist.refl _ | exact List.nil_sublist _ | refine List.Sublist.cons_cons _ ?_ | refine List.Sublist.cons _ ?_)))
          · ((refine Seq.done ?_; refine Wp.seq ?_; refine Wp.cond_false (by exact rfl) ?_; refine Wp.exit ?_; refine thenX ?_; refine loopX ?_; refine blkX (by exact rfl) ?_; refine thenN ?_; refine Wp.seq ?_; refine Wp.region ?_; refine Seq.q (by exact rfl) ?_; refine q_assign (by exact rfl) ?_; refine Seq.done ?_; refine Wp.ret ?_))
            (exact ret1 rfl rfl (by repeat (first | exact List.Sublist.refl _ | exact List.nil_sublist _ | refine List.Sublist.cons_cons _ ?_ | refine List.Sublist.cons _ ?_)) (bool_true ⟨by omega, by omega, by omega, by omega, fun j hj => by
              obtain ⟨i, hi⟩ := List.mem_iff_getElem?.1 hj
              exact hh i (by have := lt_of_get hi; omega) j hi⟩))

/-! ### the lists of a task -/
def jobLists (j : Job) : List (List Fact) := [j.start, j.over, j.fin, j.atStart, j.atEnd]
def listsM (t : Temporal) : List (List Fact) := t.goal :: t.jobs.flatMap jobLists

/-- values that are slices of facts -/
def RepL (fz : FZ) (vs : List Value) (ls : List (List Fact)) : Prop := vs.length = ls.length ∧ ∀ (i : Nat) (l : List Fact), ls[i]? = some l → ∃ A n c, vs[i]? = some (.slice A n c) ∧ Sl factL fz A n c l
theorem RepL.append {fz : FZ} {vs us : List Value} {ls ks : List (List Fact)} (h : RepL fz vs ls) (k : RepL fz us ks) : RepL fz (vs ++ us) (ls ++ ks) := by
  refine ⟨by simp [h.1, k.1], fun i l hl => ?_⟩
  by_cases hi : i < ls.length
  · rw [List.getElem?_append_left hi] at hl
    obtain ⟨A, n, c, h1, h2⟩ := h.2 i l hl
    exact ⟨A, n, c, by rw [List.getElem?_append_left (by have := h.1; omega)]; exact h1, h2⟩
  · rw [List.getElem?_append_right (by omega)] at hl
    obtain ⟨A, n, c, h1, h2⟩ := k.2 _ l hl
    exact ⟨A, n, c, by rw [List.getElem?_append_right (by have := h.1; omega), h.1]; exact h1, h2⟩
theorem RepL.mono {fz fz' : FZ} (hle : Le fz fz') {vs : List Value} {ls : List (List Fact)} (h : RepL fz vs ls) : RepL fz' vs ls :=
  ⟨h.1, fun i l hl => by obtain ⟨A, n, c, h1, h2⟩ := h.2 i l hl; exact ⟨A, n, c, h1, h2.mono hle⟩⟩
theorem RepL.sl {fz : FZ} {vs : List Value} {ls : List (List Fact)} (h : RepL fz vs ls) {A : Option Addr} {n c : Nat} (hr : RowS fz A n vs) (hn : vs.length = n) (h1 : n ≤ c) (h2 : c ≤ 9223372036854775807) (h3 : n ≤ 140737488355328) : Sl (slL factL) fz A n c ls :=
  hr.sl h1 h2 h3 (by rw [← h.1]; exact hn) fun i l hl => by
    obtain ⟨A, n, c, h1, h2⟩ := h.2 i l hl
    refine ⟨[.slice A n c], ⟨A, n, c, rfl, h2⟩, fun j u hu => ?_⟩
    cases j with
    | zero => simp at hu; subst hu; simpa [slL] using h1
    | succ j => simp at hu

theorem tlists_f {fz : FZ} {t : Temporal} {A1 : Option Addr} {n1 c1 : Nat} {A2 : Option Addr} {n2 c2 : Nat} {A3 : Option Addr} {n3 c3 : Nat} {A4 : Option Addr} {n4 c4 : Nat} (ht : TempR fz t A1 n1 c1 A2 n2 c2 A3 n3 c3 A4 n4 c4) (hj : n4 ≤ 1000) :
    GFn Try.prog 39 [.agg #[.slice A1 n1 c1, .slice A2 n2 c2, .slice A3 n3 c3, .slice A4 n4 c4]] fz [] fun v fz' H' => H' = [] ∧ ∃ A n c, v = .slice A n c ∧ Sl (slL factL) fz' A n c (listsM t) := by
  (refine GFn.of_wp Try.func39 rfl Try.ntmps39 rfl rfl (fun w0 => ?_))
  have l4 := ht.jobs.len
  refine Wp.seq (Wp.region (Seq.stepK (by exact rfl) (k_box _ (by exact rfl) (by exact rfl) (fun g => ?_))))
  ((refine Seq.q (by exact rfl) ?_; refine q_assign (by exact rfl) ?_; refine Seq.done ?_; refine Wp.seq ?_; refine Wp.region ?_; refine Seq.q (by exact rfl) ?_; refine q_fieldAddr T (by exact rfl) (by exact rfl) (by exact rfl) (by exact rfl) (by exact rfl) (by exact rfl) ?_; refine Seq.q (by exact rfl) ?_; refine q_load_own T 0 (by exact rfl) (by exact rfl) (by exact rfl) (by exact rfl) (by exact rfl) ?_))
  (refine Seq.stepK (by exact rfl) (k_buildSlice T (cs := [_]) (by exact rfl) (by exact rfl) (by exact rfl) (by exact rfl) (by exact rfl) (by exact rfl) (by exact rfl) (by exact rfl) (fun g2 => ?_)))
  ((refine Seq.q (by exact rfl) ?_; refine q_assign (by exact rfl) ?_; refine Seq.done ?_; refine Wp.seq ?_; refine Wp.seq ?_; refine Wp.region ?_; refine Seq.q (by exact rfl) ?_; refine q_fieldAddr T (by exact rfl) (by exact rfl) (by exact rfl) (by exact rfl) (by exact rfl) (by exact rfl) ?_; refine Seq.q (by exact rfl) ?_; refine q_load_own T 1 (by exact rfl) (by exact rfl) (by exact rfl) (by exact rfl) (by exact rfl) ?_; refine Seq.q (by exact rfl) ?_; refine q_len_slice T (by exact rfl) (by exact rfl) (by exact rfl) ?_; refine Seq.q (by exact rfl) ?_; refine q_move (by exact rfl) ?_; refine Seq.done ?_; refine Wp.block ?_))
  (first | refine Wp.perm (List.Perm.swap _ _ _) ?_ | refine Seq.perm (List.Perm.swap _ _ _) ?_)
  refine Wp.loop (fun q σ fz' H' => ∃ (k : Nat) (v : Value) (vs : List Value) (Hs : HP), k ≤ n4 ∧ q = n4 - k ∧ σ = [(12, .int .i64 k), (11, .int .i64 n4), (10, .slice A4 n4 c4), (3, v)] ∧ fz = fz' ∧ H' = (g, .cells #[.slice A1 n1 c1, .slice A2 n2 c2, .slice A3 n3 c3, .slice A4 n4 c4] 26 (0, 0)) :: Hs ∧ OwnS 23 1 v (1 + 5 * k) vs Hs ∧ RepL fz vs (t.goal :: (t.jobs.take k).flatMap jobLists))
    ⟨0, _, _, _, Nat.zero_le _, rfl, rfl, rfl, rfl, OwnS.of_block rfl (by decide), ?_⟩ (by repeat (first | exact trivial | refine ⟨by exact rfl, ?_⟩)) (by repeat (first | exact List.Sublist.refl _ | exact List.nil_sublist _ | refine List.Sublist.cons_cons _ ?_ | refine List.Sublist.cons _ ?_)) ?_
  · refine ⟨rfl, fun i l hl => ?_⟩
    cases i with
    | zero => simp at hl; subst hl; exact ⟨_, _, _, rfl, ht.goal⟩
    | succ i => simp at hl
  · rintro q σ fz' H' ⟨k, v, vs, Hs, hk, rfl, rfl, rfl, rfl, hO, hR⟩
    ((refine Wp.seq ?_; refine Wp.region ?_))
    (((refine Seq.q (by exact rfl) ?_)); (refine q_lssD (by exact rfl) (by exact rfl) (fun hlt => ?_) (fun hge => ?_)))
    · ((refine Seq.done ?_; refine Wp.seq ?_; refine Wp.cond_true (by exact rfl) ?_; refine Wp.skip ?_; refine thenN ?_; refine Wp.seq ?_; refine Wp.block ?_; refine Wp.seq ?_; refine Wp.region ?_))
      obtain ⟨j, hj⟩ := get_some (l := t.jobs) (k := k) (by omega)
      (((refine Seq.q (by exact rfl) ?_)); refine q_index T k (by exact rfl) (by exact rfl) (by exact rfl) (by exact rfl) (by exact rfl) (by exact rfl) ht.jobs (by first | rfl | omega) hj (fun p hp => ?_))
      (((refine Seq.q (by exact rfl) ?_)); refine q_load_at T (by exact rfl) (by exact rfl) (by exact rfl) hp (by exact rfl) ?_)
      rintro _ ⟨B1, m1, d1, B2, m2, d2, B3, m3, d3, B4, m4, d4, B5, m5, d5, rfl, hJ⟩
      ((refine Seq.stepK (by exact rfl) (k_alloc T (by exact rfl) (by exact rfl) (fun _ => ?_)); refine Seq.stepK0 (k_store0 T (by exact rfl) (by exact rfl) (by exact rfl) (by exact rfl) (by exact rfl) (by exact rfl) ?_); refine Seq.done ?_; refine Wp.region ?_; refine Seq.q (by exact rfl) ?_; refine q_move (by exact rfl) ?_; refine Seq.q (by exact rfl) ?_; refine q_fieldAddr T (by exact rfl) (by exact rfl) (by exact rfl) (by exact rfl) (by exact rfl) (by exact rfl) ?_; refine Seq.q (by exact rfl) ?_; refine q_load_own T 0 (by exact rfl) (by exact rfl) (by exact rfl) (by exact rfl) (by exact rfl) ?_; refine Seq.q (by exact rfl) ?_; refine q_fieldAddr T (by exact rfl) (by exact rfl) (by exact rfl) (by exact rfl) (by exact rfl) (by exact rfl) ?_; refine Seq.q (by exact rfl) ?_; refine q_load_own T 0 (by exact rfl) (by exact rfl) (by exact rfl) (by exact rfl) (by exact rfl) ?_; refine Seq.q (by exact rfl) ?_; refine q_fieldAddr T (by exact rfl) (by exact rfl) (by exact rfl) (by exact rfl) (by exact rfl) (by exact rfl) ?_; refine Seq.q (by exact rfl) ?_; refine q_load_own T 0 (by exact rfl) (by exact rfl) (by exact rfl) (by exact rfl) (by exact rfl) ?_; refine Seq.q (by exact rfl) ?_; refine q_fieldAddr T (by exact rfl) (by exact rfl) (by exact rfl) (by exact rfl) (by exact rfl) (by exact rfl) ?_; refine Seq.q (by exact rfl) ?_; refine q_load_own T 0 (by exact rfl) (by exact rfl) (by exact rfl) (by exact rfl) (by exact rfl) ?_; refine Seq.q (by exact rfl) ?_; refine q_fieldAddr T (by exact rfl) (by exact rfl) (by exact rfl) (by exact rfl) (by exact rfl) (by exact rfl) ?_; refine Seq.q (by exact rfl) ?_; refine q_load_own T 0 (by exact rfl) (by exact rfl) (by exact rfl) (by exact rfl) (by exact rfl) ?_))
      (refine Seq.stepK (by exact rfl) (k_buildSlice T (cs := [_, _, _, _, _]) (by exact rfl) (by exact rfl) (by exact rfl) (by exact rfl) (by exact rfl) (by exact rfl) (by exact rfl) (by exact rfl) (fun g3 => ?_)))
      (refine Seq.stepK (by exact rfl) (k_append T (Hr := [_, _, _]) (by exact rfl) (by exact rfl) (by exact rfl) (by exact rfl) (by exact rfl) (by exact rfl) (by exact rfl) (List.Perm.refl _) hO rfl (src_own (.head _)) (by intro u hu; simp at hu; rcases hu with rfl | rfl | rfl | rfl | rfl <;> rfl) (by show _ * 24 ≤ _; omega) (by omega) (fun v' Hs' hO' => ?_)))
      ((refine Seq.q (by exact rfl) ?_; refine q_assign (by exact rfl) ?_; refine Seq.end_ ?_; refine blkN ?_; refine thenN ?_; refine Wp.region ?_; refine Seq.q (by exact rfl) ?_; refine q_add (by exact rfl) (by exact rfl) (wrap_in (by omega)) ?_; refine Seq.q (by exact rfl) ?_; refine q_move (by exact rfl) ?_; refine Seq.end_ ?_))
      refine loopN ⟨k + 1, v', _, Hs', by omega, rfl, rfl, rfl, rfl, by rw [show 1 + 5 * (k + 1) = 1 + 5 * k + 5 from by omega]; exact hO', ?_⟩ (by omega) (by repeat (first | exact trivial | refine ⟨by exact rfl, ?_⟩)) (by repeat (first | exact List.Sublist.refl _ | exact List.nil_sublist _ | refine List.Sublist.cons_cons _ ?_ | refine List.Sublist.cons _ ?_))
      have h5 : RepL fz [.slice B1 m1 d1, .slice B2 m2 d2, .slice B3 m3 d3, .slice B4 m4 d4, .slice B5 m5 d5] (jobLists j) := ⟨rfl, fun i l hl => by
        match i, hl with
        | 0, hl => simp [jobLists] at hl; subst hl; exact ⟨_, _, _, rfl, hJ.start⟩
        | 1, hl => simp [jobLists] at hl; subst hl; exact ⟨_, _, _, rfl, hJ.over⟩
        | 2, hl => simp [jobLists] at hl; subst hl; exact ⟨_, _, _, rfl, hJ.fin⟩
        | 3, hl => simp [jobLists] at hl; subst hl; exact ⟨_, _, _, rfl, hJ.atStart⟩
        | 4, hl => simp [jobLists] at hl; subst hl; exact ⟨_, _, _, rfl, hJ.atEnd⟩
        | n + 5, hl => simp [jobLists] at hl⟩
      have h6 := hR.append h5
      rw [List.take_add_one, hj]
      simpa using h6
    · ((refine Seq.done ?_; refine Wp.seq ?_; refine Wp.cond_false (by exact rfl) ?_; refine Wp.exit ?_; refine thenX ?_; refine loopX ?_; refine blkX (by exact rfl) ?_; refine thenN ?_; refine Wp.seq ?_; refine Wp.region ?_; refine Seq.q (by exact rfl) ?_; refine q_move (by exact rfl) ?_; refine Seq.q (by exact rfl) ?_; refine q_assign (by exact rfl) ?_; refine Seq.done ?_; refine Wp.ret ?_))
      refine ret1F rfl rfl (fun fz' hle hf => ?_)
      obtain ⟨A, c, rfl, g1, g2, g3⟩ := hO.row (fun p hp => hf p (.tail _ hp))
      have hk' : k = n4 := by omega
      subst hk'
      rw [List.take_of_length_le (by omega)] at hR
      refine ⟨rfl, A, _, c, rfl, (hR.mono hle).sl g3 (by have := hO.1; simpa using this) g1 g2 (by omega)⟩
theorem lists_f {fz : FZ} {t : Temporal} {A1 : Option Addr} {n1 c1 : Nat} {A2 : Option Addr} {n2 c2 : Nat} {A3 : Option Addr} {n3 c3 : Nat} {A4 : Option Addr} {n4 c4 : Nat} (ht : TempR fz t A1 n1 c1 A2 n2 c2 A3 n3 c3 A4 n4 c4) (hj : n4 ≤ 1000) :
    GFn Try.prog 25 [.agg #[.slice A1 n1 c1, .slice A2 n2 c2, .slice A3 n3 c3, .slice A4 n4 c4]] fz [] fun v fz' H' => H' = [] ∧ ∃ A n c, v = .slice A n c ∧ Sl (slL factL) fz' A n c (listsM t) := by
  (refine GFn.of_wp Try.func25 rfl Try.ntmps25 rfl rfl (fun w0 => ?_))
  have l4 := ht.jobs.len
  refine Wp.seq (Wp.region (Seq.stepK (by exact rfl) (k_box _ (by exact rfl) (by exact rfl) (fun g => ?_))))
  ((refine Seq.q (by exact rfl) ?_; refine q_assign (by exact rfl) ?_; refine Seq.done ?_; refine Wp.seq ?_; refine Wp.region ?_; refine Seq.q (by exact rfl) ?_; refine q_fieldAddr T (by exact rfl) (by exact rfl) (by exact rfl) (by exact rfl) (by exact rfl) (by exact rfl) ?_; refine Seq.q (by exact rfl) ?_; refine q_load_own T 0 (by exact rfl) (by exact rfl) (by exact rfl) (by exact rfl) (by exact rfl) ?_))
  (refine Seq.stepK (by exact rfl) (k_buildSlice T (cs := [_]) (by exact rfl) (by exact rfl) (by exact rfl) (by exact rfl) (by exact rfl) (by exact rfl) (by exact rfl) (by exact rfl) (fun g2 => ?_)))
  ((refine Seq.q (by exact rfl) ?_; refine q_assign (by exact rfl) ?_; refine Seq.done ?_; refine Wp.seq ?_; refine Wp.seq ?_; refine Wp.region ?_; refine Seq.q (by exact rfl) ?_; refine q_fieldAddr T (by exact rfl) (by exact rfl) (by exact rfl) (by exact rfl) (by exact rfl) (by exact rfl) ?_; refine Seq.q (by exact rfl) ?_; refine q_load_own T 1 (by exact rfl) (by exact rfl) (by exact rfl) (by exact rfl) (by exact rfl) ?_; refine Seq.q (by exact rfl) ?_; refine q_len_slice T (by exact rfl) (by exact rfl) (by exact rfl) ?_; refine Seq.q (by exact rfl) ?_; refine q_move (by exact rfl) ?_; refine Seq.done ?_; refine Wp.block ?_))
  (first | refine Wp.perm (List.Perm.swap _ _ _) ?_ | refine Seq.perm (List.Perm.swap _ _ _) ?_)
  refine Wp.loop (fun q σ fz' H' => ∃ (k : Nat) (v : Value) (vs : List Value) (Hs : HP), k ≤ n4 ∧ q = n4 - k ∧ σ = [(12, .int .i64 k), (11, .int .i64 n4), (10, .slice A4 n4 c4), (3, v)] ∧ fz = fz' ∧ H' = (g, .cells #[.slice A1 n1 c1, .slice A2 n2 c2, .slice A3 n3 c3, .slice A4 n4 c4] 26 (0, 0)) :: Hs ∧ OwnS 23 1 v (1 + 5 * k) vs Hs ∧ RepL fz vs (t.goal :: (t.jobs.take k).flatMap jobLists))
    ⟨0, _, _, _, Nat.zero_le _, rfl, rfl, rfl, rfl, OwnS.of_block rfl (by decide), ?_⟩ (by repeat (first | exact trivial | refine ⟨by exact rfl, ?_⟩)) (by repeat (first | exact List.Sublist.refl _ | exact List.nil_sublist _ | refine List.Sublist.cons_cons _ ?_ | refine List.Sublist.cons _ ?_)) ?_
  · refine ⟨rfl, fun i l hl => ?_⟩
    cases i with
    | zero => simp at hl; subst hl; exact ⟨_, _, _, rfl, ht.goal⟩
    | succ i => simp at hl
  · rintro q σ fz' H' ⟨k, v, vs, Hs, hk, rfl, rfl, rfl, rfl, hO, hR⟩
    ((refine Wp.seq ?_; refine Wp.region ?_))
    (((refine Seq.q (by exact rfl) ?_)); (refine q_lssD (by exact rfl) (by exact rfl) (fun hlt => ?_) (fun hge => ?_)))
    · ((refine Seq.done ?_; refine Wp.seq ?_; refine Wp.cond_true (by exact rfl) ?_; refine Wp.skip ?_; refine thenN ?_; refine Wp.seq ?_; refine Wp.block ?_; refine Wp.seq ?_; refine Wp.region ?_))
      obtain ⟨j, hj⟩ := get_some (l := t.jobs) (k := k) (by omega)
      (((refine Seq.q (by exact rfl) ?_)); refine q_index T k (by exact rfl) (by exact rfl) (by exact rfl) (by exact rfl) (by exact rfl) (by exact rfl) ht.jobs (by first | rfl | omega) hj (fun p hp => ?_))
      (((refine Seq.q (by exact rfl) ?_)); refine q_load_at T (by exact rfl) (by exact rfl) (by exact rfl) hp (by exact rfl) ?_)
      rintro _ ⟨B1, m1, d1, B2, m2, d2, B3, m3, d3, B4, m4, d4, B5, m5, d5, rfl, hJ⟩
      ((refine Seq.stepK (by exact rfl) (k_alloc T (by exact rfl) (by exact rfl) (fun _ => ?_)); refine Seq.stepK0 (k_store0 T (by exact rfl) (by exact rfl) (by exact rfl) (by exact rfl) (by exact rfl) (by exact rfl) ?_); refine Seq.done ?_; refine Wp.region ?_; refine Seq.q (by exact rfl) ?_; refine q_move (by exact rfl) ?_; refine Seq.q (by exact rfl) ?_; refine q_fieldAddr T (by exact rfl) (by exact rfl) (by exact rfl) (by exact rfl) (by exact rfl) (by exact rfl) ?_; refine Seq.q (by exact rfl) ?_; refine q_load_own T 0 (by exact rfl) (by exact rfl) (by exact rfl) (by exact rfl) (by exact rfl) ?_; refine Seq.q (by exact rfl) ?_; refine q_fieldAddr T (by exact rfl) (by exact rfl) (by exact rfl) (by exact rfl) (by exact rfl) (by exact rfl) ?_; refine Seq.q (by exact rfl) ?_; refine q_load_own T 0 (by exact rfl) (by exact rfl) (by exact rfl) (by exact rfl) (by exact rfl) ?_; refine Seq.q (by exact rfl) ?_; refine q_fieldAddr T (by exact rfl) (by exact rfl) (by exact rfl) (by exact rfl) (by exact rfl) (by exact rfl) ?_; refine Seq.q (by exact rfl) ?_; refine q_load_own T 0 (by exact rfl) (by exact rfl) (by exact rfl) (by exact rfl) (by exact rfl) ?_; refine Seq.q (by exact rfl) ?_; refine q_fieldAddr T (by exact rfl) (by exact rfl) (by exact rfl) (by exact rfl) (by exact rfl) (by exact rfl) ?_; refine Seq.q (by exact rfl) ?_; refine q_load_own T 0 (by exact rfl) (by exact rfl) (by exact rfl) (by exact rfl) (by exact rfl) ?_; refine Seq.q (by exact rfl) ?_; refine q_fieldAddr T (by exact rfl) (by exact rfl) (by exact rfl) (by exact rfl) (by exact rfl) (by exact rfl) ?_; refine Seq.q (by exact rfl) ?_; refine q_load_own T 0 (by exact rfl) (by exact rfl) (by exact rfl) (by exact rfl) (by exact rfl) ?_))
      (refine Seq.stepK (by exact rfl) (k_buildSlice T (cs := [_, _, _, _, _]) (by exact rfl) (by exact rfl) (by exact rfl) (by exact rfl) (by exact rfl) (by exact rfl) (by exact rfl) (by exact rfl) (fun g3 => ?_)))
      (refine Seq.stepK (by exact rfl) (k_append T (Hr := [_, _, _]) (by exact rfl) (by exact rfl) (by exact rfl) (by exact rfl) (by exact rfl) (by exact rfl) (by exact rfl) (List.Perm.refl _) hO rfl (src_own (.head _)) (by intro u hu; simp at hu; rcases hu with rfl | rfl | rfl | rfl | rfl <;> rfl) (by show _ * 24 ≤ _; omega) (by omega) (fun v' Hs' hO' => ?_)))
      ((refine Seq.q (by exact rfl) ?_; refine q_assign (by exact rfl) ?_; refine Seq.end_ ?_; refine blkN ?_; refine thenN ?_; refine Wp.region ?_; refine Seq.q (by exact rfl) ?_; refine q_add (by exact rfl) (by exact rfl) (wrap_in (by omega)) ?_; refine Seq.q (by exact rfl) ?_; refine q_move (by exact rfl) ?_; refine Seq.end_ ?_))
      refine loopN ⟨k + 1, v', _, Hs', by omega, rfl, rfl, rfl, rfl, by rw [show 1 + 5 * (k + 1) = 1 + 5 * k + 5 from by omega]; exact hO', ?_⟩ (by omega) (by repeat (first | exact trivial | refine ⟨by exact rfl, ?_⟩)) (by repeat (first | exact List.Sublist.refl _ | exact List.nil_sublist _ | refine List.Sublist.cons_cons _ ?_ | refine List.Sublist.cons _ ?_))
      have h5 : RepL fz [.slice B1 m1 d1, .slice B2 m2 d2, .slice B3 m3 d3, .slice B4 m4 d4, .slice B5 m5 d5] (jobLists j) := ⟨rfl, fun i l hl => by
        match i, hl with
        | 0, hl => simp [jobLists] at hl; subst hl; exact ⟨_, _, _, rfl, hJ.start⟩
        | 1, hl => simp [jobLists] at hl; subst hl; exact ⟨_, _, _, rfl, hJ.over⟩
        | 2, hl => simp [jobLists] at hl; subst hl; exact ⟨_, _, _, rfl, hJ.fin⟩
        | 3, hl => simp [jobLists] at hl; subst hl; exact ⟨_, _, _, rfl, hJ.atStart⟩
        | 4, hl => simp [jobLists] at hl; subst hl; exact ⟨_, _, _, rfl, hJ.atEnd⟩
        | n + 5, hl => simp [jobLists] at hl⟩
      have h6 := hR.append h5
      rw [List.take_add_one, hj]
      simpa using h6
    · ((refine Seq.done ?_; refine Wp.seq ?_; refine Wp.cond_false (by exact rfl) ?_; refine Wp.exit ?_; refine thenX ?_; refine loopX ?_; refine blkX (by exact rfl) ?_; refine thenN ?_; refine Wp.seq ?_; refine Wp.region ?_; refine Seq.q (by exact rfl) ?_; refine q_move (by exact rfl) ?_; refine Seq.q (by exact rfl) ?_; refine q_assign (by exact rfl) ?_; refine Seq.done ?_; refine Wp.ret ?_))
      refine ret1F rfl rfl (fun fz' hle hf => ?_)
      obtain ⟨A, c, rfl, g1, g2, g3⟩ := hO.row (fun p hp => hf p (.tail _ hp))
      have hk' : k = n4 := by omega
      subst hk'
      rw [List.take_of_length_le (by omega)] at hR
      refine ⟨rfl, A, _, c, rfl, (hR.mono hle).sl g3 (by have := hO.1; simpa using this) g1 g2 (by omega)⟩

/-! ### copies -/
theorem clone_f {fz : FZ} {A : Option Addr} {n c : Nat} {xs : List Int} (h : Sl intL fz A n c xs) (hn : n ≤ 1000000) :
    GFn Try.prog 61 [.slice A n c] fz [] fun v _ H' => OwnS 3 1 v n (xs.map (Value.int .i64)) H' := by
  (refine GFn.of_wp Try.func61 rfl Try.ntmps61 rfl rfl (fun w0 => ?_))
  have l1 := h.len
  have hsrc : n = 0 ∨ ∃ ad, A = some ad ∧ Row fz ad (xs.map (Value.int .i64)) := by
    rcases h.elem with h0 | ⟨ad, h1, h2⟩
    · exact .inl h0
    · refine .inr ⟨ad, h1, fun j u hu => ?_⟩
      rw [List.getElem?_map] at hu
      cases hx : xs[j]? with
      | none => simp [hx] at hu
      | some x =>
        simp [hx] at hu
        subst hu
        obtain ⟨v, ⟨he, _⟩, hc⟩ := (h2 j x hx).cell rfl
        injection he with he
        subst he
        simpa [intL] using hc
  ((refine Wp.seq ?_; refine Wp.region ?_; refine Seq.q (by exact rfl) ?_; refine q_assign (by exact rfl) ?_; refine Seq.done ?_; refine Wp.seq ?_; refine Wp.seq ?_; refine Wp.region ?_; refine Seq.q (by exact rfl) ?_; refine q_move (by exact rfl) ?_))
  ((refine Seq.q (by exact rfl) ?_)); refine q_eql_nilslice T (by exact rfl) (by exact rfl) (by exact rfl) (by exact rfl) (fun hA => ?_) (fun hA => ?_)
  · ((refine Seq.done ?_; refine Wp.cond_true (by exact rfl) ?_; refine Wp.seq ?_; refine Wp.region ?_; refine Seq.q (by exact rfl) ?_; refine q_assign (by exact rfl) ?_; refine Seq.done ?_; refine Wp.ret ?_; refine thenR ?_))
    have hn0 : n = 0 := by
      rcases hsrc with h0 | ⟨ad, h1, _⟩
      · exact h0
      · rw [hA] at h1; cases h1
    have hx : xs = [] := List.eq_nil_of_length_eq_zero (by omega)
    subst hx hn0
    exact ret1 rfl rfl (by repeat (first | exact List.Sublist.refl _ | exact List.nil_sublist _ | refine List.Sublist.cons_cons _ ?_ | refine List.Sublist.cons _ ?_)) (OwnS.nil _ _)
  · ((refine Seq.done ?_; refine Wp.cond_false (by exact rfl) ?_; refine Wp.skip ?_; refine thenN ?_; refine Wp.seq ?_; refine Wp.region ?_))
    refine Seq.stepK (by exact rfl) (k_buildSlice0 T (by exact rfl) (by exact rfl) (by exact rfl) (fun g => ?_))
    ((refine Seq.q (by exact rfl) ?_; refine q_move (by exact rfl) ?_))
    (refine Seq.stepK (by exact rfl) (k_append T (Hr := []) (by exact rfl) (by exact rfl) (by exact rfl) (by exact rfl) (by exact rfl) (by exact rfl) (by exact rfl) (List.Perm.refl _) (OwnS.of_block (cs := []) (n := 0) rfl (by decide)) (by show _ = _ * 1; simp [l1]) (src_row hsrc) (by intro u hu; obtain ⟨x, _, rfl⟩ := List.mem_map.1 hu; rfl) (by show _ * 8 ≤ _; omega) (by omega) (fun v Hs hO => ?_)))
    ((refine Seq.q (by exact rfl) ?_; refine q_assign (by exact rfl) ?_; refine Seq.done ?_; refine Wp.ret ?_))
    refine ret1O (H' := Hs) (H2 := []) rfl rfl (by simp) (fun fz' _ _ => ?_)
    simp only [Nat.zero_add, List.nil_append] at hO
    exact hO

/-! ### the makespan -/
/-- launches of a task's jobs, at times that are small -/
def LaunchOk (t : Temporal) (l : Launch) : Prop := 0 ≤ l.job ∧ l.job < t.jobs.length ∧ 0 ≤ l.at_ ∧ l.at_ ≤ 1048576
instance (t : Temporal) (l : Launch) : Decidable (LaunchOk t l) := by unfold LaunchOk; infer_instance
def DurOk (t : Temporal) : Prop := ∀ j ∈ t.jobs, 1 ≤ j.dur ∧ j.dur ≤ 62
def durM (t : Temporal) (l : Launch) : Int := ((t.jobs[l.job.toNat]?).map (·.dur)).getD 0
def endM (t : Temporal) (l : Launch) : Int := l.at_ + durM t l
def spanM (t : Temporal) (ls : List Launch) : Int := ls.foldl (fun m l => max m (endM t l)) 0
theorem launch_job {t : Temporal} {l : Launch} (h : LaunchOk t l) : ∃ (k : Nat) (j : Job), l.job = k ∧ t.jobs[k]? = some j ∧ endM t l = l.at_ + j.dur := by
  obtain ⟨j, hj⟩ := get_int (l := t.jobs) (k := l.job) h.1 h.2.1
  exact ⟨l.job.toNat, j, by have := h.1; omega, hj, by simp [endM, durM, hj]⟩
theorem end_bd {t : Temporal} {l : Launch} (h : LaunchOk t l) (hd : DurOk t) : l.at_ < endM t l ∧ endM t l ≤ l.at_ + 62 := by
  obtain ⟨k, j, _, hj, he⟩ := launch_job h
  have := hd j (List.mem_of_getElem? hj)
  omega
theorem span_snoc (t : Temporal) (ls : List Launch) (l : Launch) : spanM t (ls ++ [l]) = max (spanM t ls) (endM t l) := by simp [spanM]
theorem span_bd {t : Temporal} (hd : DurOk t) : ∀ (ls : List Launch), (∀ l ∈ ls, LaunchOk t l) → 0 ≤ spanM t ls ∧ spanM t ls ≤ 1048638 := by
  intro ls
  unfold spanM
  have : ∀ (ls : List Launch) (m : Int), 0 ≤ m → m ≤ 1048638 → (∀ l ∈ ls, LaunchOk t l) → 0 ≤ ls.foldl (fun m l => max m (endM t l)) m ∧ ls.foldl (fun m l => max m (endM t l)) m ≤ 1048638 := by
    intro ls
    induction ls with
    | nil => intro m h0 h1 _; exact ⟨h0, h1⟩
    | cons l ls ih =>
      intro m h0 h1 hl
      have h2 := hl l (by simp)
      have h3 := end_bd h2 hd
      have h4 := h2.2.2.2
      exact ih _ (by show 0 ≤ max m (endM t l); omega) (by show max m (endM t l) ≤ 1048638; omega) (fun x hx => hl x (by simp [hx]))
  exact this ls 0 (by omega) (by omega)

theorem tmakespan_q {fz : FZ} {t : Temporal} {A1 : Option Addr} {n1 c1 : Nat} {A2 : Option Addr} {n2 c2 : Nat} {A3 : Option Addr} {n3 c3 : Nat} {A4 : Option Addr} {n4 c4 : Nat} (ht : TempR fz t A1 n1 c1 A2 n2 c2 A3 n3 c3 A4 n4 c4)
    {B : Option Addr} {m d : Nat} {ls : List Launch} (hl : Sl launchL fz B m d ls) (hd : DurOk t) (hok : ∀ l ∈ ls, LaunchOk t l) :
    QFn Try.prog 33 [.agg #[.slice A1 n1 c1, .slice A2 n2 c2, .slice A3 n3 c3, .slice A4 n4 c4], .slice B m d] fz (.int .i64 (spanM t ls)) := by
  refine GFn.quiet ?_
  (refine GFn.of_wp Try.func33 rfl Try.ntmps33 rfl rfl (fun w0 => ?_))
  have l1 := hl.len
  have s1 := hl.short
  refine Wp.seq (Wp.region (Seq.stepK (by exact rfl) (k_box _ (by exact rfl) (by exact rfl) (fun g => ?_))))
  ((refine Seq.q (by exact rfl) ?_; refine q_assign (by exact rfl) ?_; refine Seq.done ?_; refine Wp.seq ?_; refine Wp.region ?_; refine Seq.q (by exact rfl) ?_; refine q_assign (by exact rfl) ?_; refine Seq.done ?_; refine Wp.seq ?_; refine Wp.seq ?_; refine Wp.region ?_; refine Seq.q (by exact rfl) ?_; refine q_move (by exact rfl) ?_; refine Seq.q (by exact rfl) ?_; refine q_len_slice T (by exact rfl) (by exact rfl) (by exact rfl) ?_; refine Seq.q (by exact rfl) ?_; refine q_move (by exact rfl) ?_; refine Seq.done ?_; refine Wp.block ?_))
  refine Wp.loop (fun q σ fz' H' => ∃ k : Nat, k ≤ m ∧ q = m - k ∧ σ = [(10, .int .i64 k), (9, .int .i64 m), (8, .slice B m d), (5, .int .i64 (spanM t (ls.take k))), (2, .pointer (some ⟨g, 0, none⟩))] ∧ fz = fz' ∧ H' = [(g, .cells #[.slice A1 n1 c1, .slice A2 n2 c2, .slice A3 n3 c3, .slice A4 n4 c4] 26 (0, 0))]) ⟨0, Nat.zero_le _, rfl, rfl, rfl, rfl⟩ (by repeat (first | exact trivial | refine ⟨by exact rfl, ?_⟩)) (by repeat (first | exact List.Sublist.refl _ | exact List.nil_sublist _ | refine List.Sublist.cons_cons _ ?_ | refine List.Sublist.cons _ ?_)) ?_
  rintro q σ fz' H' ⟨k, hk, rfl, rfl, rfl, rfl⟩
  ((refine Wp.seq ?_; refine Wp.region ?_))
  (((refine Seq.q (by exact rfl) ?_)); (refine q_lssD (by exact rfl) (by exact rfl) (fun hlt => ?_) (fun hge => ?_)))
  · ((refine Seq.done ?_; refine Wp.seq ?_; refine Wp.cond_true (by exact rfl) ?_; refine Wp.skip ?_; refine thenN ?_; refine Wp.seq ?_; refine Wp.block ?_; refine Wp.seq ?_; refine Wp.region ?_))
    obtain ⟨l, hx⟩ := get_some (l := ls) (k := k) (by omega)
    (((refine Seq.q (by exact rfl) ?_)); refine q_index T k (by exact rfl) (by exact rfl) (by exact rfl) (by exact rfl) (by exact rfl) (by exact rfl) hl (by first | rfl | omega) hx (fun p hp => ?_))
    (((refine Seq.q (by exact rfl) ?_)); refine q_load_at T (by exact rfl) (by exact rfl) (by exact rfl) hp (by exact rfl) ?_)
    rintro _ ⟨rfl, i1, i2⟩
    have hlo := hok l (List.mem_of_getElem? hx)
    obtain ⟨kk, j, hkk, hj, he⟩ := launch_job hlo
    have hb := end_bd hlo hd
    have hat := hlo.2.2
    ((refine Seq.stepK (by exact rfl) (k_alloc T (by exact rfl) (by exact rfl) (fun _ => ?_)); refine Seq.stepK0 (k_store0 T (by exact rfl) (by exact rfl) (by exact rfl) (by exact rfl) (by exact rfl) (by exact rfl) ?_); refine Seq.done ?_; refine Wp.region ?_; refine Seq.q (by exact rfl) ?_; refine q_move (by exact rfl) ?_; refine Seq.q (by exact rfl) ?_; refine q_load_own_all T 1 (by exact rfl) (by exact rfl) (by exact rfl) (by exact rfl) (by exact rfl) ?_; refine Seq.q (by exact rfl) ?_; refine q_load_own_all T 0 (by exact rfl) (by exact rfl) (by exact rfl) (by exact rfl) (by exact rfl) ?_))
    (((refine Seq.q (by exact rfl) ?_)); refine q_call (by exact rfl) (by exact rfl) (tend_q ht hkk hj (by unfold I64; omega)) ?_)
    ((refine Seq.q (by exact rfl) ?_; refine q_max (by exact rfl) (by exact rfl) ?_; refine Seq.q (by exact rfl) ?_; refine q_assign (by exact rfl) ?_; refine Seq.end_ ?_; refine blkN ?_; refine thenN ?_; refine Wp.region ?_; refine Seq.q (by exact rfl) ?_; refine q_add (by exact rfl) (by exact rfl) (wrap_in (by omega)) ?_; refine Seq.q (by exact rfl) ?_; refine q_move (by exact rfl) ?_; refine Seq.end_ ?_))
    exact loopN ⟨k + 1, by omega, rfl, rfl, rfl, rfl⟩ (by omega) (by rw [List.take_add_one, hx]; simp only [Option.toList]; rw [span_snoc, he]; exact (by repeat (first | exact trivial | refine ⟨by exact rfl, ?_⟩))) (by repeat (first | exact List.Sublist.refl _ | exact List.nil_sublist _ | refine List.Sublist.cons_cons _ ?_ | refine List.Sublist.cons _ ?_))
  · ((refine Seq.done ?_; refine Wp.seq ?_; refine Wp.cond_false (by exact rfl) ?_; refine Wp.exit ?_; refine thenX ?_; refine loopX ?_; refine blkX (by exact rfl) ?_; refine thenN ?_; refine Wp.seq ?_; refine Wp.region ?_; refine Seq.q (by exact rfl) ?_; refine q_move (by exact rfl) ?_; refine Seq.q (by exact rfl) ?_; refine q_assign (by exact rfl) ?_; refine Seq.done ?_; refine Wp.ret ?_))
    (exact ret1 rfl rfl (by repeat (first | exact List.Sublist.refl _ | exact List.nil_sublist _ | refine List.Sublist.cons_cons _ ?_ | refine List.Sublist.cons _ ?_)) (by rw [List.take_of_length_le (by omega)]))
theorem makespan_q {fz : FZ} {t : Temporal} {A1 : Option Addr} {n1 c1 : Nat} {A2 : Option Addr} {n2 c2 : Nat} {A3 : Option Addr} {n3 c3 : Nat} {A4 : Option Addr} {n4 c4 : Nat} (ht : TempR fz t A1 n1 c1 A2 n2 c2 A3 n3 c3 A4 n4 c4)
    {B : Option Addr} {m d : Nat} {ls : List Launch} (hl : Sl launchL fz B m d ls) (hd : DurOk t) (hok : ∀ l ∈ ls, LaunchOk t l) :
    QFn Try.prog 38 [.agg #[.slice A1 n1 c1, .slice A2 n2 c2, .slice A3 n3 c3, .slice A4 n4 c4], .slice B m d] fz (.int .i64 (spanM t ls)) := by
  refine GFn.quiet ?_
  (refine GFn.of_wp Try.func38 rfl Try.ntmps38 rfl rfl (fun w0 => ?_))
  have l1 := hl.len
  have s1 := hl.short
  refine Wp.seq (Wp.region (Seq.stepK (by exact rfl) (k_box _ (by exact rfl) (by exact rfl) (fun g => ?_))))
  ((refine Seq.q (by exact rfl) ?_; refine q_assign (by exact rfl) ?_; refine Seq.done ?_; refine Wp.seq ?_; refine Wp.region ?_; refine Seq.q (by exact rfl) ?_; refine q_assign (by exact rfl) ?_; refine Seq.done ?_; refine Wp.seq ?_; refine Wp.seq ?_; refine Wp.region ?_; refine Seq.q (by exact rfl) ?_; refine q_move (by exact rfl) ?_; refine Seq.q (by exact rfl) ?_; refine q_len_slice T (by exact rfl) (by exact rfl) (by exact rfl) ?_; refine Seq.q (by exact rfl) ?_; refine q_move (by exact rfl) ?_; refine Seq.done ?_; refine Wp.block ?_))
  refine Wp.loop (fun q σ fz' H' => ∃ k : Nat, k ≤ m ∧ q = m - k ∧ σ = [(10, .int .i64 k), (9, .int .i64 m), (8, .slice B m d), (5, .int .i64 (spanM t (ls.take k))), (2, .pointer (some ⟨g, 0, none⟩))] ∧ fz = fz' ∧ H' = [(g, .cells #[.slice A1 n1 c1, .slice A2 n2 c2, .slice A3 n3 c3, .slice A4 n4 c4] 26 (0, 0))]) ⟨0, Nat.zero_le _, rfl, rfl, rfl, rfl⟩ (by repeat (first | exact trivial | refine ⟨by exact rfl, ?_⟩)) (by repeat (first | exact List.Sublist.refl _ | exact List.nil_sublist _ | refine List.Sublist.cons_cons _ ?_ | refine List.Sublist.cons _ ?_)) ?_
  rintro q σ fz' H' ⟨k, hk, rfl, rfl, rfl, rfl⟩
  ((refine Wp.seq ?_; refine Wp.region ?_))
  (((refine Seq.q (by exact rfl) ?_)); (refine q_lssD (by exact rfl) (by exact rfl) (fun hlt => ?_) (fun hge => ?_)))
  · ((refine Seq.done ?_; refine Wp.seq ?_; refine Wp.cond_true (by exact rfl) ?_; refine Wp.skip ?_; refine thenN ?_; refine Wp.seq ?_; refine Wp.block ?_; refine Wp.seq ?_; refine Wp.region ?_))
    obtain ⟨l, hx⟩ := get_some (l := ls) (k := k) (by omega)
    (((refine Seq.q (by exact rfl) ?_)); refine q_index T k (by exact rfl) (by exact rfl) (by exact rfl) (by exact rfl) (by exact rfl) (by exact rfl) hl (by first | rfl | omega) hx (fun p hp => ?_))
    (((refine Seq.q (by exact rfl) ?_)); refine q_load_at T (by exact rfl) (by exact rfl) (by exact rfl) hp (by exact rfl) ?_)
    rintro _ ⟨rfl, i1, i2⟩
    have hlo := hok l (List.mem_of_getElem? hx)
    obtain ⟨kk, j, hkk, hj, he⟩ := launch_job hlo
    have hb := end_bd hlo hd
    have hat := hlo.2.2
    ((refine Seq.stepK (by exact rfl) (k_alloc T (by exact rfl) (by exact rfl) (fun _ => ?_)); refine Seq.stepK0 (k_store0 T (by exact rfl) (by exact rfl) (by exact rfl) (by exact rfl) (by exact rfl) (by exact rfl) ?_); refine Seq.done ?_; refine Wp.region ?_; refine Seq.q (by exact rfl) ?_; refine q_move (by exact rfl) ?_; refine Seq.q (by exact rfl) ?_; refine q_load_own_all T 1 (by exact rfl) (by exact rfl) (by exact rfl) (by exact rfl) (by exact rfl) ?_; refine Seq.q (by exact rfl) ?_; refine q_load_own_all T 0 (by exact rfl) (by exact rfl) (by exact rfl) (by exact rfl) (by exact rfl) ?_))
    (((refine Seq.q (by exact rfl) ?_)); refine q_call (by exact rfl) (by exact rfl) (end_q ht hkk hj (by unfold I64; omega)) ?_)
    ((refine Seq.q (by exact rfl) ?_; refine q_max (by exact rfl) (by exact rfl) ?_; refine Seq.q (by exact rfl) ?_; refine q_assign (by exact rfl) ?_; refine Seq.end_ ?_; refine blkN ?_; refine thenN ?_; refine Wp.region ?_; refine Seq.q (by exact rfl) ?_; refine q_add (by exact rfl) (by exact rfl) (wrap_in (by omega)) ?_; refine Seq.q (by exact rfl) ?_; refine q_move (by exact rfl) ?_; refine Seq.end_ ?_))
    exact loopN ⟨k + 1, by omega, rfl, rfl, rfl, rfl⟩ (by omega) (by rw [List.take_add_one, hx]; simp only [Option.toList]; rw [span_snoc, he]; exact (by repeat (first | exact trivial | refine ⟨by exact rfl, ?_⟩))) (by repeat (first | exact List.Sublist.refl _ | exact List.nil_sublist _ | refine List.Sublist.cons_cons _ ?_ | refine List.Sublist.cons _ ?_))
  · ((refine Seq.done ?_; refine Wp.seq ?_; refine Wp.cond_false (by exact rfl) ?_; refine Wp.exit ?_; refine thenX ?_; refine loopX ?_; refine blkX (by exact rfl) ?_; refine thenN ?_; refine Wp.seq ?_; refine Wp.region ?_; refine Seq.q (by exact rfl) ?_; refine q_move (by exact rfl) ?_; refine Seq.q (by exact rfl) ?_; refine q_assign (by exact rfl) ?_; refine Seq.done ?_; refine Wp.ret ?_))
    (exact ret1 rfl rfl (by repeat (first | exact List.Sublist.refl _ | exact List.nil_sublist _ | refine List.Sublist.cons_cons _ ?_ | refine List.Sublist.cons _ ?_)) (by rw [List.take_of_length_le (by omega)]))

/-! ### launches that are none of a task -/
def launchesM (t : Temporal) (ls : List Launch) : Int := if 4096 < ls.length then 5 else if ∀ l ∈ ls, LaunchOk t l then 0 else 1

theorem launches_q {fz : FZ} {t : Temporal} {A1 : Option Addr} {n1 c1 : Nat} {A2 : Option Addr} {n2 c2 : Nat} {A3 : Option Addr} {n3 c3 : Nat} {A4 : Option Addr} {n4 c4 : Nat} (ht : TempR fz t A1 n1 c1 A2 n2 c2 A3 n3 c3 A4 n4 c4)
    {B : Option Addr} {m d : Nat} {ls : List Launch} (hl : Sl launchL fz B m d ls) :
    QFn Try.prog 34 [.agg #[.slice A1 n1 c1, .slice A2 n2 c2, .slice A3 n3 c3, .slice A4 n4 c4], .slice B m d] fz (.int .i64 (launchesM t ls)) := by
  refine GFn.quiet ?_
  (refine GFn.of_wp Try.func34 rfl Try.ntmps34 rfl rfl (fun w0 => ?_))
  have l1 := hl.len
  have s1 := hl.short
  have l4 := ht.jobs.len
  refine Wp.seq (Wp.region (Seq.stepK (by exact rfl) (k_box _ (by exact rfl) (by exact rfl) (fun g => ?_))))
  ((refine Seq.q (by exact rfl) ?_; refine q_assign (by exact rfl) ?_; refine Seq.done ?_; refine Wp.seq ?_; refine Wp.seq ?_; refine Wp.region ?_; refine Seq.q (by exact rfl) ?_; refine q_move (by exact rfl) ?_; refine Seq.q (by exact rfl) ?_; refine q_len_slice T (by exact rfl) (by exact rfl) (by exact rfl) ?_))
  (((refine Seq.q (by exact rfl) ?_)); (refine q_gtrD (by exact rfl) (by exact rfl) (fun d1 => ?_) (fun d1 => ?_)))
  · ((refine Seq.done ?_; refine Wp.cond_true (by exact rfl) ?_; refine Wp.seq ?_; refine Wp.region ?_; refine Seq.q (by exact rfl) ?_; refine q_assign (by exact rfl) ?_; refine Seq.done ?_; refine Wp.ret ?_; refine thenR ?_))
    (exact ret1 rfl rfl (by repeat (first | exact List.Sublist.refl _ | exact List.nil_sublist _ | refine List.Sublist.cons_cons _ ?_ | refine List.Sublist.cons _ ?_)) (by rw [launchesM, if_pos (by omega)]))
  · ((refine Seq.done ?_; refine Wp.cond_false (by exact rfl) ?_; refine Wp.skip ?_; refine thenN ?_; refine Wp.seq ?_; refine Wp.seq ?_; refine Wp.region ?_; refine Seq.q (by exact rfl) ?_; refine q_move (by exact rfl) ?_; refine Seq.q (by exact rfl) ?_; refine q_len_slice T (by exact rfl) (by exact rfl) (by exact rfl) ?_; refine Seq.q (by exact rfl) ?_; refine q_move (by exact rfl) ?_; refine Seq.done ?_; refine Wp.block ?_))
    (refine Wp.loop (fun q σ fz' H' => ∃ k : Nat, k ≤ m ∧ q = m - k ∧ σ = [(12, .int .i64 k), (11, .int .i64 m), (10, .slice B m d), (2, .pointer (some ⟨g, 0, none⟩))] ∧ fz = fz' ∧ H' = [(g, .cells #[.slice A1 n1 c1, .slice A2 n2 c2, .slice A3 n3 c3, .slice A4 n4 c4] 26 (0, 0))] ∧ (∀ i, i < k → ∀ l, ls[i]? = some l → LaunchOk t l)) ⟨0, Nat.zero_le _, rfl, rfl, rfl, rfl, (fun i hi => absurd hi (by omega))⟩ (by repeat (first | exact trivial | refine ⟨by exact rfl, ?_⟩)) (by repeat (first | exact List.Sublist.refl _ | exact List.nil_sublist _ | refine List.Sublist.cons_cons _ ?_ | refine List.Sublist.cons _ ?_)) ?_; rintro q σ fz' H' ⟨k, hk, rfl, rfl, rfl, rfl, hh⟩)
    ((refine Wp.seq ?_; refine Wp.region ?_))
    (((refine Seq.q (by exact rfl) ?_)); (refine q_lssD (by exact rfl) (by exact rfl) (fun hlt => ?_) (fun hge => ?_)))
    · ((refine Seq.done ?_; refine Wp.seq ?_; refine Wp.cond_true (by exact rfl) ?_; refine Wp.skip ?_; refine thenN ?_; refine Wp.seq ?_; refine Wp.block ?_; refine Wp.seq ?_; refine Wp.region ?_))
      obtain ⟨l, hx⟩ := get_some (l := ls) (k := k) (by omega)
      (((refine Seq.q (by exact rfl) ?_)); refine q_index T k (by exact rfl) (by exact rfl) (by exact rfl) (by exact rfl) (by exact rfl) (by exact rfl) hl (by first | rfl | omega) hx (fun p hp => ?_))
      (((refine Seq.q (by exact rfl) ?_)); refine q_load_at T (by exact rfl) (by exact rfl) (by exact rfl) hp (by exact rfl) ?_)
      rintro _ ⟨rfl, i1, i2⟩
      have bad : ¬ LaunchOk t l → Value.int .i64 1 = .int .i64 (launchesM t ls) := fun h => by
        rw [launchesM, if_neg (by omega), if_neg (fun hc => h (hc l (List.mem_of_getElem? hx)))]
      ((refine Seq.stepK (by exact rfl) (k_alloc T (by exact rfl) (by exact rfl) (fun _ => ?_)); refine Seq.stepK0 (k_store0 T (by exact rfl) (by exact rfl) (by exact rfl) (by exact rfl) (by exact rfl) (by exact rfl) ?_); refine Seq.done ?_; refine Wp.seq ?_; refine Wp.region ?_; refine Seq.q (by exact rfl) ?_; refine q_fieldAddr T (by exact rfl) (by exact rfl) (by exact rfl) (by exact rfl) (by exact rfl) (by exact rfl) ?_; refine Seq.q (by exact rfl) ?_; refine q_load_own T 0 (by exact rfl) (by exact rfl) (by exact rfl) (by exact rfl) (by exact rfl) ?_))
      (((refine Seq.q (by exact rfl) ?_)); (refine q_lssD (by exact rfl) (by exact rfl) (fun d2 => ?_) (fun d2 => ?_)))
      · ((refine Seq.q (by exact rfl) ?_; refine q_move (by exact rfl) ?_; refine Seq.guard_no (by exact rfl) (by exact rfl) (by exact rfl) (by exact rfl) ?_; refine Seq.guard_no (by exact rfl) (by exact rfl) (by exact rfl) (by exact rfl) ?_; refine Seq.guard_no (by exact rfl) (by exact rfl) (by exact rfl) (by exact rfl) ?_; refine Seq.guard_no (by exact rfl) (by exact rfl) (by exact rfl) (by exact rfl) ?_; refine Seq.guard_no (by exact rfl) (by exact rfl) (by exact rfl) (by exact rfl) ?_; refine Seq.guard_no (by exact rfl) (by exact rfl) (by exact rfl) (by exact rfl) ?_; refine Seq.q (by exact rfl) ?_; refine q_pick_true (by exact rfl) (by exact rfl) ?_; refine Seq.q (by exact rfl) ?_; refine q_move (by exact rfl) ?_; refine Seq.guard_no (by exact rfl) (by exact rfl) (by exact rfl) (by exact rfl) ?_; refine Seq.guard_no (by exact rfl) (by exact rfl) (by exact rfl) (by exact rfl) ?_; refine Seq.guard_no (by exact rfl) (by exact rfl) (by exact rfl) (by exact rfl) ?_; refine Seq.q (by exact rfl) ?_; refine q_pick_true (by exact rfl) (by exact rfl) ?_; refine Seq.q (by exact rfl) ?_; refine q_move (by exact rfl) ?_; refine Seq.guard_no (by exact rfl) (by exact rfl) (by exact rfl) (by exact rfl) ?_; refine Seq.guard_no (by exact rfl) (by exact rfl) (by exact rfl) (by exact rfl) ?_; refine Seq.guard_no (by exact rfl) (by exact rfl) (by exact rfl) (by exact rfl) ?_; refine Seq.q (by exact rfl) ?_; refine q_pick_true (by exact rfl) (by exact rfl) ?_; refine Seq.done ?_; refine Wp.cond_true (by exact rfl) ?_; refine Wp.seq ?_; refine Wp.region ?_; refine Seq.q (by exact rfl) ?_; refine q_assign (by exact rfl) ?_; refine Seq.done ?_; refine Wp.ret ?_; refine blkR ?_; refine thenR ?_; refine loopR ?_; refine blkR ?_; refine thenR ?_))
        (exact ret1 rfl rfl (by repeat (first | exact List.Sublist.refl _ | exact List.nil_sublist _ | refine List.Sublist.cons_cons _ ?_ | refine List.Sublist.cons _ ?_)) (bad (fun h => by have := h.1; omega)))
      · ((refine Seq.q (by exact rfl) ?_; refine q_move (by exact rfl) ?_; refine Seq.guard_yes (by exact rfl) (by exact rfl) (by exact rfl) ?_; refine q_fieldAddr T (by exact rfl) (by exact rfl) (by exact rfl) (by exact rfl) (by exact rfl) (by exact rfl) ?_; refine Seq.guard_yes (by exact rfl) (by exact rfl) (by exact rfl) ?_; refine q_load_own T 0 (by exact rfl) (by exact rfl) (by exact rfl) (by exact rfl) (by exact rfl) ?_; refine Seq.guard_yes (by exact rfl) (by exact rfl) (by exact rfl) ?_; refine q_fieldAddr T (by exact rfl) (by exact rfl) (by exact rfl) (by exact rfl) (by exact rfl) (by exact rfl) ?_; refine Seq.guard_yes (by exact rfl) (by exact rfl) (by exact rfl) ?_; refine q_load_own T 1 (by exact rfl) (by exact rfl) (by exact rfl) (by exact rfl) (by exact rfl) ?_; refine Seq.guard_yes (by exact rfl) (by exact rfl) (by exact rfl) ?_; refine q_len_slice T (by exact rfl) (by exact rfl) (by exact rfl) ?_))
        (((refine Seq.guard_yes (by exact rfl) (by exact rfl) (by exact rfl) ?_)); (refine q_geqD (by exact rfl) (by exact rfl) (fun d3 => ?_) (fun d3 => ?_)))
        · ((refine Seq.q (by exact rfl) ?_; refine q_pick_false (by exact rfl) (by exact rfl) ?_; refine Seq.q (by exact rfl) ?_; refine q_move (by exact rfl) ?_; refine Seq.guard_no (by exact rfl) (by exact rfl) (by exact rfl) (by exact rfl) ?_; refine Seq.guard_no (by exact rfl) (by exact rfl) (by exact rfl) (by exact rfl) ?_; refine Seq.guard_no (by exact rfl) (by exact rfl) (by exact rfl) (by exact rfl) ?_; refine Seq.q (by exact rfl) ?_; refine q_pick_true (by exact rfl) (by exact rfl) ?_; refine Seq.q (by exact rfl) ?_; refine q_move (by exact rfl) ?_; refine Seq.guard_no (by exact rfl) (by exact rfl) (by exact rfl) (by exact rfl) ?_; refine Seq.guard_no (by exact rfl) (by exact rfl) (by exact rfl) (by exact rfl) ?_; refine Seq.guard_no (by exact rfl) (by exact rfl) (by exact rfl) (by exact rfl) ?_; refine Seq.q (by exact rfl) ?_; refine q_pick_true (by exact rfl) (by exact rfl) ?_; refine Seq.done ?_; refine Wp.cond_true (by exact rfl) ?_; refine Wp.seq ?_; refine Wp.region ?_; refine Seq.q (by exact rfl) ?_; refine q_assign (by exact rfl) ?_; refine Seq.done ?_; refine Wp.ret ?_; refine blkR ?_; refine thenR ?_; refine loopR ?_; refine blkR ?_; refine thenR ?_))
          (exact ret1 rfl rfl (by repeat (first | exact List.Sublist.refl _ | exact List.nil_sublist _ | refine List.Sublist.cons_cons _ ?_ | refine List.Sublist.cons _ ?_)) (bad (fun h => by have := h.2.1; omega)))
        · ((refine Seq.q (by exact rfl) ?_; refine q_pick_false (by exact rfl) (by exact rfl) ?_; refine Seq.q (by exact rfl) ?_; refine q_move (by exact rfl) ?_; refine Seq.guard_yes (by exact rfl) (by exact rfl) (by exact rfl) ?_; refine q_fieldAddr T (by exact rfl) (by exact rfl) (by exact rfl) (by exact rfl) (by exact rfl) (by exact rfl) ?_; refine Seq.guard_yes (by exact rfl) (by exact rfl) (by exact rfl) ?_; refine q_load_own T 0 (by exact rfl) (by exact rfl) (by exact rfl) (by exact rfl) (by exact rfl) ?_))
          (((refine Seq.guard_yes (by exact rfl) (by exact rfl) (by exact rfl) ?_)); (refine q_lssD (by exact rfl) (by exact rfl) (fun d4 => ?_) (fun d4 => ?_)))
          · ((refine Seq.q (by exact rfl) ?_; refine q_pick_false (by exact rfl) (by exact rfl) ?_; refine Seq.q (by exact rfl) ?_; refine q_move (by exact rfl) ?_; refine Seq.guard_no (by exact rfl) (by exact rfl) (by exact rfl) (by exact rfl) ?_; refine Seq.guard_no (by exact rfl) (by exact rfl) (by exact rfl) (by exact rfl) ?_; refine Seq.guard_no (by exact rfl) (by exact rfl) (by exact rfl) (by exact rfl) ?_; refine Seq.q (by exact rfl) ?_; refine q_pick_true (by exact rfl) (by exact rfl) ?_; refine Seq.done ?_; refine Wp.cond_true (by exact rfl) ?_; refine Wp.seq ?_; refine Wp.region ?_; refine Seq.q (by exact rfl) ?_; refine q_assign (by exact rfl) ?_; refine Seq.done ?_; refine Wp.ret ?_; refine blkR ?_; refine thenR ?_; refine loopR ?_; refine blkR ?_; refine thenR ?_))
            (exact ret1 rfl rfl (by repeat (first | exact List.Sublist.refl _ | exact List.nil_sublist _ | refine List.Sublist.cons_cons _ ?_ | refine List.Sublist.cons _ ?_)) (bad (fun h => by have := h.2.2.1; omega)))
          · ((refine Seq.q (by exact rfl) ?_; refine q_pick_false (by exact rfl) (by exact rfl) ?_; refine Seq.q (by exact rfl) ?_; refine q_move (by exact rfl) ?_; refine Seq.guard_yes (by exact rfl) (by exact rfl) (by exact rfl) ?_; refine q_fieldAddr T (by exact rfl) (by exact rfl) (by exact rfl) (by exact rfl) (by exact rfl) (by exact rfl) ?_; refine Seq.guard_yes (by exact rfl) (by exact rfl) (by exact rfl) ?_; refine q_load_own T 0 (by exact rfl) (by exact rfl) (by exact rfl) (by exact rfl) (by exact rfl) ?_))
            (((refine Seq.guard_yes (by exact rfl) (by exact rfl) (by exact rfl) ?_)); (refine q_gtrD (by exact rfl) (by exact rfl) (fun d5 => ?_) (fun d5 => ?_)))
            · ((refine Seq.q (by exact rfl) ?_; refine q_pick_false (by exact rfl) (by exact rfl) ?_; refine Seq.done ?_; refine Wp.cond_true (by exact rfl) ?_; refine Wp.seq ?_; refine Wp.region ?_; refine Seq.q (by exact rfl) ?_; refine q_assign (by exact rfl) ?_; refine Seq.done ?_; refine Wp.ret ?_; refine blkR ?_; refine thenR ?_; refine loopR ?_; refine blkR ?_; refine thenR ?_))
              (exact ret1 rfl rfl (by repeat (first | exact List.Sublist.refl _ | exact List.nil_sublist _ | refine List.Sublist.cons_cons _ ?_ | refine List.Sublist.cons _ ?_)) (bad (fun h => by have := h.2.2.2; omega)))
            · ((refine Seq.q (by exact rfl) ?_; refine q_pick_false (by exact rfl) (by exact rfl) ?_; refine Seq.done ?_; refine Wp.cond_false (by exact rfl) ?_; refine Wp.skip ?_; refine blkN ?_; refine thenN ?_; refine Wp.region ?_; refine Seq.q (by exact rfl) ?_; refine q_add (by exact rfl) (by exact rfl) (wrap_in (by omega)) ?_; refine Seq.q (by exact rfl) ?_; refine q_move (by exact rfl) ?_; refine Seq.end_ ?_))
              (exact loopN ⟨k + 1, by omega, rfl, rfl, rfl, rfl, (lt_succ_cases hh (fun x hy => by rw [hx] at hy; injection hy with hy; subst hy; exact ⟨by omega, by omega, by omega, by omega⟩))⟩ (by omega) (by repeat (first | exact trivial | refine ⟨by exact rfl, ?_⟩)) (by repeat (first | exact List.Sublist.refl _ | exact List.nil_sublist _ | refine List.Sublist.cons_cons _ ?_ | refine List.Sublist.cons _ ?_)))
    · ((refine Seq.done ?_; refine Wp.seq ?_; refine Wp.cond_false (by exact rfl) ?_; refine Wp.exit ?_; refine thenX ?_; refine loopX ?_; refine blkX (by exact rfl) ?_; refine thenN ?_; refine Wp.seq ?_; refine Wp.region ?_; refine Seq.q (by exact rfl) ?_; refine q_assign (by exact rfl) ?_; refine Seq.done ?_; refine Wp.ret ?_))
      (exact ret1 rfl rfl (by repeat (first | exact List.Sublist.refl _ | exact List.nil_sublist _ | refine List.Sublist.cons_cons _ ?_ | refine List.Sublist.cons _ ?_)) (by rw [launchesM, if_neg (by omega), if_pos (fun l hl' => by
        obtain ⟨i, hi⟩ := List.mem_iff_getElem?.1 hl'
        exact hh i (by have := lt_of_get hi; omega) l hi)]))
end Go.Proofs.Ytfidaamledbmpaa
