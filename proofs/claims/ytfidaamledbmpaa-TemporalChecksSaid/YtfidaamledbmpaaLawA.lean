/- TemporalChecks, walked: it returns true, whatever the task. Conditions: the argument reads as data. -/
import Derived.Test.YtfidaamledbmpaaWalkL
namespace Go.Proofs.Ytfidaamledbmpaa
open Go.Lx Go.RowKit
attribute [local instance 10] Classical.propDecidable

set_option maxHeartbeats 1000000 in
theorem checks_q {fz : FZ} {t : Temporal} {A1 : Option Addr} {n1 c1 : Nat} {A2 : Option Addr} {n2 c2 : Nat} {A3 : Option Addr} {n3 c3 : Nat} {A4 : Option Addr} {n4 c4 : Nat} (ht : TempR fz t A1 n1 c1 A2 n2 c2 A3 n3 c3 A4 n4 c4) :
    QFn Try.prog 9 [.agg #[.slice A1 n1 c1, .slice A2 n2 c2, .slice A3 n3 c3, .slice A4 n4 c4]] fz (.bool true) := by
  refine GFn.quiet ?_
  (refine GFn.of_wp Try.func9 rfl Try.ntmps9 rfl rfl (fun w0 => ?_))
  have l4 := ht.jobs.len
  obtain ⟨code, hcode⟩ := check_total t
  refine Wp.seq (Wp.region (Seq.stepK (by exact rfl) (k_box _ (by exact rfl) (by exact rfl) (fun gt => ?_))))
  ((refine Seq.q (by exact rfl) ?_; refine q_assign (by exact rfl) ?_; refine Seq.done ?_; refine Wp.seq ?_; refine Wp.seq ?_; refine Wp.region ?_))
  (((refine Seq.q (by exact rfl) ?_)); refine q_call (by exact rfl) (by exact rfl) awake_q ?_)
  ((refine Seq.q (by exact rfl) ?_; refine q_not (by exact rfl) ?_; refine Seq.q (by exact rfl) ?_; refine q_move (by exact rfl) ?_; refine Seq.guard_yes (by exact rfl) (by exact rfl) (by exact rfl) ?_; refine q_load_own_all T 0 (by exact rfl) (by exact rfl) (by exact rfl) (by exact rfl) (by exact rfl) ?_))
  (((refine Seq.guard_yes (by exact rfl) (by exact rfl) (by exact rfl) ?_)); refine q_callB (by exact rfl) (by exact rfl) (few_q ht (B := none) (m := 0) (d := 0)) (fun q1 => ?_) (fun q1 => ?_))
  · replace q1 := of_decide_eq_true q1
    have h4 : n4 ≤ 1000 := by have := q1.2.1; omega
    have hnil : Sl launchL fz none 0 0 [] := Sl.nil (by omega)
    ((refine Seq.guard_yes (by exact rfl) (by exact rfl) (by exact rfl) ?_; refine q_not (by exact rfl) ?_; refine Seq.q (by exact rfl) ?_; refine q_pick_false (by exact rfl) (by exact rfl) ?_; refine Seq.done ?_; refine Wp.cond_false (by exact rfl) ?_; refine Wp.skip ?_; refine thenN ?_; refine Wp.seq ?_; refine Wp.region ?_; refine Seq.q (by exact rfl) ?_; refine q_load_own_all T 0 (by exact rfl) (by exact rfl) (by exact rfl) (by exact rfl) (by exact rfl) ?_))
    (((refine Seq.q (by exact rfl) ?_)); refine q_call (by exact rfl) (by exact rfl) (check_q ht h4 hcode) ?_)
    ((refine Seq.q (by exact rfl) ?_; refine q_assign (by exact rfl) ?_; refine Seq.done ?_; refine Wp.seq ?_; refine Wp.seq ?_; refine Wp.region ?_; refine Seq.q (by exact rfl) ?_; refine q_load_own_all T 0 (by exact rfl) (by exact rfl) (by exact rfl) (by exact rfl) (by exact rfl) ?_))
    (((refine Seq.q (by exact rfl) ?_)); refine q_call (by exact rfl) (by exact rfl) (tcheck_q ht h4 hcode) ?_)
    (((refine Seq.q (by exact rfl) ?_)); refine q_call (by exact rfl) (by exact rfl) num_q ?_)
    ((refine Seq.q (by exact rfl) ?_; refine q_move (by exact rfl) ?_))
    (((refine Seq.q (by exact rfl) ?_)); (refine q_neqD (by exact rfl) (by exact rfl) (fun q2 => ?_) (fun q2 => ?_)))
    · exact absurd rfl q2
    · ((refine Seq.done ?_; refine Wp.cond_false (by exact rfl) ?_; refine Wp.skip ?_; refine thenN ?_; refine Wp.seq ?_; refine Wp.seq ?_; refine Wp.region ?_; refine Seq.q (by exact rfl) ?_; refine q_move (by exact rfl) ?_))
      (((refine Seq.q (by exact rfl) ?_)); (refine q_eqlD (by exact rfl) (by exact rfl) (fun q3 => ?_) (fun q3 => ?_)))
      · ((refine Seq.done ?_; refine Wp.cond_true (by exact rfl) ?_; refine Wp.seq ?_; refine Wp.region ?_; refine Seq.q (by exact rfl) ?_; refine q_assign (by exact rfl) ?_; refine Seq.done ?_; refine Wp.ret ?_; refine thenR ?_))
        (exact ret1 rfl rfl (by repeat (first | exact List.Sublist.refl _ | exact List.nil_sublist _ | refine List.Sublist.cons_cons _ ?_ | refine List.Sublist.cons _ ?_)) rfl)
      · ((refine Seq.done ?_; refine Wp.cond_false (by exact rfl) ?_; refine Wp.skip ?_; refine thenN ?_; refine Wp.seq ?_; refine Wp.region ?_; refine Seq.q (by exact rfl) ?_; refine q_load_own_all T 0 (by exact rfl) (by exact rfl) (by exact rfl) (by exact rfl) (by exact rfl) ?_))
        (((refine Seq.q (by exact rfl) ?_)); refine q_call (by exact rfl) (by exact rfl) ((tinter_q ht h4 hcode).1 q3) ?_)
        ((refine Seq.q (by exact rfl) ?_; refine q_move (by exact rfl) ?_; refine Seq.q (by exact rfl) ?_; refine q_extract (by exact rfl) (by exact rfl) ?_; refine Seq.q (by exact rfl) ?_; refine q_extract (by exact rfl) (by exact rfl) ?_; refine Seq.q (by exact rfl) ?_; refine q_assign (by exact rfl) ?_; refine Seq.q (by exact rfl) ?_; refine q_assign (by exact rfl) ?_; refine Seq.done ?_; refine Wp.seq ?_; refine Wp.region ?_; refine Seq.q (by exact rfl) ?_; refine q_load_own_all T 0 (by exact rfl) (by exact rfl) (by exact rfl) (by exact rfl) (by exact rfl) ?_))
        have hv : validM code t [] [] = (0, code) := if_pos q3
        have hvq := tvalidate_q ht h4 hnil hcode (ticks := []) (fun h => absurd h q3)
        rw [hv] at hvq
        (((refine Seq.q (by exact rfl) ?_)); refine q_call (by exact rfl) (by exact rfl) hvq ?_)
        ((refine Seq.q (by exact rfl) ?_; refine q_move (by exact rfl) ?_; refine Seq.q (by exact rfl) ?_; refine q_extract (by exact rfl) (by exact rfl) ?_; refine Seq.q (by exact rfl) ?_; refine q_extract (by exact rfl) (by exact rfl) ?_; refine Seq.q (by exact rfl) ?_; refine q_assign (by exact rfl) ?_; refine Seq.q (by exact rfl) ?_; refine q_assign (by exact rfl) ?_; refine Seq.done ?_; refine Wp.seq ?_; refine Wp.region ?_; refine Seq.q (by exact rfl) ?_; refine q_load_own_all T 0 (by exact rfl) (by exact rfl) (by exact rfl) (by exact rfl) (by exact rfl) ?_))
        refine Seq.stepK (by exact rfl) (k_call [] [_] (by exact rfl) (by exact rfl) (by exact rfl) (tstates_f ht h4 hnil hcode) (fun v fz1 Hs hle1 hR => ?_))
        obtain ⟨rfl, A, k, c, rfl, hsl⟩ := hR
        have hc : stsC code t [] = code := if_pos q3
        have hL : stsL code t [] = [] := if_neg (by rw [hc]; exact q3)
        rw [hL] at hsl
        have hk := hsl.len
        simp at hk
        subst hk
        rw [hc]
        ((refine Seq.q (by exact rfl) ?_; refine q_move (by exact rfl) ?_; refine Seq.q (by exact rfl) ?_; refine q_extract (by exact rfl) (by exact rfl) ?_; refine Seq.q (by exact rfl) ?_; refine q_extract (by exact rfl) (by exact rfl) ?_; refine Seq.q (by exact rfl) ?_; refine q_assign (by exact rfl) ?_; refine Seq.q (by exact rfl) ?_; refine q_assign (by exact rfl) ?_; refine Seq.done ?_; refine Wp.seq ?_; refine Wp.region ?_; refine Seq.q (by exact rfl) ?_; refine q_move (by exact rfl) ?_; refine Seq.q (by exact rfl) ?_; refine q_not (by exact rfl) ?_; refine Seq.q (by exact rfl) ?_; refine q_move (by exact rfl) ?_; refine Seq.guard_yes (by exact rfl) (by exact rfl) (by exact rfl) ?_; refine q_move (by exact rfl) ?_))
        (((refine Seq.guard_yes (by exact rfl) (by exact rfl) (by exact rfl) ?_)); (refine q_eqlD (by exact rfl) (by exact rfl) (fun q4 => ?_) (fun q4 => ?_)))
        · ((refine Seq.q (by exact rfl) ?_; refine q_pick_true (by exact rfl) (by exact rfl) ?_; refine Seq.q (by exact rfl) ?_; refine q_move (by exact rfl) ?_; refine Seq.guard_yes (by exact rfl) (by exact rfl) (by exact rfl) ?_; refine q_move (by exact rfl) ?_; refine Seq.guard_yes (by exact rfl) (by exact rfl) (by exact rfl) ?_; refine q_len_slice T (by exact rfl) (by exact rfl) (by exact rfl) ?_))
          (((refine Seq.guard_yes (by exact rfl) (by exact rfl) (by exact rfl) ?_)); (refine q_eqlD (by exact rfl) (by exact rfl) (fun q5 => ?_) (fun q5 => ?_)))
          · ((refine Seq.q (by exact rfl) ?_; refine q_pick_true (by exact rfl) (by exact rfl) ?_; refine Seq.q (by exact rfl) ?_; refine q_move (by exact rfl) ?_; refine Seq.guard_yes (by exact rfl) (by exact rfl) (by exact rfl) ?_; refine q_move (by exact rfl) ?_))
            (((refine Seq.guard_yes (by exact rfl) (by exact rfl) (by exact rfl) ?_)); refine q_call (by exact rfl) (by exact rfl) num_q ?_)
            ((refine Seq.guard_yes (by exact rfl) (by exact rfl) (by exact rfl) ?_; refine q_move (by exact rfl) ?_))
            (((refine Seq.guard_yes (by exact rfl) (by exact rfl) (by exact rfl) ?_)); (refine q_eqlD (by exact rfl) (by exact rfl) (fun q6 => ?_) (fun q6 => ?_)))
            · ((refine Seq.q (by exact rfl) ?_; refine q_pick_true (by exact rfl) (by exact rfl) ?_; refine Seq.q (by exact rfl) ?_; refine q_move (by exact rfl) ?_; refine Seq.guard_yes (by exact rfl) (by exact rfl) (by exact rfl) ?_; refine q_move (by exact rfl) ?_))
              (((refine Seq.guard_yes (by exact rfl) (by exact rfl) (by exact rfl) ?_)); refine q_call (by exact rfl) (by exact rfl) num_q ?_)
              ((refine Seq.guard_yes (by exact rfl) (by exact rfl) (by exact rfl) ?_; refine q_move (by exact rfl) ?_))
              (((refine Seq.guard_yes (by exact rfl) (by exact rfl) (by exact rfl) ?_)); (refine q_eqlD (by exact rfl) (by exact rfl) (fun q7 => ?_) (fun q7 => ?_)))
              · ((refine Seq.q (by exact rfl) ?_; refine q_pick_true (by exact rfl) (by exact rfl) ?_; refine Seq.q (by exact rfl) ?_; refine q_move (by exact rfl) ?_; refine Seq.guard_yes (by exact rfl) (by exact rfl) (by exact rfl) ?_; refine q_move (by exact rfl) ?_))
                (((refine Seq.guard_yes (by exact rfl) (by exact rfl) (by exact rfl) ?_)); refine q_call (by exact rfl) (by exact rfl) num_q ?_)
                ((refine Seq.guard_yes (by exact rfl) (by exact rfl) (by exact rfl) ?_; refine q_move (by exact rfl) ?_))
                (((refine Seq.guard_yes (by exact rfl) (by exact rfl) (by exact rfl) ?_)); (refine q_eqlD (by exact rfl) (by exact rfl) (fun q8 => ?_) (fun q8 => ?_)))
                · ((refine Seq.q (by exact rfl) ?_; refine q_pick_true (by exact rfl) (by exact rfl) ?_; refine Seq.q (by exact rfl) ?_; refine q_assign (by exact rfl) ?_; refine Seq.done ?_; refine Wp.ret ?_))
                  (exact ret1 rfl rfl (by repeat (first | exact List.Sublist.refl _ | exact List.nil_sublist _ | refine List.Sublist.cons_cons _ ?_ | refine List.Sublist.cons _ ?_)) rfl)
                · exact absurd rfl q8
              · exact absurd rfl q7
            · exact absurd rfl q6
          · exact absurd rfl q5
        · exact absurd rfl q4
  · ((refine Seq.guard_yes (by exact rfl) (by exact rfl) (by exact rfl) ?_; refine q_not (by exact rfl) ?_; refine Seq.q (by exact rfl) ?_; refine q_pick_false (by exact rfl) (by exact rfl) ?_; refine Seq.done ?_; refine Wp.cond_true (by exact rfl) ?_; refine Wp.seq ?_; refine Wp.region ?_))
    (((refine Seq.q (by exact rfl) ?_)); refine q_call (by exact rfl) (by exact rfl) awake_q ?_)
    ((refine Seq.q (by exact rfl) ?_; refine q_assign (by exact rfl) ?_; refine Seq.done ?_; refine Wp.ret ?_; refine thenR ?_))
    (exact ret1 rfl rfl (by repeat (first | exact List.Sublist.refl _ | exact List.nil_sublist _ | refine List.Sublist.cons_cons _ ?_ | refine List.Sublist.cons _ ?_)) rfl)
end Go.Proofs.Ytfidaamledbmpaa
