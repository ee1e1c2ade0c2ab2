/- What functions over happenings compute: ends, what is read and written, whether happenings interfere. Conditions: the arguments read as data, indexes are in range. -/
import Derived.Test.YtfidaamledbmpaaWalkA
namespace Go.Proofs.Ytfidaamledbmpaa
open Go.Lx Go.RowKit
attribute [local instance 10] Classical.propDecidable

theorem slAt {α : Type} {L : Lay α} {fz : FZ} {A : Option Addr} {n c : Nat} {xs : List α} (h : Sl L fz A n c xs) {k : Nat} {d : α} (hk : xs[k]? = some d) : ∃ ad, A = some ad ∧ At L fz (ad.add (k * L.size)) d := by
  rcases h.elem with h0 | ⟨ad, h1, h2⟩
  · have := lt_of_get hk; have := h.len; omega
  · exact ⟨ad, h1, h2 k d hk⟩

/-! ### the end of a launch -/
theorem tend_q {fz : FZ} {t : Temporal} {A1 : Option Addr} {n1 c1 : Nat} {A2 : Option Addr} {n2 c2 : Nat} {A3 : Option Addr} {n3 c3 : Nat} {A4 : Option Addr} {n4 c4 : Nat} (ht : TempR fz t A1 n1 c1 A2 n2 c2 A3 n3 c3 A4 n4 c4)
    {at_ job : Int} {k : Nat} {j : Job} (hk : job = k) (hj : t.jobs[k]? = some j) (hr : I64 (at_ + j.dur)) :
    QFn Try.prog 52 [.agg #[.slice A1 n1 c1, .slice A2 n2 c2, .slice A3 n3 c3, .slice A4 n4 c4], .agg #[.int .i64 at_, .int .i64 job]] fz (.int .i64 (at_ + j.dur)) := by
  refine GFn.quiet ?_
  (refine GFn.of_wp Try.func52 rfl Try.ntmps52 rfl rfl (fun w0 => ?_))
  unfold I64 at hr
  ((refine Wp.seq ?_; refine Wp.region ?_; refine Seq.stepK (by exact rfl) (k_box _ (by exact rfl) (by exact rfl) (fun _ => ?_)); refine Seq.stepK (by exact rfl) (k_box _ (by exact rfl) (by exact rfl) (fun _ => ?_)); refine Seq.q (by exact rfl) ?_; refine q_assign (by exact rfl) ?_; refine Seq.done ?_; refine Wp.seq ?_; refine Wp.draw (by decide +kernel) T.mixed (by kernel_rfl) (by kernel_rfl) ?_; refine QL.q ?_; refine q_fieldAddr T (by exact rfl) (by exact rfl) (by exact rfl) (by exact rfl) (by exact rfl) (by exact rfl) ?_; refine QL.q ?_; refine q_load_own T 0 (by exact rfl) (by exact rfl) (by exact rfl) (by exact rfl) (by exact rfl) ?_; refine QL.q ?_; refine q_fieldAddr T (by exact rfl) (by exact rfl) (by exact rfl) (by exact rfl) (by exact rfl) (by exact rfl) ?_; refine QL.q ?_; refine q_load_own T 1 (by exact rfl) (by exact rfl) (by exact rfl) (by exact rfl) (by exact rfl) ?_; refine QL.q ?_; refine q_fieldAddr T (by exact rfl) (by exact rfl) (by exact rfl) (by exact rfl) (by exact rfl) (by exact rfl) ?_; refine QL.q ?_; refine q_load_own T 0 (by exact rfl) (by exact rfl) (by exact rfl) (by exact rfl) (by exact rfl) ?_))
  (((refine QL.q ?_)); refine q_index T k (by exact rfl) (by exact rfl) (by exact rfl) (by exact rfl) (by exact rfl) (by exact rfl) ht.jobs (by first | rfl | omega) hj (fun p hp => ?_))
  ((refine QL.q ?_; refine q_fieldAddr T (by exact rfl) (by exact rfl) (by exact rfl) (by exact rfl) (by exact rfl) (by exact rfl) ?_))
  (((refine QL.q ?_)); refine q_load_int T (by exact rfl) (by exact rfl) (by exact rfl) hp.dur (fun hd => ?_))
  ((refine QL.q ?_; refine q_add (by exact rfl) (by exact rfl) (wrap_in (by omega)) ?_; refine QL.q ?_; refine q_assign (by exact rfl) ?_; refine QL.done ?_; refine thenN ?_; refine Wp.ret ?_))
  (exact ret1 rfl rfl (by repeat (first | exact List.Sublist.refl _ | exact List.nil_sublist _ | refine List.Sublist.cons_cons _ ?_ | refine List.Sublist.cons _ ?_)) rfl)
theorem end_q {fz : FZ} {t : Temporal} {A1 : Option Addr} {n1 c1 : Nat} {A2 : Option Addr} {n2 c2 : Nat} {A3 : Option Addr} {n3 c3 : Nat} {A4 : Option Addr} {n4 c4 : Nat} (ht : TempR fz t A1 n1 c1 A2 n2 c2 A3 n3 c3 A4 n4 c4)
    {at_ job : Int} {k : Nat} {j : Job} (hk : job = k) (hj : t.jobs[k]? = some j) (hr : I64 (at_ + j.dur)) :
    QFn Try.prog 56 [.agg #[.slice A1 n1 c1, .slice A2 n2 c2, .slice A3 n3 c3, .slice A4 n4 c4], .agg #[.int .i64 at_, .int .i64 job]] fz (.int .i64 (at_ + j.dur)) := by
  refine GFn.quiet ?_
  (refine GFn.of_wp Try.func56 rfl Try.ntmps56 rfl rfl (fun w0 => ?_))
  unfold I64 at hr
  ((refine Wp.seq ?_; refine Wp.region ?_; refine Seq.stepK (by exact rfl) (k_box _ (by exact rfl) (by exact rfl) (fun _ => ?_)); refine Seq.stepK (by exact rfl) (k_box _ (by exact rfl) (by exact rfl) (fun _ => ?_)); refine Seq.q (by exact rfl) ?_; refine q_assign (by exact rfl) ?_; refine Seq.done ?_; refine Wp.seq ?_; refine Wp.draw (by decide +kernel) T.mixed (by kernel_rfl) (by kernel_rfl) ?_; refine QL.q ?_; refine q_fieldAddr T (by exact rfl) (by exact rfl) (by exact rfl) (by exact rfl) (by exact rfl) (by exact rfl) ?_; refine QL.q ?_; refine q_load_own T 0 (by exact rfl) (by exact rfl) (by exact rfl) (by exact rfl) (by exact rfl) ?_; refine QL.q ?_; refine q_fieldAddr T (by exact rfl) (by exact rfl) (by exact rfl) (by exact rfl) (by exact rfl) (by exact rfl) ?_; refine QL.q ?_; refine q_load_own T 1 (by exact rfl) (by exact rfl) (by exact rfl) (by exact rfl) (by exact rfl) ?_; refine QL.q ?_; refine q_fieldAddr T (by exact rfl) (by exact rfl) (by exact rfl) (by exact rfl) (by exact rfl) (by exact rfl) ?_; refine QL.q ?_; refine q_load_own T 0 (by exact rfl) (by exact rfl) (by exact rfl) (by exact rfl) (by exact rfl) ?_))
  (((refine QL.q ?_)); refine q_index T k (by exact rfl) (by exact rfl) (by exact rfl) (by exact rfl) (by exact rfl) (by exact rfl) ht.jobs (by first | rfl | omega) hj (fun p hp => ?_))
  ((refine QL.q ?_; refine q_fieldAddr T (by exact rfl) (by exact rfl) (by exact rfl) (by exact rfl) (by exact rfl) (by exact rfl) ?_))
  (((refine QL.q ?_)); refine q_load_int T (by exact rfl) (by exact rfl) (by exact rfl) hp.dur (fun hd => ?_))
  ((refine QL.q ?_; refine q_add (by exact rfl) (by exact rfl) (wrap_in (by omega)) ?_; refine QL.q ?_; refine q_assign (by exact rfl) ?_; refine QL.done ?_; refine thenN ?_; refine Wp.ret ?_))
  (exact ret1 rfl rfl (by repeat (first | exact List.Sublist.refl _ | exact List.nil_sublist _ | refine List.Sublist.cons_cons _ ?_ | refine List.Sublist.cons _ ?_)) rfl)

/-! ### what is read and written -/
def wrJ (j : Job) (e : Bool) : List Fact := if e = true then j.atEnd else j.atStart
def rdJ (j : Job) (e : Bool) : List Fact := if e = true then j.fin else j.start

theorem twrites_q {fz : FZ} {t : Temporal} {A1 : Option Addr} {n1 c1 : Nat} {A2 : Option Addr} {n2 c2 : Nat} {A3 : Option Addr} {n3 c3 : Nat} {A4 : Option Addr} {n4 c4 : Nat} (ht : TempR fz t A1 n1 c1 A2 n2 c2 A3 n3 c3 A4 n4 c4)
    {job : Int} {e : Bool} {k : Nat} {j : Job} (hk : job = k) (hj : t.jobs[k]? = some j) :
    ∃ A n c, Sl factL fz A n c (wrJ j e) ∧ QFn Try.prog 60 [.agg #[.slice A1 n1 c1, .slice A2 n2 c2, .slice A3 n3 c3, .slice A4 n4 c4], .agg #[.int .i64 job, .bool e]] fz (.slice A n c) := by
  obtain ⟨ad, rfl, hat⟩ := slAt ht.jobs hj
  have hlt := lt_of_get hj
  have hl := ht.jobs.len
  cases e with
  | true =>
    obtain ⟨v, ⟨A, n, c, hv, hs⟩, hc⟩ := hat.atEnd.cell rfl
    injection hv with hv
    subst hv
    refine ⟨A, n, c, hs, GFn.quiet ?_⟩
    (refine GFn.of_wp Try.func60 rfl Try.ntmps60 rfl rfl (fun w0 => ?_))
    ((refine Wp.seq ?_; refine Wp.region ?_; refine Seq.stepK (by exact rfl) (k_box _ (by exact rfl) (by exact rfl) (fun _ => ?_)); refine Seq.stepK (by exact rfl) (k_box _ (by exact rfl) (by exact rfl) (fun _ => ?_)); refine Seq.q (by exact rfl) ?_; refine q_assign (by exact rfl) ?_; refine Seq.done ?_; refine Wp.seq ?_; refine Wp.seq ?_; refine Wp.region ?_; refine Seq.q (by exact rfl) ?_; refine q_fieldAddr T (by exact rfl) (by exact rfl) (by exact rfl) (by exact rfl) (by exact rfl) (by exact rfl) ?_; refine Seq.q (by exact rfl) ?_; refine q_load_own T 0 (by exact rfl) (by exact rfl) (by exact rfl) (by exact rfl) (by exact rfl) ?_; refine Seq.done ?_; refine Wp.cond_true (by exact rfl) ?_; refine Wp.seq ?_; refine Wp.region ?_; refine Seq.q (by exact rfl) ?_; refine q_fieldAddr T (by exact rfl) (by exact rfl) (by exact rfl) (by exact rfl) (by exact rfl) (by exact rfl) ?_; refine Seq.q (by exact rfl) ?_; refine q_load_own T 1 (by exact rfl) (by exact rfl) (by exact rfl) (by exact rfl) (by exact rfl) ?_; refine Seq.q (by exact rfl) ?_; refine q_fieldAddr T (by exact rfl) (by exact rfl) (by exact rfl) (by exact rfl) (by exact rfl) (by exact rfl) ?_; refine Seq.q (by exact rfl) ?_; refine q_load_own T 0 (by exact rfl) (by exact rfl) (by exact rfl) (by exact rfl) (by exact rfl) ?_))
    ((refine Seq.q (by exact rfl) ?_)); refine q_indexAddr T (by exact rfl) (by exact rfl) (by exact rfl) (by exact rfl) (by exact rfl) (by omega) (by omega) ?_
    ((refine Seq.q (by exact rfl) ?_; refine q_fieldAddr T (by exact rfl) (by exact rfl) (by exact rfl) (by exact rfl) (by exact rfl) (by exact rfl) ?_))
    ((refine Seq.q (by exact rfl) ?_)); refine q_load_cell T (by exact rfl) (by exact rfl) (by exact rfl) (by subst hk; rw [Int.toNat_natCast]; exact hc) ?_
    ((refine Seq.q (by exact rfl) ?_; refine q_assign (by exact rfl) ?_; refine Seq.done ?_; refine Wp.ret ?_; refine thenR ?_))
    (exact ret1 rfl rfl (by repeat (first | exact List.Sublist.refl _ | exact List.nil_sublist _ | refine List.Sublist.cons_cons _ ?_ | refine List.Sublist.cons _ ?_)) rfl)
  | false =>
    obtain ⟨v, ⟨A, n, c, hv, hs⟩, hc⟩ := hat.atStart.cell rfl
    injection hv with hv
    subst hv
    refine ⟨A, n, c, hs, GFn.quiet ?_⟩
    (refine GFn.of_wp Try.func60 rfl Try.ntmps60 rfl rfl (fun w0 => ?_))
    ((refine Wp.seq ?_; refine Wp.region ?_; refine Seq.stepK (by exact rfl) (k_box _ (by exact rfl) (by exact rfl) (fun _ => ?_)); refine Seq.stepK (by exact rfl) (k_box _ (by exact rfl) (by exact rfl) (fun _ => ?_)); refine Seq.q (by exact rfl) ?_; refine q_assign (by exact rfl) ?_; refine Seq.done ?_; refine Wp.seq ?_; refine Wp.seq ?_; refine Wp.region ?_; refine Seq.q (by exact rfl) ?_; refine q_fieldAddr T (by exact rfl) (by exact rfl) (by exact rfl) (by exact rfl) (by exact rfl) (by exact rfl) ?_; refine Seq.q (by exact rfl) ?_; refine q_load_own T 0 (by exact rfl) (by exact rfl) (by exact rfl) (by exact rfl) (by exact rfl) ?_; refine Seq.done ?_; refine Wp.cond_false (by exact rfl) ?_; refine Wp.skip ?_; refine thenN ?_; refine Wp.seq ?_; refine Wp.region ?_; refine Seq.q (by exact rfl) ?_; refine q_fieldAddr T (by exact rfl) (by exact rfl) (by exact rfl) (by exact rfl) (by exact rfl) (by exact rfl) ?_; refine Seq.q (by exact rfl) ?_; refine q_load_own T 1 (by exact rfl) (by exact rfl) (by exact rfl) (by exact rfl) (by exact rfl) ?_; refine Seq.q (by exact rfl) ?_; refine q_fieldAddr T (by exact rfl) (by exact rfl) (by exact rfl) (by exact rfl) (by exact rfl) (by exact rfl) ?_; refine Seq.q (by exact rfl) ?_; refine q_load_own T 0 (by exact rfl) (by exact rfl) (by exact rfl) (by exact rfl) (by exact rfl) ?_))
    ((refine Seq.q (by exact rfl) ?_)); refine q_indexAddr T (by exact rfl) (by exact rfl) (by exact rfl) (by exact rfl) (by exact rfl) (by omega) (by omega) ?_
    ((refine Seq.q (by exact rfl) ?_; refine q_fieldAddr T (by exact rfl) (by exact rfl) (by exact rfl) (by exact rfl) (by exact rfl) (by exact rfl) ?_))
    ((refine Seq.q (by exact rfl) ?_)); refine q_load_cell T (by exact rfl) (by exact rfl) (by exact rfl) (by subst hk; rw [Int.toNat_natCast]; exact hc) ?_
    ((refine Seq.q (by exact rfl) ?_; refine q_assign (by exact rfl) ?_; refine Seq.done ?_; refine Wp.ret ?_))
    (exact ret1 rfl rfl (by repeat (first | exact List.Sublist.refl _ | exact List.nil_sublist _ | refine List.Sublist.cons_cons _ ?_ | refine List.Sublist.cons _ ?_)) rfl)
theorem treads_q {fz : FZ} {t : Temporal} {A1 : Option Addr} {n1 c1 : Nat} {A2 : Option Addr} {n2 c2 : Nat} {A3 : Option Addr} {n3 c3 : Nat} {A4 : Option Addr} {n4 c4 : Nat} (ht : TempR fz t A1 n1 c1 A2 n2 c2 A3 n3 c3 A4 n4 c4)
    {job : Int} {e : Bool} {k : Nat} {j : Job} (hk : job = k) (hj : t.jobs[k]? = some j) :
    ∃ A n c, Sl factL fz A n c (rdJ j e) ∧ QFn Try.prog 55 [.agg #[.slice A1 n1 c1, .slice A2 n2 c2, .slice A3 n3 c3, .slice A4 n4 c4], .agg #[.int .i64 job, .bool e]] fz (.slice A n c) := by
  obtain ⟨ad, rfl, hat⟩ := slAt ht.jobs hj
  have hlt := lt_of_get hj
  have hl := ht.jobs.len
  cases e with
  | true =>
    obtain ⟨v, ⟨A, n, c, hv, hs⟩, hc⟩ := hat.fin.cell rfl
    injection hv with hv
    subst hv
    refine ⟨A, n, c, hs, GFn.quiet ?_⟩
    (refine GFn.of_wp Try.func55 rfl Try.ntmps55 rfl rfl (fun w0 => ?_))
    ((refine Wp.seq ?_; refine Wp.region ?_; refine Seq.stepK (by exact rfl) (k_box _ (by exact rfl) (by exact rfl) (fun _ => ?_)); refine Seq.stepK (by exact rfl) (k_box _ (by exact rfl) (by exact rfl) (fun _ => ?_)); refine Seq.q (by exact rfl) ?_; refine q_assign (by exact rfl) ?_; refine Seq.done ?_; refine Wp.seq ?_; refine Wp.seq ?_; refine Wp.region ?_; refine Seq.q (by exact rfl) ?_; refine q_fieldAddr T (by exact rfl) (by exact rfl) (by exact rfl) (by exact rfl) (by exact rfl) (by exact rfl) ?_; refine Seq.q (by exact rfl) ?_; refine q_load_own T 0 (by exact rfl) (by exact rfl) (by exact rfl) (by exact rfl) (by exact rfl) ?_; refine Seq.done ?_; refine Wp.cond_true (by exact rfl) ?_; refine Wp.seq ?_; refine Wp.region ?_; refine Seq.q (by exact rfl) ?_; refine q_fieldAddr T (by exact rfl) (by exact rfl) (by exact rfl) (by exact rfl) (by exact rfl) (by exact rfl) ?_; refine Seq.q (by exact rfl) ?_; refine q_load_own T 1 (by exact rfl) (by exact rfl) (by exact rfl) (by exact rfl) (by exact rfl) ?_; refine Seq.q (by exact rfl) ?_; refine q_fieldAddr T (by exact rfl) (by exact rfl) (by exact rfl) (by exact rfl) (by exact rfl) (by exact rfl) ?_; refine Seq.q (by exact rfl) ?_; refine q_load_own T 0 (by exact rfl) (by exact rfl) (by exact rfl) (by exact rfl) (by exact rfl) ?_))
    ((refine Seq.q (by exact rfl) ?_)); refine q_indexAddr T (by exact rfl) (by exact rfl) (by exact rfl) (by exact rfl) (by exact rfl) (by omega) (by omega) ?_
    ((refine Seq.q (by exact rfl) ?_; refine q_fieldAddr T (by exact rfl) (by exact rfl) (by exact rfl) (by exact rfl) (by exact rfl) (by exact rfl) ?_))
    ((refine Seq.q (by exact rfl) ?_)); refine q_load_cell T (by exact rfl) (by exact rfl) (by exact rfl) (by subst hk; rw [Int.toNat_natCast]; exact hc) ?_
    ((refine Seq.q (by exact rfl) ?_; refine q_assign (by exact rfl) ?_; refine Seq.done ?_; refine Wp.ret ?_; refine thenR ?_))
    (exact ret1 rfl rfl (by repeat (first | exact List.Sublist.refl _ | exact List.nil_sublist _ | refine List.Sublist.cons_cons _ ?_ | refine List.Sublist.cons _ ?_)) rfl)
  | false =>
    obtain ⟨v, ⟨A, n, c, hv, hs⟩, hc⟩ := hat.start.cell rfl
    injection hv with hv
    subst hv
    refine ⟨A, n, c, hs, GFn.quiet ?_⟩
    (refine GFn.of_wp Try.func55 rfl Try.ntmps55 rfl rfl (fun w0 => ?_))
    ((refine Wp.seq ?_; refine Wp.region ?_; refine Seq.stepK (by exact rfl) (k_box _ (by exact rfl) (by exact rfl) (fun _ => ?_)); refine Seq.stepK (by exact rfl) (k_box _ (by exact rfl) (by exact rfl) (fun _ => ?_)); refine Seq.q (by exact rfl) ?_; refine q_assign (by exact rfl) ?_; refine Seq.done ?_; refine Wp.seq ?_; refine Wp.seq ?_; refine Wp.region ?_; refine Seq.q (by exact rfl) ?_; refine q_fieldAddr T (by exact rfl) (by exact rfl) (by exact rfl) (by exact rfl) (by exact rfl) (by exact rfl) ?_; refine Seq.q (by exact rfl) ?_; refine q_load_own T 0 (by exact rfl) (by exact rfl) (by exact rfl) (by exact rfl) (by exact rfl) ?_; refine Seq.done ?_; refine Wp.cond_false (by exact rfl) ?_; refine Wp.skip ?_; refine thenN ?_; refine Wp.seq ?_; refine Wp.region ?_; refine Seq.q (by exact rfl) ?_; refine q_fieldAddr T (by exact rfl) (by exact rfl) (by exact rfl) (by exact rfl) (by exact rfl) (by exact rfl) ?_; refine Seq.q (by exact rfl) ?_; refine q_load_own T 1 (by exact rfl) (by exact rfl) (by exact rfl) (by exact rfl) (by exact rfl) ?_; refine Seq.q (by exact rfl) ?_; refine q_fieldAddr T (by exact rfl) (by exact rfl) (by exact rfl) (by exact rfl) (by exact rfl) (by exact rfl) ?_; refine Seq.q (by exact rfl) ?_; refine q_load_own T 0 (by exact rfl) (by exact rfl) (by exact rfl) (by exact rfl) (by exact rfl) ?_))
    ((refine Seq.q (by exact rfl) ?_)); refine q_indexAddr T (by exact rfl) (by exact rfl) (by exact rfl) (by exact rfl) (by exact rfl) (by omega) (by omega) ?_
    ((refine Seq.q (by exact rfl) ?_; refine q_fieldAddr T (by exact rfl) (by exact rfl) (by exact rfl) (by exact rfl) (by exact rfl) (by exact rfl) ?_))
    ((refine Seq.q (by exact rfl) ?_)); refine q_load_cell T (by exact rfl) (by exact rfl) (by exact rfl) (by subst hk; rw [Int.toNat_natCast]; exact hc) ?_
    ((refine Seq.q (by exact rfl) ?_; refine q_assign (by exact rfl) ?_; refine Seq.done ?_; refine Wp.ret ?_))
    (exact ret1 rfl rfl (by repeat (first | exact List.Sublist.refl _ | exact List.nil_sublist _ | refine List.Sublist.cons_cons _ ?_ | refine List.Sublist.cons _ ?_)) rfl)

theorem writes_q {fz : FZ} {s : ByteArray} {d : Int} {A1 : Option Addr} {n1 c1 : Nat} {A2 : Option Addr} {n2 c2 : Nat} {A3 : Option Addr} {n3 c3 : Nat} {A4 : Option Addr} {n4 c4 : Nat} {A5 : Option Addr} {n5 c5 : Nat} {e : Bool} :
    QFn Try.prog 48 [.agg #[.string s, .int .i64 d, .slice A1 n1 c1, .slice A2 n2 c2, .slice A3 n3 c3, .slice A4 n4 c4, .slice A5 n5 c5], .bool e] fz (if e = true then .slice A5 n5 c5 else .slice A4 n4 c4) := by
  cases e with
  | true =>
    refine GFn.quiet ?_
    (refine GFn.of_wp Try.func48 rfl Try.ntmps48 rfl rfl (fun w0 => ?_))
    ((refine Wp.seq ?_; refine Wp.region ?_; refine Seq.stepK (by exact rfl) (k_box _ (by exact rfl) (by exact rfl) (fun _ => ?_)); refine Seq.q (by exact rfl) ?_; refine q_assign (by exact rfl) ?_; refine Seq.done ?_; refine Wp.seq ?_; refine Wp.seq ?_; refine Wp.region ?_; refine Seq.q (by exact rfl) ?_; refine q_move (by exact rfl) ?_; refine Seq.done ?_; refine Wp.cond_true (by exact rfl) ?_; refine Wp.seq ?_; refine Wp.region ?_; refine Seq.q (by exact rfl) ?_; refine q_fieldAddr T (by exact rfl) (by exact rfl) (by exact rfl) (by exact rfl) (by exact rfl) (by exact rfl) ?_; refine Seq.q (by exact rfl) ?_; refine q_load_own T 0 (by exact rfl) (by exact rfl) (by exact rfl) (by exact rfl) (by exact rfl) ?_; refine Seq.q (by exact rfl) ?_; refine q_assign (by exact rfl) ?_; refine Seq.done ?_; refine Wp.ret ?_; refine thenR ?_))
    (exact ret1 rfl rfl (by repeat (first | exact List.Sublist.refl _ | exact List.nil_sublist _ | refine List.Sublist.cons_cons _ ?_ | refine List.Sublist.cons _ ?_)) rfl)
  | false =>
    refine GFn.quiet ?_
    (refine GFn.of_wp Try.func48 rfl Try.ntmps48 rfl rfl (fun w0 => ?_))
    ((refine Wp.seq ?_; refine Wp.region ?_; refine Seq.stepK (by exact rfl) (k_box _ (by exact rfl) (by exact rfl) (fun _ => ?_)); refine Seq.q (by exact rfl) ?_; refine q_assign (by exact rfl) ?_; refine Seq.done ?_; refine Wp.seq ?_; refine Wp.seq ?_; refine Wp.region ?_; refine Seq.q (by exact rfl) ?_; refine q_move (by exact rfl) ?_; refine Seq.done ?_; refine Wp.cond_false (by exact rfl) ?_; refine Wp.skip ?_; refine thenN ?_; refine Wp.seq ?_; refine Wp.region ?_; refine Seq.q (by exact rfl) ?_; refine q_fieldAddr T (by exact rfl) (by exact rfl) (by exact rfl) (by exact rfl) (by exact rfl) (by exact rfl) ?_; refine Seq.q (by exact rfl) ?_; refine q_load_own T 0 (by exact rfl) (by exact rfl) (by exact rfl) (by exact rfl) (by exact rfl) ?_; refine Seq.q (by exact rfl) ?_; refine q_assign (by exact rfl) ?_; refine Seq.done ?_; refine Wp.ret ?_))
    (exact ret1 rfl rfl (by repeat (first | exact List.Sublist.refl _ | exact List.nil_sublist _ | refine List.Sublist.cons_cons _ ?_ | refine List.Sublist.cons _ ?_)) rfl)
theorem reads_q {fz : FZ} {s : ByteArray} {d : Int} {A1 : Option Addr} {n1 c1 : Nat} {A2 : Option Addr} {n2 c2 : Nat} {A3 : Option Addr} {n3 c3 : Nat} {A4 : Option Addr} {n4 c4 : Nat} {A5 : Option Addr} {n5 c5 : Nat} {e : Bool} :
    QFn Try.prog 49 [.agg #[.string s, .int .i64 d, .slice A1 n1 c1, .slice A2 n2 c2, .slice A3 n3 c3, .slice A4 n4 c4, .slice A5 n5 c5], .bool e] fz (if e = true then .slice A3 n3 c3 else .slice A1 n1 c1) := by
  cases e with
  | true =>
    refine GFn.quiet ?_
    (refine GFn.of_wp Try.func49 rfl Try.ntmps49 rfl rfl (fun w0 => ?_))
    ((refine Wp.seq ?_; refine Wp.region ?_; refine Seq.stepK (by exact rfl) (k_box _ (by exact rfl) (by exact rfl) (fun _ => ?_)); refine Seq.q (by exact rfl) ?_; refine q_assign (by exact rfl) ?_; refine Seq.done ?_; refine Wp.seq ?_; refine Wp.seq ?_; refine Wp.region ?_; refine Seq.q (by exact rfl) ?_; refine q_move (by exact rfl) ?_; refine Seq.done ?_; refine Wp.cond_true (by exact rfl) ?_; refine Wp.seq ?_; refine Wp.region ?_; refine Seq.q (by exact rfl) ?_; refine q_fieldAddr T (by exact rfl) (by exact rfl) (by exact rfl) (by exact rfl) (by exact rfl) (by exact rfl) ?_; refine Seq.q (by exact rfl) ?_; refine q_load_own T 0 (by exact rfl) (by exact rfl) (by exact rfl) (by exact rfl) (by exact rfl) ?_; refine Seq.q (by exact rfl) ?_; refine q_assign (by exact rfl) ?_; refine Seq.done ?_; refine Wp.ret ?_; refine thenR ?_))
    (exact ret1 rfl rfl (by repeat (first | exact List.Sublist.refl _ | exact List.nil_sublist _ | refine List.Sublist.cons_cons _ ?_ | refine List.Sublist.cons _ ?_)) rfl)
  | false =>
    refine GFn.quiet ?_
    (refine GFn.of_wp Try.func49 rfl Try.ntmps49 rfl rfl (fun w0 => ?_))
    ((refine Wp.seq ?_; refine Wp.region ?_; refine Seq.stepK (by exact rfl) (k_box _ (by exact rfl) (by exact rfl) (fun _ => ?_)); refine Seq.q (by exact rfl) ?_; refine q_assign (by exact rfl) ?_; refine Seq.done ?_; refine Wp.seq ?_; refine Wp.seq ?_; refine Wp.region ?_; refine Seq.q (by exact rfl) ?_; refine q_move (by exact rfl) ?_; refine Seq.done ?_; refine Wp.cond_false (by exact rfl) ?_; refine Wp.skip ?_; refine thenN ?_; refine Wp.seq ?_; refine Wp.region ?_; refine Seq.q (by exact rfl) ?_; refine q_fieldAddr T (by exact rfl) (by exact rfl) (by exact rfl) (by exact rfl) (by exact rfl) (by exact rfl) ?_; refine Seq.q (by exact rfl) ?_; refine q_load_own T 0 (by exact rfl) (by exact rfl) (by exact rfl) (by exact rfl) (by exact rfl) ?_; refine Seq.q (by exact rfl) ?_; refine q_assign (by exact rfl) ?_; refine Seq.done ?_; refine Wp.ret ?_))
    (exact ret1 rfl rfl (by repeat (first | exact List.Sublist.refl _ | exact List.nil_sublist _ | refine List.Sublist.cons_cons _ ?_ | refine List.Sublist.cons _ ?_)) rfl)

/-! ### slices.IndexFunc, slices.ContainsFunc -/
def idxOf {α : Type} (p : α → Bool) (xs : List α) : Int := match xs.findIdx? p with
  | some i => (i : Int)
  | none => -1
theorem idxOf_hit {α : Type} {p : α → Bool} {xs : List α} {k : Nat} {x : α} (hx : xs[k]? = some x) (hp : p x = true) (h : ∀ i, i < k → ∀ y, xs[i]? = some y → p y = false) : idxOf p xs = k := by
  have : xs.findIdx? p = some k := by
    rw [List.findIdx?_eq_some_iff_getElem]
    obtain ⟨hk, he⟩ := List.getElem?_eq_some_iff.1 hx
    exact ⟨hk, by rw [he]; exact hp, fun j hj => by simp [h j hj xs[j] (List.getElem?_eq_getElem (by omega))]⟩
  simp [idxOf, this]
theorem idxOf_miss {α : Type} {p : α → Bool} {xs : List α} {k : Nat} (hk : xs.length ≤ k) (h : ∀ i, i < k → ∀ y, xs[i]? = some y → p y = false) : idxOf p xs = -1 := by
  have : xs.findIdx? p = none := by
    rw [List.findIdx?_eq_none_iff]
    intro x hx
    obtain ⟨i, hi⟩ := List.mem_iff_getElem?.1 hx
    exact h i (by have := lt_of_get hi; omega) x hi
  simp [idxOf, this]
theorem idxOf_nonneg {α : Type} {p : α → Bool} {xs : List α} : 0 ≤ idxOf p xs ↔ xs.any p = true := by
  unfold idxOf
  cases h : xs.findIdx? p with
  | none =>
    rw [List.findIdx?_eq_none_iff] at h
    constructor
    · intro hc; simp at hc
    · intro hc; obtain ⟨x, hx, hp⟩ := List.any_eq_true.1 hc; rw [h x hx] at hp; cases hp
  | some i =>
    rw [List.findIdx?_eq_some_iff_getElem] at h
    obtain ⟨hi, hp, _⟩ := h
    constructor
    · intro _; exact List.any_eq_true.2 ⟨_, List.getElem_mem hi, hp⟩
    · intro _; simp

theorem indexFuncF_q {fz : FZ} {A : Option Addr} {n c : Nat} {xs : List Fact} {f : FuncId} {capt : List Value} {p : Fact → Bool} (h : Sl factL fz A n c xs)
    (hf : ∀ x ∈ xs, QFn Try.prog f (.agg #[.int .i64 x.var, .int .i64 x.val] :: capt) fz (.bool (p x))) :
    QFn Try.prog 78 [.slice A n c, .func (.func f) #[] capt.toArray] fz (.int .i64 (idxOf p xs)) := by
  refine GFn.quiet ?_
  (refine GFn.of_wp Try.func78 rfl Try.ntmps78 rfl rfl (fun w0 => ?_))
  have l1 := h.len
  have hm := h.short
  ((refine Wp.seq ?_; refine Wp.region ?_; refine Seq.q (by exact rfl) ?_; refine q_assign (by exact rfl) ?_; refine Seq.done ?_; refine Wp.seq ?_; refine Wp.seq ?_; refine Wp.region ?_; refine Seq.q (by exact rfl) ?_; refine q_move (by exact rfl) ?_; refine Seq.q (by exact rfl) ?_; refine q_len_slice T (by exact rfl) (by exact rfl) (by exact rfl) ?_; refine Seq.q (by exact rfl) ?_; refine q_move (by exact rfl) ?_; refine Seq.done ?_; refine Wp.block ?_))
  (refine Wp.loop (fun q σ fz' H' => ∃ k : Nat, k ≤ n ∧ q = n - k ∧ σ = [(8, .int .i64 k), (7, .int .i64 n), (0, .slice A n c), (1, .func (.func f) #[] capt.toArray)] ∧ fz = fz' ∧ H' = [] ∧ (∀ i, i < k → ∀ y, xs[i]? = some y → p y = false)) ⟨0, Nat.zero_le _, rfl, rfl, rfl, rfl, (fun i hi => absurd hi (by omega))⟩ (by repeat (first | exact trivial | refine ⟨by exact rfl, ?_⟩)) (by repeat (first | exact List.Sublist.refl _ | exact List.nil_sublist _ | refine List.Sublist.cons_cons _ ?_ | refine List.Sublist.cons _ ?_)) ?_; rintro q σ fz' H' ⟨k, hk, rfl, rfl, rfl, rfl, hh⟩)
  ((refine Wp.seq ?_; refine Wp.region ?_))
  (((refine Seq.q (by exact rfl) ?_)); (refine q_lssD (by exact rfl) (by exact rfl) (fun hlt => ?_) (fun hge => ?_)))
  · ((refine Seq.done ?_; refine Wp.seq ?_; refine Wp.cond_true (by exact rfl) ?_; refine Wp.skip ?_; refine thenN ?_; refine Wp.seq ?_; refine Wp.block ?_; refine Wp.seq ?_; refine Wp.region ?_; refine Seq.q (by exact rfl) ?_; refine q_move (by exact rfl) ?_; refine Seq.q (by exact rfl) ?_; refine q_assign (by exact rfl) ?_; refine Seq.done ?_; refine Wp.seq ?_; refine Wp.region ?_; refine Seq.q (by exact rfl) ?_; refine q_move (by exact rfl) ?_; refine Seq.q (by exact rfl) ?_; refine q_move (by exact rfl) ?_; refine Seq.q (by exact rfl) ?_; refine q_move (by exact rfl) ?_))
    obtain ⟨x, hx⟩ := get_some (l := xs) (k := k) (by omega)
    (((refine Seq.q (by exact rfl) ?_)); refine q_index T k (by exact rfl) (by exact rfl) (by exact rfl) (by exact rfl) (by exact rfl) (by exact rfl) h (by first | rfl | omega) hx (fun q hq => ?_))
    (((refine Seq.q (by exact rfl) ?_)); refine q_load_at T (by exact rfl) (by exact rfl) (by exact rfl) hq (by exact rfl) ?_)
    rintro _ ⟨rfl, i1, i2⟩
    ((refine Seq.q (by exact rfl) ?_)); refine q_callv (first := []) (capt := capt) (by exact rfl) (by exact rfl) (by exact rfl) (hf x (List.mem_of_getElem? hx)) ?_
    cases hb : p x with
    | true =>
      ((refine Seq.done ?_; refine Wp.cond_true (by exact rfl) ?_; refine Wp.seq ?_; refine Wp.region ?_; refine Seq.q (by exact rfl) ?_; refine q_move (by exact rfl) ?_; refine Seq.q (by exact rfl) ?_; refine q_assign (by exact rfl) ?_; refine Seq.done ?_; refine Wp.ret ?_; refine blkR ?_; refine thenR ?_; refine loopR ?_; refine blkR ?_; refine thenR ?_))
      (exact ret1 rfl rfl (by repeat (first | exact List.Sublist.refl _ | exact List.nil_sublist _ | refine List.Sublist.cons_cons _ ?_ | refine List.Sublist.cons _ ?_)) (by rw [idxOf_hit hx hb hh]))
    | false =>
      ((refine Seq.done ?_; refine Wp.cond_false (by exact rfl) ?_; refine Wp.skip ?_; refine blkN ?_; refine thenN ?_; refine Wp.region ?_; refine Seq.q (by exact rfl) ?_; refine q_add (by exact rfl) (by exact rfl) (wrap_in (by omega)) ?_; refine Seq.q (by exact rfl) ?_; refine q_move (by exact rfl) ?_; refine Seq.end_ ?_))
      (exact loopN ⟨k + 1, by omega, rfl, rfl, rfl, rfl, (lt_succ_cases hh (fun y hy => by rw [hx] at hy; injection hy with hy; rw [← hy]; exact hb))⟩ (by omega) (by repeat (first | exact trivial | refine ⟨by exact rfl, ?_⟩)) (by repeat (first | exact List.Sublist.refl _ | exact List.nil_sublist _ | refine List.Sublist.cons_cons _ ?_ | refine List.Sublist.cons _ ?_)))
  · ((refine Seq.done ?_; refine Wp.seq ?_; refine Wp.cond_false (by exact rfl) ?_; refine Wp.exit ?_; refine thenX ?_; refine loopX ?_; refine blkX (by exact rfl) ?_; refine thenN ?_; refine Wp.seq ?_; refine Wp.region ?_; refine Seq.q (by exact rfl) ?_; refine q_assign (by exact rfl) ?_; refine Seq.done ?_; refine Wp.ret ?_))
    (exact ret1 rfl rfl (by repeat (first | exact List.Sublist.refl _ | exact List.nil_sublist _ | refine List.Sublist.cons_cons _ ?_ | refine List.Sublist.cons _ ?_)) (by rw [idxOf_miss (by omega) hh]))

theorem containsFuncF_q {fz : FZ} {A : Option Addr} {n c : Nat} {xs : List Fact} {f : FuncId} {capt : List Value} {p : Fact → Bool} (h : Sl factL fz A n c xs)
    (hf : ∀ x ∈ xs, QFn Try.prog f (.agg #[.int .i64 x.var, .int .i64 x.val] :: capt) fz (.bool (p x))) :
    QFn Try.prog 64 [.slice A n c, .func (.func f) #[] capt.toArray] fz (.bool (xs.any p)) := by
  refine GFn.quiet ?_
  (refine GFn.of_wp Try.func64 rfl Try.ntmps64 rfl rfl (fun w0 => ?_))
  ((refine Wp.seq ?_; refine Wp.region ?_; refine Seq.q (by exact rfl) ?_; refine q_assign (by exact rfl) ?_; refine Seq.done ?_; refine Wp.seq ?_; refine Wp.region ?_; refine Seq.q (by exact rfl) ?_; refine q_move (by exact rfl) ?_; refine Seq.q (by exact rfl) ?_; refine q_move (by exact rfl) ?_))
  (((refine Seq.q (by exact rfl) ?_)); refine q_call (by exact rfl) (by exact rfl) (indexFuncF_q h hf) ?_)
  (((refine Seq.q (by exact rfl) ?_)); (refine q_geqD (by exact rfl) (by exact rfl) (fun c1 => ?_) (fun c1 => ?_)))
  · ((refine Seq.q (by exact rfl) ?_; refine q_assign (by exact rfl) ?_; refine Seq.done ?_; refine Wp.ret ?_))
    (exact ret1 rfl rfl (by repeat (first | exact List.Sublist.refl _ | exact List.nil_sublist _ | refine List.Sublist.cons_cons _ ?_ | refine List.Sublist.cons _ ?_)) (by rw [idxOf_nonneg.1 c1]))
  · ((refine Seq.q (by exact rfl) ?_; refine q_assign (by exact rfl) ?_; refine Seq.done ?_; refine Wp.ret ?_))
    (exact ret1 rfl rfl (by repeat (first | exact List.Sublist.refl _ | exact List.nil_sublist _ | refine List.Sublist.cons_cons _ ?_ | refine List.Sublist.cons _ ?_)) (by cases hb : xs.any p with | true => exact absurd (idxOf_nonneg.2 hb) c1 | false => rfl))

theorem indexFuncL_q {fz : FZ} {A : Option Addr} {n c : Nat} {xs : List (List Fact)} {f : FuncId} {capt : List Value} {p : List Fact → Bool} (h : Sl (slL factL) fz A n c xs)
    (hf : ∀ x ∈ xs, ∀ B m d, Sl factL fz B m d x → QFn Try.prog f (.slice B m d :: capt) fz (.bool (p x))) :
    QFn Try.prog 58 [.slice A n c, .func (.func f) #[] capt.toArray] fz (.int .i64 (idxOf p xs)) := by
  refine GFn.quiet ?_
  (refine GFn.of_wp Try.func58 rfl Try.ntmps58 rfl rfl (fun w0 => ?_))
  have l1 := h.len
  have hm := h.short
  ((refine Wp.seq ?_; refine Wp.region ?_; refine Seq.q (by exact rfl) ?_; refine q_assign (by exact rfl) ?_; refine Seq.done ?_; refine Wp.seq ?_; refine Wp.seq ?_; refine Wp.region ?_; refine Seq.q (by exact rfl) ?_; refine q_move (by exact rfl) ?_; refine Seq.q (by exact rfl) ?_; refine q_len_slice T (by exact rfl) (by exact rfl) (by exact rfl) ?_; refine Seq.q (by exact rfl) ?_; refine q_move (by exact rfl) ?_; refine Seq.done ?_; refine Wp.block ?_))
  (refine Wp.loop (fun q σ fz' H' => ∃ k : Nat, k ≤ n ∧ q = n - k ∧ σ = [(8, .int .i64 k), (7, .int .i64 n), (0, .slice A n c), (1, .func (.func f) #[] capt.toArray)] ∧ fz = fz' ∧ H' = [] ∧ (∀ i, i < k → ∀ y, xs[i]? = some y → p y = false)) ⟨0, Nat.zero_le _, rfl, rfl, rfl, rfl, (fun i hi => absurd hi (by omega))⟩ (by repeat (first | exact trivial | refine ⟨by exact rfl, ?_⟩)) (by repeat (first | exact List.Sublist.refl _ | exact List.nil_sublist _ | refine List.Sublist.cons_cons _ ?_ | refine List.Sublist.cons _ ?_)) ?_; rintro q σ fz' H' ⟨k, hk, rfl, rfl, rfl, rfl, hh⟩)
  ((refine Wp.seq ?_; refine Wp.region ?_))
  (((refine Seq.q (by exact rfl) ?_)); (refine q_lssD (by exact rfl) (by exact rfl) (fun hlt => ?_) (fun hge => ?_)))
  · ((refine Seq.done ?_; refine Wp.seq ?_; refine Wp.cond_true (by exact rfl) ?_; refine Wp.skip ?_; refine thenN ?_; refine Wp.seq ?_; refine Wp.block ?_; refine Wp.seq ?_; refine Wp.region ?_; refine Seq.q (by exact rfl) ?_; refine q_move (by exact rfl) ?_; refine Seq.q (by exact rfl) ?_; refine q_assign (by exact rfl) ?_; refine Seq.done ?_; refine Wp.seq ?_; refine Wp.region ?_; refine Seq.q (by exact rfl) ?_; refine q_move (by exact rfl) ?_; refine Seq.q (by exact rfl) ?_; refine q_move (by exact rfl) ?_; refine Seq.q (by exact rfl) ?_; refine q_move (by exact rfl) ?_))
    obtain ⟨x, hx⟩ := get_some (l := xs) (k := k) (by omega)
    (((refine Seq.q (by exact rfl) ?_)); refine q_index T k (by exact rfl) (by exact rfl) (by exact rfl) (by exact rfl) (by exact rfl) (by exact rfl) h (by first | rfl | omega) hx (fun q hq => ?_))
    (((refine Seq.q (by exact rfl) ?_)); refine q_load_sl T (by exact rfl) (by exact rfl) (by exact rfl) hq (fun B m d hs => ?_))
    ((refine Seq.q (by exact rfl) ?_)); refine q_callv (first := []) (capt := capt) (by exact rfl) (by exact rfl) (by exact rfl) (hf x (List.mem_of_getElem? hx) B m d hs) ?_
    cases hb : p x with
    | true =>
      ((refine Seq.done ?_; refine Wp.cond_true (by exact rfl) ?_; refine Wp.seq ?_; refine Wp.region ?_; refine Seq.q (by exact rfl) ?_; refine q_move (by exact rfl) ?_; refine Seq.q (by exact rfl) ?_; refine q_assign (by exact rfl) ?_; refine Seq.done ?_; refine Wp.ret ?_; refine blkR ?_; refine thenR ?_; refine loopR ?_; refine blkR ?_; refine thenR ?_))
      (exact ret1 rfl rfl (by repeat (first | exact List.Sublist.refl _ | exact List.nil_sublist _ | refine List.Sublist.cons_cons _ ?_ | refine List.Sublist.cons _ ?_)) (by rw [idxOf_hit hx hb hh]))
    | false =>
      ((refine Seq.done ?_; refine Wp.cond_false (by exact rfl) ?_; refine Wp.skip ?_; refine blkN ?_; refine thenN ?_; refine Wp.region ?_; refine Seq.q (by exact rfl) ?_; refine q_add (by exact rfl) (by exact rfl) (wrap_in (by omega)) ?_; refine Seq.q (by exact rfl) ?_; refine q_move (by exact rfl) ?_; refine Seq.end_ ?_))
      (exact loopN ⟨k + 1, by omega, rfl, rfl, rfl, rfl, (lt_succ_cases hh (fun y hy => by rw [hx] at hy; injection hy with hy; rw [← hy]; exact hb))⟩ (by omega) (by repeat (first | exact trivial | refine ⟨by exact rfl, ?_⟩)) (by repeat (first | exact List.Sublist.refl _ | exact List.nil_sublist _ | refine List.Sublist.cons_cons _ ?_ | refine List.Sublist.cons _ ?_)))
  · ((refine Seq.done ?_; refine Wp.seq ?_; refine Wp.cond_false (by exact rfl) ?_; refine Wp.exit ?_; refine thenX ?_; refine loopX ?_; refine blkX (by exact rfl) ?_; refine thenN ?_; refine Wp.seq ?_; refine Wp.region ?_; refine Seq.q (by exact rfl) ?_; refine q_assign (by exact rfl) ?_; refine Seq.done ?_; refine Wp.ret ?_))
    (exact ret1 rfl rfl (by repeat (first | exact List.Sublist.refl _ | exact List.nil_sublist _ | refine List.Sublist.cons_cons _ ?_ | refine List.Sublist.cons _ ?_)) (by rw [idxOf_miss (by omega) hh]))

theorem containsFuncL_q {fz : FZ} {A : Option Addr} {n c : Nat} {xs : List (List Fact)} {f : FuncId} {capt : List Value} {p : List Fact → Bool} (h : Sl (slL factL) fz A n c xs)
    (hf : ∀ x ∈ xs, ∀ B m d, Sl factL fz B m d x → QFn Try.prog f (.slice B m d :: capt) fz (.bool (p x))) :
    QFn Try.prog 40 [.slice A n c, .func (.func f) #[] capt.toArray] fz (.bool (xs.any p)) := by
  refine GFn.quiet ?_
  (refine GFn.of_wp Try.func40 rfl Try.ntmps40 rfl rfl (fun w0 => ?_))
  ((refine Wp.seq ?_; refine Wp.region ?_; refine Seq.q (by exact rfl) ?_; refine q_assign (by exact rfl) ?_; refine Seq.done ?_; refine Wp.seq ?_; refine Wp.region ?_; refine Seq.q (by exact rfl) ?_; refine q_move (by exact rfl) ?_; refine Seq.q (by exact rfl) ?_; refine q_move (by exact rfl) ?_))
  (((refine Seq.q (by exact rfl) ?_)); refine q_call (by exact rfl) (by exact rfl) (indexFuncL_q h hf) ?_)
  (((refine Seq.q (by exact rfl) ?_)); (refine q_geqD (by exact rfl) (by exact rfl) (fun c1 => ?_) (fun c1 => ?_)))
  · ((refine Seq.q (by exact rfl) ?_; refine q_assign (by exact rfl) ?_; refine Seq.done ?_; refine Wp.ret ?_))
    (exact ret1 rfl rfl (by repeat (first | exact List.Sublist.refl _ | exact List.nil_sublist _ | refine List.Sublist.cons_cons _ ?_ | refine List.Sublist.cons _ ?_)) (by rw [idxOf_nonneg.1 c1]))
  · ((refine Seq.q (by exact rfl) ?_; refine q_assign (by exact rfl) ?_; refine Seq.done ?_; refine Wp.ret ?_))
    (exact ret1 rfl rfl (by repeat (first | exact List.Sublist.refl _ | exact List.nil_sublist _ | refine List.Sublist.cons_cons _ ?_ | refine List.Sublist.cons _ ?_)) (by cases hb : xs.any p with | true => exact absurd (idxOf_nonneg.2 hb) c1 | false => rfl))

/-! ### lists of facts with a common variable -/
def MeetP (a b : List Fact) : Prop := ∃ x ∈ a, ∃ y ∈ b, x.var = y.var
theorem meet_any {a b : List Fact} : (a.any fun x => b.any fun y => decide (x.var = y.var)) = decide (MeetP a b) := by
  rw [Bool.eq_iff_iff, List.any_eq_true, decide_eq_true_iff]
  constructor
  · rintro ⟨x, hx, h⟩
    obtain ⟨y, hy, h⟩ := List.any_eq_true.1 h
    exact ⟨x, hx, y, hy, of_decide_eq_true h⟩
  · rintro ⟨x, hx, y, hy, h⟩
    exact ⟨x, hx, List.any_eq_true.2 ⟨y, hy, decide_eq_true h⟩⟩

theorem meet11_q {fz : FZ} {g : Nat} {t : TypeId} {fr : Nat × Nat} {x y : Fact} (hg : fz g = some (.cells #[.int .i64 x.var, .int .i64 x.val] t fr)) :
    QFn Try.prog 66 [.agg #[.int .i64 y.var, .int .i64 y.val], .pointer (some ⟨g, 0, none⟩)] fz (.bool (decide (x.var = y.var))) := by
  refine GFn.quiet ?_
  (refine GFn.of_wp Try.func66 rfl Try.ntmps66 rfl rfl (fun w0 => ?_))
  ((refine Wp.seq ?_; refine Wp.region ?_; refine Seq.stepK (by exact rfl) (k_box _ (by exact rfl) (by exact rfl) (fun _ => ?_)); refine Seq.q (by exact rfl) ?_; refine q_assign (by exact rfl) ?_; refine Seq.done ?_; refine Wp.seq ?_; refine Wp.region ?_; refine Seq.q (by exact rfl) ?_; refine q_fieldAddr T (by exact rfl) (by exact rfl) (by exact rfl) (by exact rfl) (by exact rfl) (by exact rfl) ?_; refine Seq.q (by exact rfl) ?_; refine q_load_fz T (by exact rfl) (by exact rfl) (by exact rfl) (by assumption) (by exact rfl) ?_; refine Seq.q (by exact rfl) ?_; refine q_fieldAddr T (by exact rfl) (by exact rfl) (by exact rfl) (by exact rfl) (by exact rfl) (by exact rfl) ?_; refine Seq.q (by exact rfl) ?_; refine q_load_own T 0 (by exact rfl) (by exact rfl) (by exact rfl) (by exact rfl) (by exact rfl) ?_))
  (((refine Seq.q (by exact rfl) ?_)); (refine q_eqlD (by exact rfl) (by exact rfl) (fun c1 => ?_) (fun c1 => ?_)))
  · ((refine Seq.q (by exact rfl) ?_; refine q_assign (by exact rfl) ?_; refine Seq.done ?_; refine Wp.ret ?_))
    (exact ret1 rfl rfl (by repeat (first | exact List.Sublist.refl _ | exact List.nil_sublist _ | refine List.Sublist.cons_cons _ ?_ | refine List.Sublist.cons _ ?_)) (bool_true c1))
  · ((refine Seq.q (by exact rfl) ?_; refine q_assign (by exact rfl) ?_; refine Seq.done ?_; refine Wp.ret ?_))
    (exact ret1 rfl rfl (by repeat (first | exact List.Sublist.refl _ | exact List.nil_sublist _ | refine List.Sublist.cons_cons _ ?_ | refine List.Sublist.cons _ ?_)) (bool_false c1))

theorem meet1_q {fz : FZ} {g : Nat} {t : TypeId} {fr : Nat × Nat} {x : Fact} {A : Option Addr} {n c : Nat} {b : List Fact} (hg : fz g = some (.cells #[.slice A n c] t fr)) (h : Sl factL fz A n c b) :
    QFn Try.prog 65 [.agg #[.int .i64 x.var, .int .i64 x.val], .pointer (some ⟨g, 0, none⟩)] fz (.bool (b.any fun y => decide (x.var = y.var))) := by
  refine GFn.quiet ?_
  (refine GFn.of_wp Try.func65 rfl Try.ntmps65 rfl rfl (fun w0 => ?_))
  ((refine Wp.seq ?_; refine Wp.region ?_; refine Seq.stepK (by exact rfl) (k_box _ (by exact rfl) (by exact rfl) (fun _ => ?_)); refine Seq.q (by exact rfl) ?_; refine q_assign (by exact rfl) ?_; refine Seq.done ?_; refine Wp.seq ?_; refine Wp.region ?_; refine Seq.q (by exact rfl) ?_; refine q_load_fz T (by exact rfl) (by exact rfl) (by exact rfl) (by assumption) (by exact rfl) ?_))
  (first | refine Wp.freeze (by exact rfl) (fun fz' hle hx => ?_) | refine Seq.freeze (by exact rfl) (fun fz' hle hx => ?_))
  ((refine Seq.q (by exact rfl) ?_)); refine q_makeFunc (by exact rfl) (by exact rfl) ?_
  (((refine Seq.q (by exact rfl) ?_)); refine q_call (by exact rfl) (by exact rfl) (containsFuncF_q (h.mono hle) (fun y _ => meet11_q hx)) ?_)
  ((refine Seq.q (by exact rfl) ?_; refine q_assign (by exact rfl) ?_; refine Seq.done ?_; refine Wp.ret ?_))
  (exact ret1 rfl rfl (by repeat (first | exact List.Sublist.refl _ | exact List.nil_sublist _ | refine List.Sublist.cons_cons _ ?_ | refine List.Sublist.cons _ ?_)) rfl)

theorem tmeet_q {fz : FZ} {A : Option Addr} {n c : Nat} {a : List Fact} {B : Option Addr} {m d : Nat} {b : List Fact} (h1 : Sl factL fz A n c a) (h2 : Sl factL fz B m d b) :
    QFn Try.prog 59 [.slice A n c, .slice B m d] fz (.bool (decide (MeetP a b))) := by
  refine GFn.quiet ?_
  (refine GFn.of_wp Try.func59 rfl Try.ntmps59 rfl rfl (fun w0 => ?_))
  ((refine Wp.seq ?_; refine Wp.region ?_; refine Seq.stepK (by exact rfl) (k_box _ (by exact rfl) (by exact rfl) (fun _ => ?_)); refine Seq.q (by exact rfl) ?_; refine q_assign (by exact rfl) ?_; refine Seq.done ?_; refine Wp.seq ?_; refine Wp.region ?_; refine Seq.q (by exact rfl) ?_; refine q_move (by exact rfl) ?_))
  (first | refine Wp.freeze (by exact rfl) (fun fz' hle hx => ?_) | refine Seq.freeze (by exact rfl) (fun fz' hle hx => ?_))
  (skip)
  ((refine Seq.q (by exact rfl) ?_)); refine q_makeFunc (by exact rfl) (by exact rfl) ?_
  (((refine Seq.q (by exact rfl) ?_)); refine q_call (by exact rfl) (by exact rfl) (containsFuncF_q (h1.mono hle) (fun y _ => meet1_q hx (h2.mono hle))) ?_)
  ((refine Seq.q (by exact rfl) ?_; refine q_assign (by exact rfl) ?_; refine Seq.done ?_; refine Wp.ret ?_))
  (exact ret1 rfl rfl (by repeat (first | exact List.Sublist.refl _ | exact List.nil_sublist _ | refine List.Sublist.cons_cons _ ?_ | refine List.Sublist.cons _ ?_)) (by rw [meet_any]))

theorem meet_q {fz : FZ} {A : Option Addr} {n c : Nat} {a : List Fact} {B : Option Addr} {m d : Nat} {b : List Fact} (h1 : Sl factL fz A n c a) (h2 : Sl factL fz B m d b) :
    QFn Try.prog 47 [.slice A n c, .slice B m d] fz (.bool (decide (MeetP a b))) := by
  refine GFn.quiet ?_
  (refine GFn.of_wp Try.func47 rfl Try.ntmps47 rfl rfl (fun w0 => ?_))
  have l1 := h1.len
  have l2 := h2.len
  have hm := h1.short
  have hm2 := h2.short
  ((refine Wp.seq ?_; refine Wp.region ?_; refine Seq.q (by exact rfl) ?_; refine q_assign (by exact rfl) ?_; refine Seq.done ?_; refine Wp.seq ?_; refine Wp.seq ?_; refine Wp.region ?_; refine Seq.q (by exact rfl) ?_; refine q_move (by exact rfl) ?_; refine Seq.q (by exact rfl) ?_; refine q_len_slice T (by exact rfl) (by exact rfl) (by exact rfl) ?_; refine Seq.q (by exact rfl) ?_; refine q_move (by exact rfl) ?_; refine Seq.done ?_; refine Wp.block ?_))
  (refine Wp.loop (fun q σ fz' H' => ∃ k : Nat, k ≤ n ∧ q = n - k ∧ σ = [(11, .int .i64 k), (10, .int .i64 n), (9, .slice A n c), (1, .slice B m d)] ∧ fz = fz' ∧ H' = [] ∧ (∀ i, i < k → ∀ x, a[i]? = some x → ∀ y ∈ b, x.var ≠ y.var)) ⟨0, Nat.zero_le _, rfl, rfl, rfl, rfl, (fun i hi => absurd hi (by omega))⟩ (by repeat (first | exact trivial | refine ⟨by exact rfl, ?_⟩)) (by repeat (first | exact List.Sublist.refl _ | exact List.nil_sublist _ | refine List.Sublist.cons_cons _ ?_ | refine List.Sublist.cons _ ?_)) ?_; rintro q σ fz' H' ⟨k, hk, rfl, rfl, rfl, rfl, hh⟩)
  ((refine Wp.seq ?_; refine Wp.region ?_))
  (((refine Seq.q (by exact rfl) ?_)); (refine q_lssD (by exact rfl) (by exact rfl) (fun hlt => ?_) (fun hge => ?_)))
  · ((refine Seq.done ?_; refine Wp.seq ?_; refine Wp.cond_true (by exact rfl) ?_; refine Wp.skip ?_; refine thenN ?_; refine Wp.seq ?_; refine Wp.block ?_; refine Wp.seq ?_; refine Wp.region ?_))
    obtain ⟨x, hx⟩ := get_some (l := a) (k := k) (by omega)
    (((refine Seq.q (by exact rfl) ?_)); refine q_index T k (by exact rfl) (by exact rfl) (by exact rfl) (by exact rfl) (by exact rfl) (by exact rfl) h1 (by first | rfl | omega) hx (fun p hp => ?_))
    (((refine Seq.q (by exact rfl) ?_)); refine q_load_at T (by exact rfl) (by exact rfl) (by exact rfl) hp (by exact rfl) ?_)
    rintro _ ⟨rfl, i1, i2⟩
    refine Seq.stepK (by exact rfl) (k_alloc T (by exact rfl) (by exact rfl) (fun g => ?_))
    ((refine Seq.stepK0 (k_store0 T (by exact rfl) (by exact rfl) (by exact rfl) (by exact rfl) (by exact rfl) (by exact rfl) ?_); refine Seq.done ?_; refine Wp.seq ?_; refine Wp.region ?_; refine Seq.q (by exact rfl) ?_; refine q_move (by exact rfl) ?_; refine Seq.q (by exact rfl) ?_; refine q_len_slice T (by exact rfl) (by exact rfl) (by exact rfl) ?_; refine Seq.q (by exact rfl) ?_; refine q_move (by exact rfl) ?_; refine Seq.done ?_; refine Wp.block ?_))
    refine Wp.loop (fun q σ fz' H' => ∃ i : Nat, i ≤ m ∧ q = m - i ∧ σ = [(17, .int .i64 i), (16, .int .i64 m), (15, .slice B m d), (6, .pointer (some ⟨g, 0, none⟩)), (11, .int .i64 k), (10, .int .i64 n), (9, .slice A n c), (1, .slice B m d)] ∧ fz = fz' ∧ H' = [(g, .cells #[.int .i64 x.var, .int .i64 x.val] 49 (0, 0))] ∧ ∀ u, u < i → ∀ y, b[u]? = some y → x.var ≠ y.var) ⟨0, Nat.zero_le _, rfl, rfl, rfl, rfl, fun u hu => absurd hu (by omega)⟩ (by repeat (first | exact trivial | refine ⟨by exact rfl, ?_⟩)) (by repeat (first | exact List.Sublist.refl _ | exact List.nil_sublist _ | refine List.Sublist.cons_cons _ ?_ | refine List.Sublist.cons _ ?_)) ?_
    rintro q σ fz' H' ⟨i, hi, rfl, rfl, rfl, rfl, hin⟩
    ((refine Wp.seq ?_; refine Wp.region ?_))
    (((refine Seq.q (by exact rfl) ?_)); (refine q_lssD (by exact rfl) (by exact rfl) (fun hlt2 => ?_) (fun hge2 => ?_)))
    · ((refine Seq.done ?_; refine Wp.seq ?_; refine Wp.cond_true (by exact rfl) ?_; refine Wp.skip ?_; refine thenN ?_; refine Wp.seq ?_; refine Wp.block ?_; refine Wp.seq ?_; refine Wp.region ?_))
      obtain ⟨y, hy⟩ := get_some (l := b) (k := i) (by omega)
      (((refine Seq.q (by exact rfl) ?_)); refine q_index T i (by exact rfl) (by exact rfl) (by exact rfl) (by exact rfl) (by exact rfl) (by exact rfl) h2 (by first | rfl | omega) hy (fun p2 hp2 => ?_))
      (((refine Seq.q (by exact rfl) ?_)); refine q_load_at T (by exact rfl) (by exact rfl) (by exact rfl) hp2 (by exact rfl) ?_)
      rintro _ ⟨rfl, i3, i4⟩
      ((refine Seq.stepK (by exact rfl) (k_alloc T (by exact rfl) (by exact rfl) (fun _ => ?_)); refine Seq.stepK0 (k_store0 T (by exact rfl) (by exact rfl) (by exact rfl) (by exact rfl) (by exact rfl) (by exact rfl) ?_); refine Seq.done ?_; refine Wp.seq ?_; refine Wp.region ?_; refine Seq.q (by exact rfl) ?_; refine q_fieldAddr T (by exact rfl) (by exact rfl) (by exact rfl) (by exact rfl) (by exact rfl) (by exact rfl) ?_; refine Seq.q (by exact rfl) ?_; refine q_load_own T 1 (by exact rfl) (by exact rfl) (by exact rfl) (by exact rfl) (by exact rfl) ?_; refine Seq.q (by exact rfl) ?_; refine q_fieldAddr T (by exact rfl) (by exact rfl) (by exact rfl) (by exact rfl) (by exact rfl) (by exact rfl) ?_; refine Seq.q (by exact rfl) ?_; refine q_load_own T 0 (by exact rfl) (by exact rfl) (by exact rfl) (by exact rfl) (by exact rfl) ?_))
      (((refine Seq.q (by exact rfl) ?_)); (refine q_eqlD (by exact rfl) (by exact rfl) (fun c1 => ?_) (fun c1 => ?_)))
      · ((refine Seq.done ?_; refine Wp.cond_true (by exact rfl) ?_; refine Wp.seq ?_; refine Wp.region ?_; refine Seq.q (by exact rfl) ?_; refine q_assign (by exact rfl) ?_; refine Seq.done ?_; refine Wp.ret ?_; refine blkR ?_; refine thenR ?_; refine loopR ?_; refine blkR ?_; refine blkR ?_; refine thenR ?_; refine loopR ?_; refine blkR ?_; refine thenR ?_))
        (exact ret1 rfl rfl (by repeat (first | exact List.Sublist.refl _ | exact List.nil_sublist _ | refine List.Sublist.cons_cons _ ?_ | refine List.Sublist.cons _ ?_)) (bool_true ⟨x, List.mem_of_getElem? hx, y, List.mem_of_getElem? hy, c1⟩))
      · ((refine Seq.done ?_; refine Wp.cond_false (by exact rfl) ?_; refine Wp.skip ?_; refine blkN ?_; refine thenN ?_; refine Wp.region ?_; refine Seq.q (by exact rfl) ?_; refine q_add (by exact rfl) (by exact rfl) (wrap_in (by omega)) ?_; refine Seq.q (by exact rfl) ?_; refine q_move (by exact rfl) ?_; refine Seq.end_ ?_))
        exact loopN ⟨i + 1, by omega, rfl, rfl, rfl, rfl, lt_succ_cases hin (fun z hz => by rw [hy] at hz; injection hz with hz; rw [← hz]; exact c1)⟩ (by omega) (by repeat (first | exact trivial | refine ⟨by exact rfl, ?_⟩)) (by repeat (first | exact List.Sublist.refl _ | exact List.nil_sublist _ | refine List.Sublist.cons_cons _ ?_ | refine List.Sublist.cons _ ?_))
    · ((refine Seq.done ?_; refine Wp.seq ?_; refine Wp.cond_false (by exact rfl) ?_; refine Wp.exit ?_; refine thenX ?_; refine loopX ?_; refine blkX (by exact rfl) ?_; refine blkN ?_; refine thenN ?_; refine Wp.region ?_; refine Seq.q (by exact rfl) ?_; refine q_add (by exact rfl) (by exact rfl) (wrap_in (by omega)) ?_; refine Seq.q (by exact rfl) ?_; refine q_move (by exact rfl) ?_; refine Seq.end_ ?_))
      (exact loopN ⟨k + 1, by omega, rfl, rfl, rfl, rfl, (lt_succ_cases hh (fun z hz y hy => by
        rw [hx] at hz; injection hz with hz; subst hz
        obtain ⟨u, hu⟩ := List.mem_iff_getElem?.1 hy
        exact hin u (by have := lt_of_get hu; omega) y hu))⟩ (by omega) (by repeat (first | exact trivial | refine ⟨by exact rfl, ?_⟩)) (by repeat (first | exact List.Sublist.refl _ | exact List.nil_sublist _ | refine List.Sublist.cons_cons _ ?_ | refine List.Sublist.cons _ ?_)))
  · ((refine Seq.done ?_; refine Wp.seq ?_; refine Wp.cond_false (by exact rfl) ?_; refine Wp.exit ?_; refine thenX ?_; refine loopX ?_; refine blkX (by exact rfl) ?_; refine thenN ?_; refine Wp.seq ?_; refine Wp.region ?_; refine Seq.q (by exact rfl) ?_; refine q_assign (by exact rfl) ?_; refine Seq.done ?_; refine Wp.ret ?_))
    (exact ret1 rfl rfl (by repeat (first | exact List.Sublist.refl _ | exact List.nil_sublist _ | refine List.Sublist.cons_cons _ ?_ | refine List.Sublist.cons _ ?_)) (bool_false (fun ⟨x, hx, y, hy, he⟩ => by
      obtain ⟨u, hu⟩ := List.mem_iff_getElem?.1 hx
      exact hh u (by have := lt_of_get hu; omega) x hu y hy he)))

/-! ### happenings that interfere -/
def InterP (a : Job) (ea : Bool) (b : Job) (eb : Bool) : Prop := MeetP (wrJ a ea) (wrJ b eb) ∨ MeetP (wrJ a ea) (rdJ b eb) ∨ MeetP (rdJ a ea) (wrJ b eb)

theorem tinterfere_q {fz : FZ} {t : Temporal} {A1 : Option Addr} {n1 c1 : Nat} {A2 : Option Addr} {n2 c2 : Nat} {A3 : Option Addr} {n3 c3 : Nat} {A4 : Option Addr} {n4 c4 : Nat} (ht : TempR fz t A1 n1 c1 A2 n2 c2 A3 n3 c3 A4 n4 c4)
    {ja jb : Int} {ea eb : Bool} {k l : Nat} {a b : Job} (hk : ja = k) (ha : t.jobs[k]? = some a) (hl : jb = l) (hb : t.jobs[l]? = some b) :
    QFn Try.prog 46 [.agg #[.slice A1 n1 c1, .slice A2 n2 c2, .slice A3 n3 c3, .slice A4 n4 c4], .agg #[.int .i64 ja, .bool ea], .agg #[.int .i64 jb, .bool eb]] fz (.bool (decide (InterP a ea b eb))) := by
  obtain ⟨B1, m1, d1, s1, q1⟩ := twrites_q ht hk ha (e := ea)
  obtain ⟨B2, m2, d2, s2, q2⟩ := twrites_q ht hl hb (e := eb)
  obtain ⟨B3, m3, d3, s3, q3⟩ := treads_q ht hk ha (e := ea)
  obtain ⟨B4, m4, d4, s4, q4⟩ := treads_q ht hl hb (e := eb)
  refine GFn.quiet ?_
  (refine GFn.of_wp Try.func46 rfl Try.ntmps46 rfl rfl (fun w0 => ?_))
  ((refine Wp.seq ?_; refine Wp.region ?_; refine Seq.stepK (by exact rfl) (k_box _ (by exact rfl) (by exact rfl) (fun _ => ?_)); refine Seq.stepK (by exact rfl) (k_box _ (by exact rfl) (by exact rfl) (fun _ => ?_)); refine Seq.stepK (by exact rfl) (k_box _ (by exact rfl) (by exact rfl) (fun _ => ?_)); refine Seq.q (by exact rfl) ?_; refine q_assign (by exact rfl) ?_; refine Seq.done ?_; refine Wp.seq ?_; refine Wp.draw (by decide +kernel) T.mixed (by kernel_rfl) (by kernel_rfl) ?_; refine QL.q ?_; refine q_load_own_all T 2 (by exact rfl) (by exact rfl) (by exact rfl) (by exact rfl) (by exact rfl) ?_; refine QL.q ?_; refine q_load_own_all T 1 (by exact rfl) (by exact rfl) (by exact rfl) (by exact rfl) (by exact rfl) ?_))
  (((refine QL.q ?_)); refine q_call (by exact rfl) (by exact rfl) q1 ?_)
  ((refine QL.q ?_; refine q_load_own_all T 2 (by exact rfl) (by exact rfl) (by exact rfl) (by exact rfl) (by exact rfl) ?_; refine QL.q ?_; refine q_load_own_all T 0 (by exact rfl) (by exact rfl) (by exact rfl) (by exact rfl) (by exact rfl) ?_))
  (((refine QL.q ?_)); refine q_call (by exact rfl) (by exact rfl) q2 ?_)
  (((refine QL.q ?_)); refine q_callB (by exact rfl) (by exact rfl) (tmeet_q s1 s2) (fun c1 => ?_) (fun c1 => ?_))
  · ((refine QL.q ?_; refine q_move (by exact rfl) ?_; refine QL.no (by exact rfl) ?_; refine QL.no (by exact rfl) ?_; refine QL.no (by exact rfl) ?_; refine QL.no (by exact rfl) ?_; refine QL.no (by exact rfl) ?_; refine QL.no (by exact rfl) ?_; refine QL.no (by exact rfl) ?_; refine QL.q ?_; refine q_pick_true (by exact rfl) (by exact rfl) ?_; refine QL.q ?_; refine q_move (by exact rfl) ?_; refine QL.no (by exact rfl) ?_; refine QL.no (by exact rfl) ?_; refine QL.no (by exact rfl) ?_; refine QL.no (by exact rfl) ?_; refine QL.no (by exact rfl) ?_; refine QL.no (by exact rfl) ?_; refine QL.no (by exact rfl) ?_; refine QL.q ?_; refine q_pick_true (by exact rfl) (by exact rfl) ?_; refine QL.q ?_; refine q_assign (by exact rfl) ?_; refine QL.done ?_; refine thenN ?_; refine Wp.ret ?_))
    (exact ret1 rfl rfl (by repeat (first | exact List.Sublist.refl _ | exact List.nil_sublist _ | refine List.Sublist.cons_cons _ ?_ | refine List.Sublist.cons _ ?_)) (bool_true (.inl (of_decide_eq_true c1))))
  · ((refine QL.q ?_; refine q_move (by exact rfl) ?_; refine QL.yes (by exact rfl) ?_; refine q_load_own_all T 2 (by exact rfl) (by exact rfl) (by exact rfl) (by exact rfl) (by exact rfl) ?_; refine QL.yes (by exact rfl) ?_; refine q_load_own_all T 1 (by exact rfl) (by exact rfl) (by exact rfl) (by exact rfl) (by exact rfl) ?_))
    (((refine QL.yes (by exact rfl) ?_)); refine q_call (by exact rfl) (by exact rfl) q1 ?_)
    ((refine QL.yes (by exact rfl) ?_; refine q_load_own_all T 2 (by exact rfl) (by exact rfl) (by exact rfl) (by exact rfl) (by exact rfl) ?_; refine QL.yes (by exact rfl) ?_; refine q_load_own_all T 0 (by exact rfl) (by exact rfl) (by exact rfl) (by exact rfl) (by exact rfl) ?_))
    (((refine QL.yes (by exact rfl) ?_)); refine q_call (by exact rfl) (by exact rfl) q4 ?_)
    (((refine QL.yes (by exact rfl) ?_)); refine q_callB (by exact rfl) (by exact rfl) (tmeet_q s1 s4) (fun c2 => ?_) (fun c2 => ?_))
    · ((refine QL.q ?_; refine q_pick_false (by exact rfl) (by exact rfl) ?_; refine QL.q ?_; refine q_move (by exact rfl) ?_; refine QL.no (by exact rfl) ?_; refine QL.no (by exact rfl) ?_; refine QL.no (by exact rfl) ?_; refine QL.no (by exact rfl) ?_; refine QL.no (by exact rfl) ?_; refine QL.no (by exact rfl) ?_; refine QL.no (by exact rfl) ?_; refine QL.q ?_; refine q_pick_true (by exact rfl) (by exact rfl) ?_; refine QL.q ?_; refine q_assign (by exact rfl) ?_; refine QL.done ?_; refine thenN ?_; refine Wp.ret ?_))
      (exact ret1 rfl rfl (by repeat (first | exact List.Sublist.refl _ | exact List.nil_sublist _ | refine List.Sublist.cons_cons _ ?_ | refine List.Sublist.cons _ ?_)) (bool_true (.inr (.inl (of_decide_eq_true c2)))))
    · ((refine QL.q ?_; refine q_pick_false (by exact rfl) (by exact rfl) ?_; refine QL.q ?_; refine q_move (by exact rfl) ?_; refine QL.yes (by exact rfl) ?_; refine q_load_own_all T 2 (by exact rfl) (by exact rfl) (by exact rfl) (by exact rfl) (by exact rfl) ?_; refine QL.yes (by exact rfl) ?_; refine q_load_own_all T 1 (by exact rfl) (by exact rfl) (by exact rfl) (by exact rfl) (by exact rfl) ?_))
      (((refine QL.yes (by exact rfl) ?_)); refine q_call (by exact rfl) (by exact rfl) q3 ?_)
      ((refine QL.yes (by exact rfl) ?_; refine q_load_own_all T 2 (by exact rfl) (by exact rfl) (by exact rfl) (by exact rfl) (by exact rfl) ?_; refine QL.yes (by exact rfl) ?_; refine q_load_own_all T 0 (by exact rfl) (by exact rfl) (by exact rfl) (by exact rfl) (by exact rfl) ?_))
      (((refine QL.yes (by exact rfl) ?_)); refine q_call (by exact rfl) (by exact rfl) q2 ?_)
      (((refine QL.yes (by exact rfl) ?_)); refine q_callB (by exact rfl) (by exact rfl) (tmeet_q s3 s2) (fun c3 => ?_) (fun c3 => ?_))
      · ((refine QL.q ?_; refine q_pick_false (by exact rfl) (by exact rfl) ?_; refine QL.q ?_; refine q_assign (by exact rfl) ?_; refine QL.done ?_; refine thenN ?_; refine Wp.ret ?_))
        (exact ret1 rfl rfl (by repeat (first | exact List.Sublist.refl _ | exact List.nil_sublist _ | refine List.Sublist.cons_cons _ ?_ | refine List.Sublist.cons _ ?_)) (bool_true (.inr (.inr (of_decide_eq_true c3)))))
      · ((refine QL.q ?_; refine q_pick_false (by exact rfl) (by exact rfl) ?_; refine QL.q ?_; refine q_assign (by exact rfl) ?_; refine QL.done ?_; refine thenN ?_; refine Wp.ret ?_))
        (exact ret1 rfl rfl (by repeat (first | exact List.Sublist.refl _ | exact List.nil_sublist _ | refine List.Sublist.cons_cons _ ?_ | refine List.Sublist.cons _ ?_)) (bool_false (fun h => by rcases h with h | h | h; exact of_decide_eq_false c1 h; exact of_decide_eq_false c2 h; exact of_decide_eq_false c3 h)))

theorem interfere_q {fz : FZ} {a : Job} {A1 : Option Addr} {n1 c1 : Nat} {A2 : Option Addr} {n2 c2 : Nat} {A3 : Option Addr} {n3 c3 : Nat} {A4 : Option Addr} {n4 c4 : Nat} {A5 : Option Addr} {n5 c5 : Nat} (ha : JobR fz a A1 n1 c1 A2 n2 c2 A3 n3 c3 A4 n4 c4 A5 n5 c5)
    {b : Job} {B1 : Option Addr} {m1 d1 : Nat} {B2 : Option Addr} {m2 d2 : Nat} {B3 : Option Addr} {m3 d3 : Nat} {B4 : Option Addr} {m4 d4 : Nat} {B5 : Option Addr} {m5 d5 : Nat} (hb : JobR fz b B1 m1 d1 B2 m2 d2 B3 m3 d3 B4 m4 d4 B5 m5 d5) {ea eb : Bool} :
    QFn Try.prog 20 [.agg #[.string a.name, .int .i64 a.dur, .slice A1 n1 c1, .slice A2 n2 c2, .slice A3 n3 c3, .slice A4 n4 c4, .slice A5 n5 c5], .agg #[.string b.name, .int .i64 b.dur, .slice B1 m1 d1, .slice B2 m2 d2, .slice B3 m3 d3, .slice B4 m4 d4, .slice B5 m5 d5], .bool ea, .bool eb] fz (.bool (decide (InterP a ea b eb))) := by
  obtain ⟨W1, w1, x1, e1, s1⟩ : ∃ W w x, (if ea = true then Value.slice A5 n5 c5 else .slice A4 n4 c4) = .slice W w x ∧ Sl factL fz W w x (wrJ a ea) := by
    cases ea
    · exact ⟨_, _, _, rfl, ha.atStart⟩
    · exact ⟨_, _, _, rfl, ha.atEnd⟩
  obtain ⟨W2, w2, x2, e2, s2⟩ : ∃ W w x, (if eb = true then Value.slice B5 m5 d5 else .slice B4 m4 d4) = .slice W w x ∧ Sl factL fz W w x (wrJ b eb) := by
    cases eb
    · exact ⟨_, _, _, rfl, hb.atStart⟩
    · exact ⟨_, _, _, rfl, hb.atEnd⟩
  obtain ⟨W3, w3, x3, e3, s3⟩ : ∃ W w x, (if ea = true then Value.slice A3 n3 c3 else .slice A1 n1 c1) = .slice W w x ∧ Sl factL fz W w x (rdJ a ea) := by
    cases ea
    · exact ⟨_, _, _, rfl, ha.start⟩
    · exact ⟨_, _, _, rfl, ha.fin⟩
  obtain ⟨W4, w4, x4, e4, s4⟩ : ∃ W w x, (if eb = true then Value.slice B3 m3 d3 else .slice B1 m1 d1) = .slice W w x ∧ Sl factL fz W w x (rdJ b eb) := by
    cases eb
    · exact ⟨_, _, _, rfl, hb.start⟩
    · exact ⟨_, _, _, rfl, hb.fin⟩
  refine GFn.quiet ?_
  (refine GFn.of_wp Try.func20 rfl Try.ntmps20 rfl rfl (fun w0 => ?_))
  ((refine Wp.seq ?_; refine Wp.region ?_; refine Seq.stepK (by exact rfl) (k_box _ (by exact rfl) (by exact rfl) (fun _ => ?_)); refine Seq.stepK (by exact rfl) (k_box _ (by exact rfl) (by exact rfl) (fun _ => ?_)); refine Seq.q (by exact rfl) ?_; refine q_assign (by exact rfl) ?_; refine Seq.done ?_; refine Wp.seq ?_; refine Wp.draw (by decide +kernel) T.mixed (by kernel_rfl) (by kernel_rfl) ?_; refine QL.q ?_; refine q_load_own_all T 1 (by exact rfl) (by exact rfl) (by exact rfl) (by exact rfl) (by exact rfl) ?_; refine QL.q ?_; refine q_move (by exact rfl) ?_))
  (((refine QL.q ?_)); refine q_call (by exact rfl) (by exact rfl) (e1 ▸ writes_q) ?_)
  ((refine QL.q ?_; refine q_load_own_all T 0 (by exact rfl) (by exact rfl) (by exact rfl) (by exact rfl) (by exact rfl) ?_; refine QL.q ?_; refine q_move (by exact rfl) ?_))
  (((refine QL.q ?_)); refine q_call (by exact rfl) (by exact rfl) (e4 ▸ reads_q) ?_)
  (((refine QL.q ?_)); refine q_callB (by exact rfl) (by exact rfl) (meet_q s1 s4) (fun c1 => ?_) (fun c1 => ?_))
  · ((refine QL.q ?_; refine q_move (by exact rfl) ?_; refine QL.no (by exact rfl) ?_; refine QL.no (by exact rfl) ?_; refine QL.no (by exact rfl) ?_; refine QL.no (by exact rfl) ?_; refine QL.no (by exact rfl) ?_; refine QL.no (by exact rfl) ?_; refine QL.no (by exact rfl) ?_; refine QL.q ?_; refine q_pick_true (by exact rfl) (by exact rfl) ?_; refine QL.q ?_; refine q_move (by exact rfl) ?_; refine QL.no (by exact rfl) ?_; refine QL.no (by exact rfl) ?_; refine QL.no (by exact rfl) ?_; refine QL.no (by exact rfl) ?_; refine QL.no (by exact rfl) ?_; refine QL.no (by exact rfl) ?_; refine QL.no (by exact rfl) ?_; refine QL.q ?_; refine q_pick_true (by exact rfl) (by exact rfl) ?_; refine QL.q ?_; refine q_assign (by exact rfl) ?_; refine QL.done ?_; refine thenN ?_; refine Wp.ret ?_))
    (exact ret1 rfl rfl (by repeat (first | exact List.Sublist.refl _ | exact List.nil_sublist _ | refine List.Sublist.cons_cons _ ?_ | refine List.Sublist.cons _ ?_)) (bool_true (.inr (.inl (of_decide_eq_true c1)))))
  · ((refine QL.q ?_; refine q_move (by exact rfl) ?_; refine QL.yes (by exact rfl) ?_; refine q_load_own_all T 1 (by exact rfl) (by exact rfl) (by exact rfl) (by exact rfl) (by exact rfl) ?_; refine QL.yes (by exact rfl) ?_; refine q_move (by exact rfl) ?_))
    (((refine QL.yes (by exact rfl) ?_)); refine q_call (by exact rfl) (by exact rfl) (e1 ▸ writes_q) ?_)
    ((refine QL.yes (by exact rfl) ?_; refine q_load_own_all T 0 (by exact rfl) (by exact rfl) (by exact rfl) (by exact rfl) (by exact rfl) ?_; refine QL.yes (by exact rfl) ?_; refine q_move (by exact rfl) ?_))
    (((refine QL.yes (by exact rfl) ?_)); refine q_call (by exact rfl) (by exact rfl) (e2 ▸ writes_q) ?_)
    (((refine QL.yes (by exact rfl) ?_)); refine q_callB (by exact rfl) (by exact rfl) (meet_q s1 s2) (fun c2 => ?_) (fun c2 => ?_))
    · ((refine QL.q ?_; refine q_pick_false (by exact rfl) (by exact rfl) ?_; refine QL.q ?_; refine q_move (by exact rfl) ?_; refine QL.no (by exact rfl) ?_; refine QL.no (by exact rfl) ?_; refine QL.no (by exact rfl) ?_; refine QL.no (by exact rfl) ?_; refine QL.no (by exact rfl) ?_; refine QL.no (by exact rfl) ?_; refine QL.no (by exact rfl) ?_; refine QL.q ?_; refine q_pick_true (by exact rfl) (by exact rfl) ?_; refine QL.q ?_; refine q_assign (by exact rfl) ?_; refine QL.done ?_; refine thenN ?_; refine Wp.ret ?_))
      (exact ret1 rfl rfl (by repeat (first | exact List.Sublist.refl _ | exact List.nil_sublist _ | refine List.Sublist.cons_cons _ ?_ | refine List.Sublist.cons _ ?_)) (bool_true (.inl (of_decide_eq_true c2))))
    · ((refine QL.q ?_; refine q_pick_false (by exact rfl) (by exact rfl) ?_; refine QL.q ?_; refine q_move (by exact rfl) ?_; refine QL.yes (by exact rfl) ?_; refine q_load_own_all T 1 (by exact rfl) (by exact rfl) (by exact rfl) (by exact rfl) (by exact rfl) ?_; refine QL.yes (by exact rfl) ?_; refine q_move (by exact rfl) ?_))
      (((refine QL.yes (by exact rfl) ?_)); refine q_call (by exact rfl) (by exact rfl) (e3 ▸ reads_q) ?_)
      ((refine QL.yes (by exact rfl) ?_; refine q_load_own_all T 0 (by exact rfl) (by exact rfl) (by exact rfl) (by exact rfl) (by exact rfl) ?_; refine QL.yes (by exact rfl) ?_; refine q_move (by exact rfl) ?_))
      (((refine QL.yes (by exact rfl) ?_)); refine q_call (by exact rfl) (by exact rfl) (e2 ▸ writes_q) ?_)
      (((refine QL.yes (by exact rfl) ?_)); refine q_callB (by exact rfl) (by exact rfl) (meet_q s3 s2) (fun c3 => ?_) (fun c3 => ?_))
      · ((refine QL.q ?_; refine q_pick_false (by exact rfl) (by exact rfl) ?_; refine QL.q ?_; refine q_assign (by exact rfl) ?_; refine QL.done ?_; refine thenN ?_; refine Wp.ret ?_))
        (exact ret1 rfl rfl (by repeat (first | exact List.Sublist.refl _ | exact List.nil_sublist _ | refine List.Sublist.cons_cons _ ?_ | refine List.Sublist.cons _ ?_)) (bool_true (.inr (.inr (of_decide_eq_true c3)))))
      · ((refine QL.q ?_; refine q_pick_false (by exact rfl) (by exact rfl) ?_; refine QL.q ?_; refine q_assign (by exact rfl) ?_; refine QL.done ?_; refine thenN ?_; refine Wp.ret ?_))
        (exact ret1 rfl rfl (by repeat (first | exact List.Sublist.refl _ | exact List.nil_sublist _ | refine List.Sublist.cons_cons _ ?_ | refine List.Sublist.cons _ ?_)) (bool_false (fun h => by rcases h with h | h | h; exact of_decide_eq_false c2 h; exact of_decide_eq_false c1 h; exact of_decide_eq_false c3 h)))
end Go.Proofs.Ytfidaamledbmpaa
