/- The reference's happenings of a tick, walked. Conditions: the arguments read as data, the launches are of jobs of the task. -/
import Derived.Test.YtfidaamledbmpaaRefA
namespace Go.Proofs.Ytfidaamledbmpaa
open Go.Lx Go.RowKit
attribute [local instance 10] Classical.propDecidable

theorem at_bound {t : Temporal} {ls : List Launch} {tick : Int} (hn : t.jobs.length ≤ 1000) (hl : ls.length ≤ 4096) (k : Nat) {i a : Nat} (hi : i ≤ t.jobs.length) (ha : a ≤ ls.length) (e : Bool) :
    (((([true, false].take k).flatMap fun e => refE t ls tick e t.jobs.length) ++ refE t ls tick e i) ++ selI t ls tick e i a).length ≤ 20000000 := by
  have h1 := flat_len (fun e => refE t ls tick e t.jobs.length) 4096000 ([true, false].take k) (fun x _ => Nat.le_trans (refE_len t ls tick x _) (Nat.mul_le_mul hn hl))
  have h2 := Nat.le_trans (refE_len t ls tick e i) (Nat.mul_le_mul (Nat.le_trans hi hn) hl)
  have h3 := selI_len t ls tick e i a
  have h4 : ([true, false].take k).length ≤ 2 := List.length_take_le' _ _
  have h5 := Nat.mul_le_mul_right 4096000 h4
  rw [List.length_append, List.length_append]
  omega
theorem sl_hapsE {e : Nat} {v : Value} {n : Nat} {hs : List Hap} {b : HP} {fz' : FZ} (hO : OwnS e 2 v n (cellsH hs) b) (hf : ∀ p ∈ b, fz' p.1 = some p.2) (hn : n ≤ 140737488355328) (hi : ∀ h ∈ hs, I64 h.1) : ∃ A c, v = .slice A n c ∧ Sl hapL fz' A n c hs := by
  obtain ⟨A, c, h1, h2, h3, h4⟩ := hO.row hf
  have hl := hO.1
  rw [cellsH_len] at hl
  refine ⟨A, c, h1, h4.sl h2 h3 hn (by omega) fun i h hh => ⟨[.int .i64 h.1, .bool h.2], ⟨rfl, hi h (List.mem_of_getElem? hh)⟩, fun j u hu => ?_⟩⟩
  obtain ⟨g1, g2⟩ := cellsH_get hs i h hh
  match j, hu with
  | 0, hu => simp at hu; subst hu; exact g1
  | 1, hu => simp at hu; subst hu; exact g2
  | j + 2, hu => simp at hu

set_option maxHeartbeats 2000000 in
theorem at_f {fz : FZ} {t : Temporal} {A1 : Option Addr} {n1 c1 : Nat} {A2 : Option Addr} {n2 c2 : Nat} {A3 : Option Addr} {n3 c3 : Nat} {A4 : Option Addr} {n4 c4 : Nat} (ht : TempR fz t A1 n1 c1 A2 n2 c2 A3 n3 c3 A4 n4 c4) (h4 : n4 ≤ 1000)
    {B : Option Addr} {m d : Nat} {ls : List Launch} (hl : Sl launchL fz B m d ls) (hm : m ≤ 4096) (hd : DurOk t) (hok : ∀ l ∈ ls, LaunchOk t l) {tick : Int} :
    GFn Try.prog 57 [.agg #[.slice A1 n1 c1, .slice A2 n2 c2, .slice A3 n3 c3, .slice A4 n4 c4], .slice B m d, .int .i64 tick] fz [] fun v fz' H' => H' = [] ∧ ∃ A n c, v = .slice A n c ∧ Sl hapL fz' A n c (refAt t ls tick) := by
  (refine GFn.of_wp Try.func57 rfl Try.ntmps57 rfl rfl (fun w0 => ?_))
  have lm := hl.len
  have l4 := ht.jobs.len
  refine Wp.seq (Wp.region (Seq.stepK (by exact rfl) (k_box _ (by exact rfl) (by exact rfl) (fun gt => ?_))))
  ((refine Seq.q (by exact rfl) ?_; refine q_assign (by exact rfl) ?_; refine Seq.done ?_; refine Wp.seq ?_; refine Wp.region ?_; refine Seq.q (by exact rfl) ?_; refine q_assign (by exact rfl) ?_; refine Seq.done ?_; refine Wp.seq ?_; refine Wp.seq ?_; refine Wp.region ?_))
  (refine Seq.stepK (by exact rfl) (k_buildSlice T (cs := [.bool true, .bool false]) (by exact rfl) (by exact rfl) (by exact rfl) (by exact rfl) (by exact rfl) (by exact rfl) (by exact rfl) (by exact rfl) (fun gb => ?_)))
  refine Seq.freeze (by exact rfl) (fun fz2 hle2 hx2 => ?_)
  replace ht := ht.mono hle2
  replace hl := hl.mono hle2
  obtain ⟨Ab, cb, hv, hb⟩ := sl_bools (zs := [true, false]) (n := 2) (fz' := fz2) (OwnS.of_block (g := gb) (e := 4) (size := 1) (n := 2) (cs := [.bool true, .bool false]) rfl (by decide)) (by simpa using hx2) (by omega)
  injection hv with hv1 hv2 hv3
  subst hv1 hv3
  ((refine Seq.q (by exact rfl) ?_; refine q_len_slice T (by exact rfl) (by exact rfl) (by exact rfl) ?_; refine Seq.q (by exact rfl) ?_; refine q_move (by exact rfl) ?_; refine Seq.done ?_; refine Wp.block ?_))
  refine Wp.loop (fun q σ fz' H' => ∃ (k : Nat) (v : Value) (Hs : HP) (xs : List Hap), k ≤ 2 ∧ q = 2 - k ∧ σ = [(15, .int .i64 k), (14, .int .i64 2), (13, .slice (some ⟨gb, 0, none⟩) 2 2), (7, v), (1, .slice B m d), (2, .int .i64 tick), (3, .pointer (some ⟨gt, 0, none⟩))] ∧ fz2 = fz' ∧
      H' = (gt, .cells #[.slice A1 n1 c1, .slice A2 n2 c2, .slice A3 n3 c3, .slice A4 n4 c4] 26 (0, 0)) :: Hs ∧ OwnS 97 2 v xs.length (cellsH xs) Hs ∧ (∀ h ∈ xs, I64 h.1) ∧ xs = (([true, false].take k).flatMap fun e => refE t ls tick e t.jobs.length))
    ⟨0, _, _, [], Nat.zero_le _, rfl, rfl, rfl, rfl, OwnS.nil _ _, by simp, rfl⟩ (by repeat (first | exact trivial | refine ⟨by exact rfl, ?_⟩)) (by repeat (first | exact List.Sublist.refl _ | exact List.nil_sublist _ | refine List.Sublist.cons_cons _ ?_ | refine List.Sublist.cons _ ?_)) ?_
  rintro q σ fz' H' ⟨k, v, Hs, xs1, hk, rfl, rfl, rfl, rfl, hO, hi1, he1⟩
  ((refine Wp.seq ?_; refine Wp.region ?_))
  (((refine Seq.q (by exact rfl) ?_)); (refine q_lssD (by exact rfl) (by exact rfl) (fun hlt => ?_) (fun hge => ?_)))
  · ((refine Seq.done ?_; refine Wp.seq ?_; refine Wp.cond_true (by exact rfl) ?_; refine Wp.skip ?_; refine thenN ?_; refine Wp.seq ?_; refine Wp.block ?_; refine Wp.seq ?_; refine Wp.region ?_))
    obtain ⟨e, hee⟩ := get_some (l := [true, false]) (k := k) (by simp; omega)
    (((refine Seq.q (by exact rfl) ?_)); refine q_index T k (by exact rfl) (by exact rfl) (by exact rfl) (by exact rfl) (by exact rfl) (by exact rfl) hb (by first | rfl | omega) hee (fun p hp => ?_))
    (((refine Seq.q (by exact rfl) ?_)); refine q_load_bool T (by exact rfl) (by exact rfl) (by exact rfl) hp ?_)
    ((refine Seq.q (by exact rfl) ?_; refine q_assign (by exact rfl) ?_; refine Seq.done ?_; refine Wp.seq ?_; refine Wp.region ?_; refine Seq.q (by exact rfl) ?_; refine q_fieldAddr T (by exact rfl) (by exact rfl) (by exact rfl) (by exact rfl) (by exact rfl) (by exact rfl) ?_; refine Seq.q (by exact rfl) ?_; refine q_load_own T 0 (by exact rfl) (by exact rfl) (by exact rfl) (by exact rfl) (by exact rfl) ?_; refine Seq.q (by exact rfl) ?_; refine q_len_slice T (by exact rfl) (by exact rfl) (by exact rfl) ?_; refine Seq.q (by exact rfl) ?_; refine q_move (by exact rfl) ?_; refine Seq.done ?_; refine Wp.block ?_))
    refine Wp.loop (fun q σ fz' H' => ∃ (i : Nat) (v : Value) (Hs : HP) (xs : List Hap), i ≤ n4 ∧ q = n4 - i ∧ σ = [(22, .int .i64 i), (21, .int .i64 n4), (9, .bool e), (15, .int .i64 k), (14, .int .i64 2), (13, .slice (some ⟨gb, 0, none⟩) 2 2), (7, v), (1, .slice B m d), (2, .int .i64 tick), (3, .pointer (some ⟨gt, 0, none⟩))] ∧ fz2 = fz' ∧
        H' = (gt, .cells #[.slice A1 n1 c1, .slice A2 n2 c2, .slice A3 n3 c3, .slice A4 n4 c4] 26 (0, 0)) :: Hs ∧ OwnS 97 2 v xs.length (cellsH xs) Hs ∧ (∀ h ∈ xs, I64 h.1) ∧ xs = xs1 ++ refE t ls tick e i)
      ⟨0, v, Hs, xs1, Nat.zero_le _, rfl, rfl, rfl, rfl, hO, hi1, by simp [refE]⟩ (by repeat (first | exact trivial | refine ⟨by exact rfl, ?_⟩)) (by repeat (first | exact List.Sublist.refl _ | exact List.nil_sublist _ | refine List.Sublist.cons_cons _ ?_ | refine List.Sublist.cons _ ?_)) ?_
    clear hO hi1
    rintro q σ fz' H' ⟨i, v, Hs, xs2, hi, rfl, rfl, rfl, rfl, hO, hi2, he2⟩
    ((refine Wp.seq ?_; refine Wp.region ?_))
    (((refine Seq.q (by exact rfl) ?_)); (refine q_lssD (by exact rfl) (by exact rfl) (fun hlt2 => ?_) (fun hge2 => ?_)))
    · ((refine Seq.done ?_; refine Wp.seq ?_; refine Wp.cond_true (by exact rfl) ?_; refine Wp.skip ?_; refine thenN ?_; refine Wp.seq ?_; refine Wp.block ?_; refine Wp.seq ?_; refine Wp.region ?_; refine Seq.q (by exact rfl) ?_; refine q_move (by exact rfl) ?_; refine Seq.q (by exact rfl) ?_; refine q_assign (by exact rfl) ?_; refine Seq.done ?_; refine Wp.seq ?_; refine Wp.region ?_; refine Seq.q (by exact rfl) ?_; refine q_move (by exact rfl) ?_; refine Seq.q (by exact rfl) ?_; refine q_len_slice T (by exact rfl) (by exact rfl) (by exact rfl) ?_; refine Seq.q (by exact rfl) ?_; refine q_move (by exact rfl) ?_; refine Seq.done ?_; refine Wp.block ?_))
      refine Wp.loop (fun q σ fz' H' => ∃ (a : Nat) (v : Value) (Hs : HP) (xs : List Hap), a ≤ m ∧ q = m - a ∧ σ = [(27, .int .i64 a), (26, .int .i64 m), (25, .slice B m d), (10, .int .i64 i), (22, .int .i64 i), (21, .int .i64 n4), (9, .bool e), (15, .int .i64 k), (14, .int .i64 2), (13, .slice (some ⟨gb, 0, none⟩) 2 2), (7, v), (1, .slice B m d), (2, .int .i64 tick), (3, .pointer (some ⟨gt, 0, none⟩))] ∧ fz2 = fz' ∧
          H' = (gt, .cells #[.slice A1 n1 c1, .slice A2 n2 c2, .slice A3 n3 c3, .slice A4 n4 c4] 26 (0, 0)) :: Hs ∧ OwnS 97 2 v xs.length (cellsH xs) Hs ∧ (∀ h ∈ xs, I64 h.1) ∧ xs = xs2 ++ selI t ls tick e i a)
        ⟨0, v, Hs, xs2, Nat.zero_le _, rfl, rfl, rfl, rfl, hO, hi2, by simp [selI]⟩ (by repeat (first | exact trivial | refine ⟨by exact rfl, ?_⟩)) (by repeat (first | exact List.Sublist.refl _ | exact List.nil_sublist _ | refine List.Sublist.cons_cons _ ?_ | refine List.Sublist.cons _ ?_)) ?_
      clear hO hi2
      rintro q σ fz' H' ⟨a, v, Hs, xs3, ha, rfl, rfl, rfl, rfl, hO, hi3, he3⟩
      have hbd : xs3.length ≤ 20000000 := by rw [he3, he2, he1]; exact at_bound (by omega) (by omega) k (by omega) (by omega) e
      ((refine Wp.seq ?_; refine Wp.region ?_))
      (((refine Seq.q (by exact rfl) ?_)); (refine q_lssD (by exact rfl) (by exact rfl) (fun hlt3 => ?_) (fun hge3 => ?_)))
      · ((refine Seq.done ?_; refine Wp.seq ?_; refine Wp.cond_true (by exact rfl) ?_; refine Wp.skip ?_; refine thenN ?_; refine Wp.seq ?_; refine Wp.block ?_; refine Wp.seq ?_; refine Wp.region ?_; refine Seq.q (by exact rfl) ?_; refine q_move (by exact rfl) ?_))
        obtain ⟨x, hx⟩ := get_some (l := ls) (k := a) (by omega)
        (((refine Seq.q (by exact rfl) ?_)); refine q_index T a (by exact rfl) (by exact rfl) (by exact rfl) (by exact rfl) (by exact rfl) (by exact rfl) hl (by first | rfl | omega) hx (fun p2 hp2 => ?_))
        (((refine Seq.q (by exact rfl) ?_)); refine q_load_at T (by exact rfl) (by exact rfl) (by exact rfl) hp2 (by exact rfl) ?_)
        rintro _ ⟨rfl, i1, i2⟩
        refine Seq.stepK (by exact rfl) (k_alloc T (by exact rfl) (by exact rfl) (fun gx => ?_))
        have hlo := hok x (List.mem_of_getElem? hx)
        obtain ⟨kk, j, hkk, hj, hend⟩ := launch_job hlo
        have hbd2 := end_bd hlo hd
        have hat := hlo.2.2
        have miss : ¬ hitP t tick e i x → xs3 = xs2 ++ selI t ls tick e i (a + 1) := fun hn => by rw [selI_succ hx, if_neg hn, List.append_nil]; exact he3
        have hits : hitP t tick e i x → xs3 ++ [((a : Int), e)] = xs2 ++ selI t ls tick e i (a + 1) := fun hn => by rw [selI_succ hx, if_pos hn, he3, List.append_assoc]
        have hia : ∀ h ∈ xs3 ++ [((a : Int), e)], I64 h.1 := fun h hh => by
          rcases List.mem_append.1 hh with hh | hh
          · exact hi3 h hh
          · simp at hh; subst hh; unfold I64; simp only; omega
        ((refine Seq.q (by exact rfl) ?_; refine q_assign (by exact rfl) ?_; refine Seq.stepK0 (k_store0 T (by exact rfl) (by exact rfl) (by exact rfl) (by exact rfl) (by exact rfl) (by exact rfl) ?_); refine Seq.done ?_; refine Wp.seq ?_; refine Wp.region ?_; refine Seq.q (by exact rfl) ?_; refine q_fieldAddr T (by exact rfl) (by exact rfl) (by exact rfl) (by exact rfl) (by exact rfl) (by exact rfl) ?_; refine Seq.q (by exact rfl) ?_; refine q_load_own T 0 (by exact rfl) (by exact rfl) (by exact rfl) (by exact rfl) (by exact rfl) ?_; refine Seq.q (by exact rfl) ?_; refine q_move (by exact rfl) ?_))
        (((refine Seq.q (by exact rfl) ?_)); (refine q_eqlD (by exact rfl) (by exact rfl) (fun q1 => ?_) (fun q1 => ?_)))
        · cases e with
          | true =>
            ((refine Seq.q (by exact rfl) ?_; refine q_move (by exact rfl) ?_; refine Seq.guard_yes (by exact rfl) (by exact rfl) (by exact rfl) ?_; refine q_move (by exact rfl) ?_; refine Seq.guard_yes (by exact rfl) (by exact rfl) (by exact rfl) ?_; refine q_move (by exact rfl) ?_; refine Seq.guard_yes (by exact rfl) (by exact rfl) (by exact rfl) ?_; refine q_load_own_all T 1 (by exact rfl) (by exact rfl) (by exact rfl) (by exact rfl) (by exact rfl) ?_; refine Seq.guard_yes (by exact rfl) (by exact rfl) (by exact rfl) ?_; refine q_load_own_all T 0 (by exact rfl) (by exact rfl) (by exact rfl) (by exact rfl) (by exact rfl) ?_))
            (((refine Seq.guard_yes (by exact rfl) (by exact rfl) (by exact rfl) ?_)); refine q_call (by exact rfl) (by exact rfl) (end_q ht hkk hj (by unfold I64; omega)) ?_)
            ((refine Seq.guard_yes (by exact rfl) (by exact rfl) (by exact rfl) ?_; refine q_move (by exact rfl) ?_))
            rw [← hend]
            (((refine Seq.guard_yes (by exact rfl) (by exact rfl) (by exact rfl) ?_)); (refine q_eqlD (by exact rfl) (by exact rfl) (fun q2 => ?_) (fun q2 => ?_)))
            · ((refine Seq.guard_yes (by exact rfl) (by exact rfl) (by exact rfl) ?_; refine q_pick_true (by exact rfl) (by exact rfl) ?_; refine Seq.guard_yes (by exact rfl) (by exact rfl) (by exact rfl) ?_; refine q_move (by exact rfl) ?_; refine Seq.guard_no (by exact rfl) (by exact rfl) (by exact rfl) (by exact rfl) ?_; refine Seq.guard_no (by exact rfl) (by exact rfl) (by exact rfl) (by exact rfl) ?_; refine Seq.guard_no (by exact rfl) (by exact rfl) (by exact rfl) (by exact rfl) ?_; refine Seq.guard_off (by exact rfl) (by exact rfl) (by exact rfl) ?_; refine Seq.guard_off (by exact rfl) (by exact rfl) (by exact rfl) ?_; refine Seq.guard_off (by exact rfl) (by exact rfl) (by exact rfl) ?_; refine Seq.guard_off (by exact rfl) (by exact rfl) (by exact rfl) ?_; refine Seq.guard_no (by exact rfl) (by exact rfl) (by exact rfl) (by exact rfl) ?_; refine Seq.guard_yes (by exact rfl) (by exact rfl) (by exact rfl) ?_; refine q_pick_true (by exact rfl) (by exact rfl) ?_; refine Seq.q (by exact rfl) ?_; refine q_pick_true (by exact rfl) (by exact rfl) ?_; refine Seq.done ?_; refine Wp.cond_true (by exact rfl) ?_; refine Wp.region ?_; refine Seq.q (by exact rfl) ?_; refine q_move (by exact rfl) ?_; refine Seq.q (by exact rfl) ?_; refine q_move (by exact rfl) ?_; refine Seq.q (by exact rfl) ?_; refine q_move (by exact rfl) ?_; refine Seq.q (by exact rfl) ?_; refine q_build T (by exact rfl) (by exact rfl) (by exact rfl) (by exact rfl) (by exact rfl) ?_))
              (refine Seq.stepK (by exact rfl) (k_buildSlice T (cs := [_, _]) (by exact rfl) (by exact rfl) (by exact rfl) (by exact rfl) (by exact rfl) (by exact rfl) (by exact rfl) (by exact rfl) (fun gn => ?_)))
              refine Seq.stepK (by exact rfl) (k_append T (Hr := [_, _, _]) (by exact rfl) (by exact rfl) (by exact rfl) (by exact rfl) (by exact rfl) (by exact rfl) (by exact rfl) (List.Perm.refl _) hO rfl (src_own (.head _)) (by intro u hu; simp at hu; rcases hu with rfl | rfl <;> rfl) (by show _ * 16 ≤ _; omega) (by omega) (fun v1 b1 hO1 => ?_))
              ((refine Seq.q (by exact rfl) ?_; refine q_assign (by exact rfl) ?_; refine Seq.end_ ?_; refine blkN ?_; refine thenN ?_; refine Wp.region ?_; refine Seq.q (by exact rfl) ?_; refine q_add (by exact rfl) (by exact rfl) (wrap_in (by omega)) ?_; refine Seq.q (by exact rfl) ?_; refine q_move (by exact rfl) ?_; refine Seq.end_ ?_))
              exact loopN ⟨a + 1, v1, b1, xs3 ++ [((a : Int), true)], by omega, rfl, rfl, rfl, rfl, by rw [cellsH_snoc, List.length_append]; exact hO1, hia, hits ⟨q1, .inl ⟨rfl, q2⟩⟩⟩ (by omega) (by repeat (first | exact trivial | refine ⟨by exact rfl, ?_⟩)) (by repeat (first | exact List.Sublist.refl _ | exact List.nil_sublist _ | refine List.Sublist.cons_cons _ ?_ | refine List.Sublist.cons _ ?_))
            · ((refine Seq.guard_yes (by exact rfl) (by exact rfl) (by exact rfl) ?_; refine q_pick_true (by exact rfl) (by exact rfl) ?_; refine Seq.guard_yes (by exact rfl) (by exact rfl) (by exact rfl) ?_; refine q_move (by exact rfl) ?_; refine Seq.guard_yes (by exact rfl) (by exact rfl) (by exact rfl) ?_; refine q_move (by exact rfl) ?_; refine Seq.guard_yes (by exact rfl) (by exact rfl) (by exact rfl) ?_; refine q_not (by exact rfl) ?_; refine Seq.guard_yes (by exact rfl) (by exact rfl) (by exact rfl) ?_; refine q_move (by exact rfl) ?_; refine Seq.guard_no (by exact rfl) (by exact rfl) (by exact rfl) (by exact rfl) ?_; refine Seq.guard_no (by exact rfl) (by exact rfl) (by exact rfl) (by exact rfl) ?_; refine Seq.guard_no (by exact rfl) (by exact rfl) (by exact rfl) (by exact rfl) ?_; refine Seq.guard_no (by exact rfl) (by exact rfl) (by exact rfl) (by exact rfl) ?_; refine Seq.guard_yes (by exact rfl) (by exact rfl) (by exact rfl) ?_; refine q_pick_false (by exact rfl) (by exact rfl) ?_; refine Seq.guard_yes (by exact rfl) (by exact rfl) (by exact rfl) ?_; refine q_pick_false (by exact rfl) (by exact rfl) ?_; refine Seq.q (by exact rfl) ?_; refine q_pick_true (by exact rfl) (by exact rfl) ?_; refine Seq.done ?_; refine Wp.cond_false (by exact rfl) ?_; refine Wp.skip ?_; refine blkN ?_; refine thenN ?_; refine Wp.region ?_; refine Seq.q (by exact rfl) ?_; refine q_add (by exact rfl) (by exact rfl) (wrap_in (by omega)) ?_; refine Seq.q (by exact rfl) ?_; refine q_move (by exact rfl) ?_; refine Seq.end_ ?_))
              exact loopN ⟨a + 1, v, Hs, xs3, by omega, rfl, rfl, rfl, rfl, hO, hi3, miss (fun hc => by rcases hc.2 with ⟨_, h⟩ | ⟨h, _⟩; exact q2 h; cases h)⟩ (by omega) (by repeat (first | exact trivial | refine ⟨by exact rfl, ?_⟩)) (by repeat (first | exact List.Sublist.refl _ | exact List.nil_sublist _ | refine List.Sublist.cons_cons _ ?_ | refine List.Sublist.cons _ ?_))
          | false =>
            ((refine Seq.q (by exact rfl) ?_; refine q_move (by exact rfl) ?_; refine Seq.guard_yes (by exact rfl) (by exact rfl) (by exact rfl) ?_; refine q_move (by exact rfl) ?_; refine Seq.guard_yes (by exact rfl) (by exact rfl) (by exact rfl) ?_; refine q_move (by exact rfl) ?_; refine Seq.guard_no (by exact rfl) (by exact rfl) (by exact rfl) (by exact rfl) ?_; refine Seq.guard_no (by exact rfl) (by exact rfl) (by exact rfl) (by exact rfl) ?_; refine Seq.guard_no (by exact rfl) (by exact rfl) (by exact rfl) (by exact rfl) ?_; refine Seq.guard_no (by exact rfl) (by exact rfl) (by exact rfl) (by exact rfl) ?_; refine Seq.guard_no (by exact rfl) (by exact rfl) (by exact rfl) (by exact rfl) ?_; refine Seq.guard_yes (by exact rfl) (by exact rfl) (by exact rfl) ?_; refine q_pick_false (by exact rfl) (by exact rfl) ?_; refine Seq.guard_yes (by exact rfl) (by exact rfl) (by exact rfl) ?_; refine q_move (by exact rfl) ?_; refine Seq.guard_yes (by exact rfl) (by exact rfl) (by exact rfl) ?_; refine q_move (by exact rfl) ?_; refine Seq.guard_yes (by exact rfl) (by exact rfl) (by exact rfl) ?_; refine q_not (by exact rfl) ?_; refine Seq.guard_yes (by exact rfl) (by exact rfl) (by exact rfl) ?_; refine q_move (by exact rfl) ?_; refine Seq.guard_yes (by exact rfl) (by exact rfl) (by exact rfl) ?_; refine q_fieldAddr T (by exact rfl) (by exact rfl) (by exact rfl) (by exact rfl) (by exact rfl) (by exact rfl) ?_; refine Seq.guard_yes (by exact rfl) (by exact rfl) (by exact rfl) ?_; refine q_load_own T 0 (by exact rfl) (by exact rfl) (by exact rfl) (by exact rfl) (by exact rfl) ?_; refine Seq.guard_yes (by exact rfl) (by exact rfl) (by exact rfl) ?_; refine q_move (by exact rfl) ?_))
            (((refine Seq.guard_yes (by exact rfl) (by exact rfl) (by exact rfl) ?_)); (refine q_eqlD (by exact rfl) (by exact rfl) (fun q2 => ?_) (fun q2 => ?_)))
            · ((refine Seq.guard_yes (by exact rfl) (by exact rfl) (by exact rfl) ?_; refine q_pick_true (by exact rfl) (by exact rfl) ?_; refine Seq.guard_yes (by exact rfl) (by exact rfl) (by exact rfl) ?_; refine q_pick_false (by exact rfl) (by exact rfl) ?_; refine Seq.q (by exact rfl) ?_; refine q_pick_true (by exact rfl) (by exact rfl) ?_; refine Seq.done ?_; refine Wp.cond_true (by exact rfl) ?_; refine Wp.region ?_; refine Seq.q (by exact rfl) ?_; refine q_move (by exact rfl) ?_; refine Seq.q (by exact rfl) ?_; refine q_move (by exact rfl) ?_; refine Seq.q (by exact rfl) ?_; refine q_move (by exact rfl) ?_; refine Seq.q (by exact rfl) ?_; refine q_build T (by exact rfl) (by exact rfl) (by exact rfl) (by exact rfl) (by exact rfl) ?_))
              (refine Seq.stepK (by exact rfl) (k_buildSlice T (cs := [_, _]) (by exact rfl) (by exact rfl) (by exact rfl) (by exact rfl) (by exact rfl) (by exact rfl) (by exact rfl) (by exact rfl) (fun gn => ?_)))
              refine Seq.stepK (by exact rfl) (k_append T (Hr := [_, _, _]) (by exact rfl) (by exact rfl) (by exact rfl) (by exact rfl) (by exact rfl) (by exact rfl) (by exact rfl) (List.Perm.refl _) hO rfl (src_own (.head _)) (by intro u hu; simp at hu; rcases hu with rfl | rfl <;> rfl) (by show _ * 16 ≤ _; omega) (by omega) (fun v1 b1 hO1 => ?_))
              ((refine Seq.q (by exact rfl) ?_; refine q_assign (by exact rfl) ?_; refine Seq.end_ ?_; refine blkN ?_; refine thenN ?_; refine Wp.region ?_; refine Seq.q (by exact rfl) ?_; refine q_add (by exact rfl) (by exact rfl) (wrap_in (by omega)) ?_; refine Seq.q (by exact rfl) ?_; refine q_move (by exact rfl) ?_; refine Seq.end_ ?_))
              exact loopN ⟨a + 1, v1, b1, xs3 ++ [((a : Int), false)], by omega, rfl, rfl, rfl, rfl, by rw [cellsH_snoc, List.length_append]; exact hO1, hia, hits ⟨q1, .inr ⟨rfl, q2⟩⟩⟩ (by omega) (by repeat (first | exact trivial | refine ⟨by exact rfl, ?_⟩)) (by repeat (first | exact List.Sublist.refl _ | exact List.nil_sublist _ | refine List.Sublist.cons_cons _ ?_ | refine List.Sublist.cons _ ?_))
            · ((refine Seq.guard_yes (by exact rfl) (by exact rfl) (by exact rfl) ?_; refine q_pick_true (by exact rfl) (by exact rfl) ?_; refine Seq.guard_yes (by exact rfl) (by exact rfl) (by exact rfl) ?_; refine q_pick_false (by exact rfl) (by exact rfl) ?_; refine Seq.q (by exact rfl) ?_; refine q_pick_true (by exact rfl) (by exact rfl) ?_; refine Seq.done ?_; refine Wp.cond_false (by exact rfl) ?_; refine Wp.skip ?_; refine blkN ?_; refine thenN ?_; refine Wp.region ?_; refine Seq.q (by exact rfl) ?_; refine q_add (by exact rfl) (by exact rfl) (wrap_in (by omega)) ?_; refine Seq.q (by exact rfl) ?_; refine q_move (by exact rfl) ?_; refine Seq.end_ ?_))
              exact loopN ⟨a + 1, v, Hs, xs3, by omega, rfl, rfl, rfl, rfl, hO, hi3, miss (fun hc => by rcases hc.2 with ⟨h, _⟩ | ⟨_, h⟩; cases h; exact q2 h)⟩ (by omega) (by repeat (first | exact trivial | refine ⟨by exact rfl, ?_⟩)) (by repeat (first | exact List.Sublist.refl _ | exact List.nil_sublist _ | refine List.Sublist.cons_cons _ ?_ | refine List.Sublist.cons _ ?_))
        · ((refine Seq.q (by exact rfl) ?_; refine q_move (by exact rfl) ?_; refine Seq.guard_no (by exact rfl) (by exact rfl) (by exact rfl) (by exact rfl) ?_; refine Seq.guard_no (by exact rfl) (by exact rfl) (by exact rfl) (by exact rfl) ?_; refine Seq.guard_off (by exact rfl) (by exact rfl) (by exact rfl) ?_; refine Seq.guard_off (by exact rfl) (by exact rfl) (by exact rfl) ?_; refine Seq.guard_off (by exact rfl) (by exact rfl) (by exact rfl) ?_; refine Seq.guard_off (by exact rfl) (by exact rfl) (by exact rfl) ?_; refine Seq.guard_off (by exact rfl) (by exact rfl) (by exact rfl) ?_; refine Seq.guard_no (by exact rfl) (by exact rfl) (by exact rfl) (by exact rfl) ?_; refine Seq.guard_no (by exact rfl) (by exact rfl) (by exact rfl) (by exact rfl) ?_; refine Seq.guard_off (by exact rfl) (by exact rfl) (by exact rfl) ?_; refine Seq.guard_off (by exact rfl) (by exact rfl) (by exact rfl) ?_; refine Seq.guard_off (by exact rfl) (by exact rfl) (by exact rfl) ?_; refine Seq.guard_off (by exact rfl) (by exact rfl) (by exact rfl) ?_; refine Seq.guard_off (by exact rfl) (by exact rfl) (by exact rfl) ?_; refine Seq.guard_off (by exact rfl) (by exact rfl) (by exact rfl) ?_; refine Seq.guard_off (by exact rfl) (by exact rfl) (by exact rfl) ?_; refine Seq.guard_off (by exact rfl) (by exact rfl) (by exact rfl) ?_; refine Seq.guard_no (by exact rfl) (by exact rfl) (by exact rfl) (by exact rfl) ?_; refine Seq.q (by exact rfl) ?_; refine q_pick_false (by exact rfl) (by exact rfl) ?_; refine Seq.done ?_; refine Wp.cond_false (by exact rfl) ?_; refine Wp.skip ?_; refine blkN ?_; refine thenN ?_; refine Wp.region ?_; refine Seq.q (by exact rfl) ?_; refine q_add (by exact rfl) (by exact rfl) (wrap_in (by omega)) ?_; refine Seq.q (by exact rfl) ?_; refine q_move (by exact rfl) ?_; refine Seq.end_ ?_))
          exact loopN ⟨a + 1, v, Hs, xs3, by omega, rfl, rfl, rfl, rfl, hO, hi3, miss (fun hc => q1 hc.1)⟩ (by omega) (by repeat (first | exact trivial | refine ⟨by exact rfl, ?_⟩)) (by repeat (first | exact List.Sublist.refl _ | exact List.nil_sublist _ | refine List.Sublist.cons_cons _ ?_ | refine List.Sublist.cons _ ?_))
      · ((refine Seq.done ?_; refine Wp.seq ?_; refine Wp.cond_false (by exact rfl) ?_; refine Wp.exit ?_; refine thenX ?_; refine loopX ?_; refine blkX (by exact rfl) ?_; refine blkN ?_; refine thenN ?_; refine Wp.region ?_; refine Seq.q (by exact rfl) ?_; refine q_add (by exact rfl) (by exact rfl) (wrap_in (by omega)) ?_; refine Seq.q (by exact rfl) ?_; refine q_move (by exact rfl) ?_; refine Seq.end_ ?_))
        have ham : a = ls.length := by omega
        subst ham
        exact loopN ⟨i + 1, v, Hs, xs3, by omega, rfl, rfl, rfl, rfl, hO, hi3, by rw [he3, he2, refE_succ, List.append_assoc]⟩ (by omega) (by repeat (first | exact trivial | refine ⟨by exact rfl, ?_⟩)) (by repeat (first | exact List.Sublist.refl _ | exact List.nil_sublist _ | refine List.Sublist.cons_cons _ ?_ | refine List.Sublist.cons _ ?_))
    · ((refine Seq.done ?_; refine Wp.seq ?_; refine Wp.cond_false (by exact rfl) ?_; refine Wp.exit ?_; refine thenX ?_; refine loopX ?_; refine blkX (by exact rfl) ?_; refine blkN ?_; refine thenN ?_; refine Wp.region ?_; refine Seq.q (by exact rfl) ?_; refine q_add (by exact rfl) (by exact rfl) (wrap_in (by omega)) ?_; refine Seq.q (by exact rfl) ?_; refine q_move (by exact rfl) ?_; refine Seq.end_ ?_))
      have hi4 : i = t.jobs.length := by omega
      subst hi4
      exact loopN ⟨k + 1, v, Hs, xs2, by omega, rfl, rfl, rfl, rfl, hO, hi2, by rw [List.take_add_one, hee, List.flatMap_append, ← he1, he2]; simp⟩ (by omega) (by repeat (first | exact trivial | refine ⟨by exact rfl, ?_⟩)) (by repeat (first | exact List.Sublist.refl _ | exact List.nil_sublist _ | refine List.Sublist.cons_cons _ ?_ | refine List.Sublist.cons _ ?_))
  · ((refine Seq.done ?_; refine Wp.seq ?_; refine Wp.cond_false (by exact rfl) ?_; refine Wp.exit ?_; refine thenX ?_; refine loopX ?_; refine blkX (by exact rfl) ?_; refine thenN ?_; refine Wp.seq ?_; refine Wp.region ?_; refine Seq.q (by exact rfl) ?_; refine q_move (by exact rfl) ?_; refine Seq.q (by exact rfl) ?_; refine q_assign (by exact rfl) ?_; refine Seq.done ?_; refine Wp.ret ?_))
    refine ret1F rfl rfl (fun fz3 hle3 hf => ?_)
    have hbd : xs1.length ≤ 20000000 := by
      have := at_bound (t := t) (ls := ls) (tick := tick) (by omega) (by omega) k (i := 0) (a := 0) (by omega) (by omega) true
      rw [he1]
      simpa [refE, selI] using this
    obtain ⟨A, c, hv, hsl⟩ := sl_hapsE hO (fun p hp => hf p (by simp [hp])) (by omega) hi1
    refine ⟨rfl, A, _, c, hv, ?_⟩
    have : k = 2 := by omega
    subst this
    rw [show refAt t ls tick = xs1 from he1.symm]
    exact hsl
end Go.Proofs.Ytfidaamledbmpaa
