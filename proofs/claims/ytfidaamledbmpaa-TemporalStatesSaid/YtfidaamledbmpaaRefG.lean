/- The reference's ticks. Conditions: the arguments read as data, the launches are of jobs of the task. -/
import Derived.Test.YtfidaamledbmpaaRefF
namespace Go.Proofs.Ytfidaamledbmpaa
open Go.Lx Go.RowKit
attribute [local instance 10] Classical.propDecidable

/-- the least candidate behind 'last', -1 if there is none -/
def NextR (cs : List Int) (last next : Int) : Prop := (next = -1 ∧ ∀ x ∈ cs, x ≤ last) ∨ (last < next ∧ next ∈ cs ∧ ∀ x ∈ cs, last < x → next ≤ x)
theorem next_take {cs : List Int} {last next x : Int} (h : NextR cs last next) (h1 : last < x) (h2 : next < 0 ∨ x < next) (h0 : ∀ y ∈ cs, 0 ≤ y) : NextR (cs ++ [x]) last x := by
  refine .inr ⟨h1, by simp, fun y hy hl => ?_⟩
  rcases List.mem_append.1 hy with hy | hy
  · rcases h with ⟨_, h⟩ | ⟨h3, h4, h5⟩
    · have := h y hy; omega
    · have := h5 y hy hl; have := h0 next h4; omega
  · simp at hy; omega
theorem next_keep {cs : List Int} {last next x : Int} (h : NextR cs last next) (hn : ¬ (last < x ∧ (next < 0 ∨ x < next))) : NextR (cs ++ [x]) last next := by
  rcases h with ⟨h1, h2⟩ | ⟨h3, h4, h5⟩
  · refine .inl ⟨h1, fun y hy => ?_⟩
    rcases List.mem_append.1 hy with hy | hy
    · exact h2 y hy
    · simp at hy; omega
  · refine .inr ⟨h3, by simp [h4], fun y hy hl => ?_⟩
    rcases List.mem_append.1 hy with hy | hy
    · exact h5 y hy hl
    · simp at hy; omega
def candM (t : Temporal) (ls : List Launch) : List Int := ls.flatMap fun l => [l.at_, endM t l]
theorem cand_mem {t : Temporal} {ls : List Launch} {x : Int} : x ∈ candM t ls ↔ hapsM t ls x ≠ [] := by
  rw [haps_ne]
  simp [candM]

set_option maxHeartbeats 2000000 in
theorem ticks_f {fz : FZ} {t : Temporal} {A1 : Option Addr} {n1 c1 : Nat} {A2 : Option Addr} {n2 c2 : Nat} {A3 : Option Addr} {n3 c3 : Nat} {A4 : Option Addr} {n4 c4 : Nat} (ht : TempR fz t A1 n1 c1 A2 n2 c2 A3 n3 c3 A4 n4 c4)
    {B : Option Addr} {m d : Nat} {ls : List Launch} (hl : Sl launchL fz B m d ls) (hm : m ≤ 4096) (hd : DurOk t) (hok : ∀ l ∈ ls, LaunchOk t l) :
    GFn Try.prog 35 [.agg #[.slice A1 n1 c1, .slice A2 n2 c2, .slice A3 n3 c3, .slice A4 n4 c4], .slice B m d] fz [] fun v fz' H' => H' = [] ∧ ∃ A n c ticks, v = .slice A n c ∧ Sl intL fz' A n c ticks ∧ TicksR t ls ticks := by
  (refine GFn.of_wp Try.func35 rfl Try.ntmps35 rfl rfl (fun w0 => ?_))
  have lm := hl.len
  refine Wp.seq (Wp.region (Seq.stepK (by exact rfl) (k_box _ (by exact rfl) (by exact rfl) (fun gt => ?_))))
  ((refine Seq.q (by exact rfl) ?_; refine q_assign (by exact rfl) ?_; refine Seq.done ?_; refine Wp.seq ?_; refine Wp.region ?_; refine Seq.q (by exact rfl) ?_; refine q_assign (by exact rfl) ?_; refine Seq.done ?_; refine Wp.seq ?_; refine Wp.region ?_; refine Seq.q (by exact rfl) ?_; refine q_assign (by exact rfl) ?_; refine Seq.done ?_; refine Wp.block ?_))
  have hc0 : ∀ x ∈ candM t ls, 0 ≤ x ∧ x ≤ 1048638 := fun x hx => by
    obtain ⟨l, hl', hx⟩ := haps_ne.1 (cand_mem.1 hx)
    have h1 := hok l hl'
    have h2 := end_bd h1 hd
    have h3 := h1.2.2
    omega
  have hct : ∀ k, ∀ x ∈ candM t (ls.take k), 0 ≤ x := fun k x hx => by
    obtain ⟨l, hl', hx⟩ := List.mem_flatMap.1 hx
    exact (hc0 x (List.mem_flatMap.2 ⟨l, List.mem_of_mem_take hl', hx⟩)).1
  refine Wp.loop (fun q σ fz' H' => ∃ (last : Int) (v : Value) (Hs : HP) (out : List Int), q = (1048700 - last).toNat ∧ σ = [(6, .int .i64 last), (5, v), (1, .slice B m d), (2, .pointer (some ⟨gt, 0, none⟩))] ∧ fz = fz' ∧
      H' = (gt, .cells #[.slice A1 n1 c1, .slice A2 n2 c2, .slice A3 n3 c3, .slice A4 n4 c4] 26 (0, 0)) :: Hs ∧ OwnS 3 1 v out.length (out.map (Value.int .i64)) Hs ∧ -1 ≤ last ∧ last ≤ 1048638 ∧ out.Pairwise (· < ·) ∧ (∀ x, x ∈ out ↔ x ∈ candM t ls ∧ x ≤ last) ∧ (out.length : Int) ≤ last + 1)
    ⟨-1, _, [], [], rfl, rfl, rfl, rfl, OwnS.nil _ _, by omega, by omega, .nil, fun x => ⟨fun h => (by cases h), fun h => absurd (hc0 x h.1).1 (by omega)⟩, by simp⟩ (by repeat (first | exact trivial | refine ⟨by exact rfl, ?_⟩)) (by repeat (first | exact List.Sublist.refl _ | exact List.nil_sublist _ | refine List.Sublist.cons_cons _ ?_ | refine List.Sublist.cons _ ?_)) ?_
  rintro q σ fz' H' ⟨last, v, Hs, out, rfl, rfl, rfl, rfl, hO, hl1, hl2, hp, hmem, hlen⟩
  ((refine Wp.block ?_; refine Wp.seq ?_; refine Wp.region ?_; refine Seq.q (by exact rfl) ?_; refine q_assign (by exact rfl) ?_; refine Seq.done ?_; refine Wp.seq ?_; refine Wp.seq ?_; refine Wp.region ?_; refine Seq.q (by exact rfl) ?_; refine q_move (by exact rfl) ?_; refine Seq.q (by exact rfl) ?_; refine q_len_slice T (by exact rfl) (by exact rfl) (by exact rfl) ?_; refine Seq.q (by exact rfl) ?_; refine q_move (by exact rfl) ?_; refine Seq.done ?_; refine Wp.block ?_))
  refine Wp.loop (fun q σ fz' H' => ∃ (k : Nat) (next : Int), k ≤ m ∧ q = m - k ∧ σ = [(14, .int .i64 k), (13, .int .i64 m), (12, .slice B m d), (7, .int .i64 next), (6, .int .i64 last), (5, v), (1, .slice B m d), (2, .pointer (some ⟨gt, 0, none⟩))] ∧ fz = fz' ∧
      H' = (gt, .cells #[.slice A1 n1 c1, .slice A2 n2 c2, .slice A3 n3 c3, .slice A4 n4 c4] 26 (0, 0)) :: Hs ∧ NextR (candM t (ls.take k)) last next)
    ⟨0, -1, Nat.zero_le _, rfl, rfl, rfl, rfl, .inl ⟨rfl, by simp [candM]⟩⟩ (by repeat (first | exact trivial | refine ⟨by exact rfl, ?_⟩)) (by repeat (first | exact List.Sublist.refl _ | exact List.nil_sublist _ | refine List.Sublist.cons_cons _ ?_ | refine List.Sublist.cons _ ?_)) ?_
  rintro q σ fz' H' ⟨k, next, hk, rfl, rfl, rfl, rfl, hN⟩
  ((refine Wp.seq ?_; refine Wp.region ?_))
  (((refine Seq.q (by exact rfl) ?_)); (refine q_lssD (by exact rfl) (by exact rfl) (fun hlt => ?_) (fun hge => ?_)))
  · ((refine Seq.done ?_; refine Wp.seq ?_; refine Wp.cond_true (by exact rfl) ?_; refine Wp.skip ?_; refine thenN ?_; refine Wp.seq ?_; refine Wp.block ?_; refine Wp.seq ?_; refine Wp.region ?_))
    obtain ⟨l, hx⟩ := get_some (l := ls) (k := k) (by omega)
    have hlo := hok l (List.mem_of_getElem? hx)
    obtain ⟨kk, j, hkk, hj, he⟩ := launch_job hlo
    have hbd := end_bd hlo hd
    have hat := hlo.2.2
    (((refine Seq.q (by exact rfl) ?_)); refine q_index T k (by exact rfl) (by exact rfl) (by exact rfl) (by exact rfl) (by exact rfl) (by exact rfl) hl (by first | rfl | omega) hx (fun p hp => ?_))
    (((refine Seq.q (by exact rfl) ?_)); refine q_load_at T (by exact rfl) (by exact rfl) (by exact rfl) hp (by exact rfl) ?_)
    rintro _ ⟨rfl, i1, i2⟩
    refine Seq.stepK (by exact rfl) (k_alloc T (by exact rfl) (by exact rfl) (fun g => ?_))
    ((refine Seq.stepK0 (k_store0 T (by exact rfl) (by exact rfl) (by exact rfl) (by exact rfl) (by exact rfl) (by exact rfl) ?_); refine Seq.done ?_; refine Wp.seq ?_))
    refine Wp.drawK (Hq := [_, _]) T.mixed (by kernel_rfl) (by kernel_rfl) (by repeat (first | exact List.Sublist.refl _ | exact List.nil_sublist _ | refine List.Sublist.cons_cons _ ?_ | refine List.Sublist.cons _ ?_)) ?_
    ((refine QK.q ?_; refine q_fieldAddr T (by exact rfl) (by exact rfl) (by exact rfl) (by exact rfl) (by exact rfl) (by exact rfl) ?_; refine QK.q ?_; refine q_load_own T 0 (by exact rfl) (by exact rfl) (by exact rfl) (by exact rfl) (by exact rfl) ?_; refine QK.q ?_; refine q_load_own_all T 1 (by exact rfl) (by exact rfl) (by exact rfl) (by exact rfl) (by exact rfl) ?_; refine QK.q ?_; refine q_load_own_all T 0 (by exact rfl) (by exact rfl) (by exact rfl) (by exact rfl) (by exact rfl) ?_))
    (((refine QK.q ?_)); refine q_call (by exact rfl) (by exact rfl) (end_q ht hkk hj (by unfold I64; omega)) ?_)
    rw [← he]
    refine QK.later (QK.later ?_)
    ((refine QK.q ?_; refine q_move (by exact rfl) ?_))
    refine QK.done ⟨by kernel_rfl, ?_⟩
    refine Ch.soft (k_buildSlice T (cs := [_, _]) (by exact rfl) (by exact rfl) (by exact rfl) (by exact rfl) (by exact rfl) (by exact rfl) (by exact rfl) (by exact rfl) (fun gb => ⟨(⟨Le.refl _, by intro p hp; simp only [List.mem_cons, List.not_mem_nil, or_false] at hp; rcases hp with rfl | rfl <;> simp⟩), ?_⟩))
    refine Ch.soft (DoesQ.does (q_len_slice T (by exact rfl) (by exact rfl) (by exact rfl) ⟨(⟨Le.refl _, by intro p hp; simp only [List.mem_cons, List.not_mem_nil, or_false] at hp; rcases hp with rfl | rfl <;> simp⟩), ?_⟩))
    refine Ch.done ?_
    ((refine thenN ?_; refine Wp.block ?_))
    have hct' : ∀ i : Nat, ∀ x ∈ candM t (ls.take k) ++ [l.at_, endM t l].take i, 0 ≤ x := fun i x hx' => by
      rcases List.mem_append.1 hx' with h | h
      · exact hct k x h
      · have := List.mem_of_mem_take h
        simp at this
        omega
    refine Wp.loop (fun q σ fz' H' => ∃ (i : Nat) (next : Int), i ≤ 2 ∧ q = 2 - i ∧ σ = [(25, .int .i64 i), (24, .int .i64 2), (23, .slice (some ⟨gb, 0, none⟩) 2 2), (14, .int .i64 k), (13, .int .i64 m), (12, .slice B m d), (7, .int .i64 next), (6, .int .i64 last), (5, v), (1, .slice B m d), (2, .pointer (some ⟨gt, 0, none⟩))] ∧ fz = fz' ∧
        H' = (gb, .cells #[.int .i64 l.at_, .int .i64 (endM t l)] 3 (0, 0)) :: (gt, .cells #[.slice A1 n1 c1, .slice A2 n2 c2, .slice A3 n3 c3, .slice A4 n4 c4] 26 (0, 0)) :: Hs ∧ NextR (candM t (ls.take k) ++ [l.at_, endM t l].take i) last next)
      ⟨0, next, Nat.zero_le _, rfl, rfl, rfl, rfl, by simpa using hN⟩ (by repeat (first | exact trivial | refine ⟨by exact rfl, ?_⟩)) (by repeat (first | exact List.Sublist.refl _ | exact List.nil_sublist _ | refine List.Sublist.cons_cons _ ?_ | refine List.Sublist.cons _ ?_)) ?_
    clear hN
    rintro q σ fz' H' ⟨i, next, hi, rfl, rfl, rfl, rfl, hN⟩
    ((refine Wp.seq ?_; refine Wp.region ?_))
    (((refine Seq.q (by exact rfl) ?_)); (refine q_lssD (by exact rfl) (by exact rfl) (fun hlt2 => ?_) (fun hge2 => ?_)))
    · have take' : ∀ y, last < y → (next < 0 ∨ y < next) → [l.at_, endM t l].take (i + 1) = [l.at_, endM t l].take i ++ [y] → NextR (candM t (ls.take k) ++ [l.at_, endM t l].take (i + 1)) last y := fun y h1 h2 h3 => by
        rw [h3, ← List.append_assoc]
        exact next_take hN h1 h2 (hct' i)
      have keep' : ∀ y, ¬ (last < y ∧ (next < 0 ∨ y < next)) → [l.at_, endM t l].take (i + 1) = [l.at_, endM t l].take i ++ [y] → NextR (candM t (ls.take k) ++ [l.at_, endM t l].take (i + 1)) last next := fun y h1 h3 => by
        rw [h3, ← List.append_assoc]
        exact next_keep hN h1
      rcases (show i = 0 ∨ i = 1 by omega) with rfl | rfl
      · ((refine Seq.done ?_; refine Wp.seq ?_; refine Wp.cond_true (by exact rfl) ?_; refine Wp.skip ?_; refine thenN ?_; refine Wp.seq ?_; refine Wp.block ?_; refine Wp.seq ?_; refine Wp.region ?_))
        ((refine Seq.q (by exact rfl) ?_)); refine q_index_own T (by exact rfl) (by exact rfl) (by exact rfl) (by exact rfl) (by exact rfl) (by exact rfl) (by decide) (by decide) ?_
        ((refine Seq.q (by exact rfl) ?_; refine q_load_own T 0 (by exact rfl) (by exact rfl) (by exact rfl) (by exact rfl) (by exact rfl) ?_; refine Seq.q (by exact rfl) ?_; refine q_assign (by exact rfl) ?_; refine Seq.done ?_; refine Wp.seq ?_; refine Wp.region ?_; refine Seq.q (by exact rfl) ?_; refine q_move (by exact rfl) ?_; refine Seq.q (by exact rfl) ?_; refine q_move (by exact rfl) ?_))
        (((refine Seq.q (by exact rfl) ?_)); (refine q_gtrD (by exact rfl) (by exact rfl) (fun q1 => ?_) (fun q1 => ?_)))
        · ((refine Seq.q (by exact rfl) ?_; refine q_move (by exact rfl) ?_; refine Seq.guard_yes (by exact rfl) (by exact rfl) (by exact rfl) ?_; refine q_move (by exact rfl) ?_))
          (((refine Seq.guard_yes (by exact rfl) (by exact rfl) (by exact rfl) ?_)); (refine q_lssD (by exact rfl) (by exact rfl) (fun q2 => ?_) (fun q2 => ?_)))
          · ((refine Seq.guard_yes (by exact rfl) (by exact rfl) (by exact rfl) ?_; refine q_move (by exact rfl) ?_; refine Seq.guard_no (by exact rfl) (by exact rfl) (by exact rfl) (by exact rfl) ?_; refine Seq.guard_no (by exact rfl) (by exact rfl) (by exact rfl) (by exact rfl) ?_; refine Seq.guard_no (by exact rfl) (by exact rfl) (by exact rfl) (by exact rfl) ?_; refine Seq.guard_yes (by exact rfl) (by exact rfl) (by exact rfl) ?_; refine q_pick_true (by exact rfl) (by exact rfl) ?_; refine Seq.q (by exact rfl) ?_; refine q_pick_true (by exact rfl) (by exact rfl) ?_; refine Seq.done ?_; refine Wp.cond_true (by exact rfl) ?_; refine Wp.region ?_; refine Seq.q (by exact rfl) ?_; refine q_move (by exact rfl) ?_; refine Seq.q (by exact rfl) ?_; refine q_assign (by exact rfl) ?_; refine Seq.end_ ?_; refine blkN ?_; refine thenN ?_; refine Wp.region ?_; refine Seq.q (by exact rfl) ?_; refine q_add (by exact rfl) (by exact rfl) (wrap_in (by omega)) ?_; refine Seq.q (by exact rfl) ?_; refine q_move (by exact rfl) ?_; refine Seq.end_ ?_))
            exact loopN ⟨1, _, by omega, rfl, rfl, rfl, rfl, take' l.at_ q1 (.inl q2) rfl⟩ (by omega) (by repeat (first | exact trivial | refine ⟨by exact rfl, ?_⟩)) (by repeat (first | exact List.Sublist.refl _ | exact List.nil_sublist _ | refine List.Sublist.cons_cons _ ?_ | refine List.Sublist.cons _ ?_))
          · ((refine Seq.guard_yes (by exact rfl) (by exact rfl) (by exact rfl) ?_; refine q_move (by exact rfl) ?_; refine Seq.guard_yes (by exact rfl) (by exact rfl) (by exact rfl) ?_; refine q_move (by exact rfl) ?_; refine Seq.guard_yes (by exact rfl) (by exact rfl) (by exact rfl) ?_; refine q_move (by exact rfl) ?_))
            (((refine Seq.guard_yes (by exact rfl) (by exact rfl) (by exact rfl) ?_)); (refine q_lssD (by exact rfl) (by exact rfl) (fun q3 => ?_) (fun q3 => ?_)))
            · ((refine Seq.guard_yes (by exact rfl) (by exact rfl) (by exact rfl) ?_; refine q_pick_false (by exact rfl) (by exact rfl) ?_; refine Seq.q (by exact rfl) ?_; refine q_pick_true (by exact rfl) (by exact rfl) ?_; refine Seq.done ?_; refine Wp.cond_true (by exact rfl) ?_; refine Wp.region ?_; refine Seq.q (by exact rfl) ?_; refine q_move (by exact rfl) ?_; refine Seq.q (by exact rfl) ?_; refine q_assign (by exact rfl) ?_; refine Seq.end_ ?_; refine blkN ?_; refine thenN ?_; refine Wp.region ?_; refine Seq.q (by exact rfl) ?_; refine q_add (by exact rfl) (by exact rfl) (wrap_in (by omega)) ?_; refine Seq.q (by exact rfl) ?_; refine q_move (by exact rfl) ?_; refine Seq.end_ ?_))
              exact loopN ⟨1, _, by omega, rfl, rfl, rfl, rfl, take' l.at_ q1 (.inr q3) rfl⟩ (by omega) (by repeat (first | exact trivial | refine ⟨by exact rfl, ?_⟩)) (by repeat (first | exact List.Sublist.refl _ | exact List.nil_sublist _ | refine List.Sublist.cons_cons _ ?_ | refine List.Sublist.cons _ ?_))
            · ((refine Seq.guard_yes (by exact rfl) (by exact rfl) (by exact rfl) ?_; refine q_pick_false (by exact rfl) (by exact rfl) ?_; refine Seq.q (by exact rfl) ?_; refine q_pick_true (by exact rfl) (by exact rfl) ?_; refine Seq.done ?_; refine Wp.cond_false (by exact rfl) ?_; refine Wp.skip ?_; refine blkN ?_; refine thenN ?_; refine Wp.region ?_; refine Seq.q (by exact rfl) ?_; refine q_add (by exact rfl) (by exact rfl) (wrap_in (by omega)) ?_; refine Seq.q (by exact rfl) ?_; refine q_move (by exact rfl) ?_; refine Seq.end_ ?_))
              exact loopN ⟨1, _, by omega, rfl, rfl, rfl, rfl, keep' l.at_ (fun hc => by omega) rfl⟩ (by omega) (by repeat (first | exact trivial | refine ⟨by exact rfl, ?_⟩)) (by repeat (first | exact List.Sublist.refl _ | exact List.nil_sublist _ | refine List.Sublist.cons_cons _ ?_ | refine List.Sublist.cons _ ?_))
        · ((refine Seq.q (by exact rfl) ?_; refine q_move (by exact rfl) ?_; refine Seq.guard_no (by exact rfl) (by exact rfl) (by exact rfl) (by exact rfl) ?_; refine Seq.guard_no (by exact rfl) (by exact rfl) (by exact rfl) (by exact rfl) ?_; refine Seq.guard_no (by exact rfl) (by exact rfl) (by exact rfl) (by exact rfl) ?_; refine Seq.guard_off (by exact rfl) (by exact rfl) (by exact rfl) ?_; refine Seq.guard_off (by exact rfl) (by exact rfl) (by exact rfl) ?_; refine Seq.guard_off (by exact rfl) (by exact rfl) (by exact rfl) ?_; refine Seq.guard_no (by exact rfl) (by exact rfl) (by exact rfl) (by exact rfl) ?_; refine Seq.q (by exact rfl) ?_; refine q_pick_false (by exact rfl) (by exact rfl) ?_; refine Seq.done ?_; refine Wp.cond_false (by exact rfl) ?_; refine Wp.skip ?_; refine blkN ?_; refine thenN ?_; refine Wp.region ?_; refine Seq.q (by exact rfl) ?_; refine q_add (by exact rfl) (by exact rfl) (wrap_in (by omega)) ?_; refine Seq.q (by exact rfl) ?_; refine q_move (by exact rfl) ?_; refine Seq.end_ ?_))
          exact loopN ⟨1, _, by omega, rfl, rfl, rfl, rfl, keep' l.at_ (fun hc => q1 hc.1) rfl⟩ (by omega) (by repeat (first | exact trivial | refine ⟨by exact rfl, ?_⟩)) (by repeat (first | exact List.Sublist.refl _ | exact List.nil_sublist _ | refine List.Sublist.cons_cons _ ?_ | refine List.Sublist.cons _ ?_))
      · ((refine Seq.done ?_; refine Wp.seq ?_; refine Wp.cond_true (by exact rfl) ?_; refine Wp.skip ?_; refine thenN ?_; refine Wp.seq ?_; refine Wp.block ?_; refine Wp.seq ?_; refine Wp.region ?_))
        ((refine Seq.q (by exact rfl) ?_)); refine q_index_own T (by exact rfl) (by exact rfl) (by exact rfl) (by exact rfl) (by exact rfl) (by exact rfl) (by decide) (by decide) ?_
        ((refine Seq.q (by exact rfl) ?_; refine q_load_own T 0 (by exact rfl) (by exact rfl) (by exact rfl) (by exact rfl) (by exact rfl) ?_; refine Seq.q (by exact rfl) ?_; refine q_assign (by exact rfl) ?_; refine Seq.done ?_; refine Wp.seq ?_; refine Wp.region ?_; refine Seq.q (by exact rfl) ?_; refine q_move (by exact rfl) ?_; refine Seq.q (by exact rfl) ?_; refine q_move (by exact rfl) ?_))
        (((refine Seq.q (by exact rfl) ?_)); (refine q_gtrD (by exact rfl) (by exact rfl) (fun q1 => ?_) (fun q1 => ?_)))
        · ((refine Seq.q (by exact rfl) ?_; refine q_move (by exact rfl) ?_; refine Seq.guard_yes (by exact rfl) (by exact rfl) (by exact rfl) ?_; refine q_move (by exact rfl) ?_))
          (((refine Seq.guard_yes (by exact rfl) (by exact rfl) (by exact rfl) ?_)); (refine q_lssD (by exact rfl) (by exact rfl) (fun q2 => ?_) (fun q2 => ?_)))
          · ((refine Seq.guard_yes (by exact rfl) (by exact rfl) (by exact rfl) ?_; refine q_move (by exact rfl) ?_; refine Seq.guard_no (by exact rfl) (by exact rfl) (by exact rfl) (by exact rfl) ?_; refine Seq.guard_no (by exact rfl) (by exact rfl) (by exact rfl) (by exact rfl) ?_; refine Seq.guard_no (by exact rfl) (by exact rfl) (by exact rfl) (by exact rfl) ?_; refine Seq.guard_yes (by exact rfl) (by exact rfl) (by exact rfl) ?_; refine q_pick_true (by exact rfl) (by exact rfl) ?_; refine Seq.q (by exact rfl) ?_; refine q_pick_true (by exact rfl) (by exact rfl) ?_; refine Seq.done ?_; refine Wp.cond_true (by exact rfl) ?_; refine Wp.region ?_; refine Seq.q (by exact rfl) ?_; refine q_move (by exact rfl) ?_; refine Seq.q (by exact rfl) ?_; refine q_assign (by exact rfl) ?_; refine Seq.end_ ?_; refine blkN ?_; refine thenN ?_; refine Wp.region ?_; refine Seq.q (by exact rfl) ?_; refine q_add (by exact rfl) (by exact rfl) (wrap_in (by omega)) ?_; refine Seq.q (by exact rfl) ?_; refine q_move (by exact rfl) ?_; refine Seq.end_ ?_))
            exact loopN ⟨2, _, by omega, rfl, rfl, rfl, rfl, take' (endM t l) q1 (.inl q2) rfl⟩ (by omega) (by repeat (first | exact trivial | refine ⟨by exact rfl, ?_⟩)) (by repeat (first | exact List.Sublist.refl _ | exact List.nil_sublist _ | refine List.Sublist.cons_cons _ ?_ | refine List.Sublist.cons _ ?_))
          · ((refine Seq.guard_yes (by exact rfl) (by exact rfl) (by exact rfl) ?_; refine q_move (by exact rfl) ?_; refine Seq.guard_yes (by exact rfl) (by exact rfl) (by exact rfl) ?_; refine q_move (by exact rfl) ?_; refine Seq.guard_yes (by exact rfl) (by exact rfl) (by exact rfl) ?_; refine q_move (by exact rfl) ?_))
            (((refine Seq.guard_yes (by exact rfl) (by exact rfl) (by exact rfl) ?_)); (refine q_lssD (by exact rfl) (by exact rfl) (fun q3 => ?_) (fun q3 => ?_)))
            · ((refine Seq.guard_yes (by exact rfl) (by exact rfl) (by exact rfl) ?_; refine q_pick_false (by exact rfl) (by exact rfl) ?_; refine Seq.q (by exact rfl) ?_; refine q_pick_true (by exact rfl) (by exact rfl) ?_; refine Seq.done ?_; refine Wp.cond_true (by exact rfl) ?_; refine Wp.region ?_; refine Seq.q (by exact rfl) ?_; refine q_move (by exact rfl) ?_; refine Seq.q (by exact rfl) ?_; refine q_assign (by exact rfl) ?_; refine Seq.end_ ?_; refine blkN ?_; refine thenN ?_; refine Wp.region ?_; refine Seq.q (by exact rfl) ?_; refine q_add (by exact rfl) (by exact rfl) (wrap_in (by omega)) ?_; refine Seq.q (by exact rfl) ?_; refine q_move (by exact rfl) ?_; refine Seq.end_ ?_))
              exact loopN ⟨2, _, by omega, rfl, rfl, rfl, rfl, take' (endM t l) q1 (.inr q3) rfl⟩ (by omega) (by repeat (first | exact trivial | refine ⟨by exact rfl, ?_⟩)) (by repeat (first | exact List.Sublist.refl _ | exact List.nil_sublist _ | refine List.Sublist.cons_cons _ ?_ | refine List.Sublist.cons _ ?_))
            · ((refine Seq.guard_yes (by exact rfl) (by exact rfl) (by exact rfl) ?_; refine q_pick_false (by exact rfl) (by exact rfl) ?_; refine Seq.q (by exact rfl) ?_; refine q_pick_true (by exact rfl) (by exact rfl) ?_; refine Seq.done ?_; refine Wp.cond_false (by exact rfl) ?_; refine Wp.skip ?_; refine blkN ?_; refine thenN ?_; refine Wp.region ?_; refine Seq.q (by exact rfl) ?_; refine q_add (by exact rfl) (by exact rfl) (wrap_in (by omega)) ?_; refine Seq.q (by exact rfl) ?_; refine q_move (by exact rfl) ?_; refine Seq.end_ ?_))
              exact loopN ⟨2, _, by omega, rfl, rfl, rfl, rfl, keep' (endM t l) (fun hc => by omega) rfl⟩ (by omega) (by repeat (first | exact trivial | refine ⟨by exact rfl, ?_⟩)) (by repeat (first | exact List.Sublist.refl _ | exact List.nil_sublist _ | refine List.Sublist.cons_cons _ ?_ | refine List.Sublist.cons _ ?_))
        · ((refine Seq.q (by exact rfl) ?_; refine q_move (by exact rfl) ?_; refine Seq.guard_no (by exact rfl) (by exact rfl) (by exact rfl) (by exact rfl) ?_; refine Seq.guard_no (by exact rfl) (by exact rfl) (by exact rfl) (by exact rfl) ?_; refine Seq.guard_no (by exact rfl) (by exact rfl) (by exact rfl) (by exact rfl) ?_; refine Seq.guard_off (by exact rfl) (by exact rfl) (by exact rfl) ?_; refine Seq.guard_off (by exact rfl) (by exact rfl) (by exact rfl) ?_; refine Seq.guard_off (by exact rfl) (by exact rfl) (by exact rfl) ?_; refine Seq.guard_no (by exact rfl) (by exact rfl) (by exact rfl) (by exact rfl) ?_; refine Seq.q (by exact rfl) ?_; refine q_pick_false (by exact rfl) (by exact rfl) ?_; refine Seq.done ?_; refine Wp.cond_false (by exact rfl) ?_; refine Wp.skip ?_; refine blkN ?_; refine thenN ?_; refine Wp.region ?_; refine Seq.q (by exact rfl) ?_; refine q_add (by exact rfl) (by exact rfl) (wrap_in (by omega)) ?_; refine Seq.q (by exact rfl) ?_; refine q_move (by exact rfl) ?_; refine Seq.end_ ?_))
          exact loopN ⟨2, _, by omega, rfl, rfl, rfl, rfl, keep' (endM t l) (fun hc => q1 hc.1) rfl⟩ (by omega) (by repeat (first | exact trivial | refine ⟨by exact rfl, ?_⟩)) (by repeat (first | exact List.Sublist.refl _ | exact List.nil_sublist _ | refine List.Sublist.cons_cons _ ?_ | refine List.Sublist.cons _ ?_))
    · ((refine Seq.done ?_; refine Wp.seq ?_; refine Wp.cond_false (by exact rfl) ?_; refine Wp.exit ?_; refine thenX ?_; refine loopX ?_; refine blkX (by exact rfl) ?_; refine blkN ?_; refine thenN ?_; refine Wp.region ?_; refine Seq.q (by exact rfl) ?_; refine q_add (by exact rfl) (by exact rfl) (wrap_in (by omega)) ?_; refine Seq.q (by exact rfl) ?_; refine q_move (by exact rfl) ?_; refine Seq.end_ ?_))
      have h2 : i = 2 := by omega
      subst h2
      refine loopN ⟨k + 1, next, by omega, rfl, rfl, rfl, rfl, ?_⟩ (by omega) (by repeat (first | exact trivial | refine ⟨by exact rfl, ?_⟩)) (by repeat (first | exact List.Sublist.refl _ | exact List.nil_sublist _ | refine List.Sublist.cons_cons _ ?_ | refine List.Sublist.cons _ ?_))
      rw [List.take_add_one, hx]
      simpa [candM] using hN
  · rw [List.take_of_length_le (by omega)] at hN
    have hout : ∀ x ∈ out, I64 x := fun x hx => by
      have := hc0 x ((hmem x).1 hx).1
      unfold I64
      omega
    ((refine Seq.done ?_; refine Wp.seq ?_; refine Wp.cond_false (by exact rfl) ?_; refine Wp.exit ?_; refine thenX ?_; refine loopX ?_; refine blkX (by exact rfl) ?_; refine thenN ?_; refine Wp.seq ?_; refine Wp.seq ?_; refine Wp.region ?_; refine Seq.q (by exact rfl) ?_; refine q_move (by exact rfl) ?_))
    (((refine Seq.q (by exact rfl) ?_)); (refine q_lssD (by exact rfl) (by exact rfl) (fun q1 => ?_) (fun q1 => ?_)))
    · ((refine Seq.done ?_; refine Wp.cond_true (by exact rfl) ?_; refine Wp.seq ?_; refine Wp.region ?_; refine Seq.q (by exact rfl) ?_; refine q_move (by exact rfl) ?_; refine Seq.q (by exact rfl) ?_; refine q_assign (by exact rfl) ?_; refine Seq.done ?_; refine Wp.ret ?_; refine thenR ?_; refine blkR ?_; refine loopR ?_; refine blkR ?_))
      refine ret1F rfl rfl (fun fz3 hle3 hf => ?_)
      obtain ⟨A, c, hv, hsl⟩ := sl_ints hO (fun p hp => hf p (by simp [hp])) (by omega) hout
      refine ⟨rfl, A, _, c, out, hv, hsl, hp, fun x => ?_⟩
      rw [hmem, ← cand_mem]
      refine ⟨fun h => h.1, fun h => ⟨h, ?_⟩⟩
      rcases hN with ⟨_, h2⟩ | ⟨h3, _, _⟩
      · exact h2 x h
      · omega
    · ((refine Seq.done ?_; refine Wp.cond_false (by exact rfl) ?_; refine Wp.skip ?_; refine thenN ?_; refine Wp.seq ?_; refine Wp.region ?_; refine Seq.q (by exact rfl) ?_; refine q_move (by exact rfl) ?_; refine Seq.q (by exact rfl) ?_; refine q_move (by exact rfl) ?_))
      obtain ⟨h3, h4, h5⟩ : last < next ∧ next ∈ candM t ls ∧ ∀ x ∈ candM t ls, last < x → next ≤ x := by
        rcases hN with ⟨h2, _⟩ | h
        · omega
        · exact h
      have hb := hc0 next h4
      (refine Seq.stepK (by exact rfl) (k_buildSlice T (cs := [_]) (by exact rfl) (by exact rfl) (by exact rfl) (by exact rfl) (by exact rfl) (by exact rfl) (by exact rfl) (by exact rfl) (fun gb => ?_)))
      refine Seq.stepK (by exact rfl) (k_append T (Hr := [_, _]) (by exact rfl) (by exact rfl) (by exact rfl) (by exact rfl) (by exact rfl) (by exact rfl) (by exact rfl) (List.Perm.refl _) hO rfl (src_own (.head _)) (by intro u hu; simp at hu; subst hu; rfl) (by show _ * 8 ≤ _; omega) (by omega) (fun v1 b1 hO1 => ?_))
      ((refine Seq.q (by exact rfl) ?_; refine q_assign (by exact rfl) ?_; refine Seq.done ?_; refine Wp.region ?_; refine Seq.q (by exact rfl) ?_; refine q_move (by exact rfl) ?_; refine Seq.q (by exact rfl) ?_; refine q_assign (by exact rfl) ?_; refine Seq.end_ ?_; refine blkN ?_))
      refine loopN ⟨next, v1, b1, out ++ [next], rfl, rfl, rfl, rfl, ?_, by omega, by omega, ?_, fun x => ?_, ?_⟩ (by omega) (by repeat (first | exact trivial | refine ⟨by exact rfl, ?_⟩)) (by repeat (first | exact List.Sublist.refl _ | exact List.nil_sublist _ | refine List.Sublist.cons_cons _ ?_ | refine List.Sublist.cons _ ?_))
      · rw [List.map_append, List.length_append]; exact hO1
      · rw [List.pairwise_append]
        refine ⟨hp, by simp, fun x hx y hy => ?_⟩
        simp at hy
        have := ((hmem x).1 hx).2
        omega
      · rw [List.mem_append, hmem]
        simp only [List.mem_singleton]
        constructor
        · rintro (⟨h6, h7⟩ | rfl)
          · exact ⟨h6, by omega⟩
          · exact ⟨h4, by omega⟩
        · rintro ⟨h6, h7⟩
          by_cases h8 : last < x
          · exact .inr (by have := h5 x h6 h8; omega)
          · exact .inl ⟨h6, by omega⟩
      · simp; omega
end Go.Proofs.Ytfidaamledbmpaa
