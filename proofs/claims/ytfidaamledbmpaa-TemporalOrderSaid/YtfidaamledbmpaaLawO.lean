/- TemporalOrder, walked: it returns true, whatever the task, the launches and the ticks. Conditions: the arguments read as data. -/
import Derived.Test.YtfidaamledbmpaaWalkL
import Derived.Test.YtfidaamledbmpaaPlainB
import Derived.Test.YtfidaamledbmpaaCut
namespace Go.Proofs.Ytfidaamledbmpaa
open Go.Lx Go.RowKit
attribute [local instance 10] Classical.propDecidable

def cellsL (ls : List Launch) : List Value := ls.flatMap fun l => [.int .i64 l.at_, .int .i64 l.job]
theorem cellsL_len (ls : List Launch) : (cellsL ls).length = ls.length * 2 := by
  induction ls with
  | nil => rfl
  | cons h r ih => simp only [cellsL, List.flatMap_cons, List.length_append, List.length_cons, List.length_nil] at *; omega
theorem cellsL_append (a b : List Launch) : cellsL (a ++ b) = cellsL a ++ cellsL b := by simp [cellsL]
theorem cellsL_get : ∀ (ls : List Launch) (i : Nat) (v : Value), (cellsL ls)[i]? = some v → ∃ (q r : Nat) (l : Launch), i = q * 2 + r ∧ ls[q]? = some l ∧ ([Value.int .i64 l.at_, Value.int .i64 l.job] : List Value)[r]? = some v
  | [], i, v, h => by simp [cellsL] at h
  | l :: r, i, v, h => by
    match i, h with
    | 0, h => exact ⟨0, 0, l, rfl, rfl, by simpa [cellsL] using h⟩
    | 1, h => exact ⟨0, 1, l, rfl, rfl, by simpa [cellsL] using h⟩
    | i + 2, h =>
      obtain ⟨q, s, l', h1, h2, h3⟩ := cellsL_get r i v (by simpa [cellsL] using h)
      exact ⟨q + 1, s, l', by omega, by simpa using h2, h3⟩
theorem cellsL_at : ∀ (ls : List Launch) (i : Nat) (l : Launch), ls[i]? = some l → (cellsL ls)[i * 2 + 0]? = some (.int .i64 l.at_) ∧ (cellsL ls)[i * 2 + 1]? = some (.int .i64 l.job)
  | [], i, l, h => by simp at h
  | a :: r, i, l, h => by
    cases i with
    | zero => simp at h; subst h; simp [cellsL]
    | succ i =>
      have := cellsL_at r i l (by simpa using h)
      rw [cellsL, List.flatMap_cons, show (i + 1) * 2 + 0 = (i * 2 + 0) + 1 + 1 from by omega, show (i + 1) * 2 + 1 = (i * 2 + 1) + 1 + 1 from by omega]
      simpa [cellsL] using this
theorem sl_launchesE {e : Nat} {v : Value} {n : Nat} {ls : List Launch} {b : HP} {fz' : FZ} (hO : OwnS e 2 v n (cellsL ls) b) (hf : ∀ p ∈ b, fz' p.1 = some p.2) (hn : n ≤ 140737488355328) (hi : ∀ l ∈ ls, I64 l.at_ ∧ I64 l.job) : ∃ A c, v = .slice A n c ∧ Sl launchL fz' A n c ls := by
  obtain ⟨A, c, h1, h2, h3, h4⟩ := hO.row hf
  have hl := hO.1
  rw [cellsL_len] at hl
  refine ⟨A, c, h1, h4.sl h2 h3 hn (by omega) fun i h hh => ⟨[.int .i64 h.at_, .int .i64 h.job], ⟨rfl, hi h (List.mem_of_getElem? hh)⟩, fun j u hu => ?_⟩⟩
  obtain ⟨g1, g2⟩ := cellsL_at ls i h hh
  match j, hu with
  | 0, hu => simp at hu; subst hu; exact g1
  | 1, hu => simp at hu; subst hu; exact g2
  | j + 2, hu => simp at hu
theorem launches_src {fz : FZ} {A : Option Addr} {n c : Nat} {ls : List Launch} (hs : Sl launchL fz A n c ls) : n = 0 ∨ ∃ ad, A = some ad ∧ Row fz ad (cellsL ls) := by
  rcases hs.elem with h0 | ⟨ad, h1, h2⟩
  · exact .inl h0
  · refine .inr ⟨ad, h1, fun i u hu => ?_⟩
    obtain ⟨q, r, l, rfl, hl, hr⟩ := cellsL_get ls i u hu
    obtain ⟨cs, ⟨rfl, _, _⟩, hrow⟩ := h2 q l hl
    have := hrow r u hr
    rw [show launchL.size = 2 from rfl] at this
    rw [show (ad.add (q * 2)).add r = ad.add (q * 2 + r) by
      unfold Addr.add
      by_cases h1 : q * 2 = 0
      · simp [h1]
      · by_cases h2 : r = 0
        · simp [h1, h2]
        · simp [h1, h2, Nat.add_assoc]] at this
    exact this
theorem launches_64 {fz : FZ} {A : Option Addr} {n c : Nat} {ls : List Launch} (hs : Sl launchL fz A n c ls) : ∀ l ∈ ls, I64 l.at_ ∧ I64 l.job := fun z hz => by
  obtain ⟨i, hi⟩ := List.mem_iff_getElem?.1 hz
  obtain ⟨ad, _, cs, hr, _⟩ := slAt hs hi
  exact hr.2

set_option maxHeartbeats 4000000 in
theorem order_q {fz : FZ} {t : Temporal} {A1 : Option Addr} {n1 c1 : Nat} {A2 : Option Addr} {n2 c2 : Nat} {A3 : Option Addr} {n3 c3 : Nat} {A4 : Option Addr} {n4 c4 : Nat} (ht : TempR fz t A1 n1 c1 A2 n2 c2 A3 n3 c3 A4 n4 c4) {B : Option Addr} {m d : Nat} {ls : List Launch} (hl : Sl launchL fz B m d ls) {by_ : Nat} (hby : by_ ≤ 65535) :
    QFn Try.prog 4 [.agg #[.slice A1 n1 c1, .slice A2 n2 c2, .slice A3 n3 c3, .slice A4 n4 c4], .slice B m d, .int .u16 by_] fz (.bool true) := by
  refine GFn.quiet ?_
  (refine GFn.of_wp Try.func4 rfl Try.ntmps4 rfl rfl (fun w0 => ?_))
  have l4 := ht.jobs.len
  have lm := hl.len
  have sm := hl.short
  obtain ⟨code, hcode⟩ := check_total t
  refine Wp.seq (Wp.region (Seq.stepK (by exact rfl) (k_box _ (by exact rfl) (by exact rfl) (fun gt => ?_))))
  ((refine Seq.q (by exact rfl) ?_; refine q_assign (by exact rfl) ?_; refine Seq.done ?_; refine Wp.seq ?_; refine Wp.seq ?_; refine Wp.region ?_))
  (((refine Seq.q (by exact rfl) ?_)); refine q_call (by exact rfl) (by exact rfl) awake_q ?_)
  ((refine Seq.q (by exact rfl) ?_; refine q_not (by exact rfl) ?_; refine Seq.q (by exact rfl) ?_; refine q_move (by exact rfl) ?_; refine Seq.guard_yes (by exact rfl) (by exact rfl) (by exact rfl) ?_; refine q_load_own_all T 0 (by exact rfl) (by exact rfl) (by exact rfl) (by exact rfl) (by exact rfl) ?_; refine Seq.guard_yes (by exact rfl) (by exact rfl) (by exact rfl) ?_; refine q_move (by exact rfl) ?_))
  (((refine Seq.guard_yes (by exact rfl) (by exact rfl) (by exact rfl) ?_)); refine q_callB (by exact rfl) (by exact rfl) (few_q ht) (fun q1 => ?_) (fun q1 => ?_))
  rotate_left
  · ((refine Seq.guard_yes (by exact rfl) (by exact rfl) (by exact rfl) ?_; refine q_not (by exact rfl) ?_; refine Seq.q (by exact rfl) ?_; refine q_pick_false (by exact rfl) (by exact rfl) ?_; refine Seq.done ?_; refine Wp.cond_true (by exact rfl) ?_; refine Wp.seq ?_; refine Wp.region ?_))
    (((refine Seq.q (by exact rfl) ?_)); refine q_call (by exact rfl) (by exact rfl) awake_q ?_)
    ((refine Seq.q (by exact rfl) ?_; refine q_assign (by exact rfl) ?_; refine Seq.done ?_; refine Wp.ret ?_; refine thenR ?_))
    (exact ret1 rfl rfl (by repeat (first | exact List.Sublist.refl _ | exact List.nil_sublist _ | refine List.Sublist.cons_cons _ ?_ | refine List.Sublist.cons _ ?_)) rfl)
  replace q1 := of_decide_eq_true q1
  have h4 : n4 ≤ 1000 := by have := q1.2.1; omega
  have hm20 : m ≤ 20 := q1.2.2.1
  obtain ⟨ticks, hticks⟩ : ∃ ticks, code = 0 → launchesM t ls = 0 → TicksR t ls ticks := by
    by_cases h : code = 0 ∧ launchesM t ls = 0
    · obtain ⟨rfl, h⟩ := h
      obtain ⟨tk, htk⟩ := ticks_total (good_of hcode).dur (launches_ok h).2
      exact ⟨tk, fun _ _ => htk⟩
    · exact ⟨[], fun h1 h2 => absurd ⟨h1, h2⟩ h⟩
  have hvq := tvalidate_q ht h4 hl hcode hticks
  obtain ⟨nn, c, hv⟩ : ∃ n c, validM code t ls ticks = (n, c) := ⟨_, _, rfl⟩
  rw [hv] at hvq
  ((refine Seq.guard_yes (by exact rfl) (by exact rfl) (by exact rfl) ?_; refine q_not (by exact rfl) ?_; refine Seq.q (by exact rfl) ?_; refine q_pick_false (by exact rfl) (by exact rfl) ?_; refine Seq.done ?_; refine Wp.cond_false (by exact rfl) ?_; refine Wp.skip ?_; refine thenN ?_; refine Wp.seq ?_; refine Wp.region ?_; refine Seq.q (by exact rfl) ?_; refine q_load_own_all T 0 (by exact rfl) (by exact rfl) (by exact rfl) (by exact rfl) (by exact rfl) ?_; refine Seq.q (by exact rfl) ?_; refine q_move (by exact rfl) ?_))
  (((refine Seq.q (by exact rfl) ?_)); refine q_call (by exact rfl) (by exact rfl) hvq ?_)
  ((refine Seq.q (by exact rfl) ?_; refine q_move (by exact rfl) ?_; refine Seq.q (by exact rfl) ?_; refine q_extract (by exact rfl) (by exact rfl) ?_; refine Seq.q (by exact rfl) ?_; refine q_extract (by exact rfl) (by exact rfl) ?_; refine Seq.q (by exact rfl) ?_; refine q_assign (by exact rfl) ?_; refine Seq.q (by exact rfl) ?_; refine q_assign (by exact rfl) ?_; refine Seq.done ?_; refine Wp.seq ?_; refine Wp.region ?_; refine Seq.q (by exact rfl) ?_; refine q_assign (by exact rfl) ?_; refine Seq.q (by exact rfl) ?_; refine q_assign (by exact rfl) ?_; refine Seq.done ?_; refine Wp.seq ?_; refine Wp.seq ?_; refine Wp.region ?_; refine Seq.q (by exact rfl) ?_; refine q_move (by exact rfl) ?_; refine Seq.q (by exact rfl) ?_; refine q_len_slice T (by exact rfl) (by exact rfl) (by exact rfl) ?_; refine Seq.q (by exact rfl) ?_; refine q_move (by exact rfl) ?_; refine Seq.done ?_; refine Wp.block ?_))
  have h64 := launches_64 hl
  refine Wp.loop (fun q σ fz' H' => ∃ (k : Nat) (B9 : Option Addr) (c9 : Nat) (v : Value) (Hs : HP), k ≤ m ∧ q = m - k ∧ σ = [(34, .int .i64 k), (33, .int .i64 m), (32, .slice B m d), (9, .slice B9 k c9), (10, v), (7, .int .i64 nn), (8, errV c), (1, .slice B m d), (2, .int .u16 by_), (3, .pointer (some ⟨gt, 0, none⟩))] ∧ Le fz fz' ∧
      H' = (gt, .cells #[.slice A1 n1 c1, .slice A2 n2 c2, .slice A3 n3 c3, .slice A4 n4 c4] 26 (0, 0)) :: Hs ∧ Sl launchL fz' B9 k c9 (ls.take k).reverse ∧ OwnS 40 2 v k (cellsL ((ls.take k).map (mvL by_))) Hs ∧ ∀ l ∈ ls.take k, 0 ≤ l.at_ ∧ l.at_ ≤ 1000)
    ⟨0, none, 0, _, [], Nat.zero_le _, rfl, rfl, Le.refl _, rfl, Sl.nil (by omega), OwnS.nil _ _, by simp⟩ (by repeat (first | exact trivial | refine ⟨by exact rfl, ?_⟩)) (by repeat (first | exact List.Sublist.refl _ | exact List.nil_sublist _ | refine List.Sublist.cons_cons _ ?_ | refine List.Sublist.cons _ ?_)) ?_
  rintro q σ fz' H' ⟨k, B9, c9, v, Hs, hk, rfl, rfl, hle, rfl, hB, hO, hr⟩
  ((refine Wp.seq ?_; refine Wp.region ?_))
  (((refine Seq.q (by exact rfl) ?_)); (refine q_lssD (by exact rfl) (by exact rfl) (fun hlt => ?_) (fun hge => ?_)))
  · ((refine Seq.done ?_; refine Wp.seq ?_; refine Wp.cond_true (by exact rfl) ?_; refine Wp.skip ?_; refine thenN ?_; refine Wp.seq ?_; refine Wp.block ?_; refine Wp.seq ?_; refine Wp.region ?_))
    obtain ⟨l, hlk⟩ := get_some (l := ls) (k := k) (by omega)
    have hl64 := h64 l (List.mem_of_getElem? hlk)
    have htk : ls.take (k + 1) = ls.take k ++ [l] := by rw [List.take_add_one, hlk]; rfl
    (((refine Seq.q (by exact rfl) ?_)); refine q_index T k (by exact rfl) (by exact rfl) (by exact rfl) (by exact rfl) (by exact rfl) (by exact rfl) (hl.mono hle) (by first | rfl | omega) hlk (fun p hp => ?_))
    (((refine Seq.q (by exact rfl) ?_)); refine q_load_at T (by exact rfl) (by exact rfl) (by exact rfl) hp (by exact rfl) ?_)
    rintro _ ⟨rfl, i1, i2⟩
    refine Seq.stepK (by exact rfl) (k_alloc T (by exact rfl) (by exact rfl) (fun gl => ?_))
    ((refine Seq.stepK0 (k_store0 T (by exact rfl) (by exact rfl) (by exact rfl) (by exact rfl) (by exact rfl) (by exact rfl) ?_); refine Seq.done ?_; refine Wp.seq ?_; refine Wp.region ?_; refine Seq.q (by exact rfl) ?_; refine q_load_own_all T 0 (by exact rfl) (by exact rfl) (by exact rfl) (by exact rfl) (by exact rfl) ?_))
    (refine Seq.stepK (by exact rfl) (k_buildSlice T (cs := [_, _]) (by exact rfl) (by exact rfl) (by exact rfl) (by exact rfl) (by exact rfl) (by exact rfl) (by exact rfl) (by exact rfl) (fun gb => ?_)))
    ((refine Seq.q (by exact rfl) ?_; refine q_move (by exact rfl) ?_))
    have lB := hB.len
    refine Seq.stepK (by exact rfl) (k_append T (Hr := _ :: _ :: Hs) (by exact rfl) (by exact rfl) (by exact rfl) (by exact rfl) (by exact rfl) (by exact rfl) (by exact rfl) (List.perm_append_comm (l₁ := [_]) (l₂ := _ :: _ :: Hs)) (OwnS.of_block (cs := [_, _]) (n := 1) rfl (by decide)) (by show _ = _ * 2; rw [cellsL_len, lB]) (src_row (launches_src hB)) (by intro u hu; obtain ⟨x, _, hx⟩ := List.mem_flatMap.1 hu; simp at hx; rcases hx with rfl | rfl <;> rfl) (by show _ * 16 ≤ _; omega) (by omega) (fun v9 Hs9 hO9 => ?_))
    refine Seq.freezeAll (H1 := _ :: _ :: Hs) (H2 := Hs9) (List.Perm.refl _) (fun fz1 hle1 hf1 => ?_)
    obtain ⟨B9', c9', rfl, hB'⟩ := sl_launchesE (ls := l :: (ls.take k).reverse) hO9 hf1 (by omega) (fun x hx => by
      rcases List.mem_cons.1 hx with rfl | hx
      · exact hl64
      · exact h64 x (List.mem_of_mem_take (List.mem_reverse.1 hx)))
    have hrev : l :: (ls.take k).reverse = (ls.take (k + 1)).reverse := by rw [htk, List.reverse_append]; rfl
    rw [hrev] at hB'
    clear hO9 hf1
    ((refine Seq.q (by exact rfl) ?_; refine q_assign (by exact rfl) ?_; refine Seq.done ?_; refine Wp.seq ?_; refine Wp.region ?_; refine Seq.q (by exact rfl) ?_; refine q_move (by exact rfl) ?_; refine Seq.q (by exact rfl) ?_; refine q_fieldAddr T (by exact rfl) (by exact rfl) (by exact rfl) (by exact rfl) (by exact rfl) (by exact rfl) ?_; refine Seq.q (by exact rfl) ?_; refine q_load_own T 0 (by exact rfl) (by exact rfl) (by exact rfl) (by exact rfl) (by exact rfl) ?_; refine Seq.q (by exact rfl) ?_; refine q_move (by exact rfl) ?_))
    ((refine Seq.q (by exact rfl) ?_)); refine q_convert_int T (by exact rfl) (by exact rfl) (by exact rfl) (by exact rfl) (wrap_in (by omega)) ?_
    by_cases hgood : 0 ≤ l.at_ ∧ l.at_ ≤ 1000
    · ((refine Seq.q (by exact rfl) ?_; refine q_add (by exact rfl) (by exact rfl) (wrap_in (by omega)) ?_; refine Seq.q (by exact rfl) ?_; refine q_fieldAddr T (by exact rfl) (by exact rfl) (by exact rfl) (by exact rfl) (by exact rfl) (by exact rfl) ?_; refine Seq.q (by exact rfl) ?_; refine q_load_own T 0 (by exact rfl) (by exact rfl) (by exact rfl) (by exact rfl) (by exact rfl) ?_; refine Seq.q (by exact rfl) ?_; refine q_build T (by exact rfl) (by exact rfl) (by exact rfl) (by exact rfl) (by exact rfl) ?_))
      (refine Seq.stepK (by exact rfl) (k_buildSlice T (cs := [_, _]) (by exact rfl) (by exact rfl) (by exact rfl) (by exact rfl) (by exact rfl) (by exact rfl) (by exact rfl) (by exact rfl) (fun gc => ?_)))
      refine Seq.stepK (by exact rfl) (k_append T (Hr := [_, _, _]) (by exact rfl) (by exact rfl) (by exact rfl) (by exact rfl) (by exact rfl) (by exact rfl) (by exact rfl) (List.Perm.refl _) hO rfl (src_own (.head _)) (by intro u hu; simp at hu; rcases hu with rfl | rfl <;> rfl) (by show _ * 16 ≤ _; omega) (by omega) (fun v1 b1 hO1 => ?_))
      ((refine Seq.q (by exact rfl) ?_; refine q_assign (by exact rfl) ?_; refine Seq.done ?_; refine Wp.seq ?_; refine Wp.region ?_; refine Seq.q (by exact rfl) ?_; refine q_fieldAddr T (by exact rfl) (by exact rfl) (by exact rfl) (by exact rfl) (by exact rfl) (by exact rfl) ?_; refine Seq.q (by exact rfl) ?_; refine q_load_own T 1 (by exact rfl) (by exact rfl) (by exact rfl) (by exact rfl) (by exact rfl) ?_))
      (((refine Seq.q (by exact rfl) ?_)); (refine q_lssD (by exact rfl) (by exact rfl) (fun z1 => ?_) (fun z1 => ?_)))
      · omega
      ((refine Seq.q (by exact rfl) ?_; refine q_move (by exact rfl) ?_; refine Seq.guard_yes (by exact rfl) (by exact rfl) (by exact rfl) ?_; refine q_fieldAddr T (by exact rfl) (by exact rfl) (by exact rfl) (by exact rfl) (by exact rfl) (by exact rfl) ?_; refine Seq.guard_yes (by exact rfl) (by exact rfl) (by exact rfl) ?_; refine q_load_own T 1 (by exact rfl) (by exact rfl) (by exact rfl) (by exact rfl) (by exact rfl) ?_))
      (((refine Seq.guard_yes (by exact rfl) (by exact rfl) (by exact rfl) ?_)); (refine q_gtrD (by exact rfl) (by exact rfl) (fun z2 => ?_) (fun z2 => ?_)))
      · omega
      ((refine Seq.q (by exact rfl) ?_; refine q_pick_false (by exact rfl) (by exact rfl) ?_; refine Seq.done ?_; refine Wp.cond_false (by exact rfl) ?_; refine Wp.skip ?_; refine blkN ?_; refine thenN ?_; refine Wp.region ?_; refine Seq.q (by exact rfl) ?_; refine q_add (by exact rfl) (by exact rfl) (wrap_in (by omega)) ?_; refine Seq.q (by exact rfl) ?_; refine q_move (by exact rfl) ?_; refine Seq.end_ ?_))
      have hcells : cellsL ((ls.take k).map (mvL by_)) ++ [Value.int .i64 (l.at_ + by_), .int .i64 l.job] = cellsL ((ls.take (k + 1)).map (mvL by_)) := by
        rw [htk, List.map_append, cellsL_append]; rfl
      refine loopN ⟨k + 1, B9', c9', v1, b1, by omega, rfl, rfl, hle.trans hle1, rfl, (Nat.add_comm 1 k ▸ hB'), hcells ▸ hO1, fun x hx => ?_⟩ (by omega) (by rw [Nat.add_comm 1 k]; exact (by repeat (first | exact trivial | refine ⟨by exact rfl, ?_⟩))) (by repeat (first | exact List.Sublist.refl _ | exact List.nil_sublist _ | refine List.Sublist.cons_cons _ ?_ | refine List.Sublist.cons _ ?_))
      rw [htk] at hx
      rcases List.mem_append.1 hx with hx | hx
      · exact hr x hx
      · simp at hx; subst hx; exact hgood
    · (skip)
      ((refine Seq.q (by exact rfl) ?_)); refine q_add (by exact rfl) (by exact rfl) rfl ?_
      ((refine Seq.q (by exact rfl) ?_; refine q_fieldAddr T (by exact rfl) (by exact rfl) (by exact rfl) (by exact rfl) (by exact rfl) (by exact rfl) ?_; refine Seq.q (by exact rfl) ?_; refine q_load_own T 0 (by exact rfl) (by exact rfl) (by exact rfl) (by exact rfl) (by exact rfl) ?_; refine Seq.q (by exact rfl) ?_; refine q_build T (by exact rfl) (by exact rfl) (by exact rfl) (by exact rfl) (by exact rfl) ?_))
      (refine Seq.stepK (by exact rfl) (k_buildSlice T (cs := [_, _]) (by exact rfl) (by exact rfl) (by exact rfl) (by exact rfl) (by exact rfl) (by exact rfl) (by exact rfl) (by exact rfl) (fun gc => ?_)))
      refine Seq.stepK (by exact rfl) (k_append T (Hr := [_, _, _]) (by exact rfl) (by exact rfl) (by exact rfl) (by exact rfl) (by exact rfl) (by exact rfl) (by exact rfl) (List.Perm.refl _) hO rfl (src_own (.head _)) (by intro u hu; simp at hu; rcases hu with rfl | rfl <;> rfl) (by show _ * 16 ≤ _; omega) (by omega) (fun v1 b1 hO1 => ?_))
      ((refine Seq.q (by exact rfl) ?_; refine q_assign (by exact rfl) ?_; refine Seq.done ?_; refine Wp.seq ?_; refine Wp.region ?_; refine Seq.q (by exact rfl) ?_; refine q_fieldAddr T (by exact rfl) (by exact rfl) (by exact rfl) (by exact rfl) (by exact rfl) (by exact rfl) ?_; refine Seq.q (by exact rfl) ?_; refine q_load_own T 1 (by exact rfl) (by exact rfl) (by exact rfl) (by exact rfl) (by exact rfl) ?_))
      (((refine Seq.q (by exact rfl) ?_)); (refine q_lssD (by exact rfl) (by exact rfl) (fun z1 => ?_) (fun z1 => ?_)))
      · ((refine Seq.q (by exact rfl) ?_; refine q_move (by exact rfl) ?_; refine Seq.guard_no (by exact rfl) (by exact rfl) (by exact rfl) (by exact rfl) ?_; refine Seq.guard_no (by exact rfl) (by exact rfl) (by exact rfl) (by exact rfl) ?_; refine Seq.guard_no (by exact rfl) (by exact rfl) (by exact rfl) (by exact rfl) ?_; refine Seq.q (by exact rfl) ?_; refine q_pick_true (by exact rfl) (by exact rfl) ?_; refine Seq.done ?_; refine Wp.cond_true (by exact rfl) ?_; refine Wp.seq ?_; refine Wp.region ?_; refine Seq.q (by exact rfl) ?_; refine q_assign (by exact rfl) ?_; refine Seq.done ?_; refine Wp.ret ?_; refine blkR ?_; refine thenR ?_; refine loopR ?_; refine blkR ?_; refine thenR ?_))
        (exact ret1 rfl rfl (by repeat (first | exact List.Sublist.refl _ | exact List.nil_sublist _ | refine List.Sublist.cons_cons _ ?_ | refine List.Sublist.cons _ ?_)) rfl)
      ((refine Seq.q (by exact rfl) ?_; refine q_move (by exact rfl) ?_; refine Seq.guard_yes (by exact rfl) (by exact rfl) (by exact rfl) ?_; refine q_fieldAddr T (by exact rfl) (by exact rfl) (by exact rfl) (by exact rfl) (by exact rfl) (by exact rfl) ?_; refine Seq.guard_yes (by exact rfl) (by exact rfl) (by exact rfl) ?_; refine q_load_own T 1 (by exact rfl) (by exact rfl) (by exact rfl) (by exact rfl) (by exact rfl) ?_))
      (((refine Seq.guard_yes (by exact rfl) (by exact rfl) (by exact rfl) ?_)); (refine q_gtrD (by exact rfl) (by exact rfl) (fun z2 => ?_) (fun z2 => ?_)))
      · ((refine Seq.q (by exact rfl) ?_; refine q_pick_false (by exact rfl) (by exact rfl) ?_; refine Seq.done ?_; refine Wp.cond_true (by exact rfl) ?_; refine Wp.seq ?_; refine Wp.region ?_; refine Seq.q (by exact rfl) ?_; refine q_assign (by exact rfl) ?_; refine Seq.done ?_; refine Wp.ret ?_; refine blkR ?_; refine thenR ?_; refine loopR ?_; refine blkR ?_; refine thenR ?_))
        (exact ret1 rfl rfl (by repeat (first | exact List.Sublist.refl _ | exact List.nil_sublist _ | refine List.Sublist.cons_cons _ ?_ | refine List.Sublist.cons _ ?_)) rfl)
      · omega
  have hkm : k = m := by omega
  subst hkm
  rw [List.take_of_length_le (by omega)] at hB hO hr
  have hperm : ls.reverse.Perm ls := List.reverse_perm ls
  have hvq2 := tvalidate_q (ht.mono hle) h4 hB hcode (ticks := ticks) (fun h1 h2 => ticks_perm hperm.symm (hticks h1 (by rw [← launches_perm hperm]; exact h2)))
  rw [valid_perm hperm, hv] at hvq2
  ((refine Seq.done ?_; refine Wp.seq ?_; refine Wp.cond_false (by exact rfl) ?_; refine Wp.exit ?_; refine thenX ?_; refine loopX ?_; refine blkX (by exact rfl) ?_; refine thenN ?_; refine Wp.seq ?_; refine Wp.region ?_; refine Seq.q (by exact rfl) ?_; refine q_load_own_all T 0 (by exact rfl) (by exact rfl) (by exact rfl) (by exact rfl) (by exact rfl) ?_; refine Seq.q (by exact rfl) ?_; refine q_move (by exact rfl) ?_))
  (((refine Seq.q (by exact rfl) ?_)); refine q_call (by exact rfl) (by exact rfl) hvq2 ?_)
  ((refine Seq.q (by exact rfl) ?_; refine q_move (by exact rfl) ?_; refine Seq.q (by exact rfl) ?_; refine q_extract (by exact rfl) (by exact rfl) ?_; refine Seq.q (by exact rfl) ?_; refine q_extract (by exact rfl) (by exact rfl) ?_; refine Seq.q (by exact rfl) ?_; refine q_assign (by exact rfl) ?_; refine Seq.q (by exact rfl) ?_; refine q_assign (by exact rfl) ?_; refine Seq.done ?_; refine Wp.seq ?_; refine Wp.seq ?_; refine Wp.region ?_; refine Seq.q (by exact rfl) ?_; refine q_move (by exact rfl) ?_; refine Seq.q (by exact rfl) ?_; refine q_move (by exact rfl) ?_))
  (((refine Seq.q (by exact rfl) ?_)); (refine q_neqD (by exact rfl) (by exact rfl) (fun y1 => ?_) (fun y1 => ?_)))
  · exact absurd rfl y1
  ((refine Seq.q (by exact rfl) ?_; refine q_move (by exact rfl) ?_; refine Seq.guard_yes (by exact rfl) (by exact rfl) (by exact rfl) ?_; refine q_move (by exact rfl) ?_))
  (((refine Seq.guard_yes (by exact rfl) (by exact rfl) (by exact rfl) ?_)); refine q_call (by exact rfl) (by exact rfl) num_q ?_)
  ((refine Seq.guard_yes (by exact rfl) (by exact rfl) (by exact rfl) ?_; refine q_move (by exact rfl) ?_))
  (((refine Seq.guard_yes (by exact rfl) (by exact rfl) (by exact rfl) ?_)); refine q_call (by exact rfl) (by exact rfl) num_q ?_)
  (skip)
  (((refine Seq.guard_yes (by exact rfl) (by exact rfl) (by exact rfl) ?_)); (refine q_neqD (by exact rfl) (by exact rfl) (fun y2 => ?_) (fun y2 => ?_)))
  · exact absurd rfl y2
  ((refine Seq.q (by exact rfl) ?_; refine q_pick_false (by exact rfl) (by exact rfl) ?_; refine Seq.done ?_; refine Wp.cond_false (by exact rfl) ?_; refine Wp.skip ?_; refine thenN ?_; refine Wp.seq ?_; refine Wp.region ?_; refine Seq.q (by exact rfl) ?_; refine q_load_own_all T 0 (by exact rfl) (by exact rfl) (by exact rfl) (by exact rfl) (by exact rfl) ?_; refine Seq.q (by exact rfl) ?_; refine q_move (by exact rfl) ?_))
  refine Seq.freezeAll (H1 := [_]) (H2 := Hs) (List.Perm.refl _) (fun fz1 hle1 hf1 => ?_)
  obtain ⟨B8, c8, rfl, hM⟩ := sl_launchesE hO hf1 (by omega) (fun x hx => by
    obtain ⟨l, hl', rfl⟩ := List.mem_map.1 hx
    have := hr l hl'
    exact ⟨⟨by simp only [mvL]; omega, by simp only [mvL]; omega⟩, (h64 l hl').2⟩)
  have hdur : code = 0 → DurOk t := fun h => by subst h; exact (good_of hcode).dur
  have hvq3 := tvalidate_q ((ht.mono hle).mono hle1) h4 hM hcode (ticks := ticks.map (· + (by_ : Int))) (fun h1 h2 => ticks_mv (hticks h1 (by rw [← launches_mv (b := by_) (by omega) (by omega) hr]; exact h2)))
  have hmv := valid_mv (code := code) (t := t) (b := by_) hdur (by omega) (by omega) hr ticks
  rw [hv] at hmv
  obtain ⟨n3', c3', hv3⟩ : ∃ n c, validM code t (ls.map (mvL by_)) (ticks.map (· + (by_ : Int))) = (n, c) := ⟨_, _, rfl⟩
  rw [hv3] at hmv hvq3
  obtain ⟨hm1, hm2⟩ := hmv
  simp only at hm1 hm2
  subst hm1
  (((refine Seq.q (by exact rfl) ?_)); refine q_call (by exact rfl) (by exact rfl) hvq3 ?_)
  ((refine Seq.q (by exact rfl) ?_; refine q_move (by exact rfl) ?_; refine Seq.q (by exact rfl) ?_; refine q_extract (by exact rfl) (by exact rfl) ?_; refine Seq.q (by exact rfl) ?_; refine q_extract (by exact rfl) (by exact rfl) ?_; refine Seq.q (by exact rfl) ?_; refine q_assign (by exact rfl) ?_; refine Seq.q (by exact rfl) ?_; refine q_assign (by exact rfl) ?_; refine Seq.done ?_; refine Wp.seq ?_; refine Wp.seq ?_; refine Wp.region ?_; refine Seq.q (by exact rfl) ?_; refine q_move (by exact rfl) ?_; refine Seq.q (by exact rfl) ?_; refine q_len_slice T (by exact rfl) (by exact rfl) (by exact rfl) ?_))
  (((refine Seq.q (by exact rfl) ?_)); (refine q_gtrD (by exact rfl) (by exact rfl) (fun x1 => ?_) (fun x1 => ?_)))
  · by_cases hc : c3' = 0
    · subst hc
      have hn := hm2 (by rintro rfl; simp at lm; omega) rfl
      have := valid_code hv
      subst this
      have V := valid_of (good_of hcode).dur (hticks rfl) hv
      have hsp := span_bd (good_of hcode).dur ls (launches_ok V.launches).2
      have hs1 := V.span
      subst hn
      rw [show errV 0 = .nilIface from rfl]
      ((refine Seq.q (by exact rfl) ?_; refine q_move (by exact rfl) ?_; refine Seq.guard_yes (by exact rfl) (by exact rfl) (by exact rfl) ?_; refine q_move (by exact rfl) ?_; refine Seq.guard_yes (by exact rfl) (by exact rfl) (by exact rfl) ?_; refine q_eql_nil T (by exact rfl) (by exact rfl) (by exact rfl) (by exact rfl) ?_; refine Seq.q (by exact rfl) ?_; refine q_pick_true (by exact rfl) (by exact rfl) ?_; refine Seq.done ?_; refine Wp.cond_true (by exact rfl) ?_; refine Wp.seq ?_; refine Wp.region ?_; refine Seq.q (by exact rfl) ?_; refine q_move (by exact rfl) ?_; refine Seq.q (by exact rfl) ?_; refine q_eql_nil T (by exact rfl) (by exact rfl) (by exact rfl) (by exact rfl) ?_; refine Seq.q (by exact rfl) ?_; refine q_move (by exact rfl) ?_; refine Seq.guard_yes (by exact rfl) (by exact rfl) (by exact rfl) ?_; refine q_move (by exact rfl) ?_; refine Seq.guard_yes (by exact rfl) (by exact rfl) (by exact rfl) ?_; refine q_move (by exact rfl) ?_; refine Seq.guard_yes (by exact rfl) (by exact rfl) (by exact rfl) ?_; refine q_move (by exact rfl) ?_))
      ((refine Seq.guard_yes (by exact rfl) (by exact rfl) (by exact rfl) ?_)); refine q_convert_int T (by exact rfl) (by exact rfl) (by exact rfl) (by exact rfl) (wrap_in (by omega)) ?_
      ((refine Seq.guard_yes (by exact rfl) (by exact rfl) (by exact rfl) ?_; refine q_add (by exact rfl) (by exact rfl) (wrap_in (by omega)) ?_))
      (((refine Seq.guard_yes (by exact rfl) (by exact rfl) (by exact rfl) ?_)); (refine q_eqlD (by exact rfl) (by exact rfl) (fun x2 => ?_) (fun x2 => ?_)))
      · ((refine Seq.q (by exact rfl) ?_; refine q_pick_true (by exact rfl) (by exact rfl) ?_; refine Seq.q (by exact rfl) ?_; refine q_assign (by exact rfl) ?_; refine Seq.done ?_; refine Wp.ret ?_; refine thenR ?_))
        (exact ret1 rfl rfl (by repeat (first | exact List.Sublist.refl _ | exact List.nil_sublist _ | refine List.Sublist.cons_cons _ ?_ | refine List.Sublist.cons _ ?_)) rfl)
      · exact absurd rfl x2
    · rw [errV_ne hc]
      ((refine Seq.q (by exact rfl) ?_; refine q_move (by exact rfl) ?_; refine Seq.guard_yes (by exact rfl) (by exact rfl) (by exact rfl) ?_; refine q_move (by exact rfl) ?_; refine Seq.guard_yes (by exact rfl) (by exact rfl) (by exact rfl) ?_; refine q_eql_some T (by exact rfl) (by exact rfl) (by exact rfl) (by exact rfl) ?_; refine Seq.q (by exact rfl) ?_; refine q_pick_true (by exact rfl) (by exact rfl) ?_; refine Seq.done ?_; refine Wp.cond_false (by exact rfl) ?_; refine Wp.skip ?_; refine thenN ?_; refine Wp.seq ?_; refine Wp.region ?_; refine Seq.q (by exact rfl) ?_; refine q_move (by exact rfl) ?_))
      rw [← errV_ne hc]
      (((refine Seq.q (by exact rfl) ?_)); refine q_call (by exact rfl) (by exact rfl) num_q ?_)
      ((refine Seq.q (by exact rfl) ?_; refine q_move (by exact rfl) ?_))
      (((refine Seq.q (by exact rfl) ?_)); refine q_call (by exact rfl) (by exact rfl) num_q ?_)
      (skip)
      (((refine Seq.q (by exact rfl) ?_)); (refine q_eqlD (by exact rfl) (by exact rfl) (fun x3 => ?_) (fun x3 => ?_)))
      · ((refine Seq.q (by exact rfl) ?_; refine q_assign (by exact rfl) ?_; refine Seq.done ?_; refine Wp.ret ?_))
        (exact ret1 rfl rfl (by repeat (first | exact List.Sublist.refl _ | exact List.nil_sublist _ | refine List.Sublist.cons_cons _ ?_ | refine List.Sublist.cons _ ?_)) rfl)
      · exact absurd rfl x3
  · ((refine Seq.q (by exact rfl) ?_; refine q_move (by exact rfl) ?_; refine Seq.guard_no (by exact rfl) (by exact rfl) (by exact rfl) (by exact rfl) ?_; refine Seq.guard_no (by exact rfl) (by exact rfl) (by exact rfl) (by exact rfl) ?_; refine Seq.q (by exact rfl) ?_; refine q_pick_false (by exact rfl) (by exact rfl) ?_; refine Seq.done ?_; refine Wp.cond_false (by exact rfl) ?_; refine Wp.skip ?_; refine thenN ?_; refine Wp.seq ?_; refine Wp.region ?_; refine Seq.q (by exact rfl) ?_; refine q_move (by exact rfl) ?_))
    (((refine Seq.q (by exact rfl) ?_)); refine q_call (by exact rfl) (by exact rfl) num_q ?_)
    ((refine Seq.q (by exact rfl) ?_; refine q_move (by exact rfl) ?_))
    (((refine Seq.q (by exact rfl) ?_)); refine q_call (by exact rfl) (by exact rfl) num_q ?_)
    (skip)
    (((refine Seq.q (by exact rfl) ?_)); (refine q_eqlD (by exact rfl) (by exact rfl) (fun x3 => ?_) (fun x3 => ?_)))
    · ((refine Seq.q (by exact rfl) ?_; refine q_assign (by exact rfl) ?_; refine Seq.done ?_; refine Wp.ret ?_))
      (exact ret1 rfl rfl (by repeat (first | exact List.Sublist.refl _ | exact List.nil_sublist _ | refine List.Sublist.cons_cons _ ?_ | refine List.Sublist.cons _ ?_)) rfl)
    · exact absurd rfl x3
end Go.Proofs.Ytfidaamledbmpaa
