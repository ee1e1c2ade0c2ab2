/- The reference's state after a tick. Conditions: the arguments read as data, the launches are of jobs of the task. -/
import Derived.Test.YtfidaamledbmpaaRefB
namespace Go.Proofs.Ytfidaamledbmpaa
open Go.Lx Go.RowKit
attribute [local instance 10] Classical.propDecidable

theorem ref_mem {t : Temporal} {ls : List Launch} {tick : Int} {h : Hap} (hh : h ∈ refAt t ls tick) : ∃ (i : Nat) (x : Launch), h.1 = i ∧ ls[i]? = some x := by
  obtain ⟨e, _, hh⟩ := List.mem_flatMap.1 hh
  obtain ⟨j, _, hh⟩ := List.mem_flatMap.1 hh
  obtain ⟨i, _, hh⟩ := List.mem_flatMap.1 hh
  unfold hitL at hh
  split at hh
  · rename_i x hx
    split at hh
    · simp at hh; subst hh; exact ⟨i, x, rfl, hx⟩
    · cases hh
  · cases hh
/-- what a happening by index has -/
theorem ref_job {t : Temporal} {ls : List Launch} (hok : ∀ l ∈ ls, LaunchOk t l) {h : Hap} {i : Nat} {x : Launch} (h1 : h.1 = i) (hx : ls[i]? = some x) : ∃ (k : Nat) (j : Job), x.job = k ∧ t.jobs[k]? = some j ∧ wrH t (jobH ls h) = wrJ j h.2 ∧ rdH t (jobH ls h) = rdJ j h.2 := by
  obtain ⟨k, j, hk, hj, _⟩ := launch_job (hok x (List.mem_of_getElem? hx))
  exact ⟨k, j, hk, hj, by simp [wrH, jobH, h1, hx, hk, hj], by simp [rdH, jobH, h1, hx, hk, hj]⟩
theorem At.job {fz : FZ} {p : Addr} {l : Launch} (h : At launchL fz p l) : At intL fz (p.add 1) l.job := h.part 1 fun _ h => ⟨_, by rw [h.1]; rfl, rfl, h.2.2⟩
theorem slice_if {e : Bool} {A B : Option Addr} {n c m d : Nat} {fz : FZ} {x y : List Fact} (h1 : Sl factL fz A n c x) (h2 : Sl factL fz B m d y) : ∃ W w z, (if e = true then Value.slice A n c else .slice B m d) = .slice W w z ∧ Sl factL fz W w z (if e = true then x else y) := by
  cases e
  · exact ⟨_, _, _, rfl, h2⟩
  · exact ⟨_, _, _, rfl, h1⟩

set_option maxHeartbeats 2000000 in
theorem rafter_f {fz : FZ} {t : Temporal} {A1 : Option Addr} {n1 c1 : Nat} {A2 : Option Addr} {n2 c2 : Nat} {A3 : Option Addr} {n3 c3 : Nat} {A4 : Option Addr} {n4 c4 : Nat} (ht : TempR fz t A1 n1 c1 A2 n2 c2 A3 n3 c3 A4 n4 c4) (h4 : n4 ≤ 1000)
    {B : Option Addr} {m d : Nat} {ls : List Launch} (hl : Sl launchL fz B m d ls) (hm : m ≤ 4096) (hd : DurOk t) (hok : ∀ l ∈ ls, LaunchOk t l) {tick : Int}
    {S : Option Addr} {n c : Nat} {s : List Int} (hs : Sl intL fz S n c s) (hn : n ≤ 1000000) (hw : WrOk t n) :
    GFn Try.prog 36 [.agg #[.slice A1 n1 c1, .slice A2 n2 c2, .slice A3 n3 c3, .slice A4 n4 c4], .slice B m d, .int .i64 tick, .slice S n c] fz [] fun v fz' H' => H' = [] ∧ ∃ A c, v = .slice A n c ∧ Sl intL fz' A n c (afterM t s (hapsM t ls tick)) := by
  (refine GFn.of_wp Try.func36 rfl Try.ntmps36 rfl rfl (fun w0 => ?_))
  have lm := hl.len
  have lsn := hs.len
  have hs64 : ∀ z ∈ s, I64 z := fun z hz => by
    obtain ⟨i, hi⟩ := List.mem_iff_getElem?.1 hz
    obtain ⟨ad, _, cs, hr, _⟩ := slAt hs hi
    exact hr.2
  have hsrc : n = 0 ∨ ∃ ad, S = some ad ∧ Row fz ad (s.map (Value.int .i64)) := by
    rcases hs.elem with h0 | ⟨ad, h1, h2⟩
    · exact .inl h0
    · refine .inr ⟨ad, h1, fun j u hu => ?_⟩
      rw [List.getElem?_map] at hu
      cases hx : s[j]? with
      | none => simp [hx] at hu
      | some x =>
        simp [hx] at hu
        subst hu
        obtain ⟨v, ⟨he, _⟩, hc⟩ := (h2 j x hx).cell rfl
        injection he with he
        subst he
        simpa [intL] using hc
  refine Wp.seq (Wp.region (Seq.stepK (by exact rfl) (k_box _ (by exact rfl) (by exact rfl) (fun gt => ?_))))
  ((refine Seq.q (by exact rfl) ?_; refine q_assign (by exact rfl) ?_; refine Seq.done ?_; refine Wp.seq ?_; refine Wp.region ?_))
  refine Seq.stepK (by exact rfl) (k_buildSlice0 T (by exact rfl) (by exact rfl) (by exact rfl) (fun g => ?_))
  ((refine Seq.q (by exact rfl) ?_; refine q_move (by exact rfl) ?_))
  refine Seq.stepK (by exact rfl) (k_append T (Hr := [_]) (by exact rfl) (by exact rfl) (by exact rfl) (by exact rfl) (by exact rfl) (by exact rfl) (by exact rfl) (List.Perm.swap _ _ _) (OwnS.of_block (cs := []) (n := 0) rfl (by decide)) (by show _ = _ * 1; simp [lsn]) (src_row hsrc) (by intro u hu; obtain ⟨x, _, rfl⟩ := List.mem_map.1 hu; rfl) (by show _ * 8 ≤ _; omega) (by omega) (fun v Hs hO => ?_))
  simp only [Nat.zero_add, List.nil_append] at hO
  ((refine Seq.q (by exact rfl) ?_; refine q_assign (by exact rfl) ?_; refine Seq.done ?_; refine Wp.seq ?_; refine Wp.seq ?_; refine Wp.region ?_; refine Seq.q (by exact rfl) ?_; refine q_load_own_all T 0 (by exact rfl) (by exact rfl) (by exact rfl) (by exact rfl) (by exact rfl) ?_; refine Seq.q (by exact rfl) ?_; refine q_move (by exact rfl) ?_; refine Seq.q (by exact rfl) ?_; refine q_move (by exact rfl) ?_))
  refine Seq.stepK (by exact rfl) (k_call [] (_ :: Hs) (by exact rfl) (by exact rfl) (by exact rfl) (at_f ht h4 hl hm hd hok (tick := tick)) (fun u fz1 H1 hle1 hR => ?_))
  obtain ⟨rfl, Ah, nh, ch, rfl, hh⟩ := hR
  replace ht := ht.mono hle1
  replace hl := hl.mono hle1
  clear hs hsrc
  have lh := hh.len
  have sh := hh.short
  ((refine Seq.q (by exact rfl) ?_; refine q_len_slice T (by exact rfl) (by exact rfl) (by exact rfl) ?_; refine Seq.q (by exact rfl) ?_; refine q_move (by exact rfl) ?_; refine Seq.done ?_; refine Wp.block ?_))
  refine Wp.loop (fun q σ fz' H' => ∃ (k : Nat) (xs : List Int) (Hs : HP), k ≤ nh ∧ q = nh - k ∧ σ = [(22, .int .i64 k), (21, .int .i64 nh), (20, .slice Ah nh ch), (9, v), (1, .slice B m d), (4, .pointer (some ⟨gt, 0, none⟩))] ∧ fz1 = fz' ∧
      H' = (gt, .cells #[.slice A1 n1 c1, .slice A2 n2 c2, .slice A3 n3 c3, .slice A4 n4 c4] 26 (0, 0)) :: Hs ∧ OwnS 3 1 v n (xs.map (Value.int .i64)) Hs ∧ (∀ z ∈ xs, I64 z) ∧ xs = putHs t s (((refAt t ls tick).take k).map (jobH ls)))
    ⟨0, s, _, Nat.zero_le _, rfl, rfl, rfl, rfl, hO, hs64, rfl⟩ (by repeat (first | exact trivial | refine ⟨by exact rfl, ?_⟩)) (by repeat (first | exact List.Sublist.refl _ | exact List.nil_sublist _ | refine List.Sublist.cons_cons _ ?_ | refine List.Sublist.cons _ ?_)) ?_
  clear hO Hs
  rintro q σ fz' H' ⟨k, xs1, Hs, hk, rfl, rfl, rfl, rfl, hO, hx1, he1⟩
  ((refine Wp.seq ?_; refine Wp.region ?_))
  (((refine Seq.q (by exact rfl) ?_)); (refine q_lssD (by exact rfl) (by exact rfl) (fun hlt => ?_) (fun hge => ?_)))
  · ((refine Seq.done ?_; refine Wp.seq ?_; refine Wp.cond_true (by exact rfl) ?_; refine Wp.skip ?_; refine thenN ?_; refine Wp.seq ?_; refine Wp.block ?_; refine Wp.seq ?_; refine Wp.region ?_))
    obtain ⟨h, hhk⟩ := get_some (l := refAt t ls tick) (k := k) (by omega)
    obtain ⟨i, x, hi, hx⟩ := ref_mem (List.mem_of_getElem? hhk)
    obtain ⟨kk, j, hkk, hj, hwr, _⟩ := ref_job hok hi hx
    (((refine Seq.q (by exact rfl) ?_)); refine q_index T k (by exact rfl) (by exact rfl) (by exact rfl) (by exact rfl) (by exact rfl) (by exact rfl) hh (by first | rfl | omega) hhk (fun p hp => ?_))
    (((refine Seq.q (by exact rfl) ?_)); refine q_load_at T (by exact rfl) (by exact rfl) (by exact rfl) hp (by exact rfl) ?_)
    rintro _ ⟨rfl, i1⟩
    refine Seq.stepK (by exact rfl) (k_alloc T (by exact rfl) (by exact rfl) (fun gh => ?_))
    ((refine Seq.stepK0 (k_store0 T (by exact rfl) (by exact rfl) (by exact rfl) (by exact rfl) (by exact rfl) (by exact rfl) ?_); refine Seq.done ?_; refine Wp.seq ?_; refine Wp.draw (by decide +kernel) T.mixed (by kernel_rfl) (by kernel_rfl) ?_; refine QL.q ?_; refine q_fieldAddr T (by exact rfl) (by exact rfl) (by exact rfl) (by exact rfl) (by exact rfl) (by exact rfl) ?_; refine QL.q ?_; refine q_load_own T 1 (by exact rfl) (by exact rfl) (by exact rfl) (by exact rfl) (by exact rfl) ?_; refine QL.q ?_; refine q_move (by exact rfl) ?_; refine QL.q ?_; refine q_fieldAddr T (by exact rfl) (by exact rfl) (by exact rfl) (by exact rfl) (by exact rfl) (by exact rfl) ?_; refine QL.q ?_; refine q_load_own T 0 (by exact rfl) (by exact rfl) (by exact rfl) (by exact rfl) (by exact rfl) ?_))
    (((refine QL.q ?_)); refine q_index T i (by exact rfl) (by exact rfl) (by exact rfl) (by exact rfl) (by exact rfl) (by exact rfl) hl (by first | rfl | omega) hx (fun p2 hp2 => ?_))
    ((refine QL.q ?_; refine q_fieldAddr T (by exact rfl) (by exact rfl) (by exact rfl) (by exact rfl) (by exact rfl) (by exact rfl) ?_))
    (((refine QL.q ?_)); refine q_load_int T (by exact rfl) (by exact rfl) (by exact rfl) (At.job hp2) (fun i2 => ?_))
    (skip)
    (((refine QL.q ?_)); refine q_index T kk (by exact rfl) (by exact rfl) (by exact rfl) (by exact rfl) (by exact rfl) (by exact rfl) ht.jobs (by first | rfl | omega) hj (fun p3 hp3 => ?_))
    (((refine QL.q ?_)); refine q_load_at T (by exact rfl) (by exact rfl) (by exact rfl) hp3 (by exact rfl) ?_)
    rintro _ ⟨B1, m1, d1, B2, m2, d2, B3, m3, d3, B4, m4, d4, B5, m5, d5, rfl, hJ⟩
    ((refine QL.q ?_; refine q_fieldAddr T (by exact rfl) (by exact rfl) (by exact rfl) (by exact rfl) (by exact rfl) (by exact rfl) ?_; refine QL.q ?_; refine q_load_own T 0 (by exact rfl) (by exact rfl) (by exact rfl) (by exact rfl) (by exact rfl) ?_))
    obtain ⟨F, f, cf, e1, hsl⟩ := slice_if (e := h.2) hJ.atEnd hJ.atStart
    change Sl factL fz1 F f cf (wrJ j h.2) at hsl
    (((refine QL.q ?_)); refine q_call (by exact rfl) (by exact rfl) (e1 ▸ writes_q) ?_)
    ((refine QL.q ?_; refine q_len_slice T (by exact rfl) (by exact rfl) (by exact rfl) ?_; refine QL.q ?_; refine q_move (by exact rfl) ?_; refine QL.done ?_; refine thenN ?_; refine Wp.block ?_))
    have hfl := hsl.len
    have hfs := hsl.short
    refine Wp.loop (fun q σ fz' H' => ∃ (b : Nat) (xs : List Int) (Hs : HP), b ≤ f ∧ q = f - b ∧ σ = [(40, .int .i64 b), (39, .int .i64 f), (38, .slice F f cf), (22, .int .i64 k), (21, .int .i64 nh), (20, .slice Ah nh ch), (9, v), (1, .slice B m d), (4, .pointer (some ⟨gt, 0, none⟩))] ∧ fz1 = fz' ∧
        H' = (gt, .cells #[.slice A1 n1 c1, .slice A2 n2 c2, .slice A3 n3 c3, .slice A4 n4 c4] 26 (0, 0)) :: Hs ∧ OwnS 3 1 v n (xs.map (Value.int .i64)) Hs ∧ (∀ z ∈ xs, I64 z) ∧ xs = putF xs1 ((wrJ j h.2).take b))
      ⟨0, xs1, _, Nat.zero_le _, rfl, rfl, rfl, rfl, hO, hx1, rfl⟩ (by repeat (first | exact trivial | refine ⟨by exact rfl, ?_⟩)) (by repeat (first | exact List.Sublist.refl _ | exact List.nil_sublist _ | refine List.Sublist.cons_cons _ ?_ | refine List.Sublist.cons _ ?_)) ?_
    clear hO Hs
    rintro q σ fz' H' ⟨b, xs4, Hs, hb', rfl, rfl, rfl, rfl, hO, hx4, he4⟩
    ((refine Wp.seq ?_; refine Wp.region ?_))
    (((refine Seq.q (by exact rfl) ?_)); (refine q_lssD (by exact rfl) (by exact rfl) (fun hlt4 => ?_) (fun hge4 => ?_)))
    · ((refine Seq.done ?_; refine Wp.seq ?_; refine Wp.cond_true (by exact rfl) ?_; refine Wp.skip ?_; refine thenN ?_; refine Wp.seq ?_; refine Wp.block ?_; refine Wp.seq ?_; refine Wp.region ?_))
      obtain ⟨y, hy⟩ := get_some (l := wrJ j h.2) (k := b) (by omega)
      have hwo := hw j (List.mem_of_getElem? hj) h.2 y (List.mem_of_getElem? hy)
      (((refine Seq.q (by exact rfl) ?_)); refine q_index T b (by exact rfl) (by exact rfl) (by exact rfl) (by exact rfl) (by exact rfl) (by exact rfl) hsl (by first | rfl | omega) hy (fun p3 hp3 => ?_))
      (((refine Seq.q (by exact rfl) ?_)); refine q_load_at T (by exact rfl) (by exact rfl) (by exact rfl) hp3 (by exact rfl) ?_)
      rintro _ ⟨rfl, i2, i3⟩
      refine Seq.stepK (by exact rfl) (k_alloc T (by exact rfl) (by exact rfl) (fun gf => ?_))
      obtain ⟨g, cap, cur, rfl, rfl, hcur, hset⟩ := ownS_block hO (by omega)
      ((refine Seq.stepK0 (k_store0 T (by exact rfl) (by exact rfl) (by exact rfl) (by exact rfl) (by exact rfl) (by exact rfl) ?_); refine Seq.done ?_; refine Wp.region ?_; refine Seq.q (by exact rfl) ?_; refine q_move (by exact rfl) ?_; refine Seq.q (by exact rfl) ?_; refine q_fieldAddr T (by exact rfl) (by exact rfl) (by exact rfl) (by exact rfl) (by exact rfl) (by exact rfl) ?_; refine Seq.q (by exact rfl) ?_; refine q_load_own T 0 (by exact rfl) (by exact rfl) (by exact rfl) (by exact rfl) (by exact rfl) ?_; refine Seq.q (by exact rfl) ?_; refine q_fieldAddr T (by exact rfl) (by exact rfl) (by exact rfl) (by exact rfl) (by exact rfl) (by exact rfl) ?_; refine Seq.q (by exact rfl) ?_; refine q_load_own T 0 (by exact rfl) (by exact rfl) (by exact rfl) (by exact rfl) (by exact rfl) ?_))
      ((refine Seq.q (by exact rfl) ?_)); refine q_index_own T (by exact rfl) (by exact rfl) (by exact rfl) (by exact rfl) (by exact rfl) (by exact rfl) (by omega) (by omega) ?_
      refine Seq.stepK0 (k_store_row T (pre := [_, _]) (post := []) (by exact rfl) (by exact rfl) (by exact rfl) (by exact rfl) (by exact rfl) (by exact rfl) (by exact rfl) (by omega) ?_)
      ((refine Seq.end_ ?_; refine blkN ?_; refine thenN ?_; refine Wp.region ?_; refine Seq.q (by exact rfl) ?_; refine q_add (by exact rfl) (by exact rfl) (wrap_in (by omega)) ?_; refine Seq.q (by exact rfl) ?_; refine q_move (by exact rfl) ?_; refine Seq.end_ ?_))
      refine loopN ⟨b + 1, xs4.set y.var.toNat y.val, _, by omega, rfl, rfl, rfl, rfl, ?_, ?_, ?_⟩ (by omega) (by repeat (first | exact trivial | refine ⟨by exact rfl, ?_⟩)) (by repeat (first | exact List.Sublist.refl _ | exact List.nil_sublist _ | refine List.Sublist.cons_cons _ ?_ | refine List.Sublist.cons _ ?_))
      · rw [List.map_set]; exact hset _ _
      · intro z hz
        rcases List.mem_or_eq_of_mem_set hz with hz | rfl
        · exact hx4 z hz
        · exact i3
      · rw [List.take_add_one, hy, he4]
        exact (putF_snoc _ _ _).symm
    · ((refine Seq.done ?_; refine Wp.seq ?_; refine Wp.cond_false (by exact rfl) ?_; refine Wp.exit ?_; refine thenX ?_; refine loopX ?_; refine blkX (by exact rfl) ?_; refine blkN ?_; refine thenN ?_; refine Wp.region ?_; refine Seq.q (by exact rfl) ?_; refine q_add (by exact rfl) (by exact rfl) (wrap_in (by omega)) ?_; refine Seq.q (by exact rfl) ?_; refine q_move (by exact rfl) ?_; refine Seq.end_ ?_))
      refine loopN ⟨k + 1, xs4, Hs, by omega, rfl, rfl, rfl, rfl, hO, hx4, ?_⟩ (by omega) (by repeat (first | exact trivial | refine ⟨by exact rfl, ?_⟩)) (by repeat (first | exact List.Sublist.refl _ | exact List.nil_sublist _ | refine List.Sublist.cons_cons _ ?_ | refine List.Sublist.cons _ ?_))
      rw [List.take_add_one, hhk, List.map_append, putHs_append, ← he1, he4, List.take_of_length_le (by omega)]
      show _ = putF xs1 (wrH t (jobH ls h))
      rw [hwr]
  · ((refine Seq.done ?_; refine Wp.seq ?_; refine Wp.cond_false (by exact rfl) ?_; refine Wp.exit ?_; refine thenX ?_; refine loopX ?_; refine blkX (by exact rfl) ?_; refine thenN ?_; refine Wp.seq ?_; refine Wp.region ?_; refine Seq.q (by exact rfl) ?_; refine q_move (by exact rfl) ?_; refine Seq.q (by exact rfl) ?_; refine q_assign (by exact rfl) ?_; refine Seq.done ?_; refine Wp.ret ?_))
    refine ret1F rfl rfl (fun fz3 hle3 hf => ?_)
    obtain ⟨A, c, hv, hsl⟩ := sl_ints hO (fun p hp => hf p (by simp [hp])) (by omega) hx1
    refine ⟨rfl, A, c, hv, ?_⟩
    rw [List.take_of_length_le (by omega), ref_ord] at he1
    rw [he1] at hsl
    exact hsl
end Go.Proofs.Ytfidaamledbmpaa
