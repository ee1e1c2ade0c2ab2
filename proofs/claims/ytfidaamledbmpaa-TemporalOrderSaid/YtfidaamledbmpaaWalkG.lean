/- The error of a tick, and the validity of a plan, as the given program computes them. Conditions: the arguments read as data, the task is right. -/
import Derived.Test.YtfidaamledbmpaaWalkF
namespace Go.Proofs.Ytfidaamledbmpaa
open Go.Lx Go.RowKit
attribute [local instance 10] Classical.propDecidable

def InterH (t : Temporal) (a b : Hap) : Prop := MeetP (wrH t a) (wrH t b) ∨ MeetP (wrH t a) (rdH t b) ∨ MeetP (rdH t a) (wrH t b)
def PairI (t : Temporal) (hs : List Hap) : Prop := ∃ (i : Nat) (a : Hap), hs[i]? = some a ∧ ∃ (k : Nat) (b : Hap), k < i ∧ hs[k]? = some b ∧ InterH t a b
def overL (t : Temporal) (l : Launch) : List Fact := ((t.jobs[l.job.toNat]?).map (·.over)).getD []
def PreP (t : Temporal) (s : List Int) (hs : List Hap) : Prop := ∀ h ∈ hs, HoldsP (rdH t h) s
def OvrP (t : Temporal) (ls : List Launch) (tick : Int) (s : List Int) : Prop := ∀ l ∈ ls, l.at_ ≤ tick → tick < endM t l → HoldsP (overL t l) s
noncomputable def tickM (t : Temporal) (ls : List Launch) (tick : Int) (s : List Int) (hs : List Hap) (s' : List Int) : Int :=
  if OverP t ls tick then 18 else if PairI t hs then 17 else if ¬ PreP t s hs then 12 else if ¬ OvrP t ls tick s' then 16 else 0

theorem inter_of {t : Temporal} {a b : Hap} {ja jb : Job} (h1 : wrH t a = wrJ ja a.2) (h2 : rdH t a = rdJ ja a.2) (h3 : wrH t b = wrJ jb b.2) (h4 : rdH t b = rdJ jb b.2) : InterH t a b ↔ InterP ja a.2 jb b.2 := by
  unfold InterH InterP
  rw [h1, h2, h3, h4]

set_option maxHeartbeats 2000000 in
theorem tick_f {fz : FZ} {t : Temporal} {A1 : Option Addr} {n1 c1 : Nat} {A2 : Option Addr} {n2 c2 : Nat} {A3 : Option Addr} {n3 c3 : Nat} {A4 : Option Addr} {n4 c4 : Nat} (ht : TempR fz t A1 n1 c1 A2 n2 c2 A3 n3 c3 A4 n4 c4)
    {C : Option Addr} {nl d' : Nat} {ls : List Launch} (hll : Sl launchL fz C nl d' ls) (hd : DurOk t) (hlo : ∀ l ∈ ls, LaunchOk t l) {tick : Int}
    {S : Option Addr} {n c : Nat} {s : List Int} (hs : Sl intL fz S n c s) (hn : n ≤ 1000000) {B : Option Addr} {m d : Nat} {hs' : List Hap} (hl : Sl hapL fz B m d hs') (hok : ∀ h ∈ hs', HapOk t h) (hw : WrOk t n) :
    GFn Try.prog 31 [.agg #[.slice A1 n1 c1, .slice A2 n2 c2, .slice A3 n3 c3, .slice A4 n4 c4], .slice C nl d', .int .i64 tick, .slice S n c, .slice B m d] fz []
      fun v fz' H' => H' = [] ∧ ∃ A k c, v = .tuple #[.slice A k c, errV (tickM t ls tick s hs' (afterM t s hs'))] ∧ (tickM t ls tick s hs' (afterM t s hs') = 0 → k = n ∧ Sl intL fz' A k c (afterM t s hs')) := by
  (refine GFn.of_wp Try.func31 rfl Try.ntmps31 rfl rfl (fun w0 => ?_))
  have lm := hl.len
  have ll := hll.len
  have hm := hl.short
  have hml := hll.short
  refine Wp.seq (Wp.region (Seq.stepK (by exact rfl) (k_box _ (by exact rfl) (by exact rfl) (fun gt => ?_))))
  ((refine Seq.q (by exact rfl) ?_; refine q_assign (by exact rfl) ?_; refine Seq.q (by exact rfl) ?_; refine q_assign (by exact rfl) ?_; refine Seq.done ?_; refine Wp.seq ?_; refine Wp.seq ?_; refine Wp.region ?_; refine Seq.q (by exact rfl) ?_; refine q_load_own_all T 0 (by exact rfl) (by exact rfl) (by exact rfl) (by exact rfl) (by exact rfl) ?_; refine Seq.q (by exact rfl) ?_; refine q_move (by exact rfl) ?_; refine Seq.q (by exact rfl) ?_; refine q_move (by exact rfl) ?_))
  (((refine Seq.q (by exact rfl) ?_)); refine q_callB (by exact rfl) (by exact rfl) (overlaps_q ht hll hd hlo (tick := tick)) (fun h1 => ?_) (fun h1 => ?_))
  · ((refine Seq.done ?_; refine Wp.cond_true (by exact rfl) ?_; refine Wp.seq ?_; refine Wp.region ?_; refine Seq.q (by exact rfl) ?_; refine q_makeInterface T (by exact rfl) (by exact rfl) (by exact rfl) ?_; refine Seq.q (by exact rfl) ?_; refine q_assign (by exact rfl) ?_; refine Seq.q (by exact rfl) ?_; refine q_assign (by exact rfl) ?_; refine Seq.done ?_; refine Wp.ret ?_; refine thenR ?_))
    have he : tickM t ls tick s hs' (afterM t s hs') = 18 := if_pos (of_decide_eq_true h1)
    rw [he]
    exact ret2 rfl rfl rfl (by repeat (first | exact List.Sublist.refl _ | exact List.nil_sublist _ | refine List.Sublist.cons_cons _ ?_ | refine List.Sublist.cons _ ?_)) ⟨rfl, none, 0, 0, rfl, fun h => absurd h (by decide)⟩
  replace h1 := of_decide_eq_false h1
  ((refine Seq.done ?_; refine Wp.cond_false (by exact rfl) ?_; refine Wp.skip ?_; refine thenN ?_; refine Wp.seq ?_; refine Wp.seq ?_; refine Wp.region ?_; refine Seq.q (by exact rfl) ?_; refine q_move (by exact rfl) ?_; refine Seq.q (by exact rfl) ?_; refine q_len_slice T (by exact rfl) (by exact rfl) (by exact rfl) ?_; refine Seq.q (by exact rfl) ?_; refine q_move (by exact rfl) ?_; refine Seq.done ?_; refine Wp.block ?_))
  refine Wp.loop (fun q σ fz' H' => ∃ i : Nat, i ≤ m ∧ q = m - i ∧ σ = [(26, .int .i64 i), (25, .int .i64 m), (1, .slice C nl d'), (2, .int .i64 tick), (3, .slice S n c), (4, .slice B m d), (5, .pointer (some ⟨gt, 0, none⟩))] ∧ fz = fz' ∧
      H' = [(gt, .cells #[.slice A1 n1 c1, .slice A2 n2 c2, .slice A3 n3 c3, .slice A4 n4 c4] 26 (0, 0))] ∧ ∀ u, u < i → ∀ a, hs'[u]? = some a → ¬ ∃ (k : Nat) (b : Hap), k < u ∧ hs'[k]? = some b ∧ InterH t a b)
    ⟨0, Nat.zero_le _, rfl, rfl, rfl, rfl, fun u hu => absurd hu (by omega)⟩ (by repeat (first | exact trivial | refine ⟨by exact rfl, ?_⟩)) (by repeat (first | exact List.Sublist.refl _ | exact List.nil_sublist _ | refine List.Sublist.cons_cons _ ?_ | refine List.Sublist.cons _ ?_)) ?_
  rintro q σ fz' H' ⟨i, hi, rfl, rfl, rfl, rfl, hin⟩
  ((refine Wp.seq ?_; refine Wp.region ?_))
  (((refine Seq.q (by exact rfl) ?_)); (refine q_lssD (by exact rfl) (by exact rfl) (fun hlt => ?_) (fun hge => ?_)))
  · ((refine Seq.done ?_; refine Wp.seq ?_; refine Wp.cond_true (by exact rfl) ?_; refine Wp.skip ?_; refine thenN ?_; refine Wp.seq ?_; refine Wp.block ?_; refine Wp.seq ?_; refine Wp.region ?_; refine Seq.q (by exact rfl) ?_; refine q_move (by exact rfl) ?_; refine Seq.q (by exact rfl) ?_; refine q_assign (by exact rfl) ?_; refine Seq.done ?_; refine Wp.seq ?_; refine Wp.region ?_; refine Seq.q (by exact rfl) ?_; refine q_move (by exact rfl) ?_; refine Seq.q (by exact rfl) ?_; refine q_move (by exact rfl) ?_; refine Seq.done ?_; refine Wp.block ?_))
    obtain ⟨a, ha⟩ := get_some (l := hs') (k := i) (by omega)
    obtain ⟨ka, ja, hka, hja, wa, ra⟩ := hap_job (hok a (List.mem_of_getElem? ha))
    refine Wp.loop (fun q σ fz' H' => ∃ k : Nat, k ≤ i ∧ q = i - k ∧ σ = [(30, .int .i64 k), (29, .int .i64 i), (12, .int .i64 i), (26, .int .i64 i), (25, .int .i64 m), (1, .slice C nl d'), (2, .int .i64 tick), (3, .slice S n c), (4, .slice B m d), (5, .pointer (some ⟨gt, 0, none⟩))] ∧ fz = fz' ∧
        H' = [(gt, .cells #[.slice A1 n1 c1, .slice A2 n2 c2, .slice A3 n3 c3, .slice A4 n4 c4] 26 (0, 0))] ∧ ∀ u, u < k → ∀ b, hs'[u]? = some b → ¬ InterH t a b)
      ⟨0, Nat.zero_le _, rfl, rfl, rfl, rfl, fun u hu => absurd hu (by omega)⟩ (by repeat (first | exact trivial | refine ⟨by exact rfl, ?_⟩)) (by repeat (first | exact List.Sublist.refl _ | exact List.nil_sublist _ | refine List.Sublist.cons_cons _ ?_ | refine List.Sublist.cons _ ?_)) ?_
    rintro q σ fz' H' ⟨k, hk, rfl, rfl, rfl, rfl, hkn⟩
    ((refine Wp.seq ?_; refine Wp.region ?_))
    (((refine Seq.q (by exact rfl) ?_)); (refine q_lssD (by exact rfl) (by exact rfl) (fun hlt2 => ?_) (fun hge2 => ?_)))
    · ((refine Seq.done ?_; refine Wp.seq ?_; refine Wp.cond_true (by exact rfl) ?_; refine Wp.skip ?_; refine thenN ?_; refine Wp.seq ?_; refine Wp.block ?_; refine Wp.seq ?_; refine Wp.region ?_; refine Seq.q (by exact rfl) ?_; refine q_move (by exact rfl) ?_; refine Seq.q (by exact rfl) ?_; refine q_assign (by exact rfl) ?_; refine Seq.done ?_; refine Wp.seq ?_; refine Wp.draw (by decide +kernel) T.mixed (by kernel_rfl) (by kernel_rfl) ?_; refine QL.q ?_; refine q_load_own_all T 0 (by exact rfl) (by exact rfl) (by exact rfl) (by exact rfl) (by exact rfl) ?_; refine QL.q ?_; refine q_move (by exact rfl) ?_; refine QL.q ?_; refine q_move (by exact rfl) ?_))
      obtain ⟨b, hb⟩ := get_some (l := hs') (k := k) (by omega)
      obtain ⟨kb, jb, hkb, hjb, wb, rb⟩ := hap_job (hok b (List.mem_of_getElem? hb))
      have hiff := inter_of wa ra wb rb
      (((refine QL.q ?_)); refine q_index T i (by exact rfl) (by exact rfl) (by exact rfl) (by exact rfl) (by exact rfl) (by exact rfl) hl (by first | rfl | omega) ha (fun p hp => ?_))
      (((refine QL.q ?_)); refine q_load_at T (by exact rfl) (by exact rfl) (by exact rfl) hp (by exact rfl) ?_)
      rintro _ ⟨rfl, i1⟩
      ((refine QL.q ?_; refine q_move (by exact rfl) ?_; refine QL.q ?_; refine q_move (by exact rfl) ?_))
      (((refine QL.q ?_)); refine q_index T k (by exact rfl) (by exact rfl) (by exact rfl) (by exact rfl) (by exact rfl) (by exact rfl) hl (by first | rfl | omega) hb (fun p2 hp2 => ?_))
      (((refine QL.q ?_)); refine q_load_at T (by exact rfl) (by exact rfl) (by exact rfl) hp2 (by exact rfl) ?_)
      rintro _ ⟨rfl, i2⟩
      (((refine QL.q ?_)); refine q_callB (by exact rfl) (by exact rfl) (tinterfere_q ht hka hja hkb hjb) (fun h2 => ?_) (fun h2 => ?_))
      · ((refine QL.done ?_; refine thenN ?_; refine Wp.cond_true (by exact rfl) ?_; refine Wp.seq ?_; refine Wp.region ?_; refine Seq.q (by exact rfl) ?_; refine q_makeInterface T (by exact rfl) (by exact rfl) (by exact rfl) ?_; refine Seq.q (by exact rfl) ?_; refine q_assign (by exact rfl) ?_; refine Seq.q (by exact rfl) ?_; refine q_assign (by exact rfl) ?_; refine Seq.done ?_; refine Wp.ret ?_; refine blkR ?_; refine thenR ?_; refine loopR ?_; refine blkR ?_; refine blkR ?_; refine thenR ?_; refine loopR ?_; refine blkR ?_; refine thenR ?_))
        have he : tickM t ls tick s hs' (afterM t s hs') = 17 := by
          unfold tickM
          rw [if_neg h1, if_pos ⟨i, a, ha, k, b, by omega, hb, hiff.2 (of_decide_eq_true h2)⟩]
        rw [he]
        exact ret2 rfl rfl rfl (by repeat (first | exact List.Sublist.refl _ | exact List.nil_sublist _ | refine List.Sublist.cons_cons _ ?_ | refine List.Sublist.cons _ ?_)) ⟨rfl, none, 0, 0, rfl, fun h => absurd h (by decide)⟩
      · ((refine QL.done ?_; refine thenN ?_; refine Wp.cond_false (by exact rfl) ?_; refine Wp.skip ?_; refine blkN ?_; refine thenN ?_; refine Wp.region ?_; refine Seq.q (by exact rfl) ?_; refine q_add (by exact rfl) (by exact rfl) (wrap_in (by omega)) ?_; refine Seq.q (by exact rfl) ?_; refine q_move (by exact rfl) ?_; refine Seq.end_ ?_))
        exact loopN ⟨k + 1, by omega, rfl, rfl, rfl, rfl, lt_succ_cases hkn (fun z hz hc => by rw [hb] at hz; injection hz with hz; subst hz; exact of_decide_eq_false h2 (hiff.1 hc))⟩ (by omega) (by repeat (first | exact trivial | refine ⟨by exact rfl, ?_⟩)) (by repeat (first | exact List.Sublist.refl _ | exact List.nil_sublist _ | refine List.Sublist.cons_cons _ ?_ | refine List.Sublist.cons _ ?_))
    · ((refine Seq.done ?_; refine Wp.seq ?_; refine Wp.cond_false (by exact rfl) ?_; refine Wp.exit ?_; refine thenX ?_; refine loopX ?_; refine blkX (by exact rfl) ?_; refine blkN ?_; refine thenN ?_; refine Wp.region ?_; refine Seq.q (by exact rfl) ?_; refine q_add (by exact rfl) (by exact rfl) (wrap_in (by omega)) ?_; refine Seq.q (by exact rfl) ?_; refine q_move (by exact rfl) ?_; refine Seq.end_ ?_))
      exact loopN ⟨i + 1, by omega, rfl, rfl, rfl, rfl, lt_succ_cases hin (fun z hz ⟨u, b, hu, hb, hc⟩ => by rw [ha] at hz; injection hz with hz; subst hz; exact hkn u (by omega) b hb hc)⟩ (by omega) (by repeat (first | exact trivial | refine ⟨by exact rfl, ?_⟩)) (by repeat (first | exact List.Sublist.refl _ | exact List.nil_sublist _ | refine List.Sublist.cons_cons _ ?_ | refine List.Sublist.cons _ ?_))
  have h2 : ¬ PairI t hs' := fun ⟨u, a, hu, hc⟩ => hin u (by have := lt_of_get hu; omega) a hu hc
  clear hin
  ((refine Seq.done ?_; refine Wp.seq ?_; refine Wp.cond_false (by exact rfl) ?_; refine Wp.exit ?_; refine thenX ?_; refine loopX ?_; refine blkX (by exact rfl) ?_; refine thenN ?_; refine Wp.seq ?_; refine Wp.seq ?_; refine Wp.region ?_; refine Seq.q (by exact rfl) ?_; refine q_move (by exact rfl) ?_; refine Seq.q (by exact rfl) ?_; refine q_len_slice T (by exact rfl) (by exact rfl) (by exact rfl) ?_; refine Seq.q (by exact rfl) ?_; refine q_move (by exact rfl) ?_; refine Seq.done ?_; refine Wp.block ?_))
  refine Wp.loop (fun q σ fz' H' => ∃ i : Nat, i ≤ m ∧ q = m - i ∧ σ = [(48, .int .i64 i), (47, .int .i64 m), (46, .slice B m d), (1, .slice C nl d'), (2, .int .i64 tick), (3, .slice S n c), (4, .slice B m d), (5, .pointer (some ⟨gt, 0, none⟩))] ∧ fz = fz' ∧
      H' = [(gt, .cells #[.slice A1 n1 c1, .slice A2 n2 c2, .slice A3 n3 c3, .slice A4 n4 c4] 26 (0, 0))] ∧ ∀ u, u < i → ∀ a, hs'[u]? = some a → HoldsP (rdH t a) s)
    ⟨0, Nat.zero_le _, rfl, rfl, rfl, rfl, fun u hu => absurd hu (by omega)⟩ (by repeat (first | exact trivial | refine ⟨by exact rfl, ?_⟩)) (by repeat (first | exact List.Sublist.refl _ | exact List.nil_sublist _ | refine List.Sublist.cons_cons _ ?_ | refine List.Sublist.cons _ ?_)) ?_
  rintro q σ fz' H' ⟨i, hi, rfl, rfl, rfl, rfl, hin⟩
  ((refine Wp.seq ?_; refine Wp.region ?_))
  (((refine Seq.q (by exact rfl) ?_)); (refine q_lssD (by exact rfl) (by exact rfl) (fun hlt => ?_) (fun hge => ?_)))
  · ((refine Seq.done ?_; refine Wp.seq ?_; refine Wp.cond_true (by exact rfl) ?_; refine Wp.skip ?_; refine thenN ?_; refine Wp.seq ?_; refine Wp.block ?_; refine Wp.seq ?_; refine Wp.region ?_))
    obtain ⟨a, ha⟩ := get_some (l := hs') (k := i) (by omega)
    obtain ⟨ka, ja, hka, hja, wa, ra⟩ := hap_job (hok a (List.mem_of_getElem? ha))
    (((refine Seq.q (by exact rfl) ?_)); refine q_index T i (by exact rfl) (by exact rfl) (by exact rfl) (by exact rfl) (by exact rfl) (by exact rfl) hl (by first | rfl | omega) ha (fun p hp => ?_))
    (((refine Seq.q (by exact rfl) ?_)); refine q_load_at T (by exact rfl) (by exact rfl) (by exact rfl) hp (by exact rfl) ?_)
    rintro _ ⟨rfl, i1⟩
    refine Seq.stepK (by exact rfl) (k_alloc T (by exact rfl) (by exact rfl) (fun g => ?_))
    ((refine Seq.stepK0 (k_store0 T (by exact rfl) (by exact rfl) (by exact rfl) (by exact rfl) (by exact rfl) (by exact rfl) ?_); refine Seq.done ?_; refine Wp.seq ?_; refine Wp.region ?_; refine Seq.q (by exact rfl) ?_; refine q_load_own_all T 1 (by exact rfl) (by exact rfl) (by exact rfl) (by exact rfl) (by exact rfl) ?_; refine Seq.q (by exact rfl) ?_; refine q_load_own_all T 0 (by exact rfl) (by exact rfl) (by exact rfl) (by exact rfl) (by exact rfl) ?_))
    obtain ⟨F, f, cf, hsl, hq⟩ := treads_q ht hka hja (e := a.2)
    (((refine Seq.q (by exact rfl) ?_)); refine q_call (by exact rfl) (by exact rfl) hq ?_)
    ((refine Seq.q (by exact rfl) ?_; refine q_move (by exact rfl) ?_))
    (((refine Seq.q (by exact rfl) ?_)); refine q_callB (by exact rfl) (by exact rfl) (tholds_q hsl hs) (fun h3 => ?_) (fun h3 => ?_))
    · ((refine Seq.q (by exact rfl) ?_; refine q_not (by exact rfl) ?_; refine Seq.done ?_; refine Wp.cond_false (by exact rfl) ?_; refine Wp.skip ?_; refine blkN ?_; refine thenN ?_; refine Wp.region ?_; refine Seq.q (by exact rfl) ?_; refine q_add (by exact rfl) (by exact rfl) (wrap_in (by omega)) ?_; refine Seq.q (by exact rfl) ?_; refine q_move (by exact rfl) ?_; refine Seq.end_ ?_))
      exact loopN ⟨i + 1, by omega, rfl, rfl, rfl, rfl, lt_succ_cases hin (fun z hz => by rw [ha] at hz; injection hz with hz; subst hz; rw [ra]; exact of_decide_eq_true h3)⟩ (by omega) (by repeat (first | exact trivial | refine ⟨by exact rfl, ?_⟩)) (by repeat (first | exact List.Sublist.refl _ | exact List.nil_sublist _ | refine List.Sublist.cons_cons _ ?_ | refine List.Sublist.cons _ ?_))
    · ((refine Seq.q (by exact rfl) ?_; refine q_not (by exact rfl) ?_; refine Seq.done ?_; refine Wp.cond_true (by exact rfl) ?_; refine Wp.seq ?_; refine Wp.region ?_; refine Seq.q (by exact rfl) ?_; refine q_makeInterface T (by exact rfl) (by exact rfl) (by exact rfl) ?_; refine Seq.q (by exact rfl) ?_; refine q_assign (by exact rfl) ?_; refine Seq.q (by exact rfl) ?_; refine q_assign (by exact rfl) ?_; refine Seq.done ?_; refine Wp.ret ?_; refine blkR ?_; refine thenR ?_; refine loopR ?_; refine blkR ?_; refine thenR ?_))
      have he : tickM t ls tick s hs' (afterM t s hs') = 12 := by
        unfold tickM
        rw [if_neg h1, if_neg h2, if_pos (fun hc => of_decide_eq_false h3 (by rw [← ra]; exact hc a (List.mem_of_getElem? ha)))]
      rw [he]
      exact ret2 rfl rfl rfl (by repeat (first | exact List.Sublist.refl _ | exact List.nil_sublist _ | refine List.Sublist.cons_cons _ ?_ | refine List.Sublist.cons _ ?_)) ⟨rfl, none, 0, 0, rfl, fun h => absurd h (by decide)⟩
  have h3 : PreP t s hs' := fun a ha => by
    obtain ⟨u, hu⟩ := List.mem_iff_getElem?.1 ha
    exact hin u (by have := lt_of_get hu; omega) a hu
  clear hin
  ((refine Seq.done ?_; refine Wp.seq ?_; refine Wp.cond_false (by exact rfl) ?_; refine Wp.exit ?_; refine thenX ?_; refine loopX ?_; refine blkX (by exact rfl) ?_; refine thenN ?_; refine Wp.seq ?_; refine Wp.region ?_; refine Seq.q (by exact rfl) ?_; refine q_load_own_all T 0 (by exact rfl) (by exact rfl) (by exact rfl) (by exact rfl) (by exact rfl) ?_; refine Seq.q (by exact rfl) ?_; refine q_move (by exact rfl) ?_; refine Seq.q (by exact rfl) ?_; refine q_move (by exact rfl) ?_))
  refine Seq.stepK (by exact rfl) (k_call [] [_] (by exact rfl) (by exact rfl) (by exact rfl) (after_f ht hs hn hl hok hw) (fun v fz1 Hs hle1 hO => ?_))
  obtain ⟨rfl, A, c', rfl, hout⟩ := hO
  replace ht := ht.mono hle1
  replace hll := hll.mono hle1
  ((refine Seq.q (by exact rfl) ?_; refine q_assign (by exact rfl) ?_; refine Seq.done ?_; refine Wp.seq ?_; refine Wp.seq ?_; refine Wp.region ?_; refine Seq.q (by exact rfl) ?_; refine q_move (by exact rfl) ?_; refine Seq.q (by exact rfl) ?_; refine q_len_slice T (by exact rfl) (by exact rfl) (by exact rfl) ?_; refine Seq.q (by exact rfl) ?_; refine q_move (by exact rfl) ?_; refine Seq.done ?_; refine Wp.block ?_))
  refine Wp.loop (fun q σ fz' H' => ∃ i : Nat, i ≤ nl ∧ q = nl - i ∧ σ = [(66, .int .i64 i), (65, .int .i64 nl), (64, .slice C nl d'), (16, .slice A n c'), (2, .int .i64 tick), (5, .pointer (some ⟨gt, 0, none⟩))] ∧ fz1 = fz' ∧
      H' = [(gt, .cells #[.slice A1 n1 c1, .slice A2 n2 c2, .slice A3 n3 c3, .slice A4 n4 c4] 26 (0, 0))] ∧ ∀ u, u < i → ∀ l, ls[u]? = some l → l.at_ ≤ tick → tick < endM t l → HoldsP (overL t l) (afterM t s hs'))
    ⟨0, Nat.zero_le _, rfl, rfl, rfl, rfl, fun u hu => absurd hu (by omega)⟩ (by repeat (first | exact trivial | refine ⟨by exact rfl, ?_⟩)) (by repeat (first | exact List.Sublist.refl _ | exact List.nil_sublist _ | refine List.Sublist.cons_cons _ ?_ | refine List.Sublist.cons _ ?_)) ?_
  rintro q σ fz' H' ⟨i, hi, rfl, rfl, rfl, rfl, hin⟩
  ((refine Wp.seq ?_; refine Wp.region ?_))
  (((refine Seq.q (by exact rfl) ?_)); (refine q_lssD (by exact rfl) (by exact rfl) (fun hlt => ?_) (fun hge => ?_)))
  · ((refine Seq.done ?_; refine Wp.seq ?_; refine Wp.cond_true (by exact rfl) ?_; refine Wp.skip ?_; refine thenN ?_; refine Wp.seq ?_; refine Wp.block ?_; refine Wp.seq ?_; refine Wp.region ?_))
    obtain ⟨l, hx⟩ := get_some (l := ls) (k := i) (by omega)
    have hlk := hlo l (List.mem_of_getElem? hx)
    obtain ⟨kk, j, hkk, hj, he⟩ := launch_job hlk
    have hover : overL t l = j.over := by simp [overL, hkk, hj]
    have hbd := end_bd hlk hd
    have hat := hlk.2.2
    (((refine Seq.q (by exact rfl) ?_)); refine q_index T i (by exact rfl) (by exact rfl) (by exact rfl) (by exact rfl) (by exact rfl) (by exact rfl) hll (by first | rfl | omega) hx (fun p hp => ?_))
    (((refine Seq.q (by exact rfl) ?_)); refine q_load_at T (by exact rfl) (by exact rfl) (by exact rfl) hp (by exact rfl) ?_)
    rintro _ ⟨rfl, i1, i2⟩
    refine Seq.stepK (by exact rfl) (k_alloc T (by exact rfl) (by exact rfl) (fun g => ?_))
    ((refine Seq.stepK0 (k_store0 T (by exact rfl) (by exact rfl) (by exact rfl) (by exact rfl) (by exact rfl) (by exact rfl) ?_); refine Seq.done ?_; refine Wp.seq ?_; refine Wp.region ?_; refine Seq.q (by exact rfl) ?_; refine q_fieldAddr T (by exact rfl) (by exact rfl) (by exact rfl) (by exact rfl) (by exact rfl) (by exact rfl) ?_; refine Seq.q (by exact rfl) ?_; refine q_load_own T 0 (by exact rfl) (by exact rfl) (by exact rfl) (by exact rfl) (by exact rfl) ?_; refine Seq.q (by exact rfl) ?_; refine q_move (by exact rfl) ?_))
    (((refine Seq.q (by exact rfl) ?_)); (refine q_leqD (by exact rfl) (by exact rfl) (fun h4 => ?_) (fun h4 => ?_)))
    · ((refine Seq.q (by exact rfl) ?_; refine q_move (by exact rfl) ?_; refine Seq.guard_yes (by exact rfl) (by exact rfl) (by exact rfl) ?_; refine q_move (by exact rfl) ?_; refine Seq.guard_yes (by exact rfl) (by exact rfl) (by exact rfl) ?_; refine q_load_own_all T 1 (by exact rfl) (by exact rfl) (by exact rfl) (by exact rfl) (by exact rfl) ?_; refine Seq.guard_yes (by exact rfl) (by exact rfl) (by exact rfl) ?_; refine q_load_own_all T 0 (by exact rfl) (by exact rfl) (by exact rfl) (by exact rfl) (by exact rfl) ?_))
      (((refine Seq.guard_yes (by exact rfl) (by exact rfl) (by exact rfl) ?_)); refine q_call (by exact rfl) (by exact rfl) (tend_q ht hkk hj (by unfold I64; omega)) ?_)
      (skip)
      rw [← he]
      (((refine Seq.guard_yes (by exact rfl) (by exact rfl) (by exact rfl) ?_)); (refine q_lssD (by exact rfl) (by exact rfl) (fun h5 => ?_) (fun h5 => ?_)))
      · ((refine Seq.q (by exact rfl) ?_; refine q_pick_true (by exact rfl) (by exact rfl) ?_; refine Seq.q (by exact rfl) ?_; refine q_move (by exact rfl) ?_; refine Seq.guard_yes (by exact rfl) (by exact rfl) (by exact rfl) ?_; refine q_fieldAddr T (by exact rfl) (by exact rfl) (by exact rfl) (by exact rfl) (by exact rfl) (by exact rfl) ?_; refine Seq.guard_yes (by exact rfl) (by exact rfl) (by exact rfl) ?_; refine q_load_own T 1 (by exact rfl) (by exact rfl) (by exact rfl) (by exact rfl) (by exact rfl) ?_; refine Seq.guard_yes (by exact rfl) (by exact rfl) (by exact rfl) ?_; refine q_fieldAddr T (by exact rfl) (by exact rfl) (by exact rfl) (by exact rfl) (by exact rfl) (by exact rfl) ?_; refine Seq.guard_yes (by exact rfl) (by exact rfl) (by exact rfl) ?_; refine q_load_own T 0 (by exact rfl) (by exact rfl) (by exact rfl) (by exact rfl) (by exact rfl) ?_))
        (((refine Seq.guard_yes (by exact rfl) (by exact rfl) (by exact rfl) ?_)); refine q_index T kk (by exact rfl) (by exact rfl) (by exact rfl) (by exact rfl) (by exact rfl) (by exact rfl) ht.jobs (by first | rfl | omega) hj (fun p2 hp2 => ?_))
        ((refine Seq.guard_yes (by exact rfl) (by exact rfl) (by exact rfl) ?_; refine q_fieldAddr T (by exact rfl) (by exact rfl) (by exact rfl) (by exact rfl) (by exact rfl) (by exact rfl) ?_))
        (((refine Seq.guard_yes (by exact rfl) (by exact rfl) (by exact rfl) ?_)); refine q_load_sl T (by exact rfl) (by exact rfl) (by exact rfl) hp2.over (fun F f cf hsl => ?_))
        ((refine Seq.guard_yes (by exact rfl) (by exact rfl) (by exact rfl) ?_; refine q_move (by exact rfl) ?_))
        (((refine Seq.guard_yes (by exact rfl) (by exact rfl) (by exact rfl) ?_)); refine q_callB (by exact rfl) (by exact rfl) (tholds_q hsl hout) (fun h6 => ?_) (fun h6 => ?_))
        · ((refine Seq.guard_yes (by exact rfl) (by exact rfl) (by exact rfl) ?_; refine q_not (by exact rfl) ?_; refine Seq.q (by exact rfl) ?_; refine q_pick_true (by exact rfl) (by exact rfl) ?_; refine Seq.done ?_; refine Wp.cond_false (by exact rfl) ?_; refine Wp.skip ?_; refine blkN ?_; refine thenN ?_; refine Wp.region ?_; refine Seq.q (by exact rfl) ?_; refine q_add (by exact rfl) (by exact rfl) (wrap_in (by omega)) ?_; refine Seq.q (by exact rfl) ?_; refine q_move (by exact rfl) ?_; refine Seq.end_ ?_))
          exact loopN ⟨i + 1, by omega, rfl, rfl, rfl, rfl, lt_succ_cases hin (fun z hz _ _ => by rw [hx] at hz; injection hz with hz; subst hz; rw [hover]; exact of_decide_eq_true h6)⟩ (by omega) (by repeat (first | exact trivial | refine ⟨by exact rfl, ?_⟩)) (by repeat (first | exact List.Sublist.refl _ | exact List.nil_sublist _ | refine List.Sublist.cons_cons _ ?_ | refine List.Sublist.cons _ ?_))
        · ((refine Seq.guard_yes (by exact rfl) (by exact rfl) (by exact rfl) ?_; refine q_not (by exact rfl) ?_; refine Seq.q (by exact rfl) ?_; refine q_pick_true (by exact rfl) (by exact rfl) ?_; refine Seq.done ?_; refine Wp.cond_true (by exact rfl) ?_; refine Wp.seq ?_; refine Wp.region ?_; refine Seq.q (by exact rfl) ?_; refine q_makeInterface T (by exact rfl) (by exact rfl) (by exact rfl) ?_; refine Seq.q (by exact rfl) ?_; refine q_assign (by exact rfl) ?_; refine Seq.q (by exact rfl) ?_; refine q_assign (by exact rfl) ?_; refine Seq.done ?_; refine Wp.ret ?_; refine blkR ?_; refine thenR ?_; refine loopR ?_; refine blkR ?_; refine thenR ?_))
          have he : tickM t ls tick s hs' (afterM t s hs') = 16 := by
            unfold tickM
            rw [if_neg h1, if_neg h2, if_neg (fun hc => hc h3), if_pos (fun hc => of_decide_eq_false h6 (by rw [← hover]; exact hc l (List.mem_of_getElem? hx) h4 h5))]
          rw [he]
          exact ret2 rfl rfl rfl (by repeat (first | exact List.Sublist.refl _ | exact List.nil_sublist _ | refine List.Sublist.cons_cons _ ?_ | refine List.Sublist.cons _ ?_)) ⟨rfl, none, 0, 0, rfl, fun h => absurd h (by decide)⟩
      · ((refine Seq.q (by exact rfl) ?_; refine q_pick_true (by exact rfl) (by exact rfl) ?_; refine Seq.q (by exact rfl) ?_; refine q_move (by exact rfl) ?_; refine Seq.guard_no (by exact rfl) (by exact rfl) (by exact rfl) (by exact rfl) ?_; refine Seq.guard_no (by exact rfl) (by exact rfl) (by exact rfl) (by exact rfl) ?_; refine Seq.guard_no (by exact rfl) (by exact rfl) (by exact rfl) (by exact rfl) ?_; refine Seq.guard_no (by exact rfl) (by exact rfl) (by exact rfl) (by exact rfl) ?_; refine Seq.guard_no (by exact rfl) (by exact rfl) (by exact rfl) (by exact rfl) ?_; refine Seq.guard_no (by exact rfl) (by exact rfl) (by exact rfl) (by exact rfl) ?_; refine Seq.guard_no (by exact rfl) (by exact rfl) (by exact rfl) (by exact rfl) ?_; refine Seq.guard_no (by exact rfl) (by exact rfl) (by exact rfl) (by exact rfl) ?_; refine Seq.guard_no (by exact rfl) (by exact rfl) (by exact rfl) (by exact rfl) ?_; refine Seq.guard_no (by exact rfl) (by exact rfl) (by exact rfl) (by exact rfl) ?_; refine Seq.q (by exact rfl) ?_; refine q_pick_false (by exact rfl) (by exact rfl) ?_; refine Seq.done ?_; refine Wp.cond_false (by exact rfl) ?_; refine Wp.skip ?_; refine blkN ?_; refine thenN ?_; refine Wp.region ?_; refine Seq.q (by exact rfl) ?_; refine q_add (by exact rfl) (by exact rfl) (wrap_in (by omega)) ?_; refine Seq.q (by exact rfl) ?_; refine q_move (by exact rfl) ?_; refine Seq.end_ ?_))
        exact loopN ⟨i + 1, by omega, rfl, rfl, rfl, rfl, lt_succ_cases hin (fun z hz _ hc => by rw [hx] at hz; injection hz with hz; subst hz; exact absurd hc h5)⟩ (by omega) (by repeat (first | exact trivial | refine ⟨by exact rfl, ?_⟩)) (by repeat (first | exact List.Sublist.refl _ | exact List.nil_sublist _ | refine List.Sublist.cons_cons _ ?_ | refine List.Sublist.cons _ ?_))
    · ((refine Seq.q (by exact rfl) ?_; refine q_move (by exact rfl) ?_; refine Seq.guard_no (by exact rfl) (by exact rfl) (by exact rfl) (by exact rfl) ?_; refine Seq.guard_no (by exact rfl) (by exact rfl) (by exact rfl) (by exact rfl) ?_; refine Seq.guard_no (by exact rfl) (by exact rfl) (by exact rfl) (by exact rfl) ?_; refine Seq.guard_no (by exact rfl) (by exact rfl) (by exact rfl) (by exact rfl) ?_; refine Seq.guard_no (by exact rfl) (by exact rfl) (by exact rfl) (by exact rfl) ?_; refine Seq.q (by exact rfl) ?_; refine q_pick_false (by exact rfl) (by exact rfl) ?_; refine Seq.q (by exact rfl) ?_; refine q_move (by exact rfl) ?_; refine Seq.guard_no (by exact rfl) (by exact rfl) (by exact rfl) (by exact rfl) ?_; refine Seq.guard_no (by exact rfl) (by exact rfl) (by exact rfl) (by exact rfl) ?_; refine Seq.guard_no (by exact rfl) (by exact rfl) (by exact rfl) (by exact rfl) ?_; refine Seq.guard_no (by exact rfl) (by exact rfl) (by exact rfl) (by exact rfl) ?_; refine Seq.guard_no (by exact rfl) (by exact rfl) (by exact rfl) (by exact rfl) ?_; refine Seq.guard_no (by exact rfl) (by exact rfl) (by exact rfl) (by exact rfl) ?_; refine Seq.guard_no (by exact rfl) (by exact rfl) (by exact rfl) (by exact rfl) ?_; refine Seq.guard_no (by exact rfl) (by exact rfl) (by exact rfl) (by exact rfl) ?_; refine Seq.guard_no (by exact rfl) (by exact rfl) (by exact rfl) (by exact rfl) ?_; refine Seq.guard_no (by exact rfl) (by exact rfl) (by exact rfl) (by exact rfl) ?_; refine Seq.q (by exact rfl) ?_; refine q_pick_false (by exact rfl) (by exact rfl) ?_; refine Seq.done ?_; refine Wp.cond_false (by exact rfl) ?_; refine Wp.skip ?_; refine blkN ?_; refine thenN ?_; refine Wp.region ?_; refine Seq.q (by exact rfl) ?_; refine q_add (by exact rfl) (by exact rfl) (wrap_in (by omega)) ?_; refine Seq.q (by exact rfl) ?_; refine q_move (by exact rfl) ?_; refine Seq.end_ ?_))
      exact loopN ⟨i + 1, by omega, rfl, rfl, rfl, rfl, lt_succ_cases hin (fun z hz hc => by rw [hx] at hz; injection hz with hz; subst hz; exact absurd hc h4)⟩ (by omega) (by repeat (first | exact trivial | refine ⟨by exact rfl, ?_⟩)) (by repeat (first | exact List.Sublist.refl _ | exact List.nil_sublist _ | refine List.Sublist.cons_cons _ ?_ | refine List.Sublist.cons _ ?_))
  · ((refine Seq.done ?_; refine Wp.seq ?_; refine Wp.cond_false (by exact rfl) ?_; refine Wp.exit ?_; refine thenX ?_; refine loopX ?_; refine blkX (by exact rfl) ?_; refine thenN ?_; refine Wp.seq ?_; refine Wp.region ?_; refine Seq.q (by exact rfl) ?_; refine q_move (by exact rfl) ?_; refine Seq.q (by exact rfl) ?_; refine q_assign (by exact rfl) ?_; refine Seq.q (by exact rfl) ?_; refine q_assign (by exact rfl) ?_; refine Seq.done ?_; refine Wp.ret ?_))
    have h4 : OvrP t ls tick (afterM t s hs') := fun l hl' => by
      obtain ⟨u, hu⟩ := List.mem_iff_getElem?.1 hl'
      exact hin u (by have := lt_of_get hu; omega) l hu
    have he : tickM t ls tick s hs' (afterM t s hs') = 0 := by
      unfold tickM
      rw [if_neg h1, if_neg h2, if_neg (fun hc => hc h3), if_neg (fun hc => hc h4)]
    rw [he]
    exact ret2 rfl rfl rfl (by repeat (first | exact List.Sublist.refl _ | exact List.nil_sublist _ | refine List.Sublist.cons_cons _ ?_ | refine List.Sublist.cons _ ?_)) ⟨rfl, A, n, c', rfl, fun _ => ⟨rfl, hout⟩⟩
end Go.Proofs.Ytfidaamledbmpaa
