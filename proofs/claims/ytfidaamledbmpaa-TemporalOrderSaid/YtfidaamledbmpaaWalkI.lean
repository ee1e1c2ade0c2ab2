/- The states of a plan, as the given program computes them. Conditions: the arguments read as data. -/
import Derived.Test.YtfidaamledbmpaaWalkH
namespace Go.Proofs.Ytfidaamledbmpaa
open Go.Lx Go.RowKit
attribute [local instance 10] Classical.propDecidable

/-- values that are slices -/
def RepG {α : Type} (L : Lay α) (fz : FZ) (vs : List Value) (ls : List (List α)) : Prop := vs.length = ls.length ∧ ∀ (i : Nat) (l : List α), ls[i]? = some l → ∃ A n c, vs[i]? = some (.slice A n c) ∧ Sl L fz A n c l
theorem RepG.nil {α : Type} {L : Lay α} {fz : FZ} : RepG L fz [] [] := ⟨rfl, by simp⟩
theorem RepG.snoc {α : Type} {L : Lay α} {fz : FZ} {vs : List Value} {ls : List (List α)} (h : RepG L fz vs ls) {A : Option Addr} {n c : Nat} {l : List α} (hl : Sl L fz A n c l) : RepG L fz (vs ++ [.slice A n c]) (ls ++ [l]) := by
  refine ⟨by simp [h.1], fun i k hk => ?_⟩
  by_cases hi : i < ls.length
  · rw [List.getElem?_append_left hi] at hk
    obtain ⟨A, n, c, h1, h2⟩ := h.2 i k hk
    exact ⟨A, n, c, by rw [List.getElem?_append_left (by have := h.1; omega)]; exact h1, h2⟩
  · have hi' := lt_of_get hk
    simp at hi'
    have : i = ls.length := by omega
    subst this
    rw [List.getElem?_append_right (Nat.le_refl _)] at hk
    simp at hk
    subst hk
    exact ⟨A, n, c, by rw [← h.1, List.getElem?_append_right (Nat.le_refl _)]; simp, hl⟩
theorem RepG.mono {α : Type} {L : Lay α} {fz fz' : FZ} (hle : Le fz fz') {vs : List Value} {ls : List (List α)} (h : RepG L fz vs ls) : RepG L fz' vs ls :=
  ⟨h.1, fun i l hl => by obtain ⟨A, n, c, h1, h2⟩ := h.2 i l hl; exact ⟨A, n, c, h1, h2.mono hle⟩⟩
theorem RepG.sl {α : Type} {L : Lay α} {fz : FZ} {vs : List Value} {ls : List (List α)} (h : RepG L fz vs ls) {A : Option Addr} {n c : Nat} (hr : RowS fz A n vs) (hn : vs.length = n) (h1 : n ≤ c) (h2 : c ≤ 9223372036854775807) (h3 : n ≤ 140737488355328) : Sl (slL L) fz A n c ls :=
  hr.sl h1 h2 h3 (by rw [← h.1]; exact hn) fun i l hl => by
    obtain ⟨A, n, c, h1, h2⟩ := h.2 i l hl
    refine ⟨[.slice A n c], ⟨A, n, c, rfl, h2⟩, fun j u hu => ?_⟩
    cases j with
    | zero => simp at hu; subst hu; simpa [slL] using h1
    | succ j => simp at hu

theorem span_ge (t : Temporal) : ∀ (ls : List Launch) (m : Int), m ≤ ls.foldl (fun m l => max m (endM t l)) m
  | [], m => Int.le_refl _
  | l :: r, m => by
    have := span_ge t r (max m (endM t l))
    simp only [List.foldl_cons]
    omega
theorem span_nat (t : Temporal) (ls : List Launch) : ∃ K : Nat, spanM t ls = K := by
  have := span_ge t ls 0
  exact ⟨(spanM t ls).toNat, by unfold spanM; omega⟩

/-- the state before a tick -/
def stM (t : Temporal) (ls : List Launch) : Nat → List Int
  | 0 => t.init
  | k + 1 => afterM t (stM t ls k) (hapsM t ls k)
def stsM (t : Temporal) (ls : List Launch) (n : Nat) : List (List Int) := (List.range n).map fun i => stM t ls (i + 1)
def stsC (code : Int) (t : Temporal) (ls : List Launch) : Int := if code ≠ 0 then code else if launchesM t ls ≠ 0 then launchesM t ls else if 4096 < spanM t ls then 5 else 0
def stsL (code : Int) (t : Temporal) (ls : List Launch) : List (List Int) := if stsC code t ls = 0 then stsM t ls ((spanM t ls).toNat + 1) else []
theorem stM_len (t : Temporal) (ls : List Launch) : ∀ k, (stM t ls k).length = t.init.length
  | 0 => rfl
  | k + 1 => by rw [stM, after_len, stM_len t ls k]
theorem sts_snoc (t : Temporal) (ls : List Launch) (n : Nat) : stsM t ls (n + 1) = stsM t ls n ++ [stM t ls (n + 1)] := by simp [stsM, List.range_succ]

set_option maxHeartbeats 2000000 in
theorem tstates_f {fz : FZ} {t : Temporal} {A1 : Option Addr} {n1 c1 : Nat} {A2 : Option Addr} {n2 c2 : Nat} {A3 : Option Addr} {n3 c3 : Nat} {A4 : Option Addr} {n4 c4 : Nat} (ht : TempR fz t A1 n1 c1 A2 n2 c2 A3 n3 c3 A4 n4 c4) (hj : n4 ≤ 1000)
    {B : Option Addr} {m d : Nat} {ls : List Launch} (hl : Sl launchL fz B m d ls) {code : Int} (hcode : CheckR t code) :
    GFn Try.prog 21 [.agg #[.slice A1 n1 c1, .slice A2 n2 c2, .slice A3 n3 c3, .slice A4 n4 c4], .slice B m d] fz []
      fun v fz' H' => H' = [] ∧ ∃ A k c, v = .tuple #[.slice A k c, errV (stsC code t ls)] ∧ Sl (slL intL) fz' A k c (stsL code t ls) := by
  (refine GFn.of_wp Try.func21 rfl Try.ntmps21 rfl rfl (fun w0 => ?_))
  have l1 := hl.len
  refine Wp.seq (Wp.region (Seq.stepK (by exact rfl) (k_box _ (by exact rfl) (by exact rfl) (fun gt => ?_))))
  ((refine Seq.q (by exact rfl) ?_; refine q_assign (by exact rfl) ?_; refine Seq.q (by exact rfl) ?_; refine q_assign (by exact rfl) ?_; refine Seq.done ?_; refine Wp.seq ?_; refine Wp.seq ?_; refine Wp.region ?_; refine Seq.q (by exact rfl) ?_; refine q_load_own_all T 0 (by exact rfl) (by exact rfl) (by exact rfl) (by exact rfl) (by exact rfl) ?_; refine Seq.q (by exact rfl) ?_; refine q_move (by exact rfl) ?_))
  (((refine Seq.q (by exact rfl) ?_)); refine q_call (by exact rfl) (by exact rfl) (accept_q ht hj hl hcode) ?_)
  have bad : stsC code t ls ≠ 0 → stsL code t ls = [] := fun h => if_neg h
  by_cases h0 : code = 0
  · subst h0
    rw [if_pos rfl]
    by_cases h1 : launchesM t ls = 0
    · rw [h1, show errV 0 = .nilIface from rfl]
      have hG := good_of hcode
      obtain ⟨hlen, hok⟩ := launches_ok h1
      have l2 := ht.init.len
      have hv := hG.vars
      have hi := hG.init
      have hwr := hG.wr
      rw [l2] at hwr
      obtain ⟨K, hK⟩ := span_nat t ls
      ((refine Seq.q (by exact rfl) ?_; refine q_assign (by exact rfl) ?_; refine Seq.done ?_; refine Wp.seq ?_; refine Wp.region ?_; refine Seq.q (by exact rfl) ?_; refine q_move (by exact rfl) ?_; refine Seq.q (by exact rfl) ?_; refine q_neq_nil T (by exact rfl) (by exact rfl) (by exact rfl) (by exact rfl) ?_; refine Seq.done ?_; refine Wp.cond_false (by exact rfl) ?_; refine Wp.skip ?_; refine thenN ?_; refine Wp.seq ?_; refine Wp.region ?_; refine Seq.q (by exact rfl) ?_; refine q_load_own_all T 0 (by exact rfl) (by exact rfl) (by exact rfl) (by exact rfl) (by exact rfl) ?_; refine Seq.q (by exact rfl) ?_; refine q_move (by exact rfl) ?_))
      (((refine Seq.q (by exact rfl) ?_)); refine q_call (by exact rfl) (by exact rfl) (tmakespan_q ht hl hG.dur hok) ?_)
      rw [hK]
      ((refine Seq.q (by exact rfl) ?_; refine q_assign (by exact rfl) ?_; refine Seq.done ?_; refine Wp.seq ?_; refine Wp.seq ?_; refine Wp.region ?_; refine Seq.q (by exact rfl) ?_; refine q_move (by exact rfl) ?_))
      (((refine Seq.q (by exact rfl) ?_)); (refine q_gtrD (by exact rfl) (by exact rfl) (fun h2 => ?_) (fun h2 => ?_)))
      · ((refine Seq.done ?_; refine Wp.cond_true (by exact rfl) ?_; refine Wp.seq ?_; refine Wp.region ?_; refine Seq.q (by exact rfl) ?_; refine q_makeInterface T (by exact rfl) (by exact rfl) (by exact rfl) ?_; refine Seq.q (by exact rfl) ?_; refine q_assign (by exact rfl) ?_; refine Seq.q (by exact rfl) ?_; refine q_assign (by exact rfl) ?_; refine Seq.done ?_; refine Wp.ret ?_; refine thenR ?_))
        have hc : stsC 0 t ls = 5 := by unfold stsC; rw [if_neg (fun h => h rfl), if_neg (fun h => h h1), if_pos (by omega)]
        rw [bad (by rw [hc]; decide), hc]
        exact ret2 rfl rfl rfl (by repeat (first | exact List.Sublist.refl _ | exact List.nil_sublist _ | refine List.Sublist.cons_cons _ ?_ | refine List.Sublist.cons _ ?_)) ⟨rfl, none, 0, 0, rfl, Sl.nil (by omega)⟩
      · ((refine Seq.done ?_; refine Wp.cond_false (by exact rfl) ?_; refine Wp.skip ?_; refine thenN ?_; refine Wp.seq ?_; refine Wp.region ?_; refine Seq.q (by exact rfl) ?_; refine q_load_own_all T 0 (by exact rfl) (by exact rfl) (by exact rfl) (by exact rfl) (by exact rfl) ?_; refine Seq.q (by exact rfl) ?_; refine q_move (by exact rfl) ?_))
        have hc : stsC 0 t ls = 0 := by unfold stsC; rw [if_neg (fun h => h rfl), if_neg (fun h => h h1), if_neg (by omega)]
        have hL : stsL 0 t ls = stsM t ls (K + 1) := by unfold stsL; rw [if_pos hc, hK]; rfl
        rw [hc, hL]
        refine Seq.stepK (by exact rfl) (k_call [] [_] (by exact rfl) (by exact rfl) (by exact rfl) (happenings_f ht hl hG.dur hok (by omega)) (fun v fz1 Hs hle1 hR => ?_))
        obtain ⟨rfl, g, A, k, c, tk, rfl, ⟨mm, hmap, hat⟩, _, _, _⟩ := hR
        ((refine Seq.q (by exact rfl) ?_; refine q_move (by exact rfl) ?_; refine Seq.q (by exact rfl) ?_; refine q_extract (by exact rfl) (by exact rfl) ?_; refine Seq.q (by exact rfl) ?_; refine q_extract (by exact rfl) (by exact rfl) ?_; refine Seq.q (by exact rfl) ?_; refine q_assign (by exact rfl) ?_; refine Seq.q (by exact rfl) ?_; refine q_assign (by exact rfl) ?_; refine Seq.done ?_; refine Wp.seq ?_; refine Wp.region ?_; refine Seq.q (by exact rfl) ?_; refine q_fieldAddr T (by exact rfl) (by exact rfl) (by exact rfl) (by exact rfl) (by exact rfl) (by exact rfl) ?_; refine Seq.q (by exact rfl) ?_; refine q_load_own T 0 (by exact rfl) (by exact rfl) (by exact rfl) (by exact rfl) (by exact rfl) ?_; refine Seq.q (by exact rfl) ?_; refine q_assign (by exact rfl) ?_; refine Seq.done ?_; refine Wp.seq ?_; refine Wp.region ?_; refine Seq.q (by exact rfl) ?_; refine q_assign (by exact rfl) ?_; refine Seq.done ?_; refine Wp.seq ?_; refine Wp.seq ?_; refine Wp.region ?_; refine Seq.q (by exact rfl) ?_; refine q_move (by exact rfl) ?_; refine Seq.q (by exact rfl) ?_; refine q_add (by exact rfl) (by exact rfl) (wrap_in (by omega)) ?_; refine Seq.q (by exact rfl) ?_; refine q_move (by exact rfl) ?_; refine Seq.done ?_; refine Wp.block ?_))
        refine Wp.loop (fun q σ fz' H' => ∃ (i : Nat) (S : Option Addr) (cs : Nat) (v : Value) (vs : List Value) (Hs : HP), i ≤ K + 1 ∧ q = K + 1 - i ∧ σ = [(35, .int .i64 i), (34, .int .i64 (K + 1 : Nat)), (10, .slice S n2 cs), (11, v), (8, .map (some g)), (2, .pointer (some ⟨gt, 0, none⟩))] ∧ Le fz1 fz' ∧
            H' = (gt, .cells #[.slice A1 n1 c1, .slice A2 n2 c2, .slice A3 n3 c3, .slice A4 n4 c4] 26 (0, 0)) :: Hs ∧ Sl intL fz' S n2 cs (stM t ls i) ∧ OwnS 22 1 v i vs Hs ∧ RepG intL fz' vs (stsM t ls i))
          ⟨0, _, _, _, _, _, Nat.zero_le _, rfl, rfl, Le.refl _, rfl, ht.init.mono hle1, OwnS.nil _ _, RepG.nil⟩ (by repeat (first | exact trivial | refine ⟨by exact rfl, ?_⟩)) (by repeat (first | exact List.Sublist.refl _ | exact List.nil_sublist _ | refine List.Sublist.cons_cons _ ?_ | refine List.Sublist.cons _ ?_)) ?_
        rintro q σ fz' H' ⟨i, S, cs, v, vs, Hs, hik, rfl, rfl, hle2, rfl, hs, hO, hR⟩
        have hle := hle1.trans hle2
        ((refine Wp.seq ?_; refine Wp.region ?_))
        (((refine Seq.q (by exact rfl) ?_)); (refine q_lssD (by exact rfl) (by exact rfl) (fun hlt => ?_) (fun hge => ?_)))
        · ((refine Seq.done ?_; refine Wp.seq ?_; refine Wp.cond_true (by exact rfl) ?_; refine Wp.skip ?_; refine thenN ?_; refine Wp.seq ?_; refine Wp.block ?_; refine Wp.seq ?_; refine Wp.region ?_; refine Seq.q (by exact rfl) ?_; refine q_move (by exact rfl) ?_; refine Seq.q (by exact rfl) ?_; refine q_assign (by exact rfl) ?_; refine Seq.done ?_; refine Wp.seq ?_; refine Wp.region ?_; refine Seq.q (by exact rfl) ?_; refine q_load_own_all T 0 (by exact rfl) (by exact rfl) (by exact rfl) (by exact rfl) (by exact rfl) ?_; refine Seq.q (by exact rfl) ?_; refine q_move (by exact rfl) ?_; refine Seq.q (by exact rfl) ?_; refine q_move (by exact rfl) ?_; refine Seq.q (by exact rfl) ?_; refine q_move (by exact rfl) ?_))
          obtain ⟨Ah, nh, ch, hel, hsl⟩ := hat i
          ((refine Seq.q (by exact rfl) ?_)); refine q_lookup_is T (by exact rfl) (by exact rfl) (by exact rfl) (by exact rfl) (by exact rfl) (by exact rfl) (by exact rfl) (hle2 _ _ hmap) (by exact hel) ?_
          refine Seq.stepK (by exact rfl) (k_call [] (_ :: Hs) (by exact rfl) (by exact rfl) (by exact rfl) (after_f (ht.mono hle) hs (by omega) (hsl.mono hle2) (haps_ok hok i) hwr) (fun v' fz3 Hs' hle3 hR' => ?_))
          obtain ⟨rfl, S', cs', rfl, hS'⟩ := hR'
          ((refine Seq.q (by exact rfl) ?_; refine q_assign (by exact rfl) ?_; refine Seq.done ?_; refine Wp.region ?_; refine Seq.q (by exact rfl) ?_; refine q_move (by exact rfl) ?_; refine Seq.q (by exact rfl) ?_; refine q_move (by exact rfl) ?_))
          (refine Seq.stepK (by exact rfl) (k_buildSlice T (cs := [_]) (by exact rfl) (by exact rfl) (by exact rfl) (by exact rfl) (by exact rfl) (by exact rfl) (by exact rfl) (by exact rfl) (fun gb => ?_)))
          refine Seq.stepK (by exact rfl) (k_append T (Hr := [_, _]) (by exact rfl) (by exact rfl) (by exact rfl) (by exact rfl) (by exact rfl) (by exact rfl) (by exact rfl) (List.Perm.refl _) hO rfl (src_own (.head _)) (by intro u hu; simp at hu; subst hu; rfl) (by show _ * 24 ≤ _; omega) (by omega) (fun v1 b1 hO1 => ?_))
          ((refine Seq.q (by exact rfl) ?_; refine q_assign (by exact rfl) ?_; refine Seq.end_ ?_; refine blkN ?_; refine thenN ?_; refine Wp.region ?_; refine Seq.q (by exact rfl) ?_; refine q_add (by exact rfl) (by exact rfl) (wrap_in (by omega)) ?_; refine Seq.q (by exact rfl) ?_; refine q_move (by exact rfl) ?_; refine Seq.end_ ?_))
          refine loopN ⟨i + 1, S', cs', v1, _, b1, by omega, rfl, rfl, hle2.trans hle3, rfl, hS', hO1, ?_⟩ (by omega) (by repeat (first | exact trivial | refine ⟨by exact rfl, ?_⟩)) (by repeat (first | exact List.Sublist.refl _ | exact List.nil_sublist _ | refine List.Sublist.cons_cons _ ?_ | refine List.Sublist.cons _ ?_))
          rw [sts_snoc]
          exact (hR.mono hle3).snoc hS'
        · ((refine Seq.done ?_; refine Wp.seq ?_; refine Wp.cond_false (by exact rfl) ?_; refine Wp.exit ?_; refine thenX ?_; refine loopX ?_; refine blkX (by exact rfl) ?_; refine thenN ?_; refine Wp.seq ?_; refine Wp.region ?_; refine Seq.q (by exact rfl) ?_; refine q_move (by exact rfl) ?_; refine Seq.q (by exact rfl) ?_; refine q_assign (by exact rfl) ?_; refine Seq.q (by exact rfl) ?_; refine q_assign (by exact rfl) ?_; refine Seq.done ?_; refine Wp.ret ?_))
          have hi : i = K + 1 := by omega
          subst hi
          refine ret2F rfl rfl rfl (fun fz3 hle3 hf => ?_)
          obtain ⟨A, c, rfl, g1, g2, g3⟩ := hO.row (fun p hp => hf p (.tail _ hp))
          exact ⟨rfl, A, _, c, rfl, (hR.mono hle3).sl g3 (by have := hO.1; simpa using this) g1 g2 (by omega)⟩
    · rw [errV_ne h1]
      ((refine Seq.q (by exact rfl) ?_; refine q_assign (by exact rfl) ?_; refine Seq.done ?_; refine Wp.seq ?_; refine Wp.region ?_; refine Seq.q (by exact rfl) ?_; refine q_move (by exact rfl) ?_; refine Seq.q (by exact rfl) ?_; refine q_neq_some T (by exact rfl) (by exact rfl) (by exact rfl) (by exact rfl) ?_; refine Seq.done ?_; refine Wp.cond_true (by exact rfl) ?_; refine Wp.seq ?_; refine Wp.region ?_; refine Seq.q (by exact rfl) ?_; refine q_move (by exact rfl) ?_; refine Seq.q (by exact rfl) ?_; refine q_assign (by exact rfl) ?_; refine Seq.q (by exact rfl) ?_; refine q_assign (by exact rfl) ?_; refine Seq.done ?_; refine Wp.ret ?_; refine thenR ?_))
      have hc : stsC 0 t ls = launchesM t ls := by unfold stsC; rw [if_neg (fun h => h rfl), if_pos h1]
      rw [bad (by rw [hc]; exact h1), hc, errV_ne h1]
      exact ret2 rfl rfl rfl (by repeat (first | exact List.Sublist.refl _ | exact List.nil_sublist _ | refine List.Sublist.cons_cons _ ?_ | refine List.Sublist.cons _ ?_)) ⟨rfl, none, 0, 0, rfl, Sl.nil (by omega)⟩
  · rw [if_neg h0, errV_ne h0]
    ((refine Seq.q (by exact rfl) ?_; refine q_assign (by exact rfl) ?_; refine Seq.done ?_; refine Wp.seq ?_; refine Wp.region ?_; refine Seq.q (by exact rfl) ?_; refine q_move (by exact rfl) ?_; refine Seq.q (by exact rfl) ?_; refine q_neq_some T (by exact rfl) (by exact rfl) (by exact rfl) (by exact rfl) ?_; refine Seq.done ?_; refine Wp.cond_true (by exact rfl) ?_; refine Wp.seq ?_; refine Wp.region ?_; refine Seq.q (by exact rfl) ?_; refine q_move (by exact rfl) ?_; refine Seq.q (by exact rfl) ?_; refine q_assign (by exact rfl) ?_; refine Seq.q (by exact rfl) ?_; refine q_assign (by exact rfl) ?_; refine Seq.done ?_; refine Wp.ret ?_; refine thenR ?_))
    have hc : stsC code t ls = code := by unfold stsC; rw [if_pos h0]
    rw [bad (by rw [hc]; exact h0), hc, errV_ne h0]
    exact ret2 rfl rfl rfl (by repeat (first | exact List.Sublist.refl _ | exact List.nil_sublist _ | refine List.Sublist.cons_cons _ ?_ | refine List.Sublist.cons _ ?_)) ⟨rfl, none, 0, 0, rfl, Sl.nil (by omega)⟩
end Go.Proofs.Ytfidaamledbmpaa
