/- The validity of a plan, and the states of a plan, as the given program computes them. Conditions: the arguments read as data. -/
import Derived.Test.YtfidaamledbmpaaWalkG
namespace Go.Proofs.Ytfidaamledbmpaa
open Go.Lx Go.RowKit
attribute [local instance 10] Classical.propDecidable

section
variable {P : Program} {cx : Cx} {r : Operand → Option Value} {fz : FZ} {H : HP} {V : Value → Prop} {dst : Option Nat} {ty : TypeId} {pos : String} {af : Array Edge} {gd : Option (Nat × Bool)}
theorem q_lookup_is (T : Tab P) {t k e : TypeId} {y z : Operand} {X K E : Ty} {d : IntKind} {g : Nat} {m : List (Int × Value)} {x : Int} {v : Value} (hT : T.inf t = some X) (hd : X.desc = .map k e) (hK : T.inf k = some K) (hkd : K.desc = .int d) (hE : T.inf e = some E)
    (hy : r y = some (.map (some g))) (hz : r z = some (.int .i64 x)) (hH : fz g = some (mapB m)) (hv : (fndM m x 0).elim E.zero (·.2) = v) (h : V v) : DoesQ P cx ⟨dst, .lookup t y z false, ty, pos, af, gd⟩ r fz H V :=
  q_lookup_fz T hT hd hK hkd hE hy hz hH (hv ▸ h)
end
theorem drop_get {α : Type} {l : List α} {i : Nat} {x : α} (h : l[i]? = some x) : l.drop i = x :: l.drop (i + 1) := by
  obtain ⟨h1, h2⟩ := List.getElem?_eq_some_iff.1 h
  rw [← h2]
  exact List.drop_eq_getElem_cons h1
theorem lastV_ge (fs : List Fact) : ∀ i, (∀ k f, fs[k]? = some f → lastV fs k < f.var) → -1 ≤ lastV fs i
  | 0, _ => by simp [lastV]
  | i + 1, h => by
    cases hf : fs[i]? with
    | none => simp [lastV, hf]
    | some f => rw [lastV_succ hf]; have := h i f hf; have := lastV_ge fs i h; omega

/-! ### what a right task has -/
structure Good (t : Temporal) : Prop where
  dur : DurOk t
  wr : WrOk t t.init.length
  init : t.init.length = t.vars.length
  vars : t.vars.length ≤ 1000
theorem good_of {t : Temporal} (h : CheckR t 0) : Good t := by
  obtain ⟨h, _⟩ | ⟨h, _⟩ | ⟨h, _⟩ | ⟨h, _⟩ | ⟨_, h1, h2, h3, _⟩ := h
  · cases h
  · cases h
  · cases h
  · cases h
  have hst : StateP t.vars t.init := Classical.byContradiction fun hc => h3 (.inl hc)
  have hpr : ∀ l ∈ listsM t, ProperP t.vars l := fun l hl => Classical.byContradiction fun hc => h3 (.inr ⟨l, hl, hc⟩)
  refine ⟨fun j hj => ?_, fun j hj e f hf => ?_, hst.1, ?_⟩
  · have : ¬ (j.dur < 1 ∨ 62 < j.dur) := fun hc => h2 (.inr ⟨j, hj, hc⟩)
    omega
  · have hl : wrJ j e ∈ listsM t := List.mem_cons_of_mem _ (List.mem_flatMap.2 ⟨j, hj, by unfold wrJ jobLists; split <;> simp⟩)
    obtain ⟨i, hi⟩ := List.mem_iff_getElem?.1 hf
    have := hpr _ hl i f hi
    have h4 := hst.1
    have h5 := lastV_ge (wrJ j e) i (fun k f hf => (hpr _ hl k f hf).1)
    omega
  · have : ¬ 1000 < t.vars.length := fun hc => h1 (.inl (by omega))
    omega

/-! ### the ticks -/
def TicksR (t : Temporal) (ls : List Launch) (ticks : List Int) : Prop := ticks.Pairwise (· < ·) ∧ ∀ x, x ∈ ticks ↔ hapsM t ls x ≠ []
theorem lt_unique : ∀ {a b : List Int}, a.Pairwise (· < ·) → b.Pairwise (· < ·) → (∀ x, x ∈ a ↔ x ∈ b) → a = b
  | [], [], _, _, _ => rfl
  | [], y :: b, _, _, h => absurd ((h y).2 (by simp)) (by simp)
  | x :: a, [], _, _, h => absurd ((h x).1 (by simp)) (by simp)
  | x :: a, y :: b, ha, hb, h => by
    rw [List.pairwise_cons] at ha hb
    have e : x = y := by
      rcases List.mem_cons.1 ((h x).1 (by simp)) with h1 | h1
      · exact h1
      · rcases List.mem_cons.1 ((h y).2 (by simp)) with h2 | h2
        · exact h2.symm
        · have := hb.1 x h1; have := ha.1 y h2; omega
    subst e
    rw [lt_unique ha.2 hb.2 fun z => ?_]
    have hz := h z
    simp only [List.mem_cons] at hz
    constructor
    · intro h1
      rcases hz.1 (.inr h1) with h2 | h2
      · have := ha.1 z h1; omega
      · exact h2
    · intro h1
      rcases hz.2 (.inr h1) with h2 | h2
      · have := hb.1 z h1; omega
      · exact h2
theorem ticks_unique {t : Temporal} {ls : List Launch} {a b : List Int} (ha : TicksR t ls a) (hb : TicksR t ls b) : a = b := lt_unique ha.1 hb.1 fun x => by rw [ha.2, hb.2]
theorem haps_ne {t : Temporal} {ls : List Launch} {x : Int} : hapsM t ls x ≠ [] ↔ ∃ l ∈ ls, x = l.at_ ∨ x = endM t l := by
  constructor
  · intro h
    cases hh : hapsM t ls x with
    | nil => exact absurd hh h
    | cons a r =>
      obtain ⟨l, hl, _, h2⟩ := haps_mem (h := a) (t := t) (ls := ls) (x := x) (by rw [hh]; simp)
      exact ⟨l, hl, h2.imp (·.2) (·.2)⟩
  · rintro ⟨l, hl, h⟩ hc
    have : hapsL t l x = [] := List.flatMap_eq_nil_iff.1 hc l hl
    unfold hapsL at this
    rcases h with h | h
    · rw [if_pos h.symm] at this; simp at this
    · rw [if_pos h.symm] at this; simp at this
theorem ticks_total {t : Temporal} {ls : List Launch} (hd : DurOk t) (hok : ∀ l ∈ ls, LaunchOk t l) : ∃ ticks, TicksR t ls ticks := by
  refine ⟨((List.range 1048639).map Int.ofNat).filter fun x => decide (hapsM t ls x ≠ []), ?_, fun x => ?_⟩
  · refine List.Pairwise.filter _ (List.pairwise_map.2 (List.pairwise_lt_range.imp fun {a b} h => ?_))
    show (a : Int) < b
    omega
  · rw [List.mem_filter, decide_eq_true_iff]
    refine ⟨fun h => h.2, fun h => ⟨?_, h⟩⟩
    obtain ⟨l, hl, hx⟩ := haps_ne.1 h
    have h1 := hok l hl
    have h2 := end_bd h1 hd
    have h3 := h1.2.2
    exact List.mem_map.2 ⟨x.toNat, List.mem_range.2 (by omega), by show (x.toNat : Int) = x; omega⟩
theorem haps_ok {t : Temporal} {ls : List Launch} (hok : ∀ l ∈ ls, LaunchOk t l) (x : Int) : ∀ h ∈ hapsM t ls x, HapOk t h := fun h hh => by
  obtain ⟨l, hl, h1, _⟩ := haps_mem hh
  have := hok l hl
  exact ⟨by have := this.1; omega, by have := this.2.1; omega⟩

/-! ### validity -/
noncomputable def runM (t : Temporal) (ls : List Launch) : List Int → List Int → Int × List Int
  | [], s => (0, s)
  | x :: r, s => if tickM t ls x s (hapsM t ls x) (afterM t s (hapsM t ls x)) = 0 then runM t ls r (afterM t s (hapsM t ls x)) else (tickM t ls x s (hapsM t ls x) (afterM t s (hapsM t ls x)), s)
noncomputable def validM (code : Int) (t : Temporal) (ls : List Launch) (ticks : List Int) : Int × Int :=
  if code ≠ 0 then (0, code) else if launchesM t ls ≠ 0 then (0, launchesM t ls) else if (runM t ls ticks t.init).1 ≠ 0 then (0, (runM t ls ticks t.init).1) else if ¬ HoldsP t.goal (runM t ls ticks t.init).2 then (0, 13) else (spanM t ls, 0)
theorem launches_ok {t : Temporal} {ls : List Launch} (h : launchesM t ls = 0) : ls.length ≤ 4096 ∧ ∀ l ∈ ls, LaunchOk t l := by
  unfold launchesM at h
  split at h
  · cases h
  · split at h
    · rename_i h1 h2; exact ⟨by omega, h2⟩
    · cases h

set_option maxHeartbeats 2000000 in
theorem tvalidate_q {fz : FZ} {t : Temporal} {A1 : Option Addr} {n1 c1 : Nat} {A2 : Option Addr} {n2 c2 : Nat} {A3 : Option Addr} {n3 c3 : Nat} {A4 : Option Addr} {n4 c4 : Nat} (ht : TempR fz t A1 n1 c1 A2 n2 c2 A3 n3 c3 A4 n4 c4) (hj : n4 ≤ 1000)
    {B : Option Addr} {m d : Nat} {ls : List Launch} (hl : Sl launchL fz B m d ls) {code : Int} (hcode : CheckR t code) {ticks : List Int} (hticks : code = 0 → launchesM t ls = 0 → TicksR t ls ticks) :
    QFn Try.prog 13 [.agg #[.slice A1 n1 c1, .slice A2 n2 c2, .slice A3 n3 c3, .slice A4 n4 c4], .slice B m d] fz (.tuple #[.int .i64 (validM code t ls ticks).1, errV (validM code t ls ticks).2]) := by
  refine GFn.quiet ?_
  (refine GFn.of_wp Try.func13 rfl Try.ntmps13 rfl rfl (fun w0 => ?_))
  have l1 := hl.len
  refine Wp.seq (Wp.region (Seq.stepK (by exact rfl) (k_box _ (by exact rfl) (by exact rfl) (fun gt => ?_))))
  ((refine Seq.q (by exact rfl) ?_; refine q_assign (by exact rfl) ?_; refine Seq.q (by exact rfl) ?_; refine q_assign (by exact rfl) ?_; refine Seq.done ?_; refine Wp.seq ?_; refine Wp.seq ?_; refine Wp.region ?_; refine Seq.q (by exact rfl) ?_; refine q_load_own_all T 0 (by exact rfl) (by exact rfl) (by exact rfl) (by exact rfl) (by exact rfl) ?_; refine Seq.q (by exact rfl) ?_; refine q_move (by exact rfl) ?_))
  (((refine Seq.q (by exact rfl) ?_)); refine q_call (by exact rfl) (by exact rfl) (accept_q ht hj hl hcode) ?_)
  by_cases h0 : code = 0
  · subst h0
    rw [if_pos rfl]
    by_cases h1 : launchesM t ls = 0
    · rw [h1, show errV 0 = .nilIface from rfl]
      have hG := good_of hcode
      obtain ⟨hlen, hok⟩ := launches_ok h1
      replace hticks := hticks rfl h1
      have l2 := ht.init.len
      have hv := hG.vars
      have hi := hG.init
      have hwr := hG.wr
      rw [l2] at hwr
      ((refine Seq.q (by exact rfl) ?_; refine q_assign (by exact rfl) ?_; refine Seq.done ?_; refine Wp.seq ?_; refine Wp.region ?_; refine Seq.q (by exact rfl) ?_; refine q_move (by exact rfl) ?_; refine Seq.q (by exact rfl) ?_; refine q_neq_nil T (by exact rfl) (by exact rfl) (by exact rfl) (by exact rfl) ?_; refine Seq.done ?_; refine Wp.cond_false (by exact rfl) ?_; refine Wp.skip ?_; refine thenN ?_; refine Wp.seq ?_; refine Wp.region ?_; refine Seq.q (by exact rfl) ?_; refine q_fieldAddr T (by exact rfl) (by exact rfl) (by exact rfl) (by exact rfl) (by exact rfl) (by exact rfl) ?_; refine Seq.q (by exact rfl) ?_; refine q_load_own T 0 (by exact rfl) (by exact rfl) (by exact rfl) (by exact rfl) (by exact rfl) ?_; refine Seq.q (by exact rfl) ?_; refine q_assign (by exact rfl) ?_; refine Seq.done ?_; refine Wp.seq ?_; refine Wp.region ?_; refine Seq.q (by exact rfl) ?_; refine q_load_own_all T 0 (by exact rfl) (by exact rfl) (by exact rfl) (by exact rfl) (by exact rfl) ?_; refine Seq.q (by exact rfl) ?_; refine q_move (by exact rfl) ?_))
      refine Seq.stepK (by exact rfl) (k_call [] [_] (by exact rfl) (by exact rfl) (by exact rfl) (happenings_f ht hl hG.dur hok (by omega)) (fun v fz1 Hs hle1 hR => ?_))
      obtain ⟨rfl, g, A, k, c, tk, rfl, ⟨mm, hmap, hat⟩, htk, hp1, hp2⟩ := hR
      have : tk = ticks := ticks_unique ⟨hp1, hp2⟩ hticks
      subst this
      have lt := htk.len
      have st := htk.short
      ((refine Seq.q (by exact rfl) ?_; refine q_move (by exact rfl) ?_; refine Seq.q (by exact rfl) ?_; refine q_extract (by exact rfl) (by exact rfl) ?_; refine Seq.q (by exact rfl) ?_; refine q_extract (by exact rfl) (by exact rfl) ?_; refine Seq.q (by exact rfl) ?_; refine q_assign (by exact rfl) ?_; refine Seq.q (by exact rfl) ?_; refine q_assign (by exact rfl) ?_; refine Seq.done ?_; refine Wp.seq ?_; refine Wp.seq ?_; refine Wp.region ?_; refine Seq.q (by exact rfl) ?_; refine q_move (by exact rfl) ?_; refine Seq.q (by exact rfl) ?_; refine q_len_slice T (by exact rfl) (by exact rfl) (by exact rfl) ?_; refine Seq.q (by exact rfl) ?_; refine q_move (by exact rfl) ?_; refine Seq.done ?_; refine Wp.block ?_))
      refine Wp.loop (fun q σ fz' H' => ∃ (i : Nat) (S : Option Addr) (cs : Nat) (s : List Int), i ≤ k ∧ q = k - i ∧ σ = [(30, .int .i64 i), (29, .int .i64 k), (28, .slice A k c), (7, .slice S n2 cs), (8, .map (some g)), (1, .slice B m d), (2, .pointer (some ⟨gt, 0, none⟩))] ∧ Le fz1 fz' ∧
          H' = [(gt, .cells #[.slice A1 n1 c1, .slice A2 n2 c2, .slice A3 n3 c3, .slice A4 n4 c4] 26 (0, 0))] ∧ Sl intL fz' S n2 cs s ∧ runM t ls tk t.init = runM t ls (tk.drop i) s)
        ⟨0, _, _, _, Nat.zero_le _, rfl, rfl, Le.refl _, rfl, ht.init.mono hle1, rfl⟩ (by repeat (first | exact trivial | refine ⟨by exact rfl, ?_⟩)) (by repeat (first | exact List.Sublist.refl _ | exact List.nil_sublist _ | refine List.Sublist.cons_cons _ ?_ | refine List.Sublist.cons _ ?_)) ?_
      rintro q σ fz' H' ⟨i, S, cs, s, hik, rfl, rfl, hle2, rfl, hs, hrun⟩
      have hle := hle1.trans hle2
      ((refine Wp.seq ?_; refine Wp.region ?_))
      (((refine Seq.q (by exact rfl) ?_)); (refine q_lssD (by exact rfl) (by exact rfl) (fun hlt => ?_) (fun hge => ?_)))
      · ((refine Seq.done ?_; refine Wp.seq ?_; refine Wp.cond_true (by exact rfl) ?_; refine Wp.skip ?_; refine thenN ?_; refine Wp.seq ?_; refine Wp.block ?_; refine Wp.seq ?_; refine Wp.region ?_))
        obtain ⟨x, hx⟩ := get_some (l := tk) (k := i) (by omega)
        (((refine Seq.q (by exact rfl) ?_)); refine q_index T i (by exact rfl) (by exact rfl) (by exact rfl) (by exact rfl) (by exact rfl) (by exact rfl) (htk.mono hle2) (by first | rfl | omega) hx (fun p hp => ?_))
        (((refine Seq.q (by exact rfl) ?_)); refine q_load_int T (by exact rfl) (by exact rfl) (by exact rfl) hp (fun hx64 => ?_))
        ((refine Seq.q (by exact rfl) ?_; refine q_assign (by exact rfl) ?_; refine Seq.done ?_; refine Wp.seq ?_; refine Wp.region ?_; refine Seq.q (by exact rfl) ?_; refine q_load_own_all T 0 (by exact rfl) (by exact rfl) (by exact rfl) (by exact rfl) (by exact rfl) ?_; refine Seq.q (by exact rfl) ?_; refine q_move (by exact rfl) ?_; refine Seq.q (by exact rfl) ?_; refine q_move (by exact rfl) ?_; refine Seq.q (by exact rfl) ?_; refine q_move (by exact rfl) ?_; refine Seq.q (by exact rfl) ?_; refine q_move (by exact rfl) ?_; refine Seq.q (by exact rfl) ?_; refine q_move (by exact rfl) ?_))
        obtain ⟨Ah, nh, ch, hel, hsl⟩ := hat x
        ((refine Seq.q (by exact rfl) ?_)); refine q_lookup_is T (by exact rfl) (by exact rfl) (by exact rfl) (by exact rfl) (by exact rfl) (by exact rfl) (by exact rfl) (hle2 _ _ hmap) (by exact hel) ?_
        refine Seq.stepK (by exact rfl) (k_call [] [_] (by exact rfl) (by exact rfl) (by exact rfl) (tick_f (ht.mono hle) (hl.mono hle) hG.dur hok (tick := x) hs (by omega) (hsl.mono hle2) (haps_ok hok x) hwr) (fun v fz3 Hs hle3 hR => ?_))
        obtain ⟨rfl, S', k', cs', rfl, hS'⟩ := hR
        rw [drop_get hx] at hrun
        by_cases h2 : tickM t ls x s (hapsM t ls x) (afterM t s (hapsM t ls x)) = 0
        · obtain ⟨rfl, hS2⟩ := hS' h2
          rw [h2, show errV 0 = .nilIface from rfl]
          ((refine Seq.q (by exact rfl) ?_; refine q_move (by exact rfl) ?_; refine Seq.q (by exact rfl) ?_; refine q_extract (by exact rfl) (by exact rfl) ?_; refine Seq.q (by exact rfl) ?_; refine q_extract (by exact rfl) (by exact rfl) ?_; refine Seq.q (by exact rfl) ?_; refine q_assign (by exact rfl) ?_; refine Seq.q (by exact rfl) ?_; refine q_assign (by exact rfl) ?_; refine Seq.done ?_; refine Wp.seq ?_; refine Wp.seq ?_; refine Wp.region ?_; refine Seq.q (by exact rfl) ?_; refine q_move (by exact rfl) ?_; refine Seq.q (by exact rfl) ?_; refine q_neq_nil T (by exact rfl) (by exact rfl) (by exact rfl) (by exact rfl) ?_; refine Seq.done ?_; refine Wp.cond_false (by exact rfl) ?_; refine Wp.skip ?_; refine thenN ?_; refine Wp.region ?_; refine Seq.q (by exact rfl) ?_; refine q_move (by exact rfl) ?_; refine Seq.q (by exact rfl) ?_; refine q_assign (by exact rfl) ?_; refine Seq.end_ ?_; refine blkN ?_; refine thenN ?_; refine Wp.region ?_; refine Seq.q (by exact rfl) ?_; refine q_add (by exact rfl) (by exact rfl) (wrap_in (by omega)) ?_; refine Seq.q (by exact rfl) ?_; refine q_move (by exact rfl) ?_; refine Seq.end_ ?_))
          refine loopN ⟨i + 1, S', cs', _, by omega, rfl, rfl, hle2.trans hle3, rfl, hS2, ?_⟩ (by omega) (by repeat (first | exact trivial | refine ⟨by exact rfl, ?_⟩)) (by repeat (first | exact List.Sublist.refl _ | exact List.nil_sublist _ | refine List.Sublist.cons_cons _ ?_ | refine List.Sublist.cons _ ?_))
          rw [hrun, runM, if_pos h2]
        · rw [errV_ne h2]
          ((refine Seq.q (by exact rfl) ?_; refine q_move (by exact rfl) ?_; refine Seq.q (by exact rfl) ?_; refine q_extract (by exact rfl) (by exact rfl) ?_; refine Seq.q (by exact rfl) ?_; refine q_extract (by exact rfl) (by exact rfl) ?_; refine Seq.q (by exact rfl) ?_; refine q_assign (by exact rfl) ?_; refine Seq.q (by exact rfl) ?_; refine q_assign (by exact rfl) ?_; refine Seq.done ?_; refine Wp.seq ?_; refine Wp.seq ?_; refine Wp.region ?_; refine Seq.q (by exact rfl) ?_; refine q_move (by exact rfl) ?_; refine Seq.q (by exact rfl) ?_; refine q_neq_some T (by exact rfl) (by exact rfl) (by exact rfl) (by exact rfl) ?_; refine Seq.done ?_; refine Wp.cond_true (by exact rfl) ?_; refine Wp.seq ?_; refine Wp.region ?_; refine Seq.q (by exact rfl) ?_; refine q_move (by exact rfl) ?_; refine Seq.q (by exact rfl) ?_; refine q_assign (by exact rfl) ?_; refine Seq.q (by exact rfl) ?_; refine q_assign (by exact rfl) ?_; refine Seq.done ?_; refine Wp.ret ?_; refine thenR ?_; refine blkR ?_; refine thenR ?_; refine loopR ?_; refine blkR ?_; refine thenR ?_))
          rw [runM, if_neg h2] at hrun
          have : validM 0 t ls tk = (0, tickM t ls x s (hapsM t ls x) (afterM t s (hapsM t ls x))) := by
            unfold validM
            rw [if_neg (fun h => h rfl), if_neg (fun h => h h1), hrun, if_pos h2]
          rw [this, errV_ne h2]
          exact ret2 rfl rfl rfl (by repeat (first | exact List.Sublist.refl _ | exact List.nil_sublist _ | refine List.Sublist.cons_cons _ ?_ | refine List.Sublist.cons _ ?_)) rfl
      · ((refine Seq.done ?_; refine Wp.seq ?_; refine Wp.cond_false (by exact rfl) ?_; refine Wp.exit ?_; refine thenX ?_; refine loopX ?_; refine blkX (by exact rfl) ?_; refine thenN ?_; refine Wp.seq ?_; refine Wp.seq ?_; refine Wp.region ?_; refine Seq.q (by exact rfl) ?_; refine q_fieldAddr T (by exact rfl) (by exact rfl) (by exact rfl) (by exact rfl) (by exact rfl) (by exact rfl) ?_; refine Seq.q (by exact rfl) ?_; refine q_load_own T 0 (by exact rfl) (by exact rfl) (by exact rfl) (by exact rfl) (by exact rfl) ?_; refine Seq.q (by exact rfl) ?_; refine q_move (by exact rfl) ?_))
        rw [List.drop_eq_nil_of_le (by omega)] at hrun
        (((refine Seq.q (by exact rfl) ?_)); refine q_callB (by exact rfl) (by exact rfl) (tholds_q (ht.goal.mono hle) hs) (fun h2 => ?_) (fun h2 => ?_))
        · replace h2 := of_decide_eq_true h2
          ((refine Seq.q (by exact rfl) ?_; refine q_not (by exact rfl) ?_; refine Seq.done ?_; refine Wp.cond_false (by exact rfl) ?_; refine Wp.skip ?_; refine thenN ?_; refine Wp.seq ?_; refine Wp.region ?_; refine Seq.q (by exact rfl) ?_; refine q_load_own_all T 0 (by exact rfl) (by exact rfl) (by exact rfl) (by exact rfl) (by exact rfl) ?_; refine Seq.q (by exact rfl) ?_; refine q_move (by exact rfl) ?_))
          (((refine Seq.q (by exact rfl) ?_)); refine q_call (by exact rfl) (by exact rfl) (tmakespan_q (ht.mono hle) (hl.mono hle) hG.dur hok) ?_)
          ((refine Seq.q (by exact rfl) ?_; refine q_assign (by exact rfl) ?_; refine Seq.q (by exact rfl) ?_; refine q_assign (by exact rfl) ?_; refine Seq.done ?_; refine Wp.ret ?_))
          have : validM 0 t ls tk = (spanM t ls, 0) := by
            unfold validM
            rw [if_neg (fun h => h rfl), if_neg (fun h => h h1), hrun]
            simp only [runM]
            simp [h2]
          rw [this]
          exact ret2 rfl rfl rfl (by repeat (first | exact List.Sublist.refl _ | exact List.nil_sublist _ | refine List.Sublist.cons_cons _ ?_ | refine List.Sublist.cons _ ?_)) rfl
        · replace h2 := of_decide_eq_false h2
          ((refine Seq.q (by exact rfl) ?_; refine q_not (by exact rfl) ?_; refine Seq.done ?_; refine Wp.cond_true (by exact rfl) ?_; refine Wp.seq ?_; refine Wp.region ?_; refine Seq.q (by exact rfl) ?_; refine q_makeInterface T (by exact rfl) (by exact rfl) (by exact rfl) ?_; refine Seq.q (by exact rfl) ?_; refine q_assign (by exact rfl) ?_; refine Seq.q (by exact rfl) ?_; refine q_assign (by exact rfl) ?_; refine Seq.done ?_; refine Wp.ret ?_; refine thenR ?_))
          have : validM 0 t ls tk = (0, 13) := by
            unfold validM
            rw [if_neg (fun h => h rfl), if_neg (fun h => h h1), hrun]
            simp only [runM]
            simp [h2]
          rw [this]
          exact ret2 rfl rfl rfl (by repeat (first | exact List.Sublist.refl _ | exact List.nil_sublist _ | refine List.Sublist.cons_cons _ ?_ | refine List.Sublist.cons _ ?_)) rfl
    · rw [errV_ne h1]
      ((refine Seq.q (by exact rfl) ?_; refine q_assign (by exact rfl) ?_; refine Seq.done ?_; refine Wp.seq ?_; refine Wp.region ?_; refine Seq.q (by exact rfl) ?_; refine q_move (by exact rfl) ?_; refine Seq.q (by exact rfl) ?_; refine q_neq_some T (by exact rfl) (by exact rfl) (by exact rfl) (by exact rfl) ?_; refine Seq.done ?_; refine Wp.cond_true (by exact rfl) ?_; refine Wp.seq ?_; refine Wp.region ?_; refine Seq.q (by exact rfl) ?_; refine q_move (by exact rfl) ?_; refine Seq.q (by exact rfl) ?_; refine q_assign (by exact rfl) ?_; refine Seq.q (by exact rfl) ?_; refine q_assign (by exact rfl) ?_; refine Seq.done ?_; refine Wp.ret ?_; refine thenR ?_))
      have : validM 0 t ls ticks = (0, launchesM t ls) := by unfold validM; rw [if_neg (fun h => h rfl), if_pos h1]
      rw [this, errV_ne h1]
      exact ret2 rfl rfl rfl (by repeat (first | exact List.Sublist.refl _ | exact List.nil_sublist _ | refine List.Sublist.cons_cons _ ?_ | refine List.Sublist.cons _ ?_)) rfl
  · rw [if_neg h0, errV_ne h0]
    ((refine Seq.q (by exact rfl) ?_; refine q_assign (by exact rfl) ?_; refine Seq.done ?_; refine Wp.seq ?_; refine Wp.region ?_; refine Seq.q (by exact rfl) ?_; refine q_move (by exact rfl) ?_; refine Seq.q (by exact rfl) ?_; refine q_neq_some T (by exact rfl) (by exact rfl) (by exact rfl) (by exact rfl) ?_; refine Seq.done ?_; refine Wp.cond_true (by exact rfl) ?_; refine Wp.seq ?_; refine Wp.region ?_; refine Seq.q (by exact rfl) ?_; refine q_move (by exact rfl) ?_; refine Seq.q (by exact rfl) ?_; refine q_assign (by exact rfl) ?_; refine Seq.q (by exact rfl) ?_; refine q_assign (by exact rfl) ?_; refine Seq.done ?_; refine Wp.ret ?_; refine thenR ?_))
    have : validM code t ls ticks = (0, code) := by unfold validM; rw [if_pos h0]
    rw [this, errV_ne h0]
    exact ret2 rfl rfl rfl (by repeat (first | exact List.Sublist.refl _ | exact List.nil_sublist _ | refine List.Sublist.cons_cons _ ?_ | refine List.Sublist.cons _ ?_)) rfl
end Go.Proofs.Ytfidaamledbmpaa
