/- The example of the chapter: the lamp; what the program says of its four plans. Conditions: none. -/
import Derived.Test.YtfidaamledbmpaaWalkI
namespace Go.Proofs.Ytfidaamledbmpaa
open Go.Lx Go.RowKit
attribute [local instance 10] Classical.propDecidable

theorem sl_block {α : Type} {L : Lay α} {fz : FZ} {g e n : Nat} {cs : List Value} {ds : List α} (hf : fz g = some (.cells cs.toArray e (0, 0))) (hs : cs.length = n * L.size) (hn : n ≤ 1000) (hl : ds.length = n)
    (hr : ∀ i d, ds[i]? = some d → ∃ c, L.rep fz d c ∧ ∀ j u, c[j]? = some u → cs[i * L.size + j]? = some u) : Sl L fz (some ⟨g, 0, none⟩) n n ds := by
  obtain ⟨A, c, h1, h2, h3, h4⟩ := OwnS.row (fz' := fz) (OwnS.of_block (g := g) (e := e) hs (by simp [maxLen]; omega)) (by simpa using hf)
  injection h1 with h1 _ h5
  subst h1 h5
  exact h4.sl h2 h3 (by omega) hl hr

def offF : List Fact := [⟨0, 0⟩]
def onF : List Fact := [⟨0, 1⟩]
def lightJ : Job := ⟨⟨#[108, 105, 103, 104, 116]⟩, 3, offF, onF, [], onF, offF⟩
def darkJ : Job := ⟨⟨#[100, 97, 114, 107]⟩, 1, [], [], [], offF, []⟩
def lampM : Temporal := ⟨[2], [0], offF, [lightJ, darkJ]⟩

theorem sl_fact1 {fz : FZ} {g e : Nat} {a b : Int} (hf : fz g = some (.cells #[.int .i64 a, .int .i64 b] e (0, 0))) (h1 : I64 a) (h2 : I64 b) : Sl factL fz (some ⟨g, 0, none⟩) 1 1 [⟨a, b⟩] :=
  sl_block (cs := [.int .i64 a, .int .i64 b]) hf rfl (by omega) rfl fun i d hd => by
    match i, hd with
    | 0, hd => simp at hd; subst hd; exact ⟨[.int .i64 a, .int .i64 b], ⟨rfl, h1, h2⟩, fun j u hu => by simpa using hu⟩
    | i + 1, hd => simp at hd
theorem sl_int1 {fz : FZ} {g e : Nat} {a : Int} (hf : fz g = some (.cells #[.int .i64 a] e (0, 0))) (h1 : I64 a) : Sl intL fz (some ⟨g, 0, none⟩) 1 1 [a] :=
  sl_block (cs := [.int .i64 a]) hf rfl (by omega) rfl fun i d hd => by
    match i, hd with
    | 0, hd => simp at hd; subst hd; exact ⟨[.int .i64 a], ⟨rfl, h1⟩, fun j u hu => by simpa using hu⟩
    | i + 1, hd => simp at hd

set_option maxHeartbeats 1000000 in
theorem lamp_f {fz : FZ} : GFn Try.prog 24 [] fz [] fun v fz' H' => H' = [] ∧ ∃ A1 n1 c1 A2 n2 c2 A3 n3 c3 A4 c4, v = .agg #[.slice A1 n1 c1, .slice A2 n2 c2, .slice A3 n3 c3, .slice A4 2 c4] ∧ TempR fz' lampM A1 n1 c1 A2 n2 c2 A3 n3 c3 A4 2 c4 := by
  (refine GFn.of_wp Try.func24 rfl Try.ntmps24 rfl rfl (fun w0 => ?_))
  refine Wp.seq (Wp.region (Seq.stepK (by exact rfl) (k_alloc T (by exact rfl) (by exact rfl) (fun g0 => ?_))))
  ((refine Seq.done ?_; refine Wp.seq ?_; refine Wp.region ?_; refine Seq.q (by exact rfl) ?_; refine q_build T (by exact rfl) (by exact rfl) (by exact rfl) (by exact rfl) (by exact rfl) ?_))
  (refine Seq.stepK (by exact rfl) (k_buildSlice T (cs := [_, _]) (by exact rfl) (by exact rfl) (by exact rfl) (by exact rfl) (by exact rfl) (by exact rfl) (by exact rfl) (by exact rfl) (fun g1 => ?_)))
  ((refine Seq.q (by exact rfl) ?_; refine q_build T (by exact rfl) (by exact rfl) (by exact rfl) (by exact rfl) (by exact rfl) ?_))
  (refine Seq.stepK (by exact rfl) (k_buildSlice T (cs := [_, _]) (by exact rfl) (by exact rfl) (by exact rfl) (by exact rfl) (by exact rfl) (by exact rfl) (by exact rfl) (by exact rfl) (fun g2 => ?_)))
  ((refine Seq.q (by exact rfl) ?_; refine q_assign (by exact rfl) ?_; refine Seq.q (by exact rfl) ?_; refine q_assign (by exact rfl) ?_; refine Seq.done ?_; refine Wp.seq ?_; refine Wp.region ?_))
  (refine Seq.stepK (by exact rfl) (k_buildSlice T (cs := [_]) (by exact rfl) (by exact rfl) (by exact rfl) (by exact rfl) (by exact rfl) (by exact rfl) (by exact rfl) (by exact rfl) (fun g3 => ?_)))
  (refine Seq.stepK (by exact rfl) (k_buildSlice T (cs := [_]) (by exact rfl) (by exact rfl) (by exact rfl) (by exact rfl) (by exact rfl) (by exact rfl) (by exact rfl) (by exact rfl) (fun g4 => ?_)))
  ((refine Seq.q (by exact rfl) ?_; refine q_move (by exact rfl) ?_; refine Seq.q (by exact rfl) ?_; refine q_move (by exact rfl) ?_; refine Seq.q (by exact rfl) ?_; refine q_move (by exact rfl) ?_; refine Seq.q (by exact rfl) ?_; refine q_move (by exact rfl) ?_; refine Seq.q (by exact rfl) ?_; refine q_move (by exact rfl) ?_; refine Seq.q (by exact rfl) ?_; refine q_build T (by exact rfl) (by exact rfl) (by exact rfl) (by exact rfl) (by exact rfl) ?_; refine Seq.q (by exact rfl) ?_; refine q_move (by exact rfl) ?_; refine Seq.q (by exact rfl) ?_; refine q_build T (by exact rfl) (by exact rfl) (by exact rfl) (by exact rfl) (by exact rfl) ?_))
  (refine Seq.stepK (by exact rfl) (k_buildSlice T (cs := [_, _, _, _, _, _, _, _, _, _, _, _, _, _]) (by exact rfl) (by exact rfl) (by exact rfl) (by exact rfl) (by exact rfl) (by exact rfl) (by exact rfl) (by exact rfl) (fun g5 => ?_)))
  ((refine Seq.q (by exact rfl) ?_; refine q_build T (by exact rfl) (by exact rfl) (by exact rfl) (by exact rfl) (by exact rfl) ?_))
  refine Seq.stepK0 (k_store T (pre := [_, _, _, _, _]) (post := []) (by exact rfl) (by exact rfl) (by exact rfl) (by exact rfl) (by exact rfl) (by exact rfl) (by exact rfl) ?_)
  ((refine Seq.done ?_; refine Wp.ret ?_))
  refine ret_cellF T (i := 5) rfl (by exact rfl) (by exact rfl) (by exact rfl) (by exact rfl) (by exact rfl) (fun fz1 hle hf => ?_)
  have i0 : I64 0 := by unfold I64; omega
  have i1 : I64 1 := by unfold I64; omega
  have i2 : I64 2 := by unfold I64; omega
  have i3 : I64 3 := by unfold I64; omega
  have hoff := sl_fact1 (hf (g1, .cells #[.int .i64 0, .int .i64 0] 49 (0, 0)) (by simp)) i0 i0
  have hon := sl_fact1 (hf (g2, .cells #[.int .i64 0, .int .i64 1] 49 (0, 0)) (by simp)) i0 i1
  have hv := sl_int1 (hf (g3, .cells #[.int .i64 2] 3 (0, 0)) (by simp)) i2
  have hi := sl_int1 (hf (g4, .cells #[.int .i64 0] 3 (0, 0)) (by simp)) i0
  have hj := hf (g5, _) (.head _)
  refine ⟨rfl, _, _, _, _, _, _, _, _, _, _, _, rfl, hv, hi, hoff, sl_block hj rfl (by omega) rfl fun i d hd => ?_⟩
  match i, hd with
  | 0, hd =>
    simp [lampM] at hd
    subst hd
    exact ⟨_, ⟨_, _, _, _, _, _, _, _, _, _, _, _, _, _, _, rfl, ⟨by decide, i3, hoff, hon, Sl.nil (A := none) (c := 0) (by omega), hon, hoff⟩⟩, fun j u hu => by
      match j, hu with
      | 0, hu => exact hu
      | 1, hu => exact hu
      | 2, hu => exact hu
      | 3, hu => exact hu
      | 4, hu => exact hu
      | 5, hu => exact hu
      | 6, hu => exact hu
      | j + 7, hu => simp at hu⟩
  | 1, hd =>
    simp [lampM] at hd
    subst hd
    exact ⟨_, ⟨_, _, _, _, _, _, _, _, _, _, _, _, _, _, _, rfl, ⟨by decide, i1, Sl.nil (A := none) (c := 0) (by omega), Sl.nil (A := none) (c := 0) (by omega), Sl.nil (A := none) (c := 0) (by omega), hoff, Sl.nil (A := none) (c := 0) (by omega)⟩⟩, fun j u hu => by
      match j, hu with
      | 0, hu => exact hu
      | 1, hu => exact hu
      | 2, hu => exact hu
      | 3, hu => exact hu
      | 4, hu => exact hu
      | 5, hu => exact hu
      | 6, hu => exact hu
      | j + 7, hu => simp at hu⟩
  | i + 2, hd => simp [lampM] at hd

/-! ### the lamp's plans -/
instance (a b : List Fact) : Decidable (MeetP a b) := by unfold MeetP; infer_instance
instance (t : Temporal) (a b : Hap) : Decidable (InterH t a b) := by unfold InterH; infer_instance
instance (ss : List Int) (f : Fact) : Decidable (FactOk ss f) := by unfold FactOk; infer_instance
instance (fs : List Fact) (ss : List Int) : Decidable (HoldsP fs ss) := by unfold HoldsP; infer_instance
instance (t : Temporal) (s : List Int) (hs : List Hap) : Decidable (PreP t s hs) := by unfold PreP; infer_instance
instance (t : Temporal) (ls : List Launch) (k : Int) (s : List Int) : Decidable (OvrP t ls k s) := by unfold OvrP; infer_instance
instance (t : Temporal) (k : Int) (i : Nat) (a : Launch) (j : Nat) (b : Launch) : Decidable (OvB t k i a j b) := by unfold OvB; infer_instance
def overB (t : Temporal) (ls : List Launch) (k : Int) : Bool := (List.range ls.length).any fun i => (List.range ls.length).any fun j => match ls[i]?, ls[j]? with
  | some a, some b => decide (a.at_ = k ∧ OvB t k i a j b)
  | _, _ => false
theorem overB_iff (t : Temporal) (ls : List Launch) (k : Int) : overB t ls k = true ↔ OverP t ls k := by
  simp only [overB, List.any_eq_true, List.mem_range, OverP, OvA]
  constructor
  · rintro ⟨i, hi, j, hj, h⟩
    obtain ⟨a, ha⟩ := get_some hi
    obtain ⟨b, hb⟩ := get_some hj
    rw [ha, hb] at h
    have := of_decide_eq_true h
    exact ⟨i, a, ha, this.1, j, b, hb, this.2⟩
  · rintro ⟨i, a, ha, h1, j, b, hb, h2⟩
    exact ⟨i, lt_of_get ha, j, lt_of_get hb, by rw [ha, hb]; exact decide_eq_true ⟨h1, h2⟩⟩
def pairB (t : Temporal) (hs : List Hap) : Bool := (List.range hs.length).any fun i => (List.range i).any fun j => match hs[i]?, hs[j]? with
  | some a, some b => decide (InterH t a b)
  | _, _ => false
theorem pairB_iff (t : Temporal) (hs : List Hap) : pairB t hs = true ↔ PairI t hs := by
  simp only [pairB, List.any_eq_true, List.mem_range, PairI]
  constructor
  · rintro ⟨i, hi, j, hj, h⟩
    obtain ⟨a, ha⟩ := get_some hi
    obtain ⟨b, hb⟩ := get_some (l := hs) (k := j) (by omega)
    rw [ha, hb] at h
    exact ⟨i, a, ha, j, b, hj, hb, of_decide_eq_true h⟩
  · rintro ⟨i, a, ha, j, b, hj, hb, h2⟩
    exact ⟨i, lt_of_get ha, j, hj, by rw [ha, hb]; exact decide_eq_true h2⟩
def tickB (t : Temporal) (ls : List Launch) (k : Int) (s : List Int) (hs : List Hap) (s' : List Int) : Int :=
  if overB t ls k then 18 else if pairB t hs then 17 else if ¬ PreP t s hs then 12 else if ¬ OvrP t ls k s' then 16 else 0
theorem tickB_eq (t : Temporal) (ls : List Launch) (k : Int) (s : List Int) (hs : List Hap) (s' : List Int) : tickM t ls k s hs s' = tickB t ls k s hs s' := by
  unfold tickM tickB
  simp only [← overB_iff, ← pairB_iff]
  congr
def runB (t : Temporal) (ls : List Launch) : List Int → List Int → Int × List Int
  | [], s => (0, s)
  | x :: r, s => if tickB t ls x s (hapsM t ls x) (afterM t s (hapsM t ls x)) = 0 then runB t ls r (afterM t s (hapsM t ls x)) else (tickB t ls x s (hapsM t ls x) (afterM t s (hapsM t ls x)), s)
theorem runB_eq (t : Temporal) (ls : List Launch) : ∀ (ticks s : List Int), runM t ls ticks s = runB t ls ticks s
  | [], _ => rfl
  | x :: r, s => by
    rw [runM, runB, tickB_eq, runB_eq t ls r]
def validB (t : Temporal) (ls : List Launch) (ticks : List Int) : Int × Int :=
  if launchesM t ls ≠ 0 then (0, launchesM t ls) else if (runB t ls ticks t.init).1 ≠ 0 then (0, (runB t ls ticks t.init).1) else if ¬ HoldsP t.goal (runB t ls ticks t.init).2 then (0, 13) else (spanM t ls, 0)
theorem validB_eq (t : Temporal) (ls : List Launch) (ticks : List Int) : validM 0 t ls ticks = validB t ls ticks := by
  unfold validM validB
  rw [if_neg (fun h => h rfl), runB_eq]
  congr
instance (s : ByteArray) (i : Nat) : Decidable (NameAt s i) := by unfold NameAt; infer_instance
theorem lamp_check : CheckR lampM 0 := by
  refine .inr (.inr (.inr (.inr ⟨rfl, ?_, ?_, ?_, ?_⟩)))
  · rintro (h | h | ⟨l, hl, h⟩)
    · exact absurd h (by decide)
    · exact absurd h (by decide)
    · exact absurd h ((by decide : ∀ l ∈ listsM lampM, ¬ 64 < l.length) l hl)
  · rintro (⟨n, hn, h⟩ | ⟨j, hj, h⟩)
    · exact absurd h ((by decide : ∀ n ∈ lampM.vars, ¬ (n < 1 ∨ 64 < n)) n hn)
    · exact absurd h ((by decide : ∀ j ∈ lampM.jobs, ¬ (j.dur < 1 ∨ 62 < j.dur)) j hj)
  · have hoff : ProperP lampM.vars offF := proper_of (k := 1) (fun i hi f hf => by
      have : i = 0 := by omega
      subst this
      simp [offF] at hf
      subst hf
      exact ⟨by decide, by decide, by decide, fun v hv => by simp [lampM] at hv; subst hv; decide⟩) (by decide)
    have hon : ProperP lampM.vars onF := proper_of (k := 1) (fun i hi f hf => by
      have : i = 0 := by omega
      subst this
      simp [onF] at hf
      subst hf
      exact ⟨by decide, by decide, by decide, fun v hv => by simp [lampM] at hv; subst hv; decide⟩) (by decide)
    have hnil : ProperP lampM.vars [] := fun i f hf => by simp at hf
    rintro (h | ⟨l, hl, h⟩)
    · refine h (state_of (k := 1) rfl (fun i hi s hs v hv => ?_) (by decide))
      have : i = 0 := by omega
      subst this
      simp [lampM] at hs hv
      subst hs hv
      decide
    · simp [listsM, lampM, jobLists, lightJ, darkJ] at hl
      rcases hl with rfl | rfl | rfl | rfl | rfl | rfl | rfl | rfl | rfl | rfl | rfl <;> first | exact h hoff | exact h hon | exact h hnil
  · rintro ⟨j, hj, h⟩
    simp [lampM] at hj
    rcases hj with rfl | rfl
    · exact h ⟨by decide, by decide⟩
    · exact h ⟨by decide, by decide⟩
theorem lamp_ticks {ls : List Launch} {ticks : List Int} (h1 : ticks.Pairwise (· < ·)) (h2 : ∀ x, x ∈ ticks ↔ ∃ l ∈ ls, x = l.at_ ∨ x = endM lampM l) : TicksR lampM ls ticks := ⟨h1, fun x => by rw [haps_ne, h2]⟩
def plan1 : List Launch := [⟨0, 0⟩]
def plan2 : List Launch := [⟨0, 0⟩, ⟨3, 0⟩]
def plan3 : List Launch := [⟨4, 0⟩, ⟨0, 0⟩]
def plan4 : List Launch := [⟨0, 0⟩, ⟨1, 1⟩]
theorem ticks1 : TicksR lampM plan1 [0, 3] := lamp_ticks (by decide) fun x => by simp [plan1, endM, durM, lampM, lightJ, darkJ]
theorem ticks2 : TicksR lampM plan2 [0, 3, 6] := lamp_ticks (by decide) fun x => by simp [plan2, endM, durM, lampM, lightJ, darkJ]; omega
theorem ticks3 : TicksR lampM plan3 [0, 3, 4, 7] := lamp_ticks (by decide) fun x => by simp [plan3, endM, durM, lampM, lightJ, darkJ]; omega
theorem ticks4 : TicksR lampM plan4 [0, 1, 2, 3] := lamp_ticks (by decide) fun x => by simp [plan4, endM, durM, lampM, lightJ, darkJ]; omega
theorem valid1 : validM 0 lampM plan1 [0, 3] = (3, 0) := by rw [validB_eq]; decide
theorem valid2 : validM 0 lampM plan2 [0, 3, 6] = (0, 18) := by rw [validB_eq]; decide
theorem valid3 : validM 0 lampM plan3 [0, 3, 4, 7] = (7, 0) := by rw [validB_eq]; decide
theorem valid4 : validM 0 lampM plan4 [0, 1, 2, 3] = (0, 16) := by rw [validB_eq]; decide

theorem sl_launches {fz : FZ} {g e : Nat} {ls : List Launch} {cs : List Value} (hf : fz g = some (.cells cs.toArray e (0, 0))) (hc : cs = ls.flatMap fun l => [.int .i64 l.at_, .int .i64 l.job]) (hn : ls.length ≤ 1000) (h64 : ∀ l ∈ ls, I64 l.at_ ∧ I64 l.job) : Sl launchL fz (some ⟨g, 0, none⟩) ls.length ls.length ls := by
  have key : ∀ (ls : List Launch) (i : Nat) (l : Launch), ls[i]? = some l → (ls.flatMap fun l => [Value.int .i64 l.at_, Value.int .i64 l.job])[i * 2 + 0]? = some (.int .i64 l.at_) ∧ (ls.flatMap fun l => [Value.int .i64 l.at_, Value.int .i64 l.job])[i * 2 + 1]? = some (.int .i64 l.job) := by
    intro ls
    induction ls with
    | nil => intro i l h; simp at h
    | cons a r ih =>
      intro i l h
      cases i with
      | zero => simp at h; subst h; simp
      | succ i =>
        have := ih i l (by simpa using h)
        rw [List.flatMap_cons, show (i + 1) * 2 + 0 = (i * 2 + 0) + 1 + 1 from by omega, show (i + 1) * 2 + 1 = (i * 2 + 1) + 1 + 1 from by omega]
        simpa using this
  have hlen : ∀ (ls : List Launch), (ls.flatMap fun l => [Value.int .i64 l.at_, Value.int .i64 l.job]).length = ls.length * 2 := by
    intro ls
    induction ls with
    | nil => rfl
    | cons a r ih => rw [List.flatMap_cons, List.length_append, ih]; simp; omega
  subst hc
  refine sl_block hf (hlen ls) hn rfl fun i l hl => ⟨[.int .i64 l.at_, .int .i64 l.job], ⟨rfl, h64 l (List.mem_of_getElem? hl)⟩, fun j u hu => ?_⟩
  obtain ⟨k1, k2⟩ := key ls i l hl
  match j, hu with
  | 0, hu => simp at hu; subst hu; exact k1
  | 1, hu => simp at hu; subst hu; exact k2
  | j + 2, hu => simp at hu

theorem lamp_valid {fz : FZ} {A1 : Option Addr} {n1 c1 : Nat} {A2 : Option Addr} {n2 c2 : Nat} {A3 : Option Addr} {n3 c3 : Nat} {A4 : Option Addr} {c4 : Nat} (ht : TempR fz lampM A1 n1 c1 A2 n2 c2 A3 n3 c3 A4 2 c4)
    {B : Option Addr} {m d : Nat} {ls : List Launch} (hl : Sl launchL fz B m d ls) {ticks : List Int} (hticks : TicksR lampM ls ticks) {n code : Int} (h : validM 0 lampM ls ticks = (n, code)) :
    QFn Try.prog 13 [.agg #[.slice A1 n1 c1, .slice A2 n2 c2, .slice A3 n3 c3, .slice A4 2 c4], .slice B m d] fz (.tuple #[.int .i64 n, errV code]) := by
  have := tvalidate_q ht (by omega) hl lamp_check (fun _ _ => hticks)
  rw [h] at this
  exact this

set_option maxHeartbeats 1000000 in
theorem awake_q {fz : FZ} : QFn Try.prog 10 [] fz (.bool true) := by
  refine GFn.quiet ?_
  (refine GFn.of_wp Try.func10 rfl Try.ntmps10 rfl rfl (fun w0 => ?_))
  have hi : ∀ x : Int, 0 ≤ x → x ≤ 10 → I64 x := fun x h1 h2 => by unfold I64; omega
  ((refine Wp.seq ?_; refine Wp.region ?_; refine Seq.q (by exact rfl) ?_; refine q_assign (by exact rfl) ?_; refine Seq.done ?_; refine Wp.seq ?_; refine Wp.region ?_))
  refine Seq.stepK (by exact rfl) (k_call [] [] (by exact rfl) (by exact rfl) (by exact rfl) lamp_f (fun v fz1 Hs hle1 hR => ?_))
  obtain ⟨rfl, A1, n1, c1, A2, n2, c2, A3, n3, c3, A4, c4, rfl, ht⟩ := hR
  ((refine Seq.q (by exact rfl) ?_; refine q_build T (by exact rfl) (by exact rfl) (by exact rfl) (by exact rfl) (by exact rfl) ?_))
  (refine Seq.stepK (by exact rfl) (k_buildSlice T (cs := [_, _]) (by exact rfl) (by exact rfl) (by exact rfl) (by exact rfl) (by exact rfl) (by exact rfl) (by exact rfl) (by exact rfl) (fun g1 => ?_)))
  (first | refine Wp.freeze (by exact rfl) (fun fz2 hle2 hx2 => ?_) | refine Seq.freeze (by exact rfl) (fun fz2 hle2 hx2 => ?_))
  (((refine Seq.q (by exact rfl) ?_)); refine q_call (by exact rfl) (by exact rfl) (lamp_valid (ht.mono hle2) (sl_launches (ls := plan1) hx2 rfl (by decide) (fun l hl => by simp [plan1] at hl; rcases hl with rfl <;> exact ⟨hi _ (by decide) (by decide), hi _ (by decide) (by decide)⟩)) ticks1 valid1) ?_)
  ((refine Seq.q (by exact rfl) ?_; refine q_move (by exact rfl) ?_; refine Seq.q (by exact rfl) ?_; refine q_extract (by exact rfl) (by exact rfl) ?_; refine Seq.q (by exact rfl) ?_; refine q_extract (by exact rfl) (by exact rfl) ?_; refine Seq.q (by exact rfl) ?_; refine q_assign (by exact rfl) ?_; refine Seq.q (by exact rfl) ?_; refine q_assign (by exact rfl) ?_; refine Seq.done ?_; refine Wp.seq ?_; refine Wp.region ?_))
  clear ht hx2
  refine Seq.stepK (by exact rfl) (k_call [] [] (by exact rfl) (by exact rfl) (by exact rfl) lamp_f (fun v fz3 Hs hle3 hR => ?_))
  obtain ⟨rfl, A1, n1, c1, A2, n2, c2, A3, n3, c3, A4, c4, rfl, ht⟩ := hR
  ((refine Seq.q (by exact rfl) ?_; refine q_build T (by exact rfl) (by exact rfl) (by exact rfl) (by exact rfl) (by exact rfl) ?_; refine Seq.q (by exact rfl) ?_; refine q_build T (by exact rfl) (by exact rfl) (by exact rfl) (by exact rfl) (by exact rfl) ?_))
  (refine Seq.stepK (by exact rfl) (k_buildSlice T (cs := [_, _, _, _]) (by exact rfl) (by exact rfl) (by exact rfl) (by exact rfl) (by exact rfl) (by exact rfl) (by exact rfl) (by exact rfl) (fun g2 => ?_)))
  (first | refine Wp.freeze (by exact rfl) (fun fz4 hle4 hx4 => ?_) | refine Seq.freeze (by exact rfl) (fun fz4 hle4 hx4 => ?_))
  (((refine Seq.q (by exact rfl) ?_)); refine q_call (by exact rfl) (by exact rfl) (lamp_valid (ht.mono hle4) (sl_launches (ls := plan2) hx4 rfl (by decide) (fun l hl => by simp [plan2] at hl; rcases hl with rfl | rfl <;> exact ⟨hi _ (by decide) (by decide), hi _ (by decide) (by decide)⟩)) ticks2 valid2) ?_)
  ((refine Seq.q (by exact rfl) ?_; refine q_move (by exact rfl) ?_; refine Seq.q (by exact rfl) ?_; refine q_extract (by exact rfl) (by exact rfl) ?_; refine Seq.q (by exact rfl) ?_; refine q_extract (by exact rfl) (by exact rfl) ?_; refine Seq.q (by exact rfl) ?_; refine q_assign (by exact rfl) ?_; refine Seq.q (by exact rfl) ?_; refine q_assign (by exact rfl) ?_; refine Seq.done ?_; refine Wp.seq ?_; refine Wp.region ?_))
  clear ht hx4
  refine Seq.stepK (by exact rfl) (k_call [] [] (by exact rfl) (by exact rfl) (by exact rfl) lamp_f (fun v fz5 Hs hle5 hR => ?_))
  obtain ⟨rfl, A1, n1, c1, A2, n2, c2, A3, n3, c3, A4, c4, rfl, ht⟩ := hR
  ((refine Seq.q (by exact rfl) ?_; refine q_build T (by exact rfl) (by exact rfl) (by exact rfl) (by exact rfl) (by exact rfl) ?_; refine Seq.q (by exact rfl) ?_; refine q_build T (by exact rfl) (by exact rfl) (by exact rfl) (by exact rfl) (by exact rfl) ?_))
  (refine Seq.stepK (by exact rfl) (k_buildSlice T (cs := [_, _, _, _]) (by exact rfl) (by exact rfl) (by exact rfl) (by exact rfl) (by exact rfl) (by exact rfl) (by exact rfl) (by exact rfl) (fun g3 => ?_)))
  (first | refine Wp.freeze (by exact rfl) (fun fz6 hle6 hx6 => ?_) | refine Seq.freeze (by exact rfl) (fun fz6 hle6 hx6 => ?_))
  (((refine Seq.q (by exact rfl) ?_)); refine q_call (by exact rfl) (by exact rfl) (lamp_valid (ht.mono hle6) (sl_launches (ls := plan3) hx6 rfl (by decide) (fun l hl => by simp [plan3] at hl; rcases hl with rfl | rfl <;> exact ⟨hi _ (by decide) (by decide), hi _ (by decide) (by decide)⟩)) ticks3 valid3) ?_)
  ((refine Seq.q (by exact rfl) ?_; refine q_move (by exact rfl) ?_; refine Seq.q (by exact rfl) ?_; refine q_extract (by exact rfl) (by exact rfl) ?_; refine Seq.q (by exact rfl) ?_; refine q_extract (by exact rfl) (by exact rfl) ?_; refine Seq.q (by exact rfl) ?_; refine q_assign (by exact rfl) ?_; refine Seq.q (by exact rfl) ?_; refine q_assign (by exact rfl) ?_; refine Seq.done ?_; refine Wp.seq ?_; refine Wp.region ?_))
  clear ht hx6
  refine Seq.stepK (by exact rfl) (k_call [] [] (by exact rfl) (by exact rfl) (by exact rfl) lamp_f (fun v fz7 Hs hle7 hR => ?_))
  obtain ⟨rfl, A1, n1, c1, A2, n2, c2, A3, n3, c3, A4, c4, rfl, ht⟩ := hR
  ((refine Seq.q (by exact rfl) ?_; refine q_build T (by exact rfl) (by exact rfl) (by exact rfl) (by exact rfl) (by exact rfl) ?_; refine Seq.q (by exact rfl) ?_; refine q_build T (by exact rfl) (by exact rfl) (by exact rfl) (by exact rfl) (by exact rfl) ?_))
  (refine Seq.stepK (by exact rfl) (k_buildSlice T (cs := [_, _, _, _]) (by exact rfl) (by exact rfl) (by exact rfl) (by exact rfl) (by exact rfl) (by exact rfl) (by exact rfl) (by exact rfl) (fun g4 => ?_)))
  (first | refine Wp.freeze (by exact rfl) (fun fz8 hle8 hx8 => ?_) | refine Seq.freeze (by exact rfl) (fun fz8 hle8 hx8 => ?_))
  (((refine Seq.q (by exact rfl) ?_)); refine q_call (by exact rfl) (by exact rfl) (lamp_valid (ht.mono hle8) (sl_launches (ls := plan4) hx8 rfl (by decide) (fun l hl => by simp [plan4] at hl; rcases hl with rfl | rfl <;> exact ⟨hi _ (by decide) (by decide), hi _ (by decide) (by decide)⟩)) ticks4 valid4) ?_)
  ((refine Seq.q (by exact rfl) ?_; refine q_move (by exact rfl) ?_; refine Seq.q (by exact rfl) ?_; refine q_extract (by exact rfl) (by exact rfl) ?_; refine Seq.q (by exact rfl) ?_; refine q_extract (by exact rfl) (by exact rfl) ?_; refine Seq.q (by exact rfl) ?_; refine q_assign (by exact rfl) ?_; refine Seq.q (by exact rfl) ?_; refine q_assign (by exact rfl) ?_; refine Seq.done ?_; refine Wp.seq ?_; refine Wp.region ?_; refine Seq.q (by exact rfl) ?_; refine q_move (by exact rfl) ?_; refine Seq.q (by exact rfl) ?_; refine q_eql_nil T (by exact rfl) (by exact rfl) (by exact rfl) (by exact rfl) ?_; refine Seq.q (by exact rfl) ?_; refine q_move (by exact rfl) ?_; refine Seq.guard_yes (by exact rfl) (by exact rfl) (by exact rfl) ?_; refine q_move (by exact rfl) ?_))
  (((refine Seq.guard_yes (by exact rfl) (by exact rfl) (by exact rfl) ?_)); (refine q_eqlD (by exact rfl) (by exact rfl) (fun q1 => ?_) (fun q1 => ?_)))
  · ((refine Seq.q (by exact rfl) ?_; refine q_pick_true (by exact rfl) (by exact rfl) ?_; refine Seq.q (by exact rfl) ?_; refine q_move (by exact rfl) ?_; refine Seq.guard_yes (by exact rfl) (by exact rfl) (by exact rfl) ?_; refine q_move (by exact rfl) ?_))
    (((refine Seq.guard_yes (by exact rfl) (by exact rfl) (by exact rfl) ?_)); refine q_callB (by exact rfl) (by exact rfl) (is_q (n := 18) (m := 18) (by decide)) (fun q2 => ?_) (fun q2 => ?_))
    · ((refine Seq.q (by exact rfl) ?_; refine q_pick_true (by exact rfl) (by exact rfl) ?_; refine Seq.q (by exact rfl) ?_; refine q_move (by exact rfl) ?_; refine Seq.guard_yes (by exact rfl) (by exact rfl) (by exact rfl) ?_; refine q_move (by exact rfl) ?_; refine Seq.guard_yes (by exact rfl) (by exact rfl) (by exact rfl) ?_; refine q_eql_nil T (by exact rfl) (by exact rfl) (by exact rfl) (by exact rfl) ?_; refine Seq.q (by exact rfl) ?_; refine q_pick_true (by exact rfl) (by exact rfl) ?_; refine Seq.q (by exact rfl) ?_; refine q_move (by exact rfl) ?_; refine Seq.guard_yes (by exact rfl) (by exact rfl) (by exact rfl) ?_; refine q_move (by exact rfl) ?_))
      (((refine Seq.guard_yes (by exact rfl) (by exact rfl) (by exact rfl) ?_)); (refine q_eqlD (by exact rfl) (by exact rfl) (fun q3 => ?_) (fun q3 => ?_)))
      · ((refine Seq.q (by exact rfl) ?_; refine q_pick_true (by exact rfl) (by exact rfl) ?_; refine Seq.q (by exact rfl) ?_; refine q_move (by exact rfl) ?_; refine Seq.guard_yes (by exact rfl) (by exact rfl) (by exact rfl) ?_; refine q_move (by exact rfl) ?_))
        (((refine Seq.guard_yes (by exact rfl) (by exact rfl) (by exact rfl) ?_)); refine q_callB (by exact rfl) (by exact rfl) (is_q (n := 16) (m := 16) (by decide)) (fun q4 => ?_) (fun q4 => ?_))
        · ((refine Seq.q (by exact rfl) ?_; refine q_pick_true (by exact rfl) (by exact rfl) ?_; refine Seq.q (by exact rfl) ?_; refine q_assign (by exact rfl) ?_; refine Seq.done ?_; refine Wp.ret ?_))
          (exact ret1 rfl rfl (by repeat (first | exact List.Sublist.refl _ | exact List.nil_sublist _ | refine List.Sublist.cons_cons _ ?_ | refine List.Sublist.cons _ ?_)) rfl)
        · exact absurd q4 (by decide)
      · exact absurd rfl q3
    · exact absurd q2 (by decide)
  · exact absurd rfl q1
end Go.Proofs.Ytfidaamledbmpaa
