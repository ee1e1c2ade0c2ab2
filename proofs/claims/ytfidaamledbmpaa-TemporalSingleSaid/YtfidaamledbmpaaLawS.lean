/- TemporalSingle, walked: it returns true, whatever the task, the time and the job. Conditions: the arguments read as data. -/
import Derived.Test.YtfidaamledbmpaaWalkL
import Derived.Test.YtfidaamledbmpaaPlainB
import Derived.Test.YtfidaamledbmpaaCut
namespace Go.Lx
theorem JobR.mono {fz fz' : FZ} (hle : Le fz fz') {j : Job} {A1 : Option Addr} {n1 c1 : Nat} {A2 : Option Addr} {n2 c2 : Nat} {A3 : Option Addr} {n3 c3 : Nat} {A4 : Option Addr} {n4 c4 : Nat} {A5 : Option Addr} {n5 c5 : Nat} (h : JobR fz j A1 n1 c1 A2 n2 c2 A3 n3 c3 A4 n4 c4 A5 n5 c5) : JobR fz' j A1 n1 c1 A2 n2 c2 A3 n3 c3 A4 n4 c4 A5 n5 c5 :=
  ⟨h.name, h.dur, h.start.mono hle, h.over.mono hle, h.fin.mono hle, h.atStart.mono hle, h.atEnd.mono hle⟩
end Go.Lx
namespace Go.Proofs.Ytfidaamledbmpaa
open Go.Lx Go.RowKit
attribute [local instance 10] Classical.propDecidable

theorem dtrue {p : Prop} {i : Decidable p} (h : @decide p i = true) : p := of_decide_eq_true h
theorem dfalse {p : Prop} {i : Decidable p} (h : @decide p i = false) : ¬ p := of_decide_eq_false h
theorem ints_src {fz : FZ} {S : Option Addr} {n c : Nat} {s : List Int} (hs : Sl intL fz S n c s) : n = 0 ∨ ∃ ad, S = some ad ∧ Row fz ad (s.map (Value.int .i64)) := by
  rcases hs.elem with h0 | ⟨ad, h1, h2⟩
  · exact .inl h0
  · refine .inr ⟨ad, h1, fun j u hu => ?_⟩
    rw [List.getElem?_map] at hu
    cases hx : s[j]? with
    | none => simp [hx] at hu
    | some x =>
      simp [hx] at hu
      subst hu
      obtain ⟨v, ⟨he, _⟩, hc⟩ := (h2 j x hx).cell rfl
      injection he with he
      subst he
      simpa [intL] using hc
theorem ints_64 {fz : FZ} {S : Option Addr} {n c : Nat} {s : List Int} (hs : Sl intL fz S n c s) : ∀ z ∈ s, I64 z := fun z hz => by
  obtain ⟨i, hi⟩ := List.mem_iff_getElem?.1 hz
  obtain ⟨ad, _, cs, hr, _⟩ := slAt hs hi
  exact hr.2

set_option maxHeartbeats 4000000 in
theorem single_q {fz : FZ} {t : Temporal} {A1 : Option Addr} {n1 c1 : Nat} {A2 : Option Addr} {n2 c2 : Nat} {A3 : Option Addr} {n3 c3 : Nat} {A4 : Option Addr} {n4 c4 : Nat} (ht : TempR fz t A1 n1 c1 A2 n2 c2 A3 n3 c3 A4 n4 c4) {at_ job : Nat} (hat : at_ ≤ 65535) (hjob : job ≤ 255) :
    QFn Try.prog 5 [.agg #[.slice A1 n1 c1, .slice A2 n2 c2, .slice A3 n3 c3, .slice A4 n4 c4], .int .u16 at_, .int .u8 job] fz (.bool true) := by
  refine GFn.quiet ?_
  (refine GFn.of_wp Try.func5 rfl Try.ntmps5 rfl rfl (fun w0 => ?_))
  have l4 := ht.jobs.len
  obtain ⟨code, hcode⟩ := check_total t
  refine Wp.seq (Wp.region (Seq.stepK (by exact rfl) (k_box _ (by exact rfl) (by exact rfl) (fun gt => ?_))))
  ((refine Seq.q (by exact rfl) ?_; refine q_assign (by exact rfl) ?_; refine Seq.done ?_; refine Wp.seq ?_; refine Wp.seq ?_; refine Wp.region ?_))
  (((refine Seq.q (by exact rfl) ?_)); refine q_call (by exact rfl) (by exact rfl) awake_q ?_)
  ((refine Seq.q (by exact rfl) ?_; refine q_not (by exact rfl) ?_; refine Seq.q (by exact rfl) ?_; refine q_move (by exact rfl) ?_; refine Seq.guard_yes (by exact rfl) (by exact rfl) (by exact rfl) ?_; refine q_load_own_all T 0 (by exact rfl) (by exact rfl) (by exact rfl) (by exact rfl) (by exact rfl) ?_))
  (((refine Seq.guard_yes (by exact rfl) (by exact rfl) (by exact rfl) ?_)); refine q_callB (by exact rfl) (by exact rfl) (few_q ht (B := none) (m := 0) (d := 0)) (fun q1 => ?_) (fun q1 => ?_))
  rotate_left
  · ((refine Seq.guard_yes (by exact rfl) (by exact rfl) (by exact rfl) ?_; refine q_not (by exact rfl) ?_; refine Seq.q (by exact rfl) ?_; refine q_pick_false (by exact rfl) (by exact rfl) ?_; refine Seq.q (by exact rfl) ?_; refine q_move (by exact rfl) ?_; refine Seq.guard_no (by exact rfl) (by exact rfl) (by exact rfl) (by exact rfl) ?_; refine Seq.guard_no (by exact rfl) (by exact rfl) (by exact rfl) (by exact rfl) ?_; refine Seq.guard_no (by exact rfl) (by exact rfl) (by exact rfl) (by exact rfl) ?_; refine Seq.q (by exact rfl) ?_; refine q_pick_true (by exact rfl) (by exact rfl) ?_; refine Seq.done ?_; refine Wp.cond_true (by exact rfl) ?_; refine Wp.seq ?_; refine Wp.region ?_))
    (((refine Seq.q (by exact rfl) ?_)); refine q_call (by exact rfl) (by exact rfl) awake_q ?_)
    ((refine Seq.q (by exact rfl) ?_; refine q_assign (by exact rfl) ?_; refine Seq.done ?_; refine Wp.ret ?_; refine thenR ?_))
    (exact ret1 rfl rfl (by repeat (first | exact List.Sublist.refl _ | exact List.nil_sublist _ | refine List.Sublist.cons_cons _ ?_ | refine List.Sublist.cons _ ?_)) rfl)
  replace q1 := of_decide_eq_true q1
  have h4 : n4 ≤ 1000 := by have := q1.2.1; omega
  have hnil : Sl launchL fz none 0 0 [] := Sl.nil (by omega)
  ((refine Seq.guard_yes (by exact rfl) (by exact rfl) (by exact rfl) ?_; refine q_not (by exact rfl) ?_; refine Seq.q (by exact rfl) ?_; refine q_pick_false (by exact rfl) (by exact rfl) ?_; refine Seq.q (by exact rfl) ?_; refine q_move (by exact rfl) ?_; refine Seq.guard_yes (by exact rfl) (by exact rfl) (by exact rfl) ?_; refine q_load_own_all T 0 (by exact rfl) (by exact rfl) (by exact rfl) (by exact rfl) (by exact rfl) ?_))
  (((refine Seq.guard_yes (by exact rfl) (by exact rfl) (by exact rfl) ?_)); refine q_call (by exact rfl) (by exact rfl) (tcheck_q ht h4 hcode) ?_)
  by_cases hc : code = 0
  rotate_left
  · rw [errV_ne hc]
    ((refine Seq.guard_yes (by exact rfl) (by exact rfl) (by exact rfl) ?_; refine q_neq_some T (by exact rfl) (by exact rfl) (by exact rfl) (by exact rfl) ?_; refine Seq.q (by exact rfl) ?_; refine q_pick_false (by exact rfl) (by exact rfl) ?_; refine Seq.done ?_; refine Wp.cond_true (by exact rfl) ?_; refine Wp.seq ?_; refine Wp.region ?_))
    (((refine Seq.q (by exact rfl) ?_)); refine q_call (by exact rfl) (by exact rfl) awake_q ?_)
    ((refine Seq.q (by exact rfl) ?_; refine q_assign (by exact rfl) ?_; refine Seq.done ?_; refine Wp.ret ?_; refine thenR ?_))
    (exact ret1 rfl rfl (by repeat (first | exact List.Sublist.refl _ | exact List.nil_sublist _ | refine List.Sublist.cons_cons _ ?_ | refine List.Sublist.cons _ ?_)) rfl)
  subst hc
  rw [show errV 0 = .nilIface from rfl]
  have hvq := tvalidate_q ht h4 hnil hcode (ticks := []) (fun _ _ => ⟨List.Pairwise.nil, fun x => by simp [hapsM]⟩)
  obtain ⟨c0, hv0, g1, g2⟩ := valid_nil t
  rw [hv0] at hvq
  ((refine Seq.guard_yes (by exact rfl) (by exact rfl) (by exact rfl) ?_; refine q_neq_nil T (by exact rfl) (by exact rfl) (by exact rfl) (by exact rfl) ?_; refine Seq.q (by exact rfl) ?_; refine q_pick_false (by exact rfl) (by exact rfl) ?_; refine Seq.done ?_; refine Wp.cond_false (by exact rfl) ?_; refine Wp.skip ?_; refine thenN ?_; refine Wp.seq ?_; refine Wp.region ?_; refine Seq.q (by exact rfl) ?_; refine q_load_own_all T 0 (by exact rfl) (by exact rfl) (by exact rfl) (by exact rfl) (by exact rfl) ?_))
  (((refine Seq.q (by exact rfl) ?_)); refine q_call (by exact rfl) (by exact rfl) hvq ?_)
  ((refine Seq.q (by exact rfl) ?_)); refine q_move (by exact rfl) ?_
  ((refine Seq.q (by exact rfl) ?_)); refine q_extract (by exact rfl) (by exact rfl) ?_
  ((refine Seq.q (by exact rfl) ?_)); refine q_extract (by exact rfl) (by exact rfl) ?_
  ((refine Seq.q (by exact rfl) ?_)); refine q_assign (by exact rfl) ?_
  ((refine Seq.q (by exact rfl) ?_)); refine q_assign (by exact rfl) ?_
  refine Seq.done ?_
  refine Wp.cutS (fun σ fz' H' => σ = [(1, .int .u16 at_), (2, .int .u8 job), (3, .pointer (some ⟨gt, 0, none⟩))] ∧ fz = fz' ∧ H' = [(gt, .cells #[.slice A1 n1 c1, .slice A2 n2 c2, .slice A3 n3 c3, .slice A4 n4 c4] 26 (0, 0))]) ?_ ?_
  · ((refine Wp.region ?_; refine Seq.q (by exact rfl) ?_; refine q_fieldAddr T (by exact rfl) (by exact rfl) (by exact rfl) (by exact rfl) (by exact rfl) (by exact rfl) ?_; refine Seq.q (by exact rfl) ?_; refine q_load_own T 0 (by exact rfl) (by exact rfl) (by exact rfl) (by exact rfl) (by exact rfl) ?_; refine Seq.q (by exact rfl) ?_; refine q_fieldAddr T (by exact rfl) (by exact rfl) (by exact rfl) (by exact rfl) (by exact rfl) (by exact rfl) ?_; refine Seq.q (by exact rfl) ?_; refine q_load_own T 0 (by exact rfl) (by exact rfl) (by exact rfl) (by exact rfl) (by exact rfl) ?_))
    (((refine Seq.q (by exact rfl) ?_)); refine q_callB (by exact rfl) (by exact rfl) (holds_q ht.goal ht.init) (fun hg => ?_) (fun hg => ?_))
    · replace hg := dtrue hg
      rw [g1 hg]
      rw [show errV 0 = .nilIface from rfl]
      ((refine Seq.q (by exact rfl) ?_; refine q_assign (by exact rfl) ?_; refine Seq.done ?_; refine Wp.seq ?_; refine Wp.region ?_; refine Seq.q (by exact rfl) ?_; refine q_move (by exact rfl) ?_))
      (((refine Seq.q (by exact rfl) ?_)); (refine q_neqD (by exact rfl) (by exact rfl) (fun z1 => ?_) (fun z1 => ?_)))
      · exact absurd rfl z1
      ((refine Seq.q (by exact rfl) ?_; refine q_move (by exact rfl) ?_; refine Seq.guard_yes (by exact rfl) (by exact rfl) (by exact rfl) ?_; refine q_move (by exact rfl) ?_; refine Seq.guard_yes (by exact rfl) (by exact rfl) (by exact rfl) ?_; refine q_move (by exact rfl) ?_; refine Seq.guard_yes (by exact rfl) (by exact rfl) (by exact rfl) ?_; refine q_eql_nil T (by exact rfl) (by exact rfl) (by exact rfl) (by exact rfl) ?_))
      ((refine Seq.guard_yes (by exact rfl) (by exact rfl) (by exact rfl) ?_)); refine q_neq_boolD T (by exact rfl) (by exact rfl) (by exact rfl) (by exact rfl) (fun z => absurd rfl z) (fun z => ?_)
      ((refine Seq.q (by exact rfl) ?_; refine q_pick_false (by exact rfl) (by exact rfl) ?_; refine Seq.q (by exact rfl) ?_; refine q_move (by exact rfl) ?_; refine Seq.guard_yes (by exact rfl) (by exact rfl) (by exact rfl) ?_; refine q_move (by exact rfl) ?_; refine Seq.guard_yes (by exact rfl) (by exact rfl) (by exact rfl) ?_; refine q_not (by exact rfl) ?_; refine Seq.guard_yes (by exact rfl) (by exact rfl) (by exact rfl) ?_; refine q_move (by exact rfl) ?_; refine Seq.guard_no (by exact rfl) (by exact rfl) (by exact rfl) (by exact rfl) ?_; refine Seq.guard_no (by exact rfl) (by exact rfl) (by exact rfl) (by exact rfl) ?_; refine Seq.guard_no (by exact rfl) (by exact rfl) (by exact rfl) (by exact rfl) ?_; refine Seq.guard_yes (by exact rfl) (by exact rfl) (by exact rfl) ?_; refine q_pick_false (by exact rfl) (by exact rfl) ?_; refine Seq.q (by exact rfl) ?_; refine q_pick_false (by exact rfl) (by exact rfl) ?_; refine Seq.done ?_; refine Wp.cond_false (by exact rfl) ?_; refine Wp.skip ?_))
      exact cutN ⟨rfl, rfl, rfl⟩ (by repeat (first | exact trivial | refine ⟨by exact rfl, ?_⟩)) (by repeat (first | exact List.Sublist.refl _ | exact List.nil_sublist _ | refine List.Sublist.cons_cons _ ?_ | refine List.Sublist.cons _ ?_))
    · replace hg := dfalse hg
      rw [g2 hg]
      ((refine Seq.q (by exact rfl) ?_; refine q_assign (by exact rfl) ?_; refine Seq.done ?_; refine Wp.seq ?_; refine Wp.region ?_; refine Seq.q (by exact rfl) ?_; refine q_move (by exact rfl) ?_))
      (((refine Seq.q (by exact rfl) ?_)); (refine q_neqD (by exact rfl) (by exact rfl) (fun z1 => ?_) (fun z1 => ?_)))
      · exact absurd rfl z1
      rw [errV_ne (n := 13) (by decide)]
      ((refine Seq.q (by exact rfl) ?_; refine q_move (by exact rfl) ?_; refine Seq.guard_yes (by exact rfl) (by exact rfl) (by exact rfl) ?_; refine q_move (by exact rfl) ?_; refine Seq.guard_yes (by exact rfl) (by exact rfl) (by exact rfl) ?_; refine q_move (by exact rfl) ?_; refine Seq.guard_yes (by exact rfl) (by exact rfl) (by exact rfl) ?_; refine q_eql_some T (by exact rfl) (by exact rfl) (by exact rfl) (by exact rfl) ?_))
      ((refine Seq.guard_yes (by exact rfl) (by exact rfl) (by exact rfl) ?_)); refine q_neq_boolD T (by exact rfl) (by exact rfl) (by exact rfl) (by exact rfl) (fun z => absurd rfl z) (fun z => ?_)
      ((refine Seq.q (by exact rfl) ?_; refine q_pick_false (by exact rfl) (by exact rfl) ?_; refine Seq.q (by exact rfl) ?_; refine q_move (by exact rfl) ?_; refine Seq.guard_yes (by exact rfl) (by exact rfl) (by exact rfl) ?_; refine q_move (by exact rfl) ?_; refine Seq.guard_yes (by exact rfl) (by exact rfl) (by exact rfl) ?_; refine q_not (by exact rfl) ?_; refine Seq.guard_yes (by exact rfl) (by exact rfl) (by exact rfl) ?_; refine q_move (by exact rfl) ?_; refine Seq.guard_yes (by exact rfl) (by exact rfl) (by exact rfl) ?_; refine q_move (by exact rfl) ?_))
      rw [← errV_ne (n := 13) (by decide)]
      (((refine Seq.guard_yes (by exact rfl) (by exact rfl) (by exact rfl) ?_)); refine q_call (by exact rfl) (by exact rfl) ((is_q (n := 13) (m := 13) (by decide)).eq (v' := .bool true) (by simp)) ?_)
      ((refine Seq.guard_yes (by exact rfl) (by exact rfl) (by exact rfl) ?_; refine q_not (by exact rfl) ?_; refine Seq.guard_yes (by exact rfl) (by exact rfl) (by exact rfl) ?_; refine q_pick_true (by exact rfl) (by exact rfl) ?_; refine Seq.q (by exact rfl) ?_; refine q_pick_false (by exact rfl) (by exact rfl) ?_; refine Seq.done ?_; refine Wp.cond_false (by exact rfl) ?_; refine Wp.skip ?_))
      exact cutN ⟨rfl, rfl, rfl⟩ (by repeat (first | exact trivial | refine ⟨by exact rfl, ?_⟩)) (by repeat (first | exact List.Sublist.refl _ | exact List.nil_sublist _ | refine List.Sublist.cons_cons _ ?_ | refine List.Sublist.cons _ ?_))
  rintro σ fz' H' ⟨rfl, rfl, rfl⟩
  ((refine Wp.seq ?_; refine Wp.seq ?_; refine Wp.region ?_; refine Seq.q (by exact rfl) ?_; refine q_fieldAddr T (by exact rfl) (by exact rfl) (by exact rfl) (by exact rfl) (by exact rfl) (by exact rfl) ?_; refine Seq.q (by exact rfl) ?_; refine q_load_own T 0 (by exact rfl) (by exact rfl) (by exact rfl) (by exact rfl) (by exact rfl) ?_; refine Seq.q (by exact rfl) ?_; refine q_len_slice T (by exact rfl) (by exact rfl) (by exact rfl) ?_))
  (((refine Seq.q (by exact rfl) ?_)); (refine q_eqlD (by exact rfl) (by exact rfl) (fun h0 => ?_) (fun h0 => ?_)))
  · ((refine Seq.done ?_; refine Wp.cond_true (by exact rfl) ?_; refine Wp.seq ?_; refine Wp.region ?_; refine Seq.q (by exact rfl) ?_; refine q_assign (by exact rfl) ?_; refine Seq.done ?_; refine Wp.ret ?_; refine thenR ?_))
    (exact ret1 rfl rfl (by repeat (first | exact List.Sublist.refl _ | exact List.nil_sublist _ | refine List.Sublist.cons_cons _ ?_ | refine List.Sublist.cons _ ?_)) rfl)
  ((refine Seq.done ?_; refine Wp.cond_false (by exact rfl) ?_; refine Wp.skip ?_; refine thenN ?_; refine Wp.seq ?_; refine Wp.region ?_; refine Seq.q (by exact rfl) ?_; refine q_move (by exact rfl) ?_))
  ((refine Seq.q (by exact rfl) ?_)); refine q_convert_int T (by exact rfl) (by exact rfl) (by exact rfl) (by exact rfl) (wrap_in (by omega)) ?_
  ((refine Seq.q (by exact rfl) ?_; refine q_fieldAddr T (by exact rfl) (by exact rfl) (by exact rfl) (by exact rfl) (by exact rfl) (by exact rfl) ?_; refine Seq.q (by exact rfl) ?_; refine q_load_own T 0 (by exact rfl) (by exact rfl) (by exact rfl) (by exact rfl) (by exact rfl) ?_; refine Seq.q (by exact rfl) ?_; refine q_len_slice T (by exact rfl) (by exact rfl) (by exact rfl) ?_))
  ((refine Seq.q (by exact rfl) ?_)); refine q_rem (by exact rfl) (by exact rfl) (by omega) ?_
  have hkb := Nat.mod_lt job (show 0 < n4 by omega)
  generalize job % n4 = k at hkb ⊢
  obtain ⟨j, hj⟩ := get_some (l := t.jobs) (k := k) (by omega)
  ((refine Seq.q (by exact rfl) ?_; refine q_assign (by exact rfl) ?_; refine Seq.done ?_; refine Wp.seq ?_; refine Wp.region ?_; refine Seq.q (by exact rfl) ?_; refine q_fieldAddr T (by exact rfl) (by exact rfl) (by exact rfl) (by exact rfl) (by exact rfl) (by exact rfl) ?_; refine Seq.q (by exact rfl) ?_; refine q_load_own T 0 (by exact rfl) (by exact rfl) (by exact rfl) (by exact rfl) (by exact rfl) ?_; refine Seq.q (by exact rfl) ?_; refine q_move (by exact rfl) ?_))
  (((refine Seq.q (by exact rfl) ?_)); refine q_index T k (by exact rfl) (by exact rfl) (by exact rfl) (by exact rfl) (by exact rfl) (by exact rfl) ht.jobs (by first | rfl | omega) hj (fun p3 hp3 => ?_))
  (((refine Seq.q (by exact rfl) ?_)); refine q_load_at T (by exact rfl) (by exact rfl) (by exact rfl) hp3 (by exact rfl) ?_)
  rintro _ ⟨B1, m1, d1, B2, m2, d2, B3, m3, d3, B4, m4, d4, B5, m5, d5, rfl, hJ⟩
  refine Seq.stepK (by exact rfl) (k_alloc T (by exact rfl) (by exact rfl) (fun gj => ?_))
  have hG := good_of hcode
  have l2 := ht.init.len
  have hvs := hG.vars
  have hin := hG.init
  have hwr := hG.wr
  rw [l2] at hwr
  have la4 := hJ.atStart.len
  have sa4 := hJ.atStart.short
  have la5 := hJ.atEnd.len
  have sa5 := hJ.atEnd.short
  ((refine Seq.stepK0 (k_store0 T (by exact rfl) (by exact rfl) (by exact rfl) (by exact rfl) (by exact rfl) (by exact rfl) ?_); refine Seq.done ?_; refine Wp.seq ?_; refine Wp.region ?_))
  refine Seq.stepK (by exact rfl) (k_buildSlice0 T (by exact rfl) (by exact rfl) (by exact rfl) (fun gs => ?_))
  ((refine Seq.q (by exact rfl) ?_; refine q_fieldAddr T (by exact rfl) (by exact rfl) (by exact rfl) (by exact rfl) (by exact rfl) (by exact rfl) ?_; refine Seq.q (by exact rfl) ?_; refine q_load_own T 2 (by exact rfl) (by exact rfl) (by exact rfl) (by exact rfl) (by exact rfl) ?_))
  refine Seq.stepK (by exact rfl) (k_append T (Hr := [_, _]) (by exact rfl) (by exact rfl) (by exact rfl) (by exact rfl) (by exact rfl) (by exact rfl) (by exact rfl) (List.perm_append_comm (l₁ := [_]) (l₂ := [_, _])) (OwnS.of_block (cs := []) (n := 0) rfl (by decide)) (by show _ = _ * 1; simp [l2]) (src_row (ints_src ht.init)) (by intro u hu; obtain ⟨x, _, rfl⟩ := List.mem_map.1 hu; rfl) (by show _ * 8 ≤ _; omega) (by omega) (fun v Hs hO => ?_))
  simp only [Nat.zero_add, List.nil_append] at hO
  ((refine Seq.q (by exact rfl) ?_; refine q_assign (by exact rfl) ?_; refine Seq.done ?_; refine Wp.seq ?_; refine Wp.seq ?_; refine Wp.region ?_; refine Seq.q (by exact rfl) ?_; refine q_fieldAddr T (by exact rfl) (by exact rfl) (by exact rfl) (by exact rfl) (by exact rfl) (by exact rfl) ?_; refine Seq.q (by exact rfl) ?_; refine q_load_own T 0 (by exact rfl) (by exact rfl) (by exact rfl) (by exact rfl) (by exact rfl) ?_; refine Seq.q (by exact rfl) ?_; refine q_len_slice T (by exact rfl) (by exact rfl) (by exact rfl) ?_; refine Seq.q (by exact rfl) ?_; refine q_move (by exact rfl) ?_; refine Seq.done ?_; refine Wp.block ?_))
  refine Wp.loop (fun q σ fz' H' => ∃ (b : Nat) (xs : List Int) (Hs : HP), b ≤ m4 ∧ q = m4 - b ∧ σ = [(80, .int .i64 b), (79, .int .i64 m4), (78, .slice B4 m4 d4), (12, v), (10, .int .i64 k), (11, .pointer (some ⟨gj, 0, none⟩)), (1, .int .u16 at_), (3, .pointer (some ⟨gt, 0, none⟩))] ∧ fz = fz' ∧
      H' = (gj, .cells #[.string j.name, .int .i64 j.dur, .slice B1 m1 d1, .slice B2 m2 d2, .slice B3 m3 d3, .slice B4 m4 d4, .slice B5 m5 d5] 47 (0, 0)) :: (gt, .cells #[.slice A1 n1 c1, .slice A2 n2 c2, .slice A3 n3 c3, .slice A4 n4 c4] 26 (0, 0)) :: Hs ∧ OwnS 3 1 v n2 (xs.map (Value.int .i64)) Hs ∧ (∀ z ∈ xs, I64 z) ∧ xs = putF t.init (j.atStart.take b))
    ⟨0, t.init, _, Nat.zero_le _, rfl, rfl, rfl, rfl, hO, ints_64 ht.init, rfl⟩ (by repeat (first | exact trivial | refine ⟨by exact rfl, ?_⟩)) (by repeat (first | exact List.Sublist.refl _ | exact List.nil_sublist _ | refine List.Sublist.cons_cons _ ?_ | refine List.Sublist.cons _ ?_)) ?_
  clear hO Hs
  rintro q σ fz' H' ⟨b, xs1, Hs, hb, rfl, rfl, rfl, rfl, hO, hx1, he1⟩
  ((refine Wp.seq ?_; refine Wp.region ?_))
  (((refine Seq.q (by exact rfl) ?_)); (refine q_lssD (by exact rfl) (by exact rfl) (fun hlt => ?_) (fun hge => ?_)))
  · ((refine Seq.done ?_; refine Wp.seq ?_; refine Wp.cond_true (by exact rfl) ?_; refine Wp.skip ?_; refine thenN ?_; refine Wp.seq ?_; refine Wp.block ?_; refine Wp.seq ?_; refine Wp.region ?_))
    obtain ⟨y, hy⟩ := get_some (l := j.atStart) (k := b) (by omega)
    have hwo := hwr j (List.mem_of_getElem? hj) false y (List.mem_of_getElem? hy)
    (((refine Seq.q (by exact rfl) ?_)); refine q_index T b (by exact rfl) (by exact rfl) (by exact rfl) (by exact rfl) (by exact rfl) (by exact rfl) hJ.atStart (by first | rfl | omega) hy (fun p4 hp4 => ?_))
    (((refine Seq.q (by exact rfl) ?_)); refine q_load_at T (by exact rfl) (by exact rfl) (by exact rfl) hp4 (by exact rfl) ?_)
    rintro _ ⟨rfl, i2, i3⟩
    refine Seq.stepK (by exact rfl) (k_alloc T (by exact rfl) (by exact rfl) (fun gf => ?_))
    obtain ⟨g, cap, cur, rfl, rfl, hcur, hset⟩ := ownS_block hO (by omega)
    ((refine Seq.stepK0 (k_store0 T (by exact rfl) (by exact rfl) (by exact rfl) (by exact rfl) (by exact rfl) (by exact rfl) ?_); refine Seq.done ?_; refine Wp.region ?_; refine Seq.q (by exact rfl) ?_; refine q_move (by exact rfl) ?_; refine Seq.q (by exact rfl) ?_; refine q_fieldAddr T (by exact rfl) (by exact rfl) (by exact rfl) (by exact rfl) (by exact rfl) (by exact rfl) ?_; refine Seq.q (by exact rfl) ?_; refine q_load_own T 0 (by exact rfl) (by exact rfl) (by exact rfl) (by exact rfl) (by exact rfl) ?_; refine Seq.q (by exact rfl) ?_; refine q_fieldAddr T (by exact rfl) (by exact rfl) (by exact rfl) (by exact rfl) (by exact rfl) (by exact rfl) ?_; refine Seq.q (by exact rfl) ?_; refine q_load_own T 0 (by exact rfl) (by exact rfl) (by exact rfl) (by exact rfl) (by exact rfl) ?_))
    ((refine Seq.q (by exact rfl) ?_)); refine q_index_own T (by exact rfl) (by exact rfl) (by exact rfl) (by exact rfl) (by exact rfl) (by exact rfl) (by omega) (by omega) ?_
    refine Seq.stepK0 (k_store_row T (pre := [_, _, _]) (post := []) (by exact rfl) (by exact rfl) (by exact rfl) (by exact rfl) (by exact rfl) (by exact rfl) (by exact rfl) (by omega) ?_)
    ((refine Seq.end_ ?_; refine blkN ?_; refine thenN ?_; refine Wp.region ?_; refine Seq.q (by exact rfl) ?_; refine q_add (by exact rfl) (by exact rfl) (wrap_in (by omega)) ?_; refine Seq.q (by exact rfl) ?_; refine q_move (by exact rfl) ?_; refine Seq.end_ ?_))
    refine loopN ⟨b + 1, xs1.set y.var.toNat y.val, _, by omega, rfl, rfl, rfl, rfl, ?_, ?_, ?_⟩ (by omega) (by repeat (first | exact trivial | refine ⟨by exact rfl, ?_⟩)) (by repeat (first | exact List.Sublist.refl _ | exact List.nil_sublist _ | refine List.Sublist.cons_cons _ ?_ | refine List.Sublist.cons _ ?_))
    · rw [List.map_set]; exact hset _ _
    · intro z hz
      rcases List.mem_or_eq_of_mem_set hz with hz | rfl
      · exact hx1 z hz
      · exact i3
    · rw [List.take_add_one, hy, he1]
      exact (putF_snoc _ _ _).symm
  rw [List.take_of_length_le (by omega)] at he1
  ((refine Seq.done ?_; refine Wp.seq ?_; refine Wp.cond_false (by exact rfl) ?_; refine Wp.exit ?_; refine thenX ?_; refine loopX ?_; refine blkX (by exact rfl) ?_; refine thenN ?_; refine Wp.seq ?_; refine Wp.region ?_))
  refine Seq.freezeAll (H1 := [_, _]) (H2 := Hs) (List.Perm.refl _) (fun fz1 hle1 hf1 => ?_)
  obtain ⟨S1, e1, rfl, hS1⟩ := sl_ints hO hf1 (by omega) hx1
  subst he1
  replace ht := ht.mono hle1
  replace hJ := hJ.mono hle1
  have l1s := hS1.len
  clear hO hf1 hx1 Hs hge hb
  refine Seq.stepK (by exact rfl) (k_buildSlice0 T (by exact rfl) (by exact rfl) (by exact rfl) (fun gs => ?_))
  ((refine Seq.q (by exact rfl) ?_; refine q_move (by exact rfl) ?_))
  refine Seq.stepK (by exact rfl) (k_append T (Hr := [_, _]) (by exact rfl) (by exact rfl) (by exact rfl) (by exact rfl) (by exact rfl) (by exact rfl) (by exact rfl) (List.perm_append_comm (l₁ := [_]) (l₂ := [_, _])) (OwnS.of_block (cs := []) (n := 0) rfl (by decide)) (by show _ = _ * 1; simp [l1s]) (src_row (ints_src hS1)) (by intro u hu; obtain ⟨x, _, rfl⟩ := List.mem_map.1 hu; rfl) (by show _ * 8 ≤ _; omega) (by omega) (fun v Hs hO => ?_))
  simp only [Nat.zero_add, List.nil_append] at hO
  ((refine Seq.q (by exact rfl) ?_; refine q_assign (by exact rfl) ?_; refine Seq.done ?_; refine Wp.seq ?_; refine Wp.seq ?_; refine Wp.region ?_; refine Seq.q (by exact rfl) ?_; refine q_fieldAddr T (by exact rfl) (by exact rfl) (by exact rfl) (by exact rfl) (by exact rfl) (by exact rfl) ?_; refine Seq.q (by exact rfl) ?_; refine q_load_own T 0 (by exact rfl) (by exact rfl) (by exact rfl) (by exact rfl) (by exact rfl) ?_; refine Seq.q (by exact rfl) ?_; refine q_len_slice T (by exact rfl) (by exact rfl) (by exact rfl) ?_; refine Seq.q (by exact rfl) ?_; refine q_move (by exact rfl) ?_; refine Seq.done ?_; refine Wp.block ?_))
  refine Wp.loop (fun q σ fz' H' => ∃ (b : Nat) (xs : List Int) (Hs : HP), b ≤ m5 ∧ q = m5 - b ∧ σ = [(97, .int .i64 b), (96, .int .i64 m5), (95, .slice B5 m5 d5), (15, v), (12, .slice S1 n2 e1), (10, .int .i64 k), (11, .pointer (some ⟨gj, 0, none⟩)), (1, .int .u16 at_), (3, .pointer (some ⟨gt, 0, none⟩))] ∧ fz1 = fz' ∧
      H' = (gj, .cells #[.string j.name, .int .i64 j.dur, .slice B1 m1 d1, .slice B2 m2 d2, .slice B3 m3 d3, .slice B4 m4 d4, .slice B5 m5 d5] 47 (0, 0)) :: (gt, .cells #[.slice A1 n1 c1, .slice A2 n2 c2, .slice A3 n3 c3, .slice A4 n4 c4] 26 (0, 0)) :: Hs ∧ OwnS 3 1 v n2 (xs.map (Value.int .i64)) Hs ∧ (∀ z ∈ xs, I64 z) ∧ xs = putF (putF t.init j.atStart) (j.atEnd.take b))
    ⟨0, (putF t.init j.atStart), _, Nat.zero_le _, rfl, rfl, rfl, rfl, hO, ints_64 hS1, rfl⟩ (by repeat (first | exact trivial | refine ⟨by exact rfl, ?_⟩)) (by repeat (first | exact List.Sublist.refl _ | exact List.nil_sublist _ | refine List.Sublist.cons_cons _ ?_ | refine List.Sublist.cons _ ?_)) ?_
  clear hO Hs
  rintro q σ fz' H' ⟨b, xs1, Hs, hb, rfl, rfl, rfl, rfl, hO, hx1, he1⟩
  ((refine Wp.seq ?_; refine Wp.region ?_))
  (((refine Seq.q (by exact rfl) ?_)); (refine q_lssD (by exact rfl) (by exact rfl) (fun hlt => ?_) (fun hge => ?_)))
  · ((refine Seq.done ?_; refine Wp.seq ?_; refine Wp.cond_true (by exact rfl) ?_; refine Wp.skip ?_; refine thenN ?_; refine Wp.seq ?_; refine Wp.block ?_; refine Wp.seq ?_; refine Wp.region ?_))
    obtain ⟨y, hy⟩ := get_some (l := j.atEnd) (k := b) (by omega)
    have hwo := hwr j (List.mem_of_getElem? hj) true y (List.mem_of_getElem? hy)
    (((refine Seq.q (by exact rfl) ?_)); refine q_index T b (by exact rfl) (by exact rfl) (by exact rfl) (by exact rfl) (by exact rfl) (by exact rfl) hJ.atEnd (by first | rfl | omega) hy (fun p4 hp4 => ?_))
    (((refine Seq.q (by exact rfl) ?_)); refine q_load_at T (by exact rfl) (by exact rfl) (by exact rfl) hp4 (by exact rfl) ?_)
    rintro _ ⟨rfl, i2, i3⟩
    refine Seq.stepK (by exact rfl) (k_alloc T (by exact rfl) (by exact rfl) (fun gf => ?_))
    obtain ⟨g, cap, cur, rfl, rfl, hcur, hset⟩ := ownS_block hO (by omega)
    ((refine Seq.stepK0 (k_store0 T (by exact rfl) (by exact rfl) (by exact rfl) (by exact rfl) (by exact rfl) (by exact rfl) ?_); refine Seq.done ?_; refine Wp.region ?_; refine Seq.q (by exact rfl) ?_; refine q_move (by exact rfl) ?_; refine Seq.q (by exact rfl) ?_; refine q_fieldAddr T (by exact rfl) (by exact rfl) (by exact rfl) (by exact rfl) (by exact rfl) (by exact rfl) ?_; refine Seq.q (by exact rfl) ?_; refine q_load_own T 0 (by exact rfl) (by exact rfl) (by exact rfl) (by exact rfl) (by exact rfl) ?_; refine Seq.q (by exact rfl) ?_; refine q_fieldAddr T (by exact rfl) (by exact rfl) (by exact rfl) (by exact rfl) (by exact rfl) (by exact rfl) ?_; refine Seq.q (by exact rfl) ?_; refine q_load_own T 0 (by exact rfl) (by exact rfl) (by exact rfl) (by exact rfl) (by exact rfl) ?_))
    ((refine Seq.q (by exact rfl) ?_)); refine q_index_own T (by exact rfl) (by exact rfl) (by exact rfl) (by exact rfl) (by exact rfl) (by exact rfl) (by omega) (by omega) ?_
    refine Seq.stepK0 (k_store_row T (pre := [_, _, _]) (post := []) (by exact rfl) (by exact rfl) (by exact rfl) (by exact rfl) (by exact rfl) (by exact rfl) (by exact rfl) (by omega) ?_)
    ((refine Seq.end_ ?_; refine blkN ?_; refine thenN ?_; refine Wp.region ?_; refine Seq.q (by exact rfl) ?_; refine q_add (by exact rfl) (by exact rfl) (wrap_in (by omega)) ?_; refine Seq.q (by exact rfl) ?_; refine q_move (by exact rfl) ?_; refine Seq.end_ ?_))
    refine loopN ⟨b + 1, xs1.set y.var.toNat y.val, _, by omega, rfl, rfl, rfl, rfl, ?_, ?_, ?_⟩ (by omega) (by repeat (first | exact trivial | refine ⟨by exact rfl, ?_⟩)) (by repeat (first | exact List.Sublist.refl _ | exact List.nil_sublist _ | refine List.Sublist.cons_cons _ ?_ | refine List.Sublist.cons _ ?_))
    · rw [List.map_set]; exact hset _ _
    · intro z hz
      rcases List.mem_or_eq_of_mem_set hz with hz | rfl
      · exact hx1 z hz
      · exact i3
    · rw [List.take_add_one, hy, he1]
      exact (putF_snoc _ _ _).symm
  rw [List.take_of_length_le (by omega)] at he1
  ((refine Seq.done ?_; refine Wp.seq ?_; refine Wp.cond_false (by exact rfl) ?_; refine Wp.exit ?_; refine thenX ?_; refine loopX ?_; refine blkX (by exact rfl) ?_; refine thenN ?_; refine Wp.seq ?_; refine Wp.region ?_; refine Seq.q (by exact rfl) ?_; refine q_load_own_all T 1 (by exact rfl) (by exact rfl) (by exact rfl) (by exact rfl) (by exact rfl) ?_; refine Seq.q (by exact rfl) ?_; refine q_move (by exact rfl) ?_))
  refine Seq.freezeAll (H1 := [_, _]) (H2 := Hs) (List.Perm.refl _) (fun fz2 hle2 hf2 => ?_)
  obtain ⟨S2, e2, rfl, hS2⟩ := sl_ints hO hf2 (by omega) hx1
  subst he1
  replace ht := ht.mono hle2
  replace hJ := hJ.mono hle2
  replace hS1 := hS1.mono hle2
  clear hO hf2 hx1 Hs hge hb
  ((refine Seq.q (by exact rfl) ?_)); refine q_convert_int T (by exact rfl) (by exact rfl) (by exact rfl) (by exact rfl) (wrap_in (by omega)) ?_
  ((refine Seq.q (by exact rfl) ?_; refine q_move (by exact rfl) ?_; refine Seq.q (by exact rfl) ?_; refine q_build T (by exact rfl) (by exact rfl) (by exact rfl) (by exact rfl) (by exact rfl) ?_))
  (refine Seq.stepK (by exact rfl) (k_buildSlice T (cs := [_, _]) (by exact rfl) (by exact rfl) (by exact rfl) (by exact rfl) (by exact rfl) (by exact rfl) (by exact rfl) (by exact rfl) (fun gb => ?_)))
  (first | refine Wp.freeze (by exact rfl) (fun fz3 hle3 hx3 => ?_) | refine Seq.freeze (by exact rfl) (fun fz3 hle3 hx3 => ?_))
  replace ht := ht.mono hle3
  replace hJ := hJ.mono hle3
  replace hS1 := hS1.mono hle3
  replace hS2 := hS2.mono hle3
  have hlq : Sl launchL fz3 (some ⟨gb, 0, none⟩) 1 1 [⟨at_, k⟩] := sl_launches (ls := [⟨at_, k⟩]) hx3 rfl (by simp) (fun l hl => by simp at hl; subst hl; exact ⟨⟨by show _ ≤ (at_ : Int); omega, by show (at_ : Int) ≤ _; omega⟩, ⟨by show _ ≤ (k : Int); omega, by show (k : Int) ≤ _; omega⟩⟩)
  have hTk := (valid_one hcode (l := ⟨at_, k⟩) rfl hj (by show (0 : Int) ≤ at_; omega) (by show (at_ : Int) ≤ _; omega)).1
  obtain ⟨nn, c, hv, v1, v2, v3, v4, v5⟩ := valid_one' hcode (l := ⟨at_, k⟩) rfl hj (by show (0 : Int) ≤ at_; omega) (by show (at_ : Int) ≤ _; omega)
  have hvq := tvalidate_q ht h4 hlq hcode (fun _ _ => hTk)
  rw [hv] at hvq
  have hdj := hG.dur j (List.mem_of_getElem? hj)
  (((refine Seq.q (by exact rfl) ?_)); refine q_call (by exact rfl) (by exact rfl) hvq ?_)
  ((refine Seq.q (by exact rfl) ?_; refine q_move (by exact rfl) ?_; refine Seq.q (by exact rfl) ?_; refine q_extract (by exact rfl) (by exact rfl) ?_; refine Seq.q (by exact rfl) ?_; refine q_extract (by exact rfl) (by exact rfl) ?_; refine Seq.q (by exact rfl) ?_; refine q_assign (by exact rfl) ?_; refine Seq.q (by exact rfl) ?_; refine q_assign (by exact rfl) ?_; refine Seq.done ?_; refine Wp.seq ?_; refine Wp.block ?_; refine Wp.seq ?_; refine Wp.region ?_; refine Seq.q (by exact rfl) ?_; refine q_fieldAddr T (by exact rfl) (by exact rfl) (by exact rfl) (by exact rfl) (by exact rfl) (by exact rfl) ?_; refine Seq.q (by exact rfl) ?_; refine q_load_own T 0 (by exact rfl) (by exact rfl) (by exact rfl) (by exact rfl) (by exact rfl) ?_; refine Seq.q (by exact rfl) ?_; refine q_fieldAddr T (by exact rfl) (by exact rfl) (by exact rfl) (by exact rfl) (by exact rfl) (by exact rfl) ?_; refine Seq.q (by exact rfl) ?_; refine q_load_own T 1 (by exact rfl) (by exact rfl) (by exact rfl) (by exact rfl) (by exact rfl) ?_))
  (((refine Seq.q (by exact rfl) ?_)); refine q_callB (by exact rfl) (by exact rfl) (holds_q hJ.start ht.init) (fun s1 => ?_) (fun s1 => ?_))
  rotate_left
  · replace s1 := dfalse s1
    rw [v1 s1]
    ((refine Seq.q (by exact rfl) ?_; refine q_not (by exact rfl) ?_; refine Seq.q (by exact rfl) ?_; refine q_assign (by exact rfl) ?_; refine Seq.done ?_; refine Wp.cond_true (by exact rfl) ?_; refine Wp.seq ?_; refine Wp.region ?_; refine Seq.q (by exact rfl) ?_; refine q_move (by exact rfl) ?_))
    (((refine Seq.q (by exact rfl) ?_)); refine q_call (by exact rfl) (by exact rfl) ((is_q (n := 12) (m := 12) (by decide)).eq (v' := .bool true) (by simp)) ?_)
    ((refine Seq.q (by exact rfl) ?_; refine q_assign (by exact rfl) ?_; refine Seq.done ?_; refine Wp.ret ?_; refine blkR ?_; refine thenR ?_))
    (exact ret1 rfl rfl (by repeat (first | exact List.Sublist.refl _ | exact List.nil_sublist _ | refine List.Sublist.cons_cons _ ?_ | refine List.Sublist.cons _ ?_)) rfl)
  replace s1 := dtrue s1
  ((refine Seq.q (by exact rfl) ?_; refine q_not (by exact rfl) ?_; refine Seq.q (by exact rfl) ?_; refine q_assign (by exact rfl) ?_; refine Seq.done ?_; refine Wp.cond_false (by exact rfl) ?_; refine Wp.seq ?_; refine Wp.region ?_; refine Seq.q (by exact rfl) ?_; refine q_fieldAddr T (by exact rfl) (by exact rfl) (by exact rfl) (by exact rfl) (by exact rfl) (by exact rfl) ?_; refine Seq.q (by exact rfl) ?_; refine q_load_own T 0 (by exact rfl) (by exact rfl) (by exact rfl) (by exact rfl) (by exact rfl) ?_; refine Seq.q (by exact rfl) ?_; refine q_move (by exact rfl) ?_))
  (((refine Seq.q (by exact rfl) ?_)); refine q_callB (by exact rfl) (by exact rfl) (holds_q hJ.over hS1) (fun s2 => ?_) (fun s2 => ?_))
  rotate_left
  · replace s2 := dfalse s2
    rw [v2 s1 s2]
    ((refine Seq.q (by exact rfl) ?_; refine q_not (by exact rfl) ?_; refine Seq.q (by exact rfl) ?_; refine q_assign (by exact rfl) ?_; refine Seq.done ?_; refine Wp.cond_true (by exact rfl) ?_; refine Wp.seq ?_; refine Wp.region ?_; refine Seq.q (by exact rfl) ?_; refine q_move (by exact rfl) ?_))
    (((refine Seq.q (by exact rfl) ?_)); refine q_call (by exact rfl) (by exact rfl) ((is_q (n := 16) (m := 16) (by decide)).eq (v' := .bool true) (by simp)) ?_)
    ((refine Seq.q (by exact rfl) ?_; refine q_assign (by exact rfl) ?_; refine Seq.done ?_; refine Wp.ret ?_; refine blkR ?_; refine thenR ?_))
    (exact ret1 rfl rfl (by repeat (first | exact List.Sublist.refl _ | exact List.nil_sublist _ | refine List.Sublist.cons_cons _ ?_ | refine List.Sublist.cons _ ?_)) rfl)
  replace s2 := dtrue s2
  ((refine Seq.q (by exact rfl) ?_; refine q_not (by exact rfl) ?_; refine Seq.q (by exact rfl) ?_; refine q_assign (by exact rfl) ?_; refine Seq.done ?_; refine Wp.cond_false (by exact rfl) ?_; refine Wp.seq ?_; refine Wp.region ?_; refine Seq.q (by exact rfl) ?_; refine q_fieldAddr T (by exact rfl) (by exact rfl) (by exact rfl) (by exact rfl) (by exact rfl) (by exact rfl) ?_; refine Seq.q (by exact rfl) ?_; refine q_load_own T 0 (by exact rfl) (by exact rfl) (by exact rfl) (by exact rfl) (by exact rfl) ?_; refine Seq.q (by exact rfl) ?_; refine q_move (by exact rfl) ?_))
  (((refine Seq.q (by exact rfl) ?_)); refine q_callB (by exact rfl) (by exact rfl) (holds_q hJ.fin hS1) (fun s3 => ?_) (fun s3 => ?_))
  rotate_left
  · replace s3 := dfalse s3
    rw [v3 s1 s2 s3]
    ((refine Seq.q (by exact rfl) ?_; refine q_not (by exact rfl) ?_; refine Seq.q (by exact rfl) ?_; refine q_assign (by exact rfl) ?_; refine Seq.done ?_; refine Wp.cond_true (by exact rfl) ?_; refine Wp.seq ?_; refine Wp.region ?_; refine Seq.q (by exact rfl) ?_; refine q_move (by exact rfl) ?_))
    (((refine Seq.q (by exact rfl) ?_)); refine q_call (by exact rfl) (by exact rfl) ((is_q (n := 12) (m := 12) (by decide)).eq (v' := .bool true) (by simp)) ?_)
    ((refine Seq.q (by exact rfl) ?_; refine q_assign (by exact rfl) ?_; refine Seq.done ?_; refine Wp.ret ?_; refine blkR ?_; refine thenR ?_))
    (exact ret1 rfl rfl (by repeat (first | exact List.Sublist.refl _ | exact List.nil_sublist _ | refine List.Sublist.cons_cons _ ?_ | refine List.Sublist.cons _ ?_)) rfl)
  replace s3 := dtrue s3
  ((refine Seq.q (by exact rfl) ?_; refine q_not (by exact rfl) ?_; refine Seq.q (by exact rfl) ?_; refine q_assign (by exact rfl) ?_; refine Seq.done ?_; refine Wp.cond_false (by exact rfl) ?_; refine Wp.seq ?_; refine Wp.region ?_; refine Seq.q (by exact rfl) ?_; refine q_fieldAddr T (by exact rfl) (by exact rfl) (by exact rfl) (by exact rfl) (by exact rfl) (by exact rfl) ?_; refine Seq.q (by exact rfl) ?_; refine q_load_own T 1 (by exact rfl) (by exact rfl) (by exact rfl) (by exact rfl) (by exact rfl) ?_; refine Seq.q (by exact rfl) ?_; refine q_move (by exact rfl) ?_))
  (((refine Seq.q (by exact rfl) ?_)); refine q_callB (by exact rfl) (by exact rfl) (holds_q ht.goal hS2) (fun s4 => ?_) (fun s4 => ?_))
  rotate_left
  · replace s4 := dfalse s4
    rw [v4 s1 s2 s3 s4]
    ((refine Seq.q (by exact rfl) ?_; refine q_not (by exact rfl) ?_; refine Seq.q (by exact rfl) ?_; refine q_assign (by exact rfl) ?_; refine Seq.done ?_; refine Wp.cond_true (by exact rfl) ?_; refine Wp.seq ?_; refine Wp.region ?_; refine Seq.q (by exact rfl) ?_; refine q_move (by exact rfl) ?_))
    (((refine Seq.q (by exact rfl) ?_)); refine q_call (by exact rfl) (by exact rfl) ((is_q (n := 13) (m := 13) (by decide)).eq (v' := .bool true) (by simp)) ?_)
    ((refine Seq.q (by exact rfl) ?_; refine q_assign (by exact rfl) ?_; refine Seq.done ?_; refine Wp.ret ?_; refine blkR ?_; refine thenR ?_))
    (exact ret1 rfl rfl (by repeat (first | exact List.Sublist.refl _ | exact List.nil_sublist _ | refine List.Sublist.cons_cons _ ?_ | refine List.Sublist.cons _ ?_)) rfl)
  replace s4 := dtrue s4
  obtain ⟨rfl, rfl⟩ := v5 s1 s2 s3 s4
  rw [show errV 0 = .nilIface from rfl]
  ((refine Seq.q (by exact rfl) ?_; refine q_not (by exact rfl) ?_; refine Seq.q (by exact rfl) ?_; refine q_assign (by exact rfl) ?_; refine Seq.done ?_; refine Wp.cond_false (by exact rfl) ?_; refine Wp.skip ?_; refine blkN ?_; refine thenN ?_; refine Wp.seq ?_; refine Wp.region ?_; refine Seq.q (by exact rfl) ?_; refine q_move (by exact rfl) ?_; refine Seq.q (by exact rfl) ?_; refine q_eql_nil T (by exact rfl) (by exact rfl) (by exact rfl) (by exact rfl) ?_; refine Seq.q (by exact rfl) ?_; refine q_move (by exact rfl) ?_; refine Seq.guard_yes (by exact rfl) (by exact rfl) (by exact rfl) ?_; refine q_move (by exact rfl) ?_; refine Seq.guard_yes (by exact rfl) (by exact rfl) (by exact rfl) ?_; refine q_move (by exact rfl) ?_))
  ((refine Seq.guard_yes (by exact rfl) (by exact rfl) (by exact rfl) ?_)); refine q_convert_int T (by exact rfl) (by exact rfl) (by exact rfl) (by exact rfl) (wrap_in (by omega)) ?_
  ((refine Seq.guard_yes (by exact rfl) (by exact rfl) (by exact rfl) ?_; refine q_fieldAddr T (by exact rfl) (by exact rfl) (by exact rfl) (by exact rfl) (by exact rfl) (by exact rfl) ?_; refine Seq.guard_yes (by exact rfl) (by exact rfl) (by exact rfl) ?_; refine q_load_own T 0 (by exact rfl) (by exact rfl) (by exact rfl) (by exact rfl) (by exact rfl) ?_; refine Seq.guard_yes (by exact rfl) (by exact rfl) (by exact rfl) ?_; refine q_add (by exact rfl) (by exact rfl) (wrap_in (by omega)) ?_))
  (((refine Seq.guard_yes (by exact rfl) (by exact rfl) (by exact rfl) ?_)); (refine q_eqlD (by exact rfl) (by exact rfl) (fun s5 => ?_) (fun s5 => ?_)))
  · ((refine Seq.q (by exact rfl) ?_; refine q_pick_true (by exact rfl) (by exact rfl) ?_; refine Seq.q (by exact rfl) ?_; refine q_assign (by exact rfl) ?_; refine Seq.done ?_; refine Wp.ret ?_))
    (exact ret1 rfl rfl (by repeat (first | exact List.Sublist.refl _ | exact List.nil_sublist _ | refine List.Sublist.cons_cons _ ?_ | refine List.Sublist.cons _ ?_)) rfl)
  · exact absurd rfl s5
end Go.Proofs.Ytfidaamledbmpaa
