/- Plain laws of plans: what holds along a valid plan. Conditions: none. -/
import Derived.Test.YtfidaamledbmpaaRefD
namespace Go.Proofs.Ytfidaamledbmpaa
open Go.Lx Go.RowKit
attribute [local instance 10] Classical.propDecidable

theorem tick_zero {t : Temporal} {ls : List Launch} {tick : Int} {s : List Int} {hs : List Hap} {s' : List Int} (h : tickM t ls tick s hs s' = 0) : ¬ OverP t ls tick ∧ ¬ PairI t hs ∧ PreP t s hs ∧ OvrP t ls tick s' := by
  unfold tickM at h
  split at h
  · cases h
  split at h
  · cases h
  split at h
  · cases h
  split at h
  · cases h
  rename_i h1 h2 h3 h4
  exact ⟨h1, h2, Classical.not_not.1 h3, Classical.not_not.1 h4⟩
theorem after_nil (t : Temporal) (s : List Int) : afterM t s [] = s := by
  have : ∀ e, ordE t [] e = [] := fun e => by simp [ordE, selH]
  simp [afterM, this, putHs]
theorem st_skip {t : Temporal} {ls : List Launch} {k : Nat} : ∀ m : Nat, (∀ x : Nat, k ≤ x → x < m → hapsM t ls x = []) → k ≤ m → stM t ls m = stM t ls k
  | 0, _, hk => by have : k = 0 := by omega
                   subst this; rfl
  | m + 1, h, hk => by
    rcases Nat.lt_or_eq_of_le hk with hlt | rfl
    · rw [stM, h m (by omega) (by omega), after_nil]
      exact st_skip m (fun x h1 h2 => h x h1 (by omega)) (by omega)
    · rfl
theorem run_all {t : Temporal} {ls : List Launch} : ∀ (ticks : List Int) (k : Nat), ticks.Pairwise (· < ·) → (∀ x, x ∈ ticks ↔ (k : Int) ≤ x ∧ hapsM t ls x ≠ []) → (runM t ls ticks (stM t ls k)).1 = 0 →
    (∀ x : Nat, k ≤ x → hapsM t ls x ≠ [] → tickM t ls x (stM t ls x) (hapsM t ls x) (stM t ls (x + 1)) = 0) ∧ ∀ K : Nat, k ≤ K → (∀ x ∈ ticks, x < K) → (runM t ls ticks (stM t ls k)).2 = stM t ls K
  | [], k, _, hm, _ => by
    refine ⟨fun x hx hn => absurd ((hm x).2 ⟨by omega, hn⟩) (by simp), fun K hK _ => ?_⟩
    show stM t ls k = _
    exact (st_skip K (fun x h1 _ => Classical.byContradiction fun hc => absurd ((hm x).2 ⟨by omega, hc⟩) (by simp)) hK).symm
  | x :: r, k, hp, hm, hr => by
    rw [List.pairwise_cons] at hp
    obtain ⟨hkx, hne⟩ := (hm x).1 (by simp)
    obtain ⟨X, rfl⟩ : ∃ X : Nat, x = X := ⟨x.toNat, by omega⟩
    have hsk : ∀ y : Nat, k ≤ y → y < X → hapsM t ls y = [] := fun y h1 h2 => Classical.byContradiction fun hc => by
      rcases List.mem_cons.1 ((hm y).2 ⟨by omega, hc⟩) with h | h
      · omega
      · have := hp.1 _ h; omega
    have hst : stM t ls X = stM t ls k := st_skip X hsk (by omega)
    rw [← hst] at hr ⊢
    rw [runM] at hr ⊢
    by_cases h0 : tickM t ls X (stM t ls X) (hapsM t ls X) (afterM t (stM t ls X) (hapsM t ls X)) = 0
    · rw [if_pos h0] at hr ⊢
      have hm' : ∀ y, y ∈ r ↔ ((X + 1 : Nat) : Int) ≤ y ∧ hapsM t ls y ≠ [] := fun y => by
        constructor
        · intro hy
          exact ⟨by have := hp.1 y hy; omega, ((hm y).1 (.tail _ hy)).2⟩
        · rintro ⟨h1, h2⟩
          rcases List.mem_cons.1 ((hm y).2 ⟨by omega, h2⟩) with h | h
          · omega
          · exact h
      obtain ⟨i1, i2⟩ := run_all r (X + 1) hp.2 hm' hr
      refine ⟨fun y hy hn => ?_, fun K hK hlt => i2 K (by have := hlt X (by simp); omega) (fun z hz => hlt z (.tail _ hz))⟩
      rcases Nat.lt_trichotomy y X with h | rfl | h
      · exact absurd (hsk y hy h) hn
      · exact h0
      · exact i1 y h hn
    · rw [if_neg h0] at hr
      exact absurd hr h0

/-! ### lists of facts -/
theorem proper_lt {vs : List Int} {fs : List Fact} (h : ProperP vs fs) : fs.Pairwise fun a b => a.var < b.var := by
  rw [List.pairwise_iff_getElem]
  intro i j hi hj hij
  induction j with
  | zero => omega
  | succ j ih =>
    have h1 := (h (j + 1) _ (List.getElem?_eq_getElem hj)).1
    rw [lastV_succ (List.getElem?_eq_getElem (by omega : j < fs.length))] at h1
    rcases Nat.lt_or_eq_of_le (Nat.le_of_lt_succ hij) with h2 | rfl
    · have := ih (by omega) h2; omega
    · exact h1
theorem putF_other {v : Nat} : ∀ (fs : List Fact) (s : List Int), (∀ f ∈ fs, f.var.toNat ≠ v) → (putF s fs)[v]? = s[v]?
  | [], _, _ => rfl
  | f :: r, s, h => by
    show (putF (s.set f.var.toNat f.val) r)[v]? = _
    rw [putF_other r _ (fun g hg => h g (.tail _ hg)), List.getElem?_set_ne (h f (by simp))]
theorem putF_get {n : Nat} : ∀ (fs : List Fact) (s : List Int), s.length = n → (fs.Pairwise fun a b => a.var < b.var) → (∀ f ∈ fs, 0 ≤ f.var ∧ f.var < n) → HoldsP fs (putF s fs)
  | [], _, _, _, _ => fun f hf => by cases hf
  | g :: r, s, hs, hp, hb => fun f hf => by
    rw [List.pairwise_cons] at hp
    have hb' := hb f hf
    refine ⟨hb'.1, by rw [putF_len, hs]; exact hb'.2, ?_⟩
    rcases List.mem_cons.1 hf with rfl | hf
    · show (putF (s.set f.var.toNat f.val) r)[f.var.toNat]? = _
      rw [putF_other r _ (fun h hh => by have := hp.1 h hh; have := hb h (.tail _ hh); omega), List.getElem?_set_self (by omega)]
    · exact (putF_get r (s.set g.var.toNat g.val) (by simp [hs]) hp.2 (fun h hh => hb h (.tail _ hh)) f hf).2.2
theorem putHs_other {t : Temporal} {v : Nat} : ∀ (hs : List Hap) (s : List Int), (∀ h ∈ hs, ∀ f ∈ wrH t h, f.var.toNat ≠ v) → (putHs t s hs)[v]? = s[v]?
  | [], _, _ => rfl
  | h :: r, s, hn => by
    show (putHs t (putF s (wrH t h)) r)[v]? = _
    rw [putHs_other r _ (fun g hg => hn g (.tail _ hg)), putF_other _ _ (hn h (by simp))]
/-- what the right task's happenings write -/
structure WrGood (t : Temporal) (n : Nat) : Prop where
  ok : WrOk t n
  lt : ∀ j ∈ t.jobs, ∀ e, (wrJ j e).Pairwise fun a b => a.var < b.var
theorem wr_good {t : Temporal} (h : CheckR t 0) : WrGood t t.init.length := by
  refine ⟨(good_of h).wr, fun j hj e => ?_⟩
  obtain ⟨h, _⟩ | ⟨h, _⟩ | ⟨h, _⟩ | ⟨h, _⟩ | ⟨_, h1, h2, h3, _⟩ := h
  · cases h
  · cases h
  · cases h
  · cases h
  have hl : wrJ j e ∈ listsM t := List.mem_cons_of_mem _ (List.mem_flatMap.2 ⟨j, hj, by unfold wrJ jobLists; split <;> simp⟩)
  exact proper_lt (vs := t.vars) (Classical.byContradiction fun hc => h3 (.inr ⟨_, hl, hc⟩))
theorem wrH_good {t : Temporal} {n : Nat} (hg : WrGood t n) (h : Hap) : ((wrH t h).Pairwise fun a b => a.var < b.var) ∧ ∀ f ∈ wrH t h, 0 ≤ f.var ∧ f.var < n := by
  unfold wrH
  cases hj : t.jobs[h.1.toNat]? with
  | none => simp
  | some j => exact ⟨hg.lt j (List.mem_of_getElem? hj) h.2, hg.ok j (List.mem_of_getElem? hj) h.2⟩
theorem putHs_holds {t : Temporal} {n : Nat} (hg : WrGood t n) : ∀ (hs : List Hap) (s : List Int), s.length = n → (hs.Pairwise fun a b => ¬ InterH t a b) → ∀ h ∈ hs, HoldsP (wrH t h) (putHs t s hs)
  | [], _, _, _, h, hh => by cases hh
  | g :: r, s, hs, hp, h, hh => by
    rw [List.pairwise_cons] at hp
    rcases List.mem_cons.1 hh with rfl | hh
    · intro f hf
      have k := putF_get (n := n) (wrH t h) s hs (wrH_good hg h).1 (wrH_good hg h).2 f hf
      refine ⟨k.1, by rw [putHs_len, hs]; exact ((wrH_good hg h).2 f hf).2, ?_⟩
      show (putHs t (putF s (wrH t h)) r)[f.var.toNat]? = _
      rw [putHs_other r _ (fun q hq f' hf' he => hp.1 q hq (.inl ⟨f, hf, f', hf', by have := (wrH_good hg q).2 f' hf'; have := k.1; omega⟩))]
      exact k.2.2
    · exact putHs_holds hg r (putF s (wrH t g)) (by rw [putF_len, hs]) hp.2 h hh
theorem after_holds {t : Temporal} {n : Nat} (hg : WrGood t n) {hs : List Hap} (hok : ∀ h ∈ hs, HapOk t h) (hp : ¬ PairI t hs) {s : List Int} (hl : s.length = n) {h : Hap} (hh : h ∈ hs) : HoldsP (wrH t h) (afterM t s hs) := by
  have hp2 := ord_perm hok
  refine putHs_holds hg _ s hl ?_ h (hp2.mem_iff.2 hh)
  have : ¬ PairI t ([true, false].flatMap (ordE t hs)) := fun hc => hp ((pair_perm hp2).1 hc)
  rw [pair_iff, Classical.not_not] at this
  exact this

/-! ### along a valid plan -/
theorem haps_has {t : Temporal} {ls : List Launch} {l : Launch} (hl : l ∈ ls) : (l.job, false) ∈ hapsM t ls l.at_ ∧ (l.job, true) ∈ hapsM t ls (endM t l) := by
  constructor
  · exact List.mem_flatMap.2 ⟨l, hl, by unfold hapsL; rw [if_pos rfl]; simp⟩
  · exact List.mem_flatMap.2 ⟨l, hl, by unfold hapsL; rw [if_pos (rfl : endM t l = endM t l)]; simp⟩
theorem span_le {t : Temporal} : ∀ (ls : List Launch) (m : Int) (l : Launch), l ∈ ls → endM t l ≤ ls.foldl (fun m l => max m (endM t l)) m
  | [], _, _, h => by cases h
  | a :: r, m, l, h => by
    simp only [List.foldl_cons]
    rcases List.mem_cons.1 h with rfl | h
    · have := span_ge t r (max m (endM t l)); omega
    · exact span_le r _ l h
structure Valid (t : Temporal) (ls : List Launch) (n : Int) : Prop where
  launches : launchesM t ls = 0
  span : n = spanM t ls
  goal : HoldsP t.goal (stM t ls (n.toNat + 1))
  tick : ∀ x : Nat, hapsM t ls x ≠ [] → tickM t ls x (stM t ls x) (hapsM t ls x) (stM t ls (x + 1)) = 0
theorem valid_of {t : Temporal} {ls : List Launch} {ticks : List Int} (hd : DurOk t) (hT : launchesM t ls = 0 → TicksR t ls ticks) {n : Int} (hv : validM 0 t ls ticks = (n, 0)) : Valid t ls n := by
  unfold validM at hv
  rw [if_neg (fun h => h rfl)] at hv
  split at hv
  · rename_i h; injection hv with _ h2; exact absurd h2 h
  rename_i h1
  replace h1 := Classical.not_not.1 h1
  have hT := hT h1
  have hok := (launches_ok h1).2
  split at hv
  · rename_i h; injection hv with _ h2; exact absurd h2 h
  rename_i h2
  replace h2 := Classical.not_not.1 h2
  split at hv
  · injection hv with _ h; cases h
  rename_i h3
  replace h3 := Classical.not_not.1 h3
  injection hv with h4 _
  have h5 := span_ge t ls 0
  have hm : ∀ x, x ∈ ticks ↔ ((0 : Nat) : Int) ≤ x ∧ hapsM t ls x ≠ [] := fun x => by
    rw [hT.2]
    refine ⟨fun h => ⟨?_, h⟩, fun h => h.2⟩
    obtain ⟨l, hl, hx⟩ := haps_ne.1 h
    have := (hok l hl).2.2
    have := end_bd (hok l hl) hd
    omega
  obtain ⟨r1, r2⟩ := run_all ticks 0 hT.1 hm h2
  refine ⟨h1, h4.symm, ?_, fun x hx => r1 x (Nat.zero_le _) hx⟩
  have h6 := r2 (n.toNat + 1) (Nat.zero_le _) (fun x hx => by
    obtain ⟨l, hl, hx⟩ := haps_ne.1 ((hm x).1 hx).2
    have := span_le (t := t) ls 0 l hl
    have := end_bd (hok l hl) hd
    unfold spanM at h4
    omega)
  rw [show t.init = stM t ls 0 from rfl, h6] at h3
  exact h3
theorem Valid.over {t : Temporal} {ls : List Launch} {n : Int} (h : Valid t ls n) {l : Launch} (hl : l ∈ ls) {a : Nat} (ha : l.at_ = a) : ∀ k : Nat, (a + k : Nat) < endM t l → HoldsP (overL t l) (stM t ls (a + k + 1))
  | k, hk => by
    by_cases hn : hapsM t ls (a + k : Nat) = []
    · cases k with
      | zero => exact absurd hn (List.ne_nil_of_mem (ha ▸ (haps_has (t := t) hl).1))
      | succ k =>
        have := h.over hl ha k (by omega)
        rw [stM, hn, after_nil]
        exact this
    · exact (tick_zero (h.tick _ hn)).2.2.2 l hl (by omega) hk
theorem Valid.at {t : Temporal} {ls : List Launch} {n : Int} (h : Valid t ls n) (hcode : CheckR t 0) {x : Nat} {hp : Hap} (hh : hp ∈ hapsM t ls x) : HoldsP (rdH t hp) (stM t ls x) ∧ HoldsP (wrH t hp) (stM t ls (x + 1)) := by
  have h0 := tick_zero (h.tick x (List.ne_nil_of_mem hh))
  refine ⟨h0.2.2.1 hp hh, after_holds (wr_good hcode) (haps_ok (launches_ok h.launches).2 x) h0.2.1 (stM_len t ls x) hh⟩
end Go.Proofs.Ytfidaamledbmpaa
