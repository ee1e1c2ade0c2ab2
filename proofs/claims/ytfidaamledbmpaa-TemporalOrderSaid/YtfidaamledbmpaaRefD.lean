/- The order of a tick's happenings does not matter to its errors. Conditions: none. -/
import Derived.Test.YtfidaamledbmpaaRefC
namespace Go.Proofs.Ytfidaamledbmpaa
open Go.Lx Go.RowKit
attribute [local instance 10] Classical.propDecidable

theorem count_sel (hs : List Hap) (e : Bool) (j : Nat) (h : Hap) : (selH hs e j).count h = if h.1 = (j : Int) ∧ h.2 = e then hs.count h else 0 := by
  unfold selH
  by_cases hc : h.1 = (j : Int) ∧ h.2 = e
  · rw [if_pos hc, List.count_filter (l := hs) (p := fun h : Hap => decide (h.1 = (j : Int) ∧ h.2 = e)) (a := h) (decide_eq_true hc)]
  · rw [if_neg hc, List.count_eq_zero]
    intro hm
    exact hc (of_decide_eq_true (List.mem_filter.1 hm).2)
theorem count_range (hs : List Hap) (e : Bool) (h : Hap) : ∀ n : Nat, ((List.range n).flatMap (selH hs e)).count h = if h.2 = e ∧ 0 ≤ h.1 ∧ h.1 < n then hs.count h else 0
  | 0 => by
    rw [if_neg (by omega)]; rfl
  | n + 1 => by
    rw [List.range_succ, List.flatMap_append, List.count_append, count_range hs e h n]
    simp only [List.flatMap_cons, List.flatMap_nil, List.append_nil]
    rw [count_sel]
    by_cases h1 : h.2 = e
    · simp only [h1, true_and, and_true]
      split <;> split <;> split <;> omega
    · simp only [h1, false_and, and_false, if_false]
theorem ord_perm {t : Temporal} {hs : List Hap} (hok : ∀ h ∈ hs, HapOk t h) : ([true, false].flatMap (ordE t hs)).Perm hs := by
  rw [List.perm_iff_count]
  intro h
  simp only [List.flatMap_cons, List.flatMap_nil, List.append_nil, List.count_append, ordE, count_range]
  by_cases hm : h ∈ hs
  · have := hok h hm
    unfold HapOk at this
    cases he : h.2
    · rw [if_neg (by simp), if_pos ⟨rfl, this⟩]; omega
    · rw [if_pos ⟨rfl, this⟩, if_neg (by simp)]; omega
  · rw [List.count_eq_zero.2 hm]
    simp
theorem inter_symmH {t : Temporal} {a b : Hap} (h : InterH t a b) : InterH t b a := by
  have hm : ∀ x y : List Fact, MeetP x y → MeetP y x := fun x y ⟨u, hu, v, hv, h⟩ => ⟨v, hv, u, hu, h.symm⟩
  rcases h with h | h | h
  · exact .inl (hm _ _ h)
  · exact .inr (.inr (hm _ _ h))
  · exact .inr (.inl (hm _ _ h))
theorem pair_iff {t : Temporal} {hs : List Hap} : PairI t hs ↔ ¬ hs.Pairwise fun a b => ¬ InterH t a b := by
  rw [List.pairwise_iff_getElem]
  constructor
  · rintro ⟨i, a, ha, k, b, hk, hb, h⟩ hc
    obtain ⟨h1, h2⟩ := List.getElem?_eq_some_iff.1 ha
    obtain ⟨h3, h4⟩ := List.getElem?_eq_some_iff.1 hb
    exact hc k i h3 h1 hk (by rw [h2, h4]; exact inter_symmH h)
  · intro hc
    refine Classical.byContradiction fun hn => hc fun i j hi hj hij h => hn ⟨j, hs[j], List.getElem?_eq_getElem hj, i, hs[i], hij, List.getElem?_eq_getElem hi, inter_symmH h⟩
theorem pair_perm {t : Temporal} {a b : List Hap} (h : a.Perm b) : PairI t a ↔ PairI t b := by
  rw [pair_iff, pair_iff, h.pairwise_iff (fun {x y} hxy hc => hxy (inter_symmH hc))]
theorem pre_perm {t : Temporal} {s : List Int} {a b : List Hap} (h : a.Perm b) : PreP t s a ↔ PreP t s b := ⟨fun hp x hx => hp x (h.mem_iff.2 hx), fun hp x hx => hp x (h.mem_iff.1 hx)⟩
theorem tick_perm {t : Temporal} {ls : List Launch} {tick : Int} {s s' : List Int} {a b : List Hap} (h : a.Perm b) : tickM t ls tick s a s' = tickM t ls tick s b s' := by
  unfold tickM
  simp only [pair_perm h, pre_perm h]
/-- the reference's list, by jobs, and the program's -/
theorem tick_ref {t : Temporal} {ls : List Launch} (hok : ∀ l ∈ ls, LaunchOk t l) {tick : Int} {s s' : List Int} : tickM t ls tick s ((refAt t ls tick).map (jobH ls)) s' = tickM t ls tick s (hapsM t ls tick) s' := by
  rw [ref_ord]
  exact tick_perm (ord_perm (haps_ok hok tick))
end Go.Proofs.Ytfidaamledbmpaa
