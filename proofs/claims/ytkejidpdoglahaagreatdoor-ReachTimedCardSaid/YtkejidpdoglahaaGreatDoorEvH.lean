/- Operations that make memory: what the evaluator finds is what the model leaves. Conditions: none. -/
import Derived.Test.YtkejidpdoglahaaGreatDoorEvI
namespace Go.Ev
open Go.Lx Go.RowKit

section
variable {P : Program} {cx : Cx} {tT : TT} {T : Tab P} {fz : FZ}

/-- what an operation that may write leaves -/
def KPost (tT : TT) (ν : Nu) (nx : Nat) (Fm : HP) (c : KC) (fz : FZ) (v : Value) (fz' : FZ) (H' : HP) : Prop :=
  fz' = fz ∧ ∃ ν' av h' nx', ν.le ν' ∧ nx ≤ nx' ∧ c av h' nx' = true ∧ gv ν' av = some v ∧ HR tT ν' h' H' Fm ∧ Fresh ν' nx'
def KS (P : Program) (cx : Cx) (tT : TT) (fz : FZ) (f : KF) (op : Op) : Prop := ∀ (ν : Nu) (ar : RD) (r : Operand → Option Value) (h : Tr AO) (nx : Nat) (H Fm : HP) (c : KC) (dst : Option Nat) (ty : TypeId) (pos : String) (af : Array Edge) (gd : Option (Nat × Bool)),
  RR ν ar r → HR tT ν h H Fm → Fresh ν nx → f tT ar h nx c = true → Does P cx ⟨dst, op, ty, pos, af, gd⟩ r fz H (KPost tT ν nx Fm c fz)

/-! ### one name more -/
def Nu.ext (ν : Nu) (i b : Nat) (c : Option Nat) (s : Option (List Value)) : Nu :=
  ⟨fun j => if j = i then some b else ν.blk j, fun j => if j = i then c else ν.cap j, fun j => if j = i then s else ν.slk j⟩
theorem Nu.ext_le {ν : Nu} {i b : Nat} {c : Option Nat} {s : Option (List Value)} (h : Fresh ν i) : ν.le (ν.ext i b c s) := by
  obtain ⟨h1, h2, h3⟩ := h i (Nat.le_refl _)
  refine ⟨fun j x hx => ?_, fun j x hx => ?_, fun j x hx => ?_⟩
  · simp only [Nu.ext]; rw [if_neg (fun he => by rw [he, h1] at hx; cases hx)]; exact hx
  · simp only [Nu.ext]; rw [if_neg (fun he => by rw [he, h2] at hx; cases hx)]; exact hx
  · simp only [Nu.ext]; rw [if_neg (fun he => by rw [he, h3] at hx; cases hx)]; exact hx
theorem Nu.ext_fresh {ν : Nu} {i b : Nat} {c : Option Nat} {s : Option (List Value)} (h : Fresh ν i) : Fresh (ν.ext i b c s) (i + 1) := fun j hj => by
  obtain ⟨h1, h2, h3⟩ := h j (by omega)
  have : j ≠ i := by omega
  exact ⟨by simp only [Nu.ext]; rw [if_neg this]; exact h1, by simp only [Nu.ext]; rw [if_neg this]; exact h2, by simp only [Nu.ext]; rw [if_neg this]; exact h3⟩
theorem Nu.ext_blk {ν : Nu} {i b : Nat} {c : Option Nat} {s : Option (List Value)} : (ν.ext i b c s).blk i = some b := by simp [Nu.ext]
theorem Nu.ext_cap {ν : Nu} {i b : Nat} {c : Option Nat} {s : Option (List Value)} : (ν.ext i b c s).cap i = c := by simp [Nu.ext]
theorem Nu.ext_slk {ν : Nu} {i b : Nat} {c : Option Nat} {s : Option (List Value)} : (ν.ext i b c s).slk i = s := by simp [Nu.ext]

/-- a block more -/
theorem HR.new {ν ν' : Nu} {h h' : Tr AO} {H Fm : HP} {i g : Nat} {o : AO} {x : Obj} (hh : HR tT ν h H Fm) (hle : ν.le ν') (hb : ν'.blk i = some g) (ho : go ν' o = some x) (hg : ∀ p ∈ H, p.1 ≠ g) (hu : h.upd i (some o) h') (hcap : ∀ cs e j fr, o = .cells cs e (some j) fr → CapOk tT ν' cs.length e j) : HR tT ν' h' ((g, x) :: H) Fm := by
  have old : ∀ id a, id ≠ i → h'.get id = some a → ∃ b y, ν.blk id = some b ∧ go ν a = some y ∧ (b, y) ∈ H := fun id a hid ha => by
    rw [hu id, if_neg hid] at ha
    exact hh.own id a ha
  refine ⟨fun id a ha => ?_, fun id id' a a' b ha ha' hb1 hb2 => ?_, fun p hp => ⟨List.mem_cons_of_mem _ (hh.fm p hp).1, fun id a ha hc => ?_⟩, fun id cs e j fr ha => ?_⟩
  · by_cases hid : id = i
    · subst hid
      rw [hu id, if_pos rfl] at ha
      injection ha with ha; subst ha
      exact ⟨g, x, hb, ho, by simp⟩
    · obtain ⟨b, y, h1, h2, h3⟩ := old id a hid ha
      exact ⟨b, y, hle.blk _ _ h1, go_mono hle h2, by simp [h3]⟩
  · by_cases h1 : id = i
    · by_cases h2 : id' = i
      · rw [h1, h2]
      · exfalso
        obtain ⟨b', y, g1, _, g3⟩ := old id' a' h2 ha'
        rw [hle.blk _ _ g1] at hb2
        rw [h1, hb] at hb1
        injection hb1 with hb1; injection hb2 with hb2
        exact hg _ g3 (by simp only; omega)
    · by_cases h2 : id' = i
      · exfalso
        obtain ⟨b', y, g1, _, g3⟩ := old id a h1 ha
        rw [hle.blk _ _ g1] at hb1
        rw [h2, hb] at hb2
        injection hb1 with hb1; injection hb2 with hb2
        exact hg _ g3 (by simp only; omega)
      · obtain ⟨b1, y1, g1, _, _⟩ := old id a h1 ha
        obtain ⟨b2, y2, g2, _, _⟩ := old id' a' h2 ha'
        rw [hle.blk _ _ g1] at hb1
        rw [hle.blk _ _ g2] at hb2
        injection hb1 with hb1; injection hb2 with hb2
        rw [hu id, if_neg h1] at ha
        rw [hu id', if_neg h2] at ha'
        exact hh.inj id id' a a' b ha ha' (by rw [g1, hb1]) (by rw [g2, hb2])
  · by_cases hid : id = i
    · subst hid
      rw [hb] at hc; injection hc with hc
      exact hg p (hh.fm p hp).1 hc.symm
    · obtain ⟨b, y, g1, _, _⟩ := old id a hid ha
      rw [hle.blk _ _ g1] at hc
      injection hc with hc
      rw [hu id, if_neg hid] at ha
      exact (hh.fm p hp).2 id a ha (by rw [g1, hc])
  · by_cases hid : id = i
    · subst hid
      rw [hu id, if_pos rfl] at ha
      injection ha with ha
      exact hcap cs e j fr ha
    · rw [hu id, if_neg hid] at ha
      exact (hh.cap id cs e j fr ha).mono hle
theorem below_new {H : HP} {w : World} (hi : Inv cx fz H w) : ∀ p ∈ H, p.1 ≠ w.heap.size := fun p hp => by
  have := lt_of_heap (hi.hp.own p hp).1
  omega

/-- an operation that allocates one block -/
theorem ks_alloc {ν : Nu} {r : Operand → Option Value} {h : Tr AO} {nx : Nat} {H Fm : HP} {c : KC} {o : Oper} {ao : AO} {mk : Mk} {x : Obj} (hh : HR tT ν h H Fm) (hfr : Fresh ν nx) (ho : go ν ao = some x) (hnc : ∀ cs e j fr, ao ≠ .cells cs e (some j) fr)
    (hc : (fA ao fun q => newO h nx q fun id h m => c (mk.of id) h m) = true)
    (hrun : ∀ ρ w, Reads r ρ → Inv cx fz H w → ∃ v, (execOp ρ o).run P w = .ok (.value v) (w.alloc x) ∧ ∀ ν', ν'.blk nx = some w.heap.size → gv ν' (mk.of nx) = some v) : Does P cx o r fz H (KPost tT ν nx Fm c fz) := by
  have hfA : ∀ q : AO, ∀ k : AO → Bool, fA q k = k q := fun q k => by
    cases q with
    | cells cs e sl fr => exact fL_eq cs fun cs => k (.cells cs e sl fr)
    | map es n => rfl
    | mit m a l b => rfl
  rw [hfA] at hc
  obtain ⟨h', hu, hc⟩ := Tr.setK_iff _ _ _ _ _ hc
  rw [fN_eq] at hc
  refine Does.of fun ρ w hr hi => ?_
  obtain ⟨v, hv, hg⟩ := hrun ρ w hr hi
  rw [hv]
  have hle : ν.le (ν.ext nx w.heap.size none none) := Nu.ext_le hfr
  exact ⟨fz, (w.heap.size, x) :: H, hi.alloc x, rfl, ν.ext nx w.heap.size none none, mk.of nx, h', nx + 1, hle, by omega, hc, hg _ Nu.ext_blk, hh.new hle Nu.ext_blk (go_mono hle ho) (below_new hi) hu (fun cs e j fr he => absurd he (hnc cs e j fr)), Nu.ext_fresh hfr⟩
end
end Go.Ev
