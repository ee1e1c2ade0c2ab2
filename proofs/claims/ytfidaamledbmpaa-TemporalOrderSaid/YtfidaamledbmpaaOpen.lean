/- Arguments opened: what a call's input holds, as data. Conditions: the input reads, and is within the form's own reach. -/
import Derived.Test.YtfidaamledbmpaaWalkA
import Derived.Deep.Slices
import Derived.SizedLaws
import Derived.ChangeSame
import Derived.Below
import Derived.ProofKit
namespace Go.Lx
open Go.RowKit Go.ChangeShapes Go.WideShapes Go.Deep

def fzOf (w : World) : FZ := fun g => w.heap[g]?
theorem cellF_of {w : World} {p : Addr} {v : Value} (h : w.cell? p = some v) : cellF (fzOf w) p = some v := by
  unfold World.cell? at h
  unfold cellF fzOf
  exact h
theorem hp_of (w : World) : Hp (fzOf w) [] w := ⟨fun _ _ h => h, by simp, by simp⟩
theorem below_of {w w' : World} (h : Fr [] w w') : Below w.heap.size w w' := ⟨h.os, h.tape, h.output, h.size, fun k hk => h.block k hk (by simp)⟩

theorem QFn.calls {P : Program} {f : FuncId} {args : List Value} {fz : FZ} {v : Value} (h : QFn P f args fz v) {w : World} (hw : Hp fz [] w) : Calls P f args.toArray w fun e w' => e = .returned v ∧ Fr [] w w' := by
  unfold QFn at h
  exact h.2 w hw

theorem list_of {α : Type} {p : Nat → α → Prop} : ∀ {n : Nat}, (∀ i, i < n → ∃ d, p i d) → ∃ ds : List α, ds.length = n ∧ ∀ i d, ds[i]? = some d → p i d
  | 0, _ => ⟨[], rfl, by simp⟩
  | n + 1, h => by
    obtain ⟨ds, h1, h2⟩ := list_of (n := n) (fun i hi => h i (by omega))
    obtain ⟨d, hd⟩ := h n (by omega)
    refine ⟨ds ++ [d], by simp [h1], fun i e he => ?_⟩
    by_cases hi : i < ds.length
    · rw [List.getElem?_append_left hi] at he; exact h2 i e he
    · have hl := (List.getElem?_eq_some_iff.1 he).1
      simp at hl
      have : i = n := by omega
      subst this
      rw [List.getElem?_append_right (by omega), h1] at he
      simp at he
      subst he
      exact hd

section
variable {H : Type} {enc : TypeId × Value → H} {P : Program} {w : World} {base : Nat} {spare : Nat → Bool} {held : Bool}

/-- what reads as type t holds a datum of the layout -/
def Opens (enc : TypeId × Value → H) (P : Program) (w : World) (base : Nat) (spare : Nat → Bool) (held : Bool) {α : Type} (L : Lay α) (t : TypeId) : Prop :=
  ∀ fuel cs x, DataW.trod enc P w base spare held fuel t cs = some x → (∀ q ∈ x.1.weights P t, q ≤ reachBytes) → ∃ d, L.rep (fzOf w) d cs

theorem weights_all {e : TypeId} : ∀ {l : List (DataW H)} {d : DataW H}, d ∈ l → ∀ q ∈ d.weights P e, q ∈ DataW.weightsAll P e l
  | [], _, h, _, _ => by cases h
  | a :: r, d, h, q, hq => by
    rw [DataW.weightsAll]
    rcases List.mem_cons.1 h with rfl | h
    · exact List.mem_append.2 (.inl hq)
    · exact List.mem_append.2 (.inr (weights_all h q hq))

theorem opens_int {t : TypeId} (ht : P.underlying t = some (.int .i64)) : Opens enc P w base spare held intL t := fun fuel cs x h _ => by
  obtain ⟨n, h1, _, h2⟩ := DataW.trod_int ht h
  exact ⟨n, h1, by simp [Lit.wf, IntKind.min, IntKind.max, IntKind.signed, IntKind.bits] at h2; unfold I64; omega⟩
theorem opens_bool {t : TypeId} (ht : P.underlying t = some .bool) : Opens enc P w base spare held boolL t := fun fuel cs x h _ => by
  obtain ⟨b, h1, _⟩ := DataW.trod_bool ht h
  exact ⟨b, h1⟩
theorem opens_string {t : TypeId} (ht : P.underlying t = some .string) : Opens enc P w base spare held strL t := fun fuel cs x h _ => by
  obtain ⟨s, h1, _, h2⟩ := DataW.trod_string ht h
  exact ⟨s, h1, by simpa [maxLen] using h2⟩
theorem opens_slice {α : Type} {L : Lay α} {t e : TypeId} (ht : P.underlying t = some (.slice e)) (hc : P.cellsOf e = L.size) (hb' : Nat.ble 1 (P.bytesOf e) = true) (he : Opens enc P w base spare held L e) : Opens enc P w base spare held (slL L) t := fun fuel cs x h hq => by
  have hb := Nat.le_of_ble_eq_true hb'
  rcases open_slice ht h with ⟨rfl, _⟩ | ⟨a, len, cap, m, n, D, Pl, rfl, _, hl, hm, hmm, rfl, hi⟩
  · exact ⟨[], none, 0, 0, rfl, Sl.nil (by omega)⟩
  · have hlm : len ≤ m := by rw [hmm]; split <;> omega
    simp only [DataW.weights, ht, List.mem_cons, List.mem_append] at hq
    obtain ⟨ds, h1, h2⟩ := list_of (p := fun i d => At L (fzOf w) (a.add (i * L.size)) d) (n := len) (fun i hil => by
      obtain ⟨cs', hcs, htr⟩ := hi i (by omega)
      obtain ⟨d, hd⟩ := he _ _ _ htr (fun q hq' => hq q (.inr (.inl (weights_all (d := D i) (List.mem_map.2 ⟨i, List.mem_range.2 hil, rfl⟩) q hq'))))
      obtain ⟨_, hlen, hat⟩ := World.cells?_some hcs
      refine ⟨d, cs', hd, fun j u hu => ?_⟩
      have hj : j < cs'.length := (List.getElem?_eq_some_iff.1 hu).1
      rw [← hc]
      exact cellF_of ((hat j (by omega)).trans hu))
    have hreach := hq _ (.inl rfl)
    have hlen : len ≤ 140737488355328 := by
      simp only [List.length_map, List.length_range] at hreach
      have : len * 1 ≤ (len + (m - len)) * P.bytesOf e := Nat.mul_le_mul (by omega) hb
      have hr : reachBytes ≤ 140737488355328 := by decide
      omega
    exact ⟨ds, some a, len, cap, rfl, h1, hl, by simpa [maxLen] using hm, hlen, .inr ⟨a, rfl, h2⟩⟩

/-- a field of one cell -/
theorem opens_field {α : Type} {L : Lay α} {fs : Array Field} {cs : List Value} {xs : List (DataW H × List MemPlace)} {n : Nat} {tys : List TypeId} (hf : ∀ (i : Nat) (f : Field), fs[i]? = some f → DataW.trod enc P w base spare held n f.type ((cs.drop f.offset).take (P.cellsOf f.type)) = xs[i]?)
    (hq : ∀ q ∈ DataW.weightsEach P tys (xs.map (·.1)), q ≤ reachBytes) (hlen : xs.length = fs.size) {i : Nat} {f : Field} (hi : fs[i]? = some f) (ht : tys[i]? = some f.type) (he : Opens enc P w base spare held L f.type) (hc : P.cellsOf f.type = 1) {v : Value} (hv : cs[f.offset]? = some v) :
    ∃ d, L.rep (fzOf w) d [v] := by
  have hil : i < xs.length := by rw [hlen]; exact (Array.getElem?_eq_some_iff.1 hi).1
  have hx : xs[i]? = some xs[i] := List.getElem?_eq_getElem hil
  have h1 := hf i f hi
  rw [hc, hx] at h1
  obtain ⟨ho, hv'⟩ := List.getElem?_eq_some_iff.1 hv
  have h2 : (cs.drop f.offset).take 1 = [v] := by
    rw [List.drop_eq_getElem_cons ho, hv']; rfl
  rw [h2] at h1
  exact he _ _ _ h1 (fun q hq' => hq q (DataW.weights_mem_each ht (by rw [List.getElem?_map, hx]; rfl) q hq'))
end
end Go.Lx

set_option maxRecDepth 100000
namespace Go.Proofs.Ytfidaamledbmpaa
open Go.Lx Go.RowKit Go.ChangeShapes Go.WideShapes Go.Deep
section
variable {H : Type} {enc : TypeId × Value → H} {w : World} {base : Nat} {spare : Nat → Bool} {held : Bool}

theorem opens_i : Opens enc Try.prog w base spare held intL 3 := opens_int Try.underlying3
theorem opens_b : Opens enc Try.prog w base spare held boolL 4 := opens_bool Try.underlying4
theorem opens_s : Opens enc Try.prog w base spare held strL 9 := opens_string Try.underlying9
theorem opens_is : Opens enc Try.prog w base spare held (slL intL) 22 := opens_slice Try.underlying22 (by kernel_rfl) (by kernel_rfl) opens_i
theorem opens_fact : Opens enc Try.prog w base spare held factL 49 := fun fuel cs x h hq => by
  obtain ⟨xs, n, _, rfl, hcl, hxl, hf⟩ := DataW.trod_struct Try.underlying49 h
  have hc : Try.prog.cellsOf 49 = 2 := by kernel_rfl
  rw [hc] at hcl
  simp only [DataW.weights, Try.underlying49] at hq
  match cs, hcl with
  | [a, b], _ =>
    obtain ⟨d0, r0, k0⟩ := opens_field hf hq hxl (i := 0) rfl rfl opens_i (by kernel_rfl) rfl
    obtain ⟨d1, r1, k1⟩ := opens_field hf hq hxl (i := 1) rfl rfl opens_i (by kernel_rfl) rfl
    injection r0 with r0
    injection r1 with r1
    subst r0 r1
    exact ⟨⟨d0, d1⟩, rfl, k0, k1⟩
theorem opens_launch : Opens enc Try.prog w base spare held launchL 40 := fun fuel cs x h hq => by
  obtain ⟨xs, n, _, rfl, hcl, hxl, hf⟩ := DataW.trod_struct Try.underlying40 h
  have hc : Try.prog.cellsOf 40 = 2 := by kernel_rfl
  rw [hc] at hcl
  simp only [DataW.weights, Try.underlying40] at hq
  match cs, hcl with
  | [a, b], _ =>
    obtain ⟨d0, r0, k0⟩ := opens_field hf hq hxl (i := 0) rfl rfl opens_i (by kernel_rfl) rfl
    obtain ⟨d1, r1, k1⟩ := opens_field hf hq hxl (i := 1) rfl rfl opens_i (by kernel_rfl) rfl
    injection r0 with r0
    injection r1 with r1
    subst r0 r1
    exact ⟨⟨d0, d1⟩, rfl, k0, k1⟩
theorem opens_facts : Opens enc Try.prog w base spare held (slL factL) 23 := opens_slice Try.underlying23 (by kernel_rfl) (by kernel_rfl) opens_fact
theorem opens_launches : Opens enc Try.prog w base spare held (slL launchL) 27 := opens_slice Try.underlying27 (by kernel_rfl) (by kernel_rfl) opens_launch
theorem opens_job : Opens enc Try.prog w base spare held jobL 47 := fun fuel cs x h hq => by
  obtain ⟨xs, n, _, rfl, hcl, hxl, hf⟩ := DataW.trod_struct Try.underlying47 h
  have hc : Try.prog.cellsOf 47 = 7 := by kernel_rfl
  rw [hc] at hcl
  simp only [DataW.weights, Try.underlying47] at hq
  match cs, hcl with
  | [v0, v1, v2, v3, v4, v5, v6], _ =>
    obtain ⟨d0, r0, k0⟩ := opens_field hf hq hxl (i := 0) rfl rfl opens_s (by kernel_rfl) rfl
    obtain ⟨d1, r1, k1⟩ := opens_field hf hq hxl (i := 1) rfl rfl opens_i (by kernel_rfl) rfl
    obtain ⟨d2, A2, n2, c2, r2, k2⟩ := opens_field hf hq hxl (i := 2) rfl rfl opens_facts (by kernel_rfl) rfl
    obtain ⟨d3, A3, n3, c3, r3, k3⟩ := opens_field hf hq hxl (i := 3) rfl rfl opens_facts (by kernel_rfl) rfl
    obtain ⟨d4, A4, n4, c4, r4, k4⟩ := opens_field hf hq hxl (i := 4) rfl rfl opens_facts (by kernel_rfl) rfl
    obtain ⟨d5, A5, n5, c5, r5, k5⟩ := opens_field hf hq hxl (i := 5) rfl rfl opens_facts (by kernel_rfl) rfl
    obtain ⟨d6, A6, n6, c6, r6, k6⟩ := opens_field hf hq hxl (i := 6) rfl rfl opens_facts (by kernel_rfl) rfl
    injection r0 with r0
    injection r1 with r1
    injection r2 with r2
    injection r3 with r3
    injection r4 with r4
    injection r5 with r5
    injection r6 with r6
    subst r0 r1 r2 r3 r4 r5 r6
    exact ⟨⟨d0, d1, d2, d3, d4, d5, d6⟩, _, _, _, _, _, _, _, _, _, _, _, _, _, _, _, rfl, ⟨k0, k1, k2, k3, k4, k5, k6⟩⟩
theorem opens_jobs : Opens enc Try.prog w base spare held (slL jobL) 24 := opens_slice Try.underlying24 (by kernel_rfl) (by kernel_rfl) opens_job

/-- a temporal task that comes in -/
theorem open_temporal {r : Reach} {b0 : Nat} {v : Value} {d : DataW H} {p : List MemPlace} (hv : Value.okWide Try.prog w r b0 26 v) (h : DataW.Trod enc Try.prog w base spare held 26 v d p) (hq : ∀ q ∈ d.weights Try.prog 26, q ≤ reachBytes) :
    ∃ t A1 n1 c1 A2 n2 c2 A3 n3 c3 A4 n4 c4, v = .agg #[.slice A1 n1 c1, .slice A2 n2 c2, .slice A3 n3 c3, .slice A4 n4 c4] ∧ TempR (fzOf w) t A1 n1 c1 A2 n2 c2 A3 n3 c3 A4 n4 c4 := by
  obtain ⟨cs, rfl, hsz⟩ := okWide_struct Try.underlying26 hv
  obtain ⟨l⟩ := cs
  have hc : Try.prog.cellsOf 26 = 4 := by kernel_rfl
  rw [hc] at hsz
  obtain ⟨fuel, hf0⟩ := h
  obtain ⟨xs, n, _, hx, hcl, hxl, hf⟩ := DataW.trod_struct Try.underlying26 hf0
  injection hx with hx _
  subst hx
  simp only [DataW.weights, Try.underlying26] at hq
  match l, hsz with
  | [v1, v2, v3, v4], _ =>
    obtain ⟨d1, A1, n1, c1, r1, k1⟩ := opens_field hf hq hxl (i := 0) (v := v1) rfl rfl opens_is (by kernel_rfl) rfl
    obtain ⟨d2, A2, n2, c2, r2, k2⟩ := opens_field hf hq hxl (i := 1) (v := v2) rfl rfl opens_is (by kernel_rfl) rfl
    obtain ⟨d3, A3, n3, c3, r3, k3⟩ := opens_field hf hq hxl (i := 2) (v := v3) rfl rfl opens_facts (by kernel_rfl) rfl
    obtain ⟨d4, A4, n4, c4, r4, k4⟩ := opens_field hf hq hxl (i := 3) (v := v4) rfl rfl opens_jobs (by kernel_rfl) rfl
    injection r1 with r1
    injection r2 with r2
    injection r3 with r3
    injection r4 with r4
    subst r1 r2 r3 r4
    exact ⟨⟨d1, d2, d3, d4⟩, A1, n1, c1, A2, n2, c2, A3, n3, c3, A4, n4, c4, rfl, k1, k2, k3, k4⟩
/-- launches that come in -/
theorem open_launches {v : Value} {d : DataW H} {p : List MemPlace} {r : Reach} {b0 : Nat} (hv : Value.okWide Try.prog w r b0 27 v) (h : DataW.Trod enc Try.prog w base spare held 27 v d p) (hq : ∀ q ∈ d.weights Try.prog 27, q ≤ reachBytes) :
    ∃ ls B n c, v = .slice B n c ∧ Sl launchL (fzOf w) B n c ls := by
  obtain ⟨fuel, hf⟩ := h
  obtain ⟨B, n, c, rfl⟩ := okWide_slice Try.underlying27 hv
  obtain ⟨ls, B, n, c, h1, h2⟩ := opens_launches _ _ _ hf hq
  injection h1 with h1
  exact ⟨ls, B, n, c, h1, h2⟩
end

end Go.Proofs.Ytfidaamledbmpaa
