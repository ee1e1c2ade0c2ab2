/- All operations together: what the evaluator takes an operation for is what it is. Conditions: none. -/
import Derived.Test.YtkejidpdoglahaaGreatDoorEvA
namespace Go.Ev
open Go.Lx Go.RowKit

section
variable {P : Program} {tT : TT} {T : Tab P}

theorem k_ins_s {cx : Cx} {fz : FZ} (hT : TA tT T) (t : TypeId) (x k v : Operand) : KS P cx tT fz (kSet t x k v) (.insert t x k v) := fun ν ar r h nx H Fm c dst ty pos af gd hr hh hfr hf => by
  refine Does.of fun ρ w hρ hi => ?_
  have := (k_set_s (P := P) (cx := cx) (fz := fz) hT t x k v ν ar r h nx H Fm c dst ty pos af gd hr hh hfr hf).run ρ w hρ hi
  exact this

/-- what is known of a kind of operation -/
def XS (P : Program) (tT : TT) (op : Op) : OX → Prop
  | .q f => ∀ cx fz, QS P cx tT fz f op
  | .l f => LS P tT f op
  | .k f => ∀ cx fz, KS P cx tT fz f op
  | .call f xs => ∃ ats, op = .call { callee := .value f, args := xs.toArray, argTypes := ats }
  | .cv s t x => op = .convert s t x
  | .bad => True
theorem ox_s (hT : TA tT T) (op : Op) : XS P tT op (ox op) := by
  cases op with
  | move x => exact fun cx fz => s_move x
  | assign x => exact fun cx fz => s_assign x
  | pick d x y => exact fun cx fz => s_pick d x y
  | alloc t => exact l_alloc hT t
  | box t x => exact l_box t x
  | build t ps => exact fun cx fz => s_bld hT t ps
  | buildSlice t n ps => exact l_slice hT t n ps
  | insert t x k v => exact fun cx fz => k_ins_s hT t x k v
  | load t x => exact fun cx fz => s_load hT t x
  | store t x y => exact fun cx fz => k_store_s hT t x y
  | ready => exact trivial
  | waits => exact trivial
  | nilCheck x => exact fun cx fz => s_nil x
  | binOp op t x y t' => exact fun cx fz => s_bin hT op t t' x y
  | unOp op t x => exact fun cx fz => s_un op t x
  | convert s t x => exact rfl
  | sliceToArrayPointer => exact trivial
  | makeInterface t x => exact fun cx fz => s_mkI hT t x
  | makeFunc fn xs ys => exact fun cx fz => s_mkF fn xs ys
  | makeMap t r =>
    cases r with
    | none => exact l_map t
    | some y => exact fun cx fz => k_mkmap hT t y
  | makeChan => exact trivial
  | makeSlice t l q => exact l_make hT t l q
  | slice t x lo hi mx => exact fun cx fz => s_slc hT t x lo hi mx
  | fieldAddr t x i => exact fun cx fz => s_fa hT t x i
  | field t x i => exact fun cx fz => s_fld hT t x i
  | indexAddr t x i => exact fun cx fz => s_ixa hT t x i
  | index t x i => exact fun cx fz => s_idx hT t x i
  | lookup t x k ok => exact fun cx fz => s_look hT t x k ok
  | mapUpdate t x k v => exact fun cx fz => k_set_s hT t x k v
  | mapEntry => exact trivial
  | entryStore => exact trivial
  | range t x => exact fun cx fz => k_range_s hT t x
  | next x s => exact fun cx fz => k_next_s x s
  | entry x => exact fun cx fz => s_ent x
  | typeAssert x t' t ok => exact fun cx fz => s_ta hT x t' t ok
  | extract x i => exact fun cx fz => s_ext x i
  | call k =>
    obtain ⟨cal, xs, ats⟩ := k
    cases cal with
    | value f => exact ⟨ats, by simp⟩
    | invoke => exact trivial
    | builtin b =>
      by_cases h1 : b = .append
      · subst h1; exact fun cx fz => k_app_s hT xs ats
      · by_cases h2 : b = .copy
        · subst h2; exact fun cx fz => k_copy_s hT xs ats
        · have : ox (.call ⟨.builtin b, xs, ats⟩) = .q (qBi b xs.toList ats.toList) := by
            cases b <;> first | rfl | exact absurd rfl h1 | exact absurd rfl h2
          rw [this]
          exact fun cx fz => s_bi hT b xs ats
  | go => exact trivial
  | defer => exact trivial
  | panic => exact trivial
  | send => exact trivial
  | recv => exact trivial
  | select => exact trivial
theorem oxT_s (hT : TA tT T) {op : Op} {c : OX → Bool} (h : oxT tT op c = true) : ∃ x, c x = true ∧ XS P tT op x ∧ ∀ s t y, x ≠ .cv s t y := by
  have hx := ox_s (P := P) hT op
  unfold oxT at h
  cases ho : ox op with
  | cv s t x =>
    rw [ho] at h hx
    obtain ⟨X, hX, h⟩ := fO_iff h
    have e : op = .convert s t x := hx
    subst e
    cases hk : Nat.beq X.k 4 with
    | true => rw [hk] at h; exact ⟨_, h, fun cx fz => k_bytes_s hT s t x, fun _ _ _ h => by cases h⟩
    | false => rw [hk] at h; exact ⟨_, h, fun cx fz => s_conv hT s t x, fun _ _ _ h => by cases h⟩
  | q f => rw [ho] at h hx; exact ⟨_, h, hx, fun _ _ _ h => by cases h⟩
  | l f => rw [ho] at h hx; exact ⟨_, h, hx, fun _ _ _ h => by cases h⟩
  | k f => rw [ho] at h hx; exact ⟨_, h, hx, fun _ _ _ h => by cases h⟩
  | call f xs => rw [ho] at h hx; exact ⟨_, h, hx, fun _ _ _ h => by cases h⟩
  | bad => rw [ho] at h hx; exact ⟨_, h, hx, fun _ _ _ h => by cases h⟩
end
end Go.Ev
