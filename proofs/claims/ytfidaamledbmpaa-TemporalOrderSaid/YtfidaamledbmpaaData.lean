/- Memory that reads as data: layouts, slices, and the data of the given program's types. Conditions: none. -/
import Derived.Test.YtfidaamledbmpaaBase
namespace Go.Lx
open Go.RowKit

/-- how a datum lies in cells -/
structure Lay (α : Type) where
  size : Nat
  rep : FZ → α → List Value → Prop
  len : ∀ {fz d cs}, rep fz d cs → cs.length = size
  mono : ∀ {fz fz' d cs}, Le fz fz' → rep fz d cs → rep fz' d cs

def At {α : Type} (L : Lay α) (fz : FZ) (p : Addr) (d : α) : Prop := ∃ cs, L.rep fz d cs ∧ Row fz p cs
theorem At.mono {α : Type} {L : Lay α} {fz fz' : FZ} (h : Le fz fz') {p : Addr} {d : α} (ha : At L fz p d) : At L fz' p d := by
  obtain ⟨cs, h1, h2⟩ := ha
  exact ⟨cs, L.mono h h1, h2.mono h⟩

structure Sl {α : Type} (L : Lay α) (fz : FZ) (A : Option Addr) (n c : Nat) (xs : List α) : Prop where
  len : xs.length = n
  cap : n ≤ c
  max : c ≤ 9223372036854775807
  short : n ≤ 140737488355328
  elem : n = 0 ∨ ∃ ad, A = some ad ∧ ∀ i d, xs[i]? = some d → At L fz (ad.add (i * L.size)) d

theorem Sl.mono {α : Type} {L : Lay α} {fz fz' : FZ} (h : Le fz fz') {A : Option Addr} {n c : Nat} {xs : List α} (hs : Sl L fz A n c xs) : Sl L fz' A n c xs :=
  ⟨hs.len, hs.cap, hs.max, hs.short, hs.elem.imp id fun ⟨ad, h1, h2⟩ => ⟨ad, h1, fun i d hd => (h2 i d hd).mono h⟩⟩

theorem Sl.nil {α : Type} {L : Lay α} {fz : FZ} {A : Option Addr} {c : Nat} (hc : c ≤ 9223372036854775807) : Sl L fz A 0 c ([] : List α) := ⟨rfl, Nat.zero_le _, hc, Nat.zero_le _, .inl rfl⟩

def I64 (n : Int) : Prop := -9223372036854775808 ≤ n ∧ n ≤ 9223372036854775807

def intL : Lay Int where
  size := 1
  rep := fun _ n cs => cs = [.int .i64 n] ∧ I64 n
  len := fun h => by simp [h.1]
  mono := fun _ h => h
def boolL : Lay Bool where
  size := 1
  rep := fun _ b cs => cs = [.bool b]
  len := fun h => by simp [h]
  mono := fun _ h => h
def strL : Lay ByteArray where
  size := 1
  rep := fun _ s cs => cs = [.string s] ∧ s.size ≤ 9223372036854775807
  len := fun h => by simp [h.1]
  mono := fun _ h => h
def slL {α : Type} (L : Lay α) : Lay (List α) where
  size := 1
  rep := fun fz xs cs => ∃ A n c, cs = [.slice A n c] ∧ Sl L fz A n c xs
  len := fun ⟨_, _, _, h, _⟩ => by simp [h]
  mono := fun hle ⟨A, n, c, h, hs⟩ => ⟨A, n, c, h, hs.mono hle⟩

section
variable {P : Program} {cx : Cx} {r : Operand → Option Value} {fz : FZ} {H : HP} {V : Value → Prop} {dst : Option Nat} {ty : TypeId} {pos : String} {af : Array Edge} {gd : Option (Nat × Bool)} {α : Type} {L : Lay α}

theorem q_index (T : Tab P) {t e : TypeId} {x i : Operand} {X Y : Ty} {A : Option Addr} {n c : Nat} {k : IntKind} {j : Int} {xs : List α} {d : α} (m : Nat) (hT : T.inf t = some X) (hd : X.desc = .slice e) (hY : T.inf e = some Y) (hL : Y.size = L.size)
    (hx : r x = some (.slice A n c)) (hi : r i = some (.int k j)) (h : Sl L fz A n c xs) (hj : j = m) (hm : xs[m]? = some d) (hV : ∀ p, At L fz p d → V (.pointer (some p))) : DoesQ P cx ⟨dst, .indexAddr t x i, ty, pos, af, gd⟩ r fz H V := by
  have hlt : m < xs.length := (List.getElem?_eq_some_iff.1 hm).1
  have h1 := h.len
  rcases h.elem with h2 | ⟨ad, rfl, h2⟩
  · omega
  · subst hj
    refine q_indexAddr T hT hd hY hx hi (by omega) (by omega) (hV _ ?_)
    rw [hL]
    simpa using h2 m d hm

theorem q_load_at (T : Tab P) {t : TypeId} {x : Operand} {X : Ty} {p : Addr} {d : α} (hT : T.inf t = some X) (hd : isAggD X.desc = true) (hx : r x = some (.pointer (some p))) (h : At L fz p d) (hs : X.size = L.size)
    (hV : ∀ cs, L.rep fz d cs → V (.agg cs.toArray)) : DoesQ P cx ⟨dst, .load t x, ty, pos, af, gd⟩ r fz H V := by
  obtain ⟨cs, h1, h2⟩ := h
  exact q_load_row T hT hd hx h2 (hs.trans (L.len h1).symm) (hV cs h1)

theorem At.cell {p : Addr} {d : α} (h : At L fz p d) (hs : L.size = 1) : ∃ v, L.rep fz d [v] ∧ cellF fz p = some v := by
  obtain ⟨cs, h1, h2⟩ := h
  have := L.len h1
  rw [hs] at this
  match cs, this with
  | [v], _ =>
    refine ⟨v, h1, ?_⟩
    have := h2 0 v rfl
    simpa [Addr.add] using this

theorem q_load_int (T : Tab P) {t : TypeId} {x : Operand} {X : Ty} {p : Addr} {d : Int} (hT : T.inf t = some X) (hd : isAggD X.desc = false) (hx : r x = some (.pointer (some p))) (h : At intL fz p d) (hV : I64 d → V (.int .i64 d)) : DoesQ P cx ⟨dst, .load t x, ty, pos, af, gd⟩ r fz H V := by
  obtain ⟨v, h1, h2⟩ := h.cell rfl
  obtain ⟨he, hi⟩ := h1
  injection he with he
  subst he
  exact q_load_cell T hT hd hx h2 (hV hi)
theorem q_load_bool (T : Tab P) {t : TypeId} {x : Operand} {X : Ty} {p : Addr} {d : Bool} (hT : T.inf t = some X) (hd : isAggD X.desc = false) (hx : r x = some (.pointer (some p))) (h : At boolL fz p d) (hV : V (.bool d)) : DoesQ P cx ⟨dst, .load t x, ty, pos, af, gd⟩ r fz H V := by
  obtain ⟨v, h1, h2⟩ := h.cell rfl
  injection h1 with he
  subst he
  exact q_load_cell T hT hd hx h2 hV
theorem q_load_str (T : Tab P) {t : TypeId} {x : Operand} {X : Ty} {p : Addr} {d : ByteArray} (hT : T.inf t = some X) (hd : isAggD X.desc = false) (hx : r x = some (.pointer (some p))) (h : At strL fz p d) (hV : d.size ≤ 9223372036854775807 → V (.string d)) : DoesQ P cx ⟨dst, .load t x, ty, pos, af, gd⟩ r fz H V := by
  obtain ⟨v, h1, h2⟩ := h.cell rfl
  obtain ⟨he, hi⟩ := h1
  injection he with he
  subst he
  exact q_load_cell T hT hd hx h2 (hV hi)
theorem q_load_sl (T : Tab P) {t : TypeId} {x : Operand} {X : Ty} {p : Addr} {d : List α} (hT : T.inf t = some X) (hd : isAggD X.desc = false) (hx : r x = some (.pointer (some p))) (h : At (slL L) fz p d) (hV : ∀ A n c, Sl L fz A n c d → V (.slice A n c)) : DoesQ P cx ⟨dst, .load t x, ty, pos, af, gd⟩ r fz H V := by
  obtain ⟨v, h1, h2⟩ := h.cell rfl
  obtain ⟨A, n, c, he, hs⟩ := h1
  injection he with he
  subst he
  exact q_load_cell T hT hd hx h2 (hV A n c hs)
end

theorem At.part {α β : Type} {L : Lay α} {L' : Lay β} {fz : FZ} {p : Addr} {d : α} {d' : β} (h : At L fz p d) (i : Nat) (hr : ∀ cs, L.rep fz d cs → ∃ v, cs[i]? = some v ∧ L'.rep fz d' [v]) : At L' fz (p.add i) d' := by
  obtain ⟨cs, h1, h2⟩ := h
  obtain ⟨v, h3, h4⟩ := hr cs h1
  refine ⟨[v], h4, fun j u hj => ?_⟩
  cases j with
  | zero =>
    simp at hj; subst hj
    have : (p.add i).add 0 = p.add i := by simp [Addr.add]
    rw [this]; exact h2 i v h3
  | succ j => simp at hj

/-! ### the data of the temporal tasks -/
structure Fact where
  var : Int
  val : Int
def factL : Lay Fact where
  size := 2
  rep := fun _ f cs => cs = [.int .i64 f.var, .int .i64 f.val] ∧ I64 f.var ∧ I64 f.val
  len := fun h => by simp [h.1]
  mono := fun _ h => h

theorem At.var {fz : FZ} {p : Addr} {f : Fact} (h : At factL fz p f) : At intL fz (p.add 0) f.var := h.part 0 fun _ h => ⟨_, by rw [h.1]; rfl, rfl, h.2.1⟩
theorem At.val {fz : FZ} {p : Addr} {f : Fact} (h : At factL fz p f) : At intL fz (p.add 1) f.val := h.part 1 fun _ h => ⟨_, by rw [h.1]; rfl, rfl, h.2.2⟩
structure Launch where
  at_ : Int
  job : Int
def launchL : Lay Launch where
  size := 2
  rep := fun _ f cs => cs = [.int .i64 f.at_, .int .i64 f.job] ∧ I64 f.at_ ∧ I64 f.job
  len := fun h => by simp [h.1]
  mono := fun _ h => h

structure Job where
  name : ByteArray
  dur : Int
  start : List Fact
  over : List Fact
  fin : List Fact
  atStart : List Fact
  atEnd : List Fact
structure JobR (fz : FZ) (j : Job) (A1 : Option Addr) (n1 c1 : Nat) (A2 : Option Addr) (n2 c2 : Nat) (A3 : Option Addr) (n3 c3 : Nat) (A4 : Option Addr) (n4 c4 : Nat) (A5 : Option Addr) (n5 c5 : Nat) : Prop where
  name : j.name.size ≤ 9223372036854775807
  dur : I64 j.dur
  start : Sl factL fz A1 n1 c1 j.start
  over : Sl factL fz A2 n2 c2 j.over
  fin : Sl factL fz A3 n3 c3 j.fin
  atStart : Sl factL fz A4 n4 c4 j.atStart
  atEnd : Sl factL fz A5 n5 c5 j.atEnd
def jobL : Lay Job where
  size := 7
  rep := fun fz j cs => ∃ A1 n1 c1 A2 n2 c2 A3 n3 c3 A4 n4 c4 A5 n5 c5, cs = [.string j.name, .int .i64 j.dur, .slice A1 n1 c1, .slice A2 n2 c2, .slice A3 n3 c3, .slice A4 n4 c4, .slice A5 n5 c5] ∧ JobR fz j A1 n1 c1 A2 n2 c2 A3 n3 c3 A4 n4 c4 A5 n5 c5
  len := fun ⟨_, _, _, _, _, _, _, _, _, _, _, _, _, _, _, h, _⟩ => by simp [h]
  mono := fun hle ⟨A1, n1, c1, A2, n2, c2, A3, n3, c3, A4, n4, c4, A5, n5, c5, h, hj⟩ => ⟨A1, n1, c1, A2, n2, c2, A3, n3, c3, A4, n4, c4, A5, n5, c5, h, ⟨hj.name, hj.dur, hj.start.mono hle, hj.over.mono hle, hj.fin.mono hle, hj.atStart.mono hle, hj.atEnd.mono hle⟩⟩

section
variable {fz : FZ} {p : Addr} {j : Job}
theorem At.name (h : At jobL fz p j) : At strL fz (p.add 0) j.name := h.part 0 fun _ ⟨_, _, _, _, _, _, _, _, _, _, _, _, _, _, _, h, hj⟩ => ⟨_, by rw [h]; rfl, rfl, hj.name⟩
theorem At.dur (h : At jobL fz p j) : At intL fz (p.add 1) j.dur := h.part 1 fun _ ⟨_, _, _, _, _, _, _, _, _, _, _, _, _, _, _, h, hj⟩ => ⟨_, by rw [h]; rfl, rfl, hj.dur⟩
theorem At.start (h : At jobL fz p j) : At (slL factL) fz (p.add 2) j.start := h.part 2 fun _ ⟨_, _, _, _, _, _, _, _, _, _, _, _, _, _, _, h, hj⟩ => ⟨_, by rw [h]; rfl, _, _, _, rfl, hj.start⟩
theorem At.over (h : At jobL fz p j) : At (slL factL) fz (p.add 3) j.over := h.part 3 fun _ ⟨_, _, _, _, _, _, _, _, _, _, _, _, _, _, _, h, hj⟩ => ⟨_, by rw [h]; rfl, _, _, _, rfl, hj.over⟩
theorem At.fin (h : At jobL fz p j) : At (slL factL) fz (p.add 4) j.fin := h.part 4 fun _ ⟨_, _, _, _, _, _, _, _, _, _, _, _, _, _, _, h, hj⟩ => ⟨_, by rw [h]; rfl, _, _, _, rfl, hj.fin⟩
theorem At.atStart (h : At jobL fz p j) : At (slL factL) fz (p.add 5) j.atStart := h.part 5 fun _ ⟨_, _, _, _, _, _, _, _, _, _, _, _, _, _, _, h, hj⟩ => ⟨_, by rw [h]; rfl, _, _, _, rfl, hj.atStart⟩
theorem At.atEnd (h : At jobL fz p j) : At (slL factL) fz (p.add 6) j.atEnd := h.part 6 fun _ ⟨_, _, _, _, _, _, _, _, _, _, _, _, _, _, _, h, hj⟩ => ⟨_, by rw [h]; rfl, _, _, _, rfl, hj.atEnd⟩
end

structure Temporal where
  vars : List Int
  init : List Int
  goal : List Fact
  jobs : List Job
structure TempR (fz : FZ) (t : Temporal) (A1 : Option Addr) (n1 c1 : Nat) (A2 : Option Addr) (n2 c2 : Nat) (A3 : Option Addr) (n3 c3 : Nat) (A4 : Option Addr) (n4 c4 : Nat) : Prop where
  vars : Sl intL fz A1 n1 c1 t.vars
  init : Sl intL fz A2 n2 c2 t.init
  goal : Sl factL fz A3 n3 c3 t.goal
  jobs : Sl jobL fz A4 n4 c4 t.jobs
theorem TempR.mono {fz fz' : FZ} (hle : Le fz fz') {t : Temporal} {A1 : Option Addr} {n1 c1 : Nat} {A2 : Option Addr} {n2 c2 : Nat} {A3 : Option Addr} {n3 c3 : Nat} {A4 : Option Addr} {n4 c4 : Nat} (h : TempR fz t A1 n1 c1 A2 n2 c2 A3 n3 c3 A4 n4 c4) : TempR fz' t A1 n1 c1 A2 n2 c2 A3 n3 c3 A4 n4 c4 :=
  ⟨h.vars.mono hle, h.init.mono hle, h.goal.mono hle, h.jobs.mono hle⟩
end Go.Lx
