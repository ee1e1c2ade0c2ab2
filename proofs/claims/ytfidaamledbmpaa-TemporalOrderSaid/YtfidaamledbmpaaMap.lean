/- Maps with keys of kind int64 that a call makes: made, looked up, written, ranged over. Conditions: none. -/
import Derived.Test.YtfidaamledbmpaaOwn
namespace Go.Lx
open Go.RowKit

/-- the entries of a map that was only ever added to -/
def esFrom : List (Int × Value) → Nat → List MapEntry
  | [], _ => []
  | (k, v) :: r, i => ⟨.int .i64 k, v, i⟩ :: esFrom r (i + 1)
def mapB (m : List (Int × Value)) : Obj := .map (esFrom m 0).toArray m.length

theorem esFrom_len : ∀ (m : List (Int × Value)) (i : Nat), (esFrom m i).length = m.length
  | [], _ => rfl
  | (k, v) :: r, i => by simp [esFrom, esFrom_len r]
theorem esFrom_get : ∀ (m : List (Int × Value)) (i j : Nat), (esFrom m i)[j]? = (m[j]?).map fun p => ⟨.int .i64 p.1, p.2, i + j⟩
  | [], _, _ => by simp [esFrom]
  | (k, v) :: r, i, 0 => by simp [esFrom]
  | (k, v) :: r, i, j + 1 => by
    simp only [esFrom, List.getElem?_cons_succ, esFrom_get r (i + 1) j]
    rw [show i + 1 + j = i + (j + 1) from by omega]
theorem esFrom_append : ∀ (m : List (Int × Value)) (k : Int) (v : Value) (i : Nat), esFrom (m ++ [(k, v)]) i = esFrom m i ++ [⟨.int .i64 k, v, i + m.length⟩]
  | [], k, v, i => by simp [esFrom]
  | (a, b) :: r, k, v, i => by
    simp only [List.cons_append, esFrom, esFrom_append r k v (i + 1), List.length_cons]
    rw [show i + 1 + r.length = i + (r.length + 1) from by omega]

def fndM : List (Int × Value) → Int → Nat → Option (Nat × Value)
  | [], _, _ => none
  | (k, v) :: r, x, i => if x = k then some (i, v) else fndM r x (i + 1)
theorem fndM_some : ∀ (m : List (Int × Value)) (x : Int) (i j : Nat) (v : Value), fndM m x i = some (j, v) → i ≤ j ∧ m[j - i]? = some (x, v)
  | [], _, _, _, _, h => by cases h
  | (k, u) :: r, x, i, j, v, h => by
    unfold fndM at h
    split at h
    · rename_i hk; injection h with h; injection h with h1 h2; subst h1 h2 hk; simp
    · obtain ⟨h1, h2⟩ := fndM_some r x (i + 1) j v h
      exact ⟨by omega, by rw [show j - i = (j - (i + 1)) + 1 from by omega]; simpa using h2⟩
theorem fndM_none : ∀ (m : List (Int × Value)) (x : Int) (i : Nat), fndM m x i = none → ∀ p ∈ m, p.1 ≠ x
  | [], _, _, _, p, hp => by cases hp
  | (k, u) :: r, x, i, h, p, hp => by
    unfold fndM at h
    split at h
    · cases h
    · rename_i hk
      cases hp with
      | head => exact fun he => hk he.symm
      | tail _ hp => exact fndM_none r x (i + 1) h p hp

theorem findNow_eq (d : IntKind) : ∀ (m : List (Int × Value)) (x : Int) (i j : Nat), Instr.findNow (.int d) (.int .i64 x) (esFrom m j) i = some (fndM m x i)
  | [], _, _, _ => rfl
  | (k, v) :: r, x, i, j => by
    simp only [esFrom, Instr.findNow, Instr.sameNow, if_true, fndM]
    by_cases h : x = k
    · subst h; simp
    · have : (x == k) = false := by simpa using h
      simp only [this, if_neg h]
      exact findNow_eq d r x (i + 1) (j + 1)

def updM (m : List (Int × Value)) (x : Int) (v : Value) : List (Int × Value) := match fndM m x 0 with
  | some (i, _) => m.set i (x, v)
  | none => m ++ [(x, v)]

theorem esFrom_set : ∀ (m : List (Int × Value)) (i j : Nat) (x : Int) (v : Value), esFrom (m.set i (x, v)) j = (esFrom m j).modify i fun e => { e with key := .int .i64 x, val := v }
  | [], i, j, x, v => by simp [esFrom]
  | (a, b) :: r, 0, j, x, v => by simp [esFrom]
  | (a, b) :: r, i + 1, j, x, v => by simp [esFrom, esFrom_set r i (j + 1) x v]

section
variable {P : Program} {cx : Cx} {r : Operand → Option Value} {fz : FZ} {H : HP} {dst : Option Nat} {ty : TypeId} {pos : String} {af : Array Edge} {gd : Option (Nat × Bool)} {V : Value → Prop}

theorem run_getMap {w : World} {g : Nat} {m : List (Int × Value)} (h : w.heap[g]? = some (mapB m)) : (getObj g).run P w = .ok (mapB m) w := by
  simp [getObj, Sem.run, h, mapB]

theorem run_checkKey_int (T : Tab P) {k : TypeId} {K : Ty} {d : IntKind} (hK : T.inf k = some K) (hd : K.desc = .int d) (b : Bool) (x : Int) (w : World) : (Instr.checkKey b 10000 k (.int .i64 x)).run P w = .ok () w := by
  have hu := run_underlying (und_plain T hK hd rfl) w
  have : ∀ n : Nat, (Instr.checkKey b (n + 1) k (.int .i64 x)).run P w = .ok () w := fun n => by
    unfold Instr.checkKey
    simp only [Sem.run_bind, hu, Result.andThen_ok, Sem.run_pure]
  exact this 9999
theorem run_findKey_int (T : Tab P) {k : TypeId} {K : Ty} {d : IntKind} (hK : T.inf k = some K) (hd : K.desc = .int d) (x : Int) (m : List (Int × Value)) (w : World) : (Instr.findKey k (.int .i64 x) (esFrom m 0)).run P w = .ok (fndM m x 0) w := by
  have hu := run_underlying (und_plain T hK hd rfl) w
  simp only [Instr.findKey, Sem.run_bind, hu, Result.andThen_ok, findNow_eq, Sem.run_pure]

theorem run_lookup (T : Tab P) {t k e : TypeId} {X K E : Ty} {d : IntKind} {g : Nat} {m : List (Int × Value)} {x : Int} {w : World} (hT : T.inf t = some X) (hd : X.desc = .map k e) (hK : T.inf k = some K) (hkd : K.desc = .int d) (hE : T.inf e = some E)
    (hg : w.heap[g]? = some (mapB m)) : (Instr.lookup t (.map (some g)) (.int .i64 x) false).run P w = .ok ((fndM m x 0).elim E.zero (·.2)) w := by
  have hu := run_underlying (und_plain T hT hd rfl) w
  have hz := run_zero T hE w
  simp only [Instr.lookup, Sem.run_bind, hu, Result.andThen_ok, run_getMap hg, mapB, Sem.run_pure, run_checkKey_int T hK hkd, run_findKey_int T hK hkd]
  cases hf : fndM m x 0 with
  | none => simp [hz]
  | some p => simp

theorem q_lookup_own (T : Tab P) {t k e : TypeId} {y z : Operand} {X K E : Ty} {d : IntKind} {g : Nat} {m : List (Int × Value)} {x : Int} (i : Nat) (hT : T.inf t = some X) (hd : X.desc = .map k e) (hK : T.inf k = some K) (hkd : K.desc = .int d) (hE : T.inf e = some E)
    (hy : r y = some (.map (some g))) (hz : r z = some (.int .i64 x)) (hH : H[i]? = some (g, mapB m)) (h : V ((fndM m x 0).elim E.zero (·.2))) : DoesQ P cx ⟨dst, .lookup t y z false, ty, pos, af, gd⟩ r fz H V :=
  DoesQ.of h fun ρ w hr hi => by
    have hg := (hi.hp.own _ (List.mem_of_getElem? hH)).1
    simp only [execOp, hr _ _ hy, hr _ _ hz, Sem.run_bind, run_lookup T hT hd hK hkd hE hg, Result.andThen_ok, Sem.run_pure]
    exact ⟨rfl, Fr.refl _ _⟩
theorem q_lookup_fz (T : Tab P) {t k e : TypeId} {y z : Operand} {X K E : Ty} {d : IntKind} {g : Nat} {m : List (Int × Value)} {x : Int} (hT : T.inf t = some X) (hd : X.desc = .map k e) (hK : T.inf k = some K) (hkd : K.desc = .int d) (hE : T.inf e = some E)
    (hy : r y = some (.map (some g))) (hz : r z = some (.int .i64 x)) (hH : fz g = some (mapB m)) (h : V ((fndM m x 0).elim E.zero (·.2))) : DoesQ P cx ⟨dst, .lookup t y z false, ty, pos, af, gd⟩ r fz H V :=
  DoesQ.of h fun ρ w hr hi => by
    have hg := hi.hp.keep _ _ hH
    simp only [execOp, hr _ _ hy, hr _ _ hz, Sem.run_bind, run_lookup T hT hd hK hkd hE hg, Result.andThen_ok, Sem.run_pure]
    exact ⟨rfl, Fr.refl _ _⟩

theorem k_makeMap {t : TypeId} {K : Value → FZ → HP → Prop} (h : ∀ g, K (.map (some g)) fz ((g, mapB []) :: H)) : Does P cx ⟨dst, .makeMap t none, ty, pos, af, gd⟩ r fz H K :=
  Does.of fun ρ w hr hw => by
    have : (execOp ρ ⟨dst, .makeMap t none, ty, pos, af, gd⟩).run P w = .ok (.value (.map (some w.heap.size))) (w.alloc (mapB [])) := by
      simp [execOp, Instr.makeMap, newObj, Sem.run, mapB, esFrom]
    rw [this]
    exact ⟨fz, _, hw.alloc _, h _⟩

theorem Inv.setObj {w : World} {pre post : HP} {g : Nat} {o o' : Obj} (h : Inv cx fz (pre ++ (g, o) :: post) w) : Inv cx fz (pre ++ (g, o') :: post) { w with heap := w.heap.setIfInBounds g o' } := by
  have hg := (h.hp.own (g, o) (by simp)).1
  have hlt := lt_of_heap hg
  exact h.write rfl rfl rfl (by simp) (by simp [hlt]) (fun k hk => by simp only; rw [Array.getElem?_setIfInBounds_ne (by omega)])

theorem k_mapUpdate (T : Tab P) {t k e : TypeId} {y z u : Operand} {X K : Ty} {d : IntKind} {g : Nat} {m : List (Int × Value)} {x : Int} {v : Value} {pre post : HP} {KK : Value → FZ → HP → Prop} (hT : T.inf t = some X) (hd : X.desc = .map k e) (hK : T.inf k = some K) (hkd : K.desc = .int d)
    (hy : r y = some (.map (some g))) (hz : r z = some (.int .i64 x)) (hu : r u = some v) (hp : H.Perm (pre ++ (g, mapB m) :: post)) (h : KK undef fz (pre ++ (g, mapB (updM m x v)) :: post)) : Does P cx ⟨dst, .mapUpdate t y z u, ty, pos, af, gd⟩ r fz H KK :=
  Does.of fun ρ w hr hi => by
    have hi' := hi.perm hp.symm
    have hg := (hi'.hp.own (g, mapB m) (by simp)).1
    have hund := run_underlying (und_plain T hT hd rfl) w
    have hset : ∀ o', (Go.setObj g o').run P w = .ok () { w with heap := w.heap.setIfInBounds g o' } := fun o' => by
      simp [Go.setObj, Sem.run, hg, mapB]
    have : (execOp ρ ⟨dst, .mapUpdate t y z u, ty, pos, af, gd⟩).run P w = .ok .skip { w with heap := w.heap.setIfInBounds g (mapB (updM m x v)) } := by
      simp only [execOp, hr _ _ hy, hr _ _ hz, hr _ _ hu, Sem.run_bind, Instr.mapUpdate, hund, Result.andThen_ok, run_getMap hg, mapB, run_checkKey_int T hK hkd, run_findKey_int T hK hkd]
      cases hf : fndM m x 0 with
      | none =>
        have hupd : updM m x v = m ++ [(x, v)] := by simp [updM, hf]
        simp only [hset, hupd, esFrom_append, Nat.zero_add, Result.andThen_ok, Sem.run_pure, List.length_append, List.length_cons, List.length_nil, List.push_toArray]
      | some p =>
        obtain ⟨i, u'⟩ := p
        have hupd : updM m x v = m.set i (x, v) := by simp [updM, hf]
        have hfs := fndM_some m x 0 i u' hf
        have hkey : (((esFrom m 0).toArray[i]?).map (·.key)).getD (.int .i64 x) = .int .i64 x := by
          have := esFrom_get m 0 i
          simp only [Nat.sub_zero] at hfs
          rw [hfs.2] at this
          simp [this]
        have hstay : (Instr.keyThatStays (.int .i64 x) (.int .i64 x)).run P w = .ok (.int .i64 x) w := by
          simp [Instr.keyThatStays, Instr.sameBits]
        simp only [hkey, hstay, Sem.run_bind, Result.andThen_ok, hset, hupd, esFrom_set, Sem.run_pure, List.length_set, List.modify_toArray]
    rw [this]
    exact ⟨fz, _, hi'.setObj, h⟩

/-! ### ranging over such a map -/
def iterB (g n : Nat) (seen : List Nat) : Obj := .mapIter (some g) n seen.toArray n

theorem k_range (T : Tab P) {t k e : TypeId} {y : Operand} {X : Ty} {g : Nat} {m : List (Int × Value)} {KK : Value → FZ → HP → Prop} (i : Nat) (hT : T.inf t = some X) (hd : X.desc = .map k e) (hy : r y = some (.map (some g))) (hH : H[i]? = some (g, mapB m))
    (h : ∀ gi, KK (.pointer (some ⟨gi, 0, none⟩)) fz ((gi, iterB g m.length []) :: H)) : Does P cx ⟨dst, .range t y, ty, pos, af, gd⟩ r fz H KK :=
  Does.of fun ρ w hr hi => by
    have hg := (hi.hp.own _ (List.mem_of_getElem? hH)).1
    have hund := run_underlying (und_plain T hT hd rfl) w
    have : (execOp ρ ⟨dst, .range t y, ty, pos, af, gd⟩).run P w = .ok (.value (.pointer (some ⟨w.heap.size, 0, none⟩))) (w.alloc (iterB g m.length [])) := by
      simp only [execOp, hr _ _ hy, Sem.run_bind, Instr.range, hund, Result.andThen_ok, run_getMap hg, mapB, Sem.run_pure, newObj, Sem.run, iterB]
      rfl
    rw [this]
    exact ⟨fz, _, hi.alloc _, h _⟩

theorem run_getIter {w : World} {gi g n : Nat} {seen : List Nat} (h : w.heap[gi]? = some (iterB g n seen)) : (getObj gi).run P w = .ok (iterB g n seen) w := by
  simp [getObj, Sem.run, h, iterB]

theorem choose_mapNext (n : Nat) (hn : 0 < n) (w : World) : ∃ k w1, (choose (.mapNext n)).run P w = .ok k w1 ∧ k < n ∧ w1.os = w.os ∧ w1.tape = w.tape ∧ w1.output = w.output ∧ w1.heap = w.heap := by
  by_cases h : n ≤ 1
  · exact ⟨0, w, by simp [choose, Sem.run, Question.forced, h], hn, rfl, rfl, rfl, rfl⟩
  · exact ⟨w.tape w.drawn (.mapNext n) % n, { w with drawn := w.drawn + 1 }, by simp [choose, Sem.run, Question.forced, Question.cut, h], Nat.mod_lt _ hn, rfl, rfl, rfl, rfl⟩

theorem k_next {y : Operand} {g gi : Nat} {m : List (Int × Value)} {seen : List Nat} {H' : HP} {KK : Value → FZ → HP → Prop} (j : Nat) (hy : r y = some (.pointer (some ⟨gi, 0, none⟩))) (hj : H'[j]? = some (g, mapB m))
    (hend : (∀ i, i < m.length → i ∈ seen) → KK (.tuple #[.bool false]) fz ((gi, iterB g m.length seen) :: H'))
    (hmore : ∀ i p, m[i]? = some p → i ∉ seen → KK (.tuple #[.bool true, .int .i64 p.1, p.2]) fz ((gi, iterB g m.length (seen ++ [i])) :: H')) : Does P cx ⟨dst, .next y false, ty, pos, af, gd⟩ r fz ((gi, iterB g m.length seen) :: H') KK :=
  Does.of fun ρ w hr hi => by
    have hit := (hi.hp.own (gi, iterB g m.length seen) (by simp)).1
    have hg := (hi.hp.own (g, mapB m) (by have := List.mem_of_getElem? hj; simp [this])).1
    -- what is left
    have hb : ∀ e ∈ esFrom m 0, e.born < m.length := fun e he => by
      obtain ⟨i, hi⟩ := List.mem_iff_getElem?.1 he
      rw [esFrom_get] at hi
      cases hm : m[i]? with
      | none => simp [hm] at hi
      | some p => simp [hm] at hi; subst hi; simpa using (List.getElem?_eq_some_iff.1 hm).1
    let left := (esFrom m 0).filter fun e => !seen.contains e.born
    have hold : left.filter (fun e => decide (e.born < m.length)) = left := List.filter_eq_self.2 fun e he => by simpa using hb e (List.mem_filter.1 he).1
    have hnew : left.filter (fun e => decide (e.born ≥ m.length)) = [] := List.filter_eq_nil_iff.2 fun e he => by have := hb e (List.mem_filter.1 he).1; simpa using this
    have hcond : (!seen.toArray.isEmpty && !(esFrom m 0).toArray.isEmpty && (esFrom m 0).toArray.all (fun e => decide (e.born ≥ m.length))) = false := by
      cases hm : esFrom m 0 with
      | nil => simp
      | cons e r =>
        have := hb e (by rw [hm]; simp)
        have h2 : ¬ e.born ≥ m.length := by omega
        simp [h2]
    have hset : ∀ (w1 : World) (o' : Obj), w1.heap = w.heap → (Go.setObj gi o').run P w1 = .ok () { w1 with heap := w1.heap.setIfInBounds gi o' } := fun w1 o' hw => by
      simp [Go.setObj, Sem.run, hw, hit, iterB]
    have hrun : ∃ w1, w1.os = w.os ∧ w1.tape = w.tape ∧ w1.output = w.output ∧ w1.heap = w.heap ∧
        ((left = [] ∧ (execOp ρ ⟨dst, .next y false, ty, pos, af, gd⟩).run P w = .ok (.value (.tuple #[.bool false])) w1) ∨
         ∃ e ∈ left, (execOp ρ ⟨dst, .next y false, ty, pos, af, gd⟩).run P w = .ok (.value (.tuple #[.bool true, e.key, e.val])) { w1 with heap := w1.heap.setIfInBounds gi (iterB g m.length (seen ++ [e.born])) }) := by
      have hleftA : (esFrom m 0).toArray.filter (fun e => !seen.toArray.contains e.born) = left.toArray := by simp [left]
      have holdA : left.toArray.filter (fun e => decide (e.born < m.length)) = left.toArray := by simp [hold]
      have hnewA : left.toArray.filter (fun e => decide (e.born ≥ m.length)) = #[] := by simp [hnew]
      by_cases hl : left = []
      · obtain ⟨k, w1, hc, hk, e1, e2, e3, e4⟩ := choose_mapNext (P := P) 1 (by omega) w
        have hk0 : k = 0 := by omega
        subst hk0
        refine ⟨w1, e1, e2, e3, e4, .inl ⟨hl, ?_⟩⟩
        simp only [execOp, hr _ _ hy, Sem.run_bind, Instr.next, run_getIter hit, Result.andThen_ok, iterB, run_getMap hg, mapB, hcond, Bool.false_eq_true, if_false, Sem.run_pure, hleftA, holdA, hnewA]
        have hcand : (((if left.toArray.isEmpty = true then #[none] else #[]) ++ Array.map some (left.toArray ++ #[])) : Array (Option MapEntry)) = #[none] := by simp [hl]
        have hsz : (#[none] : Array (Option MapEntry)).size = 1 := rfl
        have hget : (#[none] : Array (Option MapEntry))[0]? = some none := rfl
        simp only [hcand, hsz, hc, Result.andThen_ok, hget, Sem.run_pure]
      · have hpos : 0 < left.length := List.length_pos_iff.2 hl
        obtain ⟨k, w1, hc, hk, e1, e2, e3, e4⟩ := choose_mapNext (P := P) left.length hpos w
        refine ⟨w1, e1, e2, e3, e4, .inr ⟨left[k], List.getElem_mem hk, ?_⟩⟩
        have hemp : left.toArray.isEmpty = false := by simp [hl]
        have hcand : (((if left.toArray.isEmpty = true then #[none] else #[]) ++ Array.map some (left.toArray ++ #[])) : Array (Option MapEntry)) = (left.map some).toArray := by simp [hemp]
        simp only [execOp, hr _ _ hy, Sem.run_bind, Instr.next, run_getIter hit, Result.andThen_ok, iterB, run_getMap hg, mapB, hcond, Bool.false_eq_true, if_false, Sem.run_pure, hleftA, holdA, hnewA, hcand]
        have hsz : (left.map some).toArray.size = left.length := by simp
        have hget : (left.map some).toArray[k]? = some (some left[k]) := by simp [hk]
        simp only [hsz, hc, Result.andThen_ok, hget, Sem.run_bind, hset w1 _ e4, Sem.run_pure, List.push_toArray]
    obtain ⟨w1, e1, e2, e3, e4, hh⟩ := hrun
    have hi1 : Inv cx fz ((gi, iterB g m.length seen) :: H') w1 := hi.world e1 e2 e3 e4
    rcases hh with ⟨hl, hx⟩ | ⟨e, he, hx⟩
    · rw [hx]
      refine ⟨fz, _, hi1, hend fun i hil => ?_⟩
      rw [List.filter_eq_nil_iff] at hl
      obtain ⟨p, hp⟩ : ∃ p, m[i]? = some p := ⟨_, List.getElem?_eq_getElem hil⟩
      have hm : (⟨.int .i64 p.1, p.2, i⟩ : MapEntry) ∈ esFrom m 0 := List.mem_of_getElem? (i := i) (by rw [esFrom_get, hp]; simp)
      have := hl _ hm
      simpa using this
    · rw [hx]
      obtain ⟨h1, h2⟩ := List.mem_filter.1 he
      obtain ⟨i, hii⟩ := List.mem_iff_getElem?.1 h1
      rw [esFrom_get] at hii
      cases hm : m[i]? with
      | none => simp [hm] at hii
      | some p =>
        simp [hm] at hii
        subst hii
        refine ⟨fz, _, hi1.setObj (pre := []), hmore i p hm (by simpa using h2)⟩

theorem q_entry {y : Operand} {g gi : Nat} {m : List (Int × Value)} {seen : List Nat} {i : Nat} {p : Int × Value} (j k : Nat) (hy : r y = some (.pointer (some ⟨gi, 0, none⟩))) (hj : H[j]? = some (gi, iterB g m.length (seen ++ [i]))) (hk : H[k]? = some (g, mapB m)) (hp : m[i]? = some p) (h : V (.tuple #[.int .i64 p.1, p.2])) :
    DoesQ P cx ⟨dst, .entry y, ty, pos, af, gd⟩ r fz H V :=
  DoesQ.of h fun ρ w hr hi => by
    have hit := (hi.hp.own _ (List.mem_of_getElem? hj)).1
    have hg := (hi.hp.own _ (List.mem_of_getElem? hk)).1
    have hfind : (esFrom m 0).toArray.find? (fun e => e.born == i) = some ⟨.int .i64 p.1, p.2, i⟩ := by
      rw [List.find?_toArray]
      have key : ∀ (m : List (Int × Value)) (b i : Nat) (p : Int × Value), m[i]? = some p → (esFrom m b).find? (fun e => e.born == b + i) = some ⟨.int .i64 p.1, p.2, b + i⟩ := by
        intro m
        induction m with
        | nil => intro b i p hp; simp at hp
        | cons q r ih =>
          intro b i p hp
          obtain ⟨a, v⟩ := q
          cases i with
          | zero => simp at hp; subst hp; simp [esFrom]
          | succ i =>
            have := ih (b + 1) i p (by simpa using hp)
            simp only [esFrom, List.find?_cons]
            have hne : (b == b + (i + 1)) = false := by simp
            simp only [hne]
            rw [show b + (i + 1) = b + 1 + i from by omega]
            exact this
      have := key m 0 i p hp
      simpa using this
    have : (execOp ρ ⟨dst, .entry y, ty, pos, af, gd⟩).run P w = .ok (.value (.tuple #[.int .i64 p.1, p.2])) w := by
      simp only [execOp, hr _ _ hy, Sem.run_bind, Instr.entry, run_getIter hit, Result.andThen_ok, iterB]
      simp [run_getMap hg, mapB, hfind]
    rw [this]
    exact ⟨rfl, Fr.refl _ _⟩
end
end Go.Lx
