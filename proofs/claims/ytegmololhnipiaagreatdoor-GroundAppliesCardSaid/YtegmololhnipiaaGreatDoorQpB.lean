/- The texts Base, Auto, Data, Own, GData, Map, GBase, GPlain, laid together. Conditions: none. -/
import Derived.WalkKit
import Derived.Orders
import GoSem.ClaimData
import Derived.WideLaws
import Derived.KernelRfl
import Derived.Maps.AppendAt
namespace Go.Lx
open Go.RowKit
abbrev FZ := Nat → Option Obj
abbrev HP := List (Nat × Obj)
abbrev Env := List (Nat × Value)
def lk : Env → Nat → Option Value
  | [], _ => none
  | (j, v) :: r, i => match Nat.beq j i with
    | true => some v
    | false => lk r i
theorem lk_cons_same (d : Nat) (v : Value) (σ : Env) : lk ((d, v) :: σ) d = some v := by
  simp only [lk, Nat.beq_refl]
theorem lk_cons_ne {d i : Nat} (v : Value) (σ : Env) (h : d ≠ i) : lk ((d, v) :: σ) i = lk σ i := by
  have : Nat.beq d i = false := by
    cases hb : Nat.beq d i
    · rfl
    · exact absurd (Nat.eq_of_beq_eq_true hb) h
  simp only [lk, this]
def rd (σ : Env) : Operand → Option Value
  | .tmp t => lk σ t
  | .const v => some v
  | .func f => some (.func (.func f) #[] #[])
  | .global g => some (.pointer (some ⟨g, 0, none⟩))
def rds (r : Operand → Option Value) : List Operand → Option (List Value)
  | [] => some []
  | x :: xs => match r x with
    | none => none
    | some v => match rds r xs with
      | none => none
      | some vs => some (v :: vs)
structure Sat (n : Nat) (σ : Env) (a : Act) : Prop where
  size : a.tmps.size = n
  defers : a.defers = []
  slot : ∀ i v, lk σ i = some v → a.tmps[i]? = some v
theorem Sat.put {n : Nat} {σ : Env} {a : Act} (h : Sat n σ a) (d : Nat) (hd : d < n) (v : Value) : Sat n ((d, v) :: σ) (a.put (some d) v) := by
  refine ⟨by simp [Act.put, h.size], by simp [Act.put, h.defers], fun i u hu => ?_⟩
  by_cases hi : d = i
  · subst hi
    rw [lk_cons_same] at hu
    injection hu with hu
    subst hu
    simp [Act.put, h.size, hd]
  · rw [lk_cons_ne v σ hi] at hu
    have := h.slot i u hu
    simp only [Act.put]
    rw [Array.getElem?_setIfInBounds_ne hi]
    exact this
def Sub : Env → Env → Prop
  | [], _ => True
  | (i, v) :: r, σ => lk σ i = some v ∧ Sub r σ
theorem Sub.lk_ {ρ σ : Env} (h : Sub ρ σ) : ∀ i v, lk ρ i = some v → lk σ i = some v := by
  induction ρ with
  | nil => intro i v hv; cases hv
  | cons p r ih =>
    obtain ⟨j, u⟩ := p
    intro i v hv
    by_cases hji : j = i
    · subst hji
      rw [lk_cons_same] at hv
      injection hv with hv
      subst hv
      exact h.1
    · rw [lk_cons_ne u r hji] at hv
      exact ih h.2 i v hv
theorem Sat.sub {n : Nat} {ρ σ : Env} {a : Act} (h : Sat n σ a) (hs : Sub ρ σ) : Sat n ρ a :=
  ⟨h.size, h.defers, fun i v hv => h.slot i v (hs.lk_ i v hv)⟩
def Reads (r : Operand → Option Value) (ρ : Operand → Value) : Prop := ∀ x v, r x = some v → ρ x = v
theorem Sat.reads {n : Nat} {σ : Env} {a : Act} (h : Sat n σ a) : Reads (rd σ) a.eval := by
  intro x v hv
  cases x with
  | tmp t => have := h.slot t v hv; simp [Act.eval, this]
  | const u => injection hv
  | global g => injection hv
  | func f => injection hv
theorem Reads.all {r : Operand → Option Value} {ρ : Operand → Value} (h : Reads r ρ) : ∀ (xs : List Operand) (vs : List Value), rds r xs = some vs → xs.map ρ = vs
  | [], vs, hv => by injection hv
  | x :: xs, vs, hv => by
    unfold rds at hv
    cases hx : r x with
    | none => simp [hx] at hv
    | some v =>
      cases hxs : rds r xs with
      | none => simp [hx, hxs] at hv
      | some us =>
        simp [hx, hxs] at hv
        subst hv
        simp [h x v hx, h.all xs us hxs]
structure Hp (fz : FZ) (H : HP) (w : World) : Prop where
  keep : ∀ b o, fz b = some o → w.heap[b]? = some o
  own : ∀ p ∈ H, w.heap[p.1]? = some p.2 ∧ fz p.1 = none
  nd : (H.map Prod.fst).Nodup
structure Fr (S : List Nat) (w w' : World) : Prop where
  os : w'.os = w.os
  tape : w'.tape = w.tape
  output : w'.output = w.output
  size : w.heap.size ≤ w'.heap.size
  block : ∀ b, b < w.heap.size → b ∉ S → w'.heap[b]? = w.heap[b]?
structure New (n0 : Nat) (S : List Nat) (fz fz' : FZ) (H' : HP) : Prop where
  le : ∀ b o, fz b = some o → fz' b = some o
  old : ∀ b, b < n0 → b ∉ S → fz' b = fz b
  own : ∀ p ∈ H', p.1 ∈ S ∨ n0 ≤ p.1
structure Cx where
  w0 : World
  S : List Nat
  fz0 : FZ
structure Inv (cx : Cx) (fz : FZ) (H : HP) (w : World) : Prop where
  hp : Hp fz H w
  fr : Fr cx.S cx.w0 w
  nw : New cx.w0.heap.size cx.S cx.fz0 fz H
def Le (fz fz' : FZ) : Prop := ∀ b o, fz b = some o → fz' b = some o
theorem Le.refl (fz : FZ) : Le fz fz := fun _ _ h => h
theorem Le.trans {a b c : FZ} (h : Le a b) (k : Le b c) : Le a c := fun i o hi => k i o (h i o hi)
theorem lt_of_heap {w : World} {b : Nat} {o : Obj} (h : w.heap[b]? = some o) : b < w.heap.size := by
  rcases Nat.lt_or_ge b w.heap.size with hl | hl
  · exact hl
  · rw [Array.getElem?_eq_none hl] at h; cases h
theorem Fr.refl (S : List Nat) (w : World) : Fr S w w := ⟨rfl, rfl, rfl, Nat.le_refl _, fun _ _ _ => rfl⟩
theorem Fr.trans {S S' : List Nat} {a b c : World} (h : Fr S a b) (k : Fr S' b c) (hs : ∀ x ∈ S', x ∈ S ∨ a.heap.size ≤ x) : Fr S a c :=
  ⟨k.os.trans h.os, k.tape.trans h.tape, k.output.trans h.output, Nat.le_trans h.size k.size, fun i hi hn =>
    (k.block i (Nat.lt_of_lt_of_le hi h.size) (fun hc => by rcases hs i hc with h1 | h1; exact hn h1; omega)).trans (h.block i hi hn)⟩
theorem Inv.world {cx : Cx} {fz : FZ} {H : HP} {w w' : World} (h : Inv cx fz H w) (h1 : w'.os = w.os) (h2 : w'.tape = w.tape) (h3 : w'.output = w.output) (h4 : w'.heap = w.heap) : Inv cx fz H w' := by
  obtain ⟨⟨a, b, c⟩, ⟨d, e, f, g, i⟩, k⟩ := h
  exact ⟨⟨by rw [h4]; exact a, by rw [h4]; exact b, c⟩, ⟨h1.trans d, h2.trans e, h3.trans f, by rw [h4]; exact g, by rw [h4]; exact i⟩, k⟩
theorem Inv.drew {cx : Cx} {fz : FZ} {H : HP} {w : World} (h : Inv cx fz H w) : Inv cx fz H { w with drawn := w.drawn + 1 } := h.world rfl rfl rfl rfl
theorem Inv.alloc {cx : Cx} {fz : FZ} {H : HP} {w : World} (h : Inv cx fz H w) (o : Obj) : Inv cx fz ((w.heap.size, o) :: H) (w.alloc o) := by
  obtain ⟨⟨a, b, c⟩, ⟨d, e, f, g, i⟩, ⟨j, k, l⟩⟩ := h
  have hold : ∀ x, x < w.heap.size → (w.alloc o).heap[x]? = w.heap[x]? := fun x hx => Below.heap_alloc w o x hx
  have hnew : fz w.heap.size = none := by
    cases hq : fz w.heap.size with
    | none => rfl
    | some q => have := lt_of_heap (a _ _ hq); omega
  refine ⟨⟨fun x q hx => ?_, fun p hp => ?_, ?_⟩, ⟨d, e, f, ?_, fun x hx hn => ?_⟩, ⟨j, k, fun p hp => ?_⟩⟩
  · have := a x q hx; rw [hold x (lt_of_heap this)]; exact this
  · cases hp with
    | head => exact ⟨heap_alloc_new w o, hnew⟩
    | tail _ hp => have := b p hp; exact ⟨by rw [hold _ (lt_of_heap this.1)]; exact this.1, this.2⟩
  · simp only [List.map_cons, List.nodup_cons]
    refine ⟨fun hm => ?_, c⟩
    obtain ⟨p, hp, he⟩ := List.mem_map.1 hm
    have := lt_of_heap (b p hp).1
    omega
  · simp; omega
  · rw [hold x (by omega)]; exact i x hx hn
  · cases hp with
    | head => exact .inr g
    | tail _ hp => exact l p hp
theorem Inv.forget {cx : Cx} {fz : FZ} {H H' : HP} {w : World} (h : Inv cx fz H w) (hs : H'.Sublist H) : Inv cx fz H' w :=
  ⟨⟨h.hp.keep, fun p hp => h.hp.own p (hs.subset hp), h.hp.nd.sublist (hs.map _)⟩, h.fr, ⟨h.nw.le, h.nw.old, fun p hp => h.nw.own p (hs.subset hp)⟩⟩
theorem Inv.perm {cx : Cx} {fz : FZ} {H H' : HP} {w : World} (h : Inv cx fz H w) (hs : H'.Perm H) : Inv cx fz H' w :=
  ⟨⟨h.hp.keep, fun p hp => h.hp.own p (hs.subset hp), (hs.map _).symm.nodup h.hp.nd⟩, h.fr, ⟨h.nw.le, h.nw.old, fun p hp => h.nw.own p (hs.subset hp)⟩⟩
theorem Inv.write {cx : Cx} {fz : FZ} {pre post : HP} {g : Nat} {o o' : Obj} {w w' : World} (h : Inv cx fz (pre ++ (g, o) :: post) w)
    (h1 : w'.os = w.os) (h2 : w'.tape = w.tape) (h3 : w'.output = w.output) (h4 : w'.heap.size = w.heap.size) (h5 : w'.heap[g]? = some o') (h6 : ∀ k, k ≠ g → w'.heap[k]? = w.heap[k]?) :
    Inv cx fz (pre ++ (g, o') :: post) w' := by
  obtain ⟨⟨a, b, c⟩, ⟨d, e, f, gg, i⟩, ⟨j, k, l⟩⟩ := h
  have hg := b (g, o) (by simp)
  have hnd : (pre ++ (g, o') :: post).map Prod.fst = (pre ++ (g, o) :: post).map Prod.fst := by simp
  have hgS : g ∈ cx.S ∨ cx.w0.heap.size ≤ g := l (g, o) (by simp)
  have hne : ∀ p : Nat × Obj, (p ∈ pre ∨ p ∈ post) → p.1 ≠ g := by
    intro p hp he
    simp only [List.map_append, List.map_cons, List.nodup_append, List.nodup_cons] at c
    rcases hp with hp | hp
    · exact c.2.2 p.1 (List.mem_map.2 ⟨p, hp, rfl⟩) g (by simp) he
    · exact c.2.1.1 (he ▸ List.mem_map.2 ⟨p, hp, rfl⟩)
  refine ⟨⟨fun x q hx => ?_, fun p hp => ?_, by rw [hnd]; exact c⟩, ⟨h1.trans d, h2.trans e, h3.trans f, by omega, fun x hx hn => ?_⟩, ⟨j, k, fun p hp => ?_⟩⟩
  · rw [h6 x (fun hc => by subst hc; rw [hg.2] at hx; cases hx)]; exact a x q hx
  · simp only [List.mem_append, List.mem_cons] at hp
    rcases hp with hp | rfl | hp
    · rw [h6 _ (hne p (.inl hp))]; exact b p (by simp [hp])
    · exact ⟨h5, hg.2⟩
    · rw [h6 _ (hne p (.inr hp))]; exact b p (by simp [hp])
  · rw [h6 x (fun hc => by subst hc; rcases hgS with h7 | h7; exact hn h7; omega)]; exact i x hx hn
  · simp only [List.mem_append, List.mem_cons] at hp
    rcases hp with hp | rfl | hp
    · exact l p (by simp [hp])
    · exact hgS
    · exact l p (by simp [hp])
def upd (fz : FZ) (g : Nat) (o : Obj) : FZ := fun b => if b = g then some o else fz b
theorem Inv.freeze {cx : Cx} {fz : FZ} {g : Nat} {o : Obj} {H : HP} {w : World} (h : Inv cx fz ((g, o) :: H) w) : Inv cx (upd fz g o) H w ∧ Le fz (upd fz g o) := by
  obtain ⟨⟨a, b, c⟩, fr, ⟨j, k, l⟩⟩ := h
  have hg := b (g, o) (by simp)
  have hgS : g ∈ cx.S ∨ cx.w0.heap.size ≤ g := l (g, o) (by simp)
  have hle : Le fz (upd fz g o) := by
    intro x q hx
    unfold upd
    by_cases he : x = g
    · subst he; rw [hg.2] at hx; cases hx
    · rw [if_neg he]; exact hx
  simp only [List.map_cons, List.nodup_cons] at c
  refine ⟨⟨⟨fun x q hx => ?_, fun p hp => ⟨(b p (by simp [hp])).1, ?_⟩, c.2⟩, fr, ⟨fun x q hx => hle x q (j x q hx), fun x hx hn => ?_, fun p hp => l p (by simp [hp])⟩⟩, hle⟩
  · unfold upd at hx
    by_cases he : x = g
    · subst he; rw [if_pos rfl] at hx; injection hx with hx; subst hx; exact hg.1
    · rw [if_neg he] at hx; exact a x q hx
  · unfold upd
    rw [if_neg (fun he => c.1 (List.mem_map.2 ⟨p, hp, he⟩))]
    exact (b p (by simp [hp])).2
  · unfold upd
    rw [if_neg (fun he => by subst he; rcases hgS with h7 | h7; exact hn h7; omega)]
    exact k x hx hn
theorem Inv.quiet {cx : Cx} {fz : FZ} {H : HP} {w w' : World} (h : Inv cx fz H w) (k : Fr [] w w') : Inv cx fz H w' := by
  obtain ⟨⟨a, b, c⟩, d, e⟩ := h
  refine ⟨⟨fun x o hx => ?_, fun p hp => ?_, c⟩, d.trans k (by simp), e⟩
  · have := a x o hx; rw [k.block x (lt_of_heap this) (by simp)]; exact this
  · have := b p hp; exact ⟨by rw [k.block _ (lt_of_heap this.1) (by simp)]; exact this.1, this.2⟩
def OpPost (P : Program) (R : Value → World → Prop) : Result Next → Prop
  | .ok (.value v) w' => R v w'
  | .ok .skip w' => R undef w'
  | .ok (.enter f args) w' => Calls P f args w' fun e w'' => ∃ v, e = .returned v ∧ R v w''
  | _ => False
theorem OpPost.mono {P : Program} {R R' : Value → World → Prop} (h : ∀ v w, R v w → R' v w) {r : Result Next} (hr : OpPost P R r) : OpPost P R' r := by
  unfold OpPost at *
  split at hr
  · exact h _ _ hr
  · exact h _ _ hr
  · exact hr.mono fun e w'' ⟨v, he, hv⟩ => ⟨v, he, h _ _ hv⟩
  · exact hr.elim
theorem OpPost.wp {P : Program} {o : Oper} {a : Act} {w : World} {next : Act → World → Prop} {Q : Exit → Act → World → Prop}
    (h : OpPost P (fun v w' => next (a.put o.dst v) w') ((execOp a.eval o).run P w)) : o.wp P a w next Q := by
  unfold Oper.wp
  unfold OpPost at h
  split at h
  · rename_i hr; rw [hr]; exact h
  · rename_i hr; rw [hr]; exact h
  · rename_i hr; rw [hr]; exact h.mono fun e w'' ⟨v, he, hv⟩ => by subst he; exact hv
  · exact h.elim
def DoesQ (P : Program) (cx : Cx) (o : Oper) (r : Operand → Option Value) (fz : FZ) (H : HP) (V : Value → Prop) : Prop :=
  ∃ v, V v ∧ ∀ ρ w, Reads r ρ → Inv cx fz H w → OpPost P (fun v' w' => v' = v ∧ Fr [] w w') ((execOp ρ o).run P w)
def Does (P : Program) (cx : Cx) (o : Oper) (r : Operand → Option Value) (fz : FZ) (H : HP) (K : Value → FZ → HP → Prop) : Prop :=
  ∀ ρ w, Reads r ρ → Inv cx fz H w → OpPost P (fun v w' => ∃ fz' H', Inv cx fz' H' w' ∧ K v fz' H') ((execOp ρ o).run P w)
theorem DoesQ.does {P : Program} {cx : Cx} {o : Oper} {r : Operand → Option Value} {fz : FZ} {H : HP} {K : Value → FZ → HP → Prop} (h : DoesQ P cx o r fz H fun v => K v fz H) : Does P cx o r fz H K := by
  obtain ⟨v, hv, hh⟩ := h
  intro ρ w hr hi
  exact (hh ρ w hr hi).mono fun v' w' ⟨he, hw⟩ => ⟨fz, H, hi.quiet hw, by subst he; exact hv⟩
theorem DoesQ.mono {P : Program} {cx : Cx} {o : Oper} {r : Operand → Option Value} {fz : FZ} {H : HP} {V V' : Value → Prop} (h : DoesQ P cx o r fz H V) (hv : ∀ v, V v → V' v) : DoesQ P cx o r fz H V' := by
  obtain ⟨v, h1, h2⟩ := h
  exact ⟨v, hv v h1, h2⟩
abbrev QQ := Exit → Env → FZ → HP → Prop
def lift (cx : Cx) (n : Nat) (Q : QQ) : Exit → Act → World → Prop := fun e a w => ∃ σ fz H, Sat n σ a ∧ Inv cx fz H w ∧ Q e σ fz H
def Wp (P : Program) (cx : Cx) (n : Nat) (c : Code) (σ : Env) (fz : FZ) (H : HP) (Q : QQ) : Prop :=
  ∀ a w, Sat n σ a → Inv cx fz H w → c.wp P (lift cx n Q) a w
def Seq (P : Program) (cx : Cx) (n : Nat) (ops : Array Oper) (l : List Oper) (σ : Env) (fz : FZ) (H : HP) (Q : QQ) : Prop :=
  ∀ a w, Sat n σ a → Inv cx fz H w → wpList P ops (lift cx n Q) l a w
section
variable {P : Program} {cx : Cx} {n : Nat} {σ : Env} {fz : FZ} {H : HP} {Q : QQ} {ops : Array Oper} {rest : List Oper}
def andThen (P : Program) (cx : Cx) (n : Nat) (y : Code) (Q : QQ) : QQ
  | .normal, σ, fz, H => Wp P cx n y σ fz H Q
  | e, σ, fz, H => Q e σ fz H
theorem Wp.mono {c : Code} {Q' : QQ} (h : Wp P cx n c σ fz H Q) (hq : ∀ e σ fz H, Q e σ fz H → Q' e σ fz H) : Wp P cx n c σ fz H Q' :=
  fun a w hs hi => wp_mono (h a w hs hi) fun _ _ _ ⟨σ, fz, H, h1, h2, h3⟩ => ⟨σ, fz, H, h1, h2, hq _ _ _ _ h3⟩
theorem Wp.seq {x y : Code} (h : Wp P cx n x σ fz H (andThen P cx n y Q)) : Wp P cx n (.seq x y) σ fz H Q := by
  intro a w hs hi
  refine wp_seq (wp_mono (h a w hs hi) fun e a w hh => ?_)
  obtain ⟨σ', fz', H', h1, h2, h3⟩ := hh
  cases e with
  | normal => exact h3 a w h1 h2
  | _ => exact ⟨σ', fz', H', h1, h2, h3⟩
theorem Wp.skip (h : Q .normal σ fz H) : Wp P cx n .skip σ fz H Q := fun _ _ hs hi => wp_skip ⟨σ, fz, H, hs, hi, h⟩
theorem Wp.ret (h : Q .ret σ fz H) : Wp P cx n .ret σ fz H Q := fun _ _ hs hi => wp_ret ⟨σ, fz, H, hs, hi, h⟩
theorem Wp.exit {id : Nat} (h : Q (.exit id) σ fz H) : Wp P cx n (.exit id) σ fz H Q := fun _ _ hs hi => wp_exit ⟨σ, fz, H, hs, hi, h⟩
theorem Wp.label {id : Nat} (h : Q .normal σ fz H) : Wp P cx n (.label id) σ fz H Q := fun _ _ hs hi => wp_label ⟨σ, fz, H, hs, hi, h⟩
def blkQ (id : Nat) (Q : QQ) : QQ
  | .exit i, σ, fz, H => match Nat.beq i id with
    | true => Q .normal σ fz H
    | false => Q (.exit i) σ fz H
  | e, σ, fz, H => Q e σ fz H
theorem Wp.block {id : Nat} {c : Code} (h : Wp P cx n c σ fz H (blkQ id Q)) : Wp P cx n (.block id c) σ fz H Q := by
  intro a w hs hi
  refine wp_block (wp_mono (h a w hs hi) fun e a w hh => ?_)
  obtain ⟨σ', fz', H', h1, h2, h3⟩ := hh
  cases e with
  | exit i =>
    unfold Exit.inBlock
    unfold blkQ at h3
    by_cases he : i = id
    · subst he
      simp only [Nat.beq_refl] at h3
      simp only [if_true]
      exact ⟨σ', fz', H', h1, h2, h3⟩
    · have : Nat.beq i id = false := by
        cases hb : Nat.beq i id
        · rfl
        · exact absurd (Nat.eq_of_beq_eq_true hb) he
      simp only [this] at h3
      simp only [he, if_false]
      exact ⟨σ', fz', H', h1, h2, h3⟩
  | _ => exact ⟨σ', fz', H', h1, h2, h3⟩
theorem Wp.cond {c : Operand} {x y : Code} {t : Bool} (hc : rd σ c = some (.bool t)) (ht : t = true → Wp P cx n x σ fz H Q) (hf : t = false → Wp P cx n y σ fz H Q) : Wp P cx n (.cond c x y) σ fz H Q := by
  intro a w hs hi
  exact wp_cond_split (hs.reads _ _ hc) (fun h => ht h a w hs hi) (fun h => hf h a w hs hi)
theorem Wp.cond_true {c : Operand} {x y : Code} (hc : rd σ c = some (.bool true)) (ht : Wp P cx n x σ fz H Q) : Wp P cx n (.cond c x y) σ fz H Q := Wp.cond hc (fun _ => ht) (fun h => by cases h)
theorem Wp.cond_false {c : Operand} {x y : Code} (hc : rd σ c = some (.bool false)) (hf : Wp P cx n y σ fz H Q) : Wp P cx n (.cond c x y) σ fz H Q := Wp.cond hc (fun h => by cases h) (fun _ => hf)
theorem Wp.freeze {c : Code} {g : Nat} {o : Obj} {H' : HP} (hH : H = (g, o) :: H') (h : ∀ fz', Le fz fz' → fz' g = some o → Wp P cx n c σ fz' H' Q) : Wp P cx n c σ fz H Q := by
  subst hH
  intro a w h1 h2
  obtain ⟨h3, h4⟩ := h2.freeze
  exact h _ h4 (by simp [upd]) a w h1 h3
def loopQ (I : Nat → Env → FZ → HP → Prop) (m : Nat) (Q : QQ) : QQ
  | .normal, σ, fz, H => ∃ m' σ' H', m' < m ∧ Sub σ' σ ∧ H'.Sublist H ∧ I m' σ' fz H'
  | e, σ, fz, H => Q e σ fz H
theorem Wp.loop {c : Code} (I : Nat → Env → FZ → HP → Prop) {m0 : Nat} {σ0 : Env} {H0 : HP} (k3 : I m0 σ0 fz H0) (k1 : Sub σ0 σ) (k2 : H0.Sublist H)
    (round : ∀ m σ fz H, I m σ fz H → Wp P cx n c σ fz H (loopQ I m Q)) : Wp P cx n (.loop c) σ fz H Q := by
  intro a w hs hi b k cs
  have key : ∀ (m : Nat) (σ : Env) (fz : FZ) (H : HP), I m σ fz H → ∀ a w, Sat n σ a → Inv cx fz H w →
      ∃ e a' w', lift cx n Q e a' w' ∧ Arrives P (lone (b.at a (.code c :: .inLoop c :: k)) cs w) b k cs e a' w' := by
    intro m
    induction m using Nat.strongRecOn with
    | _ m ih =>
      intro σ fz H hI a w hs hi
      obtain ⟨e, a1, w1, hq, harr⟩ := round m σ fz H hI a w hs hi b (.inLoop c :: k) cs
      obtain ⟨σ1, fz1, H1, s1, i1, q1⟩ := hq
      cases e with
      | normal =>
        obtain ⟨m', σ', H', hlt, g1, g2, g3⟩ := q1
        obtain ⟨e2, a2, w2, hq2, harr2⟩ := ih m' hlt σ' fz1 H' g3 a1 w1 (s1.sub g1) (i1.forget g2)
        exact ⟨e2, a2, w2, hq2, .of_steps (Steps.trans harr (.one step_inLoop)) harr2⟩
      | exit id => exact ⟨_, a1, w1, ⟨σ1, fz1, H1, s1, i1, q1⟩, .pass (x := .inLoop c) rfl (fun _ _ => .inl (by simp)) harr⟩
      | goto l => exact ⟨_, a1, w1, ⟨σ1, fz1, H1, s1, i1, q1⟩, .pass (x := .inLoop c) rfl (fun _ _ => .inl (by simp)) harr⟩
      | ret => exact ⟨_, a1, w1, ⟨σ1, fz1, H1, s1, i1, q1⟩, .pass (x := .inLoop c) rfl (fun _ _ => .inl (by simp)) harr⟩
      | panic ch => exact ⟨_, a1, w1, ⟨σ1, fz1, H1, s1, i1, q1⟩, .pass (x := .inLoop c) rfl (fun _ _ => .inl (by simp)) harr⟩
      | outgrown => exact ⟨_, a1, w1, ⟨σ1, fz1, H1, s1, i1, q1⟩, .pass (x := .inLoop c) rfl (fun _ _ => .inl (by simp)) harr⟩
  obtain ⟨e, a', w', hq, harr⟩ := key m0 σ0 fz H0 k3 a w (hs.sub k1) (hi.forget k2)
  exact ⟨e, a', w', hq, .of_steps (.one step_loop) harr⟩
theorem Wp.region {id : Nat} {l : List Oper} (h : Seq P cx n l.toArray l σ fz H Q) : Wp P cx n (.region id l.toArray false) σ fz H Q :=
  fun a w hs hi => wp_region_lit (h a w hs hi)
theorem Seq.nil (h : Q .normal σ fz H) : Seq P cx n ops [] σ fz H Q := fun _ _ hs hi => wpList_nil ⟨σ, fz, H, hs, hi, h⟩
theorem Seq.done {y : Code} (h : Wp P cx n y σ fz H Q) : Seq P cx n ops [] σ fz H (andThen P cx n y Q) := Seq.nil h
theorem Seq.stepK {d : Nat} {op : Op} {ty : TypeId} {pos : String} {af : Array Edge} (hd : Nat.blt d n = true)
    (h : Does P cx ⟨some d, op, ty, pos, af, none⟩ (rd σ) fz H fun v fz' H' => Seq P cx n ops rest ((d, v) :: σ) fz' H' Q) :
    Seq P cx n ops (⟨some d, op, ty, pos, af, none⟩ :: rest) σ fz H Q := by
  intro a w hs hi
  unfold wpList
  rw [if_pos (by simp [Region.wanted])]
  refine .inl (OpPost.wp ((h a.eval w hs.reads hi).mono fun v w' hh => ?_))
  obtain ⟨fz', H', h1, h2⟩ := hh
  exact h2 _ _ (hs.put d (by simpa [Nat.blt_eq] using hd) v) h1
theorem Seq.stepK0 {op : Op} {ty : TypeId} {pos : String} {af : Array Edge}
    (h : Does P cx ⟨none, op, ty, pos, af, none⟩ (rd σ) fz H fun _ fz' H' => Seq P cx n ops rest σ fz' H' Q) :
    Seq P cx n ops (⟨none, op, ty, pos, af, none⟩ :: rest) σ fz H Q := by
  intro a w hs hi
  unfold wpList
  rw [if_pos (by simp [Region.wanted])]
  refine .inl (OpPost.wp ((h a.eval w hs.reads hi).mono fun v w' hh => ?_))
  obtain ⟨fz', H', h1, h2⟩ := hh
  exact h2 _ _ hs h1
theorem Seq.q {d : Nat} {op : Op} {ty : TypeId} {pos : String} {af : Array Edge} (hd : Nat.blt d n = true)
    (h : DoesQ P cx ⟨some d, op, ty, pos, af, none⟩ (rd σ) fz H fun v => Seq P cx n ops rest ((d, v) :: σ) fz H Q) :
    Seq P cx n ops (⟨some d, op, ty, pos, af, none⟩ :: rest) σ fz H Q := Seq.stepK hd h.does
theorem Seq.freeze {l : List Oper} {g : Nat} {o : Obj} {H' : HP} (hH : H = (g, o) :: H') (h : ∀ fz', Le fz fz' → fz' g = some o → Seq P cx n ops l σ fz' H' Q) : Seq P cx n ops l σ fz H Q := by
  subst hH
  intro a w h1 h2
  obtain ⟨h3, h4⟩ := h2.freeze
  exact h _ h4 (by simp [upd]) a w h1 h3
theorem Seq.perm {l : List Oper} {H' : HP} (hH : H'.Perm H) (h : Seq P cx n ops l σ fz H' Q) : Seq P cx n ops l σ fz H Q := fun a w h1 h2 => h a w h1 (h2.perm hH)
theorem Wp.perm {c : Code} {H' : HP} (hH : H'.Perm H) (h : Wp P cx n c σ fz H' Q) : Wp P cx n c σ fz H Q := fun a w h1 h2 => h a w h1 (h2.perm hH)
theorem yielded_of {a : Act} {σ : Env} {n : Nat} (hs : Sat n σ a) {ops : Array Oper} {j s : Nat} {c : Bool} (hj : (ops[j]?).bind (·.dst) = some s) (hv : lk σ s = some (.bool c)) : yielded ops a.tmps j = some c := by
  unfold yielded
  rw [hj]
  simp [hs.slot s _ hv]
theorem Seq.guard_yes {d : Nat} {op : Op} {ty : TypeId} {pos : String} {af : Array Edge} {j s : Nat} {c : Bool} (hd : Nat.blt d n = true) (hj : (ops[j]?).bind (·.dst) = some s) (hv : lk σ s = some (.bool c))
    (h : DoesQ P cx ⟨some d, op, ty, pos, af, some (j, c)⟩ (rd σ) fz H fun v => Seq P cx n ops rest ((d, v) :: σ) fz H Q) :
    Seq P cx n ops (⟨some d, op, ty, pos, af, some (j, c)⟩ :: rest) σ fz H Q := by
  intro a w hs hi
  unfold wpList
  rw [if_pos (by simp [Region.wanted, yielded_of hs hj hv])]
  refine .inl (OpPost.wp ((h.does (K := fun v fz' H' => Seq P cx n ops rest ((d, v) :: σ) fz' H' Q) a.eval w hs.reads hi).mono fun v w' hh => ?_))
  obtain ⟨fz', H', h1, h2⟩ := hh
  exact h2 _ _ (hs.put d (by simpa [Nat.blt_eq] using hd) v) h1
theorem Seq.guard_off {d : Nat} {op : Op} {ty : TypeId} {pos : String} {af : Array Edge} {j s : Nat} {b : Bool} (hd : Nat.blt d n = true) (hj : (ops[j]?).bind (·.dst) = some s) (hv : lk σ s = some undef)
    (h : Seq P cx n ops rest ((d, undef) :: σ) fz H Q) :
    Seq P cx n ops (⟨some d, op, ty, pos, af, some (j, b)⟩ :: rest) σ fz H Q := by
  intro a w hs hi
  unfold wpList
  have hy : yielded ops a.tmps j = none := by
    unfold yielded
    rw [hj]
    simp [hs.slot s _ hv, undef]
  rw [if_neg (by simp [Region.wanted, hy])]
  exact h _ _ (hs.put d (by simpa [Nat.blt_eq] using hd) undef) hi
theorem Seq.guard_no {d : Nat} {op : Op} {ty : TypeId} {pos : String} {af : Array Edge} {j s : Nat} {b c : Bool} (hd : Nat.blt d n = true) (hj : (ops[j]?).bind (·.dst) = some s) (hv : lk σ s = some (.bool c)) (hb : b = !c)
    (h : Seq P cx n ops rest ((d, undef) :: σ) fz H Q) :
    Seq P cx n ops (⟨some d, op, ty, pos, af, some (j, b)⟩ :: rest) σ fz H Q := by
  intro a w hs hi
  unfold wpList
  rw [if_neg (by simp [Region.wanted, yielded_of hs hj hv, hb])]
  exact h _ _ (hs.put d (by simpa [Nat.blt_eq] using hd) undef) hi
def waits (o : Oper) (j : Nat) : Bool := o.after.toList.any fun e => Nat.beq e.on j && Region.binds .any e
def whose : List Oper → Nat → Nat → Option Nat
  | [], _, _ => none
  | p :: r, t, i => match p.dst with
    | some d => match Nat.beq d t with
      | true => some i
      | false => whose r t (i + 1)
    | none => whose r t (i + 1)
def nthO : List Oper → Nat → Option Oper
  | [], _ => none
  | p :: _, 0 => some p
  | _ :: r, j + 1 => nthO r j
theorem nthO_eq : ∀ (l : List Oper) (j : Nat), nthO l j = l[j]?
  | [], _ => by simp [nthO]
  | _ :: _, 0 => rfl
  | _ :: r, j + 1 => by simpa [nthO] using nthO_eq r j
def allWait (q : Oper) (j : Nat) : Nat → Bool
  | 0 => true
  | k + 1 => match (Nat.beq k j || waits q k) with
    | true => allWait q j k
    | false => false
theorem allWait_s {q : Oper} {j : Nat} : ∀ {n : Nat}, allWait q j n = true → ∀ k, k < n → k = j ∨ waits q k = true
  | 0, _, k, hk => absurd hk (by omega)
  | n + 1, h, k, hk => by
    unfold allWait at h
    cases hb : (Nat.beq n j || waits q n) with
    | false => simp [hb] at h
    | true =>
      simp only [hb] at h
      by_cases he : k = n
      · subst he
        rcases Bool.or_eq_true _ _ ▸ hb with h1 | h1
        · exact .inl (Nat.eq_of_beq_eq_true h1)
        · exact .inr h1
      · exact allWait_s h k (by omega)
def lastB (ops : List Oper) (j : Nat) : Bool := match nthO ops j with
  | some q => allWait q j ops.length
  | none => false
theorem lastB_s {ops : List Oper} {j : Nat} (h : lastB ops j = true) : ∃ q, ops[j]? = some q ∧ ∀ k, k < ops.length → k = j ∨ waits q k = true := by
  unfold lastB at h
  rw [nthO_eq] at h
  cases hq : ops[j]? with
  | none => simp [hq] at h
  | some q => simp only [hq] at h; exact ⟨q, rfl, allWait_s h⟩
def rdq (ops : List Oper) (o : Oper) (σ ve : Env) : Operand → Option Value
  | .tmp t => match whose ops t 0 with
    | none => lk σ t
    | some j => match waits o j with
      | true => lk ve j
      | false => match lastB ops j with
        | true => lk σ t
        | false => none
  | .const v => some v
  | .func f => some (.func (.func f) #[] #[])
  | .global g => some (.pointer (some ⟨g, 0, none⟩))
def asB : Value → Option Bool
  | .bool b => some b
  | _ => none
def wantq (o : Oper) (ve : Env) : Option Bool := match o.guard with
  | none => some true
  | some (j, b) => match waits o j with
    | false => none
    | true => match lk ve j with
      | some v => some (asB v == some b)
      | none => none
def Quiet (P : Program) (cx : Cx) (o : Oper) (r : Operand → Option Value) (fz : FZ) (H : HP) (v : Value) : Prop :=
  ∀ ρ w, Reads r ρ → Inv cx fz H w → OpPost P (fun v' w' => v' = v ∧ Fr [] w w') ((execOp ρ o).run P w)
def QOk (P : Program) (cx : Cx) (ops : List Oper) (o : Oper) (σ ve : Env) (fz : FZ) (H : HP) (v : Value) : Prop :=
  (wantq o ve = some true ∧ Quiet P cx o (rdq ops o σ ve) fz H v) ∨ (wantq o ve = some false ∧ v = undef)
def QL (P : Program) (cx : Cx) (ops : List Oper) (σ : Env) (fz : FZ) (H : HP) (Q : QQ) : Nat → List Oper → Env → Env → Prop
  | _, [], _, τ => Q .normal τ fz H
  | i, o :: rest, ve, τ => ∃ v, QOk P cx ops o σ ve fz H v ∧ QL P cx ops σ fz H Q (i + 1) rest ((i, v) :: ve) (match o.dst with | some d => (d, v) :: τ | none => τ)
def okFrom (n : Nat) : List Oper → Nat → List Nat → Bool
  | [], _, _ => true
  | o :: r, i, ds => (o.after.toList.all fun e => !Region.binds .any e || Nat.blt e.on i) && (match o.dst with
    | some d => Nat.blt d n && !ds.any (Nat.beq d) && okFrom n r (i + 1) (d :: ds)
    | none => okFrom n r (i + 1) ds)
def guardsOk (l : List Oper) : Bool := l.all fun o => match o.guard with
  | none => true
  | some (j, _) => ((l[j]?).bind (·.dst)).isSome
def VExt (a b : Env) : Prop := ∀ i v, lk a i = some v → lk b i = some v
theorem wantq_ext {o : Oper} {a b : Env} (h : VExt a b) {c : Bool} (hw : wantq o a = some c) : wantq o b = some c := by
  unfold wantq at *
  split
  · rename_i hg; simp only [hg] at hw; exact hw
  · rename_i j bb hg
    simp only [hg] at hw
    cases hwt : waits o j with
    | false => simp [hwt] at hw
    | true =>
      simp only [hwt] at hw ⊢
      cases hl : lk a j with
      | none => simp [hl] at hw
      | some v => rw [h j v hl]; simpa [hl] using hw
theorem rdq_ext {ops : List Oper} {o : Oper} {σ a b : Env} (h : VExt a b) : ∀ x v, rdq ops o σ a x = some v → rdq ops o σ b x = some v := by
  intro x v hx
  cases x with
  | tmp t =>
    unfold rdq at *
    cases hw : whose ops t 0 with
    | none => simpa [hw] using hx
    | some j =>
      simp only [hw] at hx ⊢
      cases hwt : waits o j with
      | false => simpa only [hwt] using hx
      | true => simp only [hwt] at hx ⊢; exact h j v hx
  | const u => exact hx
  | global g => exact hx
  | func f => exact hx
theorem QOk.ext {ops' : List Oper} {o : Oper} {a b : Env} {v : Value} (h : VExt a b) (hq : QOk P cx ops' o σ a fz H v) : QOk P cx ops' o σ b fz H v := by
  rcases hq with ⟨h1, h2⟩ | ⟨h1, h2⟩
  · exact .inl ⟨wantq_ext h h1, fun ρ w hr hi => h2 ρ w (fun x v hx => hr x v (rdq_ext h x v hx)) hi⟩
  · exact .inr ⟨wantq_ext h h1, h2⟩
theorem QL.out {ops' : List Oper} : ∀ (l : List Oper) (i : Nat) (ve τ : Env), (∀ j, i ≤ j → lk ve j = none) → QL P cx ops' σ fz H Q i l ve τ →
    ∃ VE τF, VExt ve VE ∧ (∀ (k : Nat) (o : Oper), l[k]? = some o → ∃ v, lk VE (i + k) = some v ∧ QOk P cx ops' o σ VE fz H v) ∧ Q .normal τF fz H ∧
      (∀ s v, lk τF s = some v → (∃ (k : Nat) (o : Oper), l[k]? = some o ∧ o.dst = some s ∧ lk VE (i + k) = some v) ∨ (lk τ s = some v ∧ ∀ (k : Nat) (o : Oper), l[k]? = some o → o.dst ≠ some s))
  | [], i, ve, τ, _, h => ⟨ve, τ, fun _ _ h => h, by simp, h, fun s v hs => .inr ⟨hs, by simp⟩⟩
  | o :: l, i, ve, τ, hve, h => by
    obtain ⟨v, hq, hr⟩ := h
    have hx : VExt ve ((i, v) :: ve) := by
      intro j u hj
      by_cases he : i = j
      · subst he; rw [hve i (Nat.le_refl _)] at hj; cases hj
      · rw [lk_cons_ne v ve he]; exact hj
    obtain ⟨VE, τF, h1, h2, h3, h4⟩ := QL.out l (i + 1) ((i, v) :: ve) _ (fun j hj => by rw [lk_cons_ne v ve (by omega)]; exact hve j (by omega)) hr
    have hv : lk VE i = some v := h1 i v (lk_cons_same i v ve)
    have hvx : VExt ve VE := fun j u hj => h1 j u (hx j u hj)
    refine ⟨VE, τF, hvx, fun k o' hk => ?_, h3, fun s u hs => ?_⟩
    · cases k with
      | zero => simp at hk; subst hk; exact ⟨v, hv, hq.ext hvx⟩
      | succ k =>
        obtain ⟨u, hu, hqu⟩ := h2 k o' (by simpa using hk)
        exact ⟨u, by rw [← hu]; congr 1; omega, hqu⟩
    · rcases h4 s u hs with ⟨k, o', hk, hd, hl⟩ | ⟨hl, hn⟩
      · exact .inl ⟨k + 1, o', by simpa using hk, hd, by rw [← hl]; congr 1; omega⟩
      · cases hd : o.dst with
        | none =>
          simp only [hd] at hl
          refine .inr ⟨hl, fun k o' hk => ?_⟩
          cases k with
          | zero => simp at hk; subst hk; simp [hd]
          | succ k => exact hn k o' (by simpa using hk)
        | some d =>
          simp only [hd] at hl
          by_cases he : d = s
          · subst he
            rw [lk_cons_same] at hl
            exact .inl ⟨0, o, by simp, hd, by simpa using hv.trans hl⟩
          · rw [lk_cons_ne v τ he] at hl
            refine .inr ⟨hl, fun k o' hk => ?_⟩
            cases k with
            | zero => simp at hk; subst hk; rw [hd]; simpa using he
            | succ k => exact hn k o' (by simpa using hk)
theorem okFrom_edges : ∀ (l : List Oper) (i : Nat) (ds : List Nat), okFrom n l i ds = true → ∀ (k : Nat) (o : Oper), l[k]? = some o → ∀ e ∈ o.after, Region.binds .any e = true → e.on < i + k
  | [], _, _, _, k, o, hk => by simp at hk
  | p :: r, i, ds, h, k, o, hk => by
    simp only [okFrom, Bool.and_eq_true] at h
    cases k with
    | zero =>
      simp at hk
      subst hk
      intro e he hb
      have := List.all_eq_true.1 h.1 e (by simpa using he)
      simp only [hb, Bool.not_true, Bool.false_or, Nat.blt_eq] at this
      simpa using this
    | succ k =>
      intro e he hb
      have h2 := h.2
      cases hd : p.dst with
      | none =>
        simp only [hd] at h2
        have := okFrom_edges r (i + 1) ds h2 k o (by simpa using hk) e he hb
        omega
      | some d =>
        simp only [hd, Bool.and_eq_true] at h2
        have := okFrom_edges r (i + 1) (d :: ds) h2.2 k o (by simpa using hk) e he hb
        omega
theorem okFrom_dst : ∀ (l : List Oper) (i : Nat) (ds : List Nat), okFrom n l i ds = true → ∀ (k : Nat) (o : Oper) (d : Nat), l[k]? = some o → o.dst = some d → d < n ∧ d ∉ ds ∧ ∀ (k' : Nat) (o' : Oper), l[k']? = some o' → o'.dst = some d → k' = k
  | [], _, _, _, k, o, d, hk => by simp at hk
  | p :: r, i, ds, h, k, o, d, hk => by
    intro hod
    simp only [okFrom, Bool.and_eq_true] at h
    have h2 := h.2
    cases hd : p.dst with
    | none =>
      simp only [hd] at h2
      cases k with
      | zero => simp at hk; subst hk; rw [hd] at hod; cases hod
      | succ k =>
        obtain ⟨a, b, c⟩ := okFrom_dst r (i + 1) ds h2 k o d (by simpa using hk) hod
        refine ⟨a, b, fun k' o' hk' ho' => ?_⟩
        cases k' with
        | zero => simp at hk'; subst hk'; rw [hd] at ho'; cases ho'
        | succ k' => rw [c k' o' (by simpa using hk') ho']
    | some d0 =>
      simp only [hd, Bool.and_eq_true, Nat.blt_eq, Bool.not_eq_true'] at h2
      have hnot : d0 ∉ ds := by
        intro hm
        have : ds.any (Nat.beq d0) = true := List.any_eq_true.2 ⟨d0, hm, Nat.beq_refl d0⟩
        rw [this] at h2
        exact absurd h2.1.2 (by simp)
      cases k with
      | zero =>
        simp at hk
        subst hk
        rw [hd] at hod
        injection hod with hod
        subst hod
        refine ⟨h2.1.1, hnot, fun k' o' hk' ho' => ?_⟩
        cases k' with
        | zero => rfl
        | succ k' =>
          have := (okFrom_dst r (i + 1) (d0 :: ds) h2.2 k' o' d0 (by simpa using hk') ho').2.1
          simp at this
      | succ k =>
        obtain ⟨a, b, c⟩ := okFrom_dst r (i + 1) (d0 :: ds) h2.2 k o d (by simpa using hk) hod
        simp only [List.mem_cons, not_or] at b
        refine ⟨a, b.2, fun k' o' hk' ho' => ?_⟩
        cases k' with
        | zero => simp at hk'; subst hk'; rw [hd] at ho'; injection ho' with ho'; exact absurd ho'.symm b.1
        | succ k' => rw [c k' o' (by simpa using hk') ho']
theorem whose_none : ∀ (l : List Oper) (t i : Nat), whose l t i = none → ∀ (k : Nat) (o : Oper), l[k]? = some o → o.dst ≠ some t
  | [], _, _, _, k, o, hk => by simp at hk
  | p :: r, t, i, h, k, o, hk => by
    unfold whose at h
    cases hd : p.dst with
    | none =>
      simp only [hd] at h
      cases k with
      | zero => simp at hk; subst hk; simp [hd]
      | succ k => exact whose_none r t (i + 1) h k o (by simpa using hk)
    | some d =>
      simp only [hd] at h
      cases hb : Nat.beq d t with
      | true => simp [hb] at h
      | false =>
        simp only [hb] at h
        cases k with
        | zero =>
          simp at hk; subst hk; rw [hd]
          intro he; injection he with he; subst he; rw [Nat.beq_refl] at hb; cases hb
        | succ k => exact whose_none r t (i + 1) h k o (by simpa using hk)
theorem whose_some : ∀ (l : List Oper) (t i j : Nat), whose l t i = some j → ∃ (k : Nat) (o : Oper), j = i + k ∧ l[k]? = some o ∧ o.dst = some t
  | [], _, _, _, h => by cases h
  | p :: r, t, i, j, h => by
    unfold whose at h
    cases hd : p.dst with
    | none =>
      simp only [hd] at h
      obtain ⟨k, o, h1, h2, h3⟩ := whose_some r t (i + 1) j h
      exact ⟨k + 1, o, by omega, by simpa using h2, h3⟩
    | some d =>
      simp only [hd] at h
      cases hb : Nat.beq d t with
      | true => simp [hb] at h; subst h; exact ⟨0, p, rfl, rfl, by rw [hd, Nat.eq_of_beq_eq_true hb]⟩
      | false =>
        simp only [hb] at h
        obtain ⟨k, o, h1, h2, h3⟩ := whose_some r t (i + 1) j h
        exact ⟨k + 1, o, by omega, by simpa using h2, h3⟩
theorem countP_lt {p q : Nat → Bool} : ∀ (l : List Nat) (i : Nat), i ∈ l → (∀ j, q j = true → p j = true) → p i = true → q i = false → l.countP q < l.countP p
  | [], _, h, _, _, _ => by cases h
  | x :: l, i, h, hle, hp, hq => by
    have hmono : l.countP q ≤ l.countP p := List.countP_mono_left fun j _ => hle j
    simp only [List.countP_cons]
    by_cases hx : x = i
    · subst hx; simp only [hp, hq, if_true]; simp; omega
    · have hm : i ∈ l := by cases h with | head => exact absurd rfl hx | tail _ h => exact h
      have := countP_lt l i hm hle hp hq
      by_cases h1 : q x = true
      · simp only [h1, hle x h1, if_true]; omega
      · rw [if_neg h1]; split <;> omega
def calm (l : List Oper) : Bool := l.all fun o => match o.op with
  | .alloc _ | .box _ _ | .buildSlice _ _ _ | .store _ _ _ | .mapUpdate _ _ _ _ | .makeMap _ _ | .makeSlice _ _ _ => false
  | .call { callee := .builtin .append, .. } => false
  | _ => true
theorem Wp.draw {id : Nat} {l : List Oper} (_ : calm l = true) (hm : P.follows .mixedOrders = true) (hB : okFrom n l 0 [] = true) (hG : guardsOk l = true) (h : QL P cx l σ fz H Q 0 l [] σ) : Wp P cx n (.region id l.toArray true) σ fz H Q := by
  intro a w hs hi
  obtain ⟨VE, τF, _, hq, hQ, hτ⟩ := QL.out l 0 [] σ (fun _ _ => rfl) h
  simp only [Nat.zero_add] at hq hτ
  -- what holds at every point
  let A : Array Bool → Act → World → Prop := fun listed a w => Inv cx fz H w ∧ a.tmps.size = n ∧ a.defers = [] ∧ listed.size = l.length ∧
    ((∀ s v, lk σ s = some v → (∀ (k : Nat) (o : Oper), l[k]? = some o → o.dst = some s → listed.getD k true = false) → a.tmps[s]? = some v) ∧
      (∀ (k : Nat) (o : Oper), l[k]? = some o → listed.getD k true = true → ∀ m, waits o m = true → listed.getD m true = true)) ∧
    (∀ (k : Nat) (o : Oper) (d : Nat) (v : Value), l[k]? = some o → o.dst = some d → listed.getD k true = true → lk VE k = some v → a.tmps[d]? = some v)
  have hedge := okFrom_edges (n := n) l 0 [] hB
  have hdst := okFrom_dst (n := n) l 0 [] hB
  have hops : ∀ k : Nat, (l.toArray)[k]? = l[k]? := fun k => by simp
  have hall : ∀ (listed : Array Bool), listed.size = l.length → Region.ready .any l.toArray listed = [] → ∀ k, k < l.length → listed.getD k true = true := by
    intro listed hsz hr k
    induction k using Nat.strongRecOn with
    | _ k ih =>
      intro hk
      cases hl : listed.getD k true with
      | true => rfl
      | false =>
        exfalso
        have hmem : k ∈ Region.ready .any l.toArray listed := by
          unfold Region.ready
          simp only [List.mem_filter, List.mem_range, List.size_toArray, hk, true_and, hl, Bool.not_false, Bool.true_and]
          rw [hops k, List.getElem?_eq_getElem hk]
          simp only [Option.map_some, Option.getD_some, Array.all_eq_true_iff_forall_mem]
          intro e he
          cases hb : Region.binds .any e with
          | false => rfl
          | true =>
            have h1 := hedge k l[k] (List.getElem?_eq_getElem hk) e he hb
            have h2 := ih e.on (by omega) (by omega)
            have h3 : e.on < listed.size := by omega
            simp only [Bool.not_true, Bool.false_or]
            simpa [Array.getD, h3] using h2
        rw [hr] at hmem
        cases hmem
  have hfin : ∀ listed a w, A listed a w → Region.ready .any l.toArray listed = [] → lift cx n Q .normal a w := by
    intro listed a w ⟨a1, a2, a3, a4, ⟨a5, _⟩, a6⟩ hr
    refine ⟨τF, fz, H, ⟨a2, a3, fun s v hsv => ?_⟩, a1, hQ⟩
    rcases hτ s v hsv with ⟨k, o, hk, hd, hv⟩ | ⟨hv, hn⟩
    · exact a6 k o s v hk hd (hall listed a4 hr k (List.getElem?_eq_some_iff.1 hk).1) hv
    · exact a5 s v hv (fun k o hk hd => absurd hd (hn k o hk))
  have main : ∀ (fuel : Nat) (listed : Array Bool) (a : Act) (w : World), (List.range l.length).countP (fun i => !listed.getD i true) ≤ fuel → A listed a w → wpAny P .any l.toArray (lift cx n Q) fuel listed a w := by
    intro fuel
    induction fuel with
    | zero =>
      intro listed a w hc hA
      have hr : Region.ready .any l.toArray listed = [] := by
        unfold Region.ready
        rw [List.filter_eq_nil_iff]
        intro k hk
        have : (List.range l.length).countP (fun i => !listed.getD i true) = 0 := by omega
        rw [List.countP_eq_zero] at this
        have := this k (by simpa using hk)
        simp only [Bool.not_eq_true, Bool.not_eq_false'] at this
        simp only [this]; simp
      exact ⟨hr, hfin listed a w hA hr⟩
    | succ fuel ih =>
      intro listed a w hc hA
      refine ⟨fun hr => hfin listed a w hA hr, fun i hir => ?_⟩
      obtain ⟨a1, a2, a3, a4, ⟨a5, a7⟩, a6⟩ := hA
      unfold Region.ready at hir
      simp only [List.mem_filter, List.mem_range, List.size_toArray, Bool.and_eq_true, Bool.not_eq_true'] at hir
      obtain ⟨hil, hun, hrdy⟩ := hir
      have hio : l[i]? = some l[i] := List.getElem?_eq_getElem hil
      rw [hops i, hio] at hrdy
      simp only [Option.map_some, Option.getD_some, Array.all_eq_true_iff_forall_mem] at hrdy
      obtain ⟨v, hv, hqv⟩ := hq i l[i] hio
      have hdone : ∀ j, waits l[i] j = true → listed.getD j true = true ∧ j < l.length := by
        intro j hj
        unfold waits at hj
        obtain ⟨e, he, hej⟩ := List.any_eq_true.1 hj
        simp only [Bool.and_eq_true] at hej
        have h1 := hrdy e (by simpa using he)
        rw [hej.2] at h1
        have h2 : e.on = j := Nat.eq_of_beq_eq_true hej.1
        have h3 := hedge i l[i] hio e (by simpa using he) hej.2
        simp only [Bool.not_true, Bool.false_or] at h1
        have h5 : j < listed.size := by omega
        subst h2
        exact ⟨by simpa [Array.getD, h5] using h1, by omega⟩
      have hlate : ∀ j t, whose l t 0 = some j → lastB l j = true → ∀ (k : Nat) (o : Oper), l[k]? = some o → o.dst = some t → listed.getD k true = false := by
        intro j t hw hlb k o hk hd
        obtain ⟨kj, oj, hkj, hoj, hdj⟩ := whose_some l t 0 j hw
        simp only [Nat.zero_add] at hkj
        subst hkj
        have hke : k = j := (hdst j oj t hoj hdj).2.2 k o hk hd
        subst hke
        obtain ⟨q, hq1, hq2⟩ := lastB_s hlb
        cases hls : listed.getD k true with
        | false => rfl
        | true =>
          rcases hq2 i hil with h1 | h1
          · subst h1; rw [hls] at hun; cases hun
          · have := a7 k q hq1 hls i h1; rw [hun] at this; cases this
      have hreads : Reads (rdq l l[i] σ VE) a.eval := by
        intro x u hx
        cases x with
        | tmp t =>
          unfold rdq at hx
          cases hw : whose l t 0 with
          | none =>
            simp only [hw] at hx
            have := a5 t u hx (fun k o hk hd => absurd hd (whose_none l t 0 hw k o hk))
            simp [Act.eval, this]
          | some j =>
            simp only [hw] at hx
            cases hwt : waits l[i] j with
            | false =>
              simp only [hwt] at hx
              cases hlb : lastB l j with
              | false => simp [hlb] at hx
              | true =>
                simp only [hlb] at hx
                have := a5 t u hx (hlate j t hw hlb)
                simp [Act.eval, this]
            | true =>
              simp only [hwt] at hx
              obtain ⟨k, o, rfl, hk, hd⟩ := whose_some l t 0 j hw
              simp only [Nat.zero_add] at *
              have := a6 k o t u hk hd (hdone k hwt).1 hx
              simp [Act.eval, this]
        | const c => injection hx
        | global g => injection hx
        | func f => injection hx
      have hnext : ∀ w', Inv cx fz H w' → A (listed.setIfInBounds i true) (a.put l[i].dst v) w' := by
        intro w' hw'
        have hilt : i < listed.size := by omega
        have hother : ∀ k, k ≠ i → (listed.setIfInBounds i true).getD k true = listed.getD k true := by
          intro k hk
          simp only [Array.getD_eq_getD_getElem?]
          rw [Array.getElem?_setIfInBounds_ne (by omega)]
        have hsame : (listed.setIfInBounds i true).getD i true = true := by simp [Array.getD, hilt]
        have hmono : ∀ k, listed.getD k true = true → (listed.setIfInBounds i true).getD k true = true := by
          intro k hk
          by_cases he : k = i
          · subst he; exact hsame
          · rw [hother k he]; exact hk
        refine ⟨hw', ?_, ?_, by simpa using a4, ⟨fun s u hsu hn => ?_, fun k o hk hls m hm => ?_⟩, fun k o d u hk hd hls hu => ?_⟩
        · cases hd : l[i].dst <;> simp [Act.put, a2]
        · cases hd : l[i].dst <;> simp [Act.put, a3]
        · have h0 := a5 s u hsu (fun k o hk hd => by
            by_cases he : k = i
            · subst he; have := hn k o hk hd; rw [hsame] at this; cases this
            · rw [← hother k he]; exact hn k o hk hd)
          cases hd : l[i].dst with
          | none => exact h0
          | some d =>
            have hne : d ≠ s := fun he => by have := hn i l[i] hio (he ▸ hd); rw [hsame] at this; cases this
            simp only [Act.put]
            rw [Array.getElem?_setIfInBounds_ne hne]
            exact h0
        · by_cases he : k = i
          · subst he
            have : o = l[k] := by rw [hio] at hk; injection hk with hk; exact hk.symm
            subst this
            exact hmono m (hdone m hm).1
          · rw [hother k he] at hls
            exact hmono m (a7 k o hk hls m hm)
        · by_cases hki : k = i
          · subst hki
            have : o = l[k] := by rw [hio] at hk; injection hk with hk; exact hk.symm
            subst this
            rw [hv] at hu
            injection hu with hu
            subst hu
            rw [hd]
            simp [Act.put, a2, (hdst k _ d hio hd).1]
          · have h0 : listed.getD k true = true := by
              have hls' := hls
              simp only [Array.getD_eq_getD_getElem?] at hls' ⊢
              rw [Array.getElem?_setIfInBounds_ne (by omega)] at hls'
              exact hls'
            have h1 := a6 k o d u hk hd h0 hu
            cases hd' : l[i].dst with
            | none => exact h1
            | some d' =>
              have hne : d' ≠ d := fun he => by subst he; exact hki ((hdst i _ d' hio hd').2.2 k o hk hd)
              simp only [Act.put]
              rw [Array.getElem?_setIfInBounds_ne hne]
              exact h1
      have hcount : (List.range l.length).countP (fun j => !(listed.setIfInBounds i true).getD j true) ≤ fuel := by
        have hi' : i < listed.size := by omega
        have := countP_lt (p := fun j => !listed.getD j true) (q := fun j => !(listed.setIfInBounds i true).getD j true) (List.range l.length) i (by simpa using hil) (fun j hj => by
          by_cases hji : i = j
          · subst hji; simp [Array.getD, hi'] at hj
          · simp only [Array.getD_eq_getD_getElem?] at hj ⊢
            rw [Array.getElem?_setIfInBounds_ne hji] at hj
            exact hj) (by simp only [hun, Bool.not_false]) (by simp [Array.getD, hi'])
        omega
      have hyield : ∀ j b, l[i].guard = some (j, b) → waits l[i] j = true → ∀ c, lk VE j = some c → yielded l.toArray a.tmps j = asB c := by
        intro j b hg hwt c hc
        obtain ⟨h1, h2⟩ := hdone j hwt
        unfold yielded
        rw [hops j, List.getElem?_eq_getElem h2]
        cases hd : l[j].dst with
        | none =>
          have h7 := List.all_eq_true.1 hG l[i] (List.getElem_mem hil)
          simp [hg, List.getElem?_eq_getElem h2, hd] at h7
        | some d =>
          have := a6 j l[j] d _ (List.getElem?_eq_getElem h2) hd h1 hc
          simp only [Option.bind_some, hd, this]
          cases c <;> rfl
      unfold wpOp
      rw [hops i, hio]
      simp only
      rcases hqv with ⟨hw1, hw2⟩ | ⟨hw1, hw2⟩
      · have hwant : Region.wanted l[i] (yielded l.toArray a.tmps) = true := by
          unfold Region.wanted
          cases hg : l[i].guard with
          | none => rfl
          | some jb =>
            obtain ⟨j, b⟩ := jb
            simp only
            unfold wantq at hw1
            simp only [hg] at hw1
            cases hwt : waits l[i] j with
            | false => simp [hwt] at hw1
            | true =>
              simp only [hwt] at hw1
              split at hw1
              · rename_i c hc
                rw [hyield j b hg hwt c hc]
                have h9 := Option.some.inj hw1
                simpa using h9
              · cases hw1
        rw [if_pos hwant]
        exact .inl (OpPost.wp ((hw2 a.eval w hreads a1).mono fun v' w' ⟨he, hw'⟩ => by subst he; exact ih _ _ _ hcount (hnext w' (a1.quiet hw'))))
      · have hwant : Region.wanted l[i] (yielded l.toArray a.tmps) = false := by
          unfold Region.wanted
          unfold wantq at hw1
          cases hg : l[i].guard with
          | none => simp [hg] at hw1
          | some jb =>
            obtain ⟨j, b⟩ := jb
            simp only
            simp only [hg] at hw1
            cases hwt : waits l[i] j with
            | false => simp [hwt] at hw1
            | true =>
              simp only [hwt] at hw1
              split at hw1
              · rename_i c hc
                rw [hyield j b hg hwt c hc]
                have h9 := Option.some.inj hw1
                simpa using h9
              · cases hw1
        rw [if_neg (by simp [hwant])]
        subst hw2
        exact ih _ _ _ hcount (hnext w a1)
  refine wp_region_any hm (main _ _ _ _ ?_ ⟨hi.drew, hs.size, hs.defers, by simp, ⟨fun s v hv _ => hs.slot s v hv, fun k o hk hls => ?_⟩, fun k o d v hk hd hls => ?_⟩)
  · have := List.countP_le_length (p := fun i => !(Array.replicate l.toArray.size false).getD i true) (l := List.range l.length)
    simpa using this
  · have : k < l.length := (List.getElem?_eq_some_iff.1 hk).1
    simp [Array.getD, this] at hls
  · have : k < l.length := (List.getElem?_eq_some_iff.1 hk).1
    simp [Array.getD, this] at hls
def rdc (ops : List Oper) (o : Oper) (σ ve cv : Env) : Operand → Option Value
  | .tmp t => match whose ops t 0 with
    | none => lk σ t
    | some j => match waits o j with
      | true => match lk cv j with
        | some v => some v
        | none => lk ve j
      | false => match lastB ops j with
        | true => lk σ t
        | false => none
  | .const v => some v
  | .func f => some (.func (.func f) #[] #[])
  | .global g => some (.pointer (some ⟨g, 0, none⟩))
def inCh (ch : List (Nat × Oper)) (i : Nat) : Bool := ch.any fun p => Nat.beq p.1 i
def allq (ops : List Oper) (ch : List (Nat × Oper)) (o : Oper) : Bool := (List.range ops.length).all fun i => inCh ch i || waits o i
def Keep (fz : FZ) (Hq : HP) (fz' : FZ) (H' : HP) : Prop := Le fz fz' ∧ ∀ p ∈ Hq, p ∈ H'
def Ch (P : Program) (cx : Cx) (ops : List Oper) (σ ve : Env) (fz0 : FZ) (Hq : HP) (Q : QQ) (all : List (Nat × Oper)) : List (Nat × Oper) → Bool → Env → Env → FZ → HP → Prop
  | [], _, _, τ, fz, H => Q .normal τ fz H
  | (i, o) :: rest, done, cv, τ, fz, H =>
      (wantq o ve = some true ∧ Does P cx o (rdc ops o σ ve cv) fz H fun v fz' H' =>
        ((done || allq ops all o) = true ∨ Keep fz0 Hq fz' H') ∧
        Ch P cx ops σ ve fz0 Hq Q all rest (done || allq ops all o) ((i, v) :: cv) (match o.dst with | some d => (d, v) :: τ | none => τ) fz' H') ∨
      (wantq o ve = some false ∧ Ch P cx ops σ ve fz0 Hq Q all rest (done || allq ops all o) ((i, undef) :: cv) (match o.dst with | some d => (d, undef) :: τ | none => τ) fz H)
def QK (P : Program) (cx : Cx) (ops : List Oper) (σ : Env) (fz : FZ) (Hq : HP) (K : Env → Env → List (Nat × Oper) → Prop) : Nat → List Oper → Env → Env → List (Nat × Oper) → Prop
  | _, [], ve, τ, ch => K ve τ ch
  | i, o :: rest, ve, τ, ch =>
      (∃ v, QOk P cx ops o σ ve fz Hq v ∧ QK P cx ops σ fz Hq K (i + 1) rest ((i, v) :: ve) (match o.dst with | some d => (d, v) :: τ | none => τ) ch) ∨
      QK P cx ops σ fz Hq K (i + 1) rest ve τ (ch ++ [(i, o)])
def chainOk : List (Nat × Oper) → Bool
  | [] => true
  | [(_, _)] => true
  | (i, _) :: (j, p) :: r => waits p i && Nat.blt i j && chainOk ((j, p) :: r)
theorem chainOk_tail {x : Nat × Oper} {r : List (Nat × Oper)} (h : chainOk (x :: r) = true) : chainOk r = true := by
  cases r with
  | nil => rfl
  | cons y r =>
    obtain ⟨i, o⟩ := x
    obtain ⟨j, p⟩ := y
    simp only [chainOk, Bool.and_eq_true] at h
    exact h.2
theorem chainOk_lt {i : Nat} {o : Oper} : ∀ {r : List (Nat × Oper)}, chainOk ((i, o) :: r) = true → ∀ p ∈ r, i < p.1
  | [], _, p, hp => by cases hp
  | (j, q) :: r, h, p, hp => by
    simp only [chainOk, Bool.and_eq_true, Nat.blt_eq] at h
    cases hp with
    | head => exact h.1.2
    | tail _ hp => exact Nat.lt_trans h.1.2 (chainOk_lt h.2 p hp)
theorem chainOk_waits {i : Nat} {o : Oper} : ∀ {r : List (Nat × Oper)}, chainOk ((i, o) :: r) = true → ∀ p ∈ r, ∃ q ∈ ((i, o) :: r), waits p.2 q.1 = true ∧ q.1 < p.1
  | [], _, p, hp => by cases hp
  | (j, q) :: r, h, p, hp => by
    have h' := h
    simp only [chainOk, Bool.and_eq_true, Nat.blt_eq] at h
    cases hp with
    | head => exact ⟨(i, o), by simp, h.1.1, h.1.2⟩
    | tail _ hp =>
      obtain ⟨x, hx, hw⟩ := chainOk_waits h.2 p hp
      exact ⟨x, by rcases List.mem_cons.1 hx with h1 | h1 <;> simp [h1], hw⟩
theorem QK.out {ops' : List Oper} {Hq : HP} {K : Env → Env → List (Nat × Oper) → Prop} : ∀ (l : List Oper) (i : Nat) (ve τ : Env) (ch : List (Nat × Oper)), (∀ j, i ≤ j → lk ve j = none) → QK P cx ops' σ fz Hq K i l ve τ ch →
    ∃ VE τF ch', VExt ve VE ∧ K VE τF (ch ++ ch') ∧ (∀ p ∈ ch', i ≤ p.1 ∧ l[p.1 - i]? = some p.2) ∧
      (∀ j, (j < i ∨ (∃ p ∈ ch', p.1 = j)) → lk VE j = lk ve j) ∧
      (∀ (k : Nat) (o : Oper), l[k]? = some o → (∃ p ∈ ch', p.1 = i + k) ∨ ((∀ p ∈ ch', p.1 ≠ i + k) ∧ ∃ v, lk VE (i + k) = some v ∧ QOk P cx ops' o σ VE fz Hq v)) ∧
      (∀ s v, lk τF s = some v → (∃ (k : Nat) (o : Oper), l[k]? = some o ∧ o.dst = some s ∧ lk VE (i + k) = some v) ∨ (lk τ s = some v ∧ ∀ (k : Nat) (o : Oper), l[k]? = some o → (∀ p ∈ ch', p.1 ≠ i + k) → o.dst ≠ some s))
  | [], i, ve, τ, ch, _, h => ⟨ve, τ, [], fun _ _ h => h, by simpa [QK] using h, by simp, by simp, by simp, fun s v hs => .inr ⟨hs, by simp⟩⟩
  | o :: l, i, ve, τ, ch, hve, h => by
    rcases h with ⟨v, hq, hr⟩ | hr
    · have hx : VExt ve ((i, v) :: ve) := by
        intro j u hj
        by_cases he : i = j
        · subst he; rw [hve i (Nat.le_refl _)] at hj; cases hj
        · rw [lk_cons_ne v ve he]; exact hj
      obtain ⟨VE, τF, ch', h1, h2, h3, h3b, h4, h5⟩ := QK.out l (i + 1) ((i, v) :: ve) _ ch (fun j hj => by rw [lk_cons_ne v ve (by omega)]; exact hve j (by omega)) hr
      have hv : lk VE i = some v := h1 i v (lk_cons_same i v ve)
      have hvx : VExt ve VE := fun j u hj => h1 j u (hx j u hj)
      refine ⟨VE, τF, ch', hvx, h2, fun p hp => ?_, fun j hj => ?_, fun k o' hk => ?_, fun s u hs => ?_⟩
      · obtain ⟨g1, g2⟩ := h3 p hp
        exact ⟨by omega, by rw [show p.1 - i = (p.1 - (i + 1)) + 1 from by omega]; simpa using g2⟩
      · have hne : i ≠ j := by
          rcases hj with hj | ⟨p, hp, hj⟩
          · omega
          · have := (h3 p hp).1; omega
        rw [h3b j (by rcases hj with hj | hj; exact .inl (by omega); exact .inr hj), lk_cons_ne v ve hne]
      · cases k with
        | zero =>
          simp at hk; subst hk
          exact .inr ⟨fun p hp => by have := (h3 p hp).1; omega, v, hv, hq.ext hvx⟩
        | succ k =>
          rcases h4 k o' (by simpa using hk) with ⟨p, hp, he⟩ | ⟨hn, u, hu, hqu⟩
          · exact .inl ⟨p, hp, by omega⟩
          · exact .inr ⟨fun p hp => by have := hn p hp; omega, u, by rw [← hu]; congr 1; omega, hqu⟩
      · rcases h5 s u hs with ⟨k, o', hk, hd, hl⟩ | ⟨hl, hn⟩
        · exact .inl ⟨k + 1, o', by simpa using hk, hd, by rw [← hl]; congr 1; omega⟩
        · cases hd : o.dst with
          | none =>
            simp only [hd] at hl
            refine .inr ⟨hl, fun k o' hk hp => ?_⟩
            cases k with
            | zero => simp at hk; subst hk; simp [hd]
            | succ k => exact hn k o' (by simpa using hk) (fun p hp' => by have := hp p hp'; omega)
          | some d =>
            simp only [hd] at hl
            by_cases he : d = s
            · subst he
              rw [lk_cons_same] at hl
              exact .inl ⟨0, o, by simp, hd, by simpa using hv.trans hl⟩
            · rw [lk_cons_ne v τ he] at hl
              refine .inr ⟨hl, fun k o' hk hp => ?_⟩
              cases k with
              | zero => simp at hk; subst hk; rw [hd]; simpa using he
              | succ k => exact hn k o' (by simpa using hk) (fun p hp' => by have := hp p hp'; omega)
    · obtain ⟨VE, τF, ch', h1, h2, h3, h3b, h4, h5⟩ := QK.out l (i + 1) ve τ (ch ++ [(i, o)]) (fun j hj => hve j (by omega)) hr
      refine ⟨VE, τF, (i, o) :: ch', h1, by simpa using h2, fun p hp => ?_, fun j hj => ?_, fun k o' hk => ?_, fun s u hs => ?_⟩
      · cases hp with
        | head => simp
        | tail _ hp =>
          obtain ⟨g1, g2⟩ := h3 p hp
          exact ⟨by omega, by rw [show p.1 - i = (p.1 - (i + 1)) + 1 from by omega]; simpa using g2⟩
      · rcases hj with hj | ⟨p, hp, hj⟩
        · exact h3b j (.inl (by omega))
        · cases hp with
          | head => exact h3b j (.inl (by simp at hj; omega))
          | tail _ hp => exact h3b j (.inr ⟨p, hp, hj⟩)
      · cases k with
        | zero => exact .inl ⟨(i, o), by simp, by simp⟩
        | succ k =>
          rcases h4 k o' (by simpa using hk) with ⟨p, hp, he⟩ | ⟨hn, u, hu, hqu⟩
          · exact .inl ⟨p, by simp [hp], by omega⟩
          · refine .inr ⟨fun p hp => ?_, u, by rw [← hu]; congr 1; omega, hqu⟩
            cases hp with
            | head => simp
            | tail _ hp => have := hn p hp; omega
      · rcases h5 s u hs with ⟨k, o', hk, hd, hl⟩ | ⟨hl, hn⟩
        · exact .inl ⟨k + 1, o', by simpa using hk, hd, by rw [← hl]; congr 1; omega⟩
        · refine .inr ⟨hl, fun k o' hk hp => ?_⟩
          cases k with
          | zero => exact absurd rfl (hp (i, o) (by simp))
          | succ k => exact hn k o' (by simpa using hk) (fun p hp' => by have := hp p (by simp [hp']); omega)
theorem Inv.keep {Hq : HP} {fz' : FZ} {H' : HP} {w w1 : World} (h : Inv cx fz Hq w1) (h' : Inv cx fz' H' w) (hk : Keep fz Hq fz' H') : Inv cx fz Hq w :=
  ⟨⟨fun b o hb => h'.hp.keep b o (hk.1 b o hb), fun p hp => ⟨(h'.hp.own p (hk.2 p hp)).1, (h.hp.own p hp).2⟩, h.hp.nd⟩, h'.fr, h.nw⟩
theorem Wp.drawK {id : Nat} {l : List Oper} {Hq : HP} (hm : P.follows .mixedOrders = true) (hB : okFrom n l 0 [] = true) (hG : guardsOk l = true) (hHq : Hq.Sublist H)
    (h : QK P cx l σ fz Hq (fun ve τ ch => chainOk ch = true ∧ Ch P cx l σ ve fz Hq Q ch ch false [] τ fz H) 0 l [] σ []) : Wp P cx n (.region id l.toArray true) σ fz H Q := by
  intro a w hs hi
  obtain ⟨VE, τF, ch, _, hK, hch, hVEch, hq, hτ⟩ := QK.out l 0 [] σ [] (fun _ _ => rfl) h
  simp only [Nat.zero_add, List.nil_append, Nat.sub_zero] at hq hτ hK hch
  obtain ⟨hcok, hCh⟩ := hK
  have hedge := okFrom_edges (n := n) l 0 [] hB
  have hdst := okFrom_dst (n := n) l 0 [] hB
  simp only [Nat.zero_add] at hedge
  have hops : ∀ k : Nat, (l.toArray)[k]? = l[k]? := fun k => by simp
  have hi0 : Inv cx fz Hq w := hi.forget hHq
  -- a quiet operation's number
  let isQ : Nat → Prop := fun k => ∀ p ∈ ch, p.1 ≠ k
  -- what holds at every point: 'rest' of the chain is to come
  let A : Array Bool → Act → World → Prop := fun listed a w => ∃ pre rest done cv τ fzs Hs, ch = pre ++ rest ∧ Ch P cx l σ VE fz Hq Q ch rest done cv τ fzs Hs ∧ Inv cx fzs Hs w ∧
    a.tmps.size = n ∧ a.defers = [] ∧ listed.size = l.length ∧
    ((∀ s v, lk σ s = some v → (∀ (k : Nat) (o : Oper), l[k]? = some o → o.dst = some s → listed.getD k true = false) → a.tmps[s]? = some v) ∧
      (∀ (k : Nat) (o : Oper), l[k]? = some o → listed.getD k true = true → ∀ m, waits o m = true → listed.getD m true = true)) ∧
    (∀ (k : Nat) (o : Oper) (d : Nat) (v : Value), l[k]? = some o → o.dst = some d → isQ k → listed.getD k true = true → lk VE k = some v → a.tmps[d]? = some v) ∧
    (∀ p ∈ pre, listed.getD p.1 true = true ∧ ∃ v, lk cv p.1 = some v ∧ ∀ d, p.2.dst = some d → a.tmps[d]? = some v) ∧
    (∀ p ∈ rest, listed.getD p.1 true = false ∧ lk cv p.1 = none) ∧
    (∀ j v, lk cv j = some v → ∃ p ∈ pre, p.1 = j) ∧
    (Keep fz Hq fzs Hs ∨ (∀ k, k < l.length → isQ k → listed.getD k true = true)) ∧
    (done = true → ∀ k, k < l.length → isQ k → listed.getD k true = true) ∧
    (∀ s v, lk τ s = some v → (∃ (k : Nat) (o : Oper), l[k]? = some o ∧ o.dst = some s ∧ isQ k ∧ lk VE k = some v) ∨ (∃ p ∈ pre, p.2.dst = some s ∧ lk cv p.1 = some v) ∨
      (lk σ s = some v ∧ (∀ (k : Nat) (o : Oper), l[k]? = some o → isQ k → o.dst ≠ some s) ∧ ∀ p ∈ pre, p.2.dst ≠ some s))
  have hall : ∀ (listed : Array Bool), listed.size = l.length → Region.ready .any l.toArray listed = [] → ∀ k, k < l.length → listed.getD k true = true := by
    intro listed hsz hr k
    induction k using Nat.strongRecOn with
    | _ k ih =>
      intro hk
      cases hl : listed.getD k true with
      | true => rfl
      | false =>
        exfalso
        have hmem : k ∈ Region.ready .any l.toArray listed := by
          unfold Region.ready
          simp only [List.mem_filter, List.mem_range, List.size_toArray, hk, true_and, hl, Bool.not_false, Bool.true_and]
          rw [hops k, List.getElem?_eq_getElem hk]
          simp only [Option.map_some, Option.getD_some, Array.all_eq_true_iff_forall_mem]
          intro e he
          cases hb : Region.binds .any e with
          | false => rfl
          | true =>
            have h1 := hedge k l[k] (List.getElem?_eq_getElem hk) e he hb
            have h2 := ih e.on (by omega) (by omega)
            have h3 : e.on < listed.size := by omega
            simp only [Bool.not_true, Bool.false_or]
            simpa [Array.getD, h3] using h2
        rw [hr] at hmem
        cases hmem
  have hfin : ∀ listed a w, A listed a w → Region.ready .any l.toArray listed = [] → lift cx n Q .normal a w := by
    rintro listed a w ⟨pre, rest, done, cv, τ, fzs, Hs, e0, hC, a1, a2, a3, a4, ⟨a5, _⟩, a6, a7, a8, a9, a10, a11, a12⟩ hr
    have hrest : rest = [] := by
      cases rest with
      | nil => rfl
      | cons p r =>
        have h1 := (a8 p (by simp)).1
        have h2 := hch p (by rw [e0]; simp)
        have h3 := hall listed a4 hr p.1 (List.getElem?_eq_some_iff.1 h2.2).1
        rw [h1] at h3; cases h3
    subst hrest
    refine ⟨τ, fzs, Hs, ⟨a2, a3, fun s v hsv => ?_⟩, a1, hC⟩
    rcases a12 s v hsv with ⟨k, o, hk, hd, hqk, hv⟩ | ⟨p, hp, hd, hv⟩ | ⟨hv, hn1, hn2⟩
    · exact a6 k o s v hk hd hqk (hall listed a4 hr k (List.getElem?_eq_some_iff.1 hk).1) hv
    · obtain ⟨_, u, hu, hdu⟩ := a7 p hp
      rw [hv] at hu; injection hu with hu; subst hu
      exact hdu s hd
    · refine a5 s v hv fun k o hk hd => absurd hd (show o.dst ≠ some s from fun hd => ?_)
      by_cases hqk : ∀ p ∈ ch, p.1 ≠ k
      · exact hn1 k o hk hqk hd
      · simp only [Classical.not_forall, Classical.not_not] at hqk
        obtain ⟨p, hp, he⟩ := hqk
        have := (hch p hp).2
        rw [he, hk] at this; injection this with this
        subst this
        rw [List.append_nil] at e0
        exact hn2 p (by rw [← e0]; exact hp) hd
  have main : ∀ (fuel : Nat) (listed : Array Bool) (a : Act) (w : World), (List.range l.length).countP (fun i => !listed.getD i true) ≤ fuel → A listed a w → wpAny P .any l.toArray (lift cx n Q) fuel listed a w := by
    intro fuel
    induction fuel with
    | zero =>
      intro listed a w hc hA
      have hr : Region.ready .any l.toArray listed = [] := by
        unfold Region.ready
        rw [List.filter_eq_nil_iff]
        intro k hk
        have : (List.range l.length).countP (fun i => !listed.getD i true) = 0 := by omega
        rw [List.countP_eq_zero] at this
        have := this k (by simpa using hk)
        simp only [Bool.not_eq_true, Bool.not_eq_false'] at this
        simp only [this]; simp
      exact ⟨hr, hfin listed a w hA hr⟩
    | succ fuel ih =>
      intro listed a w hc hA
      refine ⟨fun hr => hfin listed a w hA hr, fun i hir => ?_⟩
      obtain ⟨pre, rest, done, cv, τ, fzs, Hs, e0, hC, a1, a2, a3, a4, ⟨a5, a13⟩, a6, a7, a8, a9, a10, a11, a12⟩ := hA
      unfold Region.ready at hir
      simp only [List.mem_filter, List.mem_range, List.size_toArray, Bool.and_eq_true, Bool.not_eq_true'] at hir
      obtain ⟨hil, hun, hrdy⟩ := hir
      have hio : l[i]? = some l[i] := List.getElem?_eq_getElem hil
      rw [hops i, hio] at hrdy
      simp only [Option.map_some, Option.getD_some, Array.all_eq_true_iff_forall_mem] at hrdy
      have hilt : i < listed.size := by omega
      have hdone : ∀ j, waits l[i] j = true → listed.getD j true = true ∧ j < l.length := by
        intro j hj
        unfold waits at hj
        obtain ⟨e, he, hej⟩ := List.any_eq_true.1 hj
        simp only [Bool.and_eq_true] at hej
        have h1 := hrdy e (by simpa using he)
        rw [hej.2] at h1
        have h2 : e.on = j := Nat.eq_of_beq_eq_true hej.1
        have h3 := hedge i l[i] hio e (by simpa using he) hej.2
        simp only [Bool.not_true, Bool.false_or] at h1
        have h5 : j < listed.size := by omega
        subst h2
        exact ⟨by simpa [Array.getD, h5] using h1, by omega⟩
      have hother : ∀ k, k ≠ i → (listed.setIfInBounds i true).getD k true = listed.getD k true := by
        intro k hk
        simp only [Array.getD_eq_getD_getElem?]
        rw [Array.getElem?_setIfInBounds_ne (by omega)]
      have hsame : (listed.setIfInBounds i true).getD i true = true := by simp [Array.getD, hilt]
      have hmono : ∀ k, listed.getD k true = true → (listed.setIfInBounds i true).getD k true = true := by
        intro k hk
        by_cases he : k = i
        · subst he; exact hsame
        · rw [hother k he]; exact hk
      have hcount : (List.range l.length).countP (fun j => !(listed.setIfInBounds i true).getD j true) ≤ fuel := by
        have := countP_lt (p := fun j => !listed.getD j true) (q := fun j => !(listed.setIfInBounds i true).getD j true) (List.range l.length) i (by simpa using hil) (fun j hj => by
          by_cases hji : j = i
          · subst hji; rw [hsame] at hj; cases hj
          · rw [hother j hji] at hj; exact hj) (by simp only [hun, Bool.not_false]) (by rw [hsame]; rfl)
        omega
      have putOther : ∀ (v : Value) (s : Nat) (u : Value), a.tmps[s]? = some u → l[i].dst ≠ some s → (a.put l[i].dst v).tmps[s]? = some u := by
        intro v s u hu hne
        cases hd : l[i].dst with
        | none => exact hu
        | some d =>
          have : d ≠ s := fun he => hne (by rw [hd, he])
          simp only [Act.put]
          rw [Array.getElem?_setIfInBounds_ne this]
          exact hu
      have putSame : ∀ (v : Value) (s : Nat), l[i].dst = some s → (a.put l[i].dst v).tmps[s]? = some v := by
        intro v s hd
        rw [hd]
        simp [Act.put, a2, (hdst i _ s hio hd).1]
      have putSize : ∀ v, (a.put l[i].dst v).tmps.size = n := by intro v; cases hd : l[i].dst <;> simp [Act.put, a2]
      have putDef : ∀ v, (a.put l[i].dst v).defers = [] := by intro v; cases hd : l[i].dst <;> simp [Act.put, a3]
      have dstNe : ∀ (k : Nat) (o : Oper) (d : Nat), l[k]? = some o → o.dst = some d → k ≠ i → l[i].dst ≠ some d := fun k o d hk hd hki hc => hki ((hdst i _ d hio hc).2.2 k o hk hd)
      have hlate : ∀ j t, whose l t 0 = some j → lastB l j = true → ∀ (k : Nat) (o : Oper), l[k]? = some o → o.dst = some t → listed.getD k true = false := by
        intro j t hw hlb k o hk hd
        obtain ⟨kj, oj, hkj, hoj, hdj⟩ := whose_some l t 0 j hw
        simp only [Nat.zero_add] at hkj
        subst hkj
        have hke : k = j := (hdst j oj t hoj hdj).2.2 k o hk hd
        subst hke
        obtain ⟨q, hq1, hq2⟩ := lastB_s hlb
        cases hls : listed.getD k true with
        | false => rfl
        | true =>
          rcases hq2 i hil with h1 | h1
          · subst h1; rw [hls] at hun; cases hun
          · have := a13 k q hq1 hls i h1; rw [hun] at this; cases this
      have a5n : ∀ (v : Value) (s : Nat) (u : Value), lk σ s = some u → (∀ (k : Nat) (o : Oper), l[k]? = some o → o.dst = some s → (listed.setIfInBounds i true).getD k true = false) → (a.put l[i].dst v).tmps[s]? = some u := by
        intro v s u hsu hn
        refine putOther v s u (a5 s u hsu (fun k o hk hd => ?_)) (fun hd => ?_)
        · by_cases he : k = i
          · subst he; have := hn k o hk hd; rw [hsame] at this; cases this
          · rw [← hother k he]; exact hn k o hk hd
        · have := hn i l[i] hio hd; rw [hsame] at this; cases this
      have a13n : ∀ (k : Nat) (o : Oper), l[k]? = some o → (listed.setIfInBounds i true).getD k true = true → ∀ m, waits o m = true → (listed.setIfInBounds i true).getD m true = true := by
        intro k o hk hls m hm
        by_cases he : k = i
        · subst he
          have : o = l[k] := by rw [hio] at hk; injection hk with hk; exact hk.symm
          subst this
          exact hmono m (hdone m hm).1
        · rw [hother k he] at hls
          exact hmono m (a13 k o hk hls m hm)
      have hyield : ∀ j b, l[i].guard = some (j, b) → waits l[i] j = true → ∀ c, lk VE j = some c → yielded l.toArray a.tmps j = asB c := by
        intro j b hg hwt c hc
        obtain ⟨h1, h2⟩ := hdone j hwt
        have hqj : isQ j := fun p hp he => by
          have := hVEch j (.inr ⟨p, hp, he⟩)
          rw [hc] at this; cases this
        unfold yielded
        rw [hops j, List.getElem?_eq_getElem h2]
        cases hd : l[j].dst with
        | none =>
          have h7 := List.all_eq_true.1 hG l[i] (List.getElem_mem hil)
          simp [hg, List.getElem?_eq_getElem h2, hd] at h7
        | some d =>
          have := a6 j l[j] d _ (List.getElem?_eq_getElem h2) hd hqj h1 hc
          simp only [Option.bind_some, hd, this]
          cases c <;> rfl
      have hwantB : ∀ c, wantq l[i] VE = some c → Region.wanted l[i] (yielded l.toArray a.tmps) = c := by
        intro c hw1
        unfold Region.wanted
        unfold wantq at hw1
        cases hg : l[i].guard with
        | none => simp only [hg] at hw1; injection hw1
        | some jb =>
          obtain ⟨j, b⟩ := jb
          simp only
          simp only [hg] at hw1
          cases hwt : waits l[i] j with
          | false => simp [hwt] at hw1
          | true =>
            simp only [hwt] at hw1
            split at hw1
            · rename_i c hc
              rw [hyield j b hg hwt c hc]
              exact Option.some.inj hw1
            · cases hw1
      unfold wpOp
      rw [hops i, hio]
      simp only
      by_cases hqi : ∀ p ∈ ch, p.1 ≠ i
      · -- a quiet operation
        obtain ⟨v, hv, hqv⟩ : ∃ v, lk VE i = some v ∧ QOk P cx l l[i] σ VE fz Hq v := by
          rcases hq i l[i] hio with ⟨p, hp, he⟩ | ⟨_, h1⟩
          · exact absurd he (hqi p hp)
          · exact h1
        have hkeep : Inv cx fz Hq w := by
          rcases a10 with h1 | h1
          · exact hi0.keep a1 h1
          · have := h1 i hil hqi; rw [hun] at this; cases this
        have hreads : Reads (rdq l l[i] σ VE) a.eval := by
          intro x u hx
          cases x with
          | tmp t =>
            unfold rdq at hx
            cases hw : whose l t 0 with
            | none =>
              simp only [hw] at hx
              have := a5 t u hx (fun k o hk hd => absurd hd (whose_none l t 0 hw k o hk))
              simp [Act.eval, this]
            | some j =>
              simp only [hw] at hx
              cases hwt : waits l[i] j with
              | false =>
                simp only [hwt] at hx
                cases hlb : lastB l j with
                | false => simp [hlb] at hx
                | true =>
                  simp only [hlb] at hx
                  have := a5 t u hx (hlate j t hw hlb)
                  simp [Act.eval, this]
              | true =>
                simp only [hwt] at hx
                obtain ⟨k, o, rfl, hk, hd⟩ := whose_some l t 0 j hw
                simp only [Nat.zero_add] at *
                have hqk : isQ k := fun p hp he => by
                  have := hVEch k (.inr ⟨p, hp, he⟩)
                  rw [hx] at this; cases this
                have := a6 k o t u hk hd hqk (hdone k hwt).1 hx
                simp [Act.eval, this]
          | const c => injection hx
          | global g => injection hx
          | func f => injection hx
        have hnext : ∀ w', Fr [] w w' → A (listed.setIfInBounds i true) (a.put l[i].dst v) w' := by
          intro w' hw'
          refine ⟨pre, rest, done, cv, τ, fzs, Hs, e0, hC, a1.quiet hw', putSize v, putDef v, by simpa using a4, ⟨a5n v, a13n⟩, fun k o d u hk hd hqk hls hu => ?_, fun p hp => ?_, fun p hp => ?_, a9, ?_, fun hd k hk hqk => hmono k (a11 hd k hk hqk), a12⟩
          · by_cases hki : k = i
            · subst hki
              have : o = l[k] := by rw [hio] at hk; injection hk with hk; exact hk.symm
              subst this
              rw [hv] at hu; injection hu with hu; subst hu
              exact putSame v d hd
            · rw [hother k hki] at hls
              exact putOther v d u (a6 k o d u hk hd hqk hls hu) (dstNe k o d hk hd hki)
          · obtain ⟨h1, u, h2, h3⟩ := a7 p hp
            have hpi : p.1 ≠ i := hqi p (by rw [e0]; simp [hp])
            exact ⟨hmono _ h1, u, h2, fun d hd => putOther v d u (h3 d hd) (dstNe p.1 p.2 d (hch p (by rw [e0]; simp [hp])).2 hd hpi)⟩
          · have hpi : p.1 ≠ i := hqi p (by rw [e0]; simp [hp])
            obtain ⟨h1, h2⟩ := a8 p hp
            exact ⟨by rw [hother _ hpi]; exact h1, h2⟩
          · rcases a10 with h1 | h1
            · exact .inl h1
            · exact .inr fun k hk hqk => hmono k (h1 k hk hqk)
        rcases hqv with ⟨hw1, hw2⟩ | ⟨hw1, hw2⟩
        · have hwant : Region.wanted l[i] (yielded l.toArray a.tmps) = true := by
            unfold Region.wanted
            cases hg : l[i].guard with
            | none => rfl
            | some jb =>
              obtain ⟨j, b⟩ := jb
              simp only
              unfold wantq at hw1
              simp only [hg] at hw1
              cases hwt : waits l[i] j with
              | false => simp [hwt] at hw1
              | true =>
                simp only [hwt] at hw1
                split at hw1
                · rename_i c hc
                  rw [hyield j b hg hwt c hc]
                  exact Option.some.inj hw1
                · cases hw1
          rw [if_pos hwant]
          exact .inl (OpPost.wp ((hw2 a.eval w hreads hkeep).mono fun v' w' ⟨he, hw'⟩ => by subst he; exact ih _ _ _ hcount (hnext w' hw')))
        · have hwant : Region.wanted l[i] (yielded l.toArray a.tmps) = false := by
            unfold Region.wanted
            unfold wantq at hw1
            cases hg : l[i].guard with
            | none => simp [hg] at hw1
            | some jb =>
              obtain ⟨j, b⟩ := jb
              simp only
              simp only [hg] at hw1
              cases hwt : waits l[i] j with
              | false => simp [hwt] at hw1
              | true =>
                simp only [hwt] at hw1
                split at hw1
                · rename_i c hc
                  rw [hyield j b hg hwt c hc]
                  exact Option.some.inj hw1
                · cases hw1
          rw [if_neg (by simp [hwant])]
          subst hw2
          exact ih _ _ _ hcount (hnext w (Fr.refl _ _))
      · -- the chain's next operation
        simp only [Classical.not_forall, Classical.not_not] at hqi
        obtain ⟨p, hp, hpi⟩ := hqi
        have hpl := (hch p hp).2
        rw [hpi, hio] at hpl
        injection hpl with hpl
        have hprest : p ∈ rest := by
          rw [e0] at hp
          rcases List.mem_append.1 hp with h1 | h1
          · have := (a7 p h1).1; rw [hpi, hun] at this; cases this
          · exact h1
        cases rest with
        | nil => cases hprest
        | cons q r =>
          have hcr : chainOk (q :: r) = true := by
            clear hC a7 a8 a9 a12 hprest
            have : ∀ (pre : List (Nat × Oper)), chainOk (pre ++ q :: r) = true → chainOk (q :: r) = true := by
              intro pre
              induction pre with
              | nil => exact fun h => h
              | cons x pre ihp => exact fun h => ihp (chainOk_tail h)
            exact this pre (e0 ▸ hcok)
          obtain ⟨qi, qo⟩ := q
          have hpq : p = (qi, qo) := by
            cases hprest with
            | head => rfl
            | tail _ hpr =>
              obtain ⟨x, hx, hw, hlt⟩ := chainOk_waits hcr p hpr
              rw [← hpl] at hw
              have h1 := (hdone x.1 hw).1
              have h2 := (a8 x hx).1
              rw [h2] at h1; cases h1
          subst hpq
          simp only at hpi hpl
          subst hpi
          have hreads : Reads (rdc l l[qi] σ VE cv) a.eval := by
            intro x u hx
            cases x with
            | tmp t =>
              unfold rdc at hx
              cases hw : whose l t 0 with
              | none =>
                simp only [hw] at hx
                have := a5 t u hx (fun k o hk hd => absurd hd (whose_none l t 0 hw k o hk))
                simp [Act.eval, this]
              | some j =>
                simp only [hw] at hx
                cases hwt : waits l[qi] j with
                | false =>
                  simp only [hwt] at hx
                  cases hlb : lastB l j with
                  | false => simp [hlb] at hx
                  | true =>
                    simp only [hlb] at hx
                    have := a5 t u hx (hlate j t hw hlb)
                    simp [Act.eval, this]
                | true =>
                  simp only [hwt] at hx
                  obtain ⟨k, o, rfl, hk, hd⟩ := whose_some l t 0 j hw
                  simp only [Nat.zero_add] at *
                  cases hcv : lk cv k with
                  | some u' =>
                    simp only [hcv] at hx
                    injection hx with hx
                    subst hx
                    obtain ⟨x, hx, hxk⟩ := a9 k u' hcv
                    obtain ⟨_, u2, hu2, hd2⟩ := a7 x hx
                    rw [hxk, hcv] at hu2
                    injection hu2 with hu2
                    subst hu2
                    have hxl := (hch x (by rw [e0]; simp [hx])).2
                    rw [hxk, hk] at hxl
                    injection hxl with hxl
                    have := hd2 t (by rw [← hxl]; exact hd)
                    simp [Act.eval, this]
                  | none =>
                    simp only [hcv] at hx
                    have hqk : isQ k := fun p hp he => by
                      have := hVEch k (.inr ⟨p, hp, he⟩)
                      rw [hx] at this; cases this
                    have := a6 k o t u hk hd hqk (hdone k hwt).1 hx
                    simp [Act.eval, this]
            | const c => injection hx
            | global g => injection hx
            | func f => injection hx
          have hstep := hC
          unfold Ch at hstep
          rw [← hpl] at hstep
          have nextA : ∀ (v : Value) (fz' : FZ) (H' : HP) (w' : World), Inv cx fz' H' w' → ((done || allq l ch l[qi]) = true ∨ Keep fz Hq fz' H' ∨ (fz' = fzs ∧ H' = Hs)) →
              Ch P cx l σ VE fz Hq Q ch r (done || allq l ch l[qi]) ((qi, v) :: cv) (match l[qi].dst with | some d => (d, v) :: τ | none => τ) fz' H' → A (listed.setIfInBounds qi true) (a.put l[qi].dst v) w' := by
           intro v fz' H' w' hinv hst hrest
           refine ⟨pre ++ [(qi, qo)], r, _, (qi, v) :: cv, _, fz', H', by rw [e0]; simp, hrest, hinv, putSize v, putDef v, by simpa using a4, ⟨a5n v, a13n⟩, fun k o d u hk hd hqk hls hu => ?_, fun x hx => ?_, fun x hx => ?_, fun j u hj => ?_, ?_, fun hd k hk hqk => ?_, fun s u hs => ?_⟩
           · have hki : k ≠ qi := fun he => hqk (qi, qo) hp he.symm
             rw [hother k hki] at hls
             exact putOther v d u (a6 k o d u hk hd hqk hls hu) (dstNe k o d hk hd hki)
           · rcases List.mem_append.1 hx with hx | hx
             · obtain ⟨h1, u, h2, h3⟩ := a7 x hx
               have hne : x.1 ≠ qi := fun he => by rw [he, hun] at h1; cases h1
               exact ⟨hmono _ h1, u, by rw [lk_cons_ne v cv (by omega)]; exact h2, fun d hd => putOther v d u (h3 d hd) (dstNe x.1 x.2 d (hch x (by rw [e0]; simp [hx])).2 hd hne)⟩
             · simp only [List.mem_singleton] at hx
               subst hx
               exact ⟨hsame, v, lk_cons_same _ _ _, fun d hd => putSame v d (by rw [hpl]; exact hd)⟩
           · obtain ⟨h1, h2⟩ := a8 x (by simp [hx])
             have hne : x.1 ≠ qi := by have := chainOk_lt hcr x hx; omega
             exact ⟨by rw [hother _ hne]; exact h1, by rw [lk_cons_ne v cv (by omega)]; exact h2⟩
           · by_cases he : qi = j
             · exact ⟨(qi, qo), by simp, he⟩
             · rw [lk_cons_ne v cv he] at hj
               obtain ⟨x, hx, hxj⟩ := a9 j u hj
               exact ⟨x, by simp [hx], hxj⟩
           · rcases hst with hst | hst
             · right
               intro k hk hqk
               cases hdn : done with
               | true => exact hmono k (a11 hdn k hk hqk)
               | false =>
                 rw [hdn, Bool.false_or] at hst
                 unfold allq at hst
                 have := List.all_eq_true.1 hst k (by simpa using hk)
                 rw [Bool.or_eq_true] at this
                 rcases this with h1 | h1
                 · unfold inCh at h1
                   obtain ⟨x, hx, hxk⟩ := List.any_eq_true.1 h1
                   exact absurd (Nat.eq_of_beq_eq_true hxk) (hqk x hx)
                 · exact hmono k (hdone k h1).1
             · rcases hst with hst | ⟨h1, h2⟩
               · exact .inl hst
               · subst h1 h2
                 rcases a10 with h3 | h3
                 · exact .inl h3
                 · exact .inr fun k hk hqk => hmono k (h3 k hk hqk)
           · rw [Bool.or_eq_true] at hd
             rcases hd with hd | hd
             · exact hmono k (a11 hd k hk hqk)
             · unfold allq at hd
               have := List.all_eq_true.1 hd k (by simpa using hk)
               rw [Bool.or_eq_true] at this
               rcases this with h1 | h1
               · unfold inCh at h1
                 obtain ⟨x, hx, hxk⟩ := List.any_eq_true.1 h1
                 exact absurd (Nat.eq_of_beq_eq_true hxk) (hqk x hx)
               · exact hmono k (hdone k h1).1
           · have hcvx : ∀ x ∈ pre, lk ((qi, v) :: cv) x.1 = lk cv x.1 := by
               intro x hx
               have h1 := (a7 x hx).1
               have hne : x.1 ≠ qi := fun he => by rw [he, hun] at h1; cases h1
               exact lk_cons_ne v cv (by omega)
             cases hd : l[qi].dst with
             | none =>
               simp only [hd] at hs
               rcases a12 s u hs with h1 | ⟨x, hx, hxd, hxv⟩ | ⟨h1, h2, h3⟩
               · exact .inl h1
               · exact .inr (.inl ⟨x, by simp [hx], hxd, by rw [hcvx x hx]; exact hxv⟩)
               · refine .inr (.inr ⟨h1, h2, fun x hx => ?_⟩)
                 rcases List.mem_append.1 hx with hx | hx
                 · exact h3 x hx
                 · simp only [List.mem_singleton] at hx
                   subst hx
                   simp only [← hpl, hd]; simp
             | some d =>
               simp only [hd] at hs
               by_cases he : d = s
               · subst he
                 rw [lk_cons_same] at hs
                 exact .inr (.inl ⟨(qi, qo), by simp, by rw [← hpl]; exact hd, by rw [lk_cons_same]; exact hs⟩)
               · rw [lk_cons_ne v τ he] at hs
                 rcases a12 s u hs with h1 | ⟨x, hx, hxd, hxv⟩ | ⟨h1, h2, h3⟩
                 · exact .inl h1
                 · exact .inr (.inl ⟨x, by simp [hx], hxd, by rw [hcvx x hx]; exact hxv⟩)
                 · refine .inr (.inr ⟨h1, h2, fun x hx => ?_⟩)
                   rcases List.mem_append.1 hx with hx | hx
                   · exact h3 x hx
                   · simp only [List.mem_singleton] at hx
                     subst hx
                     simp only [← hpl, hd]
                     intro hc; injection hc with hc; exact he hc
          rcases hstep with ⟨hw1, hdo⟩ | ⟨hw1, hno⟩
          · rw [if_pos (hwantB true hw1)]
            refine .inl (OpPost.wp ((hdo a.eval w hreads a1).mono fun v w' hh => ?_))
            obtain ⟨fz', H', hinv, hst, hrest⟩ := hh
            exact ih _ _ _ hcount (nextA v fz' H' w' hinv (hst.imp (fun h => h) .inl) hrest)
          · rw [if_neg (by rw [hwantB false hw1]; simp)]
            exact ih _ _ _ hcount (nextA undef fzs Hs w a1 (.inr (.inr ⟨rfl, rfl⟩)) hno)
  refine wp_region_any hm (main _ _ _ _ ?_ ⟨[], ch, false, [], τF, fz, H, by simp, hCh, hi.drew, hs.size, hs.defers, by simp, ⟨fun s v hv _ => hs.slot s v hv, fun k o hk hls => ?_⟩, fun k o d v hk hd _ hls => ?_, by simp, fun p hp => ⟨?_, rfl⟩, (fun j v hj => by cases hj), .inl ⟨Le.refl _, fun p hp => hHq.subset hp⟩, (fun h => by cases h), fun s v hsv => ?_⟩)
  · have := List.countP_le_length (p := fun i => !(Array.replicate l.toArray.size false).getD i true) (l := List.range l.length)
    simpa using this
  · have : k < l.length := (List.getElem?_eq_some_iff.1 hk).1
    simp [Array.getD, this] at hls
  · have : k < l.length := (List.getElem?_eq_some_iff.1 hk).1
    simp [Array.getD, this] at hls
  · have : p.1 < l.length := (List.getElem?_eq_some_iff.1 (hch p hp).2).1
    simp [Array.getD, this]
  · rcases hτ s v hsv with ⟨k, o, hk, hd, hl⟩ | ⟨hl, hn⟩
    · refine .inl ⟨k, o, hk, hd, fun p hp he => ?_, hl⟩
      have := hVEch k (.inr ⟨p, hp, he⟩)
      rw [hl] at this; cases this
    · exact .inr (.inr ⟨hl, fun k o hk hqk => hn k o hk hqk, by simp⟩)
section
variable {Hq : HP} {K : Env → Env → List (Nat × Oper) → Prop} {σ' τ ve cv : Env} {l : List Oper} {ch all : List (Nat × Oper)} {i d : Nat} {op : Op} {ty : TypeId} {pos : String} {af : Array Edge} {dn : Bool} {fz0 : FZ}
theorem QK.q (h : DoesQ P cx ⟨some d, op, ty, pos, af, none⟩ (rdq l ⟨some d, op, ty, pos, af, none⟩ σ' ve) fz Hq fun v => QK P cx l σ' fz Hq K (i + 1) rest ((i, v) :: ve) ((d, v) :: τ) ch) :
    QK P cx l σ' fz Hq K i (⟨some d, op, ty, pos, af, none⟩ :: rest) ve τ ch := by
  obtain ⟨v, h1, h2⟩ := h
  exact .inl ⟨v, .inl ⟨rfl, h2⟩, h1⟩
theorem QK.later {o : Oper} (h : QK P cx l σ' fz Hq K (i + 1) rest ve τ (ch ++ [(i, o)])) : QK P cx l σ' fz Hq K i (o :: rest) ve τ ch := .inr h
theorem QK.done (h : K ve τ ch) : QK P cx l σ' fz Hq K i [] ve τ ch := h
theorem Ch.done (h : Q .normal τ fz H) : Ch P cx l σ' ve fz0 Hq Q all [] dn cv τ fz H := h
theorem Ch.soft (h : Does P cx ⟨some d, op, ty, pos, af, none⟩ (rdc l ⟨some d, op, ty, pos, af, none⟩ σ' ve cv) fz H fun v fz' H' => Keep fz0 Hq fz' H' ∧ Ch P cx l σ' ve fz0 Hq Q all ch (dn || allq l all ⟨some d, op, ty, pos, af, none⟩) ((i, v) :: cv) ((d, v) :: τ) fz' H') :
    Ch P cx l σ' ve fz0 Hq Q all ((i, ⟨some d, op, ty, pos, af, none⟩) :: ch) dn cv τ fz H := by
  unfold Ch
  refine .inl ⟨rfl, ?_⟩
  intro ρ w hr hi
  exact (h ρ w hr hi).mono fun v w' ⟨fz', H', h1, h2, h3⟩ => ⟨fz', H', h1, .inr h2, h3⟩
theorem Ch.hard0 (hd : (dn || allq l all ⟨none, op, ty, pos, af, none⟩) = true) (h : Does P cx ⟨none, op, ty, pos, af, none⟩ (rdc l ⟨none, op, ty, pos, af, none⟩ σ' ve cv) fz H fun v fz' H' => Ch P cx l σ' ve fz0 Hq Q all ch true ((i, v) :: cv) τ fz' H') :
    Ch P cx l σ' ve fz0 Hq Q all ((i, ⟨none, op, ty, pos, af, none⟩) :: ch) dn cv τ fz H := by
  unfold Ch
  refine .inl ⟨rfl, ?_⟩
  intro ρ w hr hi
  exact (h ρ w hr hi).mono fun v w' ⟨fz', H', h1, h3⟩ => ⟨fz', H', h1, .inl hd, by rw [hd]; exact h3⟩
theorem Ch.q (h : DoesQ P cx ⟨some d, op, ty, pos, af, none⟩ (rdc l ⟨some d, op, ty, pos, af, none⟩ σ' ve cv) fz H fun v => Keep fz0 Hq fz H ∧ Ch P cx l σ' ve fz0 Hq Q all ch (dn || allq l all ⟨some d, op, ty, pos, af, none⟩) ((i, v) :: cv) ((d, v) :: τ) fz H) :
    Ch P cx l σ' ve fz0 Hq Q all ((i, ⟨some d, op, ty, pos, af, none⟩) :: ch) dn cv τ fz H := Ch.soft h.does
theorem QK.yes {g : Nat × Bool} (hw : wantq ⟨some d, op, ty, pos, af, some g⟩ ve = some true) (h : DoesQ P cx ⟨some d, op, ty, pos, af, some g⟩ (rdq l ⟨some d, op, ty, pos, af, some g⟩ σ' ve) fz Hq fun v => QK P cx l σ' fz Hq K (i + 1) rest ((i, v) :: ve) ((d, v) :: τ) ch) :
    QK P cx l σ' fz Hq K i (⟨some d, op, ty, pos, af, some g⟩ :: rest) ve τ ch := by
  obtain ⟨v, h1, h2⟩ := h
  exact .inl ⟨v, .inl ⟨hw, h2⟩, h1⟩
theorem QK.no {g : Nat × Bool} (hw : wantq ⟨some d, op, ty, pos, af, some g⟩ ve = some false) (h : QK P cx l σ' fz Hq K (i + 1) rest ((i, undef) :: ve) ((d, undef) :: τ) ch) :
    QK P cx l σ' fz Hq K i (⟨some d, op, ty, pos, af, some g⟩ :: rest) ve τ ch := .inl ⟨undef, .inr ⟨hw, rfl⟩, h⟩
end
theorem QL.done {σ' : Env} {τ ve : Env} {l : List Oper} {i : Nat} (h : Q .normal τ fz H) : QL P cx l σ' fz H Q i [] ve τ := h
theorem QL.q {σ' τ ve : Env} {l : List Oper} {i d : Nat} {op : Op} {ty : TypeId} {pos : String} {af : Array Edge}
    (h : DoesQ P cx ⟨some d, op, ty, pos, af, none⟩ (rdq l ⟨some d, op, ty, pos, af, none⟩ σ' ve) fz H fun v => QL P cx l σ' fz H Q (i + 1) rest ((i, v) :: ve) ((d, v) :: τ)) :
    QL P cx l σ' fz H Q i (⟨some d, op, ty, pos, af, none⟩ :: rest) ve τ := by
  obtain ⟨v, h1, h2⟩ := h
  exact ⟨v, .inl ⟨rfl, h2⟩, h1⟩
theorem QL.yes {σ' τ ve : Env} {l : List Oper} {i d : Nat} {op : Op} {ty : TypeId} {pos : String} {af : Array Edge} {g : Nat × Bool} (hw : wantq ⟨some d, op, ty, pos, af, some g⟩ ve = some true)
    (h : DoesQ P cx ⟨some d, op, ty, pos, af, some g⟩ (rdq l ⟨some d, op, ty, pos, af, some g⟩ σ' ve) fz H fun v => QL P cx l σ' fz H Q (i + 1) rest ((i, v) :: ve) ((d, v) :: τ)) :
    QL P cx l σ' fz H Q i (⟨some d, op, ty, pos, af, some g⟩ :: rest) ve τ := by
  obtain ⟨v, h1, h2⟩ := h
  exact ⟨v, .inl ⟨hw, h2⟩, h1⟩
theorem QL.no {σ' τ ve : Env} {l : List Oper} {i d : Nat} {op : Op} {ty : TypeId} {pos : String} {af : Array Edge} {g : Nat × Bool} (hw : wantq ⟨some d, op, ty, pos, af, some g⟩ ve = some false)
    (h : QL P cx l σ' fz H Q (i + 1) rest ((i, undef) :: ve) ((d, undef) :: τ)) :
    QL P cx l σ' fz H Q i (⟨some d, op, ty, pos, af, some g⟩ :: rest) ve τ := ⟨undef, .inr ⟨hw, rfl⟩, h⟩
theorem Seq.end_ (h : Q .normal σ fz H) : Seq P cx n ops [] σ fz H Q := Seq.nil h
section
variable {y : Code} {id i m : Nat} {I : Nat → Env → FZ → HP → Prop}
theorem thenN (h : Wp P cx n y σ fz H Q) : andThen P cx n y Q .normal σ fz H := h
theorem thenX (h : Q (.exit i) σ fz H) : andThen P cx n y Q (.exit i) σ fz H := h
theorem thenR (h : Q .ret σ fz H) : andThen P cx n y Q .ret σ fz H := h
theorem blkN (h : Q .normal σ fz H) : blkQ id Q .normal σ fz H := h
theorem blkR (h : Q .ret σ fz H) : blkQ id Q .ret σ fz H := h
theorem blkX (hi : Nat.beq i id = true) (h : Q .normal σ fz H) : blkQ id Q (.exit i) σ fz H := by simp only [blkQ, hi]; exact h
theorem loopX (h : Q (.exit i) σ fz H) : loopQ I m Q (.exit i) σ fz H := h
theorem loopR (h : Q .ret σ fz H) : loopQ I m Q .ret σ fz H := h
theorem loopN {m' : Nat} {σ' : Env} {H' : HP} (hI : I m' σ' fz H') (hlt : m' < m) (hs : Sub σ' σ) (hh : H'.Sublist H) : loopQ I m Q .normal σ fz H := ⟨m', σ', H', hlt, hs, hh, hI⟩
end
end
structure Ty where
  desc : TypeDesc
  size : Nat
  bytes : Nat
  zero : Value
def fld (t o : Nat) : Field := { name := "", type := t, offset := o, embedded := false, tag := "", pkgPath := "", byteOffset := 0 }
def strip (f : Field) : Field := fld f.type f.offset
def blank : TypeDesc → TypeDesc
  | .struct fs => .struct (fs.map strip)
  | .interface _ => .interface #[]
  | .func _ _ _ => .func #[] #[] false
  | d => d
structure TyOk (P : Program) (t : TypeId) (x : Ty) : Prop where
  und : ∃ d, P.underlying t = some d ∧ blank d = x.desc
  info : ∃ i, P.info? t = some i ∧ i.size = x.size ∧ i.bytes = x.bytes ∧ i.zero = some x.zero
theorem TyOk.mk' {P : Program} {t : TypeId} {x : Ty} (h : (P.underlying t).map blank = some x.desc) (h2 : (P.info? t).map (fun i => (i.size, i.bytes, i.zero)) = some (x.size, x.bytes, some x.zero)) : TyOk P t x := by
  refine ⟨?_, ?_⟩
  · cases hu : P.underlying t with
    | none => simp [hu] at h
    | some d => simp [hu] at h; exact ⟨d, rfl, h⟩
  · cases hi : P.info? t with
    | none => simp [hi] at h2
    | some i => simp [hi] at h2; exact ⟨i, rfl, h2.1, h2.2.1, h2.2.2⟩
def lkT : List (Nat × Ty) → Nat → Option Ty
  | [], _ => none
  | (j, v) :: r, i => match Nat.beq j i with
    | true => some v
    | false => lkT r i
def AllTy (P : Program) : List (Nat × Ty) → Prop
  | [] => True
  | (t, x) :: r => TyOk P t x ∧ AllTy P r
structure Tab (P : Program) where
  l : List (Nat × Ty)
  ok : AllTy P l
  mixed : P.follows .mixedOrders = true
def Tab.inf {P : Program} (T : Tab P) (t : Nat) : Option Ty := lkT T.l t
theorem lkT_ok {P : Program} : ∀ (l : List (Nat × Ty)), AllTy P l → ∀ t x, lkT l t = some x → TyOk P t x
  | [], _, _, _, h => by cases h
  | (j, v) :: r, hl, t, x, h => by
    unfold lkT at h
    cases hb : Nat.beq j t with
    | true => simp only [hb] at h; injection h with h; subst h; rw [← Nat.eq_of_beq_eq_true hb]; exact hl.1
    | false => simp only [hb] at h; exact lkT_ok r hl.2 t x h
theorem Tab.ok_ {P : Program} (T : Tab P) {t : Nat} {x : Ty} (h : T.inf t = some x) : TyOk P t x := lkT_ok T.l T.ok t x h
section
variable {P : Program} {cx : Cx} {r : Operand → Option Value} {fz : FZ} {H : HP} {V : Value → Prop} {dst : Option Nat} {ty : TypeId} {pos : String} {af : Array Edge} {gd : Option (Nat × Bool)}
theorem run_sizeOf (T : Tab P) {t : Nat} {x : Ty} (h : T.inf t = some x) (w : World) : (sizeOf t).run P w = .ok x.size w := by
  obtain ⟨i, hi, h1, _, _⟩ := (T.ok_ h).info
  simp [sizeOf, typeInfo, hi, h1]
def plainD : TypeDesc → Bool
  | .struct _ => false
  | .interface _ => false
  | .func _ _ _ => false
  | _ => true
theorem und_plain (T : Tab P) {t : Nat} {x : Ty} (h : T.inf t = some x) {d : TypeDesc} (hd : x.desc = d) (hp : plainD d = true) : P.underlying t = some d := by
  obtain ⟨d', h1, h2⟩ := (T.ok_ h).und
  rw [h1]
  rw [hd] at h2
  cases d' <;> simp only [blank] at h2 <;> subst h2 <;> first | rfl | (simp [plainD] at hp)
theorem und_struct (T : Tab P) {t : Nat} {x : Ty} (h : T.inf t = some x) {fs : Array Field} (hd : x.desc = .struct fs) : ∃ fs', P.underlying t = some (.struct fs') ∧ fs'.map strip = fs := by
  obtain ⟨d', h1, h2⟩ := (T.ok_ h).und
  rw [hd] at h2
  cases d' <;> simp only [blank] at h2 <;> simp_all
theorem und_interface (T : Tab P) {t : Nat} {x : Ty} (h : T.inf t = some x) {ms : Array (String × TypeId)} (hd : x.desc = .interface ms) : P.underlying t = some (.interface (P.methodsAt t)) := by
  obtain ⟨d', h1, h2⟩ := (T.ok_ h).und
  rw [hd] at h2
  cases d' <;> simp only [blank] at h2 <;> simp_all [Program.methodsAt]
def isAggD : TypeDesc → Bool
  | .struct _ => true
  | .array _ _ => true
  | _ => false
def isIfaceD : TypeDesc → Bool
  | .interface _ => true
  | _ => false
theorem run_isAgg (T : Tab P) {t : Nat} {x : Ty} (h : T.inf t = some x) (w : World) : (isAgg t).run P w = .ok (isAggD x.desc) w := by
  obtain ⟨d', h1, h2⟩ := (T.ok_ h).und
  simp only [isAgg, Sem.run_bind, run_underlying h1, Result.andThen_ok]
  rw [← h2]
  cases d' <;> simp [blank, isAggD]
theorem und_any (T : Tab P) {t : Nat} {x : Ty} (h : T.inf t = some x) : ∃ d, P.underlying t = some d ∧ isIfaceD d = isIfaceD x.desc := by
  obtain ⟨d', h1, h2⟩ := (T.ok_ h).und
  refine ⟨d', h1, ?_⟩
  rw [← h2]
  cases d' <;> rfl
theorem run_zero (T : Tab P) {t : Nat} {x : Ty} (h : T.inf t = some x) (w : World) : (zeroValue t).run P w = .ok x.zero w := by
  obtain ⟨i, hi, _, _, h3⟩ := (T.ok_ h).info
  simp [zeroValue, typeInfo, hi, h3]
theorem doesQ_of {op : Op} {v : Value} (h : ∀ ρ w, Reads r ρ → (execOp ρ ⟨dst, op, ty, pos, af, gd⟩).run P w = .ok (.value v) w) (hV : V v) : DoesQ P cx ⟨dst, op, ty, pos, af, gd⟩ r fz H V :=
  ⟨v, hV, fun ρ w hr _ => by rw [h ρ w hr]; exact ⟨rfl, Fr.refl _ _⟩⟩
theorem q_move {x : Operand} {v : Value} (hx : r x = some v) (h : V v) : DoesQ P cx ⟨dst, .move x, ty, pos, af, gd⟩ r fz H V :=
  doesQ_of (fun ρ w hr => by simp [execOp, hr _ _ hx]) h
theorem q_assign {x : Operand} {v : Value} (hx : r x = some v) (h : V v) : DoesQ P cx ⟨dst, .assign x, ty, pos, af, gd⟩ r fz H V :=
  doesQ_of (fun ρ w hr => by simp [execOp, hr _ _ hx]) h
theorem q_pick_true {c x y : Operand} {v : Value} (hc : r c = some (.bool true)) (hx : r x = some v) (h : V v) : DoesQ P cx ⟨dst, .pick c x y, ty, pos, af, gd⟩ r fz H V :=
  doesQ_of (fun ρ w hr => by simp [execOp, hr _ _ hc, hr _ _ hx, asBool]) h
theorem q_pick_false {c x y : Operand} {v : Value} (hc : r c = some (.bool false)) (hy : r y = some v) (h : V v) : DoesQ P cx ⟨dst, .pick c x y, ty, pos, af, gd⟩ r fz H V :=
  doesQ_of (fun ρ w hr => by simp [execOp, hr _ _ hc, hr _ _ hy, asBool]) h
section bin
variable {t t' : TypeId} {x y : Operand} {k : IntKind} {a b : Int}
theorem q_lss (hx : r x = some (.int k a)) (hy : r y = some (.int k b)) (h : V (.bool (decide (a < b)))) : DoesQ P cx ⟨dst, .binOp .lss t x y t', ty, pos, af, gd⟩ r fz H V :=
  doesQ_of (fun ρ w hr => by simp [execOp, hr _ _ hx, hr _ _ hy, go_sem]) h
theorem q_leq (hx : r x = some (.int k a)) (hy : r y = some (.int k b)) (h : V (.bool (decide (a ≤ b)))) : DoesQ P cx ⟨dst, .binOp .leq t x y t', ty, pos, af, gd⟩ r fz H V :=
  doesQ_of (fun ρ w hr => by simp [execOp, hr _ _ hx, hr _ _ hy, go_sem]) h
theorem q_gtr (hx : r x = some (.int k a)) (hy : r y = some (.int k b)) (h : V (.bool (decide (b < a)))) : DoesQ P cx ⟨dst, .binOp .gtr t x y t', ty, pos, af, gd⟩ r fz H V :=
  doesQ_of (fun ρ w hr => by simp [execOp, hr _ _ hx, hr _ _ hy, go_sem]) h
theorem q_geq (hx : r x = some (.int k a)) (hy : r y = some (.int k b)) (h : V (.bool (decide (b ≤ a)))) : DoesQ P cx ⟨dst, .binOp .geq t x y t', ty, pos, af, gd⟩ r fz H V :=
  doesQ_of (fun ρ w hr => by simp [execOp, hr _ _ hx, hr _ _ hy, go_sem]) h
theorem q_eql (hx : r x = some (.int k a)) (hy : r y = some (.int k b)) (h : V (.bool (decide (a = b)))) : DoesQ P cx ⟨dst, .binOp .eql t x y t', ty, pos, af, gd⟩ r fz H V :=
  doesQ_of (fun ρ w hr => by
    have : (a == b) = decide (a = b) := by rw [Bool.eq_iff_iff]; simp
    simp [execOp, hr _ _ hx, hr _ _ hy, go_sem, this]) h
theorem q_neq (hx : r x = some (.int k a)) (hy : r y = some (.int k b)) (h : V (.bool (decide (a ≠ b)))) : DoesQ P cx ⟨dst, .binOp .neq t x y t', ty, pos, af, gd⟩ r fz H V :=
  doesQ_of (fun ρ w hr => by
    have : (a != b) = !decide (a = b) := by rw [Bool.eq_iff_iff]; simp
    simp [execOp, hr _ _ hx, hr _ _ hy, go_sem, this]) h
theorem q_add {c : Int} (hx : r x = some (.int k a)) (hy : r y = some (.int k b)) (hw : k.wrap (a + b) = c) (h : V (.int k c)) : DoesQ P cx ⟨dst, .binOp .add t x y t', ty, pos, af, gd⟩ r fz H V :=
  doesQ_of (fun ρ w hr => by simp [execOp, hr _ _ hx, hr _ _ hy, eqGuard_add, binOp_add, Op.intArith, hw]) h
theorem q_sub {c : Int} (hx : r x = some (.int k a)) (hy : r y = some (.int k b)) (hw : k.wrap (a - b) = c) (h : V (.int k c)) : DoesQ P cx ⟨dst, .binOp .sub t x y t', ty, pos, af, gd⟩ r fz H V :=
  doesQ_of (fun ρ w hr => by simp [execOp, hr _ _ hx, hr _ _ hy, eqGuard_sub, binOp_sub, Op.intArith, hw]) h
theorem q_mul {c : Int} (hx : r x = some (.int k a)) (hy : r y = some (.int k b)) (hw : k.wrap (a * b) = c) (h : V (.int k c)) : DoesQ P cx ⟨dst, .binOp .mul t x y t', ty, pos, af, gd⟩ r fz H V :=
  doesQ_of (fun ρ w hr => by simp [execOp, hr _ _ hx, hr _ _ hy, eqGuard_mul, binOp_mul, Op.intArith, hw]) h
theorem wrap_in {n : Int} (h : -9223372036854775808 ≤ n ∧ n ≤ 9223372036854775807) : IntKind.i64.wrap n = n := IntWalk.i64_in n h
end bin
theorem q_not {x : Operand} {t : TypeId} {b : Bool} (hx : r x = some (.bool b)) (h : V (.bool (!b))) : DoesQ P cx ⟨dst, .unOp .not t x, ty, pos, af, gd⟩ r fz H V :=
  doesQ_of (fun ρ w hr => by simp [execOp, hr _ _ hx, Op.unary]) h
theorem q_len_slice (T : Tab P) {t : TypeId} {x : Operand} {e : TypeId} {X : Ty} {A : Option Addr} {n c : Nat} (hT : T.inf t = some X) (hd : X.desc = .slice e) (hx : r x = some (.slice A n c)) (h : V (.int .i64 n)) :
    DoesQ P cx ⟨dst, .call { callee := .builtin .len, args := #[x], argTypes := #[t] }, ty, pos, af, gd⟩ r fz H V :=
  doesQ_of (fun ρ w hr => by
    have hu := run_underlying (und_plain T hT hd rfl) w
    simp [execOp, resolve, invoke, builtin, hr _ _ hx, Builtin.len_, hu, goInt]) h
theorem q_len_string (T : Tab P) {t : TypeId} {x : Operand} {X : Ty} {s : ByteArray} (hT : T.inf t = some X) (hd : X.desc = .string) (hx : r x = some (.string s)) (h : V (.int .i64 s.size)) :
    DoesQ P cx ⟨dst, .call { callee := .builtin .len, args := #[x], argTypes := #[t] }, ty, pos, af, gd⟩ r fz H V :=
  doesQ_of (fun ρ w hr => by
    have hu := run_underlying (und_plain T hT hd rfl) w
    simp [execOp, resolve, invoke, builtin, hr _ _ hx, Builtin.len_, hu, goInt]) h
theorem q_index_string (T : Tab P) {t : TypeId} {x i : Operand} {X : Ty} {s : ByteArray} {k : IntKind} {j : Int} {b : UInt8} (hT : T.inf t = some X) (hd : X.desc = .string) (hx : r x = some (.string s)) (hi : r i = some (.int k j))
    (h0 : 0 ≤ j) (hb : s[j.toNat]? = some b) (h : V (.int .u8 b.toNat)) : DoesQ P cx ⟨dst, .index t x i, ty, pos, af, gd⟩ r fz H V :=
  doesQ_of (fun ρ w hr => by
    have hu := run_underlying (und_plain T hT hd rfl) w
    simp [execOp, hr _ _ hx, hr _ _ hi, Instr.index, asIntOf, hu, h0, hb]) h
theorem q_fieldAddr (T : Tab P) {t : TypeId} {x : Operand} {i : Nat} {X Y : Ty} {fs : Array Field} {f : Field} {p : Addr} (hT : T.inf t = some X) (hd : X.desc = .struct fs) (hf : fs[i]? = some f) (hY : T.inf f.type = some Y) (hz : Nat.beq Y.size 0 = false)
    (hx : r x = some (.pointer (some p))) (h : V (.pointer (some (p.add f.offset)))) : DoesQ P cx ⟨dst, .fieldAddr t x i, ty, pos, af, gd⟩ r fz H V :=
  doesQ_of (fun ρ w hr => by
    obtain ⟨fs', hu', hs'⟩ := und_struct T hT hd
    have hu := run_underlying hu' w
    subst hs'
    rw [Array.getElem?_map] at hf
    cases hf' : fs'[i]? with
    | none => simp [hf'] at hf
    | some f' =>
      simp only [hf', Option.map_some] at hf
      injection hf with hf
      subst hf
      have hs := run_sizeOf T hY w
      have hz' : ¬ Y.size = 0 := fun he => by rw [he] at hz; cases hz
      simp only [strip, fld] at hs
      simp [execOp, hr _ _ hx, Instr.fieldAt, hu, hf', Instr.sureAddr, fieldPlace, hs, hz', strip, fld]) h
theorem q_indexAddr (T : Tab P) {t e : TypeId} {x i : Operand} {X Y : Ty} {a : Addr} {n c : Nat} {k : IntKind} {j : Int} (hT : T.inf t = some X) (hd : X.desc = .slice e) (hY : T.inf e = some Y)
    (hx : r x = some (.slice (some a) n c)) (hi : r i = some (.int k j)) (h0 : 0 ≤ j) (hn : j < n) (h : V (.pointer (some (a.add (j.toNat * Y.size))))) : DoesQ P cx ⟨dst, .indexAddr t x i, ty, pos, af, gd⟩ r fz H V :=
  doesQ_of (fun ρ w hr => by
    have hu := run_underlying (und_plain T hT hd rfl) w
    have hs := run_sizeOf T hY w
    simp [execOp, hr _ _ hx, hr _ _ hi, Instr.indexAt, asIntOf, hu, hs, h0, hn]) h
theorem q_extract {x : Operand} {i : Nat} {vs : Array Value} {v : Value} (hx : r x = some (.tuple vs)) (hv : vs[i]? = some v) (h : V v) : DoesQ P cx ⟨dst, .extract x i, ty, pos, af, gd⟩ r fz H V :=
  doesQ_of (fun ρ w hr => by simp [execOp, hr _ _ hx, Instr.extract, hv]) h
theorem q_makeInterface (T : Tab P) {t : TypeId} {x : Operand} {X : Ty} {v : Value} (hT : T.inf t = some X) (hd : isIfaceD X.desc = false) (hx : r x = some v) (h : V (.iface t v)) : DoesQ P cx ⟨dst, .makeInterface t x, ty, pos, af, gd⟩ r fz H V :=
  doesQ_of (fun ρ w hr => by
    obtain ⟨d, hu, hi⟩ := und_any T hT
    rw [hd] at hi
    simp only [execOp, hr _ _ hx, Instr.makeInterface, Sem.run_bind, run_underlying hu, Result.andThen_ok]
    cases d <;> simp_all [isIfaceD]) h
theorem q_convert_int (T : Tab P) {t t' : TypeId} {x : Operand} {X X' : Ty} {k k' : IntKind} {a b : Int} (hT : T.inf t = some X) (hT' : T.inf t' = some X') (hd : X'.desc = .int k') (hx : r x = some (.int k a)) (hw : k'.wrap a = b) (h : V (.int k' b)) :
    DoesQ P cx ⟨dst, .convert t t' x, ty, pos, af, gd⟩ r fz H V :=
  doesQ_of (fun ρ w hr => by
    obtain ⟨d, hu, _⟩ := und_any T hT
    have hu' := run_underlying (und_plain T hT' hd rfl) w
    simp [execOp, hr _ _ hx, convert, run_underlying hu, hu', Conv.intToInt, hw]) h
theorem q_makeFunc {f : Fn} {xs ys : List Operand} {vs us : List Value} (hx : rds r xs = some vs) (hy : rds r ys = some us) (h : V (.func f vs.toArray us.toArray)) : DoesQ P cx ⟨dst, .makeFunc f xs.toArray ys.toArray, ty, pos, af, gd⟩ r fz H V :=
  doesQ_of (fun ρ w hr => by simp [execOp, Instr.makeFunc, hr.all xs vs hx, hr.all ys us hy]) h
def wrL : List Value → Nat → List Value → Option (List Value)
  | cs, 0, [] => some cs
  | [], _, _ => none
  | _ :: cs, 0, v :: vs => match wrL cs 0 vs with
    | some l => some (v :: l)
    | none => none
  | c :: cs, j + 1, vs => match wrL cs j vs with
    | some l => some (c :: l)
    | none => none
theorem wrL_eq : ∀ (cs : List Value) (j : Nat) (vs cs' : List Value), wrL cs j vs = some cs' → j + vs.length ≤ cs.length ∧ cs' = cs.take j ++ vs ++ cs.drop (j + vs.length)
  | cs, 0, [], cs', h => by simp only [wrL] at h; injection h with h; simp [h]
  | [], 0, v :: vs, cs', h => by simp [wrL] at h
  | [], j + 1, vs, cs', h => by simp [wrL] at h
  | c :: cs, 0, v :: vs, cs', h => by
    simp only [wrL] at h
    cases hw : wrL cs 0 vs with
    | none => simp [hw] at h
    | some l =>
      simp only [hw] at h
      injection h with h
      obtain ⟨h1, h2⟩ := wrL_eq cs 0 vs l hw
      subst h h2
      simp at h1 ⊢
      exact h1
  | c :: cs, j + 1, vs, cs', h => by
    simp only [wrL] at h
    cases hw : wrL cs j vs with
    | none => simp [hw] at h
    | some l =>
      simp only [hw] at h
      injection h with h
      obtain ⟨h1, h2⟩ := wrL_eq cs j vs l hw
      subst h h2
      refine ⟨by simp; omega, ?_⟩
      rw [show j + 1 + vs.length = (j + vs.length) + 1 from by omega]
      simp
def fillL (place : Nat → Option (Nat × Nat)) : List Value → List (Nat × Value) → Option (List Value)
  | cells, [] => some cells
  | cells, (i, v) :: rest => match place i with
    | none => none
    | some (off, size) => match Nat.beq v.cells.toList.length size with
      | false => none
      | true => match wrL cells off v.cells.toList with
        | none => none
        | some cs => fillL place cs rest
theorem fold_set (off : Nat) : ∀ (vs : List Value) (k : Nat) (cs : List Value), off + k + vs.length ≤ cs.length →
    (vs.zipIdx k).foldl (fun (cs : Array Value) (p : Value × Nat) => cs.setIfInBounds (off + p.2) p.1) cs.toArray = (cs.take (off + k) ++ vs ++ cs.drop (off + k + vs.length)).toArray
  | [], k, cs, _ => by simp
  | v :: vs, k, cs, h => by
    simp only [List.zipIdx_cons, List.foldl_cons, List.setIfInBounds_toArray]
    simp only [List.length_cons] at h
    rw [fold_set off vs (k + 1) (cs.set (off + k) v) (by simp; omega)]
    have h1 : (cs.set (off + k) v).take (off + (k + 1)) = cs.take (off + k) ++ [v] := by
      rw [show off + (k + 1) = (off + k) + 1 from by omega, List.take_add_one, List.take_set, List.getElem?_set_self (by omega)]
      simp only [Option.toList]
      rw [List.set_eq_of_length_le (by simp; omega)]
    have h2 : (cs.set (off + k) v).drop (off + (k + 1) + vs.length) = cs.drop (off + k + (vs.length + 1)) := by
      rw [List.drop_set_of_lt (by omega)]
      congr 1; omega
    rw [h1, h2]
    simp
theorem fill_eq {place : Nat → Option (Nat × Nat)} : ∀ (parts : List (Nat × Value)) (cells cs : List Value), fillL place cells parts = some cs → Instr.fill place cells.toArray parts = some cs.toArray
  | [], cells, cs, h => by injection h with h; subst h; rfl
  | (i, v) :: rest, cells, cs, h => by
    unfold fillL at h
    cases hp : place i with
    | none => simp [hp] at h
    | some os =>
      obtain ⟨off, size⟩ := os
      simp only [hp] at h
      cases hb : Nat.beq v.cells.toList.length size with
      | false => rw [hb] at h; cases h
      | true =>
        simp only [hb] at h
        cases hw : wrL cells off v.cells.toList with
        | none => simp [hw] at h
        | some cs1 =>
          simp only [hw] at h
          obtain ⟨h1, h2⟩ := wrL_eq _ _ _ _ hw
          have h3 := Nat.eq_of_beq_eq_true hb
          have h4 := fold_set off v.cells.toList 0 cells (by omega)
          simp only [Nat.add_zero] at h4
          rw [← h2] at h4
          have h5 : v.cells.zipIdx.foldl (fun (cs : Array Value) (p : Value × Nat) => cs.setIfInBounds (off + p.2) p.1) cells.toArray = cs1.toArray := by
            rw [← h4, ← Array.foldl_toList, Array.toList_zipIdx]
          unfold Instr.fill
          simp only [hp]
          have hc1 : v.cells.size = size := by simpa using h3
          have hc2 : ¬ off + v.cells.size > cells.length := by simp at h1; omega
          rw [if_neg (by simp [hc1]; simp [hc1] at hc2; omega)]
          exact (congrArg (fun a => Instr.fill place a rest) h5).trans (fill_eq rest cs1 cs h)
def repZ (z : List Value) : Nat → List Value
  | 0 => []
  | n + 1 => z ++ repZ z n
theorem repZ_get (z : List Value) : ∀ (n i : Nat), i < n * z.length → (repZ z n)[i]? = z[i % z.length]?
  | 0, i, h => by omega
  | n + 1, i, h => by
    unfold repZ
    by_cases hi : i < z.length
    · rw [List.getElem?_append_left hi, Nat.mod_eq_of_lt hi]
    · rw [List.getElem?_append_right (by omega), repZ_get z n _ (by rw [Nat.add_mul] at h; omega), Nat.mod_eq_sub_mod (by omega : i ≥ z.length)]
theorem repZ_len (z : List Value) : ∀ n : Nat, (repZ z n).length = n * z.length
  | 0 => by simp [repZ]
  | n + 1 => by simp [repZ, repZ_len z n, Nat.add_mul, Nat.add_comm]
theorem repZ_eq (z : Array Value) (n size : Nat) (hs : z.size = size) : (Array.range (n * size)).map (z[· % z.size]!) = (repZ z.toList n).toArray := by
  subst hs
  apply Array.ext_getElem?
  intro i
  rw [Array.getElem?_map]
  by_cases hi : i < n * z.size
  · have h1 : (Array.range (n * z.size))[i]? = some i := by simp [hi]
    have h2 : (repZ z.toList n).toArray[i]? = z.toList[i % z.toList.length]? := by
      rw [List.getElem?_toArray]; exact repZ_get z.toList n i (by simpa using hi)
    have hlt : i % z.size < z.size := Nat.mod_lt _ (by
      rcases Nat.eq_zero_or_pos z.size with h0 | h0
      · rw [h0] at hi; omega
      · exact h0)
    rw [h1, h2]
    simp [hlt]
  · have h1 : (Array.range (n * z.size))[i]? = none := by simp [hi]
    have h2 : (repZ z.toList n).toArray[i]? = none := by
      rw [List.getElem?_toArray, List.getElem?_eq_none (by rw [repZ_len]; simpa using hi)]
    rw [h1, h2]; rfl
def places (T : Tab P) : List Field → Option (List (Nat × Nat))
  | [] => some []
  | f :: r => match T.inf f.type with
    | none => none
    | some Y => match places T r with
      | none => none
      | some l => some ((f.offset, Y.size) :: l)
theorem places_strip (T : Tab P) : ∀ fs : List Field, places T (fs.map strip) = places T fs
  | [] => rfl
  | f :: r => by
    simp only [List.map_cons, places, places_strip T r]
    rfl
theorem run_places (T : Tab P) : ∀ (fs : List Field) (l : List (Nat × Nat)), places T fs = some l → ∀ w, (fs.mapM (fun f => do pure (f.offset, ← sizeOf f.type) : Field → Sem (Nat × Nat))).run P w = .ok l w
  | [], l, h, w => by injection h with h; subst h; simp
  | f :: r, l, h, w => by
    unfold places at h
    cases hY : T.inf f.type with
    | none => simp [hY] at h
    | some Y =>
      cases hl : places T r with
      | none => simp [hY, hl] at h
      | some l' =>
        simp [hY, hl] at h
        subst h
        simp only [List.mapM_cons, Sem.run_bind, run_sizeOf T hY, Result.andThen_ok, Sem.run_pure, run_places T r l' hl]
theorem reads_parts {ρ : Operand → Value} (hr : Reads r ρ) : ∀ (ps : List (Nat × Operand)) (vs : List Value), rds r (ps.map (·.2)) = some vs → ps.map (fun p => (p.1, ρ p.2)) = (ps.map (·.1)).zip vs
  | [], vs, h => by injection h with h; subst h; rfl
  | (i, x) :: ps, vs, h => by
    simp only [List.map_cons, rds] at h
    cases hx : r x with
    | none => simp [hx] at h
    | some v =>
      cases hxs : rds r (ps.map (·.2)) with
      | none => simp [hx, hxs] at h
      | some us =>
        simp [hx, hxs] at h
        subst h
        simp [hr x v hx, reads_parts hr ps us hxs]
theorem q_build (T : Tab P) {t : TypeId} {ps : List (Nat × Operand)} {X : Ty} {fs : Array Field} {pl : List (Nat × Nat)} {vs cs : List Value} (hT : T.inf t = some X) (hd : X.desc = .struct fs) (hp : places T fs.toList = some pl)
    (hv : rds r (ps.map (·.2)) = some vs) (hc : fillL (fun i => pl[i]?) X.zero.cells.toList ((ps.map (·.1)).zip vs) = some cs) (h : V (.agg cs.toArray)) : DoesQ P cx ⟨dst, .build t ps.toArray, ty, pos, af, gd⟩ r fz H V :=
  doesQ_of (fun ρ w hr => by
    obtain ⟨fs', hu', hs'⟩ := und_struct T hT hd
    have hu := run_underlying hu' w
    subst hs'
    have hz := run_zero T hT w
    have hpl : (fs'.mapM (fun f => do pure (f.offset, ← sizeOf f.type) : Field → Sem (Nat × Nat))).run P w = .ok pl.toArray w := by
      rw [← Array.toArray_toList (xs := fs'), List.mapM_toArray]
      have := run_places T fs'.toList pl (by rw [← places_strip]; simpa using hp) w
      simp only [Sem.run_map, this, Result.andThen_ok]
    have hps : (ps.map fun p => (p.1, ρ p.2)) = (ps.map (·.1)).zip vs := reads_parts hr ps vs hv
    have hps' : (ps.toArray.map fun x => match x with | (i, x) => (i, ρ x)).toList = (ps.map (·.1)).zip vs := by
      rw [← hps]; simp
    have hc' : Instr.fill (fun i => pl.toArray[i]?) X.zero.cells ((ps.map (·.1)).zip vs) = some cs.toArray := by
      have := fill_eq _ _ _ hc
      simpa using this
    simp only [execOp, Instr.build, Sem.run_bind, hz, Result.andThen_ok, hu, hpl, hps', hc', Sem.run_pure]) h
section
variable (T : Tab P) {t t' : TypeId} {x : Operand} {X : Ty} {ms : Array (String × TypeId)} {u : TypeId} {v : Value}
theorem q_eql_some (hT : T.inf t = some X) (hd : X.desc = .interface ms) (hx : r x = some (.iface u v)) (hy : r (.const .nilIface) = some .nilIface) (h : V (.bool false)) :
    DoesQ P cx ⟨dst, .binOp .eql t x (.const .nilIface) t', ty, pos, af, gd⟩ r fz H V :=
  doesQ_of (fun ρ w hr => by
    have hu := und_interface T hT hd
    simp only [execOp, hr _ _ hx, hr _ _ hy, Sem.run_bind, eqGuard_at_iface, Sem.run_pure, Result.andThen_ok, run_eql_held_nil w t u v hu]) h
theorem q_eql_nil (hT : T.inf t = some X) (hd : X.desc = .interface ms) (hx : r x = some .nilIface) (hy : r (.const .nilIface) = some .nilIface) (h : V (.bool true)) :
    DoesQ P cx ⟨dst, .binOp .eql t x (.const .nilIface) t', ty, pos, af, gd⟩ r fz H V :=
  doesQ_of (fun ρ w hr => by
    have hu := und_interface T hT hd
    simp only [execOp, hr _ _ hx, hr _ _ hy, Sem.run_bind, eqGuard_nil_constR, Sem.run_pure, Result.andThen_ok, run_eql_nil_nil w t hu]) h
theorem q_neq_some (hT : T.inf t = some X) (hd : X.desc = .interface ms) (hx : r x = some (.iface u v)) (hy : r (.const .nilIface) = some .nilIface) (h : V (.bool true)) :
    DoesQ P cx ⟨dst, .binOp .neq t x (.const .nilIface) t', ty, pos, af, gd⟩ r fz H V :=
  doesQ_of (fun ρ w hr => by
    have hu := und_interface T hT hd
    simp only [execOp, hr _ _ hx, hr _ _ hy, Sem.run_bind, eqGuard_at_iface, Sem.run_pure, Result.andThen_ok, run_neq_held_nil w t u v hu]) h
theorem q_neq_nil (hT : T.inf t = some X) (hd : X.desc = .interface ms) (hx : r x = some .nilIface) (hy : r (.const .nilIface) = some .nilIface) (h : V (.bool false)) :
    DoesQ P cx ⟨dst, .binOp .neq t x (.const .nilIface) t', ty, pos, af, gd⟩ r fz H V :=
  doesQ_of (fun ρ w hr => by
    have hu := und_interface T hT hd
    simp only [execOp, hr _ _ hx, hr _ _ hy, Sem.run_bind, eqGuard_nil_constR, Sem.run_pure, Result.andThen_ok, run_neq_nil_nil w t hu]) h
end
theorem run_eql_bool (T : Tab P) {t : TypeId} {X : Ty} {a b : Bool} (hT : T.inf t = some X) (hd : X.desc = .bool) (w : World) : (Op.equal t (.bool a) (.bool b)).run P w = .ok (a == b) w := by
  have hu := run_underlying (und_plain T hT hd rfl) w
  have : ∀ d : Nat, (Op.equalIn (d + 1) t (.bool a) (.bool b)).run P w = .ok (a == b) w := fun d => by
    unfold Op.equalIn; simp only [Sem.run_bind, hu, Result.andThen_ok, Sem.run_pure]
  exact this 9999
theorem q_eql_bool (T : Tab P) {t t' : TypeId} {x y : Operand} {X : Ty} {a b : Bool} (hT : T.inf t = some X) (hd : X.desc = .bool) (hx : r x = some (.bool a)) (hy : r y = some (.bool b)) (h : V (.bool (a == b))) :
    DoesQ P cx ⟨dst, .binOp .eql t x y t', ty, pos, af, gd⟩ r fz H V :=
  doesQ_of (fun ρ w hr => by
    simp only [execOp, hr _ _ hx, hr _ _ hy, Sem.run_bind, eqGuard_at_bool, Sem.run_pure, Result.andThen_ok, binOp, run_eql_bool T hT hd]) h
theorem str_beq (a b : ByteArray) : (a.toList == b.toList) = decide (a = b) := by
  rw [Bool.eq_iff_iff, beq_iff_eq, decide_eq_true_iff, ByteArray.toList_eq, ByteArray.toList_eq]
  constructor
  · intro h; exact ByteArray.ext (Array.toList_inj.1 h)
  · rintro rfl; rfl
theorem q_eql_string {t t' : TypeId} {x y : Operand} {a b : ByteArray} (hx : r x = some (.string a)) (hy : r y = some (.string b)) (h : V (.bool (decide (a = b)))) :
    DoesQ P cx ⟨dst, .binOp .eql t x y t', ty, pos, af, gd⟩ r fz H V :=
  doesQ_of (fun ρ w hr => by
    simp [execOp, hr _ _ hx, hr _ _ hy, eqGuard_at_string, binOp, Op.stringOp, str_beq]) h
theorem q_neq_string {t t' : TypeId} {x y : Operand} {a b : ByteArray} (hx : r x = some (.string a)) (hy : r y = some (.string b)) (h : V (.bool (decide (a ≠ b)))) :
    DoesQ P cx ⟨dst, .binOp .neq t x y t', ty, pos, af, gd⟩ r fz H V :=
  doesQ_of (fun ρ w hr => by
    simp [execOp, hr _ _ hx, hr _ _ hy, eqGuard_at_string, binOp, Op.stringOp, str_beq]) h
theorem q_assert_yes (T : Tab P) {t t' : TypeId} {x : Operand} {X : Ty} {v : Value} (hT : T.inf t' = some X) (hd : isIfaceD X.desc = false) (hx : r x = some (.iface t' v)) (h : V (.tuple #[v, .bool true])) :
    DoesQ P cx ⟨dst, .typeAssert x t t' true, ty, pos, af, gd⟩ r fz H V :=
  doesQ_of (fun ρ w hr => by
    obtain ⟨d, hu, hi⟩ := und_any T hT
    rw [hd] at hi
    simp only [execOp, hr _ _ hx, Instr.typeAssert, Sem.run_bind, run_underlying hu, Result.andThen_ok]
    cases d <;> simp_all [isIfaceD]) h
theorem v_dec {p : Prop} [Decidable p] (ht : p → V (.bool true)) (hf : ¬ p → V (.bool false)) : V (.bool (decide p)) := by
  by_cases h : p
  · rw [decide_eq_true h]; exact ht h
  · rw [decide_eq_false h]; exact hf h
theorem v_bool {b : Bool} (ht : b = true → V (.bool true)) (hf : b = false → V (.bool false)) : V (.bool b) := by
  cases b
  · exact hf rfl
  · exact ht rfl
section
variable {t t' : TypeId} {x y : Operand} {k : IntKind} {a b : Int}
theorem q_lssD (hx : r x = some (.int k a)) (hy : r y = some (.int k b)) (ht : a < b → V (.bool true)) (hf : ¬ (a < b) → V (.bool false)) : DoesQ P cx ⟨dst, .binOp .lss t x y t', ty, pos, af, gd⟩ r fz H V :=
  q_lss hx hy (v_dec ht hf)
theorem q_leqD (hx : r x = some (.int k a)) (hy : r y = some (.int k b)) (ht : a ≤ b → V (.bool true)) (hf : ¬ (a ≤ b) → V (.bool false)) : DoesQ P cx ⟨dst, .binOp .leq t x y t', ty, pos, af, gd⟩ r fz H V :=
  q_leq hx hy (v_dec ht hf)
theorem q_gtrD (hx : r x = some (.int k a)) (hy : r y = some (.int k b)) (ht : b < a → V (.bool true)) (hf : ¬ (b < a) → V (.bool false)) : DoesQ P cx ⟨dst, .binOp .gtr t x y t', ty, pos, af, gd⟩ r fz H V :=
  q_gtr hx hy (v_dec ht hf)
theorem q_geqD (hx : r x = some (.int k a)) (hy : r y = some (.int k b)) (ht : b ≤ a → V (.bool true)) (hf : ¬ (b ≤ a) → V (.bool false)) : DoesQ P cx ⟨dst, .binOp .geq t x y t', ty, pos, af, gd⟩ r fz H V :=
  q_geq hx hy (v_dec ht hf)
theorem q_eqlD (hx : r x = some (.int k a)) (hy : r y = some (.int k b)) (ht : a = b → V (.bool true)) (hf : ¬ (a = b) → V (.bool false)) : DoesQ P cx ⟨dst, .binOp .eql t x y t', ty, pos, af, gd⟩ r fz H V :=
  q_eql hx hy (v_dec ht hf)
theorem q_neqD (hx : r x = some (.int k a)) (hy : r y = some (.int k b)) (ht : a ≠ b → V (.bool true)) (hf : a = b → V (.bool false)) : DoesQ P cx ⟨dst, .binOp .neq t x y t', ty, pos, af, gd⟩ r fz H V :=
  q_neq hx hy (v_dec ht (fun h => hf (Classical.not_not.1 h)))
theorem q_eql_strD {u v : ByteArray} (hx : r x = some (.string u)) (hy : r y = some (.string v)) (ht : u = v → V (.bool true)) (hf : ¬ u = v → V (.bool false)) : DoesQ P cx ⟨dst, .binOp .eql t x y t', ty, pos, af, gd⟩ r fz H V :=
  q_eql_string hx hy (v_dec ht hf)
theorem q_neq_strD {u v : ByteArray} (hx : r x = some (.string u)) (hy : r y = some (.string v)) (ht : u ≠ v → V (.bool true)) (hf : u = v → V (.bool false)) : DoesQ P cx ⟨dst, .binOp .neq t x y t', ty, pos, af, gd⟩ r fz H V :=
  q_neq_string hx hy (v_dec ht (fun h => hf (Classical.not_not.1 h)))
end
theorem q_max {x y : Operand} {ats : Array TypeId} {k : IntKind} {a b : Int} (hx : r x = some (.int k a)) (hy : r y = some (.int k b)) (h : V (.int k (max a b))) :
    DoesQ P cx ⟨dst, .call { callee := .builtin .max, args := #[x, y], argTypes := ats }, ty, pos, af, gd⟩ r fz H V :=
  doesQ_of (fun ρ w hr => by
    have : (if b > a then b else a) = max a b := by omega
    simp [execOp, resolve, invoke, builtin, hr _ _ hx, hr _ _ hy, Builtin.max_, Builtin.max2, this]) h
theorem Inv.cellOwn {w : World} (h : Inv cx fz H w) {i g : Nat} {cs : Array Value} {t : TypeId} {f : Nat × Nat} (hi : H[i]? = some (g, .cells cs t f)) (j : Nat) : w.cell? ⟨g, j, none⟩ = cs[j]? :=
  cell_of_row w g j cs t f (h.hp.own (g, .cells cs t f) (List.mem_of_getElem? hi)).1
theorem run_load1 (T : Tab P) {t : TypeId} {X : Ty} {a : Addr} {v : Value} {w : World} (hT : T.inf t = some X) (hd : isAggD X.desc = false) (hc : w.cell? a = some v) : (loadVar t a).run P w = .ok v w := by
  have ha := run_isAgg T hT w
  rw [hd] at ha
  simp [loadVar, ha, hc]
theorem run_loadN (T : Tab P) {t : TypeId} {X : Ty} {a : Addr} {cs : List Value} {w : World} (hT : T.inf t = some X) (hd : isAggD X.desc = true) (hs : X.size = cs.length)
    (hc : ∀ j v, cs[j]? = some v → w.cell? (a.add j) = some v) : (loadVar t a).run P w = .ok (.agg cs.toArray) w := by
  have hz := run_sizeOf T hT w
  rw [hs] at hz
  have ha := run_isAgg T hT w
  rw [hd] at ha
  simp [loadVar, ha, hz, run_loadCells_list (P := P) w a cs hc]
theorem q_load_own (T : Tab P) {t t' : TypeId} {x : Operand} {X : Ty} {g j : Nat} {cs : List Value} {f : Nat × Nat} {v : Value} (i : Nat) (hT : T.inf t = some X) (hd : isAggD X.desc = false)
    (hx : r x = some (.pointer (some ⟨g, j, none⟩))) (hi : H[i]? = some (g, .cells cs.toArray t' f)) (hv : cs[j]? = some v) (h : V v) : DoesQ P cx ⟨dst, .load t x, ty, pos, af, gd⟩ r fz H V :=
  ⟨v, h, fun ρ w hr hw => by
    have hc : w.cell? ⟨g, j, none⟩ = some v := by rw [hw.cellOwn hi]; simpa using hv
    simp only [execOp, hr _ _ hx, Instr.loadAt, Instr.sureAddr, Sem.run_bind, Sem.run_pure, Result.andThen_ok, run_load1 T hT hd hc]
    exact ⟨rfl, Fr.refl _ _⟩⟩
theorem q_load_own_all (T : Tab P) {t t' : TypeId} {x : Operand} {X : Ty} {g : Nat} {cs : List Value} {f : Nat × Nat} (i : Nat) (hT : T.inf t = some X) (hd : isAggD X.desc = true)
    (hx : r x = some (.pointer (some ⟨g, 0, none⟩))) (hi : H[i]? = some (g, .cells cs.toArray t' f)) (hs : X.size = cs.length) (h : V (.agg cs.toArray)) : DoesQ P cx ⟨dst, .load t x, ty, pos, af, gd⟩ r fz H V :=
  ⟨_, h, fun ρ w hr hw => by
    have hc : ∀ j v, cs[j]? = some v → w.cell? ((⟨g, 0, none⟩ : Addr).add j) = some v := fun j v hv => by
      have hadd : (⟨g, 0, none⟩ : Addr).add j = ⟨g, j, none⟩ := by unfold Addr.add; split <;> simp_all
      rw [hadd, hw.cellOwn hi]; simpa using hv
    simp only [execOp, hr _ _ hx, Instr.loadAt, Instr.sureAddr, Sem.run_bind, Sem.run_pure, Result.andThen_ok, run_loadN T hT hd hs hc]
    exact ⟨rfl, Fr.refl _ _⟩⟩
def cellF (fz : FZ) (a : Addr) : Option Value := match fz a.block with
  | some (.cells c _ _) => if a.spot.isSome then none else c[a.off]?
  | _ => none
theorem Hp.cell {w : World} (h : Hp fz H w) {a : Addr} {v : Value} (ha : cellF fz a = some v) : w.cell? a = some v := by
  unfold cellF at ha
  unfold World.cell?
  split at ha
  · rename_i hq; rw [h.keep _ _ hq]; exact ha
  · cases ha
theorem cellF_mono {fz fz' : FZ} (h : Le fz fz') {a : Addr} {v : Value} (ha : cellF fz a = some v) : cellF fz' a = some v := by
  unfold cellF at *
  split at ha
  · rename_i hq; rw [h _ _ hq]; exact ha
  · cases ha
def Row (fz : FZ) (a : Addr) (cs : List Value) : Prop := ∀ j v, cs[j]? = some v → cellF fz (a.add j) = some v
theorem Row.mono {fz fz' : FZ} (h : Le fz fz') {a : Addr} {cs : List Value} (hr : Row fz a cs) : Row fz' a cs := fun j v hv => cellF_mono h (hr j v hv)
theorem q_load_row (T : Tab P) {t : TypeId} {x : Operand} {X : Ty} {a : Addr} {cs : List Value} (hT : T.inf t = some X) (hd : isAggD X.desc = true)
    (hx : r x = some (.pointer (some a))) (hc : Row fz a cs) (hs : X.size = cs.length) (h : V (.agg cs.toArray)) : DoesQ P cx ⟨dst, .load t x, ty, pos, af, gd⟩ r fz H V :=
  ⟨_, h, fun ρ w hr hw => by
    simp only [execOp, hr _ _ hx, Instr.loadAt, Instr.sureAddr, Sem.run_bind, Sem.run_pure, Result.andThen_ok, run_loadN T hT hd hs (fun j v hv => hw.hp.cell (hc j v hv))]
    exact ⟨rfl, Fr.refl _ _⟩⟩
theorem q_load_cell (T : Tab P) {t : TypeId} {x : Operand} {X : Ty} {a : Addr} {v : Value} (hT : T.inf t = some X) (hd : isAggD X.desc = false)
    (hx : r x = some (.pointer (some a))) (hc : cellF fz a = some v) (h : V v) : DoesQ P cx ⟨dst, .load t x, ty, pos, af, gd⟩ r fz H V :=
  ⟨_, h, fun ρ w hr hw => by
    simp only [execOp, hr _ _ hx, Instr.loadAt, Instr.sureAddr, Sem.run_bind, Sem.run_pure, Result.andThen_ok, run_load1 T hT hd (hw.hp.cell hc)]
    exact ⟨rfl, Fr.refl _ _⟩⟩
theorem q_load_fz (T : Tab P) {t t' : TypeId} {x : Operand} {X : Ty} {g j : Nat} {cs : List Value} {f : Nat × Nat} {v : Value} (hT : T.inf t = some X) (hd : isAggD X.desc = false)
    (hx : r x = some (.pointer (some ⟨g, j, none⟩))) (hg : fz g = some (.cells cs.toArray t' f)) (hv : cs[j]? = some v) (h : V v) : DoesQ P cx ⟨dst, .load t x, ty, pos, af, gd⟩ r fz H V :=
  q_load_cell T hT hd hx (by simp [cellF, hg, hv]) h
theorem q_load_fz_all (T : Tab P) {t t' : TypeId} {x : Operand} {X : Ty} {g : Nat} {cs : List Value} {f : Nat × Nat} (hT : T.inf t = some X) (hd : isAggD X.desc = true)
    (hx : r x = some (.pointer (some ⟨g, 0, none⟩))) (hg : fz g = some (.cells cs.toArray t' f)) (hs : X.size = cs.length) (h : V (.agg cs.toArray)) : DoesQ P cx ⟨dst, .load t x, ty, pos, af, gd⟩ r fz H V :=
  q_load_row T hT hd hx (fun j v hv => by
    have hadd : (⟨g, 0, none⟩ : Addr).add j = ⟨g, j, none⟩ := by unfold Addr.add; split <;> simp_all
    rw [hadd]; simp [cellF, hg, hv]) hs h
theorem k_alloc (T : Tab P) {t : TypeId} {X : Ty} {cs : List Value} {K : Value → FZ → HP → Prop} (hT : T.inf t = some X) (hz : X.zero.cells = cs.toArray)
    (h : ∀ g, K (.pointer (some ⟨g, 0, none⟩)) fz ((g, .cells cs.toArray t (0, 0)) :: H)) : Does P cx ⟨dst, .alloc t, ty, pos, af, gd⟩ r fz H K := by
  intro ρ w hr hw
  have hzr := run_zero T hT w
  have : (execOp ρ ⟨dst, .alloc t, ty, pos, af, gd⟩).run P w = .ok (.value (.pointer (some ⟨w.heap.size, 0, none⟩))) (w.alloc (.cells cs.toArray t (0, 0))) := by
    simp [execOp, Instr.alloc, hzr, newVar, newRow, newObj, Sem.run, hz]
  rw [this]
  exact ⟨fz, _, hw.alloc _, h _⟩
theorem k_box (t : TypeId) {x : Operand} {v : Value} {cs : List Value} {K : Value → FZ → HP → Prop} (hx : r x = some v) (hz : v.cells = cs.toArray)
    (h : ∀ g, K (.pointer (some ⟨g, 0, none⟩)) fz ((g, .cells cs.toArray t (0, 0)) :: H)) : Does P cx ⟨dst, .box t x, ty, pos, af, gd⟩ r fz H K := by
  intro ρ w hr hw
  have : (execOp ρ ⟨dst, .box t x, ty, pos, af, gd⟩).run P w = .ok (.value (.pointer (some ⟨w.heap.size, 0, none⟩))) (w.alloc (.cells cs.toArray t (0, 0))) := by
    simp [execOp, Instr.box, hr _ _ hx, newVar, newRow, newObj, Sem.run, hz]
  rw [this]
  exact ⟨fz, _, hw.alloc _, h _⟩
theorem k_store (T : Tab P) {t t' : TypeId} {x y : Operand} {X : Ty} {pre post : HP} {g j : Nat} {v : Value} {cs cs' : List Value} {K : Value → FZ → HP → Prop} (hT : T.inf t = some X)
    (hx : r x = some (.pointer (some ⟨g, j, none⟩))) (hy : r y = some v) (hH : H = pre ++ (g, .cells cs.toArray t' (0, 0)) :: post) (hs : X.size = v.cells.toList.length) (h1 : v.cells.toList.all (·.oneCell') = true) (hc : wrL cs j v.cells.toList = some cs')
    (h : K undef fz (pre ++ (g, .cells cs'.toArray t' (0, 0)) :: post)) : Does P cx ⟨dst, .store t x y, ty, pos, af, gd⟩ r fz H K := by
  intro ρ w hr hw
  subst hH
  have hb := (hw.hp.own (g, .cells cs.toArray t' (0, 0)) (by simp)).1
  obtain ⟨hle, he⟩ := wrL_eq cs j _ cs' hc
  have hst := run_storeCells_at (P := P) g j t' v.cells.toList 0 cs.toArray w hb (by simpa using hle) (fun u hu => List.all_eq_true.1 h1 u hu)
  simp only [Nat.add_zero] at hst
  rw [← he] at hst
  have hz := run_sizeOf T hT w
  rw [hs] at hz
  have : (execOp ρ ⟨dst, .store t x y, ty, pos, af, gd⟩).run P w = .ok .skip (w.setRow g cs'.toArray) := by
    simp only [execOp, hr _ _ hx, hr _ _ hy, Instr.storeAt, Instr.sureAddr, Sem.run_bind, Sem.run_pure, Result.andThen_ok, storeVar, hz]
    simp [hst]
  rw [this]
  refine ⟨fz, _, hw.write (o' := .cells cs'.toArray t' (0, 0)) rfl rfl rfl (by simp) ?_ (fun k hk => ?_), h⟩
  · simp [World.setRow, Array.getElem?_modify, hb]
  · simp only [World.setRow, Array.getElem?_modify]
    rw [if_neg (by omega)]
section
variable (T : Tab P) {t t' : TypeId} {x y : Operand} {X : Ty} {H' : HP} {g j : Nat} {v : Value} {cs cs' : List Value} {K : Value → FZ → HP → Prop} {a0 a1 a2 a3 : Nat × Obj}
theorem k_store0 (hT : T.inf t = some X) (hx : r x = some (.pointer (some ⟨g, j, none⟩))) (hy : r y = some v) (hs : X.size = v.cells.toList.length) (h1 : v.cells.toList.all (·.oneCell') = true) (hc : wrL cs j v.cells.toList = some cs')
    (h : K undef fz ((g, .cells cs'.toArray t' (0, 0)) :: H')) : Does P cx ⟨dst, .store t x y, ty, pos, af, gd⟩ r fz ((g, .cells cs.toArray t' (0, 0)) :: H') K :=
  k_store T (pre := []) hT hx hy rfl hs h1 hc h
theorem k_store1 (hT : T.inf t = some X) (hx : r x = some (.pointer (some ⟨g, j, none⟩))) (hy : r y = some v) (hs : X.size = v.cells.toList.length) (h1 : v.cells.toList.all (·.oneCell') = true) (hc : wrL cs j v.cells.toList = some cs')
    (h : K undef fz (a0 :: (g, .cells cs'.toArray t' (0, 0)) :: H')) : Does P cx ⟨dst, .store t x y, ty, pos, af, gd⟩ r fz (a0 :: (g, .cells cs.toArray t' (0, 0)) :: H') K :=
  k_store T (pre := [a0]) hT hx hy rfl hs h1 hc h
theorem k_store2 (hT : T.inf t = some X) (hx : r x = some (.pointer (some ⟨g, j, none⟩))) (hy : r y = some v) (hs : X.size = v.cells.toList.length) (h1 : v.cells.toList.all (·.oneCell') = true) (hc : wrL cs j v.cells.toList = some cs')
    (h : K undef fz (a0 :: a1 :: (g, .cells cs'.toArray t' (0, 0)) :: H')) : Does P cx ⟨dst, .store t x y, ty, pos, af, gd⟩ r fz (a0 :: a1 :: (g, .cells cs.toArray t' (0, 0)) :: H') K :=
  k_store T (pre := [a0, a1]) hT hx hy rfl hs h1 hc h
theorem k_store3 (hT : T.inf t = some X) (hx : r x = some (.pointer (some ⟨g, j, none⟩))) (hy : r y = some v) (hs : X.size = v.cells.toList.length) (h1 : v.cells.toList.all (·.oneCell') = true) (hc : wrL cs j v.cells.toList = some cs')
    (h : K undef fz (a0 :: a1 :: a2 :: (g, .cells cs'.toArray t' (0, 0)) :: H')) : Does P cx ⟨dst, .store t x y, ty, pos, af, gd⟩ r fz (a0 :: a1 :: a2 :: (g, .cells cs.toArray t' (0, 0)) :: H') K :=
  k_store T (pre := [a0, a1, a2]) hT hx hy rfl hs h1 hc h
end
theorem k_store_row (T : Tab P) {t t' : TypeId} {x y : Operand} {X : Ty} {pre post : HP} {g j : Nat} {v : Value} {cs : List Value} {K : Value → FZ → HP → Prop} (hT : T.inf t = some X)
    (hx : r x = some (.pointer (some ⟨g, j, none⟩))) (hy : r y = some v) (hH : H = pre ++ (g, .cells cs.toArray t' (0, 0)) :: post) (hs : X.size = 1) (hv : v.cells = #[v]) (h1 : v.oneCell' = true) (hj : j < cs.length)
    (h : K undef fz (pre ++ (g, .cells (cs.set j v).toArray t' (0, 0)) :: post)) : Does P cx ⟨dst, .store t x y, ty, pos, af, gd⟩ r fz H K := by
  have hw : wrL cs j [v] = some (cs.set j v) := by
    clear hH hx h
    induction cs generalizing j with
    | nil => simp at hj
    | cons c cs ih =>
      cases j with
      | zero => cases cs <;> simp [wrL]
      | succ j => simp only [wrL, ih (by simpa using hj)]; rfl
  exact k_store T hT hx hy hH (by simp [hv, hs]) (by simp [hv, h1]) (by rw [hv]; exact hw) h
theorem k_buildSlice (T : Tab P) {t e : TypeId} {len : Nat} {ps : List (Nat × Operand)} {X Y : Ty} {vs cs : List Value} {K : Value → FZ → HP → Prop} (hT : T.inf t = some X) (hd : X.desc = .slice e) (hY : T.inf e = some Y) (hn : Nat.beq (len * Y.size) 0 = false) (hl : Nat.ble (len * Y.size) 16777216 = true)
    (hzs : Nat.beq Y.zero.cells.toList.length Y.size = true) (hv : rds r (ps.map (·.2)) = some vs) (hc : fillL (fun i => some (i * Y.size, Y.size)) (repZ Y.zero.cells.toList len) ((ps.map (·.1)).zip vs) = some cs)
    (h : ∀ g, K (.slice (some ⟨g, 0, none⟩) len len) fz ((g, .cells cs.toArray e (0, 0)) :: H)) : Does P cx ⟨dst, .buildSlice t len ps.toArray, ty, pos, af, gd⟩ r fz H K := by
  intro ρ w hr hw
  have hu := run_underlying (und_plain T hT hd rfl) w
  have hsz := run_sizeOf T hY w
  have hz := run_zero T hY w
  have hn' : ¬ len * Y.size = 0 := fun he => by rw [he] at hn; cases hn
  have hl' : ¬ len * Y.size > 2 ^ 24 := by have := Nat.le_of_ble_eq_true hl; omega
  have hps' : (ps.toArray.map fun x => match x with | (i, x) => (i, ρ x)).toList = (ps.map (·.1)).zip vs := by
    rw [← reads_parts hr ps vs hv]; simp
  have : (execOp ρ ⟨dst, .buildSlice t len ps.toArray, ty, pos, af, gd⟩).run P w = .ok (.value (.slice (some ⟨w.heap.size, 0, none⟩) len len)) (w.alloc (.cells cs.toArray e (0, 0))) := by
    have hc' : Instr.fill (fun i => some (i * Y.size, Y.size)) ((Array.range (len * Y.size)).map (Y.zero.cells[· % Y.zero.cells.size]!)) ((ps.map (·.1)).zip vs) = some cs.toArray := by
      rw [repZ_eq Y.zero.cells len Y.size (by simpa using Nat.eq_of_beq_eq_true hzs)]
      exact fill_eq _ _ _ hc
    simp only [execOp, Instr.buildSlice, Sem.run_bind, hu, Result.andThen_ok, hsz, if_neg hl', if_neg hn', Sem.run_pure, hz, hps', hc', newRow, newObj, Sem.run]
    rfl
  rw [this]
  exact ⟨fz, _, hw.alloc _, h _⟩
def Callable (P : Program) (f : FuncId) : Prop := ∃ fn, P.funcs[f]? = some fn ∧ (fn.name == "runtime.NumGoroutine") = false ∧ fn.body.isNone = false
theorem Callable.run {f : FuncId} (h : Callable P f) (args : Array Value) (w : World) : (callFunc f args).run P w = .ok (.enter f args) w := by
  obtain ⟨fn, h1, h2, h3⟩ := h
  have h2' : ¬ fn.name = "runtime.NumGoroutine" := by simpa using h2
  have h3' : ¬ fn.body = none := fun h => by rw [h] at h3; cases h3
  simp [callFunc, program, Sem.run, h1, h2', h3']
def QFn (P : Program) (f : FuncId) (args : List Value) (fz : FZ) (v : Value) : Prop :=
  Callable P f ∧ ∀ w, Hp fz [] w → Calls P f args.toArray w fun e w' => e = .returned v ∧ Fr [] w w'
def GFn (P : Program) (f : FuncId) (args : List Value) (fz : FZ) (H : HP) (R : Value → FZ → HP → Prop) : Prop :=
  Callable P f ∧ ∀ w, Hp fz H w → Calls P f args.toArray w fun e w' => ∃ v fz' H', e = .returned v ∧ R v fz' H' ∧ Hp fz' H' w' ∧ Fr (H.map Prod.fst) w w' ∧ New w.heap.size (H.map Prod.fst) fz fz' H'
theorem Inv.called {w w' : World} {Hf Hr H' : HP} {fz' : FZ} (h : Inv cx fz (Hf ++ Hr) w) (h1 : Hp fz' H' w') (h2 : Fr (Hf.map Prod.fst) w w') (h3 : New w.heap.size (Hf.map Prod.fst) fz fz' H') : Inv cx fz' (H' ++ Hr) w' := by
  obtain ⟨⟨a, b, c⟩, d, e⟩ := h
  have hnd : ∀ p ∈ Hr, p.1 ∉ Hf.map Prod.fst := by
    intro p hp hm
    rw [List.map_append, List.nodup_append] at c
    exact c.2.2 p.1 hm p.1 (List.mem_map.2 ⟨p, hp, rfl⟩) rfl
  have hSub : ∀ x ∈ Hf.map Prod.fst, x ∈ cx.S ∨ cx.w0.heap.size ≤ x := by
    intro x hx
    obtain ⟨p, hp, rfl⟩ := List.mem_map.1 hx
    exact e.own p (by simp [hp])
  refine ⟨⟨h1.keep, fun p hp => ?_, ?_⟩, d.trans h2 hSub, ⟨fun x o hx => h3.le x o (e.le x o hx), fun x hx hn => ?_, fun p hp => ?_⟩⟩
  · rcases List.mem_append.1 hp with hp | hp
    · exact h1.own p hp
    · have h4 := b p (by simp [hp])
      have h5 := lt_of_heap h4.1
      exact ⟨by rw [h2.block _ h5 (hnd p hp)]; exact h4.1, by rw [h3.old _ h5 (hnd p hp)]; exact h4.2⟩
  · rw [List.map_append, List.nodup_append]
    refine ⟨h1.nd, ?_, fun x hx y hy hxy => ?_⟩
    · rw [List.map_append, List.nodup_append] at c; exact c.2.1
    · obtain ⟨p, hp, rfl⟩ := List.mem_map.1 hx
      obtain ⟨q, hq, rfl⟩ := List.mem_map.1 hy
      have h5 := lt_of_heap (b q (by simp [hq])).1
      rcases h3.own p hp with h6 | h6
      · exact hnd q hq (hxy ▸ h6)
      · omega
  · rw [h3.old x (by have := d.size; omega) (fun hc => by rcases hSub x hc with h6 | h6; exact hn h6; omega)]
    exact e.old x hx hn
  · rcases List.mem_append.1 hp with hp | hp
    · rcases h3.own p hp with h6 | h6
      · exact hSub _ h6
      · have := d.size; exact .inr (by omega)
    · exact e.own p (by simp [hp])
theorem run_call {ρ : Operand → Value} {f : FuncId} (hr : Reads r ρ) {ff : Operand} {xs : List Operand} {ats : Array TypeId} {us vs : List Value} {first capt : List Value} (hf : r ff = some (.func (.func f) first.toArray capt.toArray)) (hx : rds r xs = some us) (hv : first ++ us ++ capt = vs) (hc : Callable P f) (w : World) :
    (execOp ρ ⟨dst, .call { callee := .value ff, args := xs.toArray, argTypes := ats }, ty, pos, af, gd⟩).run P w = .ok (.enter f vs.toArray) w := by
  subst hv
  simp [execOp, resolve, Deferred.ofValue, invoke, hr _ _ hf, hr.all xs us hx, hc.run]
theorem q_call {f : FuncId} {xs : List Operand} {ats : Array TypeId} {vs : List Value} {v : Value} (hx : rds r xs = some vs) (hf : r (.func f) = some (.func (.func f) #[] #[])) (hq : QFn P f vs fz v) (h : V v) :
    DoesQ P cx ⟨dst, .call { callee := .value (.func f), args := xs.toArray, argTypes := ats }, ty, pos, af, gd⟩ r fz H V :=
  ⟨v, h, fun ρ w hr hw => by
    rw [run_call hr (first := []) (capt := []) hf hx (vs := vs) (by simp) hq.1]
    exact (hq.2 w ⟨hw.hp.keep, by simp, by simp⟩).mono fun e w' ⟨he, hfr⟩ => ⟨v, he, rfl, hfr⟩⟩
theorem q_callB {f : FuncId} {xs : List Operand} {ats : Array TypeId} {vs : List Value} {b : Bool} (hx : rds r xs = some vs) (hf : r (.func f) = some (.func (.func f) #[] #[])) (hq : QFn P f vs fz (.bool b)) (h1 : b = true → V (.bool true)) (h2 : b = false → V (.bool false)) :
    DoesQ P cx ⟨dst, .call { callee := .value (.func f), args := xs.toArray, argTypes := ats }, ty, pos, af, gd⟩ r fz H V :=
  q_call hx hf hq (v_bool h1 h2)
theorem q_callv {f : FuncId} {ff : Operand} {xs : List Operand} {ats : Array TypeId} {us vs first capt : List Value} {v : Value} (hf : r ff = some (.func (.func f) first.toArray capt.toArray)) (hx : rds r xs = some us) (hv : first ++ us ++ capt = vs) (hq : QFn P f vs fz v) (h : V v) :
    DoesQ P cx ⟨dst, .call { callee := .value ff, args := xs.toArray, argTypes := ats }, ty, pos, af, gd⟩ r fz H V :=
  ⟨v, h, fun ρ w hr hw => by
    rw [run_call hr hf hx hv hq.1]
    exact (hq.2 w ⟨hw.hp.keep, by simp, by simp⟩).mono fun e w' ⟨he, hfr⟩ => ⟨v, he, rfl, hfr⟩⟩
theorem k_call {f : FuncId} {xs : List Operand} {ats : Array TypeId} {vs : List Value} {R : Value → FZ → HP → Prop} {K : Value → FZ → HP → Prop} (Hf Hr : HP) (hH : H = Hf ++ Hr) (hx : rds r xs = some vs) (hf : r (.func f) = some (.func (.func f) #[] #[])) (hq : GFn P f vs fz Hf R)
    (h : ∀ v fz' H', Le fz fz' → R v fz' H' → K v fz' (H' ++ Hr)) :
    Does P cx ⟨dst, .call { callee := .value (.func f), args := xs.toArray, argTypes := ats }, ty, pos, af, gd⟩ r fz H K := by
  subst hH
  intro ρ w hr hw
  rw [run_call hr (first := []) (capt := []) hf hx (vs := vs) (by simp) hq.1]
  refine (hq.2 w ⟨hw.hp.keep, fun p hp => hw.hp.own p (by simp [hp]), ?_⟩).mono fun e w' ⟨v, fz', H', he, hR, h1, h2, h3⟩ => ⟨v, he, fz', _, hw.called h1 h2 h3, h v fz' H' h3.le hR⟩
  have := hw.hp.nd
  rw [List.map_append, List.nodup_append] at this
  exact this.1
def retQ (P : Program) (cx : Cx) (n : Nat) (fn : Func) (R : Value → FZ → HP → Prop) : QQ
  | .normal, σ, fz, H => ∃ v, (∀ a w, Sat n σ a → Inv cx fz H w → (results fn a.tmps).run P w = .ok v w) ∧ ∀ w, Inv cx fz H w → ∃ fz' H', Inv cx fz' H' w ∧ R v fz' H'
  | .ret, σ, fz, H => ∃ v, (∀ a w, Sat n σ a → Inv cx fz H w → (results fn a.tmps).run P w = .ok v w) ∧ ∀ w, Inv cx fz H w → ∃ fz' H', Inv cx fz' H' w ∧ R v fz' H'
  | _, _, _, _ => False
def envOf : List Value → Nat → Env
  | [], _ => []
  | v :: r, i => (i, v) :: envOf r (i + 1)
theorem lk_envOf : ∀ (vs : List Value) (k i : Nat) (v : Value), lk (envOf vs k) i = some v → k ≤ i ∧ vs[i - k]? = some v
  | [], _, _, _, h => by cases h
  | u :: r, k, i, v, h => by
    unfold envOf at h
    by_cases he : k = i
    · subst he; rw [lk_cons_same] at h; injection h with h; subst h; simp
    · rw [lk_cons_ne _ _ he] at h
      obtain ⟨h1, h2⟩ := lk_envOf r (k + 1) i v h
      refine ⟨by omega, ?_⟩
      rw [show i - k = (i - (k + 1)) + 1 from by omega]
      simpa using h2
theorem GFn.of_wp {f : FuncId} {fn : Func} {c : Code} {n : Nat} {args : List Value} {R : Value → FZ → HP → Prop} (hf : P.funcs[f]? = some fn) (hb : fn.body = some c) (hn : fn.ntmps = n) (ha : Nat.ble args.length n = true) (hname : (fn.name == "runtime.NumGoroutine") = false)
    (h : ∀ w0, Wp P ⟨w0, H.map Prod.fst, fz⟩ n c (envOf args 0) fz H (retQ P ⟨w0, H.map Prod.fst, fz⟩ n fn R)) : GFn P f args fz H R := by
  refine ⟨⟨fn, hf, hname, by simp [hb]⟩, fun w hw => calls_of_wp hf hb ?_⟩
  have ha' := Nat.le_of_ble_eq_true ha
  refine wp_mono (h w _ w ⟨by simp [hn]; omega, rfl, fun i v hv => ?_⟩ ⟨hw, Fr.refl _ _, ⟨fun _ _ h => h, fun _ _ _ => rfl, fun p hp => .inl (List.mem_map.2 ⟨p, hp, rfl⟩)⟩⟩) fun e a w' hh => ?_
  · have h1 := (lk_envOf args 0 i v hv).2
    simp only [Nat.sub_zero] at h1
    have h2 : i < args.length := (List.getElem?_eq_some_iff.1 h1).1
    rw [Array.getElem?_append_left (by simpa using h2)]
    simpa using h1
  · obtain ⟨σ, fz', H1, h1, h2, h3⟩ := hh
    cases e with
    | normal =>
      obtain ⟨v, h4, h5⟩ := h3
      obtain ⟨fz2, H2, h7, h8⟩ := h5 w' h2
      exact ⟨h1.defers, v, h4 a w' h1 h2, v, fz2, H2, rfl, h8, h7.hp, h7.fr, h7.nw⟩
    | ret =>
      obtain ⟨v, h4, h5⟩ := h3
      obtain ⟨fz2, H2, h7, h8⟩ := h5 w' h2
      exact ⟨h1.defers, v, h4 a w' h1 h2, v, fz2, H2, rfl, h8, h7.hp, h7.fr, h7.nw⟩
    | _ => exact h3.elim
theorem GFn.quiet {f : FuncId} {args : List Value} {v : Value} (h : GFn P f args fz [] fun u _ _ => u = v) : QFn P f args fz v :=
  ⟨h.1, fun w hw => (h.2 w hw).mono fun e w' ⟨u, fz', H', he, hu, _, h2, _⟩ => by subst hu; exact ⟨he, h2⟩⟩
theorem GFn.mono {f : FuncId} {args : List Value} {R R' : Value → FZ → HP → Prop} (h : GFn P f args fz H R) (hr : ∀ v fz' H', R v fz' H' → R' v fz' H') : GFn P f args fz H R' :=
  ⟨h.1, fun w hw => (h.2 w hw).mono fun _ _ ⟨u, fz', H', he, hu, h1⟩ => ⟨u, fz', H', he, hr _ _ _ hu, h1⟩⟩
theorem freezeAll_inv {w : World} : ∀ (H2 : HP) (fz : FZ) (H1 : HP), Inv cx fz (H1 ++ H2) w → ∃ fz', Le fz fz' ∧ (∀ p ∈ H2, fz' p.1 = some p.2) ∧ Inv cx fz' H1 w
  | [], fz, H1, h => ⟨fz, Le.refl _, by simp, by simpa using h⟩
  | (g, o) :: r, fz, H1, h => by
    have h1 : Inv cx fz ((g, o) :: (H1 ++ r)) w := h.perm (List.perm_middle.symm)
    obtain ⟨h2, h3⟩ := h1.freeze
    obtain ⟨fz', h4, h5, h6⟩ := freezeAll_inv r (upd fz g o) H1 h2
    refine ⟨fz', h3.trans h4, fun p hp => ?_, h6⟩
    cases hp with
    | head => exact h4 g o (by simp [upd])
    | tail _ hp => exact h5 p hp
section
variable {n : Nat} {fn : Func} {R : Value → FZ → HP → Prop} {σ : Env} {H' : HP}
theorem ret_of {v : Value} (h : ∀ a w, Sat n σ a → Inv cx fz H w → (results fn a.tmps).run P w = .ok v w) (hR : ∀ w, Inv cx fz H w → ∃ fz' H', Inv cx fz' H' w ∧ R v fz' H') : retQ P cx n fn R .ret σ fz H := ⟨v, h, hR⟩
theorem rPlain {v : Value} (hH : H'.Sublist H) (h : R v fz H') : ∀ w, Inv cx fz H w → ∃ fz' H', Inv cx fz' H' w ∧ R v fz' H' := fun _ hi => ⟨fz, H', hi.forget hH, h⟩
theorem rFreeze {v : Value} (h : ∀ fz', Le fz fz' → (∀ p ∈ H, fz' p.1 = some p.2) → R v fz' []) : ∀ w, Inv cx fz H w → ∃ fz' H', Inv cx fz' H' w ∧ R v fz' H' := fun _ hi => by
  obtain ⟨fz', h1, h2, h3⟩ := freezeAll_inv H fz [] (by simpa using hi)
  exact ⟨fz', [], h3, h fz' h1 h2⟩
theorem ret1' {t : Nat} {v : Value} (hres : fn.results = #[.tmp t]) (hv : lk σ t = some v) (h : ∀ w, Inv cx fz H w → ∃ fz' H', Inv cx fz' H' w ∧ R v fz' H') : retQ P cx n fn R .ret σ fz H :=
  ⟨v, fun a w hs _ => by rw [results_tmp hres]; simp [hs.slot t v hv], h⟩
theorem ret2' {t u : Nat} {v x : Value} (hres : fn.results = #[.tmp t, .tmp u]) (hv : lk σ t = some v) (hx : lk σ u = some x) (h : ∀ w, Inv cx fz H w → ∃ fz' H', Inv cx fz' H' w ∧ R (.tuple #[v, x]) fz' H') : retQ P cx n fn R .ret σ fz H :=
  ⟨_, fun a w hs _ => by rw [results_tmp2 hres]; simp [hs.slot t v hv, hs.slot u x hx], h⟩
theorem ret_cell' (T : Tab P) {p : Nat} {t t' : TypeId} {X : Ty} {g i : Nat} {cs : List Value} {f : Nat × Nat} (hres : fn.results = #[.cell p t]) (hT : T.inf t = some X) (hd : isAggD X.desc = true) (hv : lk σ p = some (.pointer (some ⟨g, 0, none⟩)))
    (hi : H[i]? = some (g, .cells cs.toArray t' f)) (hsz : X.size = cs.length) (h : ∀ w, Inv cx fz H w → ∃ fz' H', Inv cx fz' H' w ∧ R (.agg cs.toArray) fz' H') : retQ P cx n fn R .ret σ fz H :=
  ⟨_, fun a w hs hw => by
    have hc : ∀ j v, cs[j]? = some v → w.cell? ((⟨g, 0, none⟩ : Addr).add j) = some v := fun j v hv => by
      have hadd : (⟨g, 0, none⟩ : Addr).add j = ⟨g, j, none⟩ := by unfold Addr.add; split <;> simp_all
      rw [hadd, hw.cellOwn hi]; simpa using hv
    simp [results, hres, hs.slot p _ hv, asAddr, run_loadN T hT hd hsz hc], h⟩
theorem ret2F {t u : Nat} {v x : Value} (hres : fn.results = #[.tmp t, .tmp u]) (hv : lk σ t = some v) (hx : lk σ u = some x) (h : ∀ fz', Le fz fz' → (∀ p ∈ H, fz' p.1 = some p.2) → R (.tuple #[v, x]) fz' []) : retQ P cx n fn R .ret σ fz H := ret2' hres hv hx (rFreeze h)
theorem ret_cellF (T : Tab P) {p : Nat} {t t' : TypeId} {X : Ty} {g i : Nat} {cs : List Value} {f : Nat × Nat} (hres : fn.results = #[.cell p t]) (hT : T.inf t = some X) (hd : isAggD X.desc = true) (hv : lk σ p = some (.pointer (some ⟨g, 0, none⟩)))
    (hi : H[i]? = some (g, .cells cs.toArray t' f)) (hsz : X.size = cs.length) (h : ∀ fz', Le fz fz' → (∀ p ∈ H, fz' p.1 = some p.2) → R (.agg cs.toArray) fz' []) : retQ P cx n fn R .ret σ fz H := ret_cell' T hres hT hd hv hi hsz (rFreeze h)
theorem ret1 {t : Nat} {v : Value} (hres : fn.results = #[.tmp t]) (hv : lk σ t = some v) (hH : H'.Sublist H) (h : R v fz H') : retQ P cx n fn R .ret σ fz H := ret1' hres hv (rPlain hH h)
theorem ret2 {t u : Nat} {v x : Value} (hres : fn.results = #[.tmp t, .tmp u]) (hv : lk σ t = some v) (hx : lk σ u = some x) (hH : H'.Sublist H) (h : R (.tuple #[v, x]) fz H') : retQ P cx n fn R .ret σ fz H := ret2' hres hv hx (rPlain hH h)
end
end
theorem Does.of {P : Program} {cx : Cx} {o : Oper} {r : Operand → Option Value} {fz : FZ} {H : HP} {K : Value → FZ → HP → Prop} (h : ∀ ρ w, Reads r ρ → Inv cx fz H w → OpPost P (fun v w' => ∃ fz' H', Inv cx fz' H' w' ∧ K v fz' H') ((execOp ρ o).run P w)) : Does P cx o r fz H K := h
theorem Does.run {P : Program} {cx : Cx} {o : Oper} {r : Operand → Option Value} {fz : FZ} {H : HP} {K : Value → FZ → HP → Prop} (h : Does P cx o r fz H K) : ∀ ρ w, Reads r ρ → Inv cx fz H w → OpPost P (fun v w' => ∃ fz' H', Inv cx fz' H' w' ∧ K v fz' H') ((execOp ρ o).run P w) := h
theorem DoesQ.of {P : Program} {cx : Cx} {o : Oper} {r : Operand → Option Value} {fz : FZ} {H : HP} {V : Value → Prop} {v : Value} (hv : V v) (h : ∀ ρ w, Reads r ρ → Inv cx fz H w → OpPost P (fun v' w' => v' = v ∧ Fr [] w w') ((execOp ρ o).run P w)) : DoesQ P cx o r fz H V := ⟨v, hv, h⟩
theorem Wp.of {P : Program} {cx : Cx} {n : Nat} {c : Code} {σ : Env} {fz : FZ} {H : HP} {Q : QQ} (h : ∀ a w, Sat n σ a → Inv cx fz H w → c.wp P (lift cx n Q) a w) : Wp P cx n c σ fz H Q := h
theorem Wp.run {P : Program} {cx : Cx} {n : Nat} {c : Code} {σ : Env} {fz : FZ} {H : HP} {Q : QQ} (h : Wp P cx n c σ fz H Q) : ∀ a w, Sat n σ a → Inv cx fz H w → c.wp P (lift cx n Q) a w := h
theorem Seq.of {P : Program} {cx : Cx} {n : Nat} {ops : Array Oper} {l : List Oper} {σ : Env} {fz : FZ} {H : HP} {Q : QQ} (h : ∀ a w, Sat n σ a → Inv cx fz H w → wpList P ops (lift cx n Q) l a w) : Seq P cx n ops l σ fz H Q := h
theorem Seq.run {P : Program} {cx : Cx} {n : Nat} {ops : Array Oper} {l : List Oper} {σ : Env} {fz : FZ} {H : HP} {Q : QQ} (h : Seq P cx n ops l σ fz H Q) : ∀ a w, Sat n σ a → Inv cx fz H w → wpList P ops (lift cx n Q) l a w := h
theorem GFn.of {P : Program} {f : FuncId} {args : List Value} {fz : FZ} {H : HP} {R : Value → FZ → HP → Prop} (hc : Callable P f) (h : ∀ w, Hp fz H w → Calls P f args.toArray w fun e w' => ∃ v fz' H', e = .returned v ∧ R v fz' H' ∧ Hp fz' H' w' ∧ Fr (H.map Prod.fst) w w' ∧ New w.heap.size (H.map Prod.fst) fz fz' H') : GFn P f args fz H R := ⟨hc, h⟩
theorem GFn.out {P : Program} {f : FuncId} {args : List Value} {fz : FZ} {H : HP} {R : Value → FZ → HP → Prop} (h : GFn P f args fz H R) : ∀ w, Hp fz H w → Calls P f args.toArray w fun e w' => ∃ v fz' H', e = .returned v ∧ R v fz' H' ∧ Hp fz' H' w' ∧ Fr (H.map Prod.fst) w w' ∧ New w.heap.size (H.map Prod.fst) fz fz' H' := h.2
theorem QFn.out {P : Program} {f : FuncId} {args : List Value} {fz : FZ} {v : Value} (h : QFn P f args fz v) : ∀ w, Hp fz [] w → Calls P f args.toArray w fun e w' => e = .returned v ∧ Fr [] w w' := h.2
attribute [irreducible] DoesQ Does Wp Seq QL QK Ch GFn QFn andThen blkQ loopQ retQ
end Go.Lx
namespace Go.Lx
open Go.RowKit
section
variable {P : Program} {cx : Cx} {n : Nat} {σ : Env} {fz : FZ} {H : HP} {Q : QQ} {ops : Array Oper} {rest : List Oper}
theorem Zq {d : Nat} {op : Op} {ty : TypeId} {pos : String} {af : Array Edge} (h : DoesQ P cx ⟨some d, op, ty, pos, af, none⟩ (rd σ) fz H fun v => Seq P cx n ops rest ((d, v) :: σ) fz H Q) (hd : Nat.blt d n = true := by exact rfl) :
    Seq P cx n ops (⟨some d, op, ty, pos, af, none⟩ :: rest) σ fz H Q := Seq.q hd h
theorem Zy {d : Nat} {op : Op} {ty : TypeId} {pos : String} {af : Array Edge} {j s : Nat} {c : Bool}
    (h : DoesQ P cx ⟨some d, op, ty, pos, af, some (j, c)⟩ (rd σ) fz H fun v => Seq P cx n ops rest ((d, v) :: σ) fz H Q)
    (hd : Nat.blt d n = true := by exact rfl) (hj : (ops[j]?).bind (·.dst) = some s := by exact rfl) (hv : lk σ s = some (.bool c) := by exact rfl) :
    Seq P cx n ops (⟨some d, op, ty, pos, af, some (j, c)⟩ :: rest) σ fz H Q := Seq.guard_yes hd hj hv h
theorem Zn {d : Nat} {op : Op} {ty : TypeId} {pos : String} {af : Array Edge} {j s : Nat} {b c : Bool} (h : Seq P cx n ops rest ((d, undef) :: σ) fz H Q)
    (hd : Nat.blt d n = true := by exact rfl) (hj : (ops[j]?).bind (·.dst) = some s := by exact rfl) (hv : lk σ s = some (.bool c) := by exact rfl) (hb : b = !c := by exact rfl) :
    Seq P cx n ops (⟨some d, op, ty, pos, af, some (j, b)⟩ :: rest) σ fz H Q := Seq.guard_no hd hj hv hb h
theorem Zo {d : Nat} {op : Op} {ty : TypeId} {pos : String} {af : Array Edge} {j s : Nat} {b : Bool} (h : Seq P cx n ops rest ((d, undef) :: σ) fz H Q)
    (hd : Nat.blt d n = true := by exact rfl) (hj : (ops[j]?).bind (·.dst) = some s := by exact rfl) (hv : lk σ s = some undef := by exact rfl) :
    Seq P cx n ops (⟨some d, op, ty, pos, af, some (j, b)⟩ :: rest) σ fz H Q := Seq.guard_off hd hj hv h
theorem Zc {c : Operand} {x y : Code} (ht : Wp P cx n x σ fz H Q) (hc : rd σ c = some (.bool true) := by exact rfl) : Wp P cx n (.cond c x y) σ fz H Q := Wp.cond_true hc ht
theorem Zd {c : Operand} {x y : Code} (hf : Wp P cx n y σ fz H Q) (hc : rd σ c = some (.bool false) := by exact rfl) : Wp P cx n (.cond c x y) σ fz H Q := Wp.cond_false hc hf
end
section
variable {P : Program} {cx : Cx} {r : Operand → Option Value} {fz : FZ} {H : HP} {V : Value → Prop} {dst : Option Nat} {ty : TypeId} {pos : String} {af : Array Edge} {gd : Option (Nat × Bool)}
theorem Zm {x : Operand} {v : Value} (h : V v) (hx : r x = some v := by exact rfl) : DoesQ P cx ⟨dst, .move x, ty, pos, af, gd⟩ r fz H V := q_move hx h
theorem Za {x : Operand} {v : Value} (h : V v) (hx : r x = some v := by exact rfl) : DoesQ P cx ⟨dst, .assign x, ty, pos, af, gd⟩ r fz H V := q_assign hx h
theorem Zt {c x y : Operand} {v : Value} (h : V v) (hc : r c = some (.bool true) := by exact rfl) (hx : r x = some v := by exact rfl) : DoesQ P cx ⟨dst, .pick c x y, ty, pos, af, gd⟩ r fz H V := q_pick_true hc hx h
theorem Zu {c x y : Operand} {v : Value} (h : V v) (hc : r c = some (.bool false) := by exact rfl) (hy : r y = some v := by exact rfl) : DoesQ P cx ⟨dst, .pick c x y, ty, pos, af, gd⟩ r fz H V := q_pick_false hc hy h
theorem Zf (T : Tab P) {t : TypeId} {x : Operand} {i : Nat} {X Y : Ty} {fs : Array Field} {f : Field} {p : Addr} (h : V (.pointer (some (p.add f.offset)))) (hT : T.inf t = some X := by exact rfl) (hd : X.desc = .struct fs := by exact rfl) (hf : fs[i]? = some f := by exact rfl) (hY : T.inf f.type = some Y := by exact rfl) (hz : Nat.beq Y.size 0 = false := by exact rfl)
    (hx : r x = some (.pointer (some p)) := by exact rfl) : DoesQ P cx ⟨dst, .fieldAddr t x i, ty, pos, af, gd⟩ r fz H V := q_fieldAddr T hT hd hf hY hz hx h
theorem Zl (T : Tab P) {t t' : TypeId} {x : Operand} {X : Ty} {g j : Nat} {cs : List Value} {f : Nat × Nat} {v : Value} (i : Nat) (h : V v) (hT : T.inf t = some X := by exact rfl) (hd : isAggD X.desc = false := by exact rfl)
    (hx : r x = some (.pointer (some ⟨g, j, none⟩)) := by exact rfl) (hi : H[i]? = some (g, .cells cs.toArray t' f) := by exact rfl) (hv : cs[j]? = some v := by exact rfl) : DoesQ P cx ⟨dst, .load t x, ty, pos, af, gd⟩ r fz H V := q_load_own T i hT hd hx hi hv h
theorem ZL (T : Tab P) {t t' : TypeId} {x : Operand} {X : Ty} {g : Nat} {cs : List Value} {f : Nat × Nat} (i : Nat) (h : V (.agg cs.toArray)) (hT : T.inf t = some X := by exact rfl) (hd : isAggD X.desc = true := by exact rfl)
    (hx : r x = some (.pointer (some ⟨g, 0, none⟩)) := by exact rfl) (hi : H[i]? = some (g, .cells cs.toArray t' f) := by exact rfl) (hs : X.size = cs.length := by exact rfl) : DoesQ P cx ⟨dst, .load t x, ty, pos, af, gd⟩ r fz H V := q_load_own_all T i hT hd hx hi hs h
theorem Zs (T : Tab P) {t : TypeId} {x : Operand} {e : TypeId} {X : Ty} {A : Option Addr} {n c : Nat} (h : V (.int .i64 n)) (hT : T.inf t = some X := by exact rfl) (hd : X.desc = .slice e := by exact rfl) (hx : r x = some (.slice A n c) := by exact rfl) :
    DoesQ P cx ⟨dst, .call { callee := .builtin .len, args := #[x], argTypes := #[t] }, ty, pos, af, gd⟩ r fz H V := q_len_slice T hT hd hx h
theorem Ze {x : Operand} {i : Nat} {vs : Array Value} {v : Value} (h : V v) (hx : r x = some (.tuple vs) := by exact rfl) (hv : vs[i]? = some v := by exact rfl) : DoesQ P cx ⟨dst, .extract x i, ty, pos, af, gd⟩ r fz H V := q_extract hx hv h
end
theorem Zk {P : Program} {t : TypeId} {x : Ty} (h : (P.underlying t).map blank = some x.desc := by kernel_rfl) (h2 : (P.info? t).map (fun i => (i.size, i.bytes, i.zero)) = some (x.size, x.bytes, some x.zero) := by kernel_rfl) : TyOk P t x := TyOk.mk' h h2
end Go.Lx
namespace Go.Lx
open Go.RowKit
structure Lay (α : Type) where
  size : Nat
  rep : FZ → α → List Value → Prop
  len : ∀ {fz d cs}, rep fz d cs → cs.length = size
  mono : ∀ {fz fz' d cs}, Le fz fz' → rep fz d cs → rep fz' d cs
def At {α : Type} (L : Lay α) (fz : FZ) (p : Addr) (d : α) : Prop := ∃ cs, L.rep fz d cs ∧ Row fz p cs
theorem At.mono {α : Type} {L : Lay α} {fz fz' : FZ} (h : Le fz fz') {p : Addr} {d : α} (ha : At L fz p d) : At L fz' p d := by
  obtain ⟨cs, h1, h2⟩ := ha
  exact ⟨cs, L.mono h h1, h2.mono h⟩
structure Sl {α : Type} (L : Lay α) (fz : FZ) (A : Option Addr) (n c : Nat) (xs : List α) : Prop where
  len : xs.length = n
  cap : n ≤ c
  max : c ≤ 9223372036854775807
  short : n ≤ 140737488355328
  elem : n = 0 ∨ ∃ ad, A = some ad ∧ ∀ i d, xs[i]? = some d → At L fz (ad.add (i * L.size)) d
theorem Sl.mono {α : Type} {L : Lay α} {fz fz' : FZ} (h : Le fz fz') {A : Option Addr} {n c : Nat} {xs : List α} (hs : Sl L fz A n c xs) : Sl L fz' A n c xs :=
  ⟨hs.len, hs.cap, hs.max, hs.short, hs.elem.imp id fun ⟨ad, h1, h2⟩ => ⟨ad, h1, fun i d hd => (h2 i d hd).mono h⟩⟩
theorem Sl.nil {α : Type} {L : Lay α} {fz : FZ} {A : Option Addr} {c : Nat} (hc : c ≤ 9223372036854775807) : Sl L fz A 0 c ([] : List α) := ⟨rfl, Nat.zero_le _, hc, Nat.zero_le _, .inl rfl⟩
def I64 (n : Int) : Prop := -9223372036854775808 ≤ n ∧ n ≤ 9223372036854775807
def intL : Lay Int where
  size := 1
  rep := fun _ n cs => cs = [.int .i64 n] ∧ I64 n
  len := fun h => by simp [h.1]
  mono := fun _ h => h
def boolL : Lay Bool where
  size := 1
  rep := fun _ b cs => cs = [.bool b]
  len := fun h => by simp [h]
  mono := fun _ h => h
def strL : Lay ByteArray where
  size := 1
  rep := fun _ s cs => cs = [.string s] ∧ s.size ≤ 9223372036854775807
  len := fun h => by simp [h.1]
  mono := fun _ h => h
def slL {α : Type} (L : Lay α) : Lay (List α) where
  size := 1
  rep := fun fz xs cs => ∃ A n c, cs = [.slice A n c] ∧ Sl L fz A n c xs
  len := fun ⟨_, _, _, h, _⟩ => by simp [h]
  mono := fun hle ⟨A, n, c, h, hs⟩ => ⟨A, n, c, h, hs.mono hle⟩
section
variable {P : Program} {cx : Cx} {r : Operand → Option Value} {fz : FZ} {H : HP} {V : Value → Prop} {dst : Option Nat} {ty : TypeId} {pos : String} {af : Array Edge} {gd : Option (Nat × Bool)} {α : Type} {L : Lay α}
theorem q_index (T : Tab P) {t e : TypeId} {x i : Operand} {X Y : Ty} {A : Option Addr} {n c : Nat} {k : IntKind} {j : Int} {xs : List α} {d : α} (m : Nat) (hT : T.inf t = some X) (hd : X.desc = .slice e) (hY : T.inf e = some Y) (hL : Y.size = L.size)
    (hx : r x = some (.slice A n c)) (hi : r i = some (.int k j)) (h : Sl L fz A n c xs) (hj : j = m) (hm : xs[m]? = some d) (hV : ∀ p, At L fz p d → V (.pointer (some p))) : DoesQ P cx ⟨dst, .indexAddr t x i, ty, pos, af, gd⟩ r fz H V := by
  have hlt : m < xs.length := (List.getElem?_eq_some_iff.1 hm).1
  have h1 := h.len
  rcases h.elem with h2 | ⟨ad, rfl, h2⟩
  · omega
  · subst hj
    refine q_indexAddr T hT hd hY hx hi (by omega) (by omega) (hV _ ?_)
    rw [hL]
    simpa using h2 m d hm
theorem q_load_at (T : Tab P) {t : TypeId} {x : Operand} {X : Ty} {p : Addr} {d : α} (hT : T.inf t = some X) (hd : isAggD X.desc = true) (hx : r x = some (.pointer (some p))) (h : At L fz p d) (hs : X.size = L.size)
    (hV : ∀ cs, L.rep fz d cs → V (.agg cs.toArray)) : DoesQ P cx ⟨dst, .load t x, ty, pos, af, gd⟩ r fz H V := by
  obtain ⟨cs, h1, h2⟩ := h
  exact q_load_row T hT hd hx h2 (hs.trans (L.len h1).symm) (hV cs h1)
theorem At.cell {p : Addr} {d : α} (h : At L fz p d) (hs : L.size = 1) : ∃ v, L.rep fz d [v] ∧ cellF fz p = some v := by
  obtain ⟨cs, h1, h2⟩ := h
  have := L.len h1
  rw [hs] at this
  match cs, this with
  | [v], _ =>
    refine ⟨v, h1, ?_⟩
    have := h2 0 v rfl
    simpa [Addr.add] using this
theorem q_load_int (T : Tab P) {t : TypeId} {x : Operand} {X : Ty} {p : Addr} {d : Int} (hT : T.inf t = some X) (hd : isAggD X.desc = false) (hx : r x = some (.pointer (some p))) (h : At intL fz p d) (hV : I64 d → V (.int .i64 d)) : DoesQ P cx ⟨dst, .load t x, ty, pos, af, gd⟩ r fz H V := by
  obtain ⟨v, h1, h2⟩ := h.cell rfl
  obtain ⟨he, hi⟩ := h1
  injection he with he
  subst he
  exact q_load_cell T hT hd hx h2 (hV hi)
theorem q_load_sl (T : Tab P) {t : TypeId} {x : Operand} {X : Ty} {p : Addr} {d : List α} (hT : T.inf t = some X) (hd : isAggD X.desc = false) (hx : r x = some (.pointer (some p))) (h : At (slL L) fz p d) (hV : ∀ A n c, Sl L fz A n c d → V (.slice A n c)) : DoesQ P cx ⟨dst, .load t x, ty, pos, af, gd⟩ r fz H V := by
  obtain ⟨v, h1, h2⟩ := h.cell rfl
  obtain ⟨A, n, c, he, hs⟩ := h1
  injection he with he
  subst he
  exact q_load_cell T hT hd hx h2 (hV A n c hs)
end
theorem At.part {α β : Type} {L : Lay α} {L' : Lay β} {fz : FZ} {p : Addr} {d : α} {d' : β} (h : At L fz p d) (i : Nat) (hr : ∀ cs, L.rep fz d cs → ∃ v, cs[i]? = some v ∧ L'.rep fz d' [v]) : At L' fz (p.add i) d' := by
  obtain ⟨cs, h1, h2⟩ := h
  obtain ⟨v, h3, h4⟩ := hr cs h1
  refine ⟨[v], h4, fun j u hj => ?_⟩
  cases j with
  | zero =>
    simp at hj; subst hj
    have : (p.add i).add 0 = p.add i := by simp [Addr.add]
    rw [this]; exact h2 i v h3
  | succ j => simp at hj
structure Fact where
  var : Int
  val : Int
def factL : Lay Fact where
  size := 2
  rep := fun _ f cs => cs = [.int .i64 f.var, .int .i64 f.val] ∧ I64 f.var ∧ I64 f.val
  len := fun h => by simp [h.1]
  mono := fun _ h => h
theorem At.var {fz : FZ} {p : Addr} {f : Fact} (h : At factL fz p f) : At intL fz (p.add 0) f.var := h.part 0 fun _ h => ⟨_, by rw [h.1]; rfl, rfl, h.2.1⟩
theorem At.val {fz : FZ} {p : Addr} {f : Fact} (h : At factL fz p f) : At intL fz (p.add 1) f.val := h.part 1 fun _ h => ⟨_, by rw [h.1]; rfl, rfl, h.2.2⟩
structure Launch where
  at_ : Int
  job : Int
structure Job where
  name : ByteArray
  dur : Int
  start : List Fact
  over : List Fact
  fin : List Fact
  atStart : List Fact
  atEnd : List Fact
structure JobR (fz : FZ) (j : Job) (A1 : Option Addr) (n1 c1 : Nat) (A2 : Option Addr) (n2 c2 : Nat) (A3 : Option Addr) (n3 c3 : Nat) (A4 : Option Addr) (n4 c4 : Nat) (A5 : Option Addr) (n5 c5 : Nat) : Prop where
  name : j.name.size ≤ 9223372036854775807
  dur : I64 j.dur
  start : Sl factL fz A1 n1 c1 j.start
  over : Sl factL fz A2 n2 c2 j.over
  fin : Sl factL fz A3 n3 c3 j.fin
  atStart : Sl factL fz A4 n4 c4 j.atStart
  atEnd : Sl factL fz A5 n5 c5 j.atEnd
def jobL : Lay Job where
  size := 7
  rep := fun fz j cs => ∃ A1 n1 c1 A2 n2 c2 A3 n3 c3 A4 n4 c4 A5 n5 c5, cs = [.string j.name, .int .i64 j.dur, .slice A1 n1 c1, .slice A2 n2 c2, .slice A3 n3 c3, .slice A4 n4 c4, .slice A5 n5 c5] ∧ JobR fz j A1 n1 c1 A2 n2 c2 A3 n3 c3 A4 n4 c4 A5 n5 c5
  len := fun ⟨_, _, _, _, _, _, _, _, _, _, _, _, _, _, _, h, _⟩ => by simp [h]
  mono := fun hle ⟨A1, n1, c1, A2, n2, c2, A3, n3, c3, A4, n4, c4, A5, n5, c5, h, hj⟩ => ⟨A1, n1, c1, A2, n2, c2, A3, n3, c3, A4, n4, c4, A5, n5, c5, h, ⟨hj.name, hj.dur, hj.start.mono hle, hj.over.mono hle, hj.fin.mono hle, hj.atStart.mono hle, hj.atEnd.mono hle⟩⟩
section
variable {fz : FZ} {p : Addr} {j : Job}
theorem At.name (h : At jobL fz p j) : At strL fz (p.add 0) j.name := h.part 0 fun _ ⟨_, _, _, _, _, _, _, _, _, _, _, _, _, _, _, h, hj⟩ => ⟨_, by rw [h]; rfl, rfl, hj.name⟩
theorem At.dur (h : At jobL fz p j) : At intL fz (p.add 1) j.dur := h.part 1 fun _ ⟨_, _, _, _, _, _, _, _, _, _, _, _, _, _, _, h, hj⟩ => ⟨_, by rw [h]; rfl, rfl, hj.dur⟩
theorem At.start (h : At jobL fz p j) : At (slL factL) fz (p.add 2) j.start := h.part 2 fun _ ⟨_, _, _, _, _, _, _, _, _, _, _, _, _, _, _, h, hj⟩ => ⟨_, by rw [h]; rfl, _, _, _, rfl, hj.start⟩
theorem At.over (h : At jobL fz p j) : At (slL factL) fz (p.add 3) j.over := h.part 3 fun _ ⟨_, _, _, _, _, _, _, _, _, _, _, _, _, _, _, h, hj⟩ => ⟨_, by rw [h]; rfl, _, _, _, rfl, hj.over⟩
theorem At.fin (h : At jobL fz p j) : At (slL factL) fz (p.add 4) j.fin := h.part 4 fun _ ⟨_, _, _, _, _, _, _, _, _, _, _, _, _, _, _, h, hj⟩ => ⟨_, by rw [h]; rfl, _, _, _, rfl, hj.fin⟩
theorem At.atStart (h : At jobL fz p j) : At (slL factL) fz (p.add 5) j.atStart := h.part 5 fun _ ⟨_, _, _, _, _, _, _, _, _, _, _, _, _, _, _, h, hj⟩ => ⟨_, by rw [h]; rfl, _, _, _, rfl, hj.atStart⟩
theorem At.atEnd (h : At jobL fz p j) : At (slL factL) fz (p.add 6) j.atEnd := h.part 6 fun _ ⟨_, _, _, _, _, _, _, _, _, _, _, _, _, _, _, h, hj⟩ => ⟨_, by rw [h]; rfl, _, _, _, rfl, hj.atEnd⟩
end
structure Temporal where
  vars : List Int
  init : List Int
  goal : List Fact
  jobs : List Job
structure TempR (fz : FZ) (t : Temporal) (A1 : Option Addr) (n1 c1 : Nat) (A2 : Option Addr) (n2 c2 : Nat) (A3 : Option Addr) (n3 c3 : Nat) (A4 : Option Addr) (n4 c4 : Nat) : Prop where
  vars : Sl intL fz A1 n1 c1 t.vars
  init : Sl intL fz A2 n2 c2 t.init
  goal : Sl factL fz A3 n3 c3 t.goal
  jobs : Sl jobL fz A4 n4 c4 t.jobs
theorem TempR.mono {fz fz' : FZ} (hle : Le fz fz') {t : Temporal} {A1 : Option Addr} {n1 c1 : Nat} {A2 : Option Addr} {n2 c2 : Nat} {A3 : Option Addr} {n3 c3 : Nat} {A4 : Option Addr} {n4 c4 : Nat} (h : TempR fz t A1 n1 c1 A2 n2 c2 A3 n3 c3 A4 n4 c4) : TempR fz' t A1 n1 c1 A2 n2 c2 A3 n3 c3 A4 n4 c4 :=
  ⟨h.vars.mono hle, h.init.mono hle, h.goal.mono hle, h.jobs.mono hle⟩
end Go.Lx
namespace Go.Lx
open Go.RowKit
def OwnS (e size : Nat) (v : Value) (n : Nat) (xs : List Value) (Hs : HP) : Prop :=
  xs.length = n * size ∧ ((v = .slice none 0 0 ∧ n = 0 ∧ Hs = []) ∨
    ∃ g cap cur, v = .slice (some ⟨g, 0, none⟩) n cap ∧ Hs = [(g, .cells cur e (0, 0))] ∧ n ≤ cap ∧ cap ≤ maxLen ∧ cur.size = cap * size ∧ cur.toList.take (n * size) = xs)
theorem OwnS.nil (e size : Nat) : OwnS e size (.slice none 0 0) 0 [] [] := ⟨by simp, .inl ⟨rfl, rfl, rfl⟩⟩
theorem OwnS.form {e size n : Nat} {v : Value} {xs : List Value} {Hs : HP} (h : OwnS e size v n xs Hs) : ∃ A c, v = .slice A n c ∧ n ≤ c ∧ c ≤ 9223372036854775807 := by
  rcases h.2 with ⟨h1, h2, _⟩ | ⟨g, cap, cur, h1, _, h3, h4, _⟩
  · subst h2; exact ⟨none, 0, h1, Nat.le_refl _, by omega⟩
  · exact ⟨_, cap, h1, h3, by simpa [maxLen] using h4⟩
theorem OwnS.of_block {e size g n : Nat} {cs : List Value} (hl : cs.length = n * size) (hn : n ≤ maxLen) : OwnS e size (.slice (some ⟨g, 0, none⟩) n n) n cs [(g, .cells cs.toArray e (0, 0))] :=
  ⟨hl, .inr ⟨g, n, cs.toArray, rfl, rfl, Nat.le_refl _, hn, by simpa using hl, by simp [← hl]⟩⟩
section
variable {P : Program} {cx : Cx} {r : Operand → Option Value} {fz : FZ} {H : HP} {dst : Option Nat} {ty : TypeId} {pos : String} {af : Array Edge} {gd : Option (Nat × Bool)}
theorem Does.perm {o : Oper} {H' : HP} {K : Value → FZ → HP → Prop} (hp : H'.Perm H) (h : Does P cx o r fz H' K) : Does P cx o r fz H K :=
  Does.of fun ρ w hr hi => h.run ρ w hr (hi.perm hp)
theorem Inv.appended {w w' : World} {Hr Hs Hs' : HP} {e size n m : Nat} {v v' : Value} {xs ys : List Value} (h : Inv cx fz (Hr ++ Hs) w) (ho : OwnS e size v n xs Hs) (hg : w.grownBy w' v.ownBlock)
    (ho' : OwnS e size v' m ys Hs') (hw' : ∀ p ∈ Hs', w'.heap[p.1]? = some p.2) (hb : v'.ownBlock = v.ownBlock ∨ v'.ownBlock = some w.heap.size) : Inv cx fz (Hr ++ Hs') w' := by
  obtain ⟨⟨a, b, c⟩, ⟨d, ee, f, gg, i⟩, ⟨j, k, l⟩⟩ := h
  rw [List.map_append, List.nodup_append] at c
  -- the row that may have been written
  have hrow : ∀ g, v.ownBlock = some g → ∃ o, Hs = [(g, o)] := by
    intro g hgv
    rcases ho.2 with ⟨h1, _, _⟩ | ⟨g', cap, cur, h1, h2, _⟩
    · subst h1; simp [Value.ownBlock] at hgv
    · subst h1; simp [Value.ownBlock] at hgv; subst hgv; exact ⟨_, h2⟩
  have hsame : ∀ x, x < w.heap.size → (∀ o, Hs ≠ [(x, o)]) → w'.heap[x]? = w.heap[x]? := fun x hx hn => hg.block x hx (fun he => by
    obtain ⟨o, ho⟩ := hrow x he.symm
    exact hn o ho)
  have hnotfz : ∀ x q, fz x = some q → ∀ o, Hs ≠ [(x, o)] := fun x q hx o he => by
    have := (b (x, o) (by rw [he]; simp)).2
    rw [hx] at this; cases this
  have hnotr : ∀ p ∈ Hr, ∀ o, Hs ≠ [(p.1, o)] := fun p hp o he => c.2.2 p.1 (List.mem_map.2 ⟨p, hp, rfl⟩) p.1 (by rw [he]; simp) rfl
  -- the new row's block
  have hform : Hs' = [] ∨ ∃ g o, Hs' = [(g, o)] ∧ ((∃ o', Hs = [(g, o')]) ∨ g = w.heap.size) := by
    rcases ho'.2 with ⟨_, _, h3⟩ | ⟨g, cap, cur, h1, h2, _⟩
    · exact .inl h3
    · refine .inr ⟨g, _, h2, ?_⟩
      subst h1
      rcases hb with hb | hb
      · exact .inl (hrow g (by rw [← hb]; rfl))
      · right; simpa [Value.ownBlock] using hb
  have hnew : fz w.heap.size = none := by
    cases hq : fz w.heap.size with
    | none => rfl
    | some q => have := lt_of_heap (a _ _ hq); omega
  refine ⟨⟨fun x q hx => ?_, fun p hp => ?_, ?_⟩, ⟨hg.os.trans d, hg.tape.trans ee, hg.output.trans f, by have := hg.size; omega, fun x hx hn => ?_⟩, ⟨j, k, fun p hp => ?_⟩⟩
  · have := a x q hx
    rw [hsame x (lt_of_heap this) (hnotfz x q hx)]; exact this
  · rcases List.mem_append.1 hp with hp | hp
    · have := b p (by simp [hp])
      exact ⟨by rw [hsame p.1 (lt_of_heap this.1) (hnotr p hp)]; exact this.1, this.2⟩
    · refine ⟨hw' p hp, ?_⟩
      rcases hform with h1 | ⟨g, o, h1, h2⟩
      · rw [h1] at hp; cases hp
      · rw [h1] at hp; simp at hp; subst hp
        rcases h2 with ⟨o', h2⟩ | h2
        · exact (b (g, o') (by rw [h2]; simp)).2
        · subst h2; exact hnew
  · rw [List.map_append, List.nodup_append]
    rcases hform with h1 | ⟨g, o, h1, h2⟩
    · rw [h1]; simp; exact c.1
    · rw [h1]
      refine ⟨c.1, by simp, fun x hx y hy hxy => ?_⟩
      simp at hy
      subst hy
      subst hxy
      obtain ⟨q, hq, rfl⟩ := List.mem_map.1 hx
      rcases h2 with ⟨o', h2⟩ | h2
      · exact hnotr q hq o' h2
      · have := lt_of_heap (b q (by simp [hq])).1; omega
  · rw [hsame x (by omega) (fun o he => by
      have := l (x, o) (by rw [he]; simp)
      rcases this with h1 | h1
      · exact hn h1
      · have h2 : cx.w0.heap.size ≤ x := h1; omega)]
    exact i x hx hn
  · rcases List.mem_append.1 hp with hp | hp
    · exact l p (by simp [hp])
    · rcases hform with h1 | ⟨g, o, h1, h2⟩
      · rw [h1] at hp; cases hp
      · rw [h1] at hp; simp at hp; subst hp
        rcases h2 with ⟨o', h2⟩ | h2
        · exact l (g, o') (by rw [h2]; simp)
        · exact .inr (by omega)
theorem OwnS.owns {w : World} {Hr Hs : HP} {e size n : Nat} {v : Value} {xs : List Value} (h : OwnS e size v n xs Hs) (hi : Inv cx fz (Hr ++ Hs) w) : w.ownsRow 0 e size v n xs := by
  refine ⟨h.1, ?_⟩
  rcases h.2 with ⟨h1, h2, _⟩ | ⟨g, cap, cur, h1, h2, h3, h4, h5, h6⟩
  · exact .inl ⟨h1, h2⟩
  · exact .inr ⟨g, cap, cur, h1, Nat.zero_le _, (hi.hp.own (g, .cells cur e (0, 0)) (by rw [h2]; simp)).1, h3, h4, h5, h6⟩
theorem OwnS.of_owns {w : World} {e size n : Nat} {v : Value} {xs : List Value} (h : w.ownsRow 0 e size v n xs) : ∃ Hs, OwnS e size v n xs Hs ∧ ∀ p ∈ Hs, w.heap[p.1]? = some p.2 := by
  obtain ⟨h1, h2⟩ := h
  rcases h2 with ⟨h2, h3⟩ | ⟨g, cap, cur, h2, _, h4, h5, h6, h7, h8⟩
  · exact ⟨[], ⟨h1, .inl ⟨h2, h3, rfl⟩⟩, by simp⟩
  · exact ⟨[(g, .cells cur e (0, 0))], ⟨h1, .inr ⟨g, cap, cur, h2, rfl, h5, h6, h7, h8⟩⟩, by simpa using h4⟩
theorem k_append (T : Tab P) {t e : TypeId} {x y : Operand} {X Y : Ty} {v : Value} {n m c : Nat} {B : Option Addr} {xs news : List Value} {Hr Hs : HP} {K : Value → FZ → HP → Prop} (hT : T.inf t = some X) (hd : X.desc = .slice e) (hY : T.inf e = some Y) (hz : Y.zero.cells.size = Y.size) (hsz : Nat.blt 0 Y.size = true)
    (hx : r x = some v) (hy : r y = some (.slice B m c)) (hp : H.Perm (Hr ++ Hs)) (ho : OwnS e Y.size v n xs Hs)
    (hl : news.length = m * Y.size) (hs : m = 0 ∨ ∃ ad, B = some ad ∧ ∀ w, Inv cx fz H w → ∀ j u, news[j]? = some u → w.cell? (ad.add j) = some u) (h1 : ∀ u ∈ news, u.oneCell' = true) (hb : (n + m) * Y.bytes ≤ 140737488355328) (hm : n + m ≤ 9223372036854775807)
    (h : ∀ v' Hs', OwnS e Y.size v' (n + m) (xs ++ news) Hs' → K v' fz (Hr ++ Hs')) :
    Does P cx ⟨dst, .call { callee := .builtin .append, args := #[x, y], argTypes := #[t, t] }, ty, pos, af, gd⟩ r fz H K := by
  refine Does.of fun ρ w hr hi => ?_
  have hi' := hi.perm hp.symm
  obtain ⟨i, hinf, g1, g2, g3⟩ := (T.ok_ hY).info
  have hown := ho.owns hi'
  have hund := und_plain T hT hd rfl
  have hexec : ∀ res, (Builtin.append_ #[t, t] ty #[v, .slice B m c]).run P w = res → (execOp ρ ⟨dst, .call { callee := .builtin .append, args := #[x, y], argTypes := #[t, t] }, ty, pos, af, gd⟩).run P w = res.andThen fun u w' => .ok (.value u) w' := by
    intro res hres
    simp only [execOp, resolve, invoke, builtin, Sem.run_bind, Sem.run_pure, Result.andThen_ok, List.map_toArray, List.map_cons, List.map_nil, hr _ _ hx, hr _ _ hy, hres]
  by_cases hB : B = none
  · -- a nil source
    subst hB
    have hm0 : m = 0 := by
      rcases hs with h0 | ⟨ad, he, _⟩
      · exact h0
      · cases he
    subst hm0
    have hn : news = [] := List.eq_nil_of_length_eq_zero (by simpa using hl)
    subst hn
    have hrun : (Builtin.append_ #[t, t] ty #[v, .slice none 0 c]).run P w = .ok v w := by
      rcases hown.2 with ⟨rfl, rfl⟩ | ⟨g, cap, cur, rfl, _, _, hnc, _⟩
      · simp [Builtin.append_, run_underlying hund, sizeOf, typeInfo, hinf, Builtin.lenOf, Builtin.firstCells]
      · simp [Builtin.append_, run_underlying hund, sizeOf, typeInfo, hinf, Builtin.lenOf, Builtin.firstCells, hnc, storeCells]
    rw [hexec _ hrun]
    exact ⟨fz, _, hi', h v Hs (by simpa using ho)⟩
  · obtain ⟨ad, rfl⟩ : ∃ ad, B = some ad := by cases B with | none => exact absurd rfl hB | some ad => exact ⟨ad, rfl⟩
    have hcells : ∀ j u, news[j]? = some u → w.cell? (ad.add j) = some u := by
      intro j u hu
      rcases hs with h0 | ⟨ad', he, hc⟩
      · subst h0
        have hn : news = [] := List.eq_nil_of_length_eq_zero (by simpa using hl)
        subst hn
        simp at hu
      · injection he with he
        subst he
        exact hc w hi j u hu
    have hsz' : 0 < Y.size := by simpa [Nat.blt_eq] using hsz
    obtain ⟨v', w', hrun, h2, h3, _, h5⟩ := run_append_own_at (P := P) w 0 t ty e i Y.zero Y.size Y.bytes hund hinf g3 g1 g2 hz hsz' v n xs hown ad m c news hl hcells h1 (by simpa [maxLen] using hm) hb (Nat.zero_le _)
    obtain ⟨Hs', h6, h7⟩ := OwnS.of_owns h2
    rw [hexec _ hrun]
    exact ⟨fz, _, hi'.appended ho h3 h6 h7 h5, h v' Hs' h6⟩
theorem src_row {B : Option Addr} {m : Nat} {news : List Value} (h : m = 0 ∨ ∃ ad, B = some ad ∧ Row fz ad news) : m = 0 ∨ ∃ ad, B = some ad ∧ ∀ w, Inv cx fz H w → ∀ j u, news[j]? = some u → w.cell? (ad.add j) = some u :=
  h.imp id fun ⟨ad, h1, h2⟩ => ⟨ad, h1, fun _ hi j u hu => hi.hp.cell (h2 j u hu)⟩
theorem src_own {g m : Nat} {t : TypeId} {news : List Value} (hp : (g, Obj.cells news.toArray t (0, 0)) ∈ H) : m = 0 ∨ ∃ ad, (some (⟨g, 0, none⟩ : Addr)) = some ad ∧ ∀ w, Inv cx fz H w → ∀ j u, news[j]? = some u → w.cell? (ad.add j) = some u :=
  .inr ⟨_, rfl, fun w hi j u hu => by
    have hadd : (⟨g, 0, none⟩ : Addr).add j = ⟨g, j, none⟩ := by unfold Addr.add; split <;> simp_all
    rw [hadd, cell_of_row w g j news.toArray t (0, 0) (hi.hp.own _ hp).1]
    simpa using hu⟩
theorem k_buildSlice0 (T : Tab P) {t e : TypeId} {X Y : Ty} {K : Value → FZ → HP → Prop} (hT : T.inf t = some X) (hd : X.desc = .slice e) (hY : T.inf e = some Y)
    (h : ∀ g, K (.slice (some ⟨g, 0, none⟩) 0 0) fz ((g, .cells #[] e (0, 0)) :: H)) : Does P cx ⟨dst, .buildSlice t 0 #[], ty, pos, af, gd⟩ r fz H K := by
  refine Does.of fun ρ w hr hw => ?_
  have hu := run_underlying (und_plain T hT hd rfl) w
  have hsz := run_sizeOf T hY w
  have : (execOp ρ ⟨dst, .buildSlice t 0 #[], ty, pos, af, gd⟩).run P w = .ok (.value (.slice (some ⟨w.heap.size, 0, none⟩) 0 0)) (w.alloc (.cells #[] e (0, 0))) := by
    simp [execOp, Instr.buildSlice, hu, hsz, Instr.fill, newRow, newObj, Sem.run, Array.range_zero']
  rw [this]
  exact ⟨fz, _, hw.alloc _, h _⟩
theorem q_eql_nilslice (T : Tab P) {t t' : TypeId} {x : Operand} {X : Ty} {e : TypeId} {A : Option Addr} {n c : Nat} {V : Value → Prop} (hT : T.inf t = some X) (hd : X.desc = .slice e) (hx : r x = some (.slice A n c)) (hy : r (.const (.slice none 0 0)) = some (.slice none 0 0)) (h1 : A = none → V (.bool true)) (h2 : A ≠ none → V (.bool false)) :
    DoesQ P cx ⟨dst, .binOp .eql t x (.const (.slice none 0 0)) t', ty, pos, af, gd⟩ r fz H V := by
  have hu := fun w => run_underlying (und_plain T hT hd rfl) w
  have hrun : ∀ w, (Op.equal t (.slice A n c) (.slice none 0 0)).run P w = .ok A.isNone w := fun w => by
    have : ∀ d : Nat, (Op.equalIn (d + 1) t (.slice A n c) (.slice none 0 0)).run P w = .ok A.isNone w := fun d => by
      unfold Op.equalIn
      cases A <;> simp only [Sem.run_bind, hu, Result.andThen_ok, Sem.run_pure, Option.isNone_none, Option.isNone_some]
    exact this 9999
  cases A with
  | none => exact doesQ_of (fun ρ w hr => by simp only [execOp, hr _ _ hx, hr _ _ hy, Sem.run_bind, eqGuard_at_slice, Sem.run_pure, Result.andThen_ok, binOp, hrun, Option.isNone_none]) (h1 rfl)
  | some ad => exact doesQ_of (fun ρ w hr => by simp only [execOp, hr _ _ hx, hr _ _ hy, Sem.run_bind, eqGuard_at_slice, Sem.run_pure, Result.andThen_ok, binOp, hrun, Option.isNone_some]) (h2 (by simp))
def RowS (fz : FZ) (A : Option Addr) (n : Nat) (xs : List Value) : Prop := n = 0 ∨ ∃ ad, A = some ad ∧ Row fz ad xs
theorem Wp.freezeAll {n : Nat} {c : Code} {σ : Env} {Q : QQ} {H1 H2 : HP} (hp : H.Perm (H1 ++ H2)) (h : ∀ fz', Le fz fz' → (∀ p ∈ H2, fz' p.1 = some p.2) → Wp P cx n c σ fz' H1 Q) : Wp P cx n c σ fz H Q :=
  Wp.of fun a w hs hi => by
    obtain ⟨fz', h1, h2, h3⟩ := freezeAll_inv H2 fz H1 (hi.perm hp.symm)
    exact (h fz' h1 h2).run a w hs h3
theorem Seq.freezeAll {n : Nat} {ops : Array Oper} {l : List Oper} {σ : Env} {Q : QQ} {H1 H2 : HP} (hp : H.Perm (H1 ++ H2)) (h : ∀ fz', Le fz fz' → (∀ p ∈ H2, fz' p.1 = some p.2) → Seq P cx n ops l σ fz' H1 Q) : Seq P cx n ops l σ fz H Q :=
  Seq.of fun a w hs hi => by
    obtain ⟨fz', h1, h2, h3⟩ := freezeAll_inv H2 fz H1 (hi.perm hp.symm)
    exact (h fz' h1 h2).run a w hs h3
theorem OwnS.row {e size n : Nat} {v : Value} {xs : List Value} {Hs : HP} {fz' : FZ} (h : OwnS e size v n xs Hs) (hf : ∀ p ∈ Hs, fz' p.1 = some p.2) : ∃ A c, v = .slice A n c ∧ n ≤ c ∧ c ≤ 9223372036854775807 ∧ RowS fz' A n xs := by
  rcases h.2 with ⟨h1, h2, _⟩ | ⟨g, cap, cur, h1, h2, h3, h4, h5, h6⟩
  · subst h2; exact ⟨none, 0, h1, Nat.le_refl _, by omega, .inl rfl⟩
  · refine ⟨_, cap, h1, h3, by simpa [maxLen] using h4, .inr ⟨_, rfl, fun j u hu => ?_⟩⟩
    have hadd : (⟨g, 0, none⟩ : Addr).add j = ⟨g, j, none⟩ := by unfold Addr.add; split <;> simp_all
    have hg := hf (g, .cells cur e (0, 0)) (by rw [h2]; simp)
    rw [hadd]
    simp only [cellF, hg]
    have h7 : (cur.toList.take (n * size))[j]? = some u := by rw [h6]; exact hu
    rw [List.getElem?_take] at h7
    split at h7
    · simpa using h7
    · cases h7
theorem RowS.sl {α : Type} {L : Lay α} {fz : FZ} {A : Option Addr} {n c : Nat} {xs : List Value} {ds : List α} (h : RowS fz A n xs) (hn : n ≤ c) (hc : c ≤ 9223372036854775807) (hs : n ≤ 140737488355328) (hl : ds.length = n)
    (hr : ∀ i d, ds[i]? = some d → ∃ cs, L.rep fz d cs ∧ ∀ j u, cs[j]? = some u → xs[i * L.size + j]? = some u) : Sl L fz A n c ds := by
  refine ⟨hl, hn, hc, hs, ?_⟩
  rcases h with h | ⟨ad, h1, h2⟩
  · exact .inl h
  · refine .inr ⟨ad, h1, fun i d hd => ?_⟩
    obtain ⟨cs, h3, h4⟩ := hr i d hd
    refine ⟨cs, h3, fun j u hu => ?_⟩
    have := h2 _ u (h4 j u hu)
    have e : (ad.add (i * L.size)).add j = ad.add (i * L.size + j) := by
      unfold Addr.add
      by_cases h5 : i * L.size = 0 <;> by_cases h6 : j = 0 <;> simp [h5, h6, Nat.add_assoc]
    rw [e]; exact this
end
end Go.Lx
namespace Go.Lx
open Go.RowKit
def IsSl {α : Type} (L : Lay α) (fz : FZ) (v : Value) (xs : List α) : Prop := ∃ A n c, v = .slice A n c ∧ Sl L fz A n c xs
theorem IsSl.mono {α : Type} {L : Lay α} {fz fz' : FZ} (h : Le fz fz') {v : Value} {xs : List α} (hs : IsSl L fz v xs) : IsSl L fz' v xs := by
  obtain ⟨A, n, c, e, k⟩ := hs
  exact ⟨A, n, c, e, k.mono h⟩
theorem Sl.is {α : Type} {L : Lay α} {fz : FZ} {A : Option Addr} {n c : Nat} {xs : List α} (h : Sl L fz A n c xs) : IsSl L fz (.slice A n c) xs := ⟨A, n, c, rfl, h⟩
theorem IsSl.nil {α : Type} {L : Lay α} {fz : FZ} : IsSl L fz (.slice none 0 0) ([] : List α) := ⟨none, 0, 0, rfl, Sl.nil (by omega)⟩
def Short (s : ByteArray) : Prop := s.size ≤ 9223372036854775807
theorem At.parts {α β : Type} {L : Lay α} {L' : Lay β} {fz : FZ} {p : Addr} {d : α} {d' : β} (h : At L fz p d) (i : Nat) (hr : ∀ cs, L.rep fz d cs → ∃ cs', L'.rep fz d' cs' ∧ ∀ j v, cs'[j]? = some v → cs[i + j]? = some v) : At L' fz (p.add i) d' := by
  obtain ⟨cs, h1, h2⟩ := h
  obtain ⟨cs', h3, h4⟩ := hr cs h1
  refine ⟨cs', h3, fun j v hv => ?_⟩
  have : (p.add i).add j = p.add (i + j) := by
    unfold Addr.add
    by_cases h5 : i = 0 <;> by_cases h6 : j = 0 <;> simp [h5, h6, Nat.add_assoc]
  rw [this]; exact h2 (i + j) v (h4 j v hv)
theorem At.imp {α : Type} {L L' : Lay α} {fz : FZ} (h : ∀ d cs, L.rep fz d cs → L'.rep fz d cs) {p : Addr} {d : α} (ha : At L fz p d) : At L' fz p d := by
  obtain ⟨cs, h1, h2⟩ := ha
  exact ⟨cs, h d cs h1, h2⟩
theorem Sl.imp {α : Type} {L L' : Lay α} {fz : FZ} (hz : L.size = L'.size) (h : ∀ d cs, L.rep fz d cs → L'.rep fz d cs) {A : Option Addr} {n c : Nat} {xs : List α} (hs : Sl L fz A n c xs) : Sl L' fz A n c xs :=
  ⟨hs.len, hs.cap, hs.max, hs.short, hs.elem.imp id fun ⟨ad, h1, h2⟩ => ⟨ad, h1, fun i d hd => by rw [← hz]; exact (h2 i d hd).imp h⟩⟩
theorem IsSl.imp {α : Type} {L L' : Lay α} {fz : FZ} (hz : L.size = L'.size) (h : ∀ d cs, L.rep fz d cs → L'.rep fz d cs) {v : Value} {xs : List α} (hs : IsSl L fz v xs) : IsSl L' fz v xs := by
  obtain ⟨A, n, c, e, k⟩ := hs
  exact ⟨A, n, c, e, k.imp hz h⟩
def limL {α : Type} (D : Nat → Lay α) (z : Nat) (hz : ∀ d, (D d).size = z) : Lay α where
  size := z
  rep := fun fz x cs => ∃ d, (D d).rep fz x cs
  len := fun ⟨d, h⟩ => ((D d).len h).trans (hz d)
  mono := fun hle ⟨d, h⟩ => ⟨d, (D d).mono hle h⟩
theorem sup_list {α : Type} {P : Nat → Nat → α → Prop} (hm : ∀ d e i x, d ≤ e → P d i x → P e i x) : ∀ (xs : List α) (k : Nat), (∀ i x, xs[i]? = some x → ∃ d, P d (k + i) x) → ∃ d, ∀ i x, xs[i]? = some x → P d (k + i) x
  | [], _, _ => ⟨0, fun i x h => by simp at h⟩
  | y :: ys, k, h => by
    obtain ⟨d, hd⟩ := sup_list hm ys (k + 1) (fun i x hx => by have := h (i + 1) x (by simpa using hx); simpa [Nat.add_assoc, Nat.add_comm 1 i] using this)
    obtain ⟨e, he⟩ := h 0 y rfl
    refine ⟨max d e, fun i x hx => ?_⟩
    cases i with
    | zero => simp at hx; subst hx; exact hm _ _ _ _ (Nat.le_max_right d e) he
    | succ i => have := hd i x (by simpa using hx); have := hm _ _ _ _ (Nat.le_max_left d e) this; simpa [Nat.add_assoc, Nat.add_comm 1 i] using this
theorem Sl.sup {α : Type} {D : Nat → Lay α} {z : Nat} {hz : ∀ d, (D d).size = z} (hm : ∀ d e fz x cs, d ≤ e → (D d).rep fz x cs → (D e).rep fz x cs) {fz : FZ} {A : Option Addr} {n c : Nat} {xs : List α} (hs : Sl (limL D z hz) fz A n c xs) : ∃ d, Sl (D d) fz A n c xs := by
  rcases hs.elem with h | ⟨ad, h1, h2⟩
  · exact ⟨0, hs.len, hs.cap, hs.max, hs.short, .inl h⟩
  · obtain ⟨d, hd⟩ := sup_list (P := fun d i x => At (D d) fz (ad.add (i * z)) x) (fun d e i x hde h => h.imp fun _ _ hr => hm d e _ _ _ hde hr) xs 0 (fun i x hx => by
      obtain ⟨cs, ⟨d, hr⟩, hrow⟩ := h2 i x hx
      exact ⟨d, cs, hr, by simpa [limL] using hrow⟩)
    exact ⟨d, hs.len, hs.cap, hs.max, hs.short, .inr ⟨ad, h1, fun i x hx => by have := hd i x hx; rw [hz d]; simpa using this⟩⟩
theorem IsSl.sup {α : Type} {D : Nat → Lay α} {z : Nat} {hz : ∀ d, (D d).size = z} (hm : ∀ d e fz x cs, d ≤ e → (D d).rep fz x cs → (D e).rep fz x cs) {fz : FZ} {v : Value} {xs : List α} (hs : IsSl (limL D z hz) fz v xs) : ∃ d, IsSl (D d) fz v xs := by
  obtain ⟨A, n, c, e, k⟩ := hs
  obtain ⟨d, hd⟩ := k.sup hm
  exact ⟨d, A, n, c, e, hd⟩
structure Atom where
  name : ByteArray
  args : List ByteArray
structure AtomR (fz : FZ) (x : Atom) (vargs : Value) : Prop where
  name : Short x.name
  args : IsSl strL fz vargs x.args
theorem AtomR.mono {fz fz' : FZ} (hle : Le fz fz') {x : Atom} {vargs : Value} (h : AtomR fz x vargs) : AtomR fz' x vargs := ⟨h.name, h.args.mono hle⟩
def atomL : Lay Atom where
  size := 2
  rep := fun fz x cs => ∃ vargs, cs = [.string x.name, vargs] ∧ AtomR fz x vargs
  len := fun h => by obtain ⟨vargs, rfl, _⟩ := h; rfl
  mono := fun hle h => by obtain ⟨vargs, e, h⟩ := h; exact ⟨vargs, e, h.mono hle⟩
theorem atomL_open {fz : FZ} {x : Atom} {cs : List Value} (h : atomL.rep fz x cs) : ∃ vargs, cs = [.string x.name, vargs] ∧ AtomR fz x vargs := h
inductive GExpr where
  | mk (op : ByteArray) (n : Int) (kids : List GExpr)
def GExpr.op : GExpr → ByteArray | .mk x _ _ => x
def GExpr.n : GExpr → Int | .mk _ x _ => x
def GExpr.kids : GExpr → List GExpr | .mk _ _ x => x
theorem GExpr.kids_lt {x k : GExpr} (h : k ∈ x.kids) : SizeOf.sizeOf k < SizeOf.sizeOf x := by
  cases x
  have := List.sizeOf_lt_of_mem h
  simp only [GExpr.kids] at this
  simp only [GExpr.mk.sizeOf_spec]; omega
structure GExprQ (L : Lay GExpr) (fz : FZ) (x : GExpr) (vkids : Value) : Prop where
  op : Short x.op
  n : I64 x.n
  kids : IsSl L fz vkids x.kids
theorem GExprQ.mono {L : Lay GExpr} {fz fz' : FZ} (hle : Le fz fz') {x : GExpr} {vkids : Value} (h : GExprQ L fz x vkids) : GExprQ L fz' x vkids := ⟨h.op, h.n, h.kids.mono hle⟩
def gExprF (L : Lay GExpr) : Lay GExpr where
  size := 3
  rep := fun fz x cs => ∃ vkids, cs = [.string x.op, .int .i64 x.n, vkids] ∧ GExprQ L fz x vkids
  len := fun h => by obtain ⟨vkids, rfl, _⟩ := h; rfl
  mono := fun hle h => by obtain ⟨vkids, e, h⟩ := h; exact ⟨vkids, e, h.mono hle⟩
def gExprD : Nat → Lay GExpr
  | 0 => ⟨3, fun _ _ _ => False, fun h => h.elim, fun _ h => h.elim⟩
  | d + 1 => gExprF (gExprD d)
theorem gExprD_size : ∀ d, (gExprD d).size = 3
  | 0 => rfl
  | _ + 1 => rfl
theorem gExprF_imp {L L' : Lay GExpr} {fz : FZ} (hz : L.size = L'.size) (hi : ∀ d cs, L.rep fz d cs → L'.rep fz d cs) {x : GExpr} {cs : List Value} (h : (gExprF L).rep fz x cs) : (gExprF L').rep fz x cs := by
  obtain ⟨vkids, e, h⟩ := h
  exact ⟨vkids, e, { h with kids := h.kids.imp hz hi }⟩
theorem gExprD_le : ∀ d e fz x cs, d ≤ e → (gExprD d).rep fz x cs → (gExprD e).rep fz x cs
  | 0, _, _, _, _, _, h => h.elim
  | d + 1, 0, _, _, _, hle, _ => absurd hle (by omega)
  | d + 1, e + 1, fz, x, cs, hle, h => gExprF_imp ((gExprD_size d).trans (gExprD_size e).symm) (fun y cs' hy => gExprD_le d e fz y cs' (by omega) hy) h
def gExprL : Lay GExpr := limL gExprD 3 gExprD_size
abbrev GExprR (fz : FZ) (x : GExpr) (vkids : Value) : Prop := GExprQ gExprL fz x vkids
theorem GExprR.mono {fz fz' : FZ} (hle : Le fz fz') {x : GExpr} {vkids : Value} (h : GExprR fz x vkids) : GExprR fz' x vkids := GExprQ.mono hle h
theorem gExprL_open {fz : FZ} {x : GExpr} {cs : List Value} (h : gExprL.rep fz x cs) : ∃ vkids, cs = [.string x.op, .int .i64 x.n, vkids] ∧ GExprR fz x vkids := by
  obtain ⟨d, h⟩ := h
  cases d with
  | zero => exact h.elim
  | succ d =>
    obtain ⟨vkids, e, h⟩ := h
    exact ⟨vkids, e, { h with kids := h.kids.imp (L' := gExprL) (gExprD_size d) (fun _ _ hy => ⟨d, hy⟩) }⟩
theorem gExprL_shut {fz : FZ} {x : GExpr} {vkids : Value} (h : GExprR fz x vkids) : gExprL.rep fz x [.string x.op, .int .i64 x.n, vkids] := by
  obtain ⟨d, hd⟩ := h.kids.sup gExprD_le
  exact ⟨d + 1, vkids,  rfl, { h with kids := hd }⟩
structure GTest where
  op : ByteArray
  a : GExpr
  b : GExpr
structure GTestR (fz : FZ) (x : GTest) (va_kids vb_kids : Value) : Prop where
  op : Short x.op
  a : GExprR fz x.a va_kids
  b : GExprR fz x.b vb_kids
theorem GTestR.mono {fz fz' : FZ} (hle : Le fz fz') {x : GTest} {va_kids vb_kids : Value} (h : GTestR fz x va_kids vb_kids) : GTestR fz' x va_kids vb_kids := ⟨h.op, h.a.mono hle, h.b.mono hle⟩
def gTestL : Lay GTest where
  size := 7
  rep := fun fz x cs => ∃ va_kids vb_kids, cs = [.string x.op, .string x.a.op, .int .i64 x.a.n, va_kids, .string x.b.op, .int .i64 x.b.n, vb_kids] ∧ GTestR fz x va_kids vb_kids
  len := fun h => by obtain ⟨va_kids, vb_kids, rfl, _⟩ := h; rfl
  mono := fun hle h => by obtain ⟨va_kids, vb_kids, e, h⟩ := h; exact ⟨va_kids, vb_kids, e, h.mono hle⟩
theorem gTestL_open {fz : FZ} {x : GTest} {cs : List Value} (h : gTestL.rep fz x cs) : ∃ va_kids vb_kids, cs = [.string x.op, .string x.a.op, .int .i64 x.a.n, va_kids, .string x.b.op, .int .i64 x.b.n, vb_kids] ∧ GTestR fz x va_kids vb_kids := h
theorem At.GTest_a {fz : FZ} {p : Addr} {x : GTest} (h : At gTestL fz p x) : At gExprL fz (p.add 1) x.a := h.parts 1 fun cs hr => by
  obtain ⟨va_kids, vb_kids, rfl, h⟩ := gTestL_open hr
  refine ⟨_, gExprL_shut h.a, fun j v hv => ?_⟩
  match j, hv with
  | 0, hv => exact hv
  | 1, hv => exact hv
  | 2, hv => exact hv
  | j + 3, hv => simp at hv
theorem At.GTest_b {fz : FZ} {p : Addr} {x : GTest} (h : At gTestL fz p x) : At gExprL fz (p.add 4) x.b := h.parts 4 fun cs hr => by
  obtain ⟨va_kids, vb_kids, rfl, h⟩ := gTestL_open hr
  refine ⟨_, gExprL_shut h.b, fun j v hv => ?_⟩
  match j, hv with
  | 0, hv => exact hv
  | 1, hv => exact hv
  | 2, hv => exact hv
  | j + 3, hv => simp at hv
structure Cond where
  pos : List Int
  neg : List Int
  tests : List GTest
structure CondR (fz : FZ) (x : Cond) (vpos vneg vtests : Value) : Prop where
  pos : IsSl intL fz vpos x.pos
  neg : IsSl intL fz vneg x.neg
  tests : IsSl gTestL fz vtests x.tests
theorem CondR.mono {fz fz' : FZ} (hle : Le fz fz') {x : Cond} {vpos vneg vtests : Value} (h : CondR fz x vpos vneg vtests) : CondR fz' x vpos vneg vtests := ⟨h.pos.mono hle, h.neg.mono hle, h.tests.mono hle⟩
def condL : Lay Cond where
  size := 3
  rep := fun fz x cs => ∃ vpos vneg vtests, cs = [vpos, vneg, vtests] ∧ CondR fz x vpos vneg vtests
  len := fun h => by obtain ⟨vpos, vneg, vtests, rfl, _⟩ := h; rfl
  mono := fun hle h => by obtain ⟨vpos, vneg, vtests, e, h⟩ := h; exact ⟨vpos, vneg, vtests, e, h.mono hle⟩
theorem condL_open {fz : FZ} {x : Cond} {cs : List Value} (h : condL.rep fz x cs) : ∃ vpos vneg vtests, cs = [vpos, vneg, vtests] ∧ CondR fz x vpos vneg vtests := h
theorem condL_shut {fz : FZ} {x : Cond} {vpos vneg vtests : Value} (h : CondR fz x vpos vneg vtests) : condL.rep fz x [vpos, vneg, vtests] := ⟨vpos, vneg, vtests, rfl, h⟩
structure GChange where
  when_ : Cond
  atom : Int
  add : Bool
structure GChangeR (fz : FZ) (x : GChange) (vwhen__pos vwhen__neg vwhen__tests : Value) : Prop where
  when_ : CondR fz x.when_ vwhen__pos vwhen__neg vwhen__tests
  atom : I64 x.atom
  add : True
theorem GChangeR.mono {fz fz' : FZ} (hle : Le fz fz') {x : GChange} {vwhen__pos vwhen__neg vwhen__tests : Value} (h : GChangeR fz x vwhen__pos vwhen__neg vwhen__tests) : GChangeR fz' x vwhen__pos vwhen__neg vwhen__tests := ⟨h.when_.mono hle, h.atom, trivial⟩
def gChangeL : Lay GChange where
  size := 5
  rep := fun fz x cs => ∃ vwhen__pos vwhen__neg vwhen__tests, cs = [vwhen__pos, vwhen__neg, vwhen__tests, .int .i64 x.atom, .bool x.add] ∧ GChangeR fz x vwhen__pos vwhen__neg vwhen__tests
  len := fun h => by obtain ⟨vwhen__pos, vwhen__neg, vwhen__tests, rfl, _⟩ := h; rfl
  mono := fun hle h => by obtain ⟨vwhen__pos, vwhen__neg, vwhen__tests, e, h⟩ := h; exact ⟨vwhen__pos, vwhen__neg, vwhen__tests, e, h.mono hle⟩
theorem gChangeL_open {fz : FZ} {x : GChange} {cs : List Value} (h : gChangeL.rep fz x cs) : ∃ vwhen__pos vwhen__neg vwhen__tests, cs = [vwhen__pos, vwhen__neg, vwhen__tests, .int .i64 x.atom, .bool x.add] ∧ GChangeR fz x vwhen__pos vwhen__neg vwhen__tests := h
theorem At.GChange_when_ {fz : FZ} {p : Addr} {x : GChange} (h : At gChangeL fz p x) : At condL fz (p.add 0) x.when_ := h.parts 0 fun cs hr => by
  obtain ⟨vwhen__pos, vwhen__neg, vwhen__tests, rfl, h⟩ := gChangeL_open hr
  refine ⟨_, condL_shut h.when_, fun j v hv => ?_⟩
  match j, hv with
  | 0, hv => exact hv
  | 1, hv => exact hv
  | 2, hv => exact hv
  | j + 3, hv => simp at hv
structure GAssign where
  fluent : Int
  value : GExpr
structure GAssignR (fz : FZ) (x : GAssign) (vvalue_kids : Value) : Prop where
  fluent : I64 x.fluent
  value : GExprR fz x.value vvalue_kids
theorem GAssignR.mono {fz fz' : FZ} (hle : Le fz fz') {x : GAssign} {vvalue_kids : Value} (h : GAssignR fz x vvalue_kids) : GAssignR fz' x vvalue_kids := ⟨h.fluent, h.value.mono hle⟩
def gAssignL : Lay GAssign where
  size := 4
  rep := fun fz x cs => ∃ vvalue_kids, cs = [.int .i64 x.fluent, .string x.value.op, .int .i64 x.value.n, vvalue_kids] ∧ GAssignR fz x vvalue_kids
  len := fun h => by obtain ⟨vvalue_kids, rfl, _⟩ := h; rfl
  mono := fun hle h => by obtain ⟨vvalue_kids, e, h⟩ := h; exact ⟨vvalue_kids, e, h.mono hle⟩
theorem gAssignL_open {fz : FZ} {x : GAssign} {cs : List Value} (h : gAssignL.rep fz x cs) : ∃ vvalue_kids, cs = [.int .i64 x.fluent, .string x.value.op, .int .i64 x.value.n, vvalue_kids] ∧ GAssignR fz x vvalue_kids := h
theorem At.GAssign_fluent {fz : FZ} {p : Addr} {x : GAssign} (h : At gAssignL fz p x) : At intL fz (p.add 0) x.fluent := h.part 0 fun cs hr => by
  obtain ⟨vvalue_kids, rfl, h⟩ := gAssignL_open hr
  exact ⟨_, rfl, rfl, h.fluent⟩
theorem At.GAssign_value {fz : FZ} {p : Addr} {x : GAssign} (h : At gAssignL fz p x) : At gExprL fz (p.add 1) x.value := h.parts 1 fun cs hr => by
  obtain ⟨vvalue_kids, rfl, h⟩ := gAssignL_open hr
  refine ⟨_, gExprL_shut h.value, fun j v hv => ?_⟩
  match j, hv with
  | 0, hv => exact hv
  | 1, hv => exact hv
  | 2, hv => exact hv
  | j + 3, hv => simp at hv
structure GOp where
  name : ByteArray
  cost : Int
  pre : Cond
  changes : List GChange
  assigns : List GAssign
structure GOpR (fz : FZ) (x : GOp) (vpre_pos vpre_neg vpre_tests vchanges vassigns : Value) : Prop where
  name : Short x.name
  cost : I64 x.cost
  pre : CondR fz x.pre vpre_pos vpre_neg vpre_tests
  changes : IsSl gChangeL fz vchanges x.changes
  assigns : IsSl gAssignL fz vassigns x.assigns
theorem GOpR.mono {fz fz' : FZ} (hle : Le fz fz') {x : GOp} {vpre_pos vpre_neg vpre_tests vchanges vassigns : Value} (h : GOpR fz x vpre_pos vpre_neg vpre_tests vchanges vassigns) : GOpR fz' x vpre_pos vpre_neg vpre_tests vchanges vassigns := ⟨h.name, h.cost, h.pre.mono hle, h.changes.mono hle, h.assigns.mono hle⟩
def gOpL : Lay GOp where
  size := 7
  rep := fun fz x cs => ∃ vpre_pos vpre_neg vpre_tests vchanges vassigns, cs = [.string x.name, .int .i64 x.cost, vpre_pos, vpre_neg, vpre_tests, vchanges, vassigns] ∧ GOpR fz x vpre_pos vpre_neg vpre_tests vchanges vassigns
  len := fun h => by obtain ⟨vpre_pos, vpre_neg, vpre_tests, vchanges, vassigns, rfl, _⟩ := h; rfl
  mono := fun hle h => by obtain ⟨vpre_pos, vpre_neg, vpre_tests, vchanges, vassigns, e, h⟩ := h; exact ⟨vpre_pos, vpre_neg, vpre_tests, vchanges, vassigns, e, h.mono hle⟩
theorem gOpL_open {fz : FZ} {x : GOp} {cs : List Value} (h : gOpL.rep fz x cs) : ∃ vpre_pos vpre_neg vpre_tests vchanges vassigns, cs = [.string x.name, .int .i64 x.cost, vpre_pos, vpre_neg, vpre_tests, vchanges, vassigns] ∧ GOpR fz x vpre_pos vpre_neg vpre_tests vchanges vassigns := h
theorem At.GOp_changes {fz : FZ} {p : Addr} {x : GOp} (h : At gOpL fz p x) : At (slL gChangeL) fz (p.add 5) x.changes := h.part 5 fun cs hr => by
  obtain ⟨vpre_pos, vpre_neg, vpre_tests, vchanges, vassigns, rfl, h⟩ := gOpL_open hr
  obtain ⟨A, n, c, e, hs⟩ := h.changes
  exact ⟨_, rfl, A, n, c, by rw [e], hs⟩
structure GFluent where
  fluent : Atom
  lo : Int
  hi : Int
  init : Int
structure GFluentR (fz : FZ) (x : GFluent) (vfluent_args : Value) : Prop where
  fluent : AtomR fz x.fluent vfluent_args
  lo : I64 x.lo
  hi : I64 x.hi
  init : I64 x.init
theorem GFluentR.mono {fz fz' : FZ} (hle : Le fz fz') {x : GFluent} {vfluent_args : Value} (h : GFluentR fz x vfluent_args) : GFluentR fz' x vfluent_args := ⟨h.fluent.mono hle, h.lo, h.hi, h.init⟩
def gFluentL : Lay GFluent where
  size := 5
  rep := fun fz x cs => ∃ vfluent_args, cs = [.string x.fluent.name, vfluent_args, .int .i64 x.lo, .int .i64 x.hi, .int .i64 x.init] ∧ GFluentR fz x vfluent_args
  len := fun h => by obtain ⟨vfluent_args, rfl, _⟩ := h; rfl
  mono := fun hle h => by obtain ⟨vfluent_args, e, h⟩ := h; exact ⟨vfluent_args, e, h.mono hle⟩
theorem gFluentL_open {fz : FZ} {x : GFluent} {cs : List Value} (h : gFluentL.rep fz x cs) : ∃ vfluent_args, cs = [.string x.fluent.name, vfluent_args, .int .i64 x.lo, .int .i64 x.hi, .int .i64 x.init] ∧ GFluentR fz x vfluent_args := h
theorem At.GFluent_lo {fz : FZ} {p : Addr} {x : GFluent} (h : At gFluentL fz p x) : At intL fz (p.add 2) x.lo := h.part 2 fun cs hr => by
  obtain ⟨vfluent_args, rfl, h⟩ := gFluentL_open hr
  exact ⟨_, rfl, rfl, h.lo⟩
theorem At.GFluent_hi {fz : FZ} {p : Addr} {x : GFluent} (h : At gFluentL fz p x) : At intL fz (p.add 3) x.hi := h.part 3 fun cs hr => by
  obtain ⟨vfluent_args, rfl, h⟩ := gFluentL_open hr
  exact ⟨_, rfl, rfl, h.hi⟩
structure GTask where
  atoms : List Atom
  fluents : List GFluent
  init : List Int
  goal : List Cond
  ops : List GOp
structure GTaskR (fz : FZ) (x : GTask) (vatoms vfluents vinit vgoal vops : Value) : Prop where
  atoms : IsSl atomL fz vatoms x.atoms
  fluents : IsSl gFluentL fz vfluents x.fluents
  init : IsSl intL fz vinit x.init
  goal : IsSl condL fz vgoal x.goal
  ops : IsSl gOpL fz vops x.ops
theorem GTaskR.mono {fz fz' : FZ} (hle : Le fz fz') {x : GTask} {vatoms vfluents vinit vgoal vops : Value} (h : GTaskR fz x vatoms vfluents vinit vgoal vops) : GTaskR fz' x vatoms vfluents vinit vgoal vops := ⟨h.atoms.mono hle, h.fluents.mono hle, h.init.mono hle, h.goal.mono hle, h.ops.mono hle⟩
def gTaskL : Lay GTask where
  size := 5
  rep := fun fz x cs => ∃ vatoms vfluents vinit vgoal vops, cs = [vatoms, vfluents, vinit, vgoal, vops] ∧ GTaskR fz x vatoms vfluents vinit vgoal vops
  len := fun h => by obtain ⟨vatoms, vfluents, vinit, vgoal, vops, rfl, _⟩ := h; rfl
  mono := fun hle h => by obtain ⟨vatoms, vfluents, vinit, vgoal, vops, e, h⟩ := h; exact ⟨vatoms, vfluents, vinit, vgoal, vops, e, h.mono hle⟩
structure GState where
  tru : List Int
  values : List Int
structure GStateR (fz : FZ) (x : GState) (vtru vvalues : Value) : Prop where
  tru : IsSl intL fz vtru x.tru
  values : IsSl intL fz vvalues x.values
theorem GStateR.mono {fz fz' : FZ} (hle : Le fz fz') {x : GState} {vtru vvalues : Value} (h : GStateR fz x vtru vvalues) : GStateR fz' x vtru vvalues := ⟨h.tru.mono hle, h.values.mono hle⟩
def gStateL : Lay GState where
  size := 2
  rep := fun fz x cs => ∃ vtru vvalues, cs = [vtru, vvalues] ∧ GStateR fz x vtru vvalues
  len := fun h => by obtain ⟨vtru, vvalues, rfl, _⟩ := h; rfl
  mono := fun hle h => by obtain ⟨vtru, vvalues, e, h⟩ := h; exact ⟨vtru, vvalues, e, h.mono hle⟩
end Go.Lx
namespace Go.Lx
open Go.RowKit
def esFrom : List (Int × Value) → Nat → List MapEntry
  | [], _ => []
  | (k, v) :: r, i => ⟨.int .i64 k, v, i⟩ :: esFrom r (i + 1)
def mapB (m : List (Int × Value)) : Obj := .map (esFrom m 0).toArray m.length
theorem esFrom_get : ∀ (m : List (Int × Value)) (i j : Nat), (esFrom m i)[j]? = (m[j]?).map fun p => ⟨.int .i64 p.1, p.2, i + j⟩
  | [], _, _ => by simp [esFrom]
  | (k, v) :: r, i, 0 => by simp [esFrom]
  | (k, v) :: r, i, j + 1 => by
    simp only [esFrom, List.getElem?_cons_succ, esFrom_get r (i + 1) j]
    rw [show i + 1 + j = i + (j + 1) from by omega]
theorem esFrom_append : ∀ (m : List (Int × Value)) (k : Int) (v : Value) (i : Nat), esFrom (m ++ [(k, v)]) i = esFrom m i ++ [⟨.int .i64 k, v, i + m.length⟩]
  | [], k, v, i => by simp [esFrom]
  | (a, b) :: r, k, v, i => by
    simp only [List.cons_append, esFrom, esFrom_append r k v (i + 1), List.length_cons]
    rw [show i + 1 + r.length = i + (r.length + 1) from by omega]
def fndM : List (Int × Value) → Int → Nat → Option (Nat × Value)
  | [], _, _ => none
  | (k, v) :: r, x, i => if x = k then some (i, v) else fndM r x (i + 1)
theorem fndM_some : ∀ (m : List (Int × Value)) (x : Int) (i j : Nat) (v : Value), fndM m x i = some (j, v) → i ≤ j ∧ m[j - i]? = some (x, v)
  | [], _, _, _, _, h => by cases h
  | (k, u) :: r, x, i, j, v, h => by
    unfold fndM at h
    split at h
    · rename_i hk; injection h with h; injection h with h1 h2; subst h1 h2 hk; simp
    · obtain ⟨h1, h2⟩ := fndM_some r x (i + 1) j v h
      exact ⟨by omega, by rw [show j - i = (j - (i + 1)) + 1 from by omega]; simpa using h2⟩
theorem findNow_eq (d : IntKind) : ∀ (m : List (Int × Value)) (x : Int) (i j : Nat), Instr.findNow (.int d) (.int .i64 x) (esFrom m j) i = some (fndM m x i)
  | [], _, _, _ => rfl
  | (k, v) :: r, x, i, j => by
    simp only [esFrom, Instr.findNow, Instr.sameNow, if_true, fndM]
    by_cases h : x = k
    · subst h; simp
    · have : (x == k) = false := by simpa using h
      simp only [this, if_neg h]
      exact findNow_eq d r x (i + 1) (j + 1)
def updM (m : List (Int × Value)) (x : Int) (v : Value) : List (Int × Value) := match fndM m x 0 with
  | some (i, _) => m.set i (x, v)
  | none => m ++ [(x, v)]
theorem esFrom_set : ∀ (m : List (Int × Value)) (i j : Nat) (x : Int) (v : Value), esFrom (m.set i (x, v)) j = (esFrom m j).modify i fun e => { e with key := .int .i64 x, val := v }
  | [], i, j, x, v => by simp [esFrom]
  | (a, b) :: r, 0, j, x, v => by simp [esFrom]
  | (a, b) :: r, i + 1, j, x, v => by simp [esFrom, esFrom_set r i (j + 1) x v]
section
variable {P : Program} {cx : Cx} {r : Operand → Option Value} {fz : FZ} {H : HP} {dst : Option Nat} {ty : TypeId} {pos : String} {af : Array Edge} {gd : Option (Nat × Bool)} {V : Value → Prop}
theorem run_getMap {w : World} {g : Nat} {m : List (Int × Value)} (h : w.heap[g]? = some (mapB m)) : (getObj g).run P w = .ok (mapB m) w := by
  simp [getObj, Sem.run, h, mapB]
theorem run_checkKey_int (T : Tab P) {k : TypeId} {K : Ty} {d : IntKind} (hK : T.inf k = some K) (hd : K.desc = .int d) (b : Bool) (x : Int) (w : World) : (Instr.checkKey b 10000 k (.int .i64 x)).run P w = .ok () w := by
  have hu := run_underlying (und_plain T hK hd rfl) w
  have : ∀ n : Nat, (Instr.checkKey b (n + 1) k (.int .i64 x)).run P w = .ok () w := fun n => by
    unfold Instr.checkKey
    simp only [Sem.run_bind, hu, Result.andThen_ok, Sem.run_pure]
  exact this 9999
theorem run_findKey_int (T : Tab P) {k : TypeId} {K : Ty} {d : IntKind} (hK : T.inf k = some K) (hd : K.desc = .int d) (x : Int) (m : List (Int × Value)) (w : World) : (Instr.findKey k (.int .i64 x) (esFrom m 0)).run P w = .ok (fndM m x 0) w := by
  have hu := run_underlying (und_plain T hK hd rfl) w
  simp only [Instr.findKey, Sem.run_bind, hu, Result.andThen_ok, findNow_eq, Sem.run_pure]
theorem run_lookup (T : Tab P) {t k e : TypeId} {X K E : Ty} {d : IntKind} {g : Nat} {m : List (Int × Value)} {x : Int} {w : World} (hT : T.inf t = some X) (hd : X.desc = .map k e) (hK : T.inf k = some K) (hkd : K.desc = .int d) (hE : T.inf e = some E)
    (hg : w.heap[g]? = some (mapB m)) : (Instr.lookup t (.map (some g)) (.int .i64 x) false).run P w = .ok ((fndM m x 0).elim E.zero (·.2)) w := by
  have hu := run_underlying (und_plain T hT hd rfl) w
  have hz := run_zero T hE w
  simp only [Instr.lookup, Sem.run_bind, hu, Result.andThen_ok, run_getMap hg, mapB, Sem.run_pure, run_checkKey_int T hK hkd, run_findKey_int T hK hkd]
  cases hf : fndM m x 0 with
  | none => simp [hz]
  | some p => simp
theorem q_lookup_own (T : Tab P) {t k e : TypeId} {y z : Operand} {X K E : Ty} {d : IntKind} {g : Nat} {m : List (Int × Value)} {x : Int} (i : Nat) (hT : T.inf t = some X) (hd : X.desc = .map k e) (hK : T.inf k = some K) (hkd : K.desc = .int d) (hE : T.inf e = some E)
    (hy : r y = some (.map (some g))) (hz : r z = some (.int .i64 x)) (hH : H[i]? = some (g, mapB m)) (h : V ((fndM m x 0).elim E.zero (·.2))) : DoesQ P cx ⟨dst, .lookup t y z false, ty, pos, af, gd⟩ r fz H V :=
  DoesQ.of h fun ρ w hr hi => by
    have hg := (hi.hp.own _ (List.mem_of_getElem? hH)).1
    simp only [execOp, hr _ _ hy, hr _ _ hz, Sem.run_bind, run_lookup T hT hd hK hkd hE hg, Result.andThen_ok, Sem.run_pure]
    exact ⟨rfl, Fr.refl _ _⟩
theorem k_makeMap {t : TypeId} {K : Value → FZ → HP → Prop} (h : ∀ g, K (.map (some g)) fz ((g, mapB []) :: H)) : Does P cx ⟨dst, .makeMap t none, ty, pos, af, gd⟩ r fz H K :=
  Does.of fun ρ w hr hw => by
    have : (execOp ρ ⟨dst, .makeMap t none, ty, pos, af, gd⟩).run P w = .ok (.value (.map (some w.heap.size))) (w.alloc (mapB [])) := by
      simp [execOp, Instr.makeMap, newObj, Sem.run, mapB, esFrom]
    rw [this]
    exact ⟨fz, _, hw.alloc _, h _⟩
theorem Inv.setObj {w : World} {pre post : HP} {g : Nat} {o o' : Obj} (h : Inv cx fz (pre ++ (g, o) :: post) w) : Inv cx fz (pre ++ (g, o') :: post) { w with heap := w.heap.setIfInBounds g o' } := by
  have hg := (h.hp.own (g, o) (by simp)).1
  have hlt := lt_of_heap hg
  exact h.write rfl rfl rfl (by simp) (by simp [hlt]) (fun k hk => by simp only; rw [Array.getElem?_setIfInBounds_ne (by omega)])
theorem k_mapUpdate (T : Tab P) {t k e : TypeId} {y z u : Operand} {X K : Ty} {d : IntKind} {g : Nat} {m : List (Int × Value)} {x : Int} {v : Value} {pre post : HP} {KK : Value → FZ → HP → Prop} (hT : T.inf t = some X) (hd : X.desc = .map k e) (hK : T.inf k = some K) (hkd : K.desc = .int d)
    (hy : r y = some (.map (some g))) (hz : r z = some (.int .i64 x)) (hu : r u = some v) (hp : H.Perm (pre ++ (g, mapB m) :: post)) (h : KK undef fz (pre ++ (g, mapB (updM m x v)) :: post)) : Does P cx ⟨dst, .mapUpdate t y z u, ty, pos, af, gd⟩ r fz H KK :=
  Does.of fun ρ w hr hi => by
    have hi' := hi.perm hp.symm
    have hg := (hi'.hp.own (g, mapB m) (by simp)).1
    have hund := run_underlying (und_plain T hT hd rfl) w
    have hset : ∀ o', (Go.setObj g o').run P w = .ok () { w with heap := w.heap.setIfInBounds g o' } := fun o' => by
      simp [Go.setObj, Sem.run, hg, mapB]
    have : (execOp ρ ⟨dst, .mapUpdate t y z u, ty, pos, af, gd⟩).run P w = .ok .skip { w with heap := w.heap.setIfInBounds g (mapB (updM m x v)) } := by
      simp only [execOp, hr _ _ hy, hr _ _ hz, hr _ _ hu, Sem.run_bind, Instr.mapUpdate, hund, Result.andThen_ok, run_getMap hg, mapB, run_checkKey_int T hK hkd, run_findKey_int T hK hkd]
      cases hf : fndM m x 0 with
      | none =>
        have hupd : updM m x v = m ++ [(x, v)] := by simp [updM, hf]
        simp only [hset, hupd, esFrom_append, Nat.zero_add, Result.andThen_ok, Sem.run_pure, List.length_append, List.length_cons, List.length_nil, List.push_toArray]
      | some p =>
        obtain ⟨i, u'⟩ := p
        have hupd : updM m x v = m.set i (x, v) := by simp [updM, hf]
        have hfs := fndM_some m x 0 i u' hf
        have hkey : (((esFrom m 0).toArray[i]?).map (·.key)).getD (.int .i64 x) = .int .i64 x := by
          have := esFrom_get m 0 i
          simp only [Nat.sub_zero] at hfs
          rw [hfs.2] at this
          simp [this]
        have hstay : (Instr.keyThatStays (.int .i64 x) (.int .i64 x)).run P w = .ok (.int .i64 x) w := by
          simp [Instr.keyThatStays, Instr.sameBits]
        simp only [hkey, hstay, Sem.run_bind, Result.andThen_ok, hset, hupd, esFrom_set, Sem.run_pure, List.length_set, List.modify_toArray]
    rw [this]
    exact ⟨fz, _, hi'.setObj, h⟩
end
end Go.Lx
namespace Go.Lx
open Go.RowKit
section
variable {P : Program} {cx : Cx} {r : Operand → Option Value} {fz : FZ} {H : HP} {V : Value → Prop} {dst : Option Nat} {ty : TypeId} {pos : String} {af : Array Edge} {gd : Option (Nat × Bool)} {t t' : TypeId} {x y : Operand} {k : IntKind} {a b : Int}
theorem qg_quo {c : Int} (hx : r x = some (.int k a)) (hy : r y = some (.int k b)) (hb : b ≠ 0) (hw : k.wrap (a.tdiv b) = c) (h : V (.int k c)) : DoesQ P cx ⟨dst, .binOp .quo t x y t', ty, pos, af, gd⟩ r fz H V :=
  doesQ_of (fun ρ w hr => by simp [execOp, hr _ _ hx, hr _ _ hy, eqGuard, binOp, Op.intDiv, hb, hw]) h
theorem qg_shr {k' : IntKind} {c : Int} (hx : r x = some (.int k a)) (hy : r y = some (.int k' b)) (hb : ¬ b < 0) (hw : a.fdiv (2 ^ (min b.toNat k.bits)) = c) (h : V (.int k c)) : DoesQ P cx ⟨dst, .binOp .shr t x y t', ty, pos, af, gd⟩ r fz H V :=
  doesQ_of (fun ρ w hr => by simp [execOp, hr _ _ hx, hr _ _ hy, eqGuard, binOp, Op.shift, hb, hw]) h
theorem qg_neg {c : Int} (hx : r x = some (.int k a)) (hw : k.wrap (-a) = c) (h : V (.int k c)) : DoesQ P cx ⟨dst, .unOp .neg t x, ty, pos, af, gd⟩ r fz H V :=
  doesQ_of (fun ρ w hr => by simp [execOp, hr _ _ hx, Op.unary, Op.intArith, Int.zero_sub, hw]) h
theorem qg_makeFunc {f : Fn} {us cs : List Operand} {vs ws : List Value} (hu : rds r us = some vs) (hc : rds r cs = some ws) (h : V (.func f vs.toArray ws.toArray)) : DoesQ P cx ⟨dst, .makeFunc f us.toArray cs.toArray, ty, pos, af, gd⟩ r fz H V :=
  doesQ_of (fun ρ w hr => by
    have e1 := hr.all us vs hu
    have e2 := hr.all cs ws hc
    simp [execOp, Instr.makeFunc, e1, e2]) h
theorem add_off {g j i : Nat} : (⟨g, j, none⟩ : Addr).add i = ⟨g, j + i, none⟩ := by
  unfold Addr.add
  split
  · rename_i h; subst h; rfl
  · rfl
theorem q_load_own_sub (T : Tab P) {t2 : TypeId} {X : Ty} {g j : Nat} {cs vs : List Value} {f : Nat × Nat} (i : Nat) (hT : T.inf t = some X) (hd : isAggD X.desc = true)
    (hx : r x = some (.pointer (some ⟨g, j, none⟩))) (hi : H[i]? = some (g, .cells cs.toArray t2 f)) (hv : (cs.drop j).take X.size = vs) (hs : X.size = vs.length) (h : V (.agg vs.toArray)) : DoesQ P cx ⟨dst, .load t x, ty, pos, af, gd⟩ r fz H V :=
  DoesQ.of h fun ρ w hr hw => by
    have hc : ∀ m v, vs[m]? = some v → w.cell? ((⟨g, j, none⟩ : Addr).add m) = some v := fun m v hm => by
      rw [add_off, hw.cellOwn hi]
      rw [← hv, List.getElem?_take] at hm
      split at hm
      · rw [List.getElem?_drop] at hm; simpa using hm
      · cases hm
    simp only [execOp, hr _ _ hx, Instr.loadAt, Instr.sureAddr, Sem.run_bind, Sem.run_pure, Result.andThen_ok, run_loadN T hT hd hs hc]
    exact ⟨rfl, Fr.refl _ _⟩
end
theorem get_some {α : Type} {l : List α} {k : Nat} (h : k < l.length) : ∃ x, l[k]? = some x := ⟨_, List.getElem?_eq_getElem h⟩
theorem get_int {α : Type} {l : List α} {k : Int} (h0 : 0 ≤ k) (h : k < l.length) : ∃ x, l[k.toNat]? = some x := get_some (by omega)
theorem lt_of_get {α : Type} {l : List α} {k : Nat} {x : α} (h : l[k]? = some x) : k < l.length := (List.getElem?_eq_some_iff.1 h).1
theorem bool_true {p : Prop} [Decidable p] (h : p) : Value.bool true = Value.bool (decide p) := by rw [decide_eq_true h]
theorem bool_false {p : Prop} [Decidable p] (h : ¬ p) : Value.bool false = Value.bool (decide p) := by rw [decide_eq_false h]
theorem bool_same {p q : Prop} [Decidable p] [Decidable q] (h : p ↔ q) : Value.bool (decide p) = Value.bool (decide q) := by rw [decide_eq_decide.2 h]
theorem lt_succ_cases {p : Nat → Prop} {k : Nat} (h : ∀ i, i < k → p i) (hk : p k) : ∀ i, i < k + 1 → p i := by
  intro i hi
  by_cases he : i = k
  · subst he; exact hk
  · exact h i (by omega)
theorem all_of {α : Type} {p : α → Prop} {l : List α} {k : Nat} (h : ∀ i, i < k → ∀ x, l[i]? = some x → p x) (hk : l.length ≤ k) : ∀ x ∈ l, p x := fun x hx => by
  obtain ⟨i, hi⟩ := List.mem_iff_getElem?.1 hx
  exact h i (by have := lt_of_get hi; omega) x hi
theorem all_next {α : Type} {p : α → Prop} {l : List α} {k : Nat} {x : α} (h : ∀ i, i < k → ∀ x, l[i]? = some x → p x) (hx : l[k]? = some x) (hp : p x) : ∀ i, i < k + 1 → ∀ x, l[i]? = some x → p x :=
  lt_succ_cases h (fun y hy => by rw [hx] at hy; injection hy with hy; subst hy; exact hp)
end Go.Lx
namespace Go.Gr
open Go.Lx
def kNumber : ByteArray := ⟨#[110, 117, 109, 98, 101, 114]⟩
def kFluent : ByteArray := ⟨#[102, 108, 117, 101, 110, 116]⟩
def kPlus : ByteArray := ⟨#[43]⟩
def kMinus : ByteArray := ⟨#[45]⟩
def kTimes : ByteArray := ⟨#[42]⟩
def kLt : ByteArray := ⟨#[60]⟩
def kLe : ByteArray := ⟨#[60, 61]⟩
def kEq : ByteArray := ⟨#[61]⟩
theorem bytes_ne {a b : Array UInt8} (h : a ≠ b) : (⟨a⟩ : ByteArray) ≠ ⟨b⟩ := fun hc => h (by injection hc)
abbrev maxN : Int := 1099511627776
def AscP (n : Int) (l : List Int) : Prop := ∀ i x, l[i]? = some x → 0 ≤ x ∧ x < n ∧ ∀ y, 0 < i → l[i - 1]? = some y → y < x
theorem AscP.lt {n : Int} {l : List Int} (h : AscP n l) : ∀ {j i : Nat} {x y : Int}, l[i]? = some x → l[j]? = some y → i < j → x < y
  | 0, _, _, _, _, _, hij => by omega
  | j + 1, i, x, y, hi, hj, hij => by
    have hlt : j < l.length := by have := (List.getElem?_eq_some_iff.1 hj).1; omega
    have hz : l[j]? = some l[j] := List.getElem?_eq_getElem hlt
    have h1 := (h (j + 1) y hj).2.2 l[j] (by omega) (by simp)
    by_cases he : i = j
    · subst he
      rw [hz] at hi; injection hi with hi
      omega
    · have := AscP.lt h hi hz (by omega)
      omega
theorem AscP.found {n : Int} {l : List Int} (h : AscP n l) {k : Nat} {x : Int} (hlo : ∀ i y, i < k → l[i]? = some y → y < x) (hhi : ∀ i y, k ≤ i → l[i]? = some y → x ≤ y) : x ∈ l ↔ l[k]? = some x := by
  constructor
  · intro hm
    obtain ⟨i, hi⟩ := List.mem_iff_getElem?.1 hm
    rcases Nat.lt_trichotomy i k with h1 | h1 | h1
    · have := hlo i x h1 hi; omega
    · rw [← h1]; exact hi
    · have hlt : k < l.length := by have := (List.getElem?_eq_some_iff.1 hi).1; omega
      have hz : l[k]? = some l[k] := List.getElem?_eq_getElem hlt
      have h2 := hhi k _ (Nat.le_refl _) hz
      have h3 := h.lt hz hi h1
      omega
  · intro hk
    exact List.mem_of_getElem? hk
inductive RightP (m : Int) : GExpr → Prop where
  | number {e : GExpr} : e.op = kNumber → e.kids = [] → -maxN ≤ e.n → e.n ≤ maxN → RightP m e
  | fluent {e : GExpr} : e.op = kFluent → e.kids = [] → 0 ≤ e.n → e.n < m → RightP m e
  | bin {e a b : GExpr} : (e.op = kPlus ∨ e.op = kMinus ∨ e.op = kTimes) → e.n = 0 → e.kids = [a, b] → RightP m a → RightP m b → RightP m e
def combN (op : ByteArray) (a b : Int) : Int := if op = kPlus then a + b else if op = kMinus then a - b else a * b
def comb (op : ByteArray) (a b : Int) : Option Int := if -maxN ≤ combN op a b ∧ combN op a b ≤ maxN then some (combN op a b) else none
theorem comb_in {op : ByteArray} {a b n : Int} (h : comb op a b = some n) : -maxN ≤ n ∧ n ≤ maxN := by
  unfold comb at h
  split at h
  · rename_i hc; injection h with h; rw [← h]; exact hc
  · cases h
noncomputable def valE (vs : List Int) (e : GExpr) : Option Int :=
  if e.op = kNumber then some e.n else if e.op = kFluent then vs[e.n.toNat]? else match _h : e.kids with
    | [a, b] => match valE vs a with
      | none => none
      | some x => match valE vs b with
        | none => none
        | some y => comb e.op x y
    | _ => none
termination_by e
decreasing_by
  · exact GExpr.kids_lt (by rw [_h]; simp)
  · exact GExpr.kids_lt (by rw [_h]; simp)
theorem valE_number {vs : List Int} {e : GExpr} (h : e.op = kNumber) : valE vs e = some e.n := by
  unfold valE; rw [if_pos h]
theorem valE_fluent {vs : List Int} {e : GExpr} (h : e.op = kFluent) : valE vs e = vs[e.n.toNat]? := by
  unfold valE
  rw [if_neg (by rw [h]; exact bytes_ne (by decide)), if_pos h]
theorem valE_bin {vs : List Int} {e a b : GExpr} (h : e.op = kPlus ∨ e.op = kMinus ∨ e.op = kTimes) (hk : e.kids = [a, b]) : valE vs e = match valE vs a with
    | none => none
    | some x => match valE vs b with
      | none => none
      | some y => comb e.op x y := by
  have h1 : e.op ≠ kNumber := by rcases h with h | h | h <;> rw [h] <;> exact bytes_ne (by decide)
  have h2 : e.op ≠ kFluent := by rcases h with h | h | h <;> rw [h] <;> exact bytes_ne (by decide)
  rw [valE]
  rw [if_neg h1, if_neg h2]
  split
  · rename_i a' b' hk'
    rw [hk] at hk'
    injection hk' with e1 e2
    injection e2 with e2
    subst e1 e2
    rfl
  · rename_i hne
    exact absurd hk (hne a b)
theorem valE_in {vs : List Int} {m : Int} (hv : ∀ x ∈ vs, -maxN ≤ x ∧ x ≤ maxN) {e : GExpr} (hr : RightP m e) {n : Int} (h : valE vs e = some n) : -maxN ≤ n ∧ n ≤ maxN := by
  induction hr generalizing n with
  | number h1 _ h3 h4 => rw [valE_number h1] at h; injection h with h; subst h; exact ⟨h3, h4⟩
  | fluent h1 _ _ _ => rw [valE_fluent h1] at h; exact hv n (List.mem_of_getElem? h)
  | bin h1 h2 h3 h4 h5 _ _ =>
    rw [valE_bin h1 h3] at h
    split at h
    · cases h
    · split at h
      · cases h
      · exact comb_in h
theorem mul_guard {a b : Int} (ha : a ≠ 0) : max b (-b) > maxN / max a (-a) ↔ ¬ (-maxN ≤ a * b ∧ a * b ≤ maxN) := by
  have hA : 0 < max a (-a) := by omega
  have key : max b (-b) > maxN / max a (-a) ↔ maxN < max a (-a) * max b (-b) := by
    rw [gt_iff_lt, Int.ediv_lt_iff_lt_mul hA, Int.mul_comm]
  rw [key]
  have habs : max a (-a) * max b (-b) = max (a * b) (-(a * b)) := by
    rcases Int.le_total 0 a with h1 | h1 <;> rcases Int.le_total 0 b with h2 | h2
    · have := Int.mul_nonneg h1 h2
      rw [Int.max_eq_left (by omega), Int.max_eq_left (by omega), Int.max_eq_left (by omega)]
    · have := Int.mul_nonpos_of_nonneg_of_nonpos h1 h2
      rw [Int.max_eq_left (by omega), Int.max_eq_right (by omega), Int.max_eq_right (by omega), Int.mul_neg]
    · have := Int.mul_nonpos_of_nonpos_of_nonneg h1 h2
      rw [Int.max_eq_right (by omega), Int.max_eq_left (by omega), Int.max_eq_right (by omega), Int.neg_mul]
    · have := Int.mul_nonneg_of_nonpos_of_nonpos h1 h2
      rw [Int.max_eq_right (by omega), Int.max_eq_right (by omega), Int.max_eq_left (by omega), Int.neg_mul_neg]
  rw [habs]
  omega
def TestOk (m : Int) (t : GTest) : Prop := (t.op = kLt ∨ t.op = kLe ∨ t.op = kEq) ∧ RightP m t.a ∧ RightP m t.b
def CondOk (n m : Int) (c : Cond) : Prop := AscP n c.pos ∧ AscP n c.neg ∧ ∀ t ∈ c.tests, TestOk m t
def ChangeOk (n m : Int) (c : GChange) : Prop := 0 ≤ c.atom ∧ c.atom < n ∧ CondOk n m c.when_
def AssignsOk (m : Int) (l : List GAssign) : Prop := ∀ (i : Nat) (a : GAssign), l[i]? = some a → 0 ≤ a.fluent ∧ a.fluent < m ∧ RightP m a.value ∧ ∀ (j : Nat) (b : GAssign), j < i → l[j]? = some b → b.fluent ≠ a.fluent
def byteAt (s : ByteArray) (i : Nat) : Nat := ((s[i]?).map UInt8.toNat).getD 0
def NameAt (s : ByteArray) (i : Nat) : Prop := 32 ≤ byteAt s i ∧ byteAt s i ≤ 126
theorem byte_some {s : ByteArray} {k : Nat} (h : k < s.size) : ∃ b : UInt8, s[k]? = some b ∧ byteAt s k = b.toNat := by
  refine ⟨s[k], getElem?_pos s k h, ?_⟩
  simp [byteAt, getElem?_pos s k h]
def NameOk (s : ByteArray) : Prop := s.size ≤ 256 ∧ ∀ i, i < s.size → NameAt s i
def OpOk (n m : Int) (o : GOp) : Prop := 0 ≤ o.cost ∧ o.cost ≤ 1048576 ∧ NameOk o.name ∧ o.changes.length ≤ 256 ∧ CondOk n m o.pre ∧ (∀ c ∈ o.changes, ChangeOk n m c) ∧ AssignsOk m o.assigns
def FluentOk (f : GFluent) : Prop := -maxN ≤ f.lo ∧ f.lo ≤ f.init ∧ f.init ≤ f.hi ∧ f.hi ≤ maxN ∧ f.hi - f.lo < 64
def ValidP (g : GTask) : Prop := g.atoms.length ≤ 4096 ∧ g.fluents.length ≤ 4096 ∧ g.ops.length ≤ 4096 ∧ g.goal.length ≤ 64 ∧ AscP g.atoms.length g.init ∧ (∀ f ∈ g.fluents, FluentOk f) ∧ (∀ c ∈ g.goal, CondOk g.atoms.length g.fluents.length c) ∧ ∀ o ∈ g.ops, OpOk g.atoms.length g.fluents.length o
def ProperP (g : GTask) (s : GState) : Prop := s.values.length = g.fluents.length ∧ AscP g.atoms.length s.tru ∧ ∀ (i : Nat) (n : Int) (f : GFluent), s.values[i]? = some n → g.fluents[i]? = some f → f.lo ≤ n ∧ n ≤ f.hi
theorem ProperP.in {g : GTask} {s : GState} (hg : ValidP g) (h : ProperP g s) : ∀ x ∈ s.values, -maxN ≤ x ∧ x ≤ maxN := fun x hx => by
  obtain ⟨i, hi⟩ := List.mem_iff_getElem?.1 hx
  have hlt := (List.getElem?_eq_some_iff.1 hi).1
  have hf : g.fluents[i]? = some (g.fluents[i]'(by rw [← h.1]; exact hlt)) := List.getElem?_eq_getElem _
  have h1 := h.2.2 i x _ hi hf
  have h2 := hg.2.2.2.2.2.1 _ (List.mem_of_getElem? hf)
  obtain ⟨a, b, c, d, e⟩ := h2
  omega
def TestP (vs : List Int) (t : GTest) : Prop := ∃ a b, valE vs t.a = some a ∧ valE vs t.b = some b ∧ ((t.op = kLt ∧ a < b) ∨ (t.op = kLe ∧ a ≤ b) ∨ (t.op = kEq ∧ a = b))
def HoldP (s : GState) (c : Cond) : Prop := (∀ i ∈ c.pos, i ∈ s.tru) ∧ (∀ i ∈ c.neg, i ∉ s.tru) ∧ ∀ t ∈ c.tests, TestP s.values t
def GoalP (g : GTask) (s : GState) : Prop := ∃ c ∈ g.goal, HoldP s c
end Go.Gr
