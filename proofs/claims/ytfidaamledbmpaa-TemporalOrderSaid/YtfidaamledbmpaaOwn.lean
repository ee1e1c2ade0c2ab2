/- Memory that a call makes and goes on writing: slices that grow, and what becomes of them when they are kept as they are. Conditions: none. -/
import Derived.Test.YtfidaamledbmpaaData
import Derived.Maps.AppendAt
namespace Go.Lx
open Go.RowKit

/-- a slice of the call's own: its cells are xs; Hs: the block that holds them -/
def OwnS (e size : Nat) (v : Value) (n : Nat) (xs : List Value) (Hs : HP) : Prop :=
  xs.length = n * size ∧ ((v = .slice none 0 0 ∧ n = 0 ∧ Hs = []) ∨
    ∃ g cap cur, v = .slice (some ⟨g, 0, none⟩) n cap ∧ Hs = [(g, .cells cur e (0, 0))] ∧ n ≤ cap ∧ cap ≤ maxLen ∧ cur.size = cap * size ∧ cur.toList.take (n * size) = xs)

theorem OwnS.nil (e size : Nat) : OwnS e size (.slice none 0 0) 0 [] [] := ⟨by simp, .inl ⟨rfl, rfl, rfl⟩⟩
theorem OwnS.form {e size n : Nat} {v : Value} {xs : List Value} {Hs : HP} (h : OwnS e size v n xs Hs) : ∃ A c, v = .slice A n c ∧ n ≤ c ∧ c ≤ 9223372036854775807 := by
  rcases h.2 with ⟨h1, h2, _⟩ | ⟨g, cap, cur, h1, _, h3, h4, _⟩
  · subst h2; exact ⟨none, 0, h1, Nat.le_refl _, by omega⟩
  · exact ⟨_, cap, h1, h3, by simpa [maxLen] using h4⟩
theorem OwnS.of_block {e size g n : Nat} {cs : List Value} (hl : cs.length = n * size) (hn : n ≤ maxLen) : OwnS e size (.slice (some ⟨g, 0, none⟩) n n) n cs [(g, .cells cs.toArray e (0, 0))] :=
  ⟨hl, .inr ⟨g, n, cs.toArray, rfl, rfl, Nat.le_refl _, hn, by simpa using hl, by simp [← hl]⟩⟩

section
variable {P : Program} {cx : Cx} {r : Operand → Option Value} {fz : FZ} {H : HP} {dst : Option Nat} {ty : TypeId} {pos : String} {af : Array Edge} {gd : Option (Nat × Bool)}

theorem Does.perm {o : Oper} {H' : HP} {K : Value → FZ → HP → Prop} (hp : H'.Perm H) (h : Does P cx o r fz H' K) : Does P cx o r fz H K :=
  Does.of fun ρ w hr hi => h.run ρ w hr (hi.perm hp)

/-- what follows an append: the blocks beside the grown one are as they were -/
theorem Inv.appended {w w' : World} {Hr Hs Hs' : HP} {e size n m : Nat} {v v' : Value} {xs ys : List Value} (h : Inv cx fz (Hr ++ Hs) w) (ho : OwnS e size v n xs Hs) (hg : w.grownBy w' v.ownBlock)
    (ho' : OwnS e size v' m ys Hs') (hw' : ∀ p ∈ Hs', w'.heap[p.1]? = some p.2) (hb : v'.ownBlock = v.ownBlock ∨ v'.ownBlock = some w.heap.size) : Inv cx fz (Hr ++ Hs') w' := by
  obtain ⟨⟨a, b, c⟩, ⟨d, ee, f, gg, i⟩, ⟨j, k, l⟩⟩ := h
  rw [List.map_append, List.nodup_append] at c
  -- the row that may have been written
  have hrow : ∀ g, v.ownBlock = some g → ∃ o, Hs = [(g, o)] := by
    intro g hgv
    rcases ho.2 with ⟨h1, _, _⟩ | ⟨g', cap, cur, h1, h2, _⟩
    · subst h1; simp [Value.ownBlock] at hgv
    · subst h1; simp [Value.ownBlock] at hgv; subst hgv; exact ⟨_, h2⟩
  have hsame : ∀ x, x < w.heap.size → (∀ o, Hs ≠ [(x, o)]) → w'.heap[x]? = w.heap[x]? := fun x hx hn => hg.block x hx (fun he => by
    obtain ⟨o, ho⟩ := hrow x he.symm
    exact hn o ho)
  have hnotfz : ∀ x q, fz x = some q → ∀ o, Hs ≠ [(x, o)] := fun x q hx o he => by
    have := (b (x, o) (by rw [he]; simp)).2
    rw [hx] at this; cases this
  have hnotr : ∀ p ∈ Hr, ∀ o, Hs ≠ [(p.1, o)] := fun p hp o he => c.2.2 p.1 (List.mem_map.2 ⟨p, hp, rfl⟩) p.1 (by rw [he]; simp) rfl
  -- the new row's block
  have hform : Hs' = [] ∨ ∃ g o, Hs' = [(g, o)] ∧ ((∃ o', Hs = [(g, o')]) ∨ g = w.heap.size) := by
    rcases ho'.2 with ⟨_, _, h3⟩ | ⟨g, cap, cur, h1, h2, _⟩
    · exact .inl h3
    · refine .inr ⟨g, _, h2, ?_⟩
      subst h1
      rcases hb with hb | hb
      · exact .inl (hrow g (by rw [← hb]; rfl))
      · right; simpa [Value.ownBlock] using hb
  have hnew : fz w.heap.size = none := by
    cases hq : fz w.heap.size with
    | none => rfl
    | some q => have := lt_of_heap (a _ _ hq); omega
  refine ⟨⟨fun x q hx => ?_, fun p hp => ?_, ?_⟩, ⟨hg.os.trans d, hg.tape.trans ee, hg.output.trans f, by have := hg.size; omega, fun x hx hn => ?_⟩, ⟨j, k, fun p hp => ?_⟩⟩
  · have := a x q hx
    rw [hsame x (lt_of_heap this) (hnotfz x q hx)]; exact this
  · rcases List.mem_append.1 hp with hp | hp
    · have := b p (by simp [hp])
      exact ⟨by rw [hsame p.1 (lt_of_heap this.1) (hnotr p hp)]; exact this.1, this.2⟩
    · refine ⟨hw' p hp, ?_⟩
      rcases hform with h1 | ⟨g, o, h1, h2⟩
      · rw [h1] at hp; cases hp
      · rw [h1] at hp; simp at hp; subst hp
        rcases h2 with ⟨o', h2⟩ | h2
        · exact (b (g, o') (by rw [h2]; simp)).2
        · subst h2; exact hnew
  · rw [List.map_append, List.nodup_append]
    rcases hform with h1 | ⟨g, o, h1, h2⟩
    · rw [h1]; simp; exact c.1
    · rw [h1]
      refine ⟨c.1, by simp, fun x hx y hy hxy => ?_⟩
      simp at hy
      subst hy
      subst hxy
      obtain ⟨q, hq, rfl⟩ := List.mem_map.1 hx
      rcases h2 with ⟨o', h2⟩ | h2
      · exact hnotr q hq o' h2
      · have := lt_of_heap (b q (by simp [hq])).1; omega
  · rw [hsame x (by omega) (fun o he => by
      have := l (x, o) (by rw [he]; simp)
      rcases this with h1 | h1
      · exact hn h1
      · have h2 : cx.w0.heap.size ≤ x := h1; omega)]
    exact i x hx hn
  · rcases List.mem_append.1 hp with hp | hp
    · exact l p (by simp [hp])
    · rcases hform with h1 | ⟨g, o, h1, h2⟩
      · rw [h1] at hp; cases hp
      · rw [h1] at hp; simp at hp; subst hp
        rcases h2 with ⟨o', h2⟩ | h2
        · exact l (g, o') (by rw [h2]; simp)
        · exact .inr (by omega)

theorem OwnS.owns {w : World} {Hr Hs : HP} {e size n : Nat} {v : Value} {xs : List Value} (h : OwnS e size v n xs Hs) (hi : Inv cx fz (Hr ++ Hs) w) : w.ownsRow 0 e size v n xs := by
  refine ⟨h.1, ?_⟩
  rcases h.2 with ⟨h1, h2, _⟩ | ⟨g, cap, cur, h1, h2, h3, h4, h5, h6⟩
  · exact .inl ⟨h1, h2⟩
  · exact .inr ⟨g, cap, cur, h1, Nat.zero_le _, (hi.hp.own (g, .cells cur e (0, 0)) (by rw [h2]; simp)).1, h3, h4, h5, h6⟩

theorem OwnS.of_owns {w : World} {e size n : Nat} {v : Value} {xs : List Value} (h : w.ownsRow 0 e size v n xs) : ∃ Hs, OwnS e size v n xs Hs ∧ ∀ p ∈ Hs, w.heap[p.1]? = some p.2 := by
  obtain ⟨h1, h2⟩ := h
  rcases h2 with ⟨h2, h3⟩ | ⟨g, cap, cur, h2, _, h4, h5, h6, h7, h8⟩
  · exact ⟨[], ⟨h1, .inl ⟨h2, h3, rfl⟩⟩, by simp⟩
  · exact ⟨[(g, .cells cur e (0, 0))], ⟨h1, .inr ⟨g, cap, cur, h2, rfl, h5, h6, h7, h8⟩⟩, by simpa using h4⟩

/-- append(x, y...): x of the call's own, y's cells known -/
theorem k_append (T : Tab P) {t e : TypeId} {x y : Operand} {X Y : Ty} {v : Value} {n m c : Nat} {B : Option Addr} {xs news : List Value} {Hr Hs : HP} {K : Value → FZ → HP → Prop} (hT : T.inf t = some X) (hd : X.desc = .slice e) (hY : T.inf e = some Y) (hz : Y.zero.cells.size = Y.size) (hsz : Nat.blt 0 Y.size = true)
    (hx : r x = some v) (hy : r y = some (.slice B m c)) (hp : H.Perm (Hr ++ Hs)) (ho : OwnS e Y.size v n xs Hs)
    (hl : news.length = m * Y.size) (hs : m = 0 ∨ ∃ ad, B = some ad ∧ ∀ w, Inv cx fz H w → ∀ j u, news[j]? = some u → w.cell? (ad.add j) = some u) (h1 : ∀ u ∈ news, u.oneCell' = true) (hb : (n + m) * Y.bytes ≤ 140737488355328) (hm : n + m ≤ 9223372036854775807)
    (h : ∀ v' Hs', OwnS e Y.size v' (n + m) (xs ++ news) Hs' → K v' fz (Hr ++ Hs')) :
    Does P cx ⟨dst, .call { callee := .builtin .append, args := #[x, y], argTypes := #[t, t] }, ty, pos, af, gd⟩ r fz H K := by
  refine Does.of fun ρ w hr hi => ?_
  have hi' := hi.perm hp.symm
  obtain ⟨i, hinf, g1, g2, g3⟩ := (T.ok_ hY).info
  have hown := ho.owns hi'
  have hund := und_plain T hT hd rfl
  have hexec : ∀ res, (Builtin.append_ #[t, t] ty #[v, .slice B m c]).run P w = res → (execOp ρ ⟨dst, .call { callee := .builtin .append, args := #[x, y], argTypes := #[t, t] }, ty, pos, af, gd⟩).run P w = res.andThen fun u w' => .ok (.value u) w' := by
    intro res hres
    simp only [execOp, resolve, invoke, builtin, Sem.run_bind, Sem.run_pure, Result.andThen_ok, List.map_toArray, List.map_cons, List.map_nil, hr _ _ hx, hr _ _ hy, hres]
  by_cases hB : B = none
  · -- a nil source
    subst hB
    have hm0 : m = 0 := by
      rcases hs with h0 | ⟨ad, he, _⟩
      · exact h0
      · cases he
    subst hm0
    have hn : news = [] := List.eq_nil_of_length_eq_zero (by simpa using hl)
    subst hn
    have hrun : (Builtin.append_ #[t, t] ty #[v, .slice none 0 c]).run P w = .ok v w := by
      rcases hown.2 with ⟨rfl, rfl⟩ | ⟨g, cap, cur, rfl, _, _, hnc, _⟩
      · simp [Builtin.append_, run_underlying hund, sizeOf, typeInfo, hinf, Builtin.lenOf, Builtin.firstCells]
      · simp [Builtin.append_, run_underlying hund, sizeOf, typeInfo, hinf, Builtin.lenOf, Builtin.firstCells, hnc, storeCells]
    rw [hexec _ hrun]
    exact ⟨fz, _, hi', h v Hs (by simpa using ho)⟩
  · obtain ⟨ad, rfl⟩ : ∃ ad, B = some ad := by cases B with | none => exact absurd rfl hB | some ad => exact ⟨ad, rfl⟩
    have hcells : ∀ j u, news[j]? = some u → w.cell? (ad.add j) = some u := by
      intro j u hu
      rcases hs with h0 | ⟨ad', he, hc⟩
      · subst h0
        have hn : news = [] := List.eq_nil_of_length_eq_zero (by simpa using hl)
        subst hn
        simp at hu
      · injection he with he
        subst he
        exact hc w hi j u hu
    have hsz' : 0 < Y.size := by simpa [Nat.blt_eq] using hsz
    obtain ⟨v', w', hrun, h2, h3, _, h5⟩ := run_append_own_at (P := P) w 0 t ty e i Y.zero Y.size Y.bytes hund hinf g3 g1 g2 hz hsz' v n xs hown ad m c news hl hcells h1 (by simpa [maxLen] using hm) hb (Nat.zero_le _)
    obtain ⟨Hs', h6, h7⟩ := OwnS.of_owns h2
    rw [hexec _ hrun]
    exact ⟨fz, _, hi'.appended ho h3 h6 h7 h5, h v' Hs' h6⟩

/-- the source is memory that stays -/
theorem src_row {B : Option Addr} {m : Nat} {news : List Value} (h : m = 0 ∨ ∃ ad, B = some ad ∧ Row fz ad news) : m = 0 ∨ ∃ ad, B = some ad ∧ ∀ w, Inv cx fz H w → ∀ j u, news[j]? = some u → w.cell? (ad.add j) = some u :=
  h.imp id fun ⟨ad, h1, h2⟩ => ⟨ad, h1, fun _ hi j u hu => hi.hp.cell (h2 j u hu)⟩
/-- the source is a block of the call's own -/
theorem src_own {g m : Nat} {t : TypeId} {news : List Value} (hp : (g, Obj.cells news.toArray t (0, 0)) ∈ H) : m = 0 ∨ ∃ ad, (some (⟨g, 0, none⟩ : Addr)) = some ad ∧ ∀ w, Inv cx fz H w → ∀ j u, news[j]? = some u → w.cell? (ad.add j) = some u :=
  .inr ⟨_, rfl, fun w hi j u hu => by
    have hadd : (⟨g, 0, none⟩ : Addr).add j = ⟨g, j, none⟩ := by unfold Addr.add; split <;> simp_all
    rw [hadd, cell_of_row w g j news.toArray t (0, 0) (hi.hp.own _ hp).1]
    simpa using hu⟩

theorem k_buildSlice0 (T : Tab P) {t e : TypeId} {X Y : Ty} {K : Value → FZ → HP → Prop} (hT : T.inf t = some X) (hd : X.desc = .slice e) (hY : T.inf e = some Y)
    (h : ∀ g, K (.slice (some ⟨g, 0, none⟩) 0 0) fz ((g, .cells #[] e (0, 0)) :: H)) : Does P cx ⟨dst, .buildSlice t 0 #[], ty, pos, af, gd⟩ r fz H K := by
  refine Does.of fun ρ w hr hw => ?_
  have hu := run_underlying (und_plain T hT hd rfl) w
  have hsz := run_sizeOf T hY w
  have : (execOp ρ ⟨dst, .buildSlice t 0 #[], ty, pos, af, gd⟩).run P w = .ok (.value (.slice (some ⟨w.heap.size, 0, none⟩) 0 0)) (w.alloc (.cells #[] e (0, 0))) := by
    simp [execOp, Instr.buildSlice, hu, hsz, Instr.fill, newRow, newObj, Sem.run, Array.range_zero']
  rw [this]
  exact ⟨fz, _, hw.alloc _, h _⟩

/-- 's == nil' on slices -/
theorem q_eql_nilslice (T : Tab P) {t t' : TypeId} {x : Operand} {X : Ty} {e : TypeId} {A : Option Addr} {n c : Nat} {V : Value → Prop} (hT : T.inf t = some X) (hd : X.desc = .slice e) (hx : r x = some (.slice A n c)) (hy : r (.const (.slice none 0 0)) = some (.slice none 0 0)) (h1 : A = none → V (.bool true)) (h2 : A ≠ none → V (.bool false)) :
    DoesQ P cx ⟨dst, .binOp .eql t x (.const (.slice none 0 0)) t', ty, pos, af, gd⟩ r fz H V := by
  have hu := fun w => run_underlying (und_plain T hT hd rfl) w
  have hrun : ∀ w, (Op.equal t (.slice A n c) (.slice none 0 0)).run P w = .ok A.isNone w := fun w => by
    have : ∀ d : Nat, (Op.equalIn (d + 1) t (.slice A n c) (.slice none 0 0)).run P w = .ok A.isNone w := fun d => by
      unfold Op.equalIn
      cases A <;> simp only [Sem.run_bind, hu, Result.andThen_ok, Sem.run_pure, Option.isNone_none, Option.isNone_some]
    exact this 9999
  cases A with
  | none => exact doesQ_of (fun ρ w hr => by simp only [execOp, hr _ _ hx, hr _ _ hy, Sem.run_bind, eqGuard_at_slice, Sem.run_pure, Result.andThen_ok, binOp, hrun, Option.isNone_none]) (h1 rfl)
  | some ad => exact doesQ_of (fun ρ w hr => by simp only [execOp, hr _ _ hx, hr _ _ hy, Sem.run_bind, eqGuard_at_slice, Sem.run_pure, Result.andThen_ok, binOp, hrun, Option.isNone_some]) (h2 (by simp))

/-! ### own memory, kept as it is from here on -/
/-- what a slice's own block becomes -/
def RowS (fz : FZ) (A : Option Addr) (n : Nat) (xs : List Value) : Prop := n = 0 ∨ ∃ ad, A = some ad ∧ Row fz ad xs

theorem Wp.freezeAll {n : Nat} {c : Code} {σ : Env} {Q : QQ} {H1 H2 : HP} (hp : H.Perm (H1 ++ H2)) (h : ∀ fz', Le fz fz' → (∀ p ∈ H2, fz' p.1 = some p.2) → Wp P cx n c σ fz' H1 Q) : Wp P cx n c σ fz H Q :=
  Wp.of fun a w hs hi => by
    obtain ⟨fz', h1, h2, h3⟩ := freezeAll_inv H2 fz H1 (hi.perm hp.symm)
    exact (h fz' h1 h2).run a w hs h3
theorem Seq.freezeAll {n : Nat} {ops : Array Oper} {l : List Oper} {σ : Env} {Q : QQ} {H1 H2 : HP} (hp : H.Perm (H1 ++ H2)) (h : ∀ fz', Le fz fz' → (∀ p ∈ H2, fz' p.1 = some p.2) → Seq P cx n ops l σ fz' H1 Q) : Seq P cx n ops l σ fz H Q :=
  Seq.of fun a w hs hi => by
    obtain ⟨fz', h1, h2, h3⟩ := freezeAll_inv H2 fz H1 (hi.perm hp.symm)
    exact (h fz' h1 h2).run a w hs h3

theorem OwnS.row {e size n : Nat} {v : Value} {xs : List Value} {Hs : HP} {fz' : FZ} (h : OwnS e size v n xs Hs) (hf : ∀ p ∈ Hs, fz' p.1 = some p.2) : ∃ A c, v = .slice A n c ∧ n ≤ c ∧ c ≤ 9223372036854775807 ∧ RowS fz' A n xs := by
  rcases h.2 with ⟨h1, h2, _⟩ | ⟨g, cap, cur, h1, h2, h3, h4, h5, h6⟩
  · subst h2; exact ⟨none, 0, h1, Nat.le_refl _, by omega, .inl rfl⟩
  · refine ⟨_, cap, h1, h3, by simpa [maxLen] using h4, .inr ⟨_, rfl, fun j u hu => ?_⟩⟩
    have hadd : (⟨g, 0, none⟩ : Addr).add j = ⟨g, j, none⟩ := by unfold Addr.add; split <;> simp_all
    have hg := hf (g, .cells cur e (0, 0)) (by rw [h2]; simp)
    rw [hadd]
    simp only [cellF, hg]
    have h7 : (cur.toList.take (n * size))[j]? = some u := by rw [h6]; exact hu
    rw [List.getElem?_take] at h7
    split at h7
    · simpa using h7
    · cases h7

/-- rows of one-cell elements, and of others, as slices -/
theorem RowS.sl {α : Type} {L : Lay α} {fz : FZ} {A : Option Addr} {n c : Nat} {xs : List Value} {ds : List α} (h : RowS fz A n xs) (hn : n ≤ c) (hc : c ≤ 9223372036854775807) (hs : n ≤ 140737488355328) (hl : ds.length = n)
    (hr : ∀ i d, ds[i]? = some d → ∃ cs, L.rep fz d cs ∧ ∀ j u, cs[j]? = some u → xs[i * L.size + j]? = some u) : Sl L fz A n c ds := by
  refine ⟨hl, hn, hc, hs, ?_⟩
  rcases h with h | ⟨ad, h1, h2⟩
  · exact .inl h
  · refine .inr ⟨ad, h1, fun i d hd => ?_⟩
    obtain ⟨cs, h3, h4⟩ := hr i d hd
    refine ⟨cs, h3, fun j u hu => ?_⟩
    have := h2 _ u (h4 j u hu)
    have e : (ad.add (i * L.size)).add j = ad.add (i * L.size + j) := by
      unfold Addr.add
      by_cases h5 : i * L.size = 0 <;> by_cases h6 : j = 0 <;> simp [h5, h6, Nat.add_assoc]
    rw [e]; exact this
end
end Go.Lx
