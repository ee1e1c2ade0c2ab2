/- A region whose order is drawn: several writes, in any order. Conditions: none. -/
import Derived.Test.YtkejidpdoglahaaGreatDoorEvY
namespace Go.Ev
open Go.Lx Go.RowKit

theorem Tr.setK_ok {α : Type} : ∀ (n : Nat) (t : Tr α) (i : Nat) (x : Option α), i < n → Tr.setK n t i x (fun _ => true) = true
  | 0, _, _, _, h => by omega
  | m + 1, t, i, x, h => by
    have key : ∀ (l : Tr α) (v : Option α) (r : Tr α), Tr.setS (Tr.setK m) i x (fun _ => true) l v r = true := by
      intro l v r
      unfold Tr.setS
      by_cases h0 : i = 0
      · subst h0; rfl
      · rw [beq_false h0, br_false]
        by_cases h1 : Nat.mod i 2 = 1
        · rw [h1]
          exact Tr.setK_ok m l (Nat.div i 2) x (by have : Nat.div i 2 = i / 2 := rfl; omega)
        · rw [beq_false h1, br_false]
          exact Tr.setK_ok m r (Nat.pred (Nat.div i 2)) x (by have e1 : Nat.div i 2 = i / 2 := rfl; have e2 : Nat.pred (Nat.div i 2) = i / 2 - 1 := rfl; omega)
    cases t with
    | lf => exact key .lf none .lf
    | n l v r => exact key l v r
theorem Tr.upd_ex {α : Type} (t : Tr α) (i : Nat) (x : Option α) : ∃ t', t.upd i x t' := by
  obtain ⟨t', h, _⟩ := Tr.setK_iff _ _ _ _ _ (Tr.setK_ok (i + 1) t i x (by omega))
  exact ⟨t', h⟩

section
variable {P : Program} {tT : TT} {T : Tab P}

/-- one of the writes: its block's object before and after -/
def WI (tT : TT) (all : List Oper) (σA veA : Tr AV) (pendA : Pn) (u : Nat × Oper) (id : Nat) (o o' : AO) : Prop :=
  u.2.dst = none ∧ u.2.guard = none ∧ ∃ (t : TypeId) (x y : Operand) (v : AV) (a : Nat) (X : TyA) (w : AV) (q : Ce) (cs : List AV), u.2.op = .store t x y ∧ rdQ all u.1 u.2 σA veA x = some v ∧ asP v = some (id, a) ∧ tT t = some X ∧ rdQ all u.1 u.2 σA veA y = some w ∧ w.cells.length = X.size ∧ w.cells.all AV.one = true ∧
    o = .cells q.cs q.e q.sl q.fr ∧ wr q.cs a w.cells = some cs ∧ o' = .cells cs q.e q.sl q.fr ∧ ∀ z ∈ leftP pendA u.2, ∀ j ∈ z.2, j = id → o' = o
/-- an operation that reads no memory: its value -/
def QI (P : Program) (tT : TT) (all : List Oper) (σA veA : Tr AV) (u : Nat × Oper) (a : AV) : Prop :=
  u.2.guard = none ∧ ∃ f : QF, XS P tT u.2.op (.q f) ∧ f tT (rdQ all u.1 u.2 σA veA) .lf (fun v => avEq v a) = true
inductive GK where
  | st (id : Nat) (o o' : AO)
  | qt (a : AV)
def GK.val : GK → AV
  | .st _ _ _ => .tup []
  | .qt a => a
abbrev GE := (Nat × Oper) × GK
def GI (P : Program) (tT : TT) (all : List Oper) (σA veT : Tr AV) (pendA : Pn) (u : Nat × Oper) : GK → Prop
  | .st id o o' => WI tT all σA veT pendA u id o o'
  | .qt a => QI P tT all σA veT u a
/-- what becomes of a block -/
def Ch (id : Nat) : Option AO → List GE → Option AO → Prop
  | cur, [], fin => fin = cur
  | cur, e :: r, fin => match e.2 with
    | .st i o o' => if i = id then cur = some o ∧ Ch id (some o') r fin else Ch id cur r fin
    | .qt _ => Ch id cur r fin
def notSt (id : Nat) (k : GK) : Prop := ∀ o o', k ≠ .st id o o'
theorem Ch_other {id : Nat} {e : GE} : ∀ {W1 W2 : List GE} {cur fin : Option AO}, notSt id e.2 → Ch id cur (W1 ++ e :: W2) fin → Ch id cur (W1 ++ W2) fin
  | [], W2, cur, fin, hn, h => by
    simp only [List.nil_append, Ch] at h ⊢
    cases he : e.2 with
    | st i o o' =>
      simp only [he] at h
      rw [if_neg (fun hc => hn o o' (by rw [he, hc]))] at h
      exact h
    | qt a => simp only [he] at h; exact h
  | x :: r, W2, cur, fin, hn, h => by
    simp only [List.cons_append, Ch] at h ⊢
    cases hx : x.2 with
    | st i o o' =>
      simp only [hx] at h ⊢
      split at h
      · rename_i hi; rw [if_pos hi]; exact ⟨h.1, Ch_other hn h.2⟩
      · rename_i hi; rw [if_neg hi]; exact Ch_other hn h
    | qt a => simp only [hx] at h ⊢; exact Ch_other hn h
theorem Ch_pick {id : Nat} {e : GE} {o o' : AO} (he : e.2 = .st id o o') : ∀ {W1 W2 : List GE} {cur fin : Option AO}, (∀ x ∈ W1, notSt id x.2) → Ch id cur (W1 ++ e :: W2) fin → cur = some o ∧ Ch id (some o') (W1 ++ W2) fin
  | [], W2, cur, fin, _, h => by
    simp only [List.nil_append, Ch, he] at h ⊢
    rw [if_pos trivial] at h
    exact h
  | x :: r, W2, cur, fin, hn, h => by
    simp only [List.cons_append, Ch] at h ⊢
    cases hx : x.2 with
    | st i p p' =>
      simp only [hx] at h ⊢
      have hi : i ≠ id := fun hc => hn x (by simp) p p' (by rw [hx, hc])
      rw [if_neg hi] at h ⊢
      exact Ch_pick he (fun y hy => hn y (by simp [hy])) h
    | qt a => simp only [hx] at h ⊢; exact Ch_pick he (fun y hy => hn y (by simp [hy])) h
theorem oCe_eq {o : AO} {q : Ce} (h : oCe o = some q) : o = .cells q.cs q.e q.sl q.fr := by
  cases o with
  | cells cs e sl fr => simp [oCe] at h; subst h; rfl
  | map _ _ => simp [oCe] at h
  | mit _ _ _ _ => simp [oCe] at h
theorem dstK_s {nt : Nat} {d : Option Nat} {ds : List Nat} {v : AV} {env : Tr AV} {c : List Nat → Tr AV → Bool} (h : dstK nt d ds v env c = true) :
    ∃ ds' env', c ds' env' = true ∧ (∀ x ∈ ds, x ∈ ds') ∧ (∀ x, d = some x → x ∉ ds ∧ x < nt ∧ x ∈ ds' ∧ env'.get x = some v) ∧ ∀ t, d ≠ some t → env'.get t = env.get t := by
  cases d with
  | none => exact ⟨ds, env, h, fun _ h => h, (fun x hx => by cases hx), fun _ _ => rfl⟩
  | some d =>
    obtain ⟨hc, h⟩ := fT_iff (show fT (!hasN ds d && Nat.blt d nt) (Tr.setK envd env d (some v) fun env => c (d :: ds) env) = true from h)
    obtain ⟨e', hu, h⟩ := Tr.setK_iff _ _ _ _ _ h
    simp only [Bool.and_eq_true, Nat.blt_eq, Bool.not_eq_true'] at hc
    refine ⟨d :: ds, e', h, fun x hx => by simp [hx], fun x hx => ?_, fun t ht => ?_⟩
    · injection hx with hx; subst hx
      exact ⟨(fun hm => by rw [hasN_mem.2 hm] at hc; cases hc.1), hc.2, by simp, by rw [hu, if_pos rfl]⟩
    · rw [hu, if_neg (fun he => ht (by rw [he]))]
/-- values that are known have a meaning -/
def Gd (ν : Nu) (t : Tr AV) : Prop := ∀ i a, t.get i = some a → ∃ v, gv ν a = some v
theorem gd_rr {ν : Nu} {all : List Oper} {i : Nat} {o : Oper} {σA veA : Tr AV} (hσ : Gd ν σA) (hv : Gd ν veA) : RR ν (rdQ all i o σA veA) (fun x => (rdQ all i o σA veA x).bind (gv ν)) := fun x a hx => by
  have key : ∃ v, gv ν a = some v := by
    cases x with
    | tmp t =>
      have hx' : oE (σA.get t) (fun j => br (oB (at_ all j) fun oj => oT (waits oj i) (σA.get t)) (veA.get j) (waits o j)) (whose all t 0) = some a := hx
      cases hw : whose all t 0 with
      | none => rw [hw, oE_none] at hx'; exact hσ t a hx'
      | some j =>
        rw [hw, oE_some] at hx'
        cases hwt : waits o j with
        | true => rw [hwt, br_true] at hx'; exact hv j a hx'
        | false =>
          rw [hwt, br_false] at hx'
          obtain ⟨oj, hoj, hx'⟩ := oB_iff hx'
          obtain ⟨hwi, hx'⟩ := oT_iff hx'
          exact hσ t a hx'
    | const c => exact ⟨c, ofV_s hx ν⟩
    | func f => injection hx with hx; subst hx; exact ⟨_, gv_fn ν f⟩
    | global g => cases hx
  obtain ⟨v, hv⟩ := key
  exact ⟨v, hv, by simp only [hx, Option.bind_some]; exact hv⟩
theorem Gd.put {ν : Nu} {t t' : Tr AV} {i : Nat} {a : AV} {v : Value} (h : Gd ν t) (hu : t.upd i (some a) t') (hv : gv ν a = some v) : Gd ν t' := fun j b hb => by
  rw [hu j] at hb
  split at hb
  · injection hb with hb; subst hb; exact ⟨v, hv⟩
  · exact h j b hb
theorem gRun_s (hT : TA tT T) {ν : Nu} {cx : Cx} {fz : FZ} {nt : Nat} {all : List Oper} {σA : Tr AV} {pendA : Pn} : ∀ {us : List (Nat × Oper)} {seen : List (Nat × Nat)} {ds : List Nat} {h : Tr AO} {ve env : Tr AV} {c : Tr AO → Tr AV → Tr AV → Bool}, gRun tT nt all σA pendA us seen ds h ve env c = true →
    Gd ν σA → Gd ν ve → (∀ u ∈ us, ve.get u.1 = none) → (us.map Prod.fst).Nodup →
    ∃ (W : List GE) (hF : Tr AO) (veF envF : Tr AV), W.map (fun e => e.1) = us ∧ c hF veF envF = true ∧ (∀ e ∈ W, ∃ veT : Tr AV, (∀ i a, veT.get i = some a → veF.get i = some a) ∧ GI P tT all σA veT pendA e.1 e.2) ∧
      (∀ id, Ch id (h.get id) W (hF.get id)) ∧ W.Pairwise (fun x y => ∀ id o1 p1 o2 p2, x.2 = .st id o1 p1 → y.2 = .st id o2 p2 → waits y.1.2 x.1.1 = true) ∧
      (∀ e ∈ W, ∀ id o o', e.2 = .st id o o' → ∀ z ∈ seen, z.1 = id → waits e.1.2 z.2 = true) ∧
      ((∀ e ∈ W, veF.get e.1.1 = some e.2.val) ∧ ∀ i, (∀ e ∈ W, e.1.1 ≠ i) → veF.get i = ve.get i) ∧
      (∀ e ∈ W, ∀ d, e.1.2.dst = some d → d ∉ ds ∧ d < nt ∧ envF.get d = some e.2.val) ∧ (∀ t, (∀ e ∈ W, e.1.2.dst ≠ some t) → envF.get t = env.get t) ∧ W.Pairwise (fun x y => ∀ d, x.1.2.dst = some d → y.1.2.dst ≠ some d)
  | [], seen, ds, h, ve, env, c, hf, _, _, _, _ => ⟨[], h, ve, env, rfl, hf, by simp, fun _ => rfl, .nil, by simp, ⟨by simp, fun _ _ => rfl⟩, by simp, fun _ _ => rfl, .nil⟩
  | p :: r, seen, ds, h, ve, env, c, hf, hgσ, hgv, hn, hnd => by
    simp only [List.map_cons, List.nodup_cons] at hnd
    have hpn : ve.get p.1 = none := hn p (by simp)
    have hpr : ∀ u ∈ r, u.1 ≠ p.1 := fun u hu he => hnd.1 (List.mem_map.2 ⟨u, hu, he⟩)
    have hsub : ∀ (ve1 : Tr AV) (a : AV), ve.upd p.1 (some a) ve1 → ∀ i b, ve.get i = some b → ve1.get i = some b := fun ve1 a hu i b hb => by
      rw [hu i, if_neg (fun hc => by rw [hc, hpn] at hb; cases hb)]; exact hb
    have hn1 : ∀ (ve1 : Tr AV) (a : AV), ve.upd p.1 (some a) ve1 → ∀ u ∈ r, ve1.get u.1 = none := fun ve1 a hu u hur => by
      rw [hu u.1, if_neg (hpr u hur)]; exact hn u (by simp [hur])
    -- what the rest gives, with this one ahead
    have fin : ∀ (k : GK) (ve1 : Tr AV) (hu : ve.upd p.1 (some k.val) ve1) (W : List GE) (veF : Tr AV), W.map (fun e => e.1) = r → (∀ e ∈ W, veF.get e.1.1 = some e.2.val) → (∀ i, (∀ e ∈ W, e.1.1 ≠ i) → veF.get i = ve1.get i) →
        ((∀ e ∈ (p, k) :: W, veF.get e.1.1 = some e.2.val) ∧ ∀ i, (∀ e ∈ (p, k) :: W, e.1.1 ≠ i) → veF.get i = ve.get i) ∧ ∀ i a, ve.get i = some a → veF.get i = some a := fun k ve1 hu W veF hW g1 g2 => by
      have hWr : ∀ e ∈ W, e.1.1 ≠ p.1 := fun e he => hpr e.1 (by rw [← hW]; exact List.mem_map.2 ⟨e, he, rfl⟩)
      have hp1 : veF.get p.1 = some k.val := by rw [g2 p.1 hWr, hu, if_pos rfl]
      have h2 : ∀ i, (∀ e ∈ (p, k) :: W, e.1.1 ≠ i) → veF.get i = ve.get i := fun i hi => by
        rw [g2 i (fun e he => hi e (by simp [he])), hu i, if_neg (fun hc => hi (p, k) (by simp) hc.symm)]
      refine ⟨⟨fun e he => ?_, h2⟩, fun i a ha => ?_⟩
      · cases he with
        | head => exact hp1
        | tail _ he => exact g1 e he
      · rw [h2 i]; exact ha
        intro e he hc
        cases he with
        | head => rw [← hc] at ha; simp only at ha; rw [hpn] at ha; cases ha
        | tail _ he =>
          have hin : e.1 ∈ r := by rw [← hW]; exact List.mem_map.2 ⟨e, he, rfl⟩
          have := hn e.1 (by simp [hin])
          rw [hc, ha] at this; cases this
    unfold gRun at hf
    split at hf
    · rename_i t x y hop
      obtain ⟨hdg, hf⟩ := fT_iff hf
      simp only [Bool.and_eq_true, Option.isNone_iff_eq_none] at hdg
      obtain ⟨v, hv, hf⟩ := fO_iff hf
      obtain ⟨a, ha, hf⟩ := fO_iff hf
      obtain ⟨hseen, hf⟩ := fT_iff hf
      have hns : ∀ z ∈ seen, z.1 = a.1 → waits p.2 z.2 = true := fun z hz he => by
        have := List.all_eq_true.1 hseen z hz
        rw [he, Nat.beq_refl] at this
        exact this
      obtain ⟨X, hX, hf⟩ := fO_iff hf
      obtain ⟨w, hw, hf⟩ := fO_iff hf
      obtain ⟨hsz, hf⟩ := fT_iff hf
      obtain ⟨hone, hf⟩ := fT_iff hf
      obtain ⟨o, ho, hf⟩ := fO_iff hf
      obtain ⟨q, hq, hf⟩ := fO_iff hf
      obtain ⟨cs, hcs, hf⟩ := fO_iff hf
      rw [fL_eq] at hf
      obtain ⟨h1, hu, hf⟩ := Tr.setK_iff _ _ _ _ _ hf
      obtain ⟨hsame, hf⟩ := fT_iff hf
      obtain ⟨ve1, huv, hf⟩ := Tr.setK_iff _ _ _ _ _ hf
      obtain ⟨W, hF, veF, envF, g1, g2, g3, g4, g5, g6, g7, g8, g9, g10⟩ := gRun_s hT (cx := cx) (fz := fz) hf hgσ (hgv.put huv (v := undef) (by simp [gv, gvs, undef])) (hn1 ve1 _ huv) hnd.2
      have h1a : h1.get a.1 = some (.cells cs q.e q.sl q.fr) := by rw [hu, if_pos rfl]
      obtain ⟨f1, f2⟩ := fin (.st a.1 o (.cells cs q.e q.sl q.fr)) ve1 huv W veF g1 g7.1 g7.2
      refine ⟨(p, .st a.1 o (.cells cs q.e q.sl q.fr)) :: W, hF, veF, envF, by simp [g1], g2, fun e he => ?_, fun id => ?_, ?_, fun e he id o1 o2 heq z hz hzi => ?_, f1, fun e he d hd => ?_, fun t ht => g9 t fun e he => ht e (by simp [he]), ?_⟩
      · cases he with
        | head =>
          refine ⟨ve, f2, hdg.1, hdg.2, t, x, y, v, a.2, X, w, q, cs, hop, hv, ha, hX, hw, Nat.eq_of_beq_eq_true hsz, hone, oCe_eq hq, hcs, rfl, fun z hz j hj hji => ?_⟩
          obtain ⟨o1, k1, k2⟩ := sameP_s hsame z hz j hj
          rw [hji, ho] at k1
          rw [hji, h1a] at k2
          injection k1 with k1
          injection k2 with k2
          rw [k1, k2]
        | tail _ he => exact g3 e he
      · have := g4 id
        simp only [Ch]
        by_cases hid : a.1 = id
        · subst hid
          rw [if_pos rfl]
          rw [h1a] at this
          exact ⟨ho, this⟩
        · rw [if_neg hid]
          rw [hu, if_neg (fun hc => hid hc.symm)] at this
          exact this
      · refine .cons (fun e he id o1 p1 o2 p2 hx hy => ?_) g5
        injection hx with hx
        exact g6 e he id o2 p2 hy (a.1, p.1) (by simp) hx
      · cases he with
        | head => injection heq with heq; exact hns z hz (hzi.trans heq.symm)
        | tail _ he => exact g6 e he id o1 o2 heq z (by simp [hz]) hzi
      · cases he with
        | head => simp only at hd; rw [hdg.1] at hd; cases hd
        | tail _ he => exact g8 e he d hd
      · exact .cons (fun e he d hd => by simp only at hd; rw [hdg.1] at hd; cases hd) g10
    · obtain ⟨hg, hf⟩ := fT_iff hf
      rw [Option.isNone_iff_eq_none] at hg
      obtain ⟨x, hx, hxs, _⟩ := oxT_s (P := P) hT hf
      cases x with
      | q f =>
        have hf' : (f tT (rdQ all p.1 p.2 σA ve) .lf fun v => fT (f tT (rdQ all p.1 p.2 σA ve) .lf fun u => avEq u v) (dstK nt p.2.dst ds v env fun ds env => Tr.setK envd ve p.1 (some v) fun ve => gRun tT nt all σA pendA r seen ds h ve env c)) = true := hx
        -- some value
        obtain ⟨a, va, ha, hav, _⟩ := hxs cx fz ν _ _ .lf [] [] _ p.2.dst p.2.type p.2.pos p.2.after p.2.guard (gd_rr (all := all) (i := p.1) (o := p.2) hgσ hgv) ⟨(fun _ _ h => by cases h), (fun _ _ _ _ _ h => by cases h), by simp, (fun _ _ _ _ _ h => by cases h)⟩ hf'
        obtain ⟨hval, ha⟩ := fT_iff ha
        obtain ⟨ds', env', ha, d1, d2, d3⟩ := dstK_s ha
        obtain ⟨ve1, huv, ha⟩ := Tr.setK_iff _ _ _ _ _ ha
        obtain ⟨W, hF, veF, envF, g1, g2, g3, g4, g5, g6, g7, g8, g9, g10⟩ := gRun_s hT (cx := cx) (fz := fz) ha hgσ (hgv.put huv hav) (hn1 ve1 _ huv) hnd.2
        obtain ⟨f1, f2⟩ := fin (.qt a) ve1 huv W veF g1 g7.1 g7.2
        refine ⟨(p, .qt a) :: W, hF, veF, envF, by simp [g1], g2, fun e he => ?_, fun id => g4 id, ?_, fun e he id o1 o2 heq z hz hzi => ?_, f1, fun e he d hd => ?_, fun t ht => ?_, ?_⟩
        · cases he with
          | head => exact ⟨ve, f2, hg, f, hxs, hval⟩
          | tail _ he => exact g3 e he
        · exact .cons (fun e he id o1 p1 o2 p2 hx => by cases hx) g5
        · cases he with
          | head => cases heq
          | tail _ he => exact g6 e he id o1 o2 heq z hz hzi
        · cases he with
          | head =>
            obtain ⟨k1, k2, k3, k4⟩ := d2 d hd
            refine ⟨k1, k2, ?_⟩
            rw [g9 d fun e he hc => (g8 e he d hc).1 k3]
            exact k4
          | tail _ he =>
            obtain ⟨k1, k2, k3⟩ := g8 e he d hd
            exact ⟨fun hm => k1 (d1 d hm), k2, k3⟩
        · rw [g9 t fun e he => ht e (by simp [he])]
          exact d3 t (ht (p, .qt a) (by simp))
        · exact .cons (fun e he d hd hc => (g8 e he d hc).1 (d2 d hd).2.2.1) g10
      | _ => cases hx
theorem hasP_iff {us : List (Nat × Oper)} {n : Nat} : hasP us n = true ↔ ∃ u ∈ us, u.1 = n := by
  unfold hasP
  rw [List.any_eq_true]
  exact ⟨fun ⟨u, h1, h2⟩ => ⟨u, h1, Nat.eq_of_beq_eq_true h2⟩, fun ⟨u, h1, h2⟩ => ⟨u, h1, by rw [h2]; exact Nat.beq_refl _⟩⟩
theorem hasP_no {us : List (Nat × Oper)} {n : Nat} : hasP us n = false ↔ ∀ u ∈ us, u.1 ≠ n := by
  rw [← Bool.not_eq_true, hasP_iff]
  exact ⟨fun h u hu he => h ⟨u, hu, he⟩, fun h ⟨u, hu, he⟩ => h u hu he⟩
theorem rmAll_eq : ∀ (us kept : List (Nat × Oper)), rmAll us kept = kept.filter fun p => !hasP us p.1
  | [], kept => by
    simp only [rmAll]
    exact (List.filter_eq_self.2 (fun p _ => by simp [hasP])).symm
  | u :: r, kept => by
    simp only [rmAll]
    rw [rmAll_eq r]
    unfold rm
    rw [List.filter_filter]
    congr 1
    funext p
    have : hasP (u :: r) p.1 = (Nat.beq u.1 p.1 || hasP r p.1) := rfl
    have hc : Nat.beq u.1 p.1 = Nat.beq p.1 u.1 := by
      rw [nbeq, nbeq]; simp [eq_comm]
    rw [this, hc]
    cases Nat.beq p.1 u.1 <;> cases hasP r p.1 <;> rfl
theorem leftAll_eq : ∀ (us : List (Nat × Oper)) (pend : Pn), leftAll pend us = pend.filter fun q => us.all fun u => !waits u.2 q.1
  | [], pend => by
    simp only [leftAll]
    exact (List.filter_eq_self.2 (fun p _ => by simp)).symm
  | u :: r, pend => by
    simp only [leftAll]
    rw [leftAll_eq r]
    unfold leftP
    rw [List.filter_filter]
    congr 1
    funext q
    simp only [List.all_cons]
    cases waits u.2 q.1 <;> simp

/-- one write -/
theorem store_s (hT : TA tT T) {cx : Cx} {fz : FZ} {all : List Oper} {σA veA : Tr AV} {pendA : Pn} {u : Nat × Oper} {id : Nat} {o o' : AO} {ν : Nu} {h h' : Tr AO} {H Fm : HP} {r : Operand → Option Value} (hw : WI tT all σA veA pendA u id o o') (hr : RR ν (rdQ all u.1 u.2 σA veA) r)
    (hh : HR tT ν h H Fm) (ho : h.get id = some o) (hu : h.upd id (some o') h') : DoesF P cx u.2 r fz H (fun v fz' H' => fz' = fz ∧ v = undef ∧ HR tT ν h' H' Fm) := by
  obtain ⟨hd, hg, t, x, y, v, a, X, w, q, cs, hop, hx, hp, hX, hy, hsz, hone, rfl, hcs, rfl, _⟩ := hw
  obtain ⟨ux, h1, h2⟩ := hr x v hx
  obtain ⟨uy, h3, h4⟩ := hr y w hy
  obtain ⟨b, hb, rfl⟩ := asP_iff hp h1
  obtain ⟨XT, hXT, hR⟩ := hT t X hX
  have hcells := gv_cells h3
  intro Hx
  refine Does.of fun ρ wd hρ hi => ?_
  obtain ⟨b', xo, pre, post, hb', hgo, rfl⟩ := hh.split ho
  simp only at hb
  rw [hb] at hb'; injection hb' with hb'; subst hb'
  obtain ⟨ws, l, g1, g2, rfl, _⟩ := HR.ce (q := q) rfl hgo
  obtain ⟨g3, g4⟩ := gvs_wr g1 hcells hcs
  have hi2 := hi.perm (List.perm_append_comm : ((pre ++ (b, Obj.cells (ws ++ l).toArray q.e (frz q.fr (ws ++ l).length)) :: post) ++ Hx).Perm _)
  have hwd := (hi2.hp.own (b, .cells (ws ++ l).toArray q.e (frz q.fr (ws ++ l).length)) (by simp)).1
  simp only at hwd
  obtain ⟨w', k1, k2, k3, k4, k5, k6, k7⟩ := run_store (P := P) (off := a) uy.cells.toList 0 (ws ++ l).toArray (frz q.fr (ws ++ l).length) wd hwd (by simp at g3 ⊢; omega) (ones_s hone hcells) (by
    unfold frz
    split
    · right; simp
    · left; rfl)
  have hnew : (((ws ++ l).toArray.toList.take (a + 0) ++ uy.cells.toList ++ (ws ++ l).toArray.toList.drop (a + 0 + uy.cells.toList.length))) = (ws.take a ++ uy.cells.toList ++ ws.drop (a + uy.cells.toList.length)) ++ l := by
    simp only [Nat.add_zero]
    rw [List.take_append_of_le_length (by omega), List.drop_append_of_le_length (by omega)]
    simp
  rw [hnew] at k2
  have hlen : ((ws.take a ++ uy.cells.toList ++ ws.drop (a + uy.cells.toList.length)) ++ l).length = (ws ++ l).length := by simp at g3 ⊢; omega
  have hgo' : go ν (.cells cs q.e q.sl q.fr) = some (.cells ((ws.take a ++ uy.cells.toList ++ ws.drop (a + uy.cells.toList.length)) ++ l).toArray q.e (frz q.fr (ws ++ l).length)) := by
    simp only [go, g4, g2, hlen]
  have hnd : ((pre ++ (b, Obj.cells (ws ++ l).toArray q.e (frz q.fr (ws ++ l).length)) :: post).map Prod.fst).Nodup := by
    have := hi2.hp.nd
    rw [List.map_append, List.nodup_append] at this
    exact this.1
  have hh' := hh.set hnd ho hb hgo' hu (fun cs' e j fr he => by injection he with e1 e2 e3 e4; exact ⟨q.cs, q.fr, by rw [e2, e3], by rw [← e1, ← gvs_len g1, ← gvs_len g4]; simp at g3 ⊢; omega⟩)
  have hi3 : Inv cx fz (pre ++ (b, Obj.cells ((ws.take a ++ uy.cells.toList ++ ws.drop (a + uy.cells.toList.length)) ++ l).toArray q.e (frz q.fr (ws ++ l).length)) :: (post ++ Hx)) w' :=
    Inv.write (pre := pre) (post := post ++ Hx) (by simpa using hi2) k3 k4 k5 k6 k2 k7
  have hsize := Go.Lx.run_sizeOf T hXT wd
  have hs : uy.cells.size = XT.size := by
    have := gvs_len hcells
    rw [hR.size, ← hsz]
    simpa using this
  have : (execOp ρ u.2).run P wd = .ok .skip w' := by
    simp only [execOp, hop, hρ _ _ h2, hρ _ _ h4, Instr.storeAt, Instr.sureAddr, Sem.run_bind, Sem.run_pure, Result.andThen_ok, storeVar, hsize]
    simp [hs, k1]
  rw [this]
  refine ⟨fz, _, hi3.perm (H' := Hx ++ (pre ++ (b, Obj.cells ((ws.take a ++ uy.cells.toList ++ ws.drop (a + uy.cells.toList.length)) ++ l).toArray q.e (frz q.fr (ws ++ l).length)) :: post)) ?_, _, rfl, rfl, rfl, hh'⟩
  refine (List.perm_append_comm).trans ?_
  simp
end
end Go.Ev
