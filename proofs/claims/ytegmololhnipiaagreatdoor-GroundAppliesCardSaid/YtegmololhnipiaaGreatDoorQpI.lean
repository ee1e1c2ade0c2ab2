/- The texts EwF, Seq, GAwk, OpenA, GOpen, GRowPB, laid together. Conditions: none. -/
import Derived.Test.YtegmololhnipiaaGreatDoorQpG
import Derived.Test.YtegmololhnipiaaGreatDoorQpEwI
import Derived.Test.YtegmololhnipiaaGreatDoorQpB
import Derived.RangeFuncIn
import Derived.RangeFuncRecord
import Derived.RangeFuncLeaves
import Derived.Test.YtegmololhnipiaaGreatDoorQpE
import Derived.ChangeSame
import Derived.Below
import Derived.ProofKit
import Derived.Test.YtegmololhnipiaaGreatDoorQpC
import Derived.Deep.Slices
import Derived.SizedLaws
import Derived.Carry
import Derived.Test.YtegmololhnipiaaGreatDoorRows
import Derived.Lay
import Derived.LaidOnce
namespace Go.Proofs.YtegmololhnipiaaGreatDoor
open Go.Lx Go.Ev
noncomputable def F0 : FF := withM tF.get 350 .ibs
theorem F0_ok : FA Tryz.prog tT.get F0 := FA_with tF_ok ibs_ok
theorem mixed : Tryz.prog.follows .mixedOrders = true := T.mixed
end Go.Proofs.YtegmololhnipiaaGreatDoor
namespace Go.Lx
open Go.RowKit
section
variable {P : Program} {cx : Cx} {n : Nat} {fz : FZ} {H : HP}
structure SatD (n : Nat) (σ : Env) (a : Act) : Prop where
  size : a.tmps.size = n
  slot : ∀ i v, lk σ i = some v → a.tmps[i]? = some v
theorem SatD.reads {σ : Env} {a : Act} (h : SatD n σ a) : Reads (rd σ) a.eval := by
  intro x v hv
  cases x with
  | tmp t => have := h.slot t v hv; simp [Act.eval, this]
  | const u => injection hv
  | global g => injection hv
  | func f => injection hv
theorem SatD.put {σ : Env} {a : Act} (h : SatD n σ a) (d : Nat) (hd : d < n) (v : Value) : SatD n ((d, v) :: σ) (a.put (some d) v) := by
  refine ⟨by simp [Act.put, h.size], fun i u hu => ?_⟩
  by_cases hi : d = i
  · subst hi
    rw [lk_cons_same] at hu
    injection hu with hu
    subst hu
    simp [Act.put, h.size, hd]
  · rw [lk_cons_ne v σ hi] at hu
    have := h.slot i u hu
    simp only [Act.put]
    rw [Array.getElem?_setIfInBounds_ne hi]
    exact this
def QS (P : Program) (cx : Cx) (n : Nat) (fz : FZ) (H : HP) (K : Env → Prop) (ops : Array Oper) (l : List Oper) (σ : Env) : Prop :=
  ∀ (a : Act) (w : World) (Q : Exit → Act → World → Prop), SatD n σ a → Inv cx fz H w → (∀ σ' a' w', K σ' → SatD n σ' a' → a'.defers = a.defers → Inv cx fz H w' → Q .normal a' w') → wpList P ops Q l a w
theorem QS.nil {K : Env → Prop} {ops : Array Oper} {σ : Env} (h : K σ) : QS P cx n fz H K ops [] σ := fun a w _ hs hi hq => wpList_nil (hq σ a w h hs rfl hi)
theorem QS.q {K : Env → Prop} {ops : Array Oper} {rest : List Oper} {σ : Env} {d : Nat} {op : Op} {ty : TypeId} {pos : String} {af : Array Edge} (hd : Nat.blt d n = true)
    (h : DoesQ P cx ⟨some d, op, ty, pos, af, none⟩ (rd σ) fz H fun v => QS P cx n fz H K ops rest ((d, v) :: σ)) : QS P cx n fz H K ops (⟨some d, op, ty, pos, af, none⟩ :: rest) σ := by
  intro a w Q hs hi hq
  unfold wpList
  rw [if_pos (by simp [Region.wanted])]
  unfold DoesQ at h
  obtain ⟨v, hv, hh⟩ := h
  refine .inl (OpPost.wp ((hh a.eval w hs.reads hi).mono fun v' w' h2 => ?_))
  obtain ⟨rfl, hfr⟩ := h2
  have hd' : d < n := by simpa [Nat.blt_eq] using hd
  exact hv (a.put (some d) v') w' Q (hs.put d hd' v') (hi.quiet hfr) (fun σ' a' w2 hk s2 hdf i2 => hq σ' a' w2 hk s2 (by rw [hdf]; rfl) i2)
theorem GFn.of_range {f : FuncId} {fn : Func} {A B : Code} {bid rid g t : Nat} {ps : Array Tmp} {asg bd : Code} {l : List Oper} {args : List Value} {gf : FuncId} {lb : List Value} {u v : Value}
    (hf : P.funcs[f]? = some fn) (hb : fn.body = some (A.seq ((B.seq (.block bid (.rangeFunc (.tmp g) ps asg bd))).seq ((Code.region rid l.toArray false).seq .ret)))) (hn : fn.ntmps = n) (ha : Nat.ble args.length n = true)
    (hname : (fn.name == "runtime.NumGoroutine") = false) (hres : fn.results = #[.tmp t]) (hgc : Callable P gf) (hit : ∀ k, QFn P gf (.func (.yield k) #[] #[] :: lb) fz u)
    (hpre : ∀ w0, Wp P ⟨w0, [], fz⟩ n A (envOf args 0) fz [] fun e σ fz' H' => e = .normal ∧ Wp P ⟨w0, [], fz⟩ n B σ fz' H' fun e σ fz' H' => e = .normal ∧ fz' = fz ∧ lk σ g = some (.func (.func gf) #[] lb.toArray) ∧
      ∀ (D L : Nat) (r : Loop), QS P ⟨w0, [], fz⟩ n fz ((L, .loop r) :: (D, .deferred (some [])) :: H') (fun σ' => lk σ' t = some v) l.toArray l σ) :
    QFn P f args fz v := by
  refine GFn.quiet (GFn.of ⟨fn, hf, hname, by simp [hb]⟩ fun w hw => (callsIn_wide (n := 0)).1 (callsIn_of_wp_marks hf hb trivial (wpIn_wide.2 ?_)))
  have ha' := Nat.le_of_ble_eq_true ha
  have hs : Sat n (envOf args 0) { tmps := args.toArray ++ Array.replicate (fn.ntmps - args.toArray.size) undef, defers := [] } := ⟨by simp [hn]; omega, rfl, fun i v hv => by
    have h1 := (lk_envOf args 0 i v hv).2
    simp only [Nat.sub_zero] at h1
    have h2 : i < args.length := (List.getElem?_eq_some_iff.1 h1).1
    rw [Array.getElem?_append_left (by simpa using h2)]
    simpa using h1⟩
  have hi : Inv ⟨w, [], fz⟩ fz [] w := ⟨hw, Fr.refl _ _, ⟨fun _ _ h => h, fun _ _ _ => rfl, fun p hp => by cases hp⟩⟩
  refine wp_seq (wp_mono ((hpre w).run _ w hs hi) fun e a1 w1 hh => ?_)
  obtain ⟨σ1, fz1, H1, s1, i1, rfl, hB⟩ := hh
  show (Code.seq _ _).wp P _ a1 w1
  refine wp_seq (wp_seq (wp_mono (hB.run a1 w1 s1 i1) fun e a2 w2 hh => ?_))
  obtain ⟨σ2, fz2, H2, s2, i2, rfl, rfl, hg, hq⟩ := hh
  show (Code.block _ _).wp P _ a2 w2
  refine wp_block ((wpIn_wide (n := 1)).1 (wpIn_rangeFunc (fun fn' _ => ?_)))
  have hev : a2.eval (.tmp g) = .func (.func gf) #[] lb.toArray := s2.reads _ _ hg
  obtain ⟨rec, hrec⟩ : ∃ rec : Loop, rec = { state := .ready, pending := none, fn := fn', tmps := a2.tmps, params := ps, assign := asg, body := bd, defers := w2.heap.size } := ⟨_, rfl⟩
  obtain ⟨W1, hW1⟩ : ∃ W1, (w2.alloc (.deferred (some []))).alloc (.loop rec) = W1 := ⟨_, rfl⟩
  have hsz : (w2.alloc (.deferred (some []))).heap.size = w2.heap.size + 1 := World.size_alloc _ _
  have iW : Inv ⟨w, [], fz2⟩ fz2 ((w2.heap.size + 1, .loop rec) :: (w2.heap.size, .deferred (some [])) :: H2) W1 := by
    have h1 := (i2.alloc (.deferred (some []))).alloc (.loop rec)
    rw [hW1, hsz] at h1
    exact h1
  refine ⟨w2.heap.size + 1, [{ target := .collected w2.heap.size, args := #[] }], W1, { target := .fn (.func gf) lb.toArray, args := #[.func (.yield (w2.heap.size + 1)) #[] #[]] }, W1, gf, #[.func (.yield (w2.heap.size + 1)) #[] #[]] ++ lb.toArray, W1, ?_, ?_, fun _ _ => trivial, ?_, fun _ => Nat.le_refl 1, ?_⟩
  · rw [← hW1, hrec]; exact run_enterLoop_outer _ _ _ _ _
  · simp only [resolve, hev]
    simp [go_sem]
  · simp [invoke, go_sem, hgc.run]
  · have hcall := (hit (w2.heap.size + 1)).out W1 (iW.forget (List.nil_sublist _)).hp
    rw [show #[Value.func (.yield (w2.heap.size + 1)) #[] #[]] ++ lb.toArray = (Value.func (.yield (w2.heap.size + 1)) #[] #[] :: lb).toArray from by simp]
    refine callsIn_wide.2 (hcall.mono fun e W2 ⟨he, hfr⟩ => ?_)
    subst he
    have i3 := iW.quiet hfr
    have hL : W2.heap[w2.heap.size + 1]? = some (.loop rec) := (i3.hp.own (w2.heap.size + 1, .loop rec) (by simp)).1
    have hpend : rec.pending = none := by rw [hrec]
    have hst : rec.state ≠ .busy := by rw [hrec]; simp
    refine ⟨none, _, (run_endLoop hL hst).trans (congrArg (fun x => Result.ok x _) hpend), ?_⟩
    have i4 := Inv.setObj (pre := []) (o' := .loop { rec with state := .exhausted }) i3
    show (Code.seq _ _).wp P _ { a2 with defers := [{ target := .collected w2.heap.size, args := #[] }] ++ a2.defers } _
    refine wp_seq (wp_region_lit (hq w2.heap.size (w2.heap.size + 1) _ _ _ _ ⟨s2.size, s2.slot⟩ i4 (fun σ' a5 w5 hk s5 hd5 i5 => ?_)))
    show Code.ret.wp P _ a5 w5
    refine wp_ret ?_
    show LeavesInM Fence.wide 0 P fn a5.tmps _ a5.defers .returning w5
    have hdf : a5.defers = [{ target := .collected w2.heap.size, args := #[] }] := by rw [hd5]; simp [s2.defers]
    rw [hdf]
    have hD : w5.heap[w2.heap.size]? = some (.deferred (some [])) := (i5.hp.own (w2.heap.size, .deferred (some [])) (by simp)).1
    have i6 := Inv.setObj (pre := [(_, _)]) (o' := .deferred none) i5
    refine ⟨by simp, .inl ⟨w2.heap.size, _, rfl, run_takeDeferred hD, ?_⟩⟩
    show LeavesIn Fence.wide 0 P fn a5.tmps _ [] .returning _
    have hlt : t < a5.tmps.size := by
      have := s5.slot t v hk
      exact (Array.getElem?_eq_some_iff.1 this).1
    have i7 := i6.forget (List.nil_sublist _)
    exact ⟨v, by simp [results, hres, s5.slot t v hk], v, fz2, [], rfl, rfl, i7.hp, i7.fr, i7.nw⟩
end
end Go.Lx
namespace Go.Lx
open Go.RowKit
section
variable {P : Program} {cx : Cx} {n : Nat} {σ : Env} {fz : FZ} {H H' : HP} {fn : Func} {R : Value → FZ → HP → Prop}
theorem ret0N (hres : fn.results = #[]) (hH : H'.Sublist H) (h : R (.tuple #[]) fz H') : retQ P cx n fn R .normal σ fz H := by
  unfold retQ
  exact ⟨.tuple #[], fun a w hs hw => by simp [results, hres], rPlain hH h⟩
theorem GFn.of_quietH {f : FuncId} {args : List Value} {v : Value} (hc : Callable P f) (h : ∀ fz2, Le fz fz2 → (∀ p ∈ H, fz2 p.1 = some p.2) → QFn P f args fz2 v) : GFn P f args fz H fun u fz' H' => u = v ∧ fz' = fz ∧ H' = H := by
  refine GFn.of hc fun w hw => ?_
  have hi : Inv ⟨w, H.map Prod.fst, fz⟩ fz ([] ++ H) w := ⟨hw, Fr.refl _ _, ⟨fun _ _ h => h, fun _ _ _ => rfl, fun p hp => .inl (List.mem_map.2 ⟨p, hp, rfl⟩)⟩⟩
  obtain ⟨fz2, h1, h2, h3⟩ := freezeAll_inv H fz [] hi
  refine ((h fz2 h1 h2).out w h3.hp).mono fun e w' ⟨he, hfr⟩ => ?_
  have hi2 := hi.quiet hfr
  exact ⟨v, fz, H, he, ⟨rfl, rfl, rfl⟩, hi2.hp, hi2.fr, hi2.nw⟩
end
end Go.Lx
namespace Go.Proofs.YtegmololhnipiaaGreatDoor
open Go.Lx Go.Ev Go.RowKit
set_option maxRecDepth 100000
theorem values1_q {fz : FZ} {k g0 : Nat} (hx : fz g0 = some (.cells #[.slice none 0 0] 99 (0, 0))) :
    QFn Tryz.prog 173 [.func (.yield k) #[] #[], .pointer (some ⟨g0, 0, none⟩)] fz (.tuple #[]) := by
  refine GFn.quiet ?_
  (refine GFn.of_wp Tryz.func173 rfl Tryz.ntmps173 rfl rfl (fun w0 => ?_))
  ((refine Wp.seq ?_; refine Wp.region ?_; refine Zq ?_; refine q_load_fz T (by exact rfl) (by exact rfl) (by exact rfl) (by assumption) (by exact rfl) ?_; refine Zq ?_; refine Zs T ?_; refine Zq ?_; refine Zm ?_; refine Seq.done ?_; refine Wp.block ?_))
  refine Wp.loop (fun q σ fz' H' => q = 0 ∧ σ = [(7, .int .i64 0), (6, .int .i64 0)] ∧ fz = fz' ∧ H' = []) ⟨rfl, rfl, rfl, rfl⟩ (by repeat (first | exact trivial | refine ⟨by exact rfl, ?_⟩)) (by repeat (first | exact List.Sublist.refl _ | exact List.nil_sublist _ | refine List.Sublist.cons_cons _ ?_ | refine List.Sublist.cons _ ?_)) ?_
  rintro q σ fz' H' ⟨rfl, rfl, rfl, rfl⟩
  ((refine Wp.seq ?_; refine Wp.region ?_))
  (((refine Zq ?_)); (refine q_lssD (by exact rfl) (by exact rfl) (fun c1 => ?_) (fun c1 => ?_)))
  · exact absurd c1 (by decide)
  · ((refine Seq.done ?_; refine Wp.seq ?_; refine Zd ?_; refine Wp.exit ?_; refine thenX ?_; refine loopX ?_; refine blkX (by exact rfl) ?_))
    exact ret0N rfl (by repeat (first | exact List.Sublist.refl _ | exact List.nil_sublist _ | refine List.Sublist.cons_cons _ ?_ | refine List.Sublist.cons _ ?_)) rfl
theorem appendSeq_q {fz : FZ} {g0 : Nat} (hx : fz g0 = some (.cells #[.slice none 0 0] 99 (0, 0))) :
    QFn Tryz.prog 246 [.slice none 0 0, .func (.func 173) #[] #[.pointer (some ⟨g0, 0, none⟩)]] fz (.slice none 0 0) := by
  refine GFn.of_range Tryz.func246 rfl Tryz.ntmps246 rfl rfl rfl (lb := [.pointer (some ⟨g0, 0, none⟩)])
    ⟨Tryz.f173, Tryz.func173, rfl, rfl⟩ (fun k => values1_q hx) (fun w0 => ?_)
  refine Wp.region (Seq.stepK (by exact rfl) (k_box _ (by exact rfl) (by exact rfl) (fun g2 => ?_)))
  ((refine Zq ?_)); refine Za ?_
  refine Seq.nil ⟨rfl, ?_⟩
  refine Wp.region ?_
  ((refine Zq ?_)); refine Zm ?_
  refine Seq.nil ⟨rfl, rfl, rfl, fun D L r => ?_⟩
  refine QS.q (by exact rfl) (q_load_own T 2 (by exact rfl) (by exact rfl) (by exact rfl) (by exact rfl) (by exact rfl) ?_)
  refine QS.q (by exact rfl) (q_assign (by exact rfl) ?_)
  exact QS.nil rfl
def memA : Mem := ⟨[.sl none 0 0 none, .f 173 [] [.p (some (1189, 0))]], [(1189, .cells [.sl none 0 0 none] 99 none false)], 1190, .sl none 0 0 none, [(1189, .cells [.sl none 0 0 none] 99 none false)], 1190⟩
theorem memA_set : setAll memA.h .lf (fun h => subH h memA.h) = true := by kernel_rfl
theorem memA_ok : MemoOk Tryz.prog tT.get 246 memA := by
  obtain ⟨h0, hsub, hg⟩ := setAll_s memA_set
  refine ⟨h0, fun id o ho => (hg id o ho).elim (fun h => h) (fun h => by cases h), fun fz ν vs H Fm hv hh hfr => ?_⟩
  have hget := subH_s hsub (1189, .cells [.sl none 0 0 none] 99 none false) (by simp [memA])
  obtain ⟨b, x, hb, hx, hm⟩ := hh.own _ _ hget
  have ex : x = .cells #[.slice none 0 0] 99 (0, 0) := by
    simp [go, gvs, gv, gA, gC, gS, frz] at hx
    exact hx.symm
  have ev : vs = [.slice none 0 0, .func (.func 173) #[] #[.pointer (some ⟨b, 0, none⟩)]] := by
    have hv' : gvs ν [.sl none 0 0 none, .f 173 [] [.p (some (1189, 0))]] = some vs := hv
    simp [gvs, gv, gA, gC, hb] at hv'
    exact hv'.symm
  subst ex ev
  refine (GFn.of_quietH ⟨Tryz.f246, Tryz.func246, rfl, rfl⟩ (fun fz2 _ hf2 => appendSeq_q (g0 := b) (hf2 _ hm))).mono fun v fz' H' ⟨h1, h2, h3⟩ => ?_
  subst h1 h2 h3
  exact ⟨rfl, ν, h0, Nu.le.refl ν, by simp [memA, gv, gA, gC], hh, fun z hz => subH_s hsub z hz, hfr⟩
noncomputable def F1 : FF := withM F0 246 (.memo [memA] Tryz.f246)
theorem F1_ok : FA Tryz.prog tT.get F1 := FA_with F0_ok ⟨fn246_ok, fun m hm => by rcases List.mem_singleton.1 hm with rfl; exact memA_ok⟩
def isTrue : AV → Bool
  | .b x => x
  | _ => false
theorem isTrue_s {ν : Nu} {a : AV} {v : Value} (h : isTrue a = true) (hv : gv ν a = some v) : v = .bool true := by
  cases a with
  | b x => have h' : x = true := h; subst h'; simp only [gv] at hv; injection hv with hv; exact hv.symm
  | _ => cases h
theorem awake_ev : evCall tT.get F1 1000000 8 [] isTrue = true := by kernel_rfl
theorem awake_q (fz : FZ) : QFn Tryz.prog 8 [] fz (.bool true) :=
  GFn.quiet ((evCall_s (fz := fz) tT_ok F1_ok mixed (fun ν => by simp [gvs]) awake_ev).mono fun _ _ _ ⟨_, _, _, hv, hk⟩ => isTrue_s hk hv)
end Go.Proofs.YtegmololhnipiaaGreatDoor
namespace Go.Lx
open Go.RowKit
def fzOf (w : World) : FZ := fun g => w.heap[g]?
theorem cellF_of {w : World} {p : Addr} {v : Value} (h : w.cell? p = some v) : cellF (fzOf w) p = some v := by
  unfold World.cell? at h
  unfold cellF fzOf
  exact h
theorem hp_of (w : World) : Hp (fzOf w) [] w := ⟨fun _ _ h => h, by simp, by simp⟩
theorem below_of {w w' : World} (h : Fr [] w w') : Below w.heap.size w w' := ⟨h.os, h.tape, h.output, h.size, fun k hk => h.block k hk (by simp)⟩
theorem QFn.calls {P : Program} {f : FuncId} {args : List Value} {fz : FZ} {v : Value} (h : QFn P f args fz v) {w : World} (hw : Hp fz [] w) : Calls P f args.toArray w fun e w' => e = .returned v ∧ Fr [] w w' := by
  unfold QFn at h
  exact h.2 w hw
end Go.Lx
namespace Go.Lx
open Go.RowKit Go.ChangeShapes Go.WideShapes Go.Deep
theorem list_of {α : Type} {p : Nat → α → Prop} : ∀ {n : Nat}, (∀ i, i < n → ∃ d, p i d) → ∃ ds : List α, ds.length = n ∧ ∀ i d, ds[i]? = some d → p i d
  | 0, _ => ⟨[], rfl, by simp⟩
  | n + 1, h => by
    obtain ⟨ds, h1, h2⟩ := list_of (n := n) (fun i hi => h i (by omega))
    obtain ⟨d, hd⟩ := h n (by omega)
    refine ⟨ds ++ [d], by simp [h1], fun i e he => ?_⟩
    by_cases hi : i < ds.length
    · rw [List.getElem?_append_left hi] at he; exact h2 i e he
    · have hl := (List.getElem?_eq_some_iff.1 he).1
      simp at hl
      have : i = n := by omega
      subst this
      rw [List.getElem?_append_right (by omega), h1] at he
      simp at he
      subst he
      exact hd
section
variable {H : Type} {enc : TypeId × Value → H} {P : Program} {w : World} {base : Nat} {spare : Nat → Bool} {held : Bool}
def OpensAt (enc : TypeId × Value → H) (P : Program) (w : World) (base : Nat) (spare : Nat → Bool) (held : Bool) {α : Type} (L : Lay α) (t : TypeId) (fuel : Nat) : Prop :=
  ∀ cs x, DataW.trod enc P w base spare held fuel t cs = some x → (∀ q ∈ x.1.weights P t, q ≤ reachBytes) → ∃ d, L.rep (fzOf w) d cs
theorem weights_all {e : TypeId} : ∀ {l : List (DataW H)} {d : DataW H}, d ∈ l → ∀ q ∈ d.weights P e, q ∈ DataW.weightsAll P e l
  | [], _, h, _, _ => by cases h
  | a :: r, d, h, q, hq => by
    rw [DataW.weightsAll]
    rcases List.mem_cons.1 h with rfl | h
    · exact List.mem_append.2 (.inl hq)
    · exact List.mem_append.2 (.inr (weights_all h q hq))
theorem opens_int {t : TypeId} {fuel : Nat} (ht : P.underlying t = some (.int .i64)) : OpensAt enc P w base spare held intL t fuel := fun cs x h _ => by
  obtain ⟨n, h1, _, h2⟩ := DataW.trod_int ht h
  exact ⟨n, h1, by simp [Lit.wf, IntKind.min, IntKind.max, IntKind.signed, IntKind.bits] at h2; unfold I64; omega⟩
theorem opens_bool {t : TypeId} {fuel : Nat} (ht : P.underlying t = some .bool) : OpensAt enc P w base spare held boolL t fuel := fun cs x h _ => by
  obtain ⟨b, h1, _⟩ := DataW.trod_bool ht h
  exact ⟨b, h1⟩
theorem opens_string {t : TypeId} {fuel : Nat} (ht : P.underlying t = some .string) : OpensAt enc P w base spare held strL t fuel := fun cs x h _ => by
  obtain ⟨s, h1, _, h2⟩ := DataW.trod_string ht h
  exact ⟨s, h1, by simpa [maxLen] using h2⟩
theorem opens_slice {α : Type} {L : Lay α} {t e : TypeId} {fuel : Nat} (ht : P.underlying t = some (.slice e)) (hc : P.cellsOf e = L.size) (hb' : Nat.ble 1 (P.bytesOf e) = true) (he : ∀ n, n < fuel → OpensAt enc P w base spare held L e n) : OpensAt enc P w base spare held (slL L) t fuel := fun cs x h hq => by
  have hb := Nat.le_of_ble_eq_true hb'
  rcases DataW.trod_slice ht h with ⟨rfl, _⟩ | ⟨a, len, cap, elems, rest, n, hfu, rfl, rfl, _, hl, hm, hlen, hel, _, _⟩
  · exact ⟨[], none, 0, 0, rfl, Sl.nil (by omega)⟩
  · simp only [DataW.weights, ht, List.mem_cons, List.mem_append] at hq
    obtain ⟨ds, h1, h2⟩ := list_of (p := fun i d => At L (fzOf w) (a.add (i * L.size)) d) (n := len) (fun i hil => by
      have hx : elems[i]? = some (elems[i]'(by omega)) := List.getElem?_eq_getElem _
      have h3 := hel i hil
      rw [hx] at h3
      cases hcs : w.cells? base (a.add (i * P.cellsOf e)) (P.cellsOf e) with
      | none => rw [hcs] at h3; cases h3
      | some cs' =>
        rw [hcs] at h3
        obtain ⟨d, hd⟩ := he n (by omega) _ _ h3 (fun q hq' => hq q (.inr (.inl (weights_all (d := (elems[i]'(by omega)).1) (List.mem_map.2 ⟨_, List.mem_of_getElem? hx, rfl⟩) q hq'))))
        obtain ⟨_, hlen, hat⟩ := World.cells?_some hcs
        refine ⟨d, cs', hd, fun j u hu => ?_⟩
        have hj : j < cs'.length := (List.getElem?_eq_some_iff.1 hu).1
        rw [← hc]
        exact cellF_of ((hat j (by omega)).trans hu))
    have hreach := hq _ (.inl rfl)
    have hlen2 : len ≤ 140737488355328 := by
      simp only [List.length_map] at hreach
      have : len * 1 ≤ (elems.length + rest.length) * P.bytesOf e := Nat.mul_le_mul (by omega) hb
      have hr : reachBytes ≤ 140737488355328 := by decide
      omega
    exact ⟨ds, some a, len, cap, rfl, h1, hl, by simpa [maxLen] using hm, hlen2, .inr ⟨a, rfl, h2⟩⟩
theorem opens_field {α : Type} {L : Lay α} {fs : Array Field} {cs : List Value} {xs : List (DataW H × List MemPlace)} {n k : Nat} {tys : List TypeId} (hf : ∀ (i : Nat) (f : Field), fs[i]? = some f → DataW.trod enc P w base spare held n f.type ((cs.drop f.offset).take (P.cellsOf f.type)) = xs[i]?)
    (hq : ∀ q ∈ DataW.weightsEach P tys (xs.map (·.1)), q ≤ reachBytes) (hlen : xs.length = fs.size) {i : Nat} {f : Field} (hi : fs[i]? = some f) (ht : tys[i]? = some f.type) (he : OpensAt enc P w base spare held L f.type n) (hc : P.cellsOf f.type = k) {cs' : List Value} (hv : (cs.drop f.offset).take k = cs') :
    ∃ d, L.rep (fzOf w) d cs' := by
  have hil : i < xs.length := by rw [hlen]; exact (Array.getElem?_eq_some_iff.1 hi).1
  have hx : xs[i]? = some xs[i] := List.getElem?_eq_getElem hil
  have h1 := hf i f hi
  rw [hc, hx, hv] at h1
  exact he _ _ h1 (fun q hq' => hq q (DataW.weights_mem_each ht (by rw [List.getElem?_map, hx]; rfl) q hq'))
theorem isSl_of {α : Type} {L : Lay α} {fz : FZ} {xs : List α} {v : Value} (h : (slL L).rep fz xs [v]) : IsSl L fz v xs := by
  obtain ⟨A, n, c, e, hs⟩ := h
  injection e with e
  exact ⟨A, n, c, e, hs⟩
theorem str_of {fz : FZ} {s : ByteArray} {v : Value} (h : strL.rep fz s [v]) : v = .string s ∧ Short s := by
  obtain ⟨e, hs⟩ := h
  injection e with e
  exact ⟨e, hs⟩
theorem int_of {fz : FZ} {n : Int} {v : Value} (h : intL.rep fz n [v]) : v = .int .i64 n ∧ I64 n := by
  obtain ⟨e, hs⟩ := h
  injection e with e
  exact ⟨e, hs⟩
theorem bool_of {fz : FZ} {b : Bool} {v : Value} (h : boolL.rep fz b [v]) : v = .bool b := by
  injection h
end
end Go.Lx
set_option maxRecDepth 100000
namespace Go.Proofs.YtegmololhnipiaaGreatDoor
open Go.Lx Go.RowKit Go.ChangeShapes Go.WideShapes Go.Deep
section
variable {H : Type} {enc : TypeId × Value → H} {w : World} {base : Nat} {spare : Nat → Bool} {held : Bool}
theorem opens_i {fuel : Nat} : OpensAt enc Tryz.prog w base spare held intL 3 fuel := opens_int Tryz.underlying3
theorem opens_b {fuel : Nat} : OpensAt enc Tryz.prog w base spare held boolL 4 fuel := opens_bool Tryz.underlying4
theorem opens_s {fuel : Nat} : OpensAt enc Tryz.prog w base spare held strL 9 fuel := opens_string Tryz.underlying9
theorem opens_is {fuel : Nat} : OpensAt enc Tryz.prog w base spare held (slL intL) 24 fuel := opens_slice Tryz.underlying24 (by kernel_rfl) (by kernel_rfl) (fun _ _ => opens_i)
theorem opens_ss {fuel : Nat} : OpensAt enc Tryz.prog w base spare held (slL strL) 80 fuel := opens_slice Tryz.underlying80 (by kernel_rfl) (by kernel_rfl) (fun _ _ => opens_s)
theorem opens_atom {fuel : Nat} : OpensAt enc Tryz.prog w base spare held atomL 103 fuel := fun cs x h hq => by
  obtain ⟨xs, n, hfu, rfl, hcl, hxl, hf⟩ := DataW.trod_struct Tryz.underlying103 h
  have hc : Tryz.prog.cellsOf 103 = 2 := by kernel_rfl
  rw [hc] at hcl
  simp only [DataW.weights, Tryz.underlying103] at hq
  match cs, hcl with
  | [v0, v1], _ =>
    obtain ⟨d0, r0⟩ := (opens_field hf hq hxl (i := 0) (k := 1) (cs' := [v0]) rfl rfl opens_s (by kernel_rfl) rfl)
    obtain ⟨rfl, k0⟩ := str_of r0
    obtain ⟨d1, r1⟩ := (opens_field hf hq hxl (i := 1) (k := 1) (cs' := [v1]) rfl rfl opens_ss (by kernel_rfl) rfl)
    have k1 := isSl_of r1
    exact ⟨⟨d0, d1⟩, _, rfl, ⟨k0, k1⟩⟩
theorem opens_gexpr : ∀ fuel : Nat, OpensAt enc Tryz.prog w base spare held gExprL 53 fuel := fun fuel => by
  induction fuel using Nat.strongRecOn with
  | _ fuel ih =>
    intro cs x h hq
    obtain ⟨xs, n, hfu, rfl, hcl, hxl, hf⟩ := DataW.trod_struct Tryz.underlying53 h
    have hc : Tryz.prog.cellsOf 53 = 3 := by kernel_rfl
    rw [hc] at hcl
    simp only [DataW.weights, Tryz.underlying53] at hq
    match cs, hcl with
    | [v0, v1, v2], _ =>
      obtain ⟨d0, r0⟩ := (opens_field hf hq hxl (i := 0) (k := 1) (cs' := [v0]) rfl rfl opens_s (by kernel_rfl) rfl)
      obtain ⟨rfl, k0⟩ := str_of r0
      obtain ⟨d1, r1⟩ := (opens_field hf hq hxl (i := 1) (k := 1) (cs' := [v1]) rfl rfl opens_i (by kernel_rfl) rfl)
      obtain ⟨rfl, k1⟩ := int_of r1
      obtain ⟨d2, r2⟩ := (opens_field hf hq hxl (i := 2) (k := 1) (cs' := [v2]) rfl rfl (opens_slice (L := gExprL) Tryz.underlying51 (by kernel_rfl) (by kernel_rfl) (fun m hm => ih m (by omega))) (by kernel_rfl) rfl)
      have k2 := isSl_of r2
      exact ⟨.mk d0 d1 d2, gExprL_shut (x := .mk d0 d1 d2) ⟨k0, k1, k2⟩⟩
theorem opens_gtest {fuel : Nat} : OpensAt enc Tryz.prog w base spare held gTestL 123 fuel := fun cs x h hq => by
  obtain ⟨xs, n, hfu, rfl, hcl, hxl, hf⟩ := DataW.trod_struct Tryz.underlying123 h
  have hc : Tryz.prog.cellsOf 123 = 7 := by kernel_rfl
  rw [hc] at hcl
  simp only [DataW.weights, Tryz.underlying123] at hq
  match cs, hcl with
  | [v0, v1, v2, v3, v4, v5, v6], _ =>
    obtain ⟨d0, r0⟩ := (opens_field hf hq hxl (i := 0) (k := 1) (cs' := [v0]) rfl rfl opens_s (by kernel_rfl) rfl)
    obtain ⟨rfl, k0⟩ := str_of r0
    obtain ⟨d1, r1⟩ := (opens_field hf hq hxl (i := 1) (k := 3) (cs' := [v1, v2, v3]) rfl rfl (opens_gexpr _) (by kernel_rfl) rfl)
    obtain ⟨y1, e1, k1⟩ := gExprL_open r1
    simp only [List.cons.injEq, and_true] at e1
    obtain ⟨rfl, rfl, rfl⟩ := e1
    obtain ⟨d2, r2⟩ := (opens_field hf hq hxl (i := 2) (k := 3) (cs' := [v4, v5, v6]) rfl rfl (opens_gexpr _) (by kernel_rfl) rfl)
    obtain ⟨y2, e2, k2⟩ := gExprL_open r2
    simp only [List.cons.injEq, and_true] at e2
    obtain ⟨rfl, rfl, rfl⟩ := e2
    exact ⟨⟨d0, d1, d2⟩, _, _, rfl, ⟨k0, k1, k2⟩⟩
theorem opens_tests {fuel : Nat} : OpensAt enc Tryz.prog w base spare held (slL gTestL) 40 fuel := opens_slice Tryz.underlying40 (by kernel_rfl) (by kernel_rfl) (fun _ _ => opens_gtest)
theorem opens_cond {fuel : Nat} : OpensAt enc Tryz.prog w base spare held condL 42 fuel := fun cs x h hq => by
  obtain ⟨xs, n, hfu, rfl, hcl, hxl, hf⟩ := DataW.trod_struct Tryz.underlying42 h
  have hc : Tryz.prog.cellsOf 42 = 3 := by kernel_rfl
  rw [hc] at hcl
  simp only [DataW.weights, Tryz.underlying42] at hq
  match cs, hcl with
  | [v0, v1, v2], _ =>
    obtain ⟨d0, r0⟩ := (opens_field hf hq hxl (i := 0) (k := 1) (cs' := [v0]) rfl rfl opens_is (by kernel_rfl) rfl)
    have k0 := isSl_of r0
    obtain ⟨d1, r1⟩ := (opens_field hf hq hxl (i := 1) (k := 1) (cs' := [v1]) rfl rfl opens_is (by kernel_rfl) rfl)
    have k1 := isSl_of r1
    obtain ⟨d2, r2⟩ := (opens_field hf hq hxl (i := 2) (k := 1) (cs' := [v2]) rfl rfl opens_tests (by kernel_rfl) rfl)
    have k2 := isSl_of r2
    exact ⟨⟨d0, d1, d2⟩, _, _, _, rfl, ⟨k0, k1, k2⟩⟩
theorem opens_gchange {fuel : Nat} : OpensAt enc Tryz.prog w base spare held gChangeL 48 fuel := fun cs x h hq => by
  obtain ⟨xs, n, hfu, rfl, hcl, hxl, hf⟩ := DataW.trod_struct Tryz.underlying48 h
  have hc : Tryz.prog.cellsOf 48 = 5 := by kernel_rfl
  rw [hc] at hcl
  simp only [DataW.weights, Tryz.underlying48] at hq
  match cs, hcl with
  | [v0, v1, v2, v3, v4], _ =>
    obtain ⟨d0, r0⟩ := (opens_field hf hq hxl (i := 0) (k := 3) (cs' := [v0, v1, v2]) rfl rfl opens_cond (by kernel_rfl) rfl)
    obtain ⟨y1, y2, y3, e0, k0⟩ := condL_open r0
    simp only [List.cons.injEq, and_true] at e0
    obtain ⟨rfl, rfl, rfl⟩ := e0
    obtain ⟨d1, r1⟩ := (opens_field hf hq hxl (i := 1) (k := 1) (cs' := [v3]) rfl rfl opens_i (by kernel_rfl) rfl)
    obtain ⟨rfl, k1⟩ := int_of r1
    obtain ⟨d2, r2⟩ := (opens_field hf hq hxl (i := 2) (k := 1) (cs' := [v4]) rfl rfl opens_b (by kernel_rfl) rfl)
    obtain rfl := bool_of r2
    exact ⟨⟨d0, d1, d2⟩, _, _, _, rfl, ⟨k0, k1, trivial⟩⟩
theorem opens_changes {fuel : Nat} : OpensAt enc Tryz.prog w base spare held (slL gChangeL) 43 fuel := opens_slice Tryz.underlying43 (by kernel_rfl) (by kernel_rfl) (fun _ _ => opens_gchange)
theorem opens_gassign {fuel : Nat} : OpensAt enc Tryz.prog w base spare held gAssignL 55 fuel := fun cs x h hq => by
  obtain ⟨xs, n, hfu, rfl, hcl, hxl, hf⟩ := DataW.trod_struct Tryz.underlying55 h
  have hc : Tryz.prog.cellsOf 55 = 4 := by kernel_rfl
  rw [hc] at hcl
  simp only [DataW.weights, Tryz.underlying55] at hq
  match cs, hcl with
  | [v0, v1, v2, v3], _ =>
    obtain ⟨d0, r0⟩ := (opens_field hf hq hxl (i := 0) (k := 1) (cs' := [v0]) rfl rfl opens_i (by kernel_rfl) rfl)
    obtain ⟨rfl, k0⟩ := int_of r0
    obtain ⟨d1, r1⟩ := (opens_field hf hq hxl (i := 1) (k := 3) (cs' := [v1, v2, v3]) rfl rfl (opens_gexpr _) (by kernel_rfl) rfl)
    obtain ⟨y1, e1, k1⟩ := gExprL_open r1
    simp only [List.cons.injEq, and_true] at e1
    obtain ⟨rfl, rfl, rfl⟩ := e1
    exact ⟨⟨d0, d1⟩, _, rfl, ⟨k0, k1⟩⟩
theorem opens_assigns {fuel : Nat} : OpensAt enc Tryz.prog w base spare held (slL gAssignL) 44 fuel := opens_slice Tryz.underlying44 (by kernel_rfl) (by kernel_rfl) (fun _ _ => opens_gassign)
theorem opens_gop {fuel : Nat} : OpensAt enc Tryz.prog w base spare held gOpL 46 fuel := fun cs x h hq => by
  obtain ⟨xs, n, hfu, rfl, hcl, hxl, hf⟩ := DataW.trod_struct Tryz.underlying46 h
  have hc : Tryz.prog.cellsOf 46 = 7 := by kernel_rfl
  rw [hc] at hcl
  simp only [DataW.weights, Tryz.underlying46] at hq
  match cs, hcl with
  | [v0, v1, v2, v3, v4, v5, v6], _ =>
    obtain ⟨d0, r0⟩ := (opens_field hf hq hxl (i := 0) (k := 1) (cs' := [v0]) rfl rfl opens_s (by kernel_rfl) rfl)
    obtain ⟨rfl, k0⟩ := str_of r0
    obtain ⟨d1, r1⟩ := (opens_field hf hq hxl (i := 1) (k := 1) (cs' := [v1]) rfl rfl opens_i (by kernel_rfl) rfl)
    obtain ⟨rfl, k1⟩ := int_of r1
    obtain ⟨d2, r2⟩ := (opens_field hf hq hxl (i := 2) (k := 3) (cs' := [v2, v3, v4]) rfl rfl opens_cond (by kernel_rfl) rfl)
    obtain ⟨y1, y2, y3, e2, k2⟩ := condL_open r2
    simp only [List.cons.injEq, and_true] at e2
    obtain ⟨rfl, rfl, rfl⟩ := e2
    obtain ⟨d3, r3⟩ := (opens_field hf hq hxl (i := 3) (k := 1) (cs' := [v5]) rfl rfl opens_changes (by kernel_rfl) rfl)
    have k3 := isSl_of r3
    obtain ⟨d4, r4⟩ := (opens_field hf hq hxl (i := 4) (k := 1) (cs' := [v6]) rfl rfl opens_assigns (by kernel_rfl) rfl)
    have k4 := isSl_of r4
    exact ⟨⟨d0, d1, d2, d3, d4⟩, _, _, _, _, _, rfl, ⟨k0, k1, k2, k3, k4⟩⟩
theorem opens_gops {fuel : Nat} : OpensAt enc Tryz.prog w base spare held (slL gOpL) 26 fuel := opens_slice Tryz.underlying26 (by kernel_rfl) (by kernel_rfl) (fun _ _ => opens_gop)
theorem opens_gfluent {fuel : Nat} : OpensAt enc Tryz.prog w base spare held gFluentL 105 fuel := fun cs x h hq => by
  obtain ⟨xs, n, hfu, rfl, hcl, hxl, hf⟩ := DataW.trod_struct Tryz.underlying105 h
  have hc : Tryz.prog.cellsOf 105 = 5 := by kernel_rfl
  rw [hc] at hcl
  simp only [DataW.weights, Tryz.underlying105] at hq
  match cs, hcl with
  | [v0, v1, v2, v3, v4], _ =>
    obtain ⟨d0, r0⟩ := (opens_field hf hq hxl (i := 0) (k := 2) (cs' := [v0, v1]) rfl rfl opens_atom (by kernel_rfl) rfl)
    obtain ⟨y1, e0, k0⟩ := atomL_open r0
    simp only [List.cons.injEq, and_true] at e0
    obtain ⟨rfl, rfl⟩ := e0
    obtain ⟨d1, r1⟩ := (opens_field hf hq hxl (i := 1) (k := 1) (cs' := [v2]) rfl rfl opens_i (by kernel_rfl) rfl)
    obtain ⟨rfl, k1⟩ := int_of r1
    obtain ⟨d2, r2⟩ := (opens_field hf hq hxl (i := 2) (k := 1) (cs' := [v3]) rfl rfl opens_i (by kernel_rfl) rfl)
    obtain ⟨rfl, k2⟩ := int_of r2
    obtain ⟨d3, r3⟩ := (opens_field hf hq hxl (i := 3) (k := 1) (cs' := [v4]) rfl rfl opens_i (by kernel_rfl) rfl)
    obtain ⟨rfl, k3⟩ := int_of r3
    exact ⟨⟨d0, d1, d2, d3⟩, _, rfl, ⟨k0, k1, k2, k3⟩⟩
theorem opens_gfluents {fuel : Nat} : OpensAt enc Tryz.prog w base spare held (slL gFluentL) 23 fuel := opens_slice Tryz.underlying23 (by kernel_rfl) (by kernel_rfl) (fun _ _ => opens_gfluent)
theorem opens_atoms {fuel : Nat} : OpensAt enc Tryz.prog w base spare held (slL atomL) 22 fuel := opens_slice Tryz.underlying22 (by kernel_rfl) (by kernel_rfl) (fun _ _ => opens_atom)
theorem opens_conds {fuel : Nat} : OpensAt enc Tryz.prog w base spare held (slL condL) 25 fuel := opens_slice Tryz.underlying25 (by kernel_rfl) (by kernel_rfl) (fun _ _ => opens_cond)
theorem opens_ground {fuel : Nat} : OpensAt enc Tryz.prog w base spare held gTaskL 28 fuel := fun cs x h hq => by
  obtain ⟨xs, n, hfu, rfl, hcl, hxl, hf⟩ := DataW.trod_struct Tryz.underlying28 h
  have hc : Tryz.prog.cellsOf 28 = 5 := by kernel_rfl
  rw [hc] at hcl
  simp only [DataW.weights, Tryz.underlying28] at hq
  match cs, hcl with
  | [v0, v1, v2, v3, v4], _ =>
    obtain ⟨d0, r0⟩ := (opens_field hf hq hxl (i := 0) (k := 1) (cs' := [v0]) rfl rfl opens_atoms (by kernel_rfl) rfl)
    have k0 := isSl_of r0
    obtain ⟨d1, r1⟩ := (opens_field hf hq hxl (i := 1) (k := 1) (cs' := [v1]) rfl rfl opens_gfluents (by kernel_rfl) rfl)
    have k1 := isSl_of r1
    obtain ⟨d2, r2⟩ := (opens_field hf hq hxl (i := 2) (k := 1) (cs' := [v2]) rfl rfl opens_is (by kernel_rfl) rfl)
    have k2 := isSl_of r2
    obtain ⟨d3, r3⟩ := (opens_field hf hq hxl (i := 3) (k := 1) (cs' := [v3]) rfl rfl opens_conds (by kernel_rfl) rfl)
    have k3 := isSl_of r3
    obtain ⟨d4, r4⟩ := (opens_field hf hq hxl (i := 4) (k := 1) (cs' := [v4]) rfl rfl opens_gops (by kernel_rfl) rfl)
    have k4 := isSl_of r4
    exact ⟨⟨d0, d1, d2, d3, d4⟩, _, _, _, _, _, rfl, ⟨k0, k1, k2, k3, k4⟩⟩
theorem opens_gstate {fuel : Nat} : OpensAt enc Tryz.prog w base spare held gStateL 33 fuel := fun cs x h hq => by
  obtain ⟨xs, n, hfu, rfl, hcl, hxl, hf⟩ := DataW.trod_struct Tryz.underlying33 h
  have hc : Tryz.prog.cellsOf 33 = 2 := by kernel_rfl
  rw [hc] at hcl
  simp only [DataW.weights, Tryz.underlying33] at hq
  match cs, hcl with
  | [v0, v1], _ =>
    obtain ⟨d0, r0⟩ := (opens_field hf hq hxl (i := 0) (k := 1) (cs' := [v0]) rfl rfl opens_is (by kernel_rfl) rfl)
    have k0 := isSl_of r0
    obtain ⟨d1, r1⟩ := (opens_field hf hq hxl (i := 1) (k := 1) (cs' := [v1]) rfl rfl opens_is (by kernel_rfl) rfl)
    have k1 := isSl_of r1
    exact ⟨⟨d0, d1⟩, _, _, rfl, ⟨k0, k1⟩⟩
theorem open_struct {α : Type} {L : Lay α} {t : TypeId} {fs : Array Field} {r : Reach} {b0 : Nat} {v : Value} {d : DataW H} {p : List MemPlace} (hu : Tryz.prog.underlying t = some (.struct fs)) (ho : ∀ fuel, OpensAt enc Tryz.prog w base spare held L t fuel) (hv : Value.okWide Tryz.prog w r b0 t v) (h : DataW.Trod enc Tryz.prog w base spare held t v d p) (hq : ∀ q ∈ d.weights Tryz.prog t, q ≤ reachBytes) :
    ∃ x cs, v = .agg (List.toArray cs) ∧ L.rep (fzOf w) x cs := by
  obtain ⟨cs, rfl, hsz⟩ := okWide_struct hu hv
  obtain ⟨l⟩ := cs
  obtain ⟨fuel, hf⟩ := h
  obtain ⟨x, hx⟩ := ho fuel _ _ hf hq
  exact ⟨x, l, rfl, hx⟩
end
end Go.Proofs.YtegmololhnipiaaGreatDoor
namespace Go.Proofs.YtegmololhnipiaaGreatDoor
open Go.ChangeShapes Go.WideShapes Go.ChangeAt Go.RowKit Go.Lx
theorem own_knob_applies : ownKnob Tryz.prog.godebug = none := by kernel_rfl
theorem laid_out_applies : laidOutB Tryz.prog = true := by kernel_rfl
set_option maxRecDepth 100000 in
set_option maxHeartbeats 4000000 in
theorem gapplies_lifted (os : Os) (started : os.Started) (H : Type) (enc : TypeId × Value → H) :
    ReturnsInHanded {} Tryz.checked os 5 .any (fun w args => (Rows.groundAppliesSpec.pre enc Tryz.prog Tryz.f5 [] false w args ∧ laidMetH Tryz.prog Rows.groundAppliesRow.laid w) ∧ sizedMet enc Tryz.prog Tryz.f5 (OpenSpec.ofChange Rows.groundAppliesSpec) false w args)
      (Rows.groundAppliesSpec.post enc Tryz.prog Tryz.f5 false true false false) := by
  refine returnsInHanded_of_change_and (C := Tryz.checked) (X := fun w _ => laidMetH Tryz.prog Rows.groundAppliesRow.laid w) (fun _ _ _ hh h => h.of_heap hh) own_knob_applies started (by kernel_rfl) Tryz.func5
    (ChangeSpec.witness_shaped (enc := enc) (C := Tryz.checked) (os := os) (X := fun w _ => laidMetH Tryz.prog Rows.groundAppliesRow.laid w) false (World.laidAll Tryz.prog os Rows.groundAppliesRow.laid) #[.agg #[.slice none 0 0, .slice none 0 0, .slice none 0 0, .slice none 0 0, .slice none 0 0], .agg #[.slice none 0 0, .slice none 0 0], .int .i64 0] 8 (World.laidAll_os _ _ _)
      (World.shaped_of_ZipB (by kernel_rfl) (by kernel_rfl)) (by kernel_rfl) (by kernel_rfl) (by kernel_rfl)
      (by rw [MakeChecks.laidMetH_plain _ _ _ (by kernel_rfl)]; exact laidMet_laidAll _ (by kernel_rfl) (by kernel_rfl))) ?_
  intro W base args ds gs before hval0 hW _ hsz0 hL _
  have hval : ∀ (j : Nat) t v, Tryz.f5.params[j]? = some t → args[j]? = some v → Value.okWide Tryz.prog W .any base t v := hval0
  have hsz : (DataW.weightsEach Tryz.prog (Tryz.f5.params.toList ++ Rows.groundAppliesSpec.plain.varTypes Tryz.prog) (ds ++ gs)).all (· ≤ reachBytes) = true := hsz0
  have hW' := hW
  obtain ⟨p, q, hA0, hV, rfl, _, _⟩ := hW
  have hA : DataW.TrodAll enc Tryz.prog W 0 (fun _ => true) true Tryz.f5.params.toList args.toList ds p := hA0
  rw [Tryz.params5] at hA hval hsz
  obtain ⟨v0, v1, v2, d0, d1, d2, p0, p1, p2, rfl, rfl, rfl, h0, h1, h2⟩ := trodAll_three hA
  obtain ⟨rfl, rfl⟩ := trodVars_none hV
  clear hA0 hval0 hsz0
  simp only [List.append_nil] at hW'
  have hlt : ∀ x ∈ p0 ++ p1 ++ p2, x.block < W.heap.size := fun x hx => hW'.lt x hx
  have hq0 : ∀ n ∈ d0.weights Tryz.prog 28, n ≤ reachBytes := fun n hn => by
    have := List.all_eq_true.1 hsz n (DataW.weights_mem_each (j := 0) (t := 28) (d := d0) rfl rfl n hn)
    simpa using this
  obtain ⟨g, cs, rfl, v1g, v2g, v3g, v4g, v5g, rfl, hg⟩ := open_struct Tryz.underlying28 (fun _ => opens_ground) (hval 0 28 v0 rfl rfl) h0 hq0
  have hq1 : ∀ n ∈ d1.weights Tryz.prog 33, n ≤ reachBytes := fun n hn => by
    have := List.all_eq_true.1 hsz n (DataW.weights_mem_each (j := 1) (t := 33) (d := d1) rfl rfl n hn)
    simpa using this
  obtain ⟨s, cs, rfl, u1, u2, rfl, hs⟩ := open_struct Tryz.underlying33 (fun _ => opens_gstate) (hval 1 33 v1 rfl rfl) h1 hq1
  obtain ⟨op, rfl⟩ := okWide_int Tryz.underlying3 (hval 2 3 v2 rfl rfl)
  refine ((gapplies_q awake_q hg hs).calls (hp_of W)).mono fun e W' ⟨he1, hfr⟩ => ?_
  have hb := below_of hfr
  have k0 := Below.trod laid_out_applies (by kernel_rfl) (of_decide_eq_true (by kernel_rfl)) h0 hb (fun x hx => hlt x (by simp [hx]))
  have k1 := Below.trod laid_out_applies (by kernel_rfl) (of_decide_eq_true (by kernel_rfl)) h1 hb (fun x hx => hlt x (by simp [hx]))
  have k2 := Below.trod laid_out_applies (by kernel_rfl) (of_decide_eq_true (by kernel_rfl)) h2 hb (fun x hx => hlt x (by simp [hx]))
  exact ⟨_, he1, [d0, d1, d2], [], _, [], _, [], hW', trodAll_mk1 (shut_bool Tryz.underlying4 true), trodAll_mk3 k0 k1 k2, rfl, hb.frame _, fun h => by cases h⟩
end Go.Proofs.YtegmololhnipiaaGreatDoor
