/- Where branches of a walk meet again; small contracts. Conditions: none. -/
import Derived.Test.YtfidaamledbmpaaPlainA
namespace Go.Lx
section
variable {P : Program} {cx : Cx} {n : Nat} {σ : Env} {fz : FZ} {H : HP} {Q : QQ}
/-- where branches meet again -/
def cutQ (I : Env → FZ → HP → Prop) (Q : QQ) : QQ
  | .normal, σ, fz, H => ∃ σ' H', Sub σ' σ ∧ H'.Sublist H ∧ I σ' fz H'
  | e, σ, fz, H => Q e σ fz H
theorem cutN {I : Env → FZ → HP → Prop} {σ' : Env} {H' : HP} (h : I σ' fz H') (hs : Sub σ' σ) (hh : H'.Sublist H) : cutQ I Q .normal σ fz H := ⟨σ', H', hs, hh, h⟩
theorem cutX {I : Env → FZ → HP → Prop} {i : Nat} (h : Q (.exit i) σ fz H) : cutQ I Q (.exit i) σ fz H := h
theorem cutR {I : Env → FZ → HP → Prop} (h : Q .ret σ fz H) : cutQ I Q .ret σ fz H := h
theorem Wp.cutA {x z : Code} (I : Env → FZ → HP → Prop) (h1 : Wp P cx n x σ fz H (cutQ I Q)) (h2 : ∀ σ fz H, I σ fz H → Wp P cx n z σ fz H Q) : Wp P cx n x σ fz H (andThen P cx n z Q) :=
  h1.mono fun e σ fz H h => by
    cases e with
    | normal =>
      obtain ⟨σ', H', hs, hh, hI⟩ := h
      exact thenN (Wp.weaken hs hh (h2 _ _ _ hI))
    | _ => unfold andThen; unfold cutQ at h; exact h
theorem cut_le {z : Code} {I : Env → FZ → HP → Prop} (h2 : ∀ σ fz H, I σ fz H → Wp P cx n z σ fz H Q) : ∀ e σ fz H, cutQ I Q e σ fz H → andThen P cx n z Q e σ fz H := fun e σ fz H h => by
  cases e with
  | normal =>
    obtain ⟨σ', H', hs, hh, hI⟩ := h
    exact thenN (Wp.weaken hs hh (h2 _ _ _ hI))
  | _ => unfold andThen; unfold cutQ at h; exact h
theorem then_le {y : Code} {Q' : QQ} (h : ∀ e σ fz H, Q e σ fz H → Q' e σ fz H) : ∀ e σ fz H, andThen P cx n y Q e σ fz H → andThen P cx n y Q' e σ fz H := fun e σ fz H hh => by
  cases e with
  | normal => unfold andThen at *; exact hh.mono h
  | _ => unfold andThen at *; exact h _ _ _ _ hh
/-- 'x; (y; z)', cut ahead of z -/
theorem Wp.cutS {x y z : Code} (I : Env → FZ → HP → Prop) (h1 : Wp P cx n x σ fz H (andThen P cx n y (cutQ I Q))) (h2 : ∀ σ fz H, I σ fz H → Wp P cx n z σ fz H Q) : Wp P cx n (.seq x (.seq y z)) σ fz H Q :=
  Wp.seq (h1.mono fun e σ fz H h => by
    cases e with
    | normal => unfold andThen at h; exact thenN (Wp.seq (h.mono (cut_le h2)))
    | _ => unfold andThen at *; unfold cutQ at h; exact h)
/-- 'x; z', cut ahead of z -/
theorem Wp.cut {x z : Code} (I : Env → FZ → HP → Prop) (h1 : Wp P cx n x σ fz H (cutQ I Q)) (h2 : ∀ σ fz H, I σ fz H → Wp P cx n z σ fz H Q) : Wp P cx n (.seq x z) σ fz H Q := Wp.seq (h1.mono (cut_le h2))
section
variable {r : Operand → Option Value} {V : Value → Prop} {dst : Option Nat} {ty : TypeId} {pos : String} {af : Array Edge} {gd : Option (Nat × Bool)}
theorem q_rem {x y : Operand} {t t' : TypeId} {a b : Nat} (hx : r x = some (.int .i64 a)) (hy : r y = some (.int .i64 b)) (hb : 0 < b) (h : V (.int .i64 (a % b : Nat))) : DoesQ P cx ⟨dst, .binOp .rem t x y t', ty, pos, af, gd⟩ r fz H V :=
  doesQ_of (fun ρ w hr => by
    have h0 : ¬ (b : Int) = 0 := by omega
    have h1 : (a : Int).tmod b = ((a % b : Nat) : Int) := (Int.ofNat_tmod a b).symm
    have h2 : (eqGuard .rem t x y (.int .i64 a) (.int .i64 b)).run P w = .ok () w := by simp [eqGuard]
    have h3 : binOp .rem t (.int .i64 a) (.int .i64 b) = Op.intDiv .rem .i64 a b := by simp [binOp]
    rw [← h1]
    simp [execOp, hr _ _ hx, hr _ _ hy, h2, h3, Op.intDiv]
    omega) h
end
end
end Go.Lx
namespace Go.Proofs.Ytfidaamledbmpaa
open Go.Lx Go.RowKit
attribute [local instance 10] Classical.propDecidable

theorem _root_.Go.Lx.QFn.eq {P : Program} {f : FuncId} {args : List Value} {fz : FZ} {v v' : Value} (h : QFn P f args fz v) (he : v = v') : QFn P f args fz v' := he ▸ h
theorem holds_yes {fz : FZ} {A : Option Addr} {n c : Nat} {fs : List Fact} {B : Option Addr} {m d : Nat} {ss : List Int} (h1 : Sl factL fz A n c fs) (h2 : Sl intL fz B m d ss) (h : HoldsP fs ss) :
    QFn Try.prog 17 [.slice A n c, .slice B m d] fz (.bool true) :=
  (holds_q h1 h2).eq (by simp [h])
theorem valid_code {code : Int} {t : Temporal} {ls : List Launch} {ticks : List Int} {n : Int} (h : validM code t ls ticks = (n, 0)) : code = 0 := by
  unfold validM at h
  split at h
  · injection h
  · rename_i hc; exact Classical.not_not.1 hc
end Go.Proofs.Ytfidaamledbmpaa
