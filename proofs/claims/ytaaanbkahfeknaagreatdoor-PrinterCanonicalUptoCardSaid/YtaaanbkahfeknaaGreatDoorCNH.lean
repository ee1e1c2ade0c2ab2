/- The texts PDag, PEag, QP, QT, QS, QL, QLB, QV, QW, QY, QX, QZ, QLn, UJ, UN, Rg, NA, NO, Gat, NB, laid together. Conditions: none. -/
import Derived.Test.YtaaanbkahfeknaaGreatDoorCNG
import Derived.RangeFuncIn
import Derived.RangeFuncRecord
import Derived.RangeFuncLeaves
set_option linter.all false
set_option maxHeartbeats 8000000
open Go.Lx Go.RowKit
attribute [local instance 10] Classical.propDecidable
open Go.Proofs.Tryz (prog)
namespace Go.Lx
open Go.RowKit
section
variable {P:Program} {cx:Cx} {σ:Env} {fz:FZ} {H:HP} {Q:QQ}
def inI (l:List Nat) (i:Nat):Bool:=l.any fun j=>Nat.beq j i
variable {o:Oper}
theorem Yjg {ops:List Oper} {ve cv cv':Env} (hx:Sub cv' cv) (h2:∀ j,lk cv j≠none->lk ve j=none):∀ x v,rdc ops o σ ve cv' x=some v->rdc ops o σ ve cv x=some v:=by
 intro x v h;cases x with
 | tmp t=>
  unfold rdc at h ⊢;cases hw:Wy ops t 0 with
  | none=>simp only [hw] at h ⊢;exact h
  | some j=>
   simp only [hw] at h ⊢;cases hq:waits o j with
   | false=>simp only [hq] at h ⊢;exact h
   | true=>
    simp only [hq] at h ⊢;cases h1:lk cv' j with
    | some u=>
     simp only [h1] at h;have:=hx.lk_ j u h1;simp only [this];exact h
    | none=>
     simp only [h1] at h;cases h3:lk cv j with
     | none=>exact h
     | some u=>have:=h2 j (by rw [h3];simp);rw [this] at h;cases h
 | const c=>exact h
 | func f=>exact h
 | global g=>exact h
theorem Does.cv {ops:List Oper} {ve cv cv':Env} {K:Value->FZ->HP->Prop} (hx:Sub cv' cv) (h2:∀ j,lk cv j≠none->lk ve j=none) (h:Does P cx o (rdc ops o σ ve cv') fz H K):Does P cx o (rdc ops o σ ve cv) fz H K:=
 Does.of fun ρ w hr hi=>h.run ρ w (fun x v hv=>hr x v (Yjg hx h2 x v hv)) hi
theorem DoesQ.cv {ops:List Oper} {ve cv cv':Env} {V:Value->Prop} (hx:Sub cv' cv) (h2:∀ j,lk cv j≠none->lk ve j=none) (h:DoesQ P cx o (rdc ops o σ ve cv') fz H V):DoesQ P cx o (rdc ops o σ ve cv) fz H V:=by
 unfold DoesQ at h ⊢;obtain ⟨v,h1,h3⟩:=h;exact ⟨v,h1,fun ρ w hr hi=>h3 ρ w (fun x u hu=>hr x u (Yjg hx h2 x u hu)) hi⟩
theorem Does.post {r:Operand->Option Value} {K:Value->FZ->HP->Prop} (h:Does P cx o r fz H fun v fz' H'=>∃ H1 H2,H'.Perm (H1++H2)/\∀ fz2,Le fz' fz2->(∀ p∈H2,fz2 p.1=some p.2)->K v fz2 H1):Does P cx o r fz H K:=
 Does.of fun ρ w hr hi=>(h.run ρ w hr hi).mono fun v w' hh=>by
  obtain ⟨fz',H',h1,H1,H2,hp,h2⟩:=hh;obtain ⟨fz2,h3,h4,h5⟩:=YX H2 fz' H1 (h1.perm hp.symm);exact ⟨fz2,H1,h5,h2 fz2 h3 h4⟩
variable {v:Value}
theorem Yj6 {ve cv:Env} {i:Nat} (h:lk ve i=none) (h2:∀ j,lk cv j≠none->lk ve j=none):∀ j,lk ((i,v)::cv) j≠none->lk ve j=none:=fun j hj=>by
 by_cases he:i=j
 ·rw [<- he];exact h
 rw [Yn v cv he] at hj;exact h2 j hj
theorem rdc_ext {ops:List Oper} {ve cv cv':Env} (hx:VExt cv' cv) (h2:∀ j,lk cv j≠none->lk ve j=none):∀ x v,rdc ops o σ ve cv' x=some v->rdc ops o σ ve cv x=some v:=by
 intro x v h;cases x with
 | tmp t=>
  unfold rdc at h ⊢;cases hw:Wy ops t 0 with
  | none=>simp only [hw] at h ⊢;exact h
  | some j=>
   simp only [hw] at h ⊢;cases hq:waits o j with
   | false=>simp only [hq] at h ⊢;exact h
   | true=>
    simp only [hq] at h ⊢;cases h1:lk cv' j with
    | some u=>
     simp only [h1] at h;have:=hx j u h1;simp only [this];exact h
    | none=>
     simp only [h1] at h;cases h3:lk cv j with
     | none=>exact h
     | some u=>have:=h2 j (by rw [h3];simp);rw [this] at h;cases h
 | const c=>exact h
 | func f=>exact h
 | global g=>exact h
variable {b:Bool}
theorem Yfu {ve cv cv':Env} (hx:VExt cv' cv) (h2:∀ j,lk cv j≠none->lk ve j=none) (h:YbB o ve cv'=some b):YbB o ve cv=some b:=by
 unfold YbB at h ⊢;split
 ·rename_i hg;simp only [hg] at h;exact h
 rename_i j c hg;simp only [hg] at h;cases hw:waits o j with
 | false=>simp only [hw] at h;cases h
 | true=>
  simp only [hw] at h ⊢;cases h1:lk cv' j with
  | some u=>
   simp only [h1] at h;have:=hx j u h1;simp only [this];exact h
  | none=>
   simp only [h1] at h;cases h3:lk cv j with
   | none=>simp only;exact h
   | some u=>have:=h2 j (by rw [h3];simp);simp only [this] at h;cases h
theorem Po.ext {ops:List Oper} {pu:List Nat} {ve:Env} {fz0:FZ} {Hq:HP} {all:List (Nat × Oper)}:∀ (m:Nat) {rest:List (Nat × Oper)} {dn:Bool} {cv cv' τ:Env} {fz:FZ} {H:HP},VExt cv' cv->(∀ j,lk cv j≠none->lk ve j=none)->(∀ p∈rest,lk ve p.1=none)->
 Po P cx ops pu σ ve fz0 Hq Q all m rest dn cv' τ fz H->Po P cx ops pu σ ve fz0 Hq Q all m rest dn cv τ fz H
 | 0,rest,dn,cv,cv',τ,fz,H,_,_,_,h=>by unfold Po at h ⊢;exact h
 | m+1,rest,dn,cv,cv',τ,fz,H,hx,h2,hr,h=>by
  unfold Po at h ⊢;intro p hp hf;have hx2:∀ u,VExt ((p.1,u)::cv') ((p.1,u)::cv):=fun u j w hj=>by
   by_cases he:p.1=j
   ·subst he;rw [Ys] at hj ⊢;exact hj
   rw [Yn u _ he] at hj ⊢;exact hx j w hj
  have hr2:∀ q∈rest.filter fun q=>!Nat.beq q.1 p.1,lk ve q.1=none:=fun q hq=>hr q (List.mem_filter.1 hq).1
  rcases h p hp hf with ⟨hw,hd⟩ | ⟨hw,hn⟩
  ·exact .inl ⟨Yfu hx h2 hw,Does.of fun ρ w hrd hi=>(hd.run ρ w (fun x v hv=>hrd x v (rdc_ext hx h2 x v hv)) hi).mono fun v w' ⟨fz',H',h3,h4,h5⟩=>⟨fz',H',h3,h4,Po.ext m (hx2 v) (Yj6 (hr p hp) h2) hr2 h5⟩⟩
  exact .inr ⟨Yfu hx h2 hw,Po.ext m (hx2 undef) (Yj6 (hr p hp) h2) hr2 hn⟩
theorem Po.cv {ops:List Oper} {pu:List Nat} {ve:Env} {fz0:FZ} {Hq:HP} {all:List (Nat × Oper)} {m:Nat} {rest:List (Nat × Oper)} {dn:Bool} {cv τ:Env} (cv':Env) (hx:Sub cv' cv) (h2:∀ j,lk cv j≠none->lk ve j=none) (hr:(rest.all fun p=>(lk ve p.1).isNone)=true)
 (h:Po P cx ops pu σ ve fz0 Hq Q all m rest dn cv' τ fz H):Po P cx ops pu σ ve fz0 Hq Q all m rest dn cv τ fz H:=
 Po.ext m (fun j v hj=>hx.lk_ j v hj) h2 (fun p hp=>by
  have:=List.all_eq_true.1 hr p hp;cases h0:lk ve p.1 with
  | none=>rfl
  | some u=>rw [h0] at this;cases this) h
def DagOps (P:Program) (cx:Cx) (ops:List Oper) (σ ve:Env) (fz:FZ) (H:HP) (idx:List Nat) (V:Nat->Value->FZ->Prop) (A:List (Nat × Oper)):Prop:=
 ∀ p∈A,∀ cv fz1,Le fz fz1->(∀ j,lk cv j≠none->lk ve j=none)->(∀ j,waits p.2 j=true->inI idx j=true->∃ v,lk cv j=some v/\V j v fz1)->
  YbB p.2 ve cv=some true/\Does P cx p.2 (rdc ops p.2 σ ve cv) fz1 H fun v fz' H'=>H'=H/\Le fz1 fz'/\V p.1 v fz'
theorem DagOps.nil {ops:List Oper} {ve:Env} {idx:List Nat} {V:Nat->Value->FZ->Prop} {A:List (Nat × Oper)} (hA:A=[]):DagOps P cx ops σ ve fz H idx V A:=by
 subst hA;intro p hp;cases hp
theorem DagOps.step {ops:List Oper} {ve:Env} {idx:List Nat} {V:Nat->Value->FZ->Prop} {A r:List (Nat × Oper)} {i d:Nat} {op:Op} {ty:TypeId} {pos:String} {af:Array Edge}
 (h:∀ cv fz1,Le fz fz1->(∀ j,lk cv j≠none->lk ve j=none)->(∀ j,waits ⟨some d,op,ty,pos,af,none⟩ j=true->inI idx j=true->∃ v,lk cv j=some v/\V j v fz1)->
  Does P cx ⟨some d,op,ty,pos,af,none⟩ (rdc ops ⟨some d,op,ty,pos,af,none⟩ σ ve cv) fz1 H fun v fz' H'=>H'=H/\Le fz1 fz'/\V i v fz') (hr:DagOps P cx ops σ ve fz H idx V r) (hA:A=(i,⟨some d,op,ty,pos,af,none⟩)::r:=by exact rfl):DagOps P cx ops σ ve fz H idx V A:=by
 subst hA;intro p hp cv fz1 hle h2 hd;rcases List.mem_cons.1 hp with rfl | hp
 ·exact ⟨rfl,h cv fz1 hle h2 hd⟩
 exact hr p hp cv fz1 hle h2 hd
end
attribute [irreducible] DagOps
section
variable {P:Program} {cx:Cx} {σ:Env} {Q:QQ}
variable {ops:List Oper} {pu:List Nat} {ve:Env} {fz0:FZ} {Hq:HP} {all:List (Nat × Oper)}
theorem Yiv {a b:Env} (h:∀ s,lk a s=lk b s) (d:Nat) (v:Value) (s:Nat):lk ((d,v)::a) s=lk ((d,v)::b) s:=by
 by_cases e:d=s
 ·subst e;rw [Ys,Ys]
 rw [Yn v _ e,Yn v _ e];exact h s
theorem Po.tau (hQ:∀ τ1 τ2 fz H,(∀ s,lk τ1 s=lk τ2 s)->Q .normal τ1 fz H->Q .normal τ2 fz H):∀ (m:Nat) {rest:List (Nat × Oper)} {dn:Bool} {cv τ τ':Env} {fz:FZ} {H:HP},(∀ s,lk τ s=lk τ' s)->Po P cx ops pu σ ve fz0 Hq Q all m rest dn cv τ fz H->Po P cx ops pu σ ve fz0 Hq Q all m rest dn cv τ' fz H
 | 0,_,_,_,_,_,_,_,ht,h=>by unfold Po at h ⊢;exact hQ _ _ _ _ ht h
 | m+1,_,_,_,_,_,_,_,ht,h=>by
  unfold Po at h ⊢;intro p hp hf;have key:∀ (v:Value) (s:Nat),lk (match p.2.dst with | some d=>(d,v)::_ | none=>_) s=lk (match p.2.dst with | some d=>(d,v)::_ | none=>_) s:=fun v s=>by
   cases p.2.dst with
   | none=>exact ht s
   | some d=>exact Yiv ht d v s
  rcases h p hp hf with ⟨hw,hd⟩ | ⟨hw,hn⟩
  ·exact .inl ⟨hw,Does.of fun ρ w hrd hi=>(hd.run ρ w hrd hi).mono fun v w' ⟨fz',H',h3,h4,h5⟩=>⟨fz',H',h3,h4,Po.tau hQ m (key v) h5⟩⟩
  exact .inr ⟨hw,Po.tau hQ m (key undef) hn⟩
variable {H:HP} {fz:FZ}
theorem Po.succ {m:Nat} {rest:List (Nat × Oper)} {dn:Bool} {cv τ:Env}:Po P cx ops pu σ ve fz0 Hq Q all (m+1) rest dn cv τ fz H↔∀ p∈rest,(rest.all fun q=>!waits p.2 q.1)=true->PoS P cx ops pu σ ve fz0 Hq Q all m (rest.filter fun q=>!Nat.beq q.1 p.1) dn cv τ fz H p.1 p.2:=by
 unfold Po PoS;exact Iff.rfl
end
end Go.Lx
set_option maxRecDepth 20000
namespace Go.Proofs.YtaaanbkahfeknaaGreatDoor
end Go.Proofs.YtaaanbkahfeknaaGreatDoor
namespace Go.Lx
open Go.RowKit
end Go.Lx
namespace Go.Proofs.YtaaanbkahfeknaaGreatDoor
end Go.Proofs.YtaaanbkahfeknaaGreatDoor
namespace Go.Lx
open Go.RowKit
variable {fz fz':FZ}
structure Schema where
 name:Bs
 params:List Param
 start:Formula
 all:Formula
 over:Formula
 fin:Formula
 early:List Change
 late:List Change
 count:Bool
 arguments:List (List Bs)
structure SchemaR (fz:FZ) (x:Schema) (vparams vstart_args vstart_params vstart_exprs vstart_kids vall_args vall_params vall_exprs vall_kids vover_args vover_params vover_exprs vover_kids vfin_args vfin_params vfin_exprs vfin_kids vearly vlate varguments:Value):Prop where
 name:Short x.name
 params:IsSl paramL fz vparams x.params
 start:FormulaR fz x.start vstart_args vstart_params vstart_exprs vstart_kids
 all:FormulaR fz x.all vall_args vall_params vall_exprs vall_kids
 over:FormulaR fz x.over vover_args vover_params vover_exprs vover_kids
 fin:FormulaR fz x.fin vfin_args vfin_params vfin_exprs vfin_kids
 early:IsSl changeL fz vearly x.early
 late:IsSl changeL fz vlate x.late
 count:True
 arguments:IsSl (slL strL) fz varguments x.arguments
theorem SchemaR.mono (hle:Le fz fz') {x:Schema} {vparams vstart_args vstart_params vstart_exprs vstart_kids vall_args vall_params vall_exprs vall_kids vover_args vover_params vover_exprs vover_kids vfin_args vfin_params vfin_exprs vfin_kids vearly vlate varguments:Value} (h:SchemaR fz x vparams vstart_args vstart_params vstart_exprs vstart_kids vall_args vall_params vall_exprs vall_kids vover_args vover_params vover_exprs vover_kids vfin_args vfin_params vfin_exprs vfin_kids vearly vlate varguments):SchemaR fz' x vparams vstart_args vstart_params vstart_exprs vstart_kids vall_args vall_params vall_exprs vall_kids vover_args vover_params vover_exprs vover_kids vfin_args vfin_params vfin_exprs vfin_kids vearly vlate varguments:=⟨h.name,h.params.mono hle,h.start.mono hle,h.all.mono hle,h.over.mono hle,h.fin.mono hle,h.early.mono hle,h.late.mono hle,trivial,h.arguments.mono hle⟩
end Go.Lx
namespace Go.Proofs.YtaaanbkahfeknaaGreatDoor
variable {fz:FZ} {v:Value}
structure DurV (a:Durative) (i:Nat) (v:Value) (fz:FZ):Prop where
 p7:i=7->IsSl formulaL fz v [a.start]
 p8:i=8->FormulaV fz (normV (andF [a.start])) v
 p11:i=11->IsSl formulaL fz v [a.over]
 p12:i=12->FormulaV fz (normV (andF [a.over])) v
 p15:i=15->IsSl formulaL fz v [a.fin]
 p16:i=16->FormulaV fz (normV (andF [a.fin])) v
 p23:i=23->IsSl formulaL fz v [a.start,a.over,a.fin]
 p24:i=24->FormulaV fz (normV (andF [a.start,a.over,a.fin])) v
 p27:i=27->IsSl changeL fz v (normC a.atStart)
 p30:i=30->IsSl changeL fz v (normC a.atEnd)
theorem DurV.mono {a:Durative} (i:Nat) (v:Value) (fz fz':FZ) (hle:Le fz fz') (h:DurV a i v fz):DurV a i v fz':=
 ⟨fun e=>(h.p7 e).mono hle,fun e=>(h.p8 e).mono hle,fun e=>(h.p11 e).mono hle,fun e=>(h.p12 e).mono hle,fun e=>(h.p15 e).mono hle,fun e=>(h.p16 e).mono hle,fun e=>(h.p23 e).mono hle,fun e=>(h.p24 e).mono hle,fun e=>(h.p27 e).mono hle,fun e=>(h.p30 e).mono hle⟩
theorem DurV.m7 {a:Durative} (h:IsSl formulaL fz v [a.start]):DurV a 7 v fz:=⟨fun _=>h,Za,Za,Za,Za,Za,Za,Za,Za,Za⟩
end Go.Proofs.YtaaanbkahfeknaaGreatDoor
namespace Go.Lx
open Go.RowKit
end Go.Lx
namespace Go.Proofs.YtaaanbkahfeknaaGreatDoor
structure RowS where
 S:List Atom
 bs:List Bool
 ds:List Bool
 n:Bool
def FitR (l:List Schema) (B:List (List Bool)):Prop:=B.length=l.length/\∀ (i:Nat) (s:Schema) (b:List Bool),l[i]?=some s->B[i]?=some b->b.length=s.arguments.length
theorem FitR.set {l:List Schema} {B:List (List Bool)} (h:FitR l B) {i:Nat} {b b':List Bool} (hb:B[i]?=some b) (hl:b'.length=b.length):FitR l (B.set i b'):=by
 refine ⟨by rw [List.length_set];exact h.1,fun j s c hs hc=>?_⟩;by_cases he:i=j
 ·subst he;have hlt:=(Zg hb).1;rw [List.getElem?_set_self hlt] at hc;injection hc with hc
  subst hc;rw [hl];exact h.2 i s b hs hb
 rw [List.getElem?_set_ne he] at hc;exact h.2 j s c hs hc
end Go.Proofs.YtaaanbkahfeknaaGreatDoor
namespace Go.Lx
open Go.RowKit
end Go.Lx
namespace Go.Proofs.YtaaanbkahfeknaaGreatDoor
def SubA (S S':List Atom):Prop:=∃ T,S'=S++T
theorem SubA.refl (S:List Atom):SubA S S:=⟨[],by simp⟩
theorem SubA.trans {a b c:List Atom} (h:SubA a b) (k:SubA b c):SubA a c:=by
 obtain ⟨t,rfl⟩:=h;obtain ⟨u,rfl⟩:=k;exact ⟨t++u,by simp⟩
theorem SubA.len {a b:List Atom} (h:SubA a b):a.length<=b.length:=by
 obtain ⟨t,rfl⟩:=h;simp
theorem SubA.mem {a b:List Atom} (h:SubA a b) {x:Atom} (hx:x∈a):x∈b:=by
 obtain ⟨t,rfl⟩:=h;simp [hx]
def Grew (S:List Atom) (r:List Atom × Bool):Prop:=SubA S r.1/\(r.2=true->S.length<r.1.length)/\(r.2=false->r.1=S)
theorem Grew.step {S:List Atom} {r q:List Atom × Bool} (h:Grew S r) (k:Grew r.1 q):Grew S (q.1,q.2 || r.2):=by
 refine ⟨h.1.trans k.1,fun e=>?_,fun e=>?_⟩
 ·have h1:=h.1.len;have h2:=k.1.len;show S.length<q.1.length;rw [Bool.or_eq_true] at e;rcases e with e | e
  ·have:=k.2.1 e;omega
  have:=h.2.1 e;omega
 rw [Bool.or_eq_false_iff] at e;rw [k.2.2 e.1,h.2.2 e.2]
theorem Grew.zero (S:List Atom):Grew S (S,false):=⟨SubA.refl S,(fun h=>by cases h),fun _=>rfl⟩
def tr (b:Bool):Nat:=if b=true then 1 else 0
end Go.Proofs.YtaaanbkahfeknaaGreatDoor
namespace Go.Lx
end Go.Lx
namespace Go.Proofs.YtaaanbkahfeknaaGreatDoor
variable {fz:FZ} {m:List (Bs × Value)}
theorem SetM.nodup {S:List Atom} (h:SetM fz m S):S.Nodup:=by
 unfold List.Nodup;rw [List.pairwise_iff_getElem];intro i j hi hj hij he;obtain ⟨_,va,h1,_⟩:=h.2.2 i S[i] (List.getElem?_eq_getElem hi);obtain ⟨_,vb,h2,_⟩:=h.2.2 j S[j] (List.getElem?_eq_getElem hj);have hk:=h.1;unfold KeyN List.Nodup at hk;rw [List.pairwise_iff_getElem] at hk;have hl:=h.2.1;refine hk i j (by rw [List.length_map];omega) (by rw [List.length_map];omega) hij ?_;obtain ⟨_,e1⟩:=Zg h1;obtain ⟨_,e2⟩:=Zg h2;rw [List.getElem_map,List.getElem_map,e1,e2,he]
end Go.Proofs.YtaaanbkahfeknaaGreatDoor
namespace Go.Proofs.YtaaanbkahfeknaaGreatDoor
variable {fz:FZ}
section
variable [Dr]
theorem YaZ {P:Program} {cx:Cx} {r:Operand->Option Value} {fz:FZ} {H:HP} {V:Value->Prop} {dst:Option Nat} {ty:TypeId} {pos:String} {af:Array Edge} {gd:Option (Nat × Bool)} {t:TypeId} {x:Operand} {t2:TypeId} {X:Ty} {g j:Nat} {cs vs:List Value} {f:Nat × Nat} (i:Nat)
 (h:V (.agg vs.toArray)) (T:Tab P:=by exact T) (hT:T.inf t=some X:=by exact rfl) (hd:isAggD X.desc=true:=by exact rfl) (hx:r x=some (.pointer (some ⟨g,j,none⟩)):=by exact rfl) (hi:H[i]?=some (g,.cells cs.toArray t2 f):=by exact rfl) (hv:(cs.drop j).take X.size=vs:=by exact rfl) (hs:X.size=vs.length:=by exact rfl):DoesQ P cx ⟨dst,.load t x,ty,pos,af,gd⟩ r fz H V:=
  DoesQ.of h fun ρ w hr hw=>by
   have hc:∀ m v,vs[m]?=some v->w.cell? ((⟨g,j,none⟩:Addr).add m)=some v:=fun m v hm=>by
    rw [addr_add,hw.cellOwn hi];rw [<- hv,List.getElem?_take] at hm;split at hm
    ·rw [List.getElem?_drop] at hm;simpa using hm
    cases hm
   simp only [execOp,hr _ _ hx,Instr.loadAt,Instr.sureAddr,Sem.run_bind,Sem.run_pure,Result.andThen_ok,W3 T hT hd hs hc];exact ⟨rfl,Fr.refl _ _⟩
end
theorem sort0A_q {fv:Value}:QFn prog 69 [Zn,fv] fz (.tuple #[]):=by
 unfold QFn;refine ⟨⟨_,Tryz.func69,by decide,by decide⟩,fun w hw=>?_⟩;exact (AnyF.slices_SortFunc_none YbV none 0 fv w).mono fun e w' ⟨he,hb⟩=>⟨he,by subst hb;exact Fr.refl _ _⟩
end Go.Proofs.YtaaanbkahfeknaaGreatDoor
namespace Go.Lx
open Go.RowKit
variable {w:World}
def fAt (ro:Option Nat):Fence:={Fence.wide with round:=ro}
theorem YkD {ro:Option Nat} {m:Nat} {P:Program} {f:FuncId} {args:Array Value} {R:Ending->World->Prop} (h:Calls P f args w R):CallsIn (fAt ro) m P f args w R:=(callsIn_wide (n:=m)).2 h
section
variable {P:Program} {cx:Cx} {n:Nat} {fz:FZ} {H:HP}
structure SatR (n:Nat) (σ:Env) (a:Act):Prop where
 size:a.tmps.size=n
 slot:∀ i v,lk σ i=some v->a.tmps[i]?=some v
theorem SatR.reads {σ:Env} {a:Act} (h:SatR n σ a):Reads (rd σ) a.eval:=by
 intro x v hv;cases x with
 | tmp t=>have:=h.slot t v hv;simp [Act.eval,this]
 | const u=>injection hv
 | global g=>injection hv
 | func f=>injection hv
theorem SatR.put {σ:Env} {a:Act} (h:SatR n σ a) (d:Nat) (hd:d<n) (v:Value):SatR n ((d,v)::σ) (a.put (some d) v):=by
 refine ⟨by simp [Act.put,h.size],fun i u hu=>?_⟩;by_cases hi:d=i
 ·subst hi;rw [Ys] at hu;injection hu with hu
  subst hu;simp [Act.put,h.size,hd]
 rw [Yn v σ hi] at hu;have:=h.slot i u hu;simp only [Act.put];rw [Array.getElem?_setIfInBounds_ne hi];exact this
def Yan (P:Program) (R:Value->World->Prop):Result Next->Prop
 | .ok (.value v) w'=>R v w'
 | .ok .skip w'=>R undef w'
 | .ok (.enter f args) w'=>Calls P f args w' fun e w''=>∃ v,e=.returned v/\R v w''
 | .ok (.round l f T asg bd) w'=>RoundIn Fence.wide 0 P l f T asg bd w' fun e w''=>∃ v,e=.returned v/\R v w''
 | _=>False
theorem Xk.toI {R:Value->World->Prop} {r:Result Next} (h:Xk P R r):Yan P R r:=by
 unfold Xk at h;unfold Yan;split at h
 ·exact h
 ·exact h
 ·exact h
 exact h.elim
variable {o:Oper}
theorem Yan.up {ro:Option Nat} {m:Nat} {a:Act} {next:Act->World->Prop} {Q:Exit->Act->World->Prop} {r:Result Next} (h:Yan P (fun v w'=>next (a.put o.dst v) w') r):o.uponIn (fAt ro) m P a next Q r:=by
 unfold Yan at h;split at h
 ·exact h
 ·exact h
 ·exact ⟨fun h=>(by cases h),YkD (h.mono fun e w' ⟨v,he,hv⟩=>by subst he;exact hv)⟩
 ·exact ⟨fun h=>(by cases h),RoundIn.mono (F:=fAt ro) (n:=m - 1) ⟨trivial,fun c cs _=>h.2 c cs (fun d hd=>by cases hd)⟩ fun e w' ⟨v,he,hv⟩=>by subst he;exact hv⟩
 exact h.elim
def YiE (P:Program) (cx:Cx) (o:Oper) (r:Operand->Option Value) (fz:FZ) (H:HP) (K:Value->FZ->HP->Prop):Prop:=
 ∀ ρ w,Reads r ρ->Inv cx fz H w->Yan P (fun v w'=>∃ fz' H',Inv cx fz' H' w'/\K v fz' H') ((execOp ρ o).run P w)
theorem Does.toI {r:Operand->Option Value} {K:Value->FZ->HP->Prop} (h:Does P cx o r fz H K):YiE P cx o r fz H K:=by
 intro ρ w hr hi;unfold Does at h;exact (h ρ w hr hi).toI
def CI (P:Program) (cx:Cx) (n:Nat) (K:Env->FZ->HP->Prop):List Oper->Env->FZ->HP->Prop
 | [],σ,fz,H=>K σ fz H
 | ⟨dst,op,ty,pos,af,gd⟩::r,σ,fz,H=>gd=none/\(∀ c,op≠ .defer c)/\match dst with
  | some d=>d<n/\YiE P cx ⟨dst,op,ty,pos,af,gd⟩ (rd σ) fz H fun v fz' H'=>CI P cx n K r ((d,v)::σ) fz' H'
  | none=>YiE P cx ⟨dst,op,ty,pos,af,gd⟩ (rd σ) fz H fun _ fz' H'=>CI P cx n K r σ fz' H'
section
variable {K:Env->FZ->HP->Prop} {r:List Oper} {σ:Env} {d:Nat} {op:Op} {ty:TypeId} {pos:String} {af:Array Edge}
theorem CI.i (h:YiE P cx ⟨some d,op,ty,pos,af,none⟩ (rd σ) fz H fun v fz' H'=>CI P cx n K r ((d,v)::σ) fz' H') (hd:Nat.blt d n=true:=by exact rfl) (hn:∀ c,op≠ .defer c:=by intro c h;cases h):CI P cx n K (⟨some d,op,ty,pos,af,none⟩::r) σ fz H:=
 ⟨rfl,hn,by simpa [Nat.blt_eq] using hd,h⟩
theorem CI.k (h:Does P cx ⟨some d,op,ty,pos,af,none⟩ (rd σ) fz H fun v fz' H'=>CI P cx n K r ((d,v)::σ) fz' H') (hd:Nat.blt d n=true:=by exact rfl) (hn:∀ c,op≠ .defer c:=by intro c h;cases h):CI P cx n K (⟨some d,op,ty,pos,af,none⟩::r) σ fz H:=
 CI.i h.toI hd hn
theorem CI.q (h:DoesQ P cx ⟨some d,op,ty,pos,af,none⟩ (rd σ) fz H fun v=>CI P cx n K r ((d,v)::σ) fz H) (hd:Nat.blt d n=true:=by exact rfl) (hn:∀ c,op≠ .defer c:=by intro c h;cases h):CI P cx n K (⟨some d,op,ty,pos,af,none⟩::r) σ fz H:=
 CI.k h.does hd hn
theorem CI.k0 (h:Does P cx ⟨none,op,ty,pos,af,none⟩ (rd σ) fz H fun _ fz' H'=>CI P cx n K r σ fz' H') (hn:∀ c,op≠ .defer c:=by intro c h;cases h):CI P cx n K (⟨none,op,ty,pos,af,none⟩::r) σ fz H:=
 ⟨rfl,hn,h.toI⟩
end
theorem CI.ops {ro:Option Nat} {m:Nat} {K:Env->FZ->HP->Prop} {ops:Array Oper} {Q:Exit->Act->World->Prop} {A:List Deferred} (hq:∀ σ' fz' H' a' w',K σ' fz' H'->SatR n σ' a'->a'.defers=A->Inv cx fz' H' w'->Q .normal a' w'):
 ∀ (l2 l1:List Oper) {σ:Env} {fz:FZ} {H:HP} {a:Act} {w:World},ops=(l1++l2).toArray->CI P cx n K l2 σ fz H->SatR n σ a->a.defers=A->Inv cx fz H w->wpOpsIn (fAt ro) m P ops Q (List.range' l1.length l2.length) a w
 | [],l1,σ,fz,H,a,w,_,h,hs,hA,hi=>hq σ fz H a w h hs hA hi
 | ⟨dst,op,ty,pos,af,gd⟩::l2,l1,σ,fz,H,a,w,ho,h,hs,hA,hi=>by
  obtain ⟨rfl,hn,h⟩:=h;have hat:ops[l1.length]?=some ⟨dst,op,ty,pos,af,none⟩:=by rw [ho];simp
  rw [List.length_cons,List.range'_succ];unfold wpOpsIn;simp only [hat];rw [if_pos (by simp [Region.wanted])];refine ⟨fun _ _=>trivial,?_⟩;rw [Oper.semAt_eq _ _ _ hn];have next:∀ {σ:Env} {fz:FZ} {H:HP} {a:Act} {w:World},CI P cx n K l2 σ fz H->SatR n σ a->a.defers=A->Inv cx fz H w->wpOpsIn (fAt ro) m P ops Q (List.range' (l1.length+1) l2.length) a w:=fun h hs hA hi=>by
   have:=CI.ops (ro:=ro) (m:=m) (ops:=ops) hq l2 (l1++ [⟨dst,op,ty,pos,af,none⟩]) (by rw [ho];simp) h hs hA hi
   rwa [List.length_append] at this
  cases dst with
  | some d=>
   refine Yan.up ?_;have h1:=h.2 a.eval w hs.reads hi;unfold Yan at h1 ⊢;split at h1
   ·obtain ⟨fz',H',i1,k1⟩:=h1;exact next k1 (hs.put d h.1 _) hA i1
   ·obtain ⟨fz',H',i1,k1⟩:=h1;exact next k1 (hs.put d h.1 _) hA i1
   ·exact h1.mono fun e w' ⟨v,he,fz',H',i1,k1⟩=>⟨v,he,next k1 (hs.put d h.1 _) hA i1⟩
   ·exact h1.mono fun e w' ⟨v,he,fz',H',i1,k1⟩=>⟨v,he,next k1 (hs.put d h.1 _) hA i1⟩
   exact h1.elim
  | none=>
   refine Yan.up ?_;have h1:=h a.eval w hs.reads hi;unfold Yan at h1 ⊢;split at h1
   ·obtain ⟨fz',H',i1,k1⟩:=h1;exact next k1 hs hA i1
   ·obtain ⟨fz',H',i1,k1⟩:=h1;exact next k1 hs hA i1
   ·exact h1.mono fun e w' ⟨v,he,fz',H',i1,k1⟩=>⟨v,he,next k1 hs hA i1⟩
   ·exact h1.mono fun e w' ⟨v,he,fz',H',i1,k1⟩=>⟨v,he,next k1 hs hA i1⟩
   exact h1.elim
theorem CI.region {ro:Option Nat} {m id:Nat} {K:Env->FZ->HP->Prop} {l:List Oper} {Q:Exit->Act->World->Prop} {σ:Env} {a:Act} (h:CI P cx n K l σ fz H) (hs:SatR n σ a) (hi:Inv cx fz H w) (hq:∀ σ' fz' H' a' w',K σ' fz' H'->SatR n σ' a'->a'.defers=a.defers->Inv cx fz' H' w'->Q .normal a' w'):
 (Code.region id l.toArray false).wpIn (fAt ro) m P Q a w:=by
 refine wpIn_region ?_;rw [List.range_eq_range',List.size_toArray];exact CI.ops hq l [] rfl h hs rfl hi
theorem Wp.ofCI {id:Nat} {l:List Oper} {σ:Env} {Q:QQ} (h:CI P cx n (fun σ' fz' H'=>Q .normal σ' fz' H') l σ fz H):Wp P cx n (.region id l.toArray false) σ fz H Q:=by
 unfold Wp;intro a w hs hi;exact (wpIn_wide (n:=0)).1 (CI.region (ro:=none) h ⟨hs.size,hs.slot⟩ hi (fun σ' fz' H' a' w' hk hs' hd hi'=>⟨σ',fz',H',⟨hs'.size,hd.trans hs.defers,hs'.slot⟩,hi',hk⟩))
def recL (st:LoopState) (T:Array Value) (fnA D:Nat) (ps:Array Tmp) (asg bd:Code):Loop:={state:=st,pending:=none,fn:=fnA,tmps:=T,params:=ps,assign:=asg,body:=bd,defers:=D}
theorem YhY {nA D L p fnA ia ib bid:Nat} {T:Array Value} {σ2:Env} {la lb:List Oper} {ff x:Operand} {ats:Array TypeId} {v:Value} {r:Operand->Option Value} {H0:HP} {K:Value->FZ->HP->Prop} {dst:Option Nat} {ty:TypeId} {pos:String} {af:Array Edge} {gd:Option (Nat × Bool)}
 (hT:SatR nA σ2 {tmps:=T,defers:=[]}) (hf:r ff=some (.func (.yield L) #[] #[])) (hx:r x=some v)
 (h:CI P cx nA (fun σ fz1 H1=>∃ H2,H1.Perm ((L,.loop (recL .ready T fnA D #[p] (.region ia la.toArray false) (.block bid (.region ib lb.toArray false))))::H2)/\
  CI P cx nA (fun _ fz3 H3=>∃ H4,H3.Perm ((L,.loop (recL .busy T fnA D #[p] (.region ia la.toArray false) (.block bid (.region ib lb.toArray false))))::H4)/\K (Zo true) fz3 ((L,.loop (recL .ready T fnA D #[p] (.region ia la.toArray false) (.block bid (.region ib lb.toArray false))))::H4))
   lb σ fz1 ((L,.loop (recL .busy T fnA D #[p] (.region ia la.toArray false) (.block bid (.region ib lb.toArray false))))::H2)) la ((p,v)::σ2) fz ((L,.loop (recL .ready T fnA D #[p] (.region ia la.toArray false) (.block bid (.region ib lb.toArray false))))::H0)) (hp:Nat.blt p nA=true:=by exact rfl):
 YiE P cx ⟨dst,.call {callee:=.value ff,args:=#[x],argTypes:=ats},ty,pos,af,gd⟩ r fz ((L,.loop (recL .ready T fnA D #[p] (.region ia la.toArray false) (.block bid (.region ib lb.toArray false))))::H0) K:=by
 intro ρ w hr hi;have hL:w.heap[L]?=some (.loop (recL .ready T fnA D #[p] (.region ia la.toArray false) (.block bid (.region ib lb.toArray false)))):=(hi.hp.own _ (.head _)).1;have e:(execOp ρ ⟨dst,.call {callee:=.value ff,args:=#[x],argTypes:=ats},ty,pos,af,gd⟩).run P w=.ok (.round L fnA (T.setIfInBounds p v) (.region ia la.toArray false) (.block bid (.region ib lb.toArray false))) w:=by
  have hy:=run_yield (P:=P) (args:=#[v]) hL rfl;simp [execOp,resolve,Deferred.ofValue,invoke,hr _ _ hf,hr _ _ hx];rw [hy];simp [recL]
 rw [e];have hp':p<nA:=by simpa [Nat.blt_eq] using hp
 refine roundIn_of_wpIn (F:=Fence.wide) trivial ?_;refine CI.region (ro:=some L) h (SatR.put hT p hp' v) hi (fun σ1 fz1 H1 a1 w1 hk hs1 hd1 hi1=>?_);obtain ⟨H2,hpm,hci⟩:=hk;have hi2:=hi1.perm hpm.symm;have hL1:=(hi2.hp.own _ (.head _)).1;refine ⟨_,run_beginRound hL1 rfl,?_⟩;have hi3:=Inv.setObj (pre:=[]) (o':=.loop (recL .busy T fnA D #[p] (.region ia la.toArray false) (.block bid (.region ib lb.toArray false)))) hi2;refine wpIn_block (CI.region (ro:=some L) hci hs1 hi3 (fun σ3 fz3 H3 a3 w3 hk3 hs3 hd3 hi4=>?_));obtain ⟨H4,hpm4,hk4⟩:=hk3;have hi5:=hi4.perm hpm4.symm;have hL3:=(hi5.hp.own _ (.head _)).1;exact ⟨_,_,run_endRound none hL3,_,rfl,fz3,_,Inv.setObj (pre:=[]) (o':=.loop (recL .ready T fnA D #[p] (.region ia la.toArray false) (.block bid (.region ib lb.toArray false)))) hi5,hk4⟩
variable {g:Nat}
theorem Yfp {f:FuncId} {fn:Func} {A B asg bd:Code} {bid rid p t:Nat} {l:List Oper} {args:List Value} {gf:FuncId} {lb:List Value} {R:Value->FZ->HP->Prop}
 (hf:P.funcs[f]?=some fn) (hb:fn.body=some (A.seq ((B.seq (.block bid (.rangeFunc (.tmp g) #[p] asg bd))).seq ((Code.region rid l.toArray false).seq .ret)))) (hn:fn.ntmps=n) (ha:Nat.ble args.length n=true)
 (hname:(fn.name== "runtime.NumGoroutine")=false) (hres:fn.results=#[.tmp t]) (hgc:XY P gf)
 (hpre:∀ w0,Wp P ⟨w0,H.map Prod.fst,fz⟩ n A (YdH args 0) fz H fun e σ fz1 H1=>e=.normal/\Wp P ⟨w0,H.map Prod.fst,fz⟩ n B σ fz1 H1 fun e σ fz2 H2=>e=.normal/\lk σ g=some (.func (.func gf) #[] lb.toArray)/\
  ∀ (L D fnA:Nat) (T:Array Value),SatR n σ {tmps:=T,defers:=[]}->∃ RI,GFn P gf (.func (.yield L) #[] #[]::lb) fz2 ((L,.loop (recL .ready T fnA D #[p] asg bd))::(D,.deferred (some []))::H2) RI/\
   ∀ u fz3 H3,RI u fz3 H3->∃ H4,H3.Perm ((L,.loop (recL .ready T fnA D #[p] asg bd))::(D,.deferred (some []))::H4)/\
    CI P ⟨w0,H.map Prod.fst,fz⟩ n (fun σ' fz5 H5=>∃ v H6 H7,lk σ' t=some v/\H5.Perm ((D,.deferred (some []))::H6)/\H7.Sublist H6/\R v fz5 H7) l σ fz3 ((L,.loop (recL .exhausted T fnA D #[p] asg bd))::(D,.deferred (some []))::H4)):
 GFn P f args fz H R:=by
 refine GFn.of ⟨fn,hf,hname,by simp [hb]⟩ fun w hw=>(callsIn_wide (n:=0)).1 (callsIn_of_wp_marks hf hb trivial (wpIn_wide.2 ?_))
 have ha':=Nat.le_of_ble_eq_true ha;have hs:Sat n (YdH args 0) {tmps:=args.toArray++Array.replicate (fn.ntmps - args.toArray.size) undef,defers:=[]}:=⟨by simp [hn];omega,rfl,fun i v hv=>by
  have h1:=(YeW args 0 i v hv).2;simp only [Nat.sub_zero] at h1;have h2:i<args.length:=(Zg h1).1;rw [Array.getElem?_append_left (by simpa using h2)];simpa using h1⟩
 have hi:Inv ⟨w,H.map Prod.fst,fz⟩ fz H w:=⟨hw,Fr.refl _ _,⟨fun _ _ h=>h,fun _ _ _=>rfl,fun p hp=>.inl (List.mem_map.2 ⟨p,hp,rfl⟩)⟩⟩;refine wp_seq (wp_mono ((hpre w).run _ w hs hi) fun e a1 w1 hh=>?_);obtain ⟨σ1,fz1,H1,s1,i1,rfl,hB⟩:=hh;show (Code.seq _ _).wp P _ a1 w1;refine wp_seq (wp_seq (wp_mono (hB.run a1 w1 s1 i1) fun e a2 w2 hh=>?_));obtain ⟨σ2,fz2,H2,s2,i2,rfl,hg,hq⟩:=hh;show (Code.block _ _).wp P _ a2 w2;refine wp_block ((wpIn_wide (n:=1)).1 (wpIn_rangeFunc (fun fn' _=>?_)));have hev:a2.eval (.tmp g)=.func (.func gf) #[] lb.toArray:=s2.reads _ _ hg;obtain ⟨RI,hit,hq⟩:=hq (w2.heap.size+1) w2.heap.size fn' a2.tmps ⟨s2.size,s2.slot⟩;obtain ⟨W1,hW1⟩:∃ W1,(w2.alloc (.deferred (some []))).alloc (.loop (recL .ready a2.tmps fn' w2.heap.size #[p] asg bd))=W1:=⟨_,rfl⟩;have hsz:(w2.alloc (.deferred (some []))).heap.size=w2.heap.size+1:=World.size_alloc _ _;have iW:Inv ⟨w,H.map Prod.fst,fz⟩ fz2 ((w2.heap.size+1,.loop (recL .ready a2.tmps fn' w2.heap.size #[p] asg bd))::(w2.heap.size,.deferred (some []))::H2) W1:=by
  have h1:=(i2.alloc (.deferred (some []))).alloc (.loop (recL .ready a2.tmps fn' w2.heap.size #[p] asg bd));rw [hW1,hsz] at h1;exact h1
 refine ⟨w2.heap.size+1,[{target:=.collected w2.heap.size,args:=#[]}],W1,{target:=.fn (.func gf) lb.toArray,args:=#[.func (.yield (w2.heap.size+1)) #[] #[]]},W1,gf,#[.func (.yield (w2.heap.size+1)) #[] #[]]++lb.toArray,W1,?_,?_,fun _ _=>trivial,?_,fun _=>Zs 1,?_⟩
 ·rw [<- hW1];exact run_enterLoop_outer _ _ _ _ _
 ·simp only [resolve,hev];simp [go_sem]
 ·simp [invoke,go_sem,hgc.run]
 have hcall:=hit.out W1 iW.hp;rw [show #[Value.func (.yield (w2.heap.size+1)) #[] #[]]++lb.toArray=(Value.func (.yield (w2.heap.size+1)) #[] #[]::lb).toArray from by simp];refine callsIn_wide.2 (hcall.mono fun e W2 hh=>?_);obtain ⟨u,fz3,H3,rfl,hRI,h1,h2,h3⟩:=hh;have i3:=Inv.called (Hr:=[]) (by rw [List.append_nil];exact iW) h1 h2 h3;rw [List.append_nil] at i3;obtain ⟨H4,hpm,hci⟩:=hq u fz3 H3 hRI;have i4:=i3.perm hpm.symm;have hL:W2.heap[w2.heap.size+1]?=some (.loop (recL .ready a2.tmps fn' w2.heap.size #[p] asg bd)):=(i4.hp.own _ (.head _)).1;refine ⟨none,_,run_endLoop hL (by simp [recL]),?_⟩;have i5:=Inv.setObj (pre:=[]) (o':=.loop (recL .exhausted a2.tmps fn' w2.heap.size #[p] asg bd)) i4;show (Code.seq _ _).wp P _ {a2 with defers:=[{target:=.collected w2.heap.size,args:=#[]}]++a2.defers} _;refine wp_seq ((wpIn_wide (n:=0)).1 (CI.region (ro:=none) hci ⟨s2.size,s2.slot⟩ i5 (fun σ5 fz5 H5 a5 w5 hk s5 hd5 i6=>?_)));obtain ⟨v,H6,H7,hv,hpm6,hsub,hR⟩:=hk;show Code.ret.wp P _ a5 w5;refine wp_ret ?_;show LeavesInM Fence.wide 0 P fn a5.tmps _ a5.defers .returning w5;have hdf:a5.defers=[{target:=.collected w2.heap.size,args:=#[]}]:=by rw [hd5];simp [s2.defers]
 rw [hdf];have i7:=i6.perm hpm6.symm;have hD:w5.heap[w2.heap.size]?=some (.deferred (some [])):=(i7.hp.own _ (.head _)).1;have i8:=Inv.setObj (pre:=[]) (o':=.deferred none) i7;refine ⟨by simp,.inl ⟨w2.heap.size,_,rfl,run_takeDeferred hD,?_⟩⟩;show LeavesIn Fence.wide 0 P fn a5.tmps _ [] .returning _;have i9:=i8.forget (hsub.cons _);exact ⟨v,by simp [results,hres,s5.slot t v hv],v,fz5,H7,rfl,hR,i9.hp,i9.fr,i9.nw⟩
end
end Go.Lx
namespace Go.Lx
variable {α:Type} {j:Nat} {fz:FZ} {v:Value} {l:List α} {L:Lay α}
structure SWk {α:Type} (lt:α->α->Prop):Prop where
 as_:∀ x y,lt x y->¬lt y x
 nt:∀ x y z,¬lt y x->¬lt z y->¬lt z x
theorem SWk.tr {lt:α->α->Prop} (w:SWk lt) (x y z:α) (h:lt x y) (k:¬lt z y):lt x z:=Classical.byContradiction fun hn=>w.nt y z x k hn h
theorem SWk.tl {lt:α->α->Prop} (w:SWk lt) (x y z:α) (h:¬lt y x) (k:lt y z):lt x z:=Classical.byContradiction fun hn=>w.nt z x y hn h k
theorem SWk.trans {lt:α->α->Prop} (w:SWk lt) (x y z:α) (h:lt x y) (k:lt y z):lt x z:=w.tr x y z h (w.as_ y z k)
def SrtS {α:Type} (lt:α->α->Prop) (l:List α):Prop:=l.Pairwise fun x y=>¬lt y x
theorem Yhd {lt:α->α->Prop} (h:SrtS lt l) {i:Nat} {x y:α} (hx:l[i]?=some x) (hy:l[j]?=some y) (w:SWk lt) (hij:i<=j:=by omega):¬lt y x:=by
 obtain ⟨h1,h2⟩:=Zg hx;obtain ⟨h3,h4⟩:=Zg hy;rcases Nat.lt_or_ge i j with h0 | h0
 ·have:=List.pairwise_iff_getElem.1 h i j h1 h3 h0
  rwa [h2,h4] at this
 have e:i=j:=by omega
 subst e;rw [hx] at hy;injection hy with hy
 subst hy;exact fun h=>w.as_ _ _ h h
section
variable {α:Type} {lt:α->α->Prop} [DecidableRel lt]
def YL (lt:α->α->Prop) [DecidableRel lt]:List α->List α->List α
 | [],r=>r
 | x::l,[]=>x::l
 | x::l,y::r=>if lt y x then y::YL lt (x::l) r else x::YL lt l (y::r)
theorem YK (r:List α):YL lt [] r=r:=by rw [YL]
theorem YT (l:List α):YL lt l []=l:=by cases l<;>rw [YL]
theorem Yw (x y:α) (l r:List α):YL lt (x::l) (y::r)=if lt y x then y::YL lt (x::l) r else x::YL lt l (y::r):=by rw [YL]
theorem Ybd:∀ (l r:List α),(YL lt l r).length=l.length+r.length
 | [],r=>by simp [YL]
 | x::l,[]=>by simp [YL]
 | x::l,y::r=>by
  rw [Yw];split
  ·rw [List.length_cons,Ybd (x::l) r];simp only [List.length_cons];omega
  rw [List.length_cons,Ybd l (y::r)];simp only [List.length_cons];omega
theorem WC:∀ (l1 r1:List α) {l2 r2:List α},(∀ x∈l1,∀ y∈r2,¬lt y x)->(∀ x∈l2,∀ y∈r1,lt y x)->YL lt (l1++l2) (r1++r2)=YL lt l1 r1++YL lt l2 r2
 | [],[],l2,r2,_,_=>by rw [YK];rfl
 | [],y::r1,l2,r2,h1,h2=>by
  cases l2 with
  | nil=>rw [List.append_nil,YK,YK,YK]
  | cons x l2=>
   have:=WC [] r1 (l2:=x::l2) (r2:=r2) (by simp) (fun z hz w hw=>h2 z hz w (by simp [hw]));show YL lt (x::l2) (y::(r1++r2))=_;rw [Yw,if_pos (h2 x (by simp) y (by simp))];show y::YL lt ([]++x::l2) (r1++r2)=_;rw [this,YK,YK];rfl
 | x::l1,[],l2,r2,h1,h2=>by
  cases r2 with
  | nil=>rw [YT,YT,List.append_nil,YT]
  | cons y r2=>
   have:=WC l1 [] (l2:=l2) (r2:=y::r2) (fun z hz w hw=>h1 z (by simp [hz]) w hw) (by simp);show YL lt (x::(l1++l2)) (y::r2)=_;rw [Yw,if_neg (h1 x (by simp) y (by simp))];show x::YL lt (l1++l2) ([]++y::r2)=_;rw [this,YT,YT];rfl
 | x::l1,y::r1,l2,r2,h1,h2=>by
  show YL lt (x::(l1++l2)) (y::(r1++r2))=_;rw [Yw,Yw];split
  ·have:=WC (x::l1) r1 (l2:=l2) (r2:=r2) h1 (fun z hz w hw=>h2 z hz w (by simp [hw]));show y::YL lt (x::l1++l2) (r1++r2)=_;rw [this];rfl
  have:=WC l1 (y::r1) (l2:=l2) (r2:=r2) (fun z hz w hw=>h1 z (by simp [hz]) w hw) h2;show x::YL lt (l1++l2) (y::r1++r2)=_;rw [this];rfl
termination_by l1 r1=>l1.length+r1.length
theorem Wc (w:SWk lt):∀ (a b c:List α),YL lt (YL lt a b) c=YL lt a (YL lt b c)
 | [],b,c=>by rw [YK,YK]
 | x::a,[],c=>by rw [YT,YK]
 | x::a,y::b,[]=>by rw [YT,YT]
 | x::a,y::b,z::c=>by
  by_cases h1:lt y x
  ·rw [Yw x y,if_pos h1];by_cases h2:lt z y
   ·have h3:lt z x:=w.trans z y x h2 h1;rw [Yw y z,if_pos h2,Yw y z,if_pos h2,Yw x z,if_pos h3];have:=Wc w (x::a) (y::b) c;rw [Yw x y,if_pos h1] at this;rw [this]
   rw [Yw y z,if_neg h2,Yw y z,if_neg h2,Yw x y,if_pos h1,Wc w (x::a) b (z::c)]
  rw [Yw x y,if_neg h1];by_cases h2:lt z x
  ·have h3:lt z y:=w.tr z x y h2 h1;rw [Yw x z,if_pos h2,Yw y z,if_pos h3,Yw x z,if_pos h2];have:=Wc w (x::a) (y::b) c;rw [Yw x y,if_neg h1] at this;rw [this]
  rw [Yw x z,if_neg h2];by_cases h3:lt z y
  ·rw [Yw y z,if_pos h3,Yw x z,if_neg h2,Wc w a (y::b) (z::c),Yw y z,if_pos h3]
  rw [Yw y z,if_neg h3,Yw x y,if_neg h1,Wc w a (y::b) (z::c),Yw y z,if_neg h3]
termination_by a b c=>a.length+b.length+c.length
def Ya4 (lt:α->α->Prop) [DecidableRel lt] (l:List α):List α:=l.foldl (fun s x=>YL lt s [x]) []
theorem YaJ (l:List α) (x:α):Ya4 lt (l++ [x])=YL lt (Ya4 lt l) [x]:=by
 unfold Ya4;rw [List.foldl_append];rfl
theorem YbM (w:SWk lt) (u:List α):∀ (n:Nat) (v:List α),v.length=n->Ya4 lt (u++v)=YL lt (Ya4 lt u) (Ya4 lt v)
 | 0,v,h=>by
  have:v=[]:=List.eq_nil_of_length_eq_zero h;subst this;rw [List.append_nil];exact (YT _).symm
 | n+1,v,h=>by
  have hne:v≠ []:=fun e=>by subst e;cases h
  obtain ⟨v',x,rfl⟩:∃ v' x,v=v'++ [x]:=⟨v.dropLast,v.getLast hne,(List.dropLast_concat_getLast hne).symm⟩;rw [<- List.append_assoc,YaJ,YbM w u n v' (by simpa using h),YaJ,Wc w]
theorem Yem:∀ (n:Nat) (v:List α),v.length=n->(Ya4 lt v).length=n
 | 0,v,h=>by
  have:v=[]:=List.eq_nil_of_length_eq_zero h;subst this;rfl
 | n+1,v,h=>by
  have hne:v≠ []:=fun e=>by subst e;cases h
  obtain ⟨v',x,rfl⟩:∃ v' x,v=v'++ [x]:=⟨v.dropLast,v.getLast hne,(List.dropLast_concat_getLast hne).symm⟩;rw [YaJ,Ybd,Yem n v' (by simpa using h)];rfl
theorem Yat:∀ (l r:List α) {z:α},z∈YL lt l r↔z∈l\/z∈r
 | [],r,z=>by simp [YL]
 | x::l,[],z=>by simp [YL]
 | x::l,y::r,z=>by
  rw [Yw];split
  ·rw [List.mem_cons,Yat (x::l) r];simp only [List.mem_cons];constructor
   ·rintro (h | h | h);exact .inr (.inl h);exact .inl h;exact .inr (.inr h)
   rintro (h | h | h);exact .inr (.inl h);exact .inl h;exact .inr (.inr h)
  rw [List.mem_cons,Yat l (y::r)];simp only [List.mem_cons,or_assoc]
theorem Yb7 (w:SWk lt):∀ (l r:List α),SrtS lt l->SrtS lt r->SrtS lt (YL lt l r)
 | [],r,_,h=>by rw [YK];exact h
 | x::l,[],h,_=>by rw [YT];exact h
 | x::l,y::r,h,k=>by
  have h':=List.pairwise_cons.1 h;have k':=List.pairwise_cons.1 k;rw [Yw];split
  ·rename_i c;refine List.pairwise_cons.2 ⟨fun z hz=>?_,Yb7 w (x::l) r h k'.2⟩;rcases (Yat _ _).1 hz with hz | hz
   ·rcases List.mem_cons.1 hz with rfl | hz
    ·exact w.as_ _ _ c
    exact fun hc=>h'.1 z hz (w.trans z y x hc c)
   exact k'.1 z hz
  rename_i c;refine List.pairwise_cons.2 ⟨fun z hz=>?_,Yb7 w l (y::r) h'.2 k⟩;rcases (Yat _ _).1 hz with hz | hz
  ·exact h'.1 z hz
  rcases List.mem_cons.1 hz with rfl | hz
  ·exact c
  exact fun hc=>c (w.tl y z x (k'.1 z hz) hc)
theorem Yix (w:SWk lt) (l:List α):SrtS lt (Ya4 lt l):=by
 unfold Ya4;have:∀ (l s:List α),SrtS lt s->SrtS lt (l.foldl (fun s x=>YL lt s [x]) s):=fun l=>by
  induction l with
  | nil=>exact fun s h=>h
  | cons x l ih=>exact fun s h=>ih _ (Yb7 w s [x] h (List.pairwise_cons.2 ⟨by simp,List.Pairwise.nil⟩))
 exact this l [] List.Pairwise.nil
variable {c:Nat}
theorem Xx (w:SWk lt) {L R:List α} {e:Nat} (hL:SrtS lt L) (hR:SrtS lt R)
 (hA:∀ c',c=c'+1->∀ x y,L[c']?=some x->R[e]?=some y->¬lt y x) (hB:∀ e',e=e'+1->∀ x y,L[c]?=some x->R[e']?=some y->lt y x) (hc:c<=L.length) (he:e<=R.length):
 YL lt L R=YL lt (L.take c) (R.take e)++YL lt (L.drop c) (R.drop e):=by
 have h:=WC (lt:=lt) (L.take c) (R.take e) (l2:=L.drop c) (r2:=R.drop e) (fun x hx y hy=>?_) (fun x hx y hy=>?_)
 ·rw [List.take_append_drop,List.take_append_drop] at h;exact h
 ·obtain ⟨i,hi⟩:=List.getElem?_of_mem hx;obtain ⟨j,hj⟩:=List.getElem?_of_mem hy;have hic:i<c:=by have:=(Zg hi).1;rw [List.length_take] at this;omega
  rw [List.getElem?_take_of_lt hic] at hi;rw [List.getElem?_drop] at hj;have hej:=(Zg hj).1;obtain ⟨c',rfl⟩:∃ c',c=c'+1:=⟨c - 1,by omega⟩;have hx':L[c']?=some (L[c']'Zi):=List.getElem?_eq_getElem _;have hy':R[e]?=some (R[e]'Zi):=List.getElem?_eq_getElem _;have h1:=hA c' rfl _ _ hx' hy';exact w.nt _ _ _ (Yhd hL hi hx' w) (w.nt _ _ _ h1 (Yhd hR hy' hj w))
 obtain ⟨i,hi⟩:=List.getElem?_of_mem hx;obtain ⟨j,hj⟩:=List.getElem?_of_mem hy;have hje:j<e:=by have:=(Zg hj).1;rw [List.length_take] at this;omega
 rw [List.getElem?_take_of_lt hje] at hj;rw [List.getElem?_drop] at hi;have hci:=(Zg hi).1;obtain ⟨e',rfl⟩:∃ e',e=e'+1:=⟨e - 1,by omega⟩;have hx':L[c]?=some (L[c]'Zi):=List.getElem?_eq_getElem _;have hy':R[e']?=some (R[e']'Zi):=List.getElem?_eq_getElem _;have h1:=hB e' rfl _ _ hx' hy';exact w.tl _ _ _ (Yhd hR hj hy' w) (w.tr _ _ _ h1 (Yhd hL hx' hi w))
theorem YfT (w:SWk lt) {s1 s2:List α} {x:α} (hs:SrtS lt (s1++s2)) (h1:∀ y,s2[0]?=some y->lt x y) (h2:∀ k,s1.length=k+1->∀ z,s1[k]?=some z->¬lt x z):YL lt (s1++s2) [x]=s1++x::s2:=by
 have hr:SrtS lt [x]:=List.pairwise_cons.2 ⟨by simp,List.Pairwise.nil⟩;have e1:=Xx w (L:=s1++s2) (R:=[x]) (c:=s1.length) (e:=0) hs hr (fun c' hc u v hu hv=>by
  have:v=x:=by simpa using hv.symm
  subst this;rw [List.getElem?_append_left Zi] at hu;exact h2 c' hc u hu) (fun e' he=>by omega) (by simp) (by simp)
 have hs2:SrtS lt s2:=(List.pairwise_append.1 hs).2.1;have e2:=Xx w (L:=s2) (R:=[x]) (c:=0) (e:=1) hs2 hr (fun c' hc=>by omega) (fun e' he u v hu hv=>by
  have:e'=0:=by omega
  subst this;have:v=x:=by simpa using hv.symm
  subst this;exact h1 u hu) (by simp) (by simp)
 rw [e1,List.take_left' rfl,List.drop_left' rfl,List.take_zero,List.drop_zero,YT,e2];simp [YT,YK]
end
theorem YR {xs:List α} (h:IsSl L fz v xs):v.oneCell'=true:=by
 obtain ⟨A,n,c,rfl,_⟩:=h;rfl
theorem YaF:OneC atomL:=by
 intro fz d cs h;obtain ⟨_,rfl,hR⟩:=YN h;simp only [List.forall_mem_cons];exact ⟨rfl,YR hR.args,by simp⟩
theorem Xs:OneC valueL:=by
 intro fz d cs h;obtain ⟨_,rfl,hR⟩:=YaA h;simp only [List.forall_mem_cons];exact ⟨rfl,YR hR.fluent.args,rfl,by simp⟩
theorem YW:OneC predicateL:=by
 intro fz d cs h;obtain ⟨_,rfl,hR⟩:=Wj h;simp only [List.forall_mem_cons];exact ⟨rfl,YR hR.params,by simp⟩
theorem Y6:OneC functionL:=by
 intro fz d cs h;obtain ⟨_,rfl,hR⟩:=Xh h;simp only [List.forall_mem_cons];exact ⟨rfl,YR hR.params,rfl,rfl,by simp⟩
theorem Yhr:OneC exprL:=by
 intro fz d cs h;obtain ⟨_,_,rfl,hR⟩:=Xe h;simp only [List.forall_mem_cons];exact ⟨rfl,rfl,rfl,YR hR.args,YR hR.kids,by simp⟩
theorem Ygw:OneC formulaL:=by
 intro fz d cs h;obtain ⟨_,_,_,_,rfl,hR⟩:=YI h;simp only [List.forall_mem_cons];exact ⟨rfl,rfl,YR hR.args,YR hR.params,YR hR.exprs,YR hR.kids,by simp⟩
theorem Yek:OneC changeL:=by
 intro fz d cs h;obtain ⟨_,_,_,_,_,_,_,_,rfl,hR⟩:=Y8 h;simp only [List.forall_mem_cons];exact ⟨rfl,YR hR.params,rfl,rfl,YR hR.when_.args,YR hR.when_.params,YR hR.when_.exprs,YR hR.when_.kids,rfl,YR hR.args,rfl,rfl,rfl,YR hR.value.args,YR hR.value.kids,by simp⟩
theorem Xw:OneC actionL:=by
 intro fz d cs h;obtain ⟨_,_,_,_,_,_,rfl,hR⟩:=XF h;simp only [List.forall_mem_cons];exact ⟨rfl,YR hR.params,rfl,rfl,rfl,YR hR.pre.args,YR hR.pre.params,YR hR.pre.exprs,YR hR.pre.kids,YR hR.changes,by simp⟩
theorem Y7:OneC durativeL:=by
 intro fz d cs h;obtain ⟨_,_,_,_,_,_,_,_,_,_,_,_,_,_,_,rfl,hR⟩:=Xy h;simp only [List.forall_mem_cons];exact ⟨rfl,YR hR.params,rfl,rfl,rfl,YR hR.start.args,YR hR.start.params,YR hR.start.exprs,YR hR.start.kids,rfl,rfl,YR hR.over.args,YR hR.over.params,YR hR.over.exprs,YR hR.over.kids,rfl,rfl,YR hR.fin.args,YR hR.fin.params,YR hR.fin.exprs,YR hR.fin.kids,YR hR.atStart,YR hR.atEnd,by simp⟩
end Go.Lx
namespace Go.Lx
open Go.RowKit
variable {α:Type} {fz:FZ} {g j:Nat} {L:Lay α} {l:List α}
theorem YbQ {α:Type} {z:Nat}:∀ {xs:List (α × List Value)} {j:Nat} {p:α × List Value},(∀ p∈xs,p.2.length=z)->xs[j]?=some p->((xs.flatMap Prod.snd).drop (j*z)).take z=p.2
 | [],j,p,_,h=>by simp at h
 | x::r,0,p,h,hj=>by
  simp at hj;subst hj;have hx:=h x (by simp);rw [List.flatMap_cons,Nat.zero_mul,List.drop_zero,<- hx,List.take_left]
 | x::r,j+1,p,h,hj=>by
  have hx:=h x (by simp);have ih:=YbQ (xs:=r) (j:=j) (fun p hp=>h p (by simp [hp])) (by simpa using hj);have e:(j+1)*z=x.2.length+j*z:=by rw [Nat.succ_mul];omega
  rw [List.flatMap_cons,e,List.drop_append,List.drop_eq_nil_of_le Zi,List.nil_append,Nat.add_sub_cancel_left];exact ih
theorem Yl {e:Nat} {n cap:Nat} {cur:List Value} (h:GrowB L e fz g n cap cur l) {d:α} (hj:l[j]?=some d):∃ cs,L.rep fz d cs/\(cur.drop (j*L.size)).take L.size=cs:=by
 obtain ⟨xs,h1,h2,h3⟩:=h.pairs;have hl:=h.len;have hjl:j<n:=by have:=(Zg hj).1;omega
 rw [<- h1,List.getElem?_map] at hj;cases hx:xs[j]? with
 | none=>rw [hx] at hj;cases hj
 | some p=>
  rw [hx] at hj;simp at hj;subst hj;refine ⟨p.2,h2 p (Zm hx),?_⟩;rw [<- YbQ (fun p hp=>L.len (h2 p hp)) hx,<- h3,List.drop_take,List.take_take];have:j*L.size+L.size<=n*L.size:=by rw [<- Nat.succ_mul];exact Nat.mul_le_mul_right _ hjl
  rw [Nat.min_eq_left Zi]
end Go.Lx
namespace Go.Lx
variable {α:Type} {j:Nat}
theorem XG {U V W:List α} {x z:α} {i:Nat} (hi:i=U.length) (hj:j=U.length+1+V.length):((U++x::(V++z::W)).set i z).set j x=U++z::(V++x::W):=by
 subst hi hj;rw [List.set_append_right _ _ (Zs _),Nat.sub_self,List.set_cons_zero,List.set_append_right _ _ Zi,show U.length+1+V.length - U.length=V.length+1 by omega,List.set_cons_succ,List.set_append_right _ _ (Zs _),Nat.sub_self,List.set_cons_zero]
theorem Xq {U V W:List α} {x z:α} {i:Nat} (hi:i=U.length) (hj:j=U.length+1+V.length):((U++x::(V++z::W)).set j x).set i z=U++z::(V++x::W):=by
 rw [List.set_comm _ _ Zi];exact XG hi hj
theorem Xi {U W:List α} {x:α} {i:Nat} (hi:i=U.length):(U++x::W)[i]?=some x:=by
 subst hi;rw [List.getElem?_append_right (Zs _),Nat.sub_self];rfl
theorem Y5 {U V W:List α} {x z:α} (hj:j=U.length+1+V.length):(U++x::(V++z::W))[j]?=some z:=by
 subst hj;rw [List.getElem?_append_right Zi,show U.length+1+V.length - U.length=V.length+1 by omega,List.getElem?_cons_succ];exact Xi rfl
end Go.Lx
namespace Go.Proofs.YtaaanbkahfeknaaGreatDoor
variable {fz:FZ} {g:Nat} {t:TypeId}
theorem Ydb {n cap k:Nat} {cur:List Value} {P X Y Z Q:List Param} {vc:Value} (hB:GrowB paramL t fz g n cap cur (P++(X++(Y++(Z++Q))))) (hX:X.length=k) (hZ:Z.length=k) {a b:Int} (ha:a=P.length) (hb:b=P.length+k+Y.length):
 GFn prog 323 [Zv g n cap,Zk a,Zk b,Zk k,vc] fz [(g,Zu cur.toArray t)]
  (fun _ fz' H'=>fz=fz'/\∃ cur',H'=[(g,Zu (List.toArray cur') t)]/\GrowB paramL t fz g n cap cur' (P++(Z++(Y++(X++Q))))):=by
 have hl:=hB.len;have hcn:=hB.capn;have hmax:=hB.max;unfold maxLen at hmax;simp only [List.length_append] at hl;subst ha hb;refine zF Tryz.func323 Tryz.ntmps323 (fun w0=>?_);refine zW ?_;intros;refine Yd (fun q σ fz' H'=>∃ (i:Nat) (cur1:List Value),i<=k/\q=k - i/\σ=[(10,Zk i),(0,Zv g n cap),(1,Zk P.length),(2,Zk (P.length+k+Y.length)),(3,Zk k)]/\fz=fz'/\H'=[(g,Zu cur1.toArray t)]/\GrowB paramL t fz g n cap cur1 (P++(Z.take i++(X.drop i++(Y++(X.take i++(Z.drop i++Q))))))) ⟨0,cur,Z0 _,rfl,rfl,rfl,rfl,by simpa using hB⟩ Zw Zb ?_;rintro q σ fz' H' ⟨i,cur1,hi,rfl,rfl,rfl,rfl,hB1⟩;refine zW ?_;intros;refine zC ?_ ?_<;>intro c1
 ·have hik:i<k:=by omega
  have eX:X.drop i=X[i]'Zi::X.drop (i+1):=List.drop_eq_getElem_cons Zi;have eZ:Z.drop i=Z[i]'Zi::Z.drop (i+1):=List.drop_eq_getElem_cons Zi;generalize X[i]'Zi=x at eX;generalize Z[i]'Zi=z at eZ;have hD:P++(Z.take i++(X.drop i++(Y++(X.take i++(Z.drop i++Q)))))=(P++Z.take i)++x::((X.drop (i+1)++(Y++X.take i))++z::(Z.drop (i+1)++Q)):=by rw [eX,eZ];simp
  rw [hD] at hB1;have lU:(P++Z.take i).length=P.length+i:=by rw [List.length_append,List.length_take];omega
  have lV:(X.drop (i+1)++(Y++X.take i)).length=k - (i+1)+(Y.length+i):=by rw [List.length_append,List.length_append,List.length_take,List.length_drop];omega
  obtain ⟨cz,hz1,hz2⟩:=Yl hB1 (Y5 (j:=P.length+k+Y.length+i) Zi);obtain ⟨cx,hx1,hx2⟩:=Yl hB1 (Xi (i:=P.length+i) Zi);have lz:=paramL.len hz1;have lx:=paramL.len hx1;refine zWN ?_;intros;refine Wi [4,5,6,7] [_] ?_;refine zW ?_;intros;refine PK.p Zz (fun fz'=>by first | exact Yz rfl | exact Yr Zz rfl | exact Ye rfl | exact YM Zz Zz (Yh Zi) rfl | exact Yg rfl) ?_;refine PK.p Zz (fun fz'=>by first | exact Yz rfl | exact Yr Zz rfl | exact Ye rfl | exact YM Zz Zz (Yh Zi) rfl | exact Yg rfl) ?_;refine PK.p Zz (fun fz'=>by first | exact Yz rfl | exact Yr Zz rfl | exact Ye rfl | exact YM Zz Zz (Yh Zi) rfl | exact Yg rfl) ?_;refine PK.p Zz (fun fz'=>by first | exact Yz rfl | exact Yr Zz rfl | exact Ye rfl | exact YM Zz Zz (Yh Zi) rfl | exact Yg rfl) ?_;refine zW ?_;intros;refine zG ?_;refine Yb rfl ?_;refine zG ?_;refine Ya (vs:=cz) 0 ?_ (hv:=hz2) (hs:=by exact lz.symm);refine zW ?_;intros;refine zG ?_;refine Yb rfl ?_;refine zG ?_;refine Ya (vs:=cx) 0 ?_ (hv:=hx2) (hs:=by exact lx.symm);refine zW ?_;intros;refine zG ?_;refine Yb rfl ?_;refine pT ?_;refine Yp ?_;refine PoS.hard0 (Yk (pre:=[]) (L:=paramL) (j:=P.length+i) rfl rfl XC hz1 hB1 (fun cur2 hB2=>?_));refine Yp ?_;refine PoS.hard (DoesQ.does (Yb rfl ?_));refine Yp ?_;refine PoS.hard0 (Yk (pre:=[]) (L:=paramL) (j:=P.length+k+Y.length+i) rfl rfl XC hx1 hB2 (fun cur3 hB3=>?_));refine Po.done ?_;rw [XG Zi Zi] at hB3;refine zW ?_;intros;exact YJ ⟨i+1,cur3,by omega,rfl,rfl,rfl,rfl,by
   rw [List.take_add_one,List.take_add_one,show X[i]?=some x from by rw [<- List.head?_drop,eX];rfl,show Z[i]?=some z from by rw [<- List.head?_drop,eZ];rfl];simpa using hB3⟩ Zi Zw Zb
 have hki:i=k:=by omega
 subst hki;rw [Zl Zi,Zl Zi,List.drop_of_length_le Zi,List.drop_of_length_le Zi] at hB1;refine zW ?_;intros;exact YP rfl Zb ⟨rfl,cur1,rfl,by simpa using hB1⟩
theorem Yda {n cap k:Nat} {cur:List Value} {P X Y Z Q:List Predicate} {vc:Value} (hB:GrowB predicateL t fz g n cap cur (P++(X++(Y++(Z++Q))))) (hX:X.length=k) (hZ:Z.length=k) {a b:Int} (ha:a=P.length) (hb:b=P.length+k+Y.length):
 GFn prog 239 [Zv g n cap,Zk a,Zk b,Zk k,vc] fz [(g,Zu cur.toArray t)]
  (fun _ fz' H'=>fz=fz'/\∃ cur',H'=[(g,Zu (List.toArray cur') t)]/\GrowB predicateL t fz g n cap cur' (P++(Z++(Y++(X++Q))))):=by
 have hl:=hB.len;have hcn:=hB.capn;have hmax:=hB.max;unfold maxLen at hmax;simp only [List.length_append] at hl;subst ha hb;refine zF Tryz.func239 Tryz.ntmps239 (fun w0=>?_);refine zW ?_;intros;refine Yd (fun q σ fz' H'=>∃ (i:Nat) (cur1:List Value),i<=k/\q=k - i/\σ=[(10,Zk i),(0,Zv g n cap),(1,Zk P.length),(2,Zk (P.length+k+Y.length)),(3,Zk k)]/\fz=fz'/\H'=[(g,Zu cur1.toArray t)]/\GrowB predicateL t fz g n cap cur1 (P++(Z.take i++(X.drop i++(Y++(X.take i++(Z.drop i++Q))))))) ⟨0,cur,Z0 _,rfl,rfl,rfl,rfl,by simpa using hB⟩ Zw Zb ?_;rintro q σ fz' H' ⟨i,cur1,hi,rfl,rfl,rfl,rfl,hB1⟩;refine zW ?_;intros;refine zC ?_ ?_<;>intro c1
 ·have hik:i<k:=by omega
  have eX:X.drop i=X[i]'Zi::X.drop (i+1):=List.drop_eq_getElem_cons Zi;have eZ:Z.drop i=Z[i]'Zi::Z.drop (i+1):=List.drop_eq_getElem_cons Zi;generalize X[i]'Zi=x at eX;generalize Z[i]'Zi=z at eZ;have hD:P++(Z.take i++(X.drop i++(Y++(X.take i++(Z.drop i++Q)))))=(P++Z.take i)++x::((X.drop (i+1)++(Y++X.take i))++z::(Z.drop (i+1)++Q)):=by rw [eX,eZ];simp
  rw [hD] at hB1;have lU:(P++Z.take i).length=P.length+i:=by rw [List.length_append,List.length_take];omega
  have lV:(X.drop (i+1)++(Y++X.take i)).length=k - (i+1)+(Y.length+i):=by rw [List.length_append,List.length_append,List.length_take,List.length_drop];omega
  obtain ⟨cz,hz1,hz2⟩:=Yl hB1 (Y5 (j:=P.length+k+Y.length+i) Zi);obtain ⟨cx,hx1,hx2⟩:=Yl hB1 (Xi (i:=P.length+i) Zi);have lz:=predicateL.len hz1;have lx:=predicateL.len hx1;refine zWN ?_;intros;refine Wi [4,5,6,7] [_] ?_;refine zW ?_;intros;refine PK.p Zz (fun fz'=>by first | exact Yz rfl | exact Yr Zz rfl | exact Ye rfl | exact YM Zz Zz (Yh Zi) rfl | exact Yg rfl) ?_;refine PK.p Zz (fun fz'=>by first | exact Yz rfl | exact Yr Zz rfl | exact Ye rfl | exact YM Zz Zz (Yh Zi) rfl | exact Yg rfl) ?_;refine PK.p Zz (fun fz'=>by first | exact Yz rfl | exact Yr Zz rfl | exact Ye rfl | exact YM Zz Zz (Yh Zi) rfl | exact Yg rfl) ?_;refine PK.p Zz (fun fz'=>by first | exact Yz rfl | exact Yr Zz rfl | exact Ye rfl | exact YM Zz Zz (Yh Zi) rfl | exact Yg rfl) ?_;refine zW ?_;intros;refine zG ?_;refine Yb rfl ?_;refine zG ?_;refine Ya (vs:=cz) 0 ?_ (hv:=hz2) (hs:=by exact lz.symm);refine zW ?_;intros;refine zG ?_;refine Yb rfl ?_;refine zG ?_;refine Ya (vs:=cx) 0 ?_ (hv:=hx2) (hs:=by exact lx.symm);refine zW ?_;intros;refine zG ?_;refine Yb rfl ?_;refine pT ?_;refine Yp ?_;refine PoS.hard0 (Yk (pre:=[]) (L:=predicateL) (j:=P.length+i) rfl rfl YW hz1 hB1 (fun cur2 hB2=>?_));refine Yp ?_;refine PoS.hard (DoesQ.does (Yb rfl ?_));refine Yp ?_;refine PoS.hard0 (Yk (pre:=[]) (L:=predicateL) (j:=P.length+k+Y.length+i) rfl rfl YW hx1 hB2 (fun cur3 hB3=>?_));refine Po.done ?_;rw [XG Zi Zi] at hB3;refine zW ?_;intros;exact YJ ⟨i+1,cur3,by omega,rfl,rfl,rfl,rfl,by
   rw [List.take_add_one,List.take_add_one,show X[i]?=some x from by rw [<- List.head?_drop,eX];rfl,show Z[i]?=some z from by rw [<- List.head?_drop,eZ];rfl];simpa using hB3⟩ Zi Zw Zb
 have hki:i=k:=by omega
 subst hki;rw [Zl Zi,Zl Zi,List.drop_of_length_le Zi,List.drop_of_length_le Zi] at hB1;refine zW ?_;intros;exact YP rfl Zb ⟨rfl,cur1,rfl,by simpa using hB1⟩
theorem Ydc {n cap k:Nat} {cur:List Value} {P X Y Z Q:List Function} {vc:Value} (hB:GrowB functionL t fz g n cap cur (P++(X++(Y++(Z++Q))))) (hX:X.length=k) (hZ:Z.length=k) {a b:Int} (ha:a=P.length) (hb:b=P.length+k+Y.length):
 GFn prog 240 [Zv g n cap,Zk a,Zk b,Zk k,vc] fz [(g,Zu cur.toArray t)]
  (fun _ fz' H'=>fz=fz'/\∃ cur',H'=[(g,Zu (List.toArray cur') t)]/\GrowB functionL t fz g n cap cur' (P++(Z++(Y++(X++Q))))):=by
 have hl:=hB.len;have hcn:=hB.capn;have hmax:=hB.max;unfold maxLen at hmax;simp only [List.length_append] at hl;subst ha hb;refine zF Tryz.func240 Tryz.ntmps240 (fun w0=>?_);refine zW ?_;intros;refine Yd (fun q σ fz' H'=>∃ (i:Nat) (cur1:List Value),i<=k/\q=k - i/\σ=[(10,Zk i),(0,Zv g n cap),(1,Zk P.length),(2,Zk (P.length+k+Y.length)),(3,Zk k)]/\fz=fz'/\H'=[(g,Zu cur1.toArray t)]/\GrowB functionL t fz g n cap cur1 (P++(Z.take i++(X.drop i++(Y++(X.take i++(Z.drop i++Q))))))) ⟨0,cur,Z0 _,rfl,rfl,rfl,rfl,by simpa using hB⟩ Zw Zb ?_;rintro q σ fz' H' ⟨i,cur1,hi,rfl,rfl,rfl,rfl,hB1⟩;refine zW ?_;intros;refine zC ?_ ?_<;>intro c1
 ·have hik:i<k:=by omega
  have eX:X.drop i=X[i]'Zi::X.drop (i+1):=List.drop_eq_getElem_cons Zi;have eZ:Z.drop i=Z[i]'Zi::Z.drop (i+1):=List.drop_eq_getElem_cons Zi;generalize X[i]'Zi=x at eX;generalize Z[i]'Zi=z at eZ;have hD:P++(Z.take i++(X.drop i++(Y++(X.take i++(Z.drop i++Q)))))=(P++Z.take i)++x::((X.drop (i+1)++(Y++X.take i))++z::(Z.drop (i+1)++Q)):=by rw [eX,eZ];simp
  rw [hD] at hB1;have lU:(P++Z.take i).length=P.length+i:=by rw [List.length_append,List.length_take];omega
  have lV:(X.drop (i+1)++(Y++X.take i)).length=k - (i+1)+(Y.length+i):=by rw [List.length_append,List.length_append,List.length_take,List.length_drop];omega
  obtain ⟨cz,hz1,hz2⟩:=Yl hB1 (Y5 (j:=P.length+k+Y.length+i) Zi);obtain ⟨cx,hx1,hx2⟩:=Yl hB1 (Xi (i:=P.length+i) Zi);have lz:=functionL.len hz1;have lx:=functionL.len hx1;refine zWN ?_;intros;refine Wi [4,5,6,7] [_] ?_;refine zW ?_;intros;refine PK.p Zz (fun fz'=>by first | exact Yz rfl | exact Yr Zz rfl | exact Ye rfl | exact YM Zz Zz (Yh Zi) rfl | exact Yg rfl) ?_;refine PK.p Zz (fun fz'=>by first | exact Yz rfl | exact Yr Zz rfl | exact Ye rfl | exact YM Zz Zz (Yh Zi) rfl | exact Yg rfl) ?_;refine PK.p Zz (fun fz'=>by first | exact Yz rfl | exact Yr Zz rfl | exact Ye rfl | exact YM Zz Zz (Yh Zi) rfl | exact Yg rfl) ?_;refine PK.p Zz (fun fz'=>by first | exact Yz rfl | exact Yr Zz rfl | exact Ye rfl | exact YM Zz Zz (Yh Zi) rfl | exact Yg rfl) ?_;refine zW ?_;intros;refine zG ?_;refine Yb rfl ?_;refine zG ?_;refine Ya (vs:=cz) 0 ?_ (hv:=hz2) (hs:=by exact lz.symm);refine zW ?_;intros;refine zG ?_;refine Yb rfl ?_;refine zG ?_;refine Ya (vs:=cx) 0 ?_ (hv:=hx2) (hs:=by exact lx.symm);refine zW ?_;intros;refine zG ?_;refine Yb rfl ?_;refine pT ?_;refine Yp ?_;refine PoS.hard0 (Yk (pre:=[]) (L:=functionL) (j:=P.length+i) rfl rfl Y6 hz1 hB1 (fun cur2 hB2=>?_));refine Yp ?_;refine PoS.hard (DoesQ.does (Yb rfl ?_));refine Yp ?_;refine PoS.hard0 (Yk (pre:=[]) (L:=functionL) (j:=P.length+k+Y.length+i) rfl rfl Y6 hx1 hB2 (fun cur3 hB3=>?_));refine Po.done ?_;rw [XG Zi Zi] at hB3;refine zW ?_;intros;exact YJ ⟨i+1,cur3,by omega,rfl,rfl,rfl,rfl,by
   rw [List.take_add_one,List.take_add_one,show X[i]?=some x from by rw [<- List.head?_drop,eX];rfl,show Z[i]?=some z from by rw [<- List.head?_drop,eZ];rfl];simpa using hB3⟩ Zi Zw Zb
 have hki:i=k:=by omega
 subst hki;rw [Zl Zi,Zl Zi,List.drop_of_length_le Zi,List.drop_of_length_le Zi] at hB1;refine zW ?_;intros;exact YP rfl Zb ⟨rfl,cur1,rfl,by simpa using hB1⟩
theorem Yde {n cap k:Nat} {cur:List Value} {P X Y Z Q:List Action} {vc:Value} (hB:GrowB actionL t fz g n cap cur (P++(X++(Y++(Z++Q))))) (hX:X.length=k) (hZ:Z.length=k) {a b:Int} (ha:a=P.length) (hb:b=P.length+k+Y.length):
 GFn prog 241 [Zv g n cap,Zk a,Zk b,Zk k,vc] fz [(g,Zu cur.toArray t)]
  (fun _ fz' H'=>fz=fz'/\∃ cur',H'=[(g,Zu (List.toArray cur') t)]/\GrowB actionL t fz g n cap cur' (P++(Z++(Y++(X++Q))))):=by
 have hl:=hB.len;have hcn:=hB.capn;have hmax:=hB.max;unfold maxLen at hmax;simp only [List.length_append] at hl;subst ha hb;refine zF Tryz.func241 Tryz.ntmps241 (fun w0=>?_);refine zW ?_;intros;refine Yd (fun q σ fz' H'=>∃ (i:Nat) (cur1:List Value),i<=k/\q=k - i/\σ=[(10,Zk i),(0,Zv g n cap),(1,Zk P.length),(2,Zk (P.length+k+Y.length)),(3,Zk k)]/\fz=fz'/\H'=[(g,Zu cur1.toArray t)]/\GrowB actionL t fz g n cap cur1 (P++(Z.take i++(X.drop i++(Y++(X.take i++(Z.drop i++Q))))))) ⟨0,cur,Z0 _,rfl,rfl,rfl,rfl,by simpa using hB⟩ Zw Zb ?_;rintro q σ fz' H' ⟨i,cur1,hi,rfl,rfl,rfl,rfl,hB1⟩;refine zW ?_;intros;refine zC ?_ ?_<;>intro c1
 ·have hik:i<k:=by omega
  have eX:X.drop i=X[i]'Zi::X.drop (i+1):=List.drop_eq_getElem_cons Zi;have eZ:Z.drop i=Z[i]'Zi::Z.drop (i+1):=List.drop_eq_getElem_cons Zi;generalize X[i]'Zi=x at eX;generalize Z[i]'Zi=z at eZ;have hD:P++(Z.take i++(X.drop i++(Y++(X.take i++(Z.drop i++Q)))))=(P++Z.take i)++x::((X.drop (i+1)++(Y++X.take i))++z::(Z.drop (i+1)++Q)):=by rw [eX,eZ];simp
  rw [hD] at hB1;have lU:(P++Z.take i).length=P.length+i:=by rw [List.length_append,List.length_take];omega
  have lV:(X.drop (i+1)++(Y++X.take i)).length=k - (i+1)+(Y.length+i):=by rw [List.length_append,List.length_append,List.length_take,List.length_drop];omega
  obtain ⟨cz,hz1,hz2⟩:=Yl hB1 (Y5 (j:=P.length+k+Y.length+i) Zi);obtain ⟨cx,hx1,hx2⟩:=Yl hB1 (Xi (i:=P.length+i) Zi);have lz:=actionL.len hz1;have lx:=actionL.len hx1;refine zWN ?_;intros;refine Wi [4,5,6,7] [_] ?_;refine zW ?_;intros;refine PK.p Zz (fun fz'=>by first | exact Yz rfl | exact Yr Zz rfl | exact Ye rfl | exact YM Zz Zz (Yh Zi) rfl | exact Yg rfl) ?_;refine PK.p Zz (fun fz'=>by first | exact Yz rfl | exact Yr Zz rfl | exact Ye rfl | exact YM Zz Zz (Yh Zi) rfl | exact Yg rfl) ?_;refine PK.p Zz (fun fz'=>by first | exact Yz rfl | exact Yr Zz rfl | exact Ye rfl | exact YM Zz Zz (Yh Zi) rfl | exact Yg rfl) ?_;refine PK.p Zz (fun fz'=>by first | exact Yz rfl | exact Yr Zz rfl | exact Ye rfl | exact YM Zz Zz (Yh Zi) rfl | exact Yg rfl) ?_;refine zW ?_;intros;refine zG ?_;refine Yb rfl ?_;refine zG ?_;refine Ya (vs:=cz) 0 ?_ (hv:=hz2) (hs:=by exact lz.symm);refine zW ?_;intros;refine zG ?_;refine Yb rfl ?_;refine zG ?_;refine Ya (vs:=cx) 0 ?_ (hv:=hx2) (hs:=by exact lx.symm);refine zW ?_;intros;refine zG ?_;refine Yb rfl ?_;refine pT ?_;refine Yp ?_;refine PoS.hard0 (Yk (pre:=[]) (L:=actionL) (j:=P.length+i) rfl rfl Xw hz1 hB1 (fun cur2 hB2=>?_));refine Yp ?_;refine PoS.hard (DoesQ.does (Yb rfl ?_));refine Yp ?_;refine PoS.hard0 (Yk (pre:=[]) (L:=actionL) (j:=P.length+k+Y.length+i) rfl rfl Xw hx1 hB2 (fun cur3 hB3=>?_));refine Po.done ?_;rw [XG Zi Zi] at hB3;refine zW ?_;intros;exact YJ ⟨i+1,cur3,by omega,rfl,rfl,rfl,rfl,by
   rw [List.take_add_one,List.take_add_one,show X[i]?=some x from by rw [<- List.head?_drop,eX];rfl,show Z[i]?=some z from by rw [<- List.head?_drop,eZ];rfl];simpa using hB3⟩ Zi Zw Zb
 have hki:i=k:=by omega
 subst hki;rw [Zl Zi,Zl Zi,List.drop_of_length_le Zi,List.drop_of_length_le Zi] at hB1;refine zW ?_;intros;exact YP rfl Zb ⟨rfl,cur1,rfl,by simpa using hB1⟩
theorem Ydd {n cap k:Nat} {cur:List Value} {P X Y Z Q:List Durative} {vc:Value} (hB:GrowB durativeL t fz g n cap cur (P++(X++(Y++(Z++Q))))) (hX:X.length=k) (hZ:Z.length=k) {a b:Int} (ha:a=P.length) (hb:b=P.length+k+Y.length):
 GFn prog 242 [Zv g n cap,Zk a,Zk b,Zk k,vc] fz [(g,Zu cur.toArray t)]
  (fun _ fz' H'=>fz=fz'/\∃ cur',H'=[(g,Zu (List.toArray cur') t)]/\GrowB durativeL t fz g n cap cur' (P++(Z++(Y++(X++Q))))):=by
 have hl:=hB.len;have hcn:=hB.capn;have hmax:=hB.max;unfold maxLen at hmax;simp only [List.length_append] at hl;subst ha hb;refine zF Tryz.func242 Tryz.ntmps242 (fun w0=>?_);refine zW ?_;intros;refine Yd (fun q σ fz' H'=>∃ (i:Nat) (cur1:List Value),i<=k/\q=k - i/\σ=[(10,Zk i),(0,Zv g n cap),(1,Zk P.length),(2,Zk (P.length+k+Y.length)),(3,Zk k)]/\fz=fz'/\H'=[(g,Zu cur1.toArray t)]/\GrowB durativeL t fz g n cap cur1 (P++(Z.take i++(X.drop i++(Y++(X.take i++(Z.drop i++Q))))))) ⟨0,cur,Z0 _,rfl,rfl,rfl,rfl,by simpa using hB⟩ Zw Zb ?_;rintro q σ fz' H' ⟨i,cur1,hi,rfl,rfl,rfl,rfl,hB1⟩;refine zW ?_;intros;refine zC ?_ ?_<;>intro c1
 ·have hik:i<k:=by omega
  have eX:X.drop i=X[i]'Zi::X.drop (i+1):=List.drop_eq_getElem_cons Zi;have eZ:Z.drop i=Z[i]'Zi::Z.drop (i+1):=List.drop_eq_getElem_cons Zi;generalize X[i]'Zi=x at eX;generalize Z[i]'Zi=z at eZ;have hD:P++(Z.take i++(X.drop i++(Y++(X.take i++(Z.drop i++Q)))))=(P++Z.take i)++x::((X.drop (i+1)++(Y++X.take i))++z::(Z.drop (i+1)++Q)):=by rw [eX,eZ];simp
  rw [hD] at hB1;have lU:(P++Z.take i).length=P.length+i:=by rw [List.length_append,List.length_take];omega
  have lV:(X.drop (i+1)++(Y++X.take i)).length=k - (i+1)+(Y.length+i):=by rw [List.length_append,List.length_append,List.length_take,List.length_drop];omega
  obtain ⟨cz,hz1,hz2⟩:=Yl hB1 (Y5 (j:=P.length+k+Y.length+i) Zi);obtain ⟨cx,hx1,hx2⟩:=Yl hB1 (Xi (i:=P.length+i) Zi);have lz:=durativeL.len hz1;have lx:=durativeL.len hx1;refine zWN ?_;intros;refine Wi [4,5,6,7] [_] ?_;refine zW ?_;intros;refine PK.p Zz (fun fz'=>by first | exact Yz rfl | exact Yr Zz rfl | exact Ye rfl | exact YM Zz Zz (Yh Zi) rfl | exact Yg rfl) ?_;refine PK.p Zz (fun fz'=>by first | exact Yz rfl | exact Yr Zz rfl | exact Ye rfl | exact YM Zz Zz (Yh Zi) rfl | exact Yg rfl) ?_;refine PK.p Zz (fun fz'=>by first | exact Yz rfl | exact Yr Zz rfl | exact Ye rfl | exact YM Zz Zz (Yh Zi) rfl | exact Yg rfl) ?_;refine PK.p Zz (fun fz'=>by first | exact Yz rfl | exact Yr Zz rfl | exact Ye rfl | exact YM Zz Zz (Yh Zi) rfl | exact Yg rfl) ?_;refine zW ?_;intros;refine zG ?_;refine Yb rfl ?_;refine zG ?_;refine Ya (vs:=cz) 0 ?_ (hv:=hz2) (hs:=by exact lz.symm);refine zW ?_;intros;refine zG ?_;refine Yb rfl ?_;refine zG ?_;refine Ya (vs:=cx) 0 ?_ (hv:=hx2) (hs:=by exact lx.symm);refine zW ?_;intros;refine zG ?_;refine Yb rfl ?_;refine pT ?_;refine Yp ?_;refine PoS.hard0 (Yk (pre:=[]) (L:=durativeL) (j:=P.length+i) rfl rfl Y7 hz1 hB1 (fun cur2 hB2=>?_));refine Yp ?_;refine PoS.hard (DoesQ.does (Yb rfl ?_));refine Yp ?_;refine PoS.hard0 (Yk (pre:=[]) (L:=durativeL) (j:=P.length+k+Y.length+i) rfl rfl Y7 hx1 hB2 (fun cur3 hB3=>?_));refine Po.done ?_;rw [XG Zi Zi] at hB3;refine zW ?_;intros;exact YJ ⟨i+1,cur3,by omega,rfl,rfl,rfl,rfl,by
   rw [List.take_add_one,List.take_add_one,show X[i]?=some x from by rw [<- List.head?_drop,eX];rfl,show Z[i]?=some z from by rw [<- List.head?_drop,eZ];rfl];simpa using hB3⟩ Zi Zw Zb
 have hki:i=k:=by omega
 subst hki;rw [Zl Zi,Zl Zi,List.drop_of_length_le Zi,List.drop_of_length_le Zi] at hB1;refine zW ?_;intros;exact YP rfl Zb ⟨rfl,cur1,rfl,by simpa using hB1⟩
theorem Yc9 {n cap k:Nat} {cur:List Value} {P X Y Z Q:List Value_} {vc:Value} (hB:GrowB valueL t fz g n cap cur (P++(X++(Y++(Z++Q))))) (hX:X.length=k) (hZ:Z.length=k) {a b:Int} (ha:a=P.length) (hb:b=P.length+k+Y.length):
 GFn prog 248 [Zv g n cap,Zk a,Zk b,Zk k,vc] fz [(g,Zu cur.toArray t)]
  (fun _ fz' H'=>fz=fz'/\∃ cur',H'=[(g,Zu (List.toArray cur') t)]/\GrowB valueL t fz g n cap cur' (P++(Z++(Y++(X++Q))))):=by
 have hl:=hB.len;have hcn:=hB.capn;have hmax:=hB.max;unfold maxLen at hmax;simp only [List.length_append] at hl;subst ha hb;refine zF Tryz.func248 Tryz.ntmps248 (fun w0=>?_);refine zW ?_;intros;refine Yd (fun q σ fz' H'=>∃ (i:Nat) (cur1:List Value),i<=k/\q=k - i/\σ=[(10,Zk i),(0,Zv g n cap),(1,Zk P.length),(2,Zk (P.length+k+Y.length)),(3,Zk k)]/\fz=fz'/\H'=[(g,Zu cur1.toArray t)]/\GrowB valueL t fz g n cap cur1 (P++(Z.take i++(X.drop i++(Y++(X.take i++(Z.drop i++Q))))))) ⟨0,cur,Z0 _,rfl,rfl,rfl,rfl,by simpa using hB⟩ Zw Zb ?_;rintro q σ fz' H' ⟨i,cur1,hi,rfl,rfl,rfl,rfl,hB1⟩;refine zW ?_;intros;refine zC ?_ ?_<;>intro c1
 ·have hik:i<k:=by omega
  have eX:X.drop i=X[i]'Zi::X.drop (i+1):=List.drop_eq_getElem_cons Zi;have eZ:Z.drop i=Z[i]'Zi::Z.drop (i+1):=List.drop_eq_getElem_cons Zi;generalize X[i]'Zi=x at eX;generalize Z[i]'Zi=z at eZ;have hD:P++(Z.take i++(X.drop i++(Y++(X.take i++(Z.drop i++Q)))))=(P++Z.take i)++x::((X.drop (i+1)++(Y++X.take i))++z::(Z.drop (i+1)++Q)):=by rw [eX,eZ];simp
  rw [hD] at hB1;have lU:(P++Z.take i).length=P.length+i:=by rw [List.length_append,List.length_take];omega
  have lV:(X.drop (i+1)++(Y++X.take i)).length=k - (i+1)+(Y.length+i):=by rw [List.length_append,List.length_append,List.length_take,List.length_drop];omega
  obtain ⟨cz,hz1,hz2⟩:=Yl hB1 (Y5 (j:=P.length+k+Y.length+i) Zi);obtain ⟨cx,hx1,hx2⟩:=Yl hB1 (Xi (i:=P.length+i) Zi);have lz:=valueL.len hz1;have lx:=valueL.len hx1;refine zWN ?_;intros;refine Wi [4,5,6,7] [_] ?_;refine zW ?_;intros;refine PK.p Zz (fun fz'=>by first | exact Yz rfl | exact Yr Zz rfl | exact Ye rfl | exact YM Zz Zz (Yh Zi) rfl | exact Yg rfl) ?_;refine PK.p Zz (fun fz'=>by first | exact Yz rfl | exact Yr Zz rfl | exact Ye rfl | exact YM Zz Zz (Yh Zi) rfl | exact Yg rfl) ?_;refine PK.p Zz (fun fz'=>by first | exact Yz rfl | exact Yr Zz rfl | exact Ye rfl | exact YM Zz Zz (Yh Zi) rfl | exact Yg rfl) ?_;refine PK.p Zz (fun fz'=>by first | exact Yz rfl | exact Yr Zz rfl | exact Ye rfl | exact YM Zz Zz (Yh Zi) rfl | exact Yg rfl) ?_;refine zW ?_;intros;refine zG ?_;refine Yb rfl ?_;refine zG ?_;refine Ya (vs:=cz) 0 ?_ (hv:=hz2) (hs:=by exact lz.symm);refine zW ?_;intros;refine zG ?_;refine Yb rfl ?_;refine zG ?_;refine Ya (vs:=cx) 0 ?_ (hv:=hx2) (hs:=by exact lx.symm);refine zW ?_;intros;refine zG ?_;refine Yb rfl ?_;refine pT ?_;refine Yp ?_;refine PoS.hard0 (Yk (pre:=[]) (L:=valueL) (j:=P.length+i) rfl rfl Xs hz1 hB1 (fun cur2 hB2=>?_));refine Yp ?_;refine PoS.hard (DoesQ.does (Yb rfl ?_));refine Yp ?_;refine PoS.hard0 (Yk (pre:=[]) (L:=valueL) (j:=P.length+k+Y.length+i) rfl rfl Xs hx1 hB2 (fun cur3 hB3=>?_));refine Po.done ?_;rw [XG Zi Zi] at hB3;refine zW ?_;intros;exact YJ ⟨i+1,cur3,by omega,rfl,rfl,rfl,rfl,by
   rw [List.take_add_one,List.take_add_one,show X[i]?=some x from by rw [<- List.head?_drop,eX];rfl,show Z[i]?=some z from by rw [<- List.head?_drop,eZ];rfl];simpa using hB3⟩ Zi Zw Zb
 have hki:i=k:=by omega
 subst hki;rw [Zl Zi,Zl Zi,List.drop_of_length_le Zi,List.drop_of_length_le Zi] at hB1;refine zW ?_;intros;exact YP rfl Zb ⟨rfl,cur1,rfl,by simpa using hB1⟩
end Go.Proofs.YtaaanbkahfeknaaGreatDoor
