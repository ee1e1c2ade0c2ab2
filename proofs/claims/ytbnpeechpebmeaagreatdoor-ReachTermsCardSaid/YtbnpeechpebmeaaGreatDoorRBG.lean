/- The texts PWalkF, PBytes, PWalkG, PWalkH, PWalkI, PWalkJ, laid together. Conditions: none. -/
import Derived.Test.YtbnpeechpebmeaaGreatDoorRBF
import Derived.Laws.StructEq
import Derived.Tactics
import Derived.Laws.StandIn
import Derived.Lib.Bytealg
import Derived.Lib.ConvBytes
import Derived.Laws.BytesArg
set_option linter.all false
noncomputable section
set_option maxRecDepth 20000
namespace Go.Proofs.YtbnpeechpebmeaaGreatDoor
open Go.Lx Go.RowKit
attribute [local instance 10] Classical.propDecidable
open Go.Proofs.Tryz (prog)
def kOr:Bs:=⟨#[111,114]⟩
def kNot:Bs:=⟨#[110,111,116]⟩
def kImply:Bs:=⟨#[105,109,112,108,121]⟩
def YaU (f:Formula):Option (Nat × Bool × Nat):=
 if f.op=kAtom∨f.op=kSame then some (0,false,0) else if CmpOp f.op then some (2,false,0) else if f.op=kAnd∨f.op=kOr then some (0,false,f.kids.length) else if f.op=kNot then some (0,false,1)
 else if f.op=kImply then some (0,false,2) else if f.op=kForall∨f.op=kExists then some (0,true,1) else none
def fhead (f:Formula):Prop:=(f.op=kAtom→Xk f.name)∧(f.op=kSame→f.name=WY∧f.args.length=2)∧(f.op=kAtom∨f.op=kSame→∀ s∈f.args,YdA s)
def frest (f:Formula) (k:Nat × Bool × Nat):Prop:=(f.op≠kAtom→f.op≠kSame→f.name=WY∧f.args=[])∧f.exprs.length=k.1∧f.kids.length=k.2.2∧(k.2.1=false→f.params=[])
def YmI (f:Formula):Prop:=fhead f∧(∃ k,YaU f=some k∧frest f k)∧∀ p∈f.params,VarP p.name∧YcZ p.typ
abbrev FOk (f:Formula):Prop:=FAll YmI Ye8 f
def FBud (g:Nat) (f:Formula) (d c:Nat) (v:Value) (H':HP):Prop:=
 ∃ (b:Bool) (c':Int),v=.bool b∧H'=[(g,budO c')]∧(b=true→c'=((c+fcount f:Nat):Int))∧(b=true↔FOk f∧d+fdepth f≤33∧c+fcount f≤4096)
variable {c g:Nat} {f:Formula}
theorem Ygv {d:Nat} {c':Int} (h:¬(FOk f∧d+fdepth f≤33∧c+fcount f≤4096)):FBud g f d c (.bool false) [(g,budO c')]:=⟨false,c',rfl,rfl,(by simp),iff_of_false (by simp) h⟩
variable {n:Nat}
theorem W6 {α:Type} {l:List α} (h:l.length=n):(0:Int)<(n:Int)↔l≠ []:=by
 constructor
 ·intro h0 h1;subst h1;simp at h;omega
 ·intro h0;have:=List.length_pos_iff.2 h0;omega
set_option maxHeartbeats 4000000 in
theorem Yi4:∀ (s:Nat) {fz:FZ} {f:Formula} {va vp ve vk:Value} {g d c:Nat},SizeOf.sizeOf f≤s→FormulaR fz f va vp ve vk→d≤33→c≤4096→
 GFn prog 139 [.agg #[.string f.op,.string f.name,va,vp,ve,vk],.int .i64 d,.pointer (some ⟨g,0,none⟩)] fz [(g,budO c)] (fun v fz' H'=>Le fz fz'∧FBud g f d c v H')
 | 0,_,e,_,_,_,_,_,_,_,hs,_,_,_=>by cases e;simp at hs
 | s+1,fz,f,va,vp,ve,vk,g,d,c,hs,h,hd,hc=>by
  obtain ⟨A,n,ca,rfl,ha⟩:=h.args
  obtain ⟨B,m,cb,rfl,hp⟩:=h.params
  obtain ⟨C,r,cr,rfl,he⟩:=h.exprs
  obtain ⟨D,q,cq,rfl,hk⟩:=h.kids
  have no:∀ {c':Int},¬YmI f→FBud g f d c (.bool false) [(g,budO c')]:=fun h0=>Ygv (fun h1=>h0 (Wv.1 h1.1).1)
  refine zF Tryz.func139 Tryz.ntmps139 (fun w0=>?_)
  refine Yp (Yq (Yb Zz (Y3 _ Zz Zz (fun g0=>?_))))
  first | refine Wp.perm (List.Perm.swap _ _ _) ?_ | refine Seq.perm (List.Perm.swap _ _ _) ?_
  refine zW ?_;intros
  refine Yb Zz (Yl [_] [_] Zz Zz Zz (take_q Zi) (fun v fz2 H2 hle2 hR=>?_))
  obtain ⟨hle3,rfl,b,rfl,hb⟩:=hR
  cases b
  ·refine zW ?_;intros
   (exact ret1 rfl rfl Zb ⟨hle2,Ygv (fun h0=>by
    have h1:=YeV f
    have h2:=YeU f
    exact absurd (hb.2 ⟨by omega,by omega⟩) (by simp))⟩)
  ·have ht:=hb.1 rfl
   refine zWO ?_;intros
   refine Wp.cond_false Zz ?_
   refine Ya3 ?_
   refine Yck ?_
   refine Yp (Yq ?_)
   refine zWO ?_;intros
   refine Yp (Wp.mid (fun σ fz' H'=>∃ (ex:Nat) (pa:Bool) (mn:Nat),σ=[(9,.int .i64 mn),(8,.bool pa),(7,.int .i64 ex),(3,.pointer (some ⟨g0,0,none⟩)),(2,.pointer (some ⟨g,0,none⟩)),(1,.int .i64 d)]∧fz2=fz'∧
    H'=[(g,budO (c+1:Nat)),(g0,.cells #[.string f.op,.string f.name,.slice A n ca,.slice B m cb,.slice C r cr,.slice D q cq] 29 (0,0))]∧fhead f∧YaU f=some (ex,pa,mn)) ?_ ?_)
   ·refine zW ?_;intros
    refine zC (fun x1=>?_) (fun y1=>?_)
    ·have y2:¬f.op=⟨#[115,97,109,101]⟩:=fun h0=>absurd (congrArg (fun s=>Yap s 0) (x1.symm.trans h0)) Zh
     refine zW ?_;intros
     refine zb (Yah h.name) (fun f1=>?_) (fun f1=>?_)
     ·refine zW ?_;intros
      ((refine zG ?_);refine XY Zz Zz (YbE (ha.mono hle2) (fun x hx=>YgZ hx)) (fun f2=>?_) (fun f2=>?_))
      ·refine zW ?_;intros
       (exact ret1 rfl rfl Zb ⟨hle2,no (fun h0=>by
        obtain ⟨x,hx,hx2⟩:=Zt f2
        exact hx2 (h0.1.2.2 (.inl x1) x hx))⟩)
      ·refine zW ?_;intros
       exact midN ⟨0,false,0,rfl,rfl,rfl,⟨fun _=>Zt f1,fun h0=>absurd h0 y2,fun _ x hx=>Classical.byContradiction fun h0=>Zf f2 ⟨x,hx,h0⟩⟩,if_pos (.inl x1)⟩ Zw Zb
     ·refine zW ?_;intros
      exact ret1 rfl rfl Zb ⟨hle2,no (fun h0=>Zf f1 (h0.1.1 x1))⟩
    ·refine zW ?_;intros
     refine zC (fun x2=>?_) (fun y2=>?_)
     ·refine zW ?_;intros
      refine zC (fun n1=>?_) (fun n1=>?_)
      ·refine zW ?_;intros
       exact ret1 rfl rfl Zb ⟨hle2,no (fun h0=>n1 (h0.1.2.1 x2).1)⟩
      ·refine zW ?_;intros
       refine zC (fun n2=>?_) (fun n2=>?_)
       ·refine zW ?_;intros
        exact ret1 rfl rfl Zb ⟨hle2,no (fun h0=>n2 (by have:=(h0.1.2.1 x2).2;have:=ha.len;omega))⟩
       ·refine zW ?_;intros
        ((refine zG ?_);refine XY Zz Zz (YbE (ha.mono hle2) (fun x hx=>YgZ hx)) (fun f2=>?_) (fun f2=>?_))
        ·refine zW ?_;intros
         (exact ret1 rfl rfl Zb ⟨hle2,no (fun h0=>by
          obtain ⟨x,hx,hx2⟩:=Zt f2
          exact hx2 (h0.1.2.2 (.inr x2) x hx))⟩)
        ·refine zW ?_;intros
         exact midN ⟨0,false,0,rfl,rfl,rfl,⟨fun h0=>absurd h0 y1,fun _=>⟨n1,by have:=ha.len;omega⟩,fun _ x hx=>Classical.byContradiction fun h0=>Zf f2 ⟨x,hx,h0⟩⟩,if_pos (.inr x2)⟩ Zw Zb
     ·have hh:fhead f:=⟨fun h0=>absurd h0 y1,fun h0=>absurd h0 y2,fun h0=>(h0.elim y1 y2).elim⟩
      have k0:¬(f.op=kAtom∨f.op=kSame):=fun h0=>h0.elim y1 y2
      refine zW ?_;intros
      refine zC (fun x3=>?_) (fun y3=>?_)
      ·refine zW ?_;intros
       exact midN ⟨2,false,0,rfl,rfl,rfl,hh,(if_neg k0).trans (if_pos (.inl x3))⟩ Zw Zb
      ·refine zW ?_;intros
       refine zC (fun x4=>?_) (fun y4=>?_)
       ·refine zW ?_;intros
        exact midN ⟨2,false,0,rfl,rfl,rfl,hh,(if_neg k0).trans (if_pos (.inr (.inl x4)))⟩ Zw Zb
       ·refine zW ?_;intros
        refine zC (fun x5=>?_) (fun y5=>?_)
        ·refine zW ?_;intros
         exact midN ⟨2,false,0,rfl,rfl,rfl,hh,(if_neg k0).trans (if_pos (.inr (.inr x5)))⟩ Zw Zb
        ·have k1:¬CmpOp f.op:=fun h0=>h0.elim y3 (fun h0=>h0.elim y4 y5)
         refine zW ?_;intros
         refine zC (fun x6=>?_) (fun y6=>?_)
         ·refine zW ?_;intros
          exact midN ⟨0,false,q,rfl,rfl,rfl,hh,(if_neg k0).trans ((if_neg k1).trans ((if_pos (.inl x6)).trans (by rw [hk.len])))⟩ Zw Zb
         ·refine zW ?_;intros
          refine zC (fun x7=>?_) (fun y7=>?_)
          ·refine zW ?_;intros
           exact midN ⟨0,false,q,rfl,rfl,rfl,hh,(if_neg k0).trans ((if_neg k1).trans ((if_pos (.inr x7)).trans (by rw [hk.len])))⟩ Zw Zb
          ·have k2:¬(f.op=kAnd∨f.op=kOr):=fun h0=>h0.elim y6 y7
           refine zW ?_;intros
           refine zC (fun x8=>?_) (fun y8=>?_)
           ·refine zW ?_;intros
            exact midN ⟨0,false,1,rfl,rfl,rfl,hh,(if_neg k0).trans ((if_neg k1).trans ((if_neg k2).trans (if_pos x8)))⟩ Zw Zb
           ·refine zW ?_;intros
            refine zC (fun x9=>?_) (fun y9=>?_)
            ·refine zW ?_;intros
             exact midN ⟨0,false,2,rfl,rfl,rfl,hh,(if_neg k0).trans ((if_neg k1).trans ((if_neg k2).trans ((if_neg y8).trans (if_pos x9))))⟩ Zw Zb
            ·refine zW ?_;intros
             refine zC (fun z1=>?_) (fun z1=>?_)
             ·refine zW ?_;intros
              exact midN ⟨0,true,1,rfl,rfl,rfl,hh,(if_neg k0).trans ((if_neg k1).trans ((if_neg k2).trans ((if_neg y8).trans ((if_neg y9).trans (if_pos (.inl z1))))))⟩ Zw Zb
             ·refine zW ?_;intros
              refine zC (fun z2=>?_) (fun z2=>?_)
              ·refine zW ?_;intros
               exact midN ⟨0,true,1,rfl,rfl,rfl,hh,(if_neg k0).trans ((if_neg k1).trans ((if_neg k2).trans ((if_neg y8).trans ((if_neg y9).trans (if_pos (.inr z2))))))⟩ Zw Zb
              ·have k3:YaU f=none:=(if_neg k0).trans ((if_neg k1).trans ((if_neg k2).trans ((if_neg y8).trans ((if_neg y9).trans (if_neg (fun h0=>h0.elim z1 z2))))))
               refine zW ?_;intros
               exact ret1 rfl rfl Zb ⟨hle2,no (fun h0=>by obtain ⟨_,⟨k,h1,_⟩,_⟩:=h0;rw [k3] at h1;cases h1)⟩
   ·rintro σ fz' H' ⟨ex,pa,mn,rfl,rfl,rfl,hh,hkind⟩
    have no2:YmI f→¬¬frest f (ex,pa,mn):=fun h0 h1=>by
     obtain ⟨_,⟨k,h2,h3⟩,_⟩:=h0
     rw [hkind] at h2
     cases h2
     exact h1 h3
    refine Yp (Wp.mid (fun σ fz' H'=>σ=[(3,.pointer (some ⟨g0,0,none⟩)),(2,.pointer (some ⟨g,0,none⟩)),(1,.int .i64 d)]∧fz2=fz'∧
     H'=[(g,budO (c+1:Nat)),(g0,.cells #[.string f.op,.string f.name,.slice A n ca,.slice B m cb,.slice C r cr,.slice D q cq] 29 (0,0))]∧frest f (ex,pa,mn)) ?_ ?_)
    ·refine zW ?_;intros
     refine zC (fun x1=>?_) (fun x1=>?_)
     ·refine zW ?_;intros
      refine zC (fun x2=>?_) (fun x2=>?_)
      ·refine zW ?_;intros
       refine zC (fun x3=>?_) (fun x3=>?_)
       ·refine zW ?_;intros
        exact ret1 rfl rfl Zb ⟨hle2,no (fun h0=>no2 h0 (fun h1=>x3 (h1.1 x1 x2).1))⟩
       ·refine zW ?_;intros
        refine zC (fun x4=>?_) (fun x4=>?_)
        ·refine zW ?_;intros
         exact ret1 rfl rfl Zb ⟨hle2,no (fun h0=>no2 h0 (fun h1=>(W6 ha.len).1 x4 (h1.1 x1 x2).2))⟩
        ·refine zW ?_;intros
         refine zC (fun w1=>?_) (fun w1=>?_)
         ·refine zW ?_;intros
          exact ret1 rfl rfl Zb ⟨hle2,no (fun h0=>no2 h0 (fun h1=>w1 (by have:=h1.2.1;have:=he.len;simp only at*;omega)))⟩
         ·refine zW ?_;intros
          refine zC (fun w2=>?_) (fun w2=>?_)
          ·refine zW ?_;intros
           exact ret1 rfl rfl Zb ⟨hle2,no (fun h0=>no2 h0 (fun h1=>w2 (by have:=h1.2.2.1;have:=hk.len;simp only at*;omega)))⟩
          ·refine zW ?_;intros
           refine zC (fun w3=>?_) (fun w3=>?_)
           ·cases pa
            ·refine zW ?_;intros
             exact ret1 rfl rfl Zb ⟨hle2,no (fun h0=>no2 h0 (fun h1=>(W6 hp.len).1 w3 (h1.2.2.2 rfl)))⟩
            ·refine zW ?_;intros
             exact midN ⟨rfl,rfl,rfl,fun _ _=>⟨x3,Classical.byContradiction fun h1=>x4 ((W6 ha.len).2 h1)⟩,by have:=he.len;simp only;omega,by have:=hk.len;simp only;omega,fun h0=>by cases h0⟩ Zw Zb
           ·refine zW ?_;intros
            exact midN ⟨rfl,rfl,rfl,fun _ _=>⟨x3,Classical.byContradiction fun h1=>x4 ((W6 ha.len).2 h1)⟩,by have:=he.len;simp only;omega,by have:=hk.len;simp only;omega,fun _=>Classical.byContradiction fun h1=>w3 ((W6 hp.len).2 h1)⟩ Zw Zb
      ·refine zW ?_;intros
       refine zC (fun w1=>?_) (fun w1=>?_)
       ·refine zW ?_;intros
        exact ret1 rfl rfl Zb ⟨hle2,no (fun h0=>no2 h0 (fun h1=>w1 (by have:=h1.2.1;have:=he.len;simp only at*;omega)))⟩
       ·refine zW ?_;intros
        refine zC (fun w2=>?_) (fun w2=>?_)
        ·refine zW ?_;intros
         exact ret1 rfl rfl Zb ⟨hle2,no (fun h0=>no2 h0 (fun h1=>w2 (by have:=h1.2.2.1;have:=hk.len;simp only at*;omega)))⟩
        ·refine zW ?_;intros
         refine zC (fun w3=>?_) (fun w3=>?_)
         ·cases pa
          ·refine zW ?_;intros
           exact ret1 rfl rfl Zb ⟨hle2,no (fun h0=>no2 h0 (fun h1=>(W6 hp.len).1 w3 (h1.2.2.2 rfl)))⟩
          ·refine zW ?_;intros
           exact midN ⟨rfl,rfl,rfl,fun _ h0=>absurd x2 h0,by have:=he.len;simp only;omega,by have:=hk.len;simp only;omega,fun h0=>by cases h0⟩ Zw Zb
         ·refine zW ?_;intros
          exact midN ⟨rfl,rfl,rfl,fun _ h0=>absurd x2 h0,by have:=he.len;simp only;omega,by have:=hk.len;simp only;omega,fun _=>Classical.byContradiction fun h1=>w3 ((W6 hp.len).2 h1)⟩ Zw Zb
     ·refine zW ?_;intros
      refine zC (fun w1=>?_) (fun w1=>?_)
      ·refine zW ?_;intros
       exact ret1 rfl rfl Zb ⟨hle2,no (fun h0=>no2 h0 (fun h1=>w1 (by have:=h1.2.1;have:=he.len;simp only at*;omega)))⟩
      ·refine zW ?_;intros
       refine zC (fun w2=>?_) (fun w2=>?_)
       ·refine zW ?_;intros
        exact ret1 rfl rfl Zb ⟨hle2,no (fun h0=>no2 h0 (fun h1=>w2 (by have:=h1.2.2.1;have:=hk.len;simp only at*;omega)))⟩
       ·refine zW ?_;intros
        refine zC (fun w3=>?_) (fun w3=>?_)
        ·cases pa
         ·refine zW ?_;intros
          exact ret1 rfl rfl Zb ⟨hle2,no (fun h0=>no2 h0 (fun h1=>(W6 hp.len).1 w3 (h1.2.2.2 rfl)))⟩
         ·refine zW ?_;intros
          exact midN ⟨rfl,rfl,rfl,fun h0=>absurd x1 h0,by have:=he.len;simp only;omega,by have:=hk.len;simp only;omega,fun h0=>by cases h0⟩ Zw Zb
        ·refine zW ?_;intros
         exact midN ⟨rfl,rfl,rfl,fun h0=>absurd x1 h0,by have:=he.len;simp only;omega,by have:=hk.len;simp only;omega,fun _=>Classical.byContradiction fun h1=>w3 ((W6 hp.len).2 h1)⟩ Zw Zb
    ·rintro σ fz' H' ⟨rfl,rfl,rfl,hrest⟩
     have hE:=YeV f
     have hD:=YeU f
     have hp2:=hp.mono hle2
     refine zW ?_;intros
     refine Yk (fun mm σ fz' H'=>∃ k:Nat,k≤m∧mm=m - k∧σ=[(118,.int .i64 k),(117,.int .i64 m),(116,.slice B m cb),(3,.pointer (some ⟨g0,0,none⟩)),(2,.pointer (some ⟨g,0,none⟩)),(1,.int .i64 d)]∧fz2=fz'∧H'=[(g,budO (c+1:Nat)),(g0,.cells #[.string f.op,.string f.name,.slice A n ca,.slice B m cb,.slice C r cr,.slice D q cq] 29 (0,0))]∧(∀ i,i<k→∀ x,f.params[i]?=some x→VarP x.name∧YcZ x.typ)) ⟨0,Z0 _,rfl,rfl,rfl,rfl,fun i hi=>absurd hi Zi⟩ Zw Zb ?_
     rintro _ σ fz' H' ⟨k,hkm,rfl,rfl,rfl,rfl,hh1⟩
     have lp:=hp.len
     have sp:=hp.short
     refine zW ?_;intros
     refine zC (fun c1=>?_) (fun c1=>?_)
     ·obtain ⟨x,hx⟩:=Yg (l:=f.params) (k:=k) Zi
      have bad:¬(VarP x.name∧YcZ x.typ)→¬YmI f:=fun h1 h0=>h1 (h0.2.2 x (Zm hx))
      refine zW ?_;intros
      refine zI hp2 hx (fun p1 hp1=>?_)
      refine zL hp1 ?_
      intro cs hcs
      obtain ⟨rfl,hRx⟩:=YT hcs
      refine zW ?_;intros
      refine zb (YbX hRx.name) (fun f1=>?_) (fun f1=>?_)
      ·refine zW ?_;intros
       refine zb (typed_q hRx.typ) (fun f2=>?_) (fun f2=>?_)
       ·refine zW ?_;intros
        exact YA ⟨k+1,by omega,rfl,rfl,rfl,rfl,YO hh1 hx ⟨Zt f1,Zt f2⟩⟩ Zi Zw Zb
       ·refine zW ?_;intros
        exact ret1 rfl rfl Zb ⟨hle2,no (bad (fun h1=>Zf f2 h1.2))⟩
      ·refine zW ?_;intros
       exact ret1 rfl rfl Zb ⟨hle2,no (bad (fun h1=>Zf f1 h1.1))⟩
     ·have hN:YmI f:=⟨hh,⟨_,hkind,hrest⟩,Xf hh1 Zi⟩
      have le:=he.len
      have se:=he.short
      refine zW ?_;intros
      refine Yk (fun mm σ fz' H'=>∃ k:Nat,k≤r∧mm=r - k∧σ=[(136,.int .i64 k),(135,.int .i64 r),(134,.slice C r cr),(3,.pointer (some ⟨g0,0,none⟩)),(2,.pointer (some ⟨g,0,none⟩)),(1,.int .i64 d)]∧Le fz2 fz'∧H'=[(g,budO (c+1+ecountL (f.exprs.take k):Nat)),(g0,.cells #[.string f.op,.string f.name,.slice A n ca,.slice B m cb,.slice C r cr,.slice D q cq] 29 (0,0))]∧(∀ i,i<k→∀ x,f.exprs[i]?=some x→EOk x∧d+1+edepth x≤33)∧c+1+ecountL (f.exprs.take k)≤4096) ⟨0,Z0 _,rfl,rfl,Le.refl _,rfl,(fun i hi=>absurd hi Zi),by simp [ecountL];omega⟩ Zw Zb ?_
      rintro _ σ fz' H' ⟨k,hkr,rfl,rfl,hle4,rfl,hh2,hcc⟩
      have he2:=he.mono (hle2.trans hle4)
      refine zW ?_;intros
      refine zC (fun c2=>?_) (fun c2=>?_)
      ·obtain ⟨x,hx⟩:=Yg (l:=f.exprs) (k:=k) Zi
       have hxm:=Zm hx
       have hst:=YhR hx
       have htk:=YhQ (l:=f.exprs) (k:=k+1)
       refine zW ?_;intros
       refine zI he2 hx (fun p1 hp1=>?_)
       refine zL hp1 ?_
       intro cs hcs
       obtain ⟨wa,wk,rfl,hRx⟩:=YP hcs
       obtain ⟨A1,n1,b1,rfl,_⟩:=hRx.args
       obtain ⟨A2,n2,b2,rfl,_⟩:=hRx.kids
       refine zW ?_;intros
       first | refine Wp.perm (List.Perm.swap _ _ _) ?_ | refine Seq.perm (List.Perm.swap _ _ _) ?_
       refine Yb Zz (Yl [_] [_,_] Zz Zz Zz (Yjy (e:=x) (d:=d+1) (c:=c+1+ecountL (f.exprs.take k)) hRx Zi hcc) (fun v5 fz5 H5 hle5 hR5=>?_))
       obtain ⟨_,b5,c5,rfl,rfl,hc5,hb5⟩:=hR5
       cases b5
       ·refine zW ?_;intros
        exact ret1 rfl rfl Zb ⟨hle2.trans (hle4.trans hle5),Ygv (fun h0=>absurd (hb5.2 ⟨(Wv.1 h0.1).2.1 x hxm,by have:=(YfJ (l:=f.exprs)).1 (Zs _) x hxm;omega,by omega⟩) (by simp))⟩
       ·have hc5:=hc5 rfl
        have hb5:=hb5.1 rfl
        subst hc5
        refine zW ?_;intros
        exact YA ⟨k+1,by omega,rfl,rfl,hle4.trans hle5,by rw [hst,← Nat.add_assoc],YO hh2 hx ⟨hb5.1,hb5.2.1⟩,by omega⟩ Zi Zw Zb
      ·rw [show f.exprs.take k=f.exprs from Zl Zi] at hcc ⊢
       have hEX:=Xf hh2 Zi
       have lk:=hk.len
       have sk:=hk.short
       refine zW ?_;intros
       refine Yk (H0:=[(g,budO (c+1+ecountL f.exprs:Nat)),(g0,.cells #[.string f.op,.string f.name,.slice A n ca,.slice B m cb,.slice C r cr,.slice D q cq] 29 (0,0))]) (fun mm σ fz7 H'=>∃ j:Nat,j≤q∧mm=q - j∧σ=[(150,.int .i64 j),(149,.int .i64 q),(148,.slice D q cq),(2,.pointer (some ⟨g,0,none⟩)),(1,.int .i64 d)]∧Le fz' fz7∧H'=[(g,budO (c+1+ecountL f.exprs+fcountL (f.kids.take j):Nat)),(g0,.cells #[.string f.op,.string f.name,.slice A n ca,.slice B m cb,.slice C r cr,.slice D q cq] 29 (0,0))]∧(∀ i,i<j→∀ x,f.kids[i]?=some x→FOk x∧d+1+fdepth x≤33)∧c+1+ecountL f.exprs+fcountL (f.kids.take j)≤4096) ⟨0,Z0 _,rfl,rfl,Le.refl _,by simp [fcountL],(fun i hi=>absurd hi Zi),by simp [fcountL];omega⟩ Zw Zb ?_
       rintro _ σ fz7 H' ⟨j,hjq,rfl,rfl,hle7,rfl,hh3,hcc3⟩
       have hk2:=hk.mono (hle2.trans (hle4.trans hle7))
       refine zW ?_;intros
       refine zC (fun c3=>?_) (fun c3=>?_)
       ·obtain ⟨x,hx⟩:=Yg (l:=f.kids) (k:=j) Zi
        have hxm:=Zm hx
        have hlt:=Formula.kids_lt hxm
        have hst:=YhI hx
        have htk:=YhH (l:=f.kids) (k:=j+1)
        refine zW ?_;intros
        refine zI hk2 hx (fun p1 hp1=>?_)
        refine zL hp1 ?_
        intro cs hcs
        obtain ⟨wa,wp,we,wk,rfl,hRx⟩:=YM hcs
        obtain ⟨A1,n1,b1,rfl,_⟩:=hRx.args
        obtain ⟨A2,n2,b2,rfl,_⟩:=hRx.params
        obtain ⟨A3,n3,b3,rfl,_⟩:=hRx.exprs
        obtain ⟨A4,n4,b4,rfl,_⟩:=hRx.kids
        refine zW ?_;intros
        first | refine Wp.perm (List.Perm.swap _ _ _) ?_ | refine Seq.perm (List.Perm.swap _ _ _) ?_
        refine Yb Zz (Yl [_] [_,_] Zz Zz Zz (Yi4 s (f:=x) (d:=d+1) (c:=c+1+ecountL f.exprs+fcountL (f.kids.take j)) Zi hRx Zi hcc3) (fun v5 fz5 H5 hle5 hR5=>?_))
        obtain ⟨_,b5,c5,rfl,rfl,hc5,hb5⟩:=hR5
        cases b5
        ·refine zW ?_;intros
         exact ret1 rfl rfl Zb ⟨hle2.trans (hle4.trans (hle7.trans hle5)),Ygv (fun h0=>absurd (hb5.2 ⟨(Wv.1 h0.1).2.2 x hxm,by have:=(YfI (l:=f.kids)).1 (Zs _) x hxm;omega,by omega⟩) (by simp))⟩
        ·have hc5:=hc5 rfl
         have hb5:=hb5.1 rfl
         subst hc5
         refine zW ?_;intros
         exact YA ⟨j+1,by omega,rfl,rfl,hle7.trans hle5,by rw [hst,← Nat.add_assoc],YO hh3 hx ⟨hb5.1,hb5.2.1⟩,by omega⟩ Zi Zw Zb
       ·rw [Zl Zi] at hcc3 ⊢
        have hKX:=Xf hh3 Zi
        refine zW ?_;intros
        (exact ret1 rfl rfl Zb ⟨hle2.trans (hle4.trans hle7),true,_,rfl,rfl,fun _=>by rw [hE];simp only [Nat.add_assoc],iff_of_true rfl ⟨Wv.2 ⟨hN,fun x hx=>(hEX x hx).1,fun x hx=>(hKX x hx).1⟩,by
         have e1:edepthL f.exprs≤32 - d:=YfJ.2 (fun x hx=>by have:=(hEX x hx).2;omega)
         have e2:fdepthL f.kids≤32 - d:=YfI.2 (fun x hx=>by have:=(hKX x hx).2;omega)
         omega,by omega⟩⟩)
variable {fz:FZ} {va ve vk vp:Value}
theorem shaped_q {d:Nat} (h:FormulaR fz f va vp ve vk) (hd:d≤33) (hc:c≤4096):
 GFn prog 139 [.agg #[.string f.op,.string f.name,va,vp,ve,vk],.int .i64 d,.pointer (some ⟨g,0,none⟩)] fz [(g,budO c)] (fun v fz' H'=>Le fz fz'∧FBud g f d c v H'):=Yi4 _ (Zs _) h hd hc
end Go.Proofs.YtbnpeechpebmeaaGreatDoor
namespace Go.Lx
open Go.RowKit
def WT (b:UInt8):Value:=Value.int .u8 b.toNat
def Ybl (bs:List UInt8) (k:Nat):List Value:=bs.map WT++List.replicate k (Value.int .u8 0)
def Ybk (e:TypeId) (bs:List UInt8) (k:Nat):Obj:=.cells (Ybl bs k).toArray e (bs.length+k,bs.length+k+1)
variable {k:Nat}
theorem Ykv {bs:List UInt8}:(Ybl bs k).length=bs.length+k:=by simp [Ybl]
variable {j:Nat}
theorem Ydy {bs:List UInt8} (h:j<bs.length):(Ybl bs k)[j]?=some (WT bs[j]):=by
 simp [Ybl,List.getElem?_append,h]
theorem Yku {bs:List UInt8} {b:UInt8} (h:j<bs.length):(Ybl bs k).set j (WT b)=Ybl (bs.set j b) k:=by
 unfold Ybl
 rw [List.set_append_left _ _ (by simpa using h),List.map_set]
variable {H:HP} {fz:FZ} {w w':World}
theorem Inv.made {cx:Cx} {o:Obj} (h:Inv cx fz H w) (h1:w'.os=w.os) (h2:w'.tape=w.tape) (h3:w'.output=w.output) (h4:w'.heap.size=w.heap.size+1) (h5:w'.heap[w.heap.size]?=some o) (h6:∀ j,j<w.heap.size→w'.heap[j]?=w.heap[j]?):
 Inv cx fz ((w.heap.size,o)::H) w':=by
 refine (h.alloc o).world (h1.trans rfl) (h2.trans rfl) (h3.trans rfl) ?_
 apply Array.ext_getElem?
 intro j
 simp only [World.alloc,Array.getElem?_push]
 by_cases hj:j=w.heap.size
 ·subst hj;simp [h5]
 ·simp only [hj,if_false]
  by_cases hl:j<w.heap.size
  ·exact h6 j hl
  ·rw [Array.getElem?_eq_none Zi,Array.getElem?_eq_none Zi]
section
variable {P:Program} {cx:Cx} {r:Operand→Option Value} {fz:FZ} {H:HP} {V:Value→Prop} {dst:Option Nat} {ty:TypeId} {pos:String} {af:Array Edge} {gd:Option (Nat × Bool)}
variable {X Y:Ty} {x:Operand}
theorem k_bytes (T:Tab P) {src dt e:TypeId} {Z:Ty} {s:Bs} {K:Value→FZ→HP→Prop} (hX:T.inf src=some X) (hXd:X.desc=.string) (hY:T.inf dt=some Y) (hYd:Y.desc=.slice e) (hZ:T.inf e=some Z) (hZd:Z.desc=.int .u8)
 (hx:r x=some (.string s)) (h:∀ g k,K (.slice (some ⟨g,0,none⟩) s.size (s.size+k)) fz ((g,Ybk e s.data.toList k)::H)):Does P cx ⟨dst,.convert src dt x,ty,pos,af,gd⟩ r fz H K:=by
 refine Does.of fun ρ w hr hw=>?_
 have hrun:=Go.Lib.run_convert_string_bytes (P:=P) w src dt e s (und_plain T hX hXd rfl) (und_plain T hY hYd rfl) (und_plain T hZ hZd rfl)
 have:(execOp ρ ⟨dst,.convert src dt x,ty,pos,af,gd⟩).run P w=.ok (.value (.slice (some ⟨w.heap.size,0,none⟩) s.size (grownCap w s.size 0 e))) (Go.Lib.bytesWorld w e s):=by
  simp only [execOp,hr _ _ hx,Sem.run_bind,hrun,Result.andThen_ok,Sem.run_pure]
 rw [this]
 obtain ⟨k,hk⟩:∃ k,grownCap w s.size 0 e=s.size+k:=⟨grownCap w s.size 0 e - s.size,by have:=grownCap_ge w s.size 0 e;omega⟩
 have hcells:Go.Lib.bytesCells w e s=(Ybl s.data.toList k).toArray:=by
  simp [Go.Lib.bytesCells,Ybl,hk]
  exact fun _ _=>rfl
 have hlen:s.data.toList.length=s.size:=by rw [Array.length_toList];rfl
 have hnew:=Go.Lib.bytesWorld_at_new w e s
 rw [hcells] at hnew
 have hobj:(Go.Lib.bytesWorld w e s).heap[w.heap.size]?=some (Ybk e s.data.toList k):=by
  rw [hnew];simp [Ybk,Ykv]
 rw [hk]
 exact ⟨fz,_,Inv.made hw rfl rfl rfl (Go.Lib.bytesWorld_size w e s) hobj (fun j hj=>Go.Lib.bytesWorld_at_old w e s j hj),h _ k⟩
variable {g:Nat} {t:TypeId}
theorem Yio (T:Tab P) {t':TypeId} {bs:List UInt8} {b:UInt8} (i:Nat) (hT:T.inf t=some X) (hd:XL X.desc=false) (hx:r x=some (.pointer (some ⟨g,j,none⟩))) (hi:H[i]?=some (g,Ybk t' bs k)) (hb:bs[j]?=some b) (h:V (WT b)):
 DoesQ P cx ⟨dst,.load t x,ty,pos,af,gd⟩ r fz H V:=by
 obtain ⟨hj,rfl⟩:=Zg hb
 exact Yt T i hT hd hx hi (Ydy hj) h
variable {y:Operand}
theorem Yht (T:Tab P) {t':TypeId} {pre post:HP} {bs:List UInt8} {b:UInt8} {K:Value→FZ→HP→Prop} (hT:T.inf t=some X)
 (hx:r x=some (.pointer (some ⟨g,j,none⟩))) (hy:r y=some (WT b)) (hH:H=pre++(g,Ybk t' bs k)::post) (hs:X.size=1) (hj:j<bs.length)
 (h:K undef fz (pre++(g,Ybk t' (bs.set j b) k)::post)):Does P cx ⟨dst,.store t x y,ty,pos,af,gd⟩ r fz H K:=by
 refine Does.of fun ρ w hr hw=>?_
 subst hH
 have hb:=(hw.hp.own (g,Ybk t' bs k) (by simp)).1
 have hcell:w.cell? ⟨g,j,none⟩=some (WT bs[j]):=by
  simp only [World.cell?,hb,Ybk]
  simpa using Ydy hj
 have hfro:w.frozen? ⟨g,j,none⟩=false:=by
  simp only [World.frozen?,hb,Ybk,Bool.and_eq_false_iff,decide_eq_false_iff_not]
  left;omega
 have hz:=run_sizeOf T hT w
 rw [hs] at hz
 have hst:(storeCells ⟨g,j,none⟩ [WT b] 0).run P w=.ok () (w.setRow g (Ybl (bs.set j b) k).toArray):=by
  have hadd:(⟨g,j,none⟩:Addr).add 0=⟨g,j,none⟩:=by simp [Addr.add]
  simp only [storeCells,Sem.run_bind,hadd,run_store P w _ (WT b) _ rfl,hcell,hfro]
  simp [setCell_eq_setRow w g j (Ybl bs k).toArray t' _ (WT b) hb,← Yku hj]
 have:(execOp ρ ⟨dst,.store t x y,ty,pos,af,gd⟩).run P w=.ok .skip (w.setRow g (Ybl (bs.set j b) k).toArray):=by
  simp only [execOp,hr _ _ hx,hr _ _ hy,Instr.storeAt,Instr.sureAddr,Sem.run_bind,Sem.run_pure,Result.andThen_ok,storeVar,hz]
  simp [WT,Value.cells] at hst ⊢
  simp [hst]
 rw [this]
 refine ⟨fz,_,hw.write (o':=Ybk t' (bs.set j b) k) rfl rfl rfl (by simp) ?_ (fun k hk=>?_),h⟩
 ·simp [World.setRow,Array.getElem?_modify,hb,Ybk]
 ·simp only [World.setRow,Array.getElem?_modify]
  rw [if_neg Zi]
variable {c n:Nat}
theorem Yik (T:Tab P) {src dt e:TypeId} {Z:Ty} {t':TypeId} {bs:List UInt8} (i:Nat) (hX:T.inf src=some X) (hXd:X.desc=.slice e) (hY:T.inf dt=some Y) (hYd:Y.desc=.string) (hZ:T.inf e=some Z) (hZd:Z.desc=.int .u8)
 (hx:r x=some (.slice (some ⟨g,0,none⟩) n c)) (hi:H[i]?=some (g,Ybk t' bs k)) (hn:bs.length=n) (h:V (.string ⟨bs.toArray⟩)):DoesQ P cx ⟨dst,.convert src dt x,ty,pos,af,gd⟩ r fz H V:=by
 refine DoesQ.of h fun ρ w hr hw=>?_
 have hcell:∀ j,j<n→w.cell? ⟨g,0+j,none⟩=some (.int .u8 ((bs.map fun b=>(b.toNat:Int)).getD j 0)):=fun j hj=>by
  have hj':j<bs.length:=by omega
  rw [Nat.zero_add,hw.cellOwn hi j]
  have:=Ydy (k:=k) hj'
  simp only [List.getElem?_toArray,this,WT]
  simp [List.getD,hj']
 have hrun:=run_convert_bytes_arg (P:=P) w src e (und_plain T hX hXd rfl) (und_plain T hZ hZd rfl) g 0 n c (bs.map fun b=>(b.toNat:Int)) (by simpa using hn) hcell dt (und_plain T hY hYd rfl)
 have hs:strOfNums (bs.map fun b=>(b.toNat:Int))=⟨bs.toArray⟩:=by simp [strOfNums,Function.comp_def]
 rw [hs] at hrun
 have:(execOp ρ ⟨dst,.convert src dt x,ty,pos,af,gd⟩).run P w=.ok (.value (.string ⟨bs.toArray⟩)) w:=by
  simp only [execOp,hr _ _ hx,Sem.run_bind,hrun,Result.andThen_ok,Sem.run_pure]
 rw [this]
 exact ⟨rfl,Fr.refl _ _⟩
end
end Go.Lx
namespace Go.Proofs.YtbnpeechpebmeaaGreatDoor
open Go.Lx Go.RowKit
attribute [local instance 10] Classical.propDecidable
open Go.Proofs.Tryz (prog)
theorem XA {b:UInt8}:∀ {l:List UInt8},0≤Lib.indexByte l b↔b∈l
 | []=>by simp [Lib.indexByte]
 | x::r=>by
  have ih:=XA (b:=b) (l:=r)
  simp only [Lib.indexByte,List.mem_cons]
  split
  ·rename_i h
   have:x=b:=by simpa using h
   simp [this]
  ·rename_i h
   have hx:¬b=x:=by
    intro h0;subst h0;simp at h
   simp only [hx,false_or]
   split
   ·rename_i h1
    rw [← ih,eq_of_beq h1]
   ·rename_i h1
    have h2:Lib.indexByte r b≠ -1:=by simpa using h1
    have:=Lib.indexByte_ge r b
    rw [← ih];omega
variable {fz:FZ}
theorem sibs_q {s:Bs} {n:Int}:QFn prog 210 [.string s,.int .u8 n] fz (.int .i64 (Lib.indexByte s.data.toList n.toNat.toUInt8)):=by
 refine GFn.quiet ?_
 refine zF Tryz.func210 Tryz.ntmps210 (fun w0=>?_)
 refine zW ?_;intros
 refine Seq.q rfl (DoesQ.of (v:=.int .i64 (Lib.indexByte s.data.toList n.toNat.toUInt8)) ?_ fun ρ w hr hi=>?_)
 ·refine zW ?_;intros
  exact zR (h:=rfl)
 ·have h5:ρ (.tmp 5)=.string s:=hr _ _ rfl
  have h6:ρ (.tmp 6)=.int .u8 n:=hr _ _ rfl
  have h7:ρ (.func 225)=.func (.func 225) #[] #[]:=hr _ _ rfl
  have hrun:=run_callFunc_indexByte (P:=prog) Tryz.func225 Zj rfl (by rfl) (by rfl) #[.string s,.int .u8 n] w
  rw [Lib.run_indexByteString] at hrun
  simp only [execOp,resolve,Deferred.ofValue,invoke,List.map_toArray,List.map_cons,List.map_nil,h5,h6,h7,Sem.run_bind,Sem.run_pure,Result.andThen_ok] at hrun ⊢
  simp only [Array.empty_append,Array.append_empty]
  rw [hrun]
  exact ⟨rfl,Fr.refl _ _⟩
theorem ibs_q {s:Bs} {n:Int}:QFn prog 183 [.string s,.int .u8 n] fz (.int .i64 (Lib.indexByte s.data.toList n.toNat.toUInt8)):=by
 refine GFn.quiet ?_
 refine zF Tryz.func183 Tryz.ntmps183 (fun w0=>?_)
 refine zW ?_;intros
 refine zc sibs_q ?_
 refine zW ?_;intros
 exact zR (h:=rfl)
def UpC (n:Int):Prop:=65≤n∧n≤90
def SymL:List UInt8:=[45,95,63,58,60,62,61,43,42]
def LowC (b:UInt8):Prop:=LetP b.toNat∨DigP b.toNat∨b∈SymL
def AnyC (b:UInt8):Prop:=UpC b.toNat∨LowC b
def lowB (b:UInt8):UInt8:=if UpC b.toNat then b+32 else b
def lowS (s:Bs):Bs:=⟨(s.data.toList.map lowB).toArray⟩
def LowP (s:Bs):Prop:=s≠WY∧s.size≤32∧∀ b∈s.data.toList,AnyC b
theorem YkN {n:Int} (h:0≤n∧n≤255):IntKind.u8.wrap n=n:=by
 simp only [IntKind.wrap,IntKind.signed,IntKind.bits];simp;omega
theorem byteV_up {b:UInt8} (h:UpC b.toNat):Value.int .u8 ((b.toNat:Int)+97 - 65)=WT (lowB b):=by
 unfold UpC at h
 have h2:(b+32).toNat=b.toNat+32:=by rw [UInt8.toNat_add];simp;omega
 unfold WT lowB UpC
 rw [if_pos h,h2]
 congr 1
 omega
theorem YcL {s:Bs}:s.data.toList.length=s.size:=by rw [Array.length_toList];rfl
variable {k:Nat}
theorem Yjw {s:Bs} (h:k<s.size):s.data.toList[k]?=some s[k]:=by
 rw [List.getElem?_eq_getElem (by rw [YcL];exact h)]
 rfl
theorem set_mid {α:Type} {f:α→α} {l:List α} {x:α} (h:l[k]?=some x):((l.take k).map f++l.drop k).set k (f x)=(l.take (k+1)).map f++l.drop (k+1):=by
 have hk:k<l.length:=(Zg h).1
 have hl:((l.take k).map f).length=k:=by simp;omega
 rw [List.set_append_right _ _ Zi,hl,Nat.sub_self,List.take_add_one,h]
 have:l.drop k=x::l.drop (k+1):=by
  rw [List.drop_eq_getElem_cons hk]
  rw [List.getElem?_eq_getElem hk] at h
  cases h;rfl
 rw [this]
 simp
theorem YbB {α:Type} {f:α→α} {l:List α} {x:α} (h:l[k]?=some x) (hf:f x=x):(l.take k).map f++l.drop k=(l.take (k+1)).map f++l.drop (k+1):=by
 rw [← set_mid h,hf]
 have hk:k<l.length:=(Zg h).1
 apply List.ext_getElem?
 intro i
 rw [List.getElem?_set]
 split
 ·rename_i he
  subst he
  have hl:((l.take k).map f).length=k:=by simp;omega
  rw [if_pos (by simp;omega),List.getElem?_append_right Zi,hl,Nat.sub_self,List.getElem?_drop,Nat.add_zero,h]
 ·rfl
theorem get_mid {α:Type} {f:α→α} {l:List α} {x:α} (h:l[k]?=some x):((l.take k).map f++l.drop k)[k]?=some x:=by
 have hk:k<l.length:=(Zg h).1
 have hl:((l.take k).map f).length=k:=by simp;omega
 rw [List.getElem?_append_right Zi,hl,Nat.sub_self,List.getElem?_drop,Nat.add_zero,h]
theorem Ya2 {α:Type} {p:α→Prop} {l:List α} {x:α} (h:∀ b∈l.take k,p b) (hx:l[k]?=some x) (hp:p x):∀ b∈l.take (k+1),p b:=by
 rw [List.take_add_one,hx]
 intro b hb
 rcases List.mem_append.1 hb with hb | hb
 ·exact h b hb
 ·simp at hb;subst hb;exact hp
theorem Ybx {b:UInt8} (h:¬UpC b.toNat):lowB b=b:=if_neg h
theorem Ydz {b:UInt8}:((b.toNat:Int).toNat).toUInt8=b:=by simp [Nat.toUInt8]
set_option maxHeartbeats 1000000 in
theorem YlC {s:Bs}:QFn prog 137 [.string s] fz (.tuple #[.string (if LowP s then lowS s else WY),.bool (decide (LowP s))]):=by
 refine GFn.quiet ?_
 have no:¬LowP s→Value.tuple #[.string WY,.bool false]=.tuple #[.string (if LowP s then lowS s else WY),.bool (decide (LowP s))]:=fun h=>by rw [if_neg h,decide_eq_false h]
 refine zF Tryz.func137 Tryz.ntmps137 (fun w0=>?_)
 refine zW ?_;intros
 refine zC (fun c1=>?_) (fun c1=>?_)
 ·refine zW ?_;intros
  exact ret2 rfl rfl rfl Zb (no (fun h=>h.1 c1))
 ·refine zW ?_;intros
  refine zC (fun c2=>?_) (fun c2=>?_)
  ·refine zW ?_;intros
   exact ret2 rfl rfl rfl Zb (no (fun h=>by have:=h.2.1;omega))
  ·refine zW ?_;intros
   refine Yb Zz (k_bytes T Zz Zz Zz Zz Zz Zz Zz (fun g k0=>?_))
   have hz:s.size≤32:=by omega
   refine zW ?_;intros
   refine Yk (fun q σ fz' H'=>∃ k:Nat,k≤s.size∧q=s.size - k∧σ=[(18,.int .i64 k),(17,.int .i64 s.size),(16,.slice (some ⟨g,0,none⟩) s.size (s.size+k0)),(4,.slice (some ⟨g,0,none⟩) s.size (s.size+k0))]∧fz=fz'∧
    H'=[(g,Ybk 5 ((s.data.toList.take k).map lowB++s.data.toList.drop k) k0)]∧(∀ b∈s.data.toList.take k,AnyC b)) ⟨0,Z0 _,rfl,rfl,rfl,rfl,by simp⟩ Zw Zb ?_
   rintro q σ fz' H' ⟨k,hk,rfl,rfl,rfl,rfl,hh⟩
   have hlen:((s.data.toList.take k).map lowB++s.data.toList.drop k).length=s.size:=by
    have:=YcL (s:=s)
    simp only [List.length_append,List.length_map,List.length_take,List.length_drop];omega
   refine zW ?_;intros
   refine zC (fun c3=>?_) (fun c3=>?_)
   ·obtain ⟨b,hb⟩:∃ b,s.data.toList[k]?=some b:=⟨_,Yjw Zi⟩
    have hlt:=b.toNat_lt
    have bad:¬AnyC b→¬LowP s:=fun h0 h1=>h0 (h1.2.2 b (Zm hb))
    refine zW ?_;intros
    refine zG ?_;refine Xu T Zz Zz Zz Zz Zz Zz Zi Zi ?_
    refine zG ?_;refine Yio T 0 Zz Zz Zz Zz (get_mid hb) ?_
    refine zW ?_;intros
    refine zC (fun d1=>?_) (fun d1=>?_)
    ·refine zW ?_;intros
     refine zC (fun d2=>?_) (fun d2=>?_)
     ·refine zW ?_;intros
      refine zG ?_;refine Ydf Zz Zz (YkN Zi) ?_
      refine zG ?_;refine Ylj Zz Zz (YkN Zi) ?_
      refine zG ?_;refine Xu T Zz Zz Zz Zz Zz Zz Zi Zi ?_
      refine YJ (Yht T (pre:=[]) Zz Zz (congrArg some (byteV_up ⟨d1,d2⟩)) rfl Zz (by rw [hlen];exact (by omega:k<s.size)) ?_)
      refine zW ?_;intros
      exact YA ⟨k+1,by omega,rfl,rfl,rfl,by rw [← set_mid hb],Ya2 hh hb (.inl ⟨d1,d2⟩)⟩ Zi Zw Zb
     ·have nu:¬UpC b.toNat:=fun h0=>d2 h0.2
      refine zW ?_;intros
      refine zC (fun d3=>?_) (fun d3=>?_)
      ·refine zW ?_;intros
       refine zC (fun d4=>?_) (fun d4=>?_)
       ·refine zW ?_;intros
        exact YA ⟨k+1,by omega,rfl,rfl,rfl,by rw [← YbB hb (Ybx nu)],Ya2 hh hb (.inr (.inl ⟨d3,d4⟩))⟩ Zi Zw Zb
       ·have nl:¬LetP b.toNat:=fun h0=>d4 h0.2
        refine zW ?_;intros
        refine zb (YgA (n:=b.toNat)) (fun f1=>?_) (fun f1=>?_)
        ·refine zW ?_;intros
         exact YA ⟨k+1,by omega,rfl,rfl,rfl,by rw [← YbB hb (Ybx nu)],Ya2 hh hb (.inr (.inr (.inl (Zt f1))))⟩ Zi Zw Zb
        ·refine zW ?_;intros
         refine zc (ibs_q (n:=b.toNat)) ?_
         refine zC (fun e1=>?_) (fun e1=>?_)
         ·refine zW ?_;intros
          exact YA ⟨k+1,by omega,rfl,rfl,rfl,by rw [← YbB hb (Ybx nu)],Ya2 hh hb (.inr (.inr (.inr (by rw [XA,Ydz] at e1;exact e1))))⟩ Zi Zw Zb
         ·refine zW ?_;intros
          exact ret2 rfl rfl rfl Zb (no (bad (fun h0=>by
           rcases h0 with h0 | h0 | h0 | h0
           ·exact nu h0
           ·exact nl h0
           ·exact Zf f1 h0
           ·exact e1 (XA.2 (by rw [Ydz];exact h0)))))
      ·have nl:¬LetP b.toNat:=fun h0=>d3 h0.1
       refine zW ?_;intros
       refine zb (YgA (n:=b.toNat)) (fun f1=>?_) (fun f1=>?_)
       ·refine zW ?_;intros
        exact YA ⟨k+1,by omega,rfl,rfl,rfl,by rw [← YbB hb (Ybx nu)],Ya2 hh hb (.inr (.inr (.inl (Zt f1))))⟩ Zi Zw Zb
       ·refine zW ?_;intros
        refine zc (ibs_q (n:=b.toNat)) ?_
        refine zC (fun e1=>?_) (fun e1=>?_)
        ·refine zW ?_;intros
         exact YA ⟨k+1,by omega,rfl,rfl,rfl,by rw [← YbB hb (Ybx nu)],Ya2 hh hb (.inr (.inr (.inr (by rw [XA,Ydz] at e1;exact e1))))⟩ Zi Zw Zb
        ·refine zW ?_;intros
         exact ret2 rfl rfl rfl Zb (no (bad (fun h0=>by
          rcases h0 with h0 | h0 | h0 | h0
          ·exact nu h0
          ·exact nl h0
          ·exact Zf f1 h0
          ·exact e1 (XA.2 (by rw [Ydz];exact h0)))))
    ·have nu:¬UpC b.toNat:=fun h0=>d1 h0.1
     refine zW ?_;intros
     refine zC (fun d3=>?_) (fun d3=>?_)
     ·exact absurd d3 Zi
     ·have nl:¬LetP b.toNat:=fun h0=>d3 h0.1
      refine zW ?_;intros
      refine zb (YgA (n:=b.toNat)) (fun f1=>?_) (fun f1=>?_)
      ·refine zW ?_;intros
       exact YA ⟨k+1,by omega,rfl,rfl,rfl,by rw [← YbB hb (Ybx nu)],Ya2 hh hb (.inr (.inr (.inl (Zt f1))))⟩ Zi Zw Zb
      ·refine zW ?_;intros
       refine zc (ibs_q (n:=b.toNat)) ?_
       refine zC (fun e1=>?_) (fun e1=>?_)
       ·refine zW ?_;intros
        exact YA ⟨k+1,by omega,rfl,rfl,rfl,by rw [← YbB hb (Ybx nu)],Ya2 hh hb (.inr (.inr (.inr (by rw [XA,Ydz] at e1;exact e1))))⟩ Zi Zw Zb
       ·refine zW ?_;intros
        exact ret2 rfl rfl rfl Zb (no (bad (fun h0=>by
         rcases h0 with h0 | h0 | h0 | h0
         ·exact nu h0
         ·exact nl h0
         ·exact Zf f1 h0
         ·exact e1 (XA.2 (by rw [Ydz];exact h0)))))
   ·rw [show s.data.toList.take k=s.data.toList from Zl (by rw [YcL];omega),show s.data.toList.drop k=[] from List.drop_eq_nil_of_le (by rw [YcL];omega),List.append_nil] at*
    have hP:LowP s:=⟨c1,by omega,hh⟩
    refine zW ?_;intros
    refine zG ?_;refine Yik T 0 Zz Zz Zz Zz Zz Zz Zz Zz hlen ?_
    refine zW ?_;intros
    exact ret2 rfl rfl rfl Zb (by rw [if_pos hP,decide_eq_true hP];rfl)
def WordT (s:Bs):Prop:=s≠WY∧s.size≤32∧(∀ b∈s.data.toList,LowC b)∧¬NumP s
def YgJ (x:Sexpr):Prop:=(x.kind=1∧WordT x.text∧x.value=0∧x.kids=[])∨(x.kind=2∧x.text=WY∧x.kids=[]∧Yc0 x.value)∨(x.kind=3∧x.text=WY∧x.value=0)
abbrev XOk (x:Sexpr):Prop:=XAll YgJ x
def XVal (x:Sexpr):Prop:=XOk x∧xdepth x≤32∧xcount x≤4096
theorem YlD {s:Bs}:(lowS s).size=s.size:=by
 have:=YcL (s:=s)
 simp only [lowS,ByteArray.size,List.size_toArray,List.length_map];exact this
theorem lowB_fix {b:UInt8} (h:lowB b=b):¬UpC b.toNat:=by
 intro hu
 rw [lowB,if_pos hu] at h
 have h1:=congrArg UInt8.toNat h
 unfold UpC at hu
 rw [UInt8.toNat_add] at h1
 simp at h1
 omega
theorem YlB {α:Type} {f:α→α}:∀ {l:List α},l.map f=l→∀ x∈l,f x=x
 | [],_,_,hx=>by cases hx
 | a::r,h,x,hx=>by
  simp only [List.map_cons,List.cons.injEq] at h
  rcases List.mem_cons.1 hx with rfl | hx
  ·exact h.1
  ·exact YlB h.2 x hx
theorem Yl5 {α:Type} {f:α→α}:∀ {l:List α},(∀ x∈l,f x=x)→l.map f=l
 | [],_=>rfl
 | a::r,h=>by rw [List.map_cons,h a (by simp),Yl5 (fun x hx=>h x (by simp [hx]))]
theorem low_upc {b:UInt8} (h:LowC b):¬UpC b.toNat:=by
 unfold LowC LetP DigP SymL at h
 unfold UpC
 rcases h with h | h | h
 ·omega
 ·omega
 ·simp only [List.mem_cons,List.not_mem_nil,or_false] at h
  rcases h with rfl | rfl | rfl | rfl | rfl | rfl | rfl | rfl | rfl<;>decide
theorem Yiu {s:Bs}:LowP s∧lowS s=s↔s≠WY∧s.size≤32∧∀ b∈s.data.toList,LowC b:=by
 constructor
 ·rintro ⟨⟨h1,h2,h3⟩,h4⟩
  refine ⟨h1,h2,fun b hb=>?_⟩
  have h5:s.data.toList.map lowB=s.data.toList:=by
   have:=congrArg (fun t:Bs=>t.data.toList) h4
   simpa [lowS] using this
  exact (h3 b hb).resolve_left (lowB_fix (YlB h5 b hb))
 ·rintro ⟨h1,h2,h3⟩
  refine ⟨⟨h1,h2,fun b hb=>.inr (h3 b hb)⟩,?_⟩
  have:=Yl5 (f:=lowB) (l:=s.data.toList) (fun b hb=>if_neg (low_upc (h3 b hb)))
  unfold lowS
  rw [this]
def cntO (c:Int):Obj:=.cells #[.int .i64 c] 3 (0,0)
def XBud (g:Nat) (x:Sexpr) (d c:Nat) (v:Value) (H':HP):Prop:=
 ∃ (b:Bool) (c':Int),v=.bool b∧H'=[(g,cntO c')]∧(b=true→c'=((c+xcount x:Nat):Int))∧(b=true↔XOk x∧d+xdepth x≤32∧c+xcount x≤4096)
variable {c g:Nat}
theorem YfV {x:Sexpr} {d:Nat} {c':Int} (h:¬(XOk x∧d+xdepth x≤32∧c+xcount x≤4096)):XBud g x d c (.bool false) [(g,cntO c')]:=⟨false,c',rfl,rfl,(by simp),iff_of_false (by simp) h⟩
theorem YgQ {x:Sexpr} {d:Nat} (h:YgJ x) (hk:x.kids=[]) (h3:x.kind≠3) (hc:c+1≤4096) (hd:d≤32):XBud g x d c (.bool true) [(g,cntO (c+1:Nat))]:=by
 have h1:xcount x=1:=by rw [Yd9,hk];simp [xcountL]
 have h2:xdepth x=0:=by rw [Yd8,hk,if_neg h3];simp [xdepthL]
 exact ⟨true,_,rfl,rfl,fun _=>by rw [h1],iff_of_true rfl ⟨Yaw.2 ⟨h,by rw [hk];simp⟩,by omega,by omega⟩⟩
theorem xnode1 {x:Sexpr} (h:x.kind=1):YgJ x↔WordT x.text∧x.value=0∧x.kids=[]:=by
 unfold YgJ;rw [h];simp
theorem xnode2 {x:Sexpr} (h:x.kind=2):YgJ x↔x.text=WY∧x.kids=[]∧Yc0 x.value:=by
 unfold YgJ;rw [h];simp
theorem xnode3 {x:Sexpr} (h:x.kind=3):YgJ x↔x.text=WY∧x.value=0:=by
 unfold YgJ;rw [h];simp
set_option maxHeartbeats 2000000 in
theorem YkI:∀ (s:Nat) {fz:FZ} {x:Sexpr} {vk:Value} {g d c:Nat},SizeOf.sizeOf x≤s→XU fz x vk→d≤32→c≤4096→
 GFn prog 85 [.agg #[.int .i64 x.kind,.int .i64 x.value,.int .i64 x.line,.int .i64 x.column,.string x.text,vk],.int .i64 d,.pointer (some ⟨g,0,none⟩)] fz [(g,cntO c)] (fun v fz' H'=>Le fz fz'∧XBud g x d c v H')
 | 0,_,x,_,_,_,_,hs,_,_,_=>by cases x;simp at hs
 | s+1,fz,x,vk,g,d,c,hs,h,hd,hc=>by
  obtain ⟨A,n,ca,rfl,hk⟩:=h.kids
  have no:∀ {c':Int},¬YgJ x→XBud g x d c (.bool false) [(g,cntO c')]:=fun h0=>YfV (fun h1=>h0 (Yaw.1 h1.1).1)
  have e1:=Yd9 x
  have e2:=Yd8 x
  unfold cntO
  refine zF Tryz.func85 Tryz.ntmps85 (fun w0=>?_)
  refine Yp (Yq (Yb Zz (Y3 _ Zz Zz (fun g0=>?_))))
  refine zW ?_;intros
  refine zC (fun c1=>?_) (fun c1=>?_)
  ·refine zW ?_;intros
   exact ret1 rfl rfl (List.Sublist.cons _ (List.Sublist.refl _)) ⟨Le.refl _,YfV (fun h0=>by omega)⟩
  ·refine zW ?_;intros
   refine zC (fun x1=>?_) (fun y1=>?_)
   ·have hn:=xnode1 x1
    by_cases hL:LowP x.text
    ·have hq:=YlC (fz:=fz) (s:=x.text)
     rw [if_pos hL,decide_eq_true hL] at hq
     refine zW ?_;intros
     refine zc hq ?_
     refine zW ?_;intros
     refine zC (fun n1=>?_) (fun n1=>?_)
     ·have hw:=(Yiu.1 ⟨hL,n1⟩)
      refine zW ?_;intros
      ((refine zG ?_);refine XY Zz Zz (Ylu (s:=lowS x.text) (by unfold Short;rw [YlD];exact h.text)) (fun f1=>?_) (fun f1=>?_))
      ·refine zW ?_;intros
       exact ret1 rfl rfl Zb ⟨Le.refl _,no (fun h0=>(hn.1 h0).1.2.2.2 (by rw [← n1];exact Zt f1))⟩
      ·refine zW ?_;intros
       (((refine zC (fun n2=>?_) (fun n2=>?_));rotate_left 1;((refine zW ?_;intros);(exact ret1 rfl rfl Zb ⟨Le.refl _,no (fun h0=>n2 (hn.1 h0).2.1)⟩));(refine zW ?_;intros)))
       (((refine zC (fun n3=>?_) (fun n3=>?_));rotate_left 1;((refine zW ?_;intros);(exact ret1 rfl rfl Zb ⟨Le.refl _,no (fun h0=>n3 ((len0 hk.len).2 (hn.1 h0).2.2))⟩));(refine zW ?_;intros)))
       exact ret1 rfl rfl Zb ⟨Le.refl _,YgQ (hn.2 ⟨⟨hw.1,hw.2.1,hw.2.2,by rw [← n1];exact Zf f1⟩,n2,(len0 hk.len).1 n3⟩) ((len0 hk.len).1 n3) Zi Zi hd⟩
     ·refine zW ?_;intros
      exact ret1 rfl rfl (List.Sublist.cons _ (List.Sublist.refl _)) ⟨Le.refl _,no (fun h0=>n1 (Yiu.2 ⟨(hn.1 h0).1.1,(hn.1 h0).1.2.1,(hn.1 h0).1.2.2.1⟩).2)⟩
    ·have hq:=YlC (fz:=fz) (s:=x.text)
     rw [if_neg hL,decide_eq_false hL] at hq
     refine zW ?_;intros
     refine zc hq ?_
     refine zW ?_;intros
     exact ret1 rfl rfl (List.Sublist.cons _ (List.Sublist.refl _)) ⟨Le.refl _,no (fun h0=>hL (Yiu.2 ⟨(hn.1 h0).1.1,(hn.1 h0).1.2.1,(hn.1 h0).1.2.2.1⟩).1)⟩
   ·refine zW ?_;intros
    refine zC (fun x2=>?_) (fun y2=>?_)
    ·have hn:=xnode2 x2
     refine zW ?_;intros
     (((refine zC (fun n1=>?_) (fun n1=>?_));rotate_left 1;((refine zW ?_;intros);(exact ret1 rfl rfl Zb ⟨Le.refl _,no (fun h0=>n1 (hn.1 h0).1)⟩));(refine zW ?_;intros)))
     (((refine zC (fun n3=>?_) (fun n3=>?_));rotate_left 1;((refine zW ?_;intros);(exact ret1 rfl rfl Zb ⟨Le.refl _,no (fun h0=>n3 ((len0 hk.len).2 (hn.1 h0).2.1))⟩));(refine zW ?_;intros)))
     (((refine zC (fun n4=>?_) (fun n4=>?_));rotate_left 1;((refine zW ?_;intros);(exact ret1 rfl rfl Zb ⟨Le.refl _,no (fun h0=>n4 (hn.1 h0).2.2.1)⟩));(refine zW ?_;intros)))
     (((refine zC (fun n5=>?_) (fun n5=>?_));rotate_left 1;((refine zW ?_;intros);(exact ret1 rfl rfl Zb ⟨Le.refl _,no (fun h0=>n5 (hn.1 h0).2.2.2)⟩));(refine zW ?_;intros)))
     exact ret1 rfl rfl Zb ⟨Le.refl _,YgQ (hn.2 ⟨n1,(len0 hk.len).1 n3,n4,n5⟩) ((len0 hk.len).1 n3) Zi Zi hd⟩
    ·refine zW ?_;intros
     refine zC (fun x3=>?_) (fun y3=>?_)
     ·have hn:=xnode3 x3
      rw [if_pos x3] at e2
      have sk:=hk.short
      have lk:=hk.len
      refine zW ?_;intros
      (((refine zC (fun n1=>?_) (fun n1=>?_));((refine zW ?_;intros);(exact ret1 rfl rfl Zb ⟨Le.refl _,no (fun h0=>n1 (hn.1 h0).1)⟩));(refine zW ?_;intros)))
      (((refine zC (fun n2=>?_) (fun n2=>?_));((refine zW ?_;intros);(exact ret1 rfl rfl Zb ⟨Le.refl _,no (fun h0=>n2 (hn.1 h0).2)⟩));(refine zW ?_;intros)))
      (((refine zC (fun n3=>?_) (fun n3=>?_));((refine zW ?_;intros);(exact ret1 rfl rfl Zb ⟨Le.refl _,YfV (fun h0=>by omega)⟩));(refine zW ?_;intros)))
      refine Yk (fun mm σ fz' H'=>∃ k:Nat,k≤n∧mm=n - k∧σ=[(91,.int .i64 k),(90,.int .i64 n),(89,.slice A n ca),(2,.pointer (some ⟨g,0,none⟩)),(1,.int .i64 d)]∧Le fz fz'∧H'=[(g,.cells #[.int .i64 (c+1+xcountL (x.kids.take k):Nat)] 3 (0,0))]∧(∀ i,i<k→∀ y,x.kids[i]?=some y→XOk y∧d+1+xdepth y≤32)∧c+1+xcountL (x.kids.take k)≤4096) ⟨0,Z0 _,rfl,rfl,Le.refl _,rfl,(fun i hi=>absurd hi Zi),by simp [xcountL];omega⟩ Zw Zb ?_
      rintro _ σ fz' H' ⟨k,hkn,rfl,rfl,hle,rfl,hh,hcc⟩
      have hk2:=hk.mono hle
      refine zW ?_;intros
      refine zC (fun c2=>?_) (fun c2=>?_)
      ·obtain ⟨y,hy⟩:=Yg (l:=x.kids) (k:=k) Zi
       have hym:=Zm hy
       have hlt:=Sexpr.kids_lt hym
       have hst:=YgO hy
       have htk:=YgN (l:=x.kids) (k:=k+1)
       refine zW ?_;intros
       refine zI hk2 hy (fun p1 hp1=>?_)
       refine zL hp1 ?_
       intro cs hcs
       obtain ⟨wk,rfl,hRy⟩:=YG hcs
       obtain ⟨A1,n6,b1,rfl,_⟩:=hRy.kids
       refine zW ?_;intros
       first | refine Wp.perm (List.Perm.swap _ _ _) ?_ | refine Seq.perm (List.Perm.swap _ _ _) ?_
       refine Yb Zz (Yl [_] [_] Zz Zz Zz (YkI s (x:=y) (d:=d+1) (c:=c+1+xcountL (x.kids.take k)) Zi hRy Zi hcc) (fun v5 fz5 H5 hle5 hR5=>?_))
       obtain ⟨_,b5,c5,rfl,rfl,hc5,hb5⟩:=hR5
       cases b5
       ·refine zW ?_;intros
        exact ret1 rfl rfl Zb ⟨hle.trans hle5,YfV (fun h0=>absurd (hb5.2 ⟨(Yaw.1 h0.1).2 y hym,by have:=(Yc5 (l:=x.kids)).1 (Zs _) y hym;omega,by omega⟩) (by simp))⟩
       ·have hc5:=hc5 rfl
        have hb5:=hb5.1 rfl
        subst hc5
        refine zW ?_;intros
        exact YA ⟨k+1,by omega,rfl,rfl,hle.trans hle5,by rw [hst,← Nat.add_assoc],YO hh hy ⟨hb5.1,hb5.2.1⟩,by omega⟩ Zi Zw Zb
      ·rw [show x.kids.take k=x.kids from Zl Zi] at hcc ⊢
       have hK:=Xf hh Zi
       refine zW ?_;intros
       exact ret1 rfl rfl (List.Sublist.refl _) ⟨hle,true,_,rfl,rfl,fun _=>by rw [e1];simp only [Nat.add_assoc],iff_of_true rfl ⟨Yaw.2 ⟨hn.2 ⟨n1,n2⟩,fun y hy=>(hK y hy).1⟩,by
        have e3:xdepthL x.kids≤31 - d:=Yc5.2 (fun y hy=>by have:=(hK y hy).2;omega)
        omega,by omega⟩⟩
     ·refine zW ?_;intros
      exact ret1 rfl rfl Zb ⟨Le.refl _,no (fun h0=>by rcases h0 with h0 | h0 | h0;exact y1 h0.1;exact y2 h0.1;exact y3 h0.1)⟩
variable {vk:Value}
theorem YdV {x:Sexpr} (h:XU fz x vk):QFn prog 39 [.agg #[.int .i64 x.kind,.int .i64 x.value,.int .i64 x.line,.int .i64 x.column,.string x.text,vk]] fz (.bool (decide (XVal x))):=by
 obtain ⟨A,n,ca,rfl,hk⟩:=h.kids
 refine GFn.quiet ?_
 refine zF Tryz.func39 Tryz.ntmps39 (fun w0=>?_)
 refine Yp (Yq (Yb Zz (Y3 _ Zz Zz (fun g0=>?_))))
 refine zW ?_;intros
 refine Yb Zz (Yl [_] [_] Zz Zz Zz (YkI _ (d:=0) (c:=0) (Zs _) h Zi Zi) (fun v5 fz5 H5 hle5 hR5=>?_))
 obtain ⟨_,b5,c5,rfl,rfl,hc5,hb5⟩:=hR5
 refine zW ?_;intros
 have hb:(b5=true)↔XVal x:=by rw [hb5];unfold XVal;simp only [Nat.zero_add]
 have hd:decide (XVal x)=b5:=by cases b5<;>simp_all
 exact zR (h:=by rw [hd])
def errV:Int→Value:=fun n=>if n=0 then .nilIface else .iface 60 (.int .i64 n)
theorem YF {n:Int} (h:n≠0):errV n=.iface 60 (.int .i64 n):=if_neg h
def ESmN (e:Lx.Expr):Prop:=e.args.length≤1000000000
def FSmN (f:Formula):Prop:=f.args.length≤1000000000∧f.params.length≤1000000000∧f.kids.length≤1000000000
abbrev ESm (e:Lx.Expr):Prop:=EAll ESmN e
abbrev FSm (f:Formula):Prop:=FAll FSmN ESmN f
theorem Ybh:∀ (s:Nat) {e:Lx.Expr},SizeOf.sizeOf e≤s→EOk e→ESm e→EShape e
 | 0,e,h,_,_=>by cases e;simp at h
 | s+1,e,h,h1,h2=>by
  have h3:=YbH.1 h1
  have h4:=YbH.1 h2
  rcases h3.1 with h5 | h5 | h5
  ·exact .num h5.1
  ·exact .flu h5.1 h4.1
  ·obtain ⟨a,b,hab⟩:∃ a b,e.kids=[a,b]:=by
    match hK:e.kids,h5.2.2.2.2 with
    | [a,b],_=>exact ⟨a,b,rfl⟩
   have ka:a∈e.kids:=by rw [hab];simp
   have kb:b∈e.kids:=by rw [hab];simp
   have la:=Lx.Expr.kids_lt ka
   have lb:=Lx.Expr.kids_lt kb
   refine .bin (fun h0=>?_) (fun h0=>?_) hab (Ybh s Zi (h3.2 a ka) (h4.2 a ka)) (Ybh s Zi (h3.2 b kb) (h4.2 b kb))
   ·have h6:=h5.1
    rw [h0] at h6
    rcases h6 with h6 | h6 | h6<;>exact absurd (congrArg ByteArray.size h6) Zh
   ·have h6:=h5.1
    rw [h0] at h6
    rcases h6 with h6 | h6 | h6<;>exact absurd (congrArg ByteArray.size h6) Zh
theorem YeL:∀ (s:Nat) {f:Formula},SizeOf.sizeOf f≤s→FOk f→FSm f→FShape f
 | 0,f,h,_,_=>by cases f;simp at h
 | s+1,f,h,h1,h2=>by
  have h3:=Wv.1 h1
  have h4:=Wv.1 h2
  by_cases k1:f.op=kAtom
  ·exact .atom (.inl k1) h4.1.1
  ·by_cases k2:f.op=kSame
   ·exact .atom (.inr k2) h4.1.1
   ·by_cases k3:CmpOp f.op
    ·obtain ⟨_,⟨k,hk,hr⟩,_⟩:=h3.1
     rw [YaU,if_neg (fun h0=>h0.elim k1 k2),if_pos k3] at hk
     cases hk
     obtain ⟨a,b,hab⟩:∃ a b,f.exprs=[a,b]:=by
      match hK:f.exprs,hr.2.1 with
      | [a,b],_=>exact ⟨a,b,rfl⟩
     have ka:a∈f.exprs:=by rw [hab];simp
     have kb:b∈f.exprs:=by rw [hab];simp
     exact .cmp k3 hab (Ybh _ (Zs _) (h3.2.1 a ka) (h4.2.1 a ka)) (Ybh _ (Zs _) (h3.2.1 b kb) (h4.2.1 b kb))
    ·exact .other k1 k2 k3 h4.1.2.1 h4.1.2.2 (fun k hk=>YeL s (by have:=Formula.kids_lt hk;omega) (h3.2.2 k hk) (h4.2.2 k hk))
theorem Ybg:∀ (s:Nat) {e:Lx.Expr},SizeOf.sizeOf e≤s→EOk e→ecount e≤xcount (XN e)∧edepth e≤xdepth (XN e)+1
 | 0,e,h,_=>by cases e;simp at h
 | s+1,e,h,h1=>by
  have h3:=YbH.1 h1
  rw [exprX_eq,YcT,YcS]
  split
  ·rename_i h0
   have hk:=((YhN h0).1 h3.1).2.2.1
   rw [hk]
   simp [ecountL,edepthL,numE,xcount,xcountL,xdepth]
  ·split
   ·rename_i h0
    have hk:=((YhO h0).1 h3.1).2.1
    rw [hk]
    simp [ecountL,edepthL,XT,YH,xcount,xdepth]
   ·rename_i k1 k2
    have h5:=(YhP k1 k2).1 h3.1
    obtain ⟨a,b,hab⟩:∃ a b,e.kids=[a,b]:=by
     match hK:e.kids,h5.2.2.2.2 with
     | [a,b],_=>exact ⟨a,b,rfl⟩
    have ka:a∈e.kids:=by rw [hab];simp
    have kb:b∈e.kids:=by rw [hab];simp
    have la:=Ybg s (by have:=Lx.Expr.kids_lt ka;omega) (h3.2 a ka)
    have lb:=Ybg s (by have:=Lx.Expr.kids_lt kb;omega) (h3.2 b kb)
    rw [hab]
    simp only [ecountL,edepthL,YH,xcount,xcountL,xdepth,xdepthL,List.map_cons,List.map_nil,Yh]
    simp
    omega
theorem YfU {l:List Formula} (h:∀ k∈l,fcount k≤xcount (Y9 k)):fcountL l≤xcountL (l.map Y9):=by
 induction l with
 | nil=>simp [fcountL]
 | cons a r ih=>
  have h1:=h a (by simp)
  have h2:=ih (fun k hk=>h k (by simp [hk]))
  simp only [fcountL,List.map_cons,xcountL];omega
theorem YfT {l:List Formula} (h:∀ k∈l,fdepth k≤xdepth (Y9 k)+1):fdepthL l≤xdepthL (l.map Y9)+1:=by
 induction l with
 | nil=>simp [fdepthL]
 | cons a r ih=>
  have h1:=h a (by simp)
  have h2:=ih (fun k hk=>h k (by simp [hk]))
  simp only [fdepthL,List.map_cons,xdepthL];omega
theorem YbA {l:List Sexpr}:xcount (YH l)=1+xcountL l:=by simp [YH,xcount]
theorem Ybz {l:List Sexpr}:xdepth (YH l)=xdepthL l+1:=by simp [YH,xdepth]
theorem Ydr:∀ (s:Nat) {f:Formula},SizeOf.sizeOf f≤s→FOk f→fcount f≤xcount (Y9 f)∧fdepth f≤xdepth (Y9 f)+1
 | 0,f,h,_=>by cases f;simp at h
 | s+1,f,h,h1=>by
  have h3:=Wv.1 h1
  obtain ⟨_,⟨k,hk,hr⟩,_⟩:=h3.1
  rw [Yd3,YeV,YeU]
  by_cases k1:f.op=kAtom
  ·rw [YaU,if_pos (.inl k1)] at hk
   cases hk
   rw [List.eq_nil_of_length_eq_zero hr.2.1,List.eq_nil_of_length_eq_zero hr.2.2.1,if_pos k1]
   simp [ecountL,edepthL,fcountL,fdepthL,XT,YbA,Ybz]
  ·by_cases k2:f.op=kSame
   ·rw [YaU,if_pos (.inr k2)] at hk
    cases hk
    rw [List.eq_nil_of_length_eq_zero hr.2.1,List.eq_nil_of_length_eq_zero hr.2.2.1,if_neg k1,if_pos k2]
    simp [ecountL,edepthL,fcountL,fdepthL,XT,YbA,Ybz]
   ·by_cases k3:CmpOp f.op
    ·rw [YaU,if_neg (fun h0=>h0.elim k1 k2),if_pos k3] at hk
     cases hk
     obtain ⟨a,b,hab⟩:∃ a b,f.exprs=[a,b]:=by
      match hK:f.exprs,hr.2.1 with
      | [a,b],_=>exact ⟨a,b,rfl⟩
     have la:=Ybg _ (Zs _) (h3.2.1 a (by rw [hab];simp))
     have lb:=Ybg _ (Zs _) (h3.2.1 b (by rw [hab];simp))
     rw [hab,List.eq_nil_of_length_eq_zero hr.2.2.1,if_neg k1,if_neg k2,if_pos k3]
     simp only [ecountL,edepthL,fcountL,fdepthL,YbA,Ybz,xcountL,xdepthL,List.map_cons,List.map_nil]
     omega
    ·have he:f.exprs=[]:=by
      refine List.eq_nil_of_length_eq_zero ?_
      rw [hr.2.1]
      rw [YaU,if_neg (fun h0=>h0.elim k1 k2),if_neg k3] at hk
      split at hk
      ·cases hk;rfl
      ·split at hk
       ·cases hk;rfl
       ·split at hk
        ·cases hk;rfl
        ·split at hk
         ·cases hk;rfl
         ·cases hk
     have c1:=YfU (l:=f.kids) (fun k hk=>(Ydr s (by have:=Formula.kids_lt hk;omega) (h3.2.2 k hk)).1)
     have c2:=YfT (l:=f.kids) (fun k hk=>(Ydr s (by have:=Formula.kids_lt hk;omega) (h3.2.2 k hk)).2)
     rw [he,if_neg k1,if_neg k2,if_neg k3,YbA,Ybz,Ycd,Ye9]
     simp only [ecountL,edepthL]
     omega
def FVal (f:Formula):Prop:=FOk f∧XVal (Y9 f)
def EVal (e:Lx.Expr):Prop:=EOk e∧XVal (XN e)
variable {f:Formula} {va ve vp:Value}
theorem Yjx (h:FormulaR fz f va vp ve vk) (hs:FSm f):
 QFn prog 86 [.agg #[.string f.op,.string f.name,va,vp,ve,vk]] fz (.bool (decide (FVal f))):=by
 obtain ⟨A,n,ca,rfl,ha⟩:=h.args
 obtain ⟨B,m,cb,rfl,hp⟩:=h.params
 obtain ⟨C,r,cr,rfl,he⟩:=h.exprs
 obtain ⟨D,q,cq,rfl,hk⟩:=h.kids
 refine GFn.quiet ?_
 refine zF Tryz.func86 Tryz.ntmps86 (fun w0=>?_)
 refine Yp (Yq (Yb Zz (Y3 _ Zz Zz (fun g0=>?_))))
 refine zW ?_;intros
 rename_i g1
 refine Yb Zz (Yl [_] [_] Zz Zz Zz (shaped_q (g:=g1) (d:=0) (c:=0) h Zi Zi) (fun v5 fz5 H5 hle5 hR5=>?_))
 obtain ⟨_,b5,c5,rfl,rfl,hc5,hb5⟩:=hR5
 cases b5
 ·refine zW ?_;intros
  (exact ret1 rfl rfl Zb (Ym (fun h0=>by
   have h1:=Ydr _ (Zs _) h0.1
   exact absurd (hb5.2 ⟨h0.1,by have:=h0.2.2.1;omega,by have:=h0.2.2.2;omega⟩) (by simp))))
 ·have hb:=hb5.1 rfl
  refine zW ?_;intros
  refine Seq.guard_yesK Zz Zz Zz (Yl [] _ Zz Zz Zz (YkB (h.mono hle5) (YeL _ (Zs _) hb.1 hs)) (fun v6 fz6 H6 hle6 hR6=>?_))
  obtain ⟨rfl,cs,rfl,hr⟩:=hR6
  obtain ⟨vk6,rfl,hX⟩:=YG hr
  refine zW ?_;intros
  refine zc (YdV hX) ?_
  refine zW ?_;intros
  have hd:decide (FVal f)=decide (XVal (Y9 f)):=decide_eq_decide.2 ⟨fun h0=>h0.2,fun h0=>⟨hb.1,h0⟩⟩
  exact zR (h:=by rw [hd])
theorem evalid_q {e:Lx.Expr} (h:ExprR fz e va vk) (hs:ESm e):
 QFn prog 209 [.agg #[.string e.op,.string e.name,.int .i64 e.n,va,vk]] fz (.bool (decide (EVal e))):=by
 obtain ⟨A,n,ca,rfl,ha⟩:=h.args
 obtain ⟨D,q,cq,rfl,hk⟩:=h.kids
 refine GFn.quiet ?_
 refine zF Tryz.func209 Tryz.ntmps209 (fun w0=>?_)
 refine Yp (Yq (Yb Zz (Y3 _ Zz Zz (fun g0=>?_))))
 refine zW ?_;intros
 rename_i g1
 refine Yb Zz (Yl [_] [_] Zz Zz Zz (Yjy (g:=g1) (d:=0) (c:=0) h Zi Zi) (fun v5 fz5 H5 hle5 hR5=>?_))
 obtain ⟨_,b5,c5,rfl,rfl,hc5,hb5⟩:=hR5
 cases b5
 ·refine zW ?_;intros
  (exact ret1 rfl rfl Zb (Ym (fun h0=>by
   have h1:=Ybg _ (Zs _) h0.1
   exact absurd (hb5.2 ⟨h0.1,by have:=h0.2.2.1;omega,by have:=h0.2.2.2;omega⟩) (by simp))))
 ·have hb:=hb5.1 rfl
  refine zW ?_;intros
  refine Seq.guard_yesK Zz Zz Zz (Yl [] _ Zz Zz Zz (We (h.mono hle5) (Ybh _ (Zs _) hb.1 hs)) (fun v6 fz6 H6 hle6 hR6=>?_))
  obtain ⟨rfl,cs,rfl,hr⟩:=hR6
  obtain ⟨vk6,rfl,hX⟩:=YG hr
  refine zW ?_;intros
  refine zc (YdV hX) ?_
  refine zW ?_;intros
  have hd:decide (EVal e)=decide (XVal (XN e)):=decide_eq_decide.2 ⟨fun h0=>h0.2,fun h0=>⟨hb.1,h0⟩⟩
  exact zR (h:=by rw [hd])
def YgM:Sexpr:=.mk 0 0 0 0 ⟨#[]⟩ []
theorem Ybo:SxIs fz (sxV 0 0 ⟨#[]⟩ (.slice none 0 0)) YgM:=⟨_,rfl,Yi (x:=YgM) ⟨XH,XH,XH,XH,Y5,IsSl.nil⟩⟩
def WrR (P:Prop) (x:Sexpr) (v:Value) (fz':FZ) (H':HP):Prop:=H'=[]∧∃ u y,v=.tuple #[u,errV (if P then 0 else 2)]∧SxIs fz' u y∧(P→y=x)
theorem YjD (h:FormulaR fz f va vp ve vk) (hs:FSm f):
 GFn prog 40 [.agg #[.string f.op,.string f.name,va,vp,ve,vk]] fz [] (WrR (FVal f) (Y9 f)):=by
 obtain ⟨A,n,ca,rfl,ha⟩:=h.args
 obtain ⟨B,m,cb,rfl,hp⟩:=h.params
 obtain ⟨C,r,cr,rfl,he⟩:=h.exprs
 obtain ⟨D,q,cq,rfl,hk⟩:=h.kids
 refine zF Tryz.func40 Tryz.ntmps40 (fun w0=>?_)
 refine Yp (Yq (Yb Zz (Y3 _ Zz Zz (fun g0=>?_))))
 refine zW ?_;intros
 rename_i g1
 refine zb (Yjx h hs) (fun f1=>?_) (fun f1=>?_)
 ·have hv:=Zt f1
  refine zW ?_;intros
  refine Yb Zz (Yl [] _ Zz Zz Zz (YkB h (YeL _ (Zs _) hv.1 hs)) (fun v6 fz6 H6 hle6 hR6=>?_))
  obtain ⟨rfl,cs,rfl,hr⟩:=hR6
  obtain ⟨vk6,rfl,hX⟩:=YG hr
  obtain ⟨A6,n6,b6,rfl,_⟩:=hX.kids
  refine zW ?_;intros
  refine Yem T (vs:=[.agg #[_,_,_,_,_,_],.nilIface]) Zz ⟨⟨_,_,0,_,_,_,rfl,rfl,rfl,rfl,rfl,rfl⟩,rfl,trivial⟩ (fun fz3 hle3 hf3=>?_)
  exact ⟨rfl,_,_,by rw [if_pos hv];rfl,SxIs.mono hle3 ⟨_,rfl,Yi hX⟩,fun _=>rfl⟩
 ·have hv:=Zf f1
  refine zW ?_;intros
  refine Yem T (vs:=[.agg #[_,_,_,_,_,_],_]) Zz ⟨⟨_,_,0,_,_,_,rfl,rfl,rfl,rfl,rfl,rfl⟩,rfl,trivial⟩ (fun fz3 hle3 hf3=>?_)
  exact ⟨rfl,_,_,by rw [if_neg hv,YF Zh];rfl,Ybo,fun h0=>absurd h0 hv⟩
theorem eWrite_q {e:Lx.Expr} (h:ExprR fz e va vk) (hs:ESm e):
 GFn prog 181 [.agg #[.string e.op,.string e.name,.int .i64 e.n,va,vk]] fz [] (WrR (EVal e) (XN e)):=by
 obtain ⟨A,n,ca,rfl,ha⟩:=h.args
 obtain ⟨D,q,cq,rfl,hk⟩:=h.kids
 refine zF Tryz.func181 Tryz.ntmps181 (fun w0=>?_)
 refine Yp (Yq (Yb Zz (Y3 _ Zz Zz (fun g0=>?_))))
 refine zW ?_;intros
 rename_i g1
 refine zb (evalid_q h hs) (fun f1=>?_) (fun f1=>?_)
 ·have hv:=Zt f1
  refine zW ?_;intros
  refine Yb Zz (Yl [] _ Zz Zz Zz (We h (Ybh _ (Zs _) hv.1 hs)) (fun v6 fz6 H6 hle6 hR6=>?_))
  obtain ⟨rfl,cs,rfl,hr⟩:=hR6
  obtain ⟨vk6,rfl,hX⟩:=YG hr
  obtain ⟨A6,n6,b6,rfl,_⟩:=hX.kids
  refine zW ?_;intros
  refine Yem T (vs:=[.agg #[_,_,_,_,_,_],.nilIface]) Zz ⟨⟨_,_,0,_,_,_,rfl,rfl,rfl,rfl,rfl,rfl⟩,rfl,trivial⟩ (fun fz3 hle3 hf3=>?_)
  exact ⟨rfl,_,_,by rw [if_pos hv];rfl,SxIs.mono hle3 ⟨_,rfl,Yi hX⟩,fun _=>rfl⟩
 ·have hv:=Zf f1
  refine zW ?_;intros
  refine Yem T (vs:=[.agg #[_,_,_,_,_,_],_]) Zz ⟨⟨_,_,0,_,_,_,rfl,rfl,rfl,rfl,rfl,rfl⟩,rfl,trivial⟩ (fun fz3 hle3 hf3=>?_)
  exact ⟨rfl,_,_,by rw [if_neg hv,YF Zh];rfl,Ybo,fun h0=>absurd h0 hv⟩
theorem toList_inj {a b:Bs}:a.toList=b.toList↔a=b:=by
 constructor
 ·intro h
  rw [ByteArray.toList_eq,ByteArray.toList_eq] at h
  cases a;cases b
  simp only [ByteArray.mk.injEq]
  exact Array.toList_inj.1 h
 ·intro h;rw [h]
theorem eq_param (a b c d:Bs) (w:World):(Op.equalIn 10000 136 (.agg #[.string a,.string b]) (.agg #[.string c,.string d])).run prog w=.ok (decide (a=c∧b=d)) w:=by
 have u3:=Tryz.underlying9
 have a3:=Tryz.isAgg9
 have z3:=Tryz.sizeOf9
 have hS:prog.underlying 136=some (.struct (prog.fieldsOf 136)):=by kernel_rfl
 rw [show (10000:Nat)=9999+1 from rfl,run_equalIn_agg w 9999 136 _ _ hS Zj]
 simp only [Program.fieldsOf,Tryz.underlying136]
 go_simp
 by_cases h1:a=c<;>by_cases h2:b=d<;>simp [h1,h2,toList_inj]
variable {H:HP} {x y:Operand}
theorem Yil {cx:Cx} {r:Operand→Option Value} {V:Value→Prop} {dst:Option Nat} {ty t':TypeId} {pos:String} {af:Array Edge} {gd:Option (Nat × Bool)} {a b:Param} (hx:r x=some (.agg #[.string a.name,.string a.typ])) (hy:r y=some (.agg #[.string b.name,.string b.typ]))
 (ht:a≠b→V (.bool true)) (hf:a=b→V (.bool false)):DoesQ prog cx ⟨dst,.binOp .neq 136 x y t',ty,pos,af,gd⟩ r fz H V:=by
 have hab:a=b↔(a.name=b.name∧a.typ=b.typ):=by
  cases a;cases b;simp
 have hV:V (.bool (!decide (a.name=b.name∧a.typ=b.typ))):=by
  by_cases h:a=b
  ·rw [decide_eq_true (hab.1 h)];exact hf h
  ·rw [decide_eq_false (fun h0=>h (hab.2 h0))];exact ht h
 refine DoesQ.of hV fun ρ w hr hw=>?_
 have hg:=run_eqGuard_agg (P:=prog) w .neq 136 x y #[.string a.name,.string a.typ] #[.string b.name,.string b.typ] Zj
 have hb:=run_neq_struct (P:=prog) w 136 #[.string a.name,.string a.typ] #[.string b.name,.string b.typ]
 rw [eq_param,Result.andThen_ok] at hb
 have:(execOp ρ ⟨dst,.binOp .neq 136 x y t',ty,pos,af,gd⟩).run prog w=.ok (.value (.bool (!decide (a.name=b.name∧a.typ=b.typ)))) w:=by
  simp only [execOp,hr _ _ hx,hr _ _ hy,Sem.run_bind,hg,hb,Result.andThen_ok,Sem.run_pure]
 rw [this]
 exact ⟨rfl,Fr.refl _ _⟩
theorem YbY {α:Type} {l m:List α} (hl:l.length=m.length) (h:∀ i,i<l.length→∀ x,l[i]?=some x→m[i]?=some x):l=m:=by
 apply List.ext_getElem?
 intro i
 by_cases hi:i<l.length
 ·have hx:l[i]?=some l[i]:=List.getElem?_eq_getElem hi
  rw [hx,h i hi _ hx]
 ·rw [List.getElem?_eq_none Zi,List.getElem?_eq_none Zi]
theorem YaR {α:Type} {p:Nat→α→Prop} {l:List α} {x:α} (h:∀ i,i<k→∀ x,l[i]?=some x→p i x) (hx:l[k]?=some x) (hp:p k x):∀ i,i<k+1→∀ x,l[i]?=some x→p i x:=fun i hi y hy=>by
 by_cases he:i=k
 ·subst he;rw [hx] at hy;cases hy;exact hp
 ·exact h i Zi y hy
theorem YjG {fz:FZ} {A B:Option Addr} {n c m d:Nat} {l1 l2} (h1:Sl strL fz A n c l1) (h2:Sl strL fz B m d l2):
 QFn prog 131 [.slice A n c,.slice B m d] fz (.bool (decide (l1=l2))):=by
 refine GFn.quiet ?_
 have k1:=h1.len
 have k2:=h2.len
 have k3:=h1.short
 have k4:=h2.short
 refine zF Tryz.func131 Tryz.ntmps131 (fun w0=>?_)
 refine zW ?_;intros
 refine zC (fun c1=>?_) (fun c1=>?_)
 ·refine zW ?_;intros
  exact ret1 rfl rfl Zb (Ym (fun h=>c1 (by rw [← k1,← k2,h])))
 ·refine zW ?_;intros
  refine Yk (fun q σ fz' H'=>∃ k:Nat,k≤n∧q=n - k∧σ=[(13,.int .i64 k),(12,.int .i64 n),(0,.slice A n c),(1,.slice B m d)]∧fz=fz'∧H'=[]∧(∀ i,i<k→∀ x,l1[i]?=some x→l2[i]?=some x)) ⟨0,Z0 _,rfl,rfl,rfl,rfl,fun i hi=>absurd hi Zi⟩ Zw Zb ?_
  rintro q σ fz' H' ⟨k,hk,rfl,rfl,rfl,rfl,hh⟩
  refine zW ?_;intros
  refine zC (fun c2=>?_) (fun c2=>?_)
  ·obtain ⟨x,hx⟩:=Yg (l:=l1) (k:=k) Zi
   obtain ⟨y,hy⟩:=Yg (l:=l2) (k:=k) Zi
   refine zW ?_;intros
   refine zI h1 hx (fun a ha=>?_)
   refine zH ha (fun sx=>?_)
   refine zW ?_;intros
   refine zI h2 hy (fun b hb=>?_)
   refine zH hb (fun sy=>?_)
   refine zW ?_;intros
   refine zC (fun e1=>?_) (fun e1=>?_)
   ·refine zW ?_;intros
    exact ret1 rfl rfl Zb (Ym (fun h=>e1 (by rw [h,hy] at hx;exact (Option.some.inj hx).symm)))
   ·refine zW ?_;intros
    exact YA ⟨k+1,by omega,rfl,rfl,rfl,rfl,YaR hh hx (by rw [hy,e1])⟩ Zi Zw Zb
  ·refine zW ?_;intros
   exact ret1 rfl rfl Zb (YC (YbY Zi (fun i hi x hx=>hh i Zi x hx)))
theorem equalP_q {fz:FZ} {A B:Option Addr} {n c m d:Nat} {l1 l2} (h1:Sl paramL fz A n c l1) (h2:Sl paramL fz B m d l2):
 QFn prog 132 [.slice A n c,.slice B m d] fz (.bool (decide (l1=l2))):=by
 refine GFn.quiet ?_
 have k1:=h1.len
 have k2:=h2.len
 have k3:=h1.short
 have k4:=h2.short
 refine zF Tryz.func132 Tryz.ntmps132 (fun w0=>?_)
 refine zW ?_;intros
 refine zC (fun c1=>?_) (fun c1=>?_)
 ·refine zW ?_;intros
  exact ret1 rfl rfl Zb (Ym (fun h=>c1 (by rw [← k1,← k2,h])))
 ·refine zW ?_;intros
  refine Yk (fun q σ fz' H'=>∃ k:Nat,k≤n∧q=n - k∧σ=[(13,.int .i64 k),(12,.int .i64 n),(0,.slice A n c),(1,.slice B m d)]∧fz=fz'∧H'=[]∧(∀ i,i<k→∀ x,l1[i]?=some x→l2[i]?=some x)) ⟨0,Z0 _,rfl,rfl,rfl,rfl,fun i hi=>absurd hi Zi⟩ Zw Zb ?_
  rintro q σ fz' H' ⟨k,hk,rfl,rfl,rfl,rfl,hh⟩
  refine zW ?_;intros
  refine zC (fun c2=>?_) (fun c2=>?_)
  ·obtain ⟨x,hx⟩:=Yg (l:=l1) (k:=k) Zi
   obtain ⟨y,hy⟩:=Yg (l:=l2) (k:=k) Zi
   refine zW ?_;intros
   refine zI h1 hx (fun a ha=>?_)
   ((refine zL ha ?_;intro cs1 hcs1;obtain ⟨rfl,hR1⟩:=YT hcs1))
   refine zW ?_;intros
   refine zI h2 hy (fun b hb=>?_)
   ((refine zL hb ?_;intro cs2 hcs2;obtain ⟨rfl,hR2⟩:=YT hcs2))
   refine zW ?_;intros
   (((refine zG ?_);refine Yil Zz Zz (fun e1=>?_) (fun e1=>?_)))
   ·refine zW ?_;intros
    exact ret1 rfl rfl Zb (Ym (fun h=>e1 (by rw [h,hy] at hx;exact (Option.some.inj hx).symm)))
   ·refine zW ?_;intros
    exact YA ⟨k+1,by omega,rfl,rfl,rfl,rfl,YaR hh hx (by rw [hy,e1])⟩ Zi Zw Zb
  ·refine zW ?_;intros
   exact ret1 rfl rfl Zb (YC (YbY Zi (fun i hi x hx=>hh i Zi x hx)))
variable {A B:Option Addr} {n:Nat}
theorem eqfE_q {m d:Nat} {l1 l2:List Lx.Expr} {ff:FuncId} (h1:Sl exprL fz A n c l1) (h2:Sl exprL fz B m d l2) (hq:∀ x y cs ds,x∈l1→exprL.rep fz x cs→exprL.rep fz y ds→QFn prog ff [.agg (List.toArray cs),.agg (List.toArray ds)] fz (.bool (decide (x=y)))):
 QFn prog 133 [.slice A n c,.slice B m d,.func (.func ff) #[] #[]] fz (.bool (decide (l1=l2))):=by
 refine GFn.quiet ?_
 have k1:=h1.len
 have k2:=h2.len
 have k3:=h1.short
 have k4:=h2.short
 refine zF Tryz.func133 Tryz.ntmps133 (fun w0=>?_)
 refine zW ?_;intros
 refine zC (fun c1=>?_) (fun c1=>?_)
 ·refine zW ?_;intros
  exact ret1 rfl rfl Zb (Ym (fun h=>c1 (by rw [← k1,← k2,h])))
 ·refine zW ?_;intros
  refine Yk (fun q σ fz' H'=>∃ k:Nat,k≤n∧q=n - k∧σ=[(17,.int .i64 k),(16,.int .i64 n),(15,.slice A n c),(2,.func (.func ff) #[] #[]),(1,.slice B m d)]∧fz=fz'∧H'=[]∧(∀ i,i<k→∀ x,l1[i]?=some x→l2[i]?=some x)) ⟨0,Z0 _,rfl,rfl,rfl,rfl,fun i hi=>absurd hi Zi⟩ Zw Zb ?_
  rintro q σ fz' H' ⟨k,hk,rfl,rfl,rfl,rfl,hh⟩
  refine zW ?_;intros
  refine zC (fun c2=>?_) (fun c2=>?_)
  ·obtain ⟨x,hx⟩:=Yg (l:=l1) (k:=k) Zi
   obtain ⟨y,hy⟩:=Yg (l:=l2) (k:=k) Zi
   refine zW ?_;intros
   refine zI h1 hx (fun a ha=>?_)
   refine zL ha ?_
   intro cs1 hcs1
   have hq1:=fun y ds=>hq x y cs1 ds (Zm hx) hcs1
   obtain ⟨u1,u2,rfl,hR1⟩:=YP hcs1
   ((obtain ⟨A1,n1,c1',rfl,ia1⟩:=hR1.args;obtain ⟨A2,n2,c2',rfl,ik1⟩:=hR1.kids))
   refine zW ?_;intros
   refine zI h2 hy (fun b hb=>?_)
   refine zL hb ?_
   intro cs2 hcs2
   have hq2:=hq1 y cs2 hcs2
   obtain ⟨w1,w2,rfl,hR2⟩:=YP hcs2
   ((obtain ⟨A3,n3,c3',rfl,ia2⟩:=hR2.args;obtain ⟨A4,n4,c4',rfl,ik2⟩:=hR2.kids))
   refine zW ?_;intros
   ((refine zG ?_);refine Wt Zz Zz Zz hq2 (fun e1=>?_) (fun e1=>?_))
   ·refine zW ?_;intros
    exact YA ⟨k+1,by omega,rfl,rfl,rfl,rfl,YaR hh hx (by rw [hy,e1])⟩ Zi Zw Zb
   ·refine zW ?_;intros
    exact ret1 rfl rfl Zb (Ym (fun h=>e1 (by rw [h,hy] at hx;exact (Option.some.inj hx).symm)))
  ·refine zW ?_;intros
   exact ret1 rfl rfl Zb (YC (YbY Zi (fun i hi x hx=>hh i Zi x hx)))
theorem eqfF_q {m d:Nat} {l1 l2:List Lx.Formula} {ff:FuncId} (h1:Sl formulaL fz A n c l1) (h2:Sl formulaL fz B m d l2) (hq:∀ x y cs ds,x∈l1→formulaL.rep fz x cs→formulaL.rep fz y ds→QFn prog ff [.agg (List.toArray cs),.agg (List.toArray ds)] fz (.bool (decide (x=y)))):
 QFn prog 135 [.slice A n c,.slice B m d,.func (.func ff) #[] #[]] fz (.bool (decide (l1=l2))):=by
 refine GFn.quiet ?_
 have k1:=h1.len
 have k2:=h2.len
 have k3:=h1.short
 have k4:=h2.short
 refine zF Tryz.func135 Tryz.ntmps135 (fun w0=>?_)
 refine zW ?_;intros
 refine zC (fun c1=>?_) (fun c1=>?_)
 ·refine zW ?_;intros
  exact ret1 rfl rfl Zb (Ym (fun h=>c1 (by rw [← k1,← k2,h])))
 ·refine zW ?_;intros
  refine Yk (fun q σ fz' H'=>∃ k:Nat,k≤n∧q=n - k∧σ=[(17,.int .i64 k),(16,.int .i64 n),(15,.slice A n c),(2,.func (.func ff) #[] #[]),(1,.slice B m d)]∧fz=fz'∧H'=[]∧(∀ i,i<k→∀ x,l1[i]?=some x→l2[i]?=some x)) ⟨0,Z0 _,rfl,rfl,rfl,rfl,fun i hi=>absurd hi Zi⟩ Zw Zb ?_
  rintro q σ fz' H' ⟨k,hk,rfl,rfl,rfl,rfl,hh⟩
  refine zW ?_;intros
  refine zC (fun c2=>?_) (fun c2=>?_)
  ·obtain ⟨x,hx⟩:=Yg (l:=l1) (k:=k) Zi
   obtain ⟨y,hy⟩:=Yg (l:=l2) (k:=k) Zi
   refine zW ?_;intros
   refine zI h1 hx (fun a ha=>?_)
   refine zL ha ?_
   intro cs1 hcs1
   have hq1:=fun y ds=>hq x y cs1 ds (Zm hx) hcs1
   obtain ⟨u1,u2,u3,u4,rfl,hR1⟩:=YM hcs1
   ((obtain ⟨A1,n1,c1',rfl,ia1⟩:=hR1.args;obtain ⟨A2,n2,c2',rfl,ip1⟩:=hR1.params;obtain ⟨A3,n3,c3',rfl,ie1⟩:=hR1.exprs;obtain ⟨A4,n4,c4',rfl,ik1⟩:=hR1.kids))
   refine zW ?_;intros
   refine zI h2 hy (fun b hb=>?_)
   refine zL hb ?_
   intro cs2 hcs2
   have hq2:=hq1 y cs2 hcs2
   obtain ⟨w1,w2,w3,w4,rfl,hR2⟩:=YM hcs2
   ((obtain ⟨A5,n5,c5',rfl,ia2⟩:=hR2.args;obtain ⟨A6,n6,c6',rfl,ip2⟩:=hR2.params;obtain ⟨A7,n7,c7',rfl,ie2⟩:=hR2.exprs;obtain ⟨A8,n8,c8',rfl,ik2⟩:=hR2.kids))
   refine zW ?_;intros
   ((refine zG ?_);refine Wt Zz Zz Zz hq2 (fun e1=>?_) (fun e1=>?_))
   ·refine zW ?_;intros
    exact YA ⟨k+1,by omega,rfl,rfl,rfl,rfl,YaR hh hx (by rw [hy,e1])⟩ Zi Zw Zb
   ·refine zW ?_;intros
    exact ret1 rfl rfl Zb (Ym (fun h=>e1 (by rw [h,hy] at hx;exact (Option.some.inj hx).symm)))
  ·refine zW ?_;intros
   exact ret1 rfl rfl Zb (YC (YbY Zi (fun i hi x hx=>hh i Zi x hx)))
theorem Yb5 {a b:Lx.Expr}:a=b↔a.op=b.op∧a.name=b.name∧a.n=b.n∧a.args=b.args∧a.kids=b.kids:=by
 cases a;cases b;simp only [Lx.Expr.op,Lx.Expr.name,Lx.Expr.n,Lx.Expr.args,Lx.Expr.kids,Lx.Expr.mk.injEq]
theorem YbD {a b:Formula}:a=b↔a.op=b.op∧a.name=b.name∧a.args=b.args∧a.params=b.params∧a.exprs=b.exprs∧a.kids=b.kids:=by
 cases a;cases b;simp only [Formula.op,Formula.name,Formula.args,Formula.params,Formula.exprs,Formula.kids,Formula.mk.injEq]
theorem Yfr:∀ (s:Nat) {fz:FZ} {a b:Lx.Expr} {va vk wa wk:Value},SizeOf.sizeOf a≤s→ExprR fz a va vk→ExprR fz b wa wk→
 QFn prog 134 [.agg #[.string a.op,.string a.name,.int .i64 a.n,va,vk],.agg #[.string b.op,.string b.name,.int .i64 b.n,wa,wk]] fz (.bool (decide (a=b)))
 | 0,_,e,_,_,_,_,_,hs,_,_=>by cases e;simp at hs
 | s+1,fz,a,b,va,vk,wa,wk,hs,hR1,hR2=>by
  refine GFn.quiet ?_
  ((obtain ⟨A1,n1,c1',rfl,ia1⟩:=hR1.args;obtain ⟨A2,n2,c2',rfl,ik1⟩:=hR1.kids))
  ((obtain ⟨A3,n3,c3',rfl,ia2⟩:=hR2.args;obtain ⟨A4,n4,c4',rfl,ik2⟩:=hR2.kids))
  refine zF Tryz.func134 Tryz.ntmps134 (fun w0=>?_)
  refine Yp (Yq (Yb Zz (Y3 _ Zz Zz (fun g0=>?_))))
  refine Yb Zz (Y3 _ Zz Zz (fun g1=>?_))
  refine zW ?_;intros
  (((refine zC (fun e1=>?_) (fun e1=>?_));rotate_left 1;((refine zW ?_;intros);(exact ret1 rfl rfl Zb (Ym (fun h=>e1 (Yb5.1 h).1))));(refine zW ?_;intros)))
  (((refine zC (fun e2=>?_) (fun e2=>?_));rotate_left 1;((refine zW ?_;intros);(exact ret1 rfl rfl Zb (Ym (fun h=>e2 (Yb5.1 h).2.1))));(refine zW ?_;intros)))
  (((refine zC (fun e3=>?_) (fun e3=>?_));rotate_left 1;((refine zW ?_;intros);(exact ret1 rfl rfl Zb (Ym (fun h=>e3 (Yb5.1 h).2.2.1))));(refine zW ?_;intros)))
  refine zb (YjG ia1 ia2) (fun f1=>?_) (fun f1=>?_)
  ·refine zW ?_;intros
   ((refine zG ?_);refine XY Zz Zz (eqfE_q ik1 ik2 (fun x y cs ds hx h1 h2=>by
    obtain ⟨u1,u2,rfl,h3⟩:=YP h1
    obtain ⟨w1,w2,rfl,h4⟩:=YP h2
    exact Yfr s (by have:=Lx.Expr.kids_lt hx;omega) h3 h4)) (fun f2=>?_) (fun f2=>?_))
   ·refine zW ?_;intros
    exact ret1 rfl rfl Zb (YC (Yb5.2 ⟨e1,e2,e3,Zt f1,Zt f2⟩))
   ·refine zW ?_;intros
    exact ret1 rfl rfl Zb (Ym (fun h=>Zf f2 (Yb5.1 h).2.2.2.2))
  ·refine zW ?_;intros
   exact ret1 rfl rfl Zb (Ym (fun h=>Zf f1 (Yb5.1 h).2.2.2.1))
theorem same_f:∀ (s:Nat) {fz:FZ} {a b:Formula} {va vp ve vk wa wp we wk:Value},SizeOf.sizeOf a≤s→FormulaR fz a va vp ve vk→FormulaR fz b wa wp we wk→
 QFn prog 81 [.agg #[.string a.op,.string a.name,va,vp,ve,vk],.agg #[.string b.op,.string b.name,wa,wp,we,wk]] fz (.bool (decide (a=b)))
 | 0,_,e,_,_,_,_,_,_,_,_,_,hs,_,_=>by cases e;simp at hs
 | s+1,fz,a,b,va,vp,ve,vk,wa,wp,we,wk,hs,hR1,hR2=>by
  refine GFn.quiet ?_
  ((obtain ⟨A1,n1,c1',rfl,ia1⟩:=hR1.args;obtain ⟨A2,n2,c2',rfl,ip1⟩:=hR1.params;obtain ⟨A3,n3,c3',rfl,ie1⟩:=hR1.exprs;obtain ⟨A4,n4,c4',rfl,ik1⟩:=hR1.kids))
  ((obtain ⟨A5,n5,c5',rfl,ia2⟩:=hR2.args;obtain ⟨A6,n6,c6',rfl,ip2⟩:=hR2.params;obtain ⟨A7,n7,c7',rfl,ie2⟩:=hR2.exprs;obtain ⟨A8,n8,c8',rfl,ik2⟩:=hR2.kids))
  refine zF Tryz.func81 Tryz.ntmps81 (fun w0=>?_)
  refine Yp (Yq (Yb Zz (Y3 _ Zz Zz (fun g0=>?_))))
  refine Yb Zz (Y3 _ Zz Zz (fun g1=>?_))
  refine zW ?_;intros
  (((refine zC (fun e1=>?_) (fun e1=>?_));rotate_left 1;((refine zW ?_;intros);(exact ret1 rfl rfl Zb (Ym (fun h=>e1 (YbD.1 h).1))));(refine zW ?_;intros)))
  (((refine zC (fun e2=>?_) (fun e2=>?_));rotate_left 1;((refine zW ?_;intros);(exact ret1 rfl rfl Zb (Ym (fun h=>e2 (YbD.1 h).2.1))));(refine zW ?_;intros)))
  refine zb (YjG ia1 ia2) (fun f1=>?_) (fun f1=>?_)
  ·refine zW ?_;intros
   refine zb (equalP_q ip1 ip2) (fun f2=>?_) (fun f2=>?_)
   ·refine zW ?_;intros
    ((refine zG ?_);refine XY Zz Zz (eqfE_q ie1 ie2 (fun x y cs ds hx h1 h2=>by
     obtain ⟨u1,u2,rfl,h3⟩:=YP h1
     obtain ⟨w1,w2,rfl,h4⟩:=YP h2
     exact Yfr _ (Zs _) h3 h4)) (fun f3=>?_) (fun f3=>?_))
    ·refine zW ?_;intros
     ((refine zG ?_);refine XY Zz Zz (eqfF_q ik1 ik2 (fun x y cs ds hx h1 h2=>by
      obtain ⟨u1,u2,u3,u4,rfl,h3⟩:=YM h1
      obtain ⟨w1,w2,w3,w4,rfl,h4⟩:=YM h2
      exact same_f s (by have:=Formula.kids_lt hx;omega) h3 h4)) (fun f4=>?_) (fun f4=>?_))
     ·refine zW ?_;intros
      exact ret1 rfl rfl Zb (YC (YbD.2 ⟨e1,e2,Zt f1,Zt f2,Zt f3,Zt f4⟩))
     ·refine zW ?_;intros
      exact ret1 rfl rfl Zb (Ym (fun h=>Zf f4 (YbD.1 h).2.2.2.2.2))
    ·refine zW ?_;intros
     exact ret1 rfl rfl Zb (Ym (fun h=>Zf f3 (YbD.1 h).2.2.2.2.1))
   ·refine zW ?_;intros
    exact ret1 rfl rfl Zb (Ym (fun h=>Zf f2 (YbD.1 h).2.2.2.1))
  ·refine zW ?_;intros
   exact ret1 rfl rfl Zb (Ym (fun h=>Zf f1 (YbD.1 h).2.2.1))
theorem Yei {a b:Formula} {wa wp we wk:Value} (hR1:FormulaR fz a va vp ve vk) (hR2:FormulaR fz b wa wp we wk):
 QFn prog 81 [.agg #[.string a.op,.string a.name,va,vp,ve,vk],.agg #[.string b.op,.string b.name,wa,wp,we,wk]] fz (.bool (decide (a=b))):=same_f _ (Zs _) hR1 hR2
def Y8:Formula:=.mk kAnd ⟨#[]⟩ [] [] [] []
theorem Ww:FormulaR fz Y8 (.slice none 0 0) (.slice none 0 0) (.slice none 0 0) (.slice none 0 0):=⟨by unfold Short Y8;decide,Y5,IsSl.nil,IsSl.nil,IsSl.nil,IsSl.nil⟩
def Yav:Value:=.agg #[.string kAnd,.string ⟨#[]⟩,.slice none 0 0,.slice none 0 0,.slice none 0 0,.slice none 0 0]
theorem YcW:QFn prog 82 [] fz Yav:=by
 refine GFn.quiet ?_
 refine zF Tryz.func82 Tryz.ntmps82 (fun w0=>?_)
 refine zW ?_;intros
 exact XX T (i:=0) rfl Zz Zz Zz Zz Zz (fun _ hi=>⟨_,[],hi.forget (List.nil_sublist _),rfl⟩)
theorem YhK:ExprR fz (.mk ⟨#[]⟩ ⟨#[]⟩ 0 [] []) (.slice none 0 0) (.slice none 0 0):=⟨Y5,Y5,XH,IsSl.nil,IsSl.nil⟩
theorem YeY {a b:Lx.Expr} {wa wk:Value} (hR1:ExprR fz a va vk) (hR2:ExprR fz b wa wk):
 QFn prog 180 [.agg #[.string a.op,.string a.name,.int .i64 a.n,va,vk],.agg #[.string b.op,.string b.name,.int .i64 b.n,wa,wk]] fz (.bool (decide (a=b))):=by
 refine GFn.quiet ?_
 ((obtain ⟨A1,n1,c1',rfl,ia1⟩:=hR1.args;obtain ⟨A2,n2,c2',rfl,ik1⟩:=hR1.kids))
 ((obtain ⟨A3,n3,c3',rfl,ia2⟩:=hR2.args;obtain ⟨A4,n4,c4',rfl,ik2⟩:=hR2.kids))
 refine zF Tryz.func180 Tryz.ntmps180 (fun w0=>?_)
 refine Yp (Yq (Yb Zz (Y3 _ Zz Zz (fun g0=>?_))))
 refine Yb Zz (Y3 _ Zz Zz (fun g1=>?_))
 refine zW ?_;intros
 refine Yb Zz (Yc T (cs:=[.string a.op,.string a.name,.int .i64 a.n,.slice A1 n1 c1',.slice A2 n2 c2']) Zz Zz Zz Zz Zz Zz Zz Zz (fun gA=>?_))
 refine zW ?_;intros
 refine Yb Zz (Yc T (cs:=[.string b.op,.string b.name,.int .i64 b.n,.slice A3 n3 c3',.slice A4 n4 c4']) Zz Zz Zz Zz Zz Zz Zz Zz (fun gB=>?_))
 refine zW ?_;intros
 first | refine Wp.freeze Zz (fun fz1 hl1 hg1=>?_) | refine Seq.freeze Zz (fun fz1 hl1 hg1=>?_)
 first | refine Wp.freeze Zz (fun fz2 hl2 hg2=>?_) | refine Seq.freeze Zz (fun fz2 hl2 hg2=>?_)
 have s1:Sl exprL fz2 (some ⟨gA,0,none⟩) 1 1 [a]:=Xg (ys:=[(a,_)]) hg2 (by simp;rfl) rfl (by simpa using YaC (hR1.mono (hl1.trans hl2))) rfl Zh
 have s2:Sl exprL fz2 (some ⟨gB,0,none⟩) 1 1 [b]:=Xg (ys:=[(b,_)]) (hl2 _ _ hg1) (by simp;rfl) rfl (by simpa using YaC (hR2.mono (hl1.trans hl2))) rfl Zh
 ((refine zG ?_);refine YB Zz Zz (Yei (a:=.mk ⟨#[]⟩ ⟨#[]⟩ [] [] [a] []) (b:=.mk ⟨#[]⟩ ⟨#[]⟩ [] [] [b] []) ⟨Y5,Y5,IsSl.nil,IsSl.nil,s1.is,IsSl.nil⟩ ⟨Y5,Y5,IsSl.nil,IsSl.nil,s2.is,IsSl.nil⟩) ?_)
 refine zW ?_;intros
 exact zR (h:=by simp)
end Go.Proofs.YtbnpeechpebmeaaGreatDoor
