/- The texts PWalkF, PBytes, PWalkG, PWalkH, PWalkI, PWalkJ, PText, PBuild, UB, laid together. Conditions: none. -/
import Derived.Test.YtbdpaoikccabhaaGreatDoorEAF
import Derived.Lib.AppendStr
import Derived.Lib.UnsafeStr
import Derived.Lib.Join
import Derived.Lib.ItoaNum
import Derived.Lib.ItoaMem
import Derived.Lib.Repeat
import Derived.Laws.StructEq
import Derived.Tactics
import Derived.Laws.StandIn
import Derived.Lib.Bytealg
import Derived.Lib.ConvBytes
import Derived.Laws.BytesArg
set_option linter.all false
set_option maxHeartbeats 4000000
noncomputable section
set_option maxRecDepth 20000
open Go.Lx Go.RowKit
attribute [local instance 10] Classical.propDecidable
open Go.Proofs.Tryz (prog)
namespace Go.Proofs.YtbdpaoikccabhaaGreatDoor
variable {c g:Nat} {f:Formula} {fz:FZ} {va ve vk vp:Value}
def kOr:Bs:=⟨#[111,114]⟩
def kNot:Bs:=⟨#[110,111,116]⟩
def kImply:Bs:=⟨#[105,109,112,108,121]⟩
def WW (f:Formula):Option (Nat × Bool × Nat):=
 if f.op=kAtom\/f.op=kSame then some (0,false,0) else if CmpOp f.op then some (2,false,0) else if f.op=kAnd\/f.op=kOr then some (0,false,f.kids.length) else if f.op=kNot then some (0,false,1)
 else if f.op=kImply then some (0,false,2) else if f.op=kForall\/f.op=kExists then some (0,true,1) else none
def fhead (f:Formula):Prop:=(f.op=kAtom->Xk f.name)/\(f.op=kSame->f.name=YaD/\f.args.length=2)/\(f.op=kAtom\/f.op=kSame->∀ s∈f.args,Yfm s)
def frest (f:Formula) (k:Nat × Bool × Nat):Prop:=(f.op≠kAtom->f.op≠kSame->f.name=YaD/\f.args=[])/\f.exprs.length=k.1/\f.kids.length=k.2.2/\(k.2.1=false->f.params=[])
def YqI (f:Formula):Prop:=fhead f/\(∃ k,WW f=some k/\frest f k)/\∀ p∈f.params,VarP p.name/\YdE p.typ
abbrev FOk (f:Formula):Prop:=FAll YqI YfP f
def FBud (g:Nat) (f:Formula) (d c:Nat) (v:Value) (H':HP):Prop:=
 ∃ (b:Bool) (c':Int),v=Zo b/\H'=[(g,budO c')]/\(b=true->c'=((c+fcount f:Nat):Int))/\(b=true↔FOk f/\d+fdepth f<=33/\c+fcount f<=4096)
theorem Yi4 {d:Nat} {c':Int} (h:¬(FOk f/\d+fdepth f<=33/\c+fcount f<=4096)):FBud g f d c (Zo false) [(g,budO c')]:=⟨false,c',rfl,rfl,(by simp),iff_of_false (by simp) h⟩
theorem YaI {α:Type} {l:List α} {n:Nat} (h:l.length=n):(0:Int)<(n:Int)↔l≠ []:=by
 constructor
 ·intro h0 h1;subst h1;simp at h;omega
 intro h0;have:=List.length_pos_iff.2 h0;omega
theorem Ymg:∀ (s:Nat) {fz:FZ} {f:Formula} {va vp ve vk:Value} {g d c:Nat},SizeOf.sizeOf f<=s->FormulaR fz f va vp ve vk->d<=33->c<=4096->
 GFn prog 186 [.agg #[Zy f.op,Zy f.name,va,vp,ve,vk],Zk d,Zp g] fz [(g,budO c)] (fun v fz' H'=>Le fz fz'/\FBud g f d c v H')
 | 0,_,e,_,_,_,_,_,_,_,hs,_,_,_=>by cases e;simp at hs
 | s+1,fz,f,va,vp,ve,vk,g,d,c,hs,h,hd,hc=>by
  obtain ⟨⟨A,n,ca,rfl,ha⟩,⟨B,m,cb,rfl,hp⟩,⟨C,r,cr,rfl,he⟩,⟨D,q,cq,rfl,hk⟩⟩:=h.sls;have no:∀ {c':Int},¬YqI f->FBud g f d c (Zo false) [(g,budO c')]:=fun h0=>Yi4 (fun h1=>h0 (WQ.1 h1.1).1)
  refine zF Tryz.func186 Tryz.ntmps186 (fun w0=>?_);refine pX (fun g0=>?_)
  first | refine Wp.perm (List.Perm.swap _ _ _) ?_ | refine Seq.perm (List.Perm.swap _ _ _) ?_
  refine zW ?_;refine Yd (Yk [_] [_] Zz (take_q (c:=c) Zi) (fun v fz2 H2 hle2 hR=>?_));obtain ⟨hle3,rfl,b,rfl,hb⟩:=hR;cases b
  ·refine zW ?_
   (exact ret1 rfl rfl Zb ⟨hle2,Yi4 (fun h0=>by
    have h1:=Yer f;have h2:=Yg1 f;exact absurd (hb.2 ⟨by omega,by omega⟩) (by simp))⟩)
  have ht:=hb.1 rfl;refine zWO ?_;refine Wh ?_;refine YbN ?_;refine Ydt ?_;refine YN (Yai ?_);refine zWO ?_;refine YN (Xe (fun σ fz' H'=>∃ (ex:Nat) (pa:Bool) (mn:Nat),σ=[(9,Zk mn),(8,Zo pa),(7,Zk ex),(3,Zp g0),(2,Zp g),(1,Zk d)]/\fz2=fz'/\
   H'=[(g,budO (c+1:Nat)),(g0,Zu #[Zy f.op,Zy f.name,Zc A n ca,Zc B m cb,Zc C r cr,Zc D q cq] 35)]/\fhead f/\WW f=some (ex,pa,mn)) ?_ ?_)
  ·refine wC (fun x1=>?_) (fun y1=>?_)
   ·have y2:¬f.op=⟨#[115,97,109,101]⟩:=fun h0=>absurd (congrArg (fun s=>Ya2 s 0) (x1.symm.trans h0)) Zh
    refine wb (YaY h.name) (fun f1=>?_) (fun f1=>?_)
    ·refine wG ?_;refine XS (YcE (ha.mono hle2) (fun x hx=>YjI hx)) (fun f2=>?_) (fun f2=>?_)
     ·refine zW ?_
      (exact ret1 rfl rfl Zb ⟨hle2,no (fun h0=>by
       obtain ⟨x,hx,hx2⟩:=Zt f2;exact hx2 (h0.1.2.2 (.inl x1) x hx))⟩)
     exact wN (h:=by exact ⟨0,false,0,rfl,rfl,rfl,⟨fun _=>Zt f1,fun h0=>absurd h0 y2,fun _ x hx=>Classical.byContradiction fun h0=>Zf f2 ⟨x,hx,h0⟩⟩,if_pos (.inl x1)⟩)
    refine zW ?_;exact ret1 rfl rfl Zb ⟨hle2,no (fun h0=>Zf f1 (h0.1.1 x1))⟩
   refine wC (fun x2=>?_) (fun y2=>?_)
   ·refine zW ?_;refine zC ?_ ?_<;>intro n1
    ·refine zW ?_;exact ret1 rfl rfl Zb ⟨hle2,no (fun h0=>n1 (h0.1.2.1 x2).1)⟩
    refine zW ?_;refine zC ?_ ?_<;>intro n2
    ·refine zW ?_;exact ret1 rfl rfl Zb ⟨hle2,no (fun h0=>n2 (by have:=(h0.1.2.1 x2).2;have:=ha.len;omega))⟩
    refine wG ?_;refine XS (YcE (ha.mono hle2) (fun x hx=>YjI hx)) (fun f2=>?_) (fun f2=>?_)
    ·refine zW ?_
     (exact ret1 rfl rfl Zb ⟨hle2,no (fun h0=>by
      obtain ⟨x,hx,hx2⟩:=Zt f2;exact hx2 (h0.1.2.2 (.inr x2) x hx))⟩)
    exact wN (h:=by exact ⟨0,false,0,rfl,rfl,rfl,⟨fun h0=>absurd h0 y1,fun _=>⟨n1,by have:=ha.len;omega⟩,fun _ x hx=>Classical.byContradiction fun h0=>Zf f2 ⟨x,hx,h0⟩⟩,if_pos (.inr x2)⟩)
   have hh:fhead f:=⟨fun h0=>absurd h0 y1,fun h0=>absurd h0 y2,fun h0=>(h0.elim y1 y2).elim⟩;have k0:¬(f.op=kAtom\/f.op=kSame):=fun h0=>h0.elim y1 y2
   refine wC (fun x3=>?_) (fun y3=>?_)
   ·exact wN (h:=by exact ⟨2,false,0,rfl,rfl,rfl,hh,(if_neg k0).trans (if_pos (.inl x3))⟩)
   refine wC (fun x4=>?_) (fun y4=>?_)
   ·exact wN (h:=by exact ⟨2,false,0,rfl,rfl,rfl,hh,(if_neg k0).trans (if_pos (.inr (.inl x4)))⟩)
   refine wC (fun x5=>?_) (fun y5=>?_)
   ·exact wN (h:=by exact ⟨2,false,0,rfl,rfl,rfl,hh,(if_neg k0).trans (if_pos (.inr (.inr x5)))⟩)
   have k1:¬CmpOp f.op:=fun h0=>h0.elim y3 (fun h0=>h0.elim y4 y5)
   refine wC (fun x6=>?_) (fun y6=>?_)
   ·exact wN (h:=by exact ⟨0,false,q,rfl,rfl,rfl,hh,(if_neg k0).trans ((if_neg k1).trans ((if_pos (.inl x6)).trans (by rw [hk.len])))⟩)
   refine wC (fun x7=>?_) (fun y7=>?_)
   ·exact wN (h:=by exact ⟨0,false,q,rfl,rfl,rfl,hh,(if_neg k0).trans ((if_neg k1).trans ((if_pos (.inr x7)).trans (by rw [hk.len])))⟩)
   have k2:¬(f.op=kAnd\/f.op=kOr):=fun h0=>h0.elim y6 y7
   refine wC (fun x8=>?_) (fun y8=>?_)
   ·exact wN (h:=by exact ⟨0,false,1,rfl,rfl,rfl,hh,(if_neg k0).trans ((if_neg k1).trans ((if_neg k2).trans (if_pos x8)))⟩)
   refine wC (fun x9=>?_) (fun y9=>?_)
   ·exact wN (h:=by exact ⟨0,false,2,rfl,rfl,rfl,hh,(if_neg k0).trans ((if_neg k1).trans ((if_neg k2).trans ((if_neg y8).trans (if_pos x9))))⟩)
   refine wC ?_ ?_<;>intro z1
   ·refine zW ?_;exact wN (h:=by exact ⟨0,true,1,rfl,rfl,rfl,hh,(if_neg k0).trans ((if_neg k1).trans ((if_neg k2).trans ((if_neg y8).trans ((if_neg y9).trans (if_pos (.inl z1))))))⟩)
   refine zW ?_;refine zC ?_ ?_<;>intro z2
   ·refine zW ?_;exact midN ⟨0,true,1,rfl,rfl,rfl,hh,(if_neg k0).trans ((if_neg k1).trans ((if_neg k2).trans ((if_neg y8).trans ((if_neg y9).trans (if_pos (.inr z2))))))⟩ Zw Zb
   have k3:WW f=none:=(if_neg k0).trans ((if_neg k1).trans ((if_neg k2).trans ((if_neg y8).trans ((if_neg y9).trans (if_neg (fun h0=>h0.elim z1 z2))))));refine zW ?_;exact ret1 rfl rfl Zb ⟨hle2,no (fun h0=>by obtain ⟨_,⟨k,h1,_⟩,_⟩:=h0;rw [k3] at h1;cases h1)⟩
  rintro σ fz' H' ⟨ex,pa,mn,rfl,rfl,rfl,hh,hkind⟩;have no2:YqI f->¬¬frest f (ex,pa,mn):=fun h0 h1=>by
   obtain ⟨_,⟨k,h2,h3⟩,_⟩:=h0;rw [hkind] at h2;cases h2;exact h1 h3
  refine YN (Xe (fun σ fz' H'=>σ=[(3,Zp g0),(2,Zp g),(1,Zk d)]/\fz2=fz'/\
   H'=[(g,budO (c+1:Nat)),(g0,Zu #[Zy f.op,Zy f.name,Zc A n ca,Zc B m cb,Zc C r cr,Zc D q cq] 35)]/\frest f (ex,pa,mn)) ?_ ?_)
  ·refine zW ?_;refine zC ?_ ?_<;>intro x1
   ·refine zW ?_;refine zC ?_ ?_<;>intro x2
    ·refine zW ?_;refine zC ?_ ?_<;>intro x3
     ·refine zW ?_;exact ret1 rfl rfl Zb ⟨hle2,no (fun h0=>no2 h0 (fun h1=>x3 (h1.1 x1 x2).1))⟩
     refine zW ?_;refine zC ?_ ?_<;>intro x4
     ·refine zW ?_;exact ret1 rfl rfl Zb ⟨hle2,no (fun h0=>no2 h0 (fun h1=>(YaI ha.len).1 x4 (h1.1 x1 x2).2))⟩
     refine zW ?_;refine zC ?_ ?_<;>intro w1
     ·refine zW ?_;exact ret1 rfl rfl Zb ⟨hle2,no (fun h0=>no2 h0 (fun h1=>w1 (by have:=h1.2.1;have:=he.len;simp only at*;omega)))⟩
     refine zW ?_;refine zC ?_ ?_<;>intro w2
     ·refine zW ?_;exact ret1 rfl rfl Zb ⟨hle2,no (fun h0=>no2 h0 (fun h1=>w2 (by have:=h1.2.2.1;have:=hk.len;simp only at*;omega)))⟩
     refine zW ?_;refine zC ?_ ?_<;>intro w3
     ·cases pa
      ·refine zW ?_;exact ret1 rfl rfl Zb ⟨hle2,no (fun h0=>no2 h0 (fun h1=>(YaI hp.len).1 w3 (h1.2.2.2 rfl)))⟩
      refine zW ?_;exact midN ⟨rfl,rfl,rfl,fun _ _=>⟨x3,Classical.byContradiction fun h1=>x4 ((YaI ha.len).2 h1)⟩,by have:=he.len;simp only;omega,by have:=hk.len;simp only;omega,fun h0=>by cases h0⟩ Zw Zb
     refine zW ?_;exact midN ⟨rfl,rfl,rfl,fun _ _=>⟨x3,Classical.byContradiction fun h1=>x4 ((YaI ha.len).2 h1)⟩,by have:=he.len;simp only;omega,by have:=hk.len;simp only;omega,fun _=>Classical.byContradiction fun h1=>w3 ((YaI hp.len).2 h1)⟩ Zw Zb
    refine zW ?_;refine zC ?_ ?_<;>intro w1
    ·refine zW ?_;exact ret1 rfl rfl Zb ⟨hle2,no (fun h0=>no2 h0 (fun h1=>w1 (by have:=h1.2.1;have:=he.len;simp only at*;omega)))⟩
    refine zW ?_;refine zC ?_ ?_<;>intro w2
    ·refine zW ?_;exact ret1 rfl rfl Zb ⟨hle2,no (fun h0=>no2 h0 (fun h1=>w2 (by have:=h1.2.2.1;have:=hk.len;simp only at*;omega)))⟩
    refine zW ?_;refine zC ?_ ?_<;>intro w3
    ·cases pa
     ·refine zW ?_;exact ret1 rfl rfl Zb ⟨hle2,no (fun h0=>no2 h0 (fun h1=>(YaI hp.len).1 w3 (h1.2.2.2 rfl)))⟩
     refine zW ?_;exact wN (h:=by exact ⟨rfl,rfl,rfl,fun _ h0=>absurd x2 h0,by have:=he.len;simp only;omega,by have:=hk.len;simp only;omega,fun h0=>by cases h0⟩)
    refine zW ?_;exact midN ⟨rfl,rfl,rfl,fun _ h0=>absurd x2 h0,by have:=he.len;simp only;omega,by have:=hk.len;simp only;omega,fun _=>Classical.byContradiction fun h1=>w3 ((YaI hp.len).2 h1)⟩ Zw Zb
   refine zW ?_;refine zC ?_ ?_<;>intro w1
   ·refine zW ?_;exact ret1 rfl rfl Zb ⟨hle2,no (fun h0=>no2 h0 (fun h1=>w1 (by have:=h1.2.1;have:=he.len;simp only at*;omega)))⟩
   refine zW ?_;refine zC ?_ ?_<;>intro w2
   ·refine zW ?_;exact ret1 rfl rfl Zb ⟨hle2,no (fun h0=>no2 h0 (fun h1=>w2 (by have:=h1.2.2.1;have:=hk.len;simp only at*;omega)))⟩
   refine zW ?_;refine zC ?_ ?_<;>intro w3
   ·cases pa
    ·refine zW ?_;exact ret1 rfl rfl Zb ⟨hle2,no (fun h0=>no2 h0 (fun h1=>(YaI hp.len).1 w3 (h1.2.2.2 rfl)))⟩
    exact wN (h:=by exact ⟨rfl,rfl,rfl,fun h0=>absurd x1 h0,by have:=he.len;simp only;omega,by have:=hk.len;simp only;omega,fun h0=>by cases h0⟩)
   exact wN (h:=by exact ⟨rfl,rfl,rfl,fun h0=>absurd x1 h0,by have:=he.len;simp only;omega,by have:=hk.len;simp only;omega,fun _=>Classical.byContradiction fun h1=>w3 ((YaI hp.len).2 h1)⟩)
  rintro σ fz' H' ⟨rfl,rfl,rfl,hrest⟩;have hE:=Yer f;have hD:=Yg1 f;have hp2:=hp.mono hle2;refine zW ?_;refine Yn (fun mm σ fz' H'=>∃ k:Nat,k<=m/\mm=m - k/\σ=[(118,Zk k),(117,Zk m),(116,Zc B m cb),(3,Zp g0),(2,Zp g),(1,Zk d)]/\fz2=fz'/\H'=[(g,budO (c+1:Nat)),(g0,Zu #[Zy f.op,Zy f.name,Zc A n ca,Zc B m cb,Zc C r cr,Zc D q cq] 35)]/\(∀ i,i<k->∀ x,f.params[i]?=some x->VarP x.name/\YdE x.typ)) ⟨0,Z0 _,rfl,rfl,rfl,rfl,fun i hi=>absurd hi Zi⟩ Zw Zb ?_;rintro _ σ fz' H' ⟨k,hkm,rfl,rfl,rfl,rfl,hh1⟩;have lp:=hp.len;have sp:=hp.short;refine zW ?_;refine zC ?_ ?_<;>intro c1
  ·obtain ⟨x,hx⟩:=Yf (l:=f.params) (k:=k) Zi;have bad:¬(VarP x.name/\YdE x.typ)->¬YqI f:=fun h1 h0=>h1 (h0.2.2 x (Zm hx))
   refine zW ?_;refine zI hp2 hx (fun p1 hp1=>?_);refine zL hp1 ?_;intro cs hcs;obtain ⟨rfl,hRx⟩:=YM hcs;refine zW ?_;intros;refine zb (Ydg hRx.name) (fun f1=>?_) (fun f1=>?_)
   ·refine wb (typed_q hRx.typ) (fun f2=>?_) (fun f2=>?_)
    ·refine zW ?_;exact Ws ⟨k+1,by omega,rfl,rfl,rfl,rfl,YH hh1 hx ⟨Zt f1,Zt f2⟩⟩ Zi Zw Zb
    refine zW ?_;exact ret1 rfl rfl Zb ⟨hle2,no (bad (fun h1=>Zf f2 h1.2))⟩
   refine zW ?_;exact ret1 rfl rfl Zb ⟨hle2,no (bad (fun h1=>Zf f1 h1.1))⟩
  have hN:YqI f:=⟨hh,⟨_,hkind,hrest⟩,Xc hh1 Zi⟩;have le:=he.len;have se:=he.short;refine zW ?_;refine Yn (fun mm σ fz' H'=>∃ k:Nat,k<=r/\mm=r - k/\σ=[(136,Zk k),(135,Zk r),(134,Zc C r cr),(3,Zp g0),(2,Zp g),(1,Zk d)]/\Le fz2 fz'/\H'=[(g,budO (c+1+ecountL (f.exprs.take k):Nat)),(g0,Zu #[Zy f.op,Zy f.name,Zc A n ca,Zc B m cb,Zc C r cr,Zc D q cq] 35)]/\(∀ i,i<k->∀ x,f.exprs[i]?=some x->EOk x/\d+1+edepth x<=33)/\c+1+ecountL (f.exprs.take k)<=4096) ⟨0,Z0 _,rfl,rfl,Zd,rfl,(fun i hi=>absurd hi Zi),by simp [ecountL];omega⟩ Zw Zb ?_;rintro _ σ fz' H' ⟨k,hkr,rfl,rfl,hle4,rfl,hh2,hcc⟩;have he2:=he.mono (hle2.trans hle4);refine wC ?_ ?_<;>intro c2
  ·obtain ⟨x,hx⟩:=Yf (l:=f.exprs) (k:=k) Zi;have hxm:=Zm hx;have hst:=Yda hx;have htk:=Yc9 (l:=f.exprs) (k:=k+1);refine wI he2 hx (fun p1 hp1=>?_);refine zL hp1 ?_;intro cs hcs;obtain ⟨wa,wk,rfl,hRx⟩:=YF hcs;obtain ⟨⟨A1,n1,b1,rfl,_⟩,⟨A2,n2,b2,rfl,_⟩⟩:=hRx.sls;refine zW ?_;intros
   first | refine Wp.perm (List.Perm.swap _ _ _) ?_ | refine Seq.perm (List.Perm.swap _ _ _) ?_
   refine Yd (Yk [_] [_,_] Zz (YmN (e:=x) (d:=d+1) (c:=c+1+ecountL (f.exprs.take k)) hRx Zi hcc) (fun v5 fz5 H5 hle5 hR5=>?_));obtain ⟨_,b5,c5,rfl,rfl,hc5,hb5⟩:=hR5;cases b5
   ·refine zW ?_;exact ret1 rfl rfl Zb ⟨hle2.trans (hle4.trans hle5),Yi4 (fun h0=>absurd (hb5.2 ⟨(WQ.1 h0.1).2.1 x hxm,by have:=(Yh2 (l:=f.exprs)).1 (Zs _) x hxm;omega,by omega⟩) (by simp))⟩
   have hc5:=hc5 rfl;have hb5:=hb5.1 rfl;subst hc5;exact wP (h:=by exact ⟨k+1,by omega,rfl,rfl,hle4.trans hle5,by rw [hst,<- Nat.add_assoc],YH hh2 hx ⟨hb5.1,hb5.2.1⟩,by omega⟩)
  rw [show f.exprs.take k=f.exprs from Zl Zi] at hcc ⊢;have hEX:=Xc hh2 Zi;have lk:=hk.len;have sk:=hk.short;refine zW ?_;refine Yn (H0:=[(g,budO (c+1+ecountL f.exprs:Nat)),(g0,Zu #[Zy f.op,Zy f.name,Zc A n ca,Zc B m cb,Zc C r cr,Zc D q cq] 35)]) (fun mm σ fz7 H'=>∃ j:Nat,j<=q/\mm=q - j/\σ=[(150,Zk j),(149,Zk q),(148,Zc D q cq),(2,Zp g),(1,Zk d)]/\Le fz' fz7/\H'=[(g,budO (c+1+ecountL f.exprs+fcountL (f.kids.take j):Nat)),(g0,Zu #[Zy f.op,Zy f.name,Zc A n ca,Zc B m cb,Zc C r cr,Zc D q cq] 35)]/\(∀ i,i<j->∀ x,f.kids[i]?=some x->FOk x/\d+1+fdepth x<=33)/\c+1+ecountL f.exprs+fcountL (f.kids.take j)<=4096) ⟨0,Z0 _,rfl,rfl,Zd,by simp [fcountL],(fun i hi=>absurd hi Zi),by simp [fcountL];omega⟩ Zw Zb ?_;rintro _ σ fz7 H' ⟨j,hjq,rfl,rfl,hle7,rfl,hh3,hcc3⟩;have hk2:=hk.mono (hle2.trans (hle4.trans hle7));refine wC ?_ ?_<;>intro c3
  ·obtain ⟨x,hx⟩:=Yf (l:=f.kids) (k:=j) Zi;have hxm:=Zm hx;have hlt:=Formula.kids_lt hxm;have hst:=YfC hx;have htk:=YfB (l:=f.kids) (k:=j+1);refine wI hk2 hx (fun p1 hp1=>?_);refine zL hp1 ?_;intro cs hcs;obtain ⟨wa,wp,we,wk,rfl,hRx⟩:=Yu hcs;obtain ⟨⟨A1,n1,b1,rfl,_⟩,⟨A2,n2,b2,rfl,_⟩,⟨A3,n3,b3,rfl,_⟩,⟨A4,n4,b4,rfl,_⟩⟩:=hRx.sls;refine zW ?_;intros
   first | refine Wp.perm (List.Perm.swap _ _ _) ?_ | refine Seq.perm (List.Perm.swap _ _ _) ?_
   refine Yd (Yk [_] [_,_] Zz (Ymg s (f:=x) (d:=d+1) (c:=c+1+ecountL f.exprs+fcountL (f.kids.take j)) Zi hRx Zi hcc3) (fun v5 fz5 H5 hle5 hR5=>?_));obtain ⟨_,b5,c5,rfl,rfl,hc5,hb5⟩:=hR5;cases b5
   ·refine zW ?_;exact ret1 rfl rfl Zb ⟨hle2.trans (hle4.trans (hle7.trans hle5)),Yi4 (fun h0=>absurd (hb5.2 ⟨(WQ.1 h0.1).2.2 x hxm,by have:=(Yh1 (l:=f.kids)).1 (Zs _) x hxm;omega,by omega⟩) (by simp))⟩
   have hc5:=hc5 rfl;have hb5:=hb5.1 rfl;subst hc5;exact wP (h:=by exact ⟨j+1,by omega,rfl,rfl,hle7.trans hle5,by rw [hst,<- Nat.add_assoc],YH hh3 hx ⟨hb5.1,hb5.2.1⟩,by omega⟩)
  rw [Zl Zi] at hcc3 ⊢;have hKX:=Xc hh3 Zi;refine zW ?_
  (exact ret1 rfl rfl Zb ⟨hle2.trans (hle4.trans hle7),true,_,rfl,rfl,fun _=>by rw [hE];simp only [Nat.add_assoc],iff_of_true rfl ⟨WQ.2 ⟨hN,fun x hx=>(hEX x hx).1,fun x hx=>(hKX x hx).1⟩,by
   have e1:edepthL f.exprs<=32 - d:=Yh2.2 (fun x hx=>by have:=(hEX x hx).2;omega);have e2:fdepthL f.kids<=32 - d:=Yh1.2 (fun x hx=>by have:=(hKX x hx).2;omega);omega,by omega⟩⟩)
theorem shaped_q {d:Nat} (h:FormulaR fz f va vp ve vk) (hd:d<=33) (hc:c<=4096):
 GFn prog 186 [.agg #[Zy f.op,Zy f.name,va,vp,ve,vk],Zk d,Zp g] fz [(g,budO c)] (fun v fz' H'=>Le fz fz'/\FBud g f d c v H'):=Ymg _ (Zs _) h hd hc
end Go.Proofs.YtbdpaoikccabhaaGreatDoor
namespace Go.Lx
open Go.RowKit
variable {k j:Nat} {H:HP} {fz:FZ} {w w':World}
def Yax (b:UInt8):Value:=Value.int .u8 b.toNat
def Ycf (bs:List UInt8) (k:Nat):List Value:=bs.map Yax++List.replicate k (Value.int .u8 0)
def Yce (e:TypeId) (bs:List UInt8) (k:Nat):Obj:=.cells (Ycf bs k).toArray e (bs.length+k,bs.length+k+1)
theorem YnV {bs:List UInt8}:(Ycf bs k).length=bs.length+k:=by simp [Ycf]
theorem Yfi {bs:List UInt8} (h:j<bs.length):(Ycf bs k)[j]?=some (Yax bs[j]):=by
 simp [Ycf,List.getElem?_append,h]
theorem YnU {bs:List UInt8} {b:UInt8} (h:j<bs.length):(Ycf bs k).set j (Yax b)=Ycf (bs.set j b) k:=by
 unfold Ycf;rw [List.set_append_left _ _ (by simpa using h),List.map_set]
theorem Inv.made {cx:Cx} {o:Obj} (h:Inv cx fz H w) (h1:w'.os=w.os) (h2:w'.tape=w.tape) (h3:w'.output=w.output) (h4:w'.heap.size=w.heap.size+1) (h5:w'.heap[w.heap.size]?=some o) (h6:∀ j,j<w.heap.size->w'.heap[j]?=w.heap[j]?):
 Inv cx fz ((w.heap.size,o)::H) w':=by
 refine (h.alloc o).world (h1.trans rfl) (h2.trans rfl) (h3.trans rfl) ?_;apply Array.ext_getElem?;intro j;simp only [World.alloc,Array.getElem?_push];by_cases hj:j=w.heap.size
 ·subst hj;simp [h5]
 simp only [hj,if_false];by_cases hl:j<w.heap.size
 ·exact h6 j hl
 rw [Array.getElem?_eq_none Zi,Array.getElem?_eq_none Zi]
section
variable {P:Program} {cx:Cx} {r:Operand->Option Value} {fz:FZ} {H:HP} {V:Value->Prop} {dst:Option Nat} {ty:TypeId} {pos:String} {af:Array Edge} {gd:Option (Nat × Bool)}
theorem k_bytes {src dt e:TypeId} {x:Operand} {X Y Z:Ty} {s:Bs} {K:Value->FZ->HP->Prop}
 (h:∀ g k,K (Zv g s.size (s.size+k)) fz ((g,Yce e s.data.toList k)::H)) (T:Tab P:=by exact T) (hX:T.inf src=some X:=by exact rfl) (hXd:X.desc=.string:=by exact rfl) (hY:T.inf dt=some Y:=by exact rfl) (hYd:Y.desc=.slice e:=by exact rfl) (hZ:T.inf e=some Z:=by exact rfl) (hZd:Z.desc=.int .u8:=by exact rfl) (hx:r x=some (.string s):=by exact rfl):Does P cx ⟨dst,.convert src dt x,ty,pos,af,gd⟩ r fz H K:=by
  refine Does.of fun ρ w hr hw=>?_
  have hrun:=Go.Lib.run_convert_string_bytes (P:=P) w src dt e s (und_plain T hX hXd rfl) (und_plain T hY hYd rfl) (und_plain T hZ hZd rfl);have:(execOp ρ ⟨dst,.convert src dt x,ty,pos,af,gd⟩).run P w=.ok (.value (.slice (some ⟨w.heap.size,0,none⟩) s.size (grownCap w s.size 0 e))) (Go.Lib.bytesWorld w e s):=by
   simp only [execOp,hr _ _ hx,Sem.run_bind,hrun,Result.andThen_ok,Sem.run_pure]
  rw [this];obtain ⟨k,hk⟩:∃ k,grownCap w s.size 0 e=s.size+k:=⟨grownCap w s.size 0 e - s.size,by have:=grownCap_ge w s.size 0 e;omega⟩;have hcells:Go.Lib.bytesCells w e s=(Ycf s.data.toList k).toArray:=by
   simp [Go.Lib.bytesCells,Ycf,hk];exact fun _ _=>rfl
  have hlen:s.data.toList.length=s.size:=by rw [Array.length_toList];rfl
  have hnew:=Go.Lib.bytesWorld_at_new w e s;rw [hcells] at hnew;have hobj:(Go.Lib.bytesWorld w e s).heap[w.heap.size]?=some (Yce e s.data.toList k):=by
   rw [hnew];simp [Yce,YnV]
  rw [hk];exact ⟨fz,_,Inv.made hw rfl rfl rfl (Go.Lib.bytesWorld_size w e s) hobj (fun j hj=>Go.Lib.bytesWorld_at_old w e s j hj),h _ k⟩
theorem Yll {t t':TypeId} {x:Operand} {X:Ty} {g j:Nat} {bs:List UInt8} {k:Nat} {b:UInt8} (i:Nat) (hb:bs[j]?=some b) (h:V (Yax b)) (T:Tab P:=by exact T) (hT:T.inf t=some X:=by exact rfl) (hd:Wc X.desc=false:=by exact rfl) (hx:r x=some (.pointer (some ⟨g,j,none⟩)):=by exact rfl) (hi:H[i]?=some (g,Yce t' bs k):=by exact rfl):
 DoesQ P cx ⟨dst,.load t x,ty,pos,af,gd⟩ r fz H V:=by
 obtain ⟨hj,rfl⟩:=Zg hb;exact Yw i h (hT:=hT) (hd:=hd) (hx:=hx) (hi:=hi) (hv:=Yfi hj)
theorem Ykj {t t':TypeId} {x y:Operand} {X:Ty} {pre post:HP} {g j:Nat} {bs:List UInt8} {k:Nat} {b:UInt8} {K:Value->FZ->HP->Prop}
 (hy:r y=some (Yax b)) (hH:H=pre++(g,Yce t' bs k)::post)
  (h:K undef fz (pre++(g,Yce t' (bs.set j b) k)::post)) (T:Tab P:=by exact T) (hT:T.inf t=some X:=by exact rfl) (hx:r x=some (.pointer (some ⟨g,j,none⟩)):=by exact rfl) (hs:X.size=1:=by exact rfl) (hj:j<bs.length):Does P cx ⟨dst,.store t x y,ty,pos,af,gd⟩ r fz H K:=by
  refine Does.of fun ρ w hr hw=>?_
  subst hH;have hb:=(hw.hp.own (g,Yce t' bs k) (by simp)).1;have hcell:w.cell? ⟨g,j,none⟩=some (Yax bs[j]):=by
   simp only [World.cell?,hb,Yce];simpa using Yfi hj
  have hfro:w.frozen? ⟨g,j,none⟩=false:=by
   simp only [World.frozen?,hb,Yce,Bool.and_eq_false_iff,decide_eq_false_iff_not];left;omega
  have hz:=run_sizeOf T hT w;rw [hs] at hz;have hst:(storeCells ⟨g,j,none⟩ [Yax b] 0).run P w=.ok () (w.setRow g (Ycf (bs.set j b) k).toArray):=by
   have hadd:(⟨g,j,none⟩:Addr).add 0=⟨g,j,none⟩:=by simp [Addr.add]
   simp only [storeCells,Sem.run_bind,hadd,run_store P w _ (Yax b) _ rfl,hcell,hfro];simp [setCell_eq_setRow w g j (Ycf bs k).toArray t' _ (Yax b) hb,<- YnU hj]
  have:(execOp ρ ⟨dst,.store t x y,ty,pos,af,gd⟩).run P w=.ok .skip (w.setRow g (Ycf (bs.set j b) k).toArray):=by
   simp only [execOp,hr _ _ hx,hr _ _ hy,Instr.storeAt,Instr.sureAddr,Sem.run_bind,Sem.run_pure,Result.andThen_ok,storeVar,hz];simp [Yax,Value.cells] at hst ⊢;simp [hst]
  rw [this];refine ⟨fz,_,hw.write (o':=Yce t' (bs.set j b) k) rfl rfl rfl (by simp) ?_ (fun k hk=>?_),h⟩
  ·simp [World.setRow,Array.getElem?_modify,hb,Yce]
  simp only [World.setRow,Array.getElem?_modify];rw [if_neg Zi]
theorem Ylh {src dt e:TypeId} {x:Operand} {X Y Z:Ty} {t':TypeId} {g n c k:Nat} {bs:List UInt8} (i:Nat)
 (hn:bs.length=n) (h:V (.string ⟨bs.toArray⟩)) (T:Tab P:=by exact T) (hX:T.inf src=some X:=by exact rfl) (hXd:X.desc=.slice e:=by exact rfl) (hY:T.inf dt=some Y:=by exact rfl) (hYd:Y.desc=.string:=by exact rfl) (hZ:T.inf e=some Z:=by exact rfl) (hZd:Z.desc=.int .u8:=by exact rfl) (hx:r x=some (Zv g n c):=by exact rfl) (hi:H[i]?=some (g,Yce t' bs k):=by exact rfl):DoesQ P cx ⟨dst,.convert src dt x,ty,pos,af,gd⟩ r fz H V:=by
  refine DoesQ.of h fun ρ w hr hw=>?_
  have hcell:∀ j,j<n->w.cell? ⟨g,0+j,none⟩=some (.int .u8 ((bs.map fun b=>(b.toNat:Int)).getD j 0)):=fun j hj=>by
   have hj':j<bs.length:=by omega
   rw [Nat.zero_add,hw.cellOwn hi j];have:=Yfi (k:=k) hj';simp only [List.getElem?_toArray,this,Yax];simp [List.getD,hj']
  have hrun:=run_convert_bytes_arg (P:=P) w src e (und_plain T hX hXd rfl) (und_plain T hZ hZd rfl) g 0 n c (bs.map fun b=>(b.toNat:Int)) (by simpa using hn) hcell dt (und_plain T hY hYd rfl);have hs:strOfNums (bs.map fun b=>(b.toNat:Int))=⟨bs.toArray⟩:=by simp [strOfNums,Function.comp_def]
  rw [hs] at hrun;have:(execOp ρ ⟨dst,.convert src dt x,ty,pos,af,gd⟩).run P w=.ok (.value (.string ⟨bs.toArray⟩)) w:=by
   simp only [execOp,hr _ _ hx,Sem.run_bind,hrun,Result.andThen_ok,Sem.run_pure]
  rw [this];exact ⟨rfl,Fr.refl _ _⟩
end
end Go.Lx
namespace Go.Proofs.YtbdpaoikccabhaaGreatDoor
variable {α:Type} {fz:FZ} {s:Bs} {k c g n:Nat} {vk va ve vp:Value} {f:Formula} {H:HP} {t':TypeId} {x y:Operand} {A B:Option Addr} {ff:FuncId} {l:List α}
theorem XO {b:UInt8}:∀ {l:List UInt8},0<=Lib.indexByte l b↔b∈l
 | []=>by simp [Lib.indexByte]
 | x::r=>by
  have ih:=XO (b:=b) (l:=r);simp only [Lib.indexByte,List.mem_cons];split
  ·rename_i h;have:x=b:=by simpa using h
   simp [this]
  rename_i h;have hx:¬b=x:=by
   intro h0;subst h0;simp at h
  simp only [hx,false_or];split
  ·rename_i h1;rw [<- ih,eq_of_beq h1]
  rename_i h1;have h2:Lib.indexByte r b≠ -1:=by simpa using h1
  have:=Lib.indexByte_ge r b;rw [<- ih];omega
theorem sibs_q {n:Int}:QFn prog 276 [Zy s,.int .u8 n] fz (Zk (Lib.indexByte s.data.toList n.toNat.toUInt8)):=by
 refine qF Tryz.func276 Tryz.ntmps276 (fun w0=>?_);refine zW ?_;refine Seq.q rfl (DoesQ.of (v:=Zk (Lib.indexByte s.data.toList n.toNat.toUInt8)) ?_ fun ρ w hr hi=>?_)
 ·exact wR (h:=rfl)
 have h5:ρ (.tmp 5)=Zy s:=hr _ _ rfl;have h6:ρ (.tmp 6)=.int .u8 n:=hr _ _ rfl;have h7:ρ (.func 287)=.func (.func 287) #[] #[]:=hr _ _ rfl;have hrun:=run_callFunc_indexByte (P:=prog) Tryz.func287 Zj rfl (by rfl) (by rfl) #[Zy s,.int .u8 n] w;rw [Lib.run_indexByteString] at hrun;simp only [execOp,resolve,Deferred.ofValue,invoke,List.map_toArray,List.map_cons,List.map_nil,h5,h6,h7,Sem.run_bind,Sem.run_pure,Result.andThen_ok] at hrun ⊢;simp only [Array.empty_append,Array.append_empty];rw [hrun];exact ⟨rfl,Fr.refl _ _⟩
theorem ibs_q {n:Int}:QFn prog 263 [Zy s,.int .u8 n] fz (Zk (Lib.indexByte s.data.toList n.toNat.toUInt8)):=by
 refine qF Tryz.func263 Tryz.ntmps263 (fun w0=>?_);refine wc sibs_q ?_;exact wR (h:=rfl)
def UpC (n:Int):Prop:=65<=n/\n<=90
def SymL:List UInt8:=[45,95,63,58,60,62,61,43,42]
def LowC (b:UInt8):Prop:=LetP b.toNat\/DigP b.toNat\/b∈SymL
def AnyC (b:UInt8):Prop:=UpC b.toNat\/LowC b
def lowB (b:UInt8):UInt8:=if UpC b.toNat then b+32 else b
def lowS (s:Bs):Bs:=⟨(s.data.toList.map lowB).toArray⟩
def LowP (s:Bs):Prop:=s≠YaD/\s.size<=32/\∀ b∈s.data.toList,AnyC b
theorem Yoo {n:Int} (h:0<=n/\n<=255:=by omega):IntKind.u8.wrap n=n:=by
 simp only [IntKind.wrap,IntKind.signed,IntKind.bits];simp;omega
theorem byteV_up {b:UInt8} (h:UpC b.toNat):Value.int .u8 ((b.toNat:Int)+97 - 65)=Yax (lowB b):=by
 unfold UpC at h;have h2:(b+32).toNat=b.toNat+32:=by rw [UInt8.toNat_add];simp;omega
 unfold Yax lowB UpC;rw [if_pos h,h2]
 congr 1
 omega
theorem Yee:s.data.toList.length=s.size:=by rw [Array.length_toList];rfl
theorem YmK (h:k<s.size):s.data.toList[k]?=some s[k]:=by
 rw [List.getElem?_eq_getElem (by rw [Yee];exact h)];rfl
theorem set_mid {f:α->α} {x:α} (h:l[k]?=some x):((l.take k).map f++l.drop k).set k (f x)=(l.take (k+1)).map f++l.drop (k+1):=by
 have hk:k<l.length:=(Zg h).1;have hl:((l.take k).map f).length=k:=by simp;omega
 rw [List.set_append_right _ _ Zi,hl,Nat.sub_self,List.take_add_one,h];have:l.drop k=x::l.drop (k+1):=by
  rw [List.drop_eq_getElem_cons hk];rw [List.getElem?_eq_getElem hk] at h;cases h;rfl
 rw [this];simp
theorem YcB {f:α->α} {x:α} (h:l[k]?=some x) (hf:f x=x):(l.take k).map f++l.drop k=(l.take (k+1)).map f++l.drop (k+1):=by
 rw [<- set_mid h,hf];have hk:k<l.length:=(Zg h).1;apply List.ext_getElem?;intro i;rw [List.getElem?_set];split
 ·rename_i he;subst he;have hl:((l.take k).map f).length=k:=by simp;omega
  rw [if_pos (by simp;omega),List.getElem?_append_right Zi,hl,Nat.sub_self,List.getElem?_drop,Nat.add_zero,h]
 rfl
theorem get_mid {f:α->α} {x:α} (h:l[k]?=some x):((l.take k).map f++l.drop k)[k]?=some x:=by
 have hk:k<l.length:=(Zg h).1;have hl:((l.take k).map f).length=k:=by simp;omega
 rw [List.getElem?_append_right Zi,hl,Nat.sub_self,List.getElem?_drop,Nat.add_zero,h]
theorem YbM {p:α->Prop} {x:α} (h:∀ b∈l.take k,p b) (hx:l[k]?=some x) (hp:p x):∀ b∈l.take (k+1),p b:=by
 rw [List.take_add_one,hx];intro b hb;rcases List.mem_append.1 hb with hb | hb
 ·exact h b hb
 simp at hb;subst hb;exact hp
theorem Ycx {b:UInt8} (h:¬UpC b.toNat):lowB b=b:=if_neg h
theorem Yfj {b:UInt8}:((b.toNat:Int).toNat).toUInt8=b:=by simp [Nat.toUInt8]
theorem Ypg:QFn prog 244 [Zy s] fz (.tuple #[Zy (if LowP s then lowS s else YaD),Zo (decide (LowP s))]):=by
 refine GFn.quiet ?_;have no:¬LowP s->Value.tuple #[Zy YaD,Zo false]=.tuple #[Zy (if LowP s then lowS s else YaD),Zo (decide (LowP s))]:=fun h=>by rw [if_neg h,decide_eq_false h]
 refine zF Tryz.func244 Tryz.ntmps244 (fun w0=>?_);refine wC ?_ ?_<;>intro c1
 ·exact wS (h:=by exact no (fun h=>h.1 c1))
 refine wC ?_ ?_<;>intro c2
 ·exact wS (h:=by exact no (fun h=>by have:=h.2.1;omega))
 refine zW ?_;refine Yd (k_bytes (fun g k0=>?_));have hz:s.size<=32:=by omega
 refine zW ?_;refine Yn (fun q σ fz' H'=>∃ k:Nat,k<=s.size/\q=s.size - k/\σ=[(18,Zk k),(17,Zk s.size),(16,Zv g s.size (s.size+k0)),(4,Zv g s.size (s.size+k0))]/\fz=fz'/\
  H'=[(g,Yce 5 ((s.data.toList.take k).map lowB++s.data.toList.drop k) k0)]/\(∀ b∈s.data.toList.take k,AnyC b)) ⟨0,Z0 _,rfl,rfl,rfl,rfl,by simp⟩ Zw Zb ?_
 rintro q σ fz' H' ⟨k,hk,rfl,rfl,rfl,rfl,hh⟩;have hlen:((s.data.toList.take k).map lowB++s.data.toList.drop k).length=s.size:=by
  have:=Yee (s:=s);simp only [List.length_append,List.length_map,List.length_take,List.length_drop];omega
 refine wC ?_ ?_<;>intro c3
 ·obtain ⟨b,hb⟩:∃ b,s.data.toList[k]?=some b:=⟨_,YmK Zi⟩;have hlt:=b.toNat_lt;have bad:¬AnyC b->¬LowP s:=fun h0 h1=>h0 (h1.2.2 b (Zm hb))
  refine wG ?_;refine XE T Zz Zz Zz Zz Zz Zz Zi Zi ?_;refine zG ?_;refine Yll 0 (get_mid hb) ?_;refine wC ?_ ?_<;>intro d1
  ·refine wC ?_ ?_<;>intro d2
   ·refine wG ?_;refine YeW Zz Zz (Yoo) ?_;refine zG ?_;refine YoW Zz Zz (Yoo) ?_;refine zG ?_;refine XE T Zz Zz Zz Zz Zz Zz Zi Zi ?_;refine YI (Ykj (pre:=[]) (congrArg some (byteV_up ⟨d1,d2⟩)) rfl ?_ (hj:=by rw [hlen];exact (by omega:k<s.size)));exact wP (h:=by exact ⟨k+1,by omega,rfl,rfl,rfl,by rw [<- set_mid hb],YbM hh hb (.inl ⟨d1,d2⟩)⟩)
   have nu:¬UpC b.toNat:=fun h0=>d2 h0.2
   refine wC ?_ ?_<;>intro d3
   ·refine wC ?_ ?_<;>intro d4
    ·exact wP (h:=by exact ⟨k+1,by omega,rfl,rfl,rfl,by rw [<- YcB hb (Ycx nu)],YbM hh hb (.inr (.inl ⟨d3,d4⟩))⟩)
    have nl:¬LetP b.toNat:=fun h0=>d4 h0.2
    refine wb (Yjb (n:=b.toNat)) (fun f1=>?_) (fun f1=>?_)
    ·exact wP (h:=by exact ⟨k+1,by omega,rfl,rfl,rfl,by rw [<- YcB hb (Ycx nu)],YbM hh hb (.inr (.inr (.inl (Zt f1))))⟩)
    refine wc (ibs_q (n:=b.toNat)) ?_;refine zC ?_ ?_<;>intro e1
    ·exact wP (h:=by exact ⟨k+1,by omega,rfl,rfl,rfl,by rw [<- YcB hb (Ycx nu)],YbM hh hb (.inr (.inr (.inr (by rw [XO,Yfj] at e1;exact e1))))⟩)
    refine zW ?_;exact ret2 rfl rfl rfl Zb (no (bad (fun h0=>by
     rcases h0 with h0 | h0 | h0 | h0
     ·exact nu h0
     ·exact nl h0
     ·exact Zf f1 h0
     exact e1 (XO.2 (by rw [Yfj];exact h0)))))
   have nl:¬LetP b.toNat:=fun h0=>d3 h0.1
   refine wb (Yjb (n:=b.toNat)) (fun f1=>?_) (fun f1=>?_)
   ·exact wP (h:=by exact ⟨k+1,by omega,rfl,rfl,rfl,by rw [<- YcB hb (Ycx nu)],YbM hh hb (.inr (.inr (.inl (Zt f1))))⟩)
   refine wc (ibs_q (n:=b.toNat)) ?_;refine zC ?_ ?_<;>intro e1
   ·exact wP (h:=by exact ⟨k+1,by omega,rfl,rfl,rfl,by rw [<- YcB hb (Ycx nu)],YbM hh hb (.inr (.inr (.inr (by rw [XO,Yfj] at e1;exact e1))))⟩)
   refine zW ?_;exact ret2 rfl rfl rfl Zb (no (bad (fun h0=>by
    rcases h0 with h0 | h0 | h0 | h0
    ·exact nu h0
    ·exact nl h0
    ·exact Zf f1 h0
    exact e1 (XO.2 (by rw [Yfj];exact h0)))))
  have nu:¬UpC b.toNat:=fun h0=>d1 h0.1
  refine wC ?_ ?_<;>intro d3
  ·exact absurd d3 Zi
  have nl:¬LetP b.toNat:=fun h0=>d3 h0.1
  refine wb (Yjb (n:=b.toNat)) (fun f1=>?_) (fun f1=>?_)
  ·exact wP (h:=by exact ⟨k+1,by omega,rfl,rfl,rfl,by rw [<- YcB hb (Ycx nu)],YbM hh hb (.inr (.inr (.inl (Zt f1))))⟩)
  refine wc (ibs_q (n:=b.toNat)) ?_;refine zC ?_ ?_<;>intro e1
  ·exact wP (h:=by exact ⟨k+1,by omega,rfl,rfl,rfl,by rw [<- YcB hb (Ycx nu)],YbM hh hb (.inr (.inr (.inr (by rw [XO,Yfj] at e1;exact e1))))⟩)
  refine zW ?_;exact ret2 rfl rfl rfl Zb (no (bad (fun h0=>by
   rcases h0 with h0 | h0 | h0 | h0
   ·exact nu h0
   ·exact nl h0
   ·exact Zf f1 h0
   exact e1 (XO.2 (by rw [Yfj];exact h0)))))
 rw [show s.data.toList.take k=s.data.toList from Zl (by rw [Yee];omega),show s.data.toList.drop k=[] from List.drop_eq_nil_of_le (by rw [Yee];omega),List.append_nil] at*;have hP:LowP s:=⟨c1,by omega,hh⟩;refine wG ?_;refine Ylh 0 hlen ?_;exact wS (h:=by exact (by rw [if_pos hP,decide_eq_true hP];rfl))
def WordT (s:Bs):Prop:=s≠YaD/\s.size<=32/\(∀ b∈s.data.toList,LowC b)/\¬NumP s
def Yjo (x:Sexpr):Prop:=(x.kind=1/\WordT x.text/\x.value=0/\x.kids=[])\/(x.kind=2/\x.text=YaD/\x.kids=[]/\YeC x.value)\/(x.kind=3/\x.text=YaD/\x.value=0)
abbrev XOk (x:Sexpr):Prop:=XAll Yjo x
def XVal (x:Sexpr):Prop:=XOk x/\xdepth x<=32/\xcount x<=4096
theorem Yph:(lowS s).size=s.size:=by
 have:=Yee (s:=s);simp only [lowS,ByteArray.size,List.size_toArray,List.length_map];exact this
theorem lowB_fix {b:UInt8} (h:lowB b=b):¬UpC b.toNat:=by
 intro hu;rw [lowB,if_pos hu] at h;have h1:=congrArg UInt8.toNat h;unfold UpC at hu;rw [UInt8.toNat_add] at h1;simp at h1;omega
theorem Ypf {α:Type} {f:α->α}:∀ {l:List α},l.map f=l->∀ x∈l,f x=x
 | [],_,_,hx=>by cases hx
 | a::r,h,x,hx=>by
  simp only [List.map_cons,List.cons.injEq] at h;rcases List.mem_cons.1 hx with rfl | hx
  ·exact h.1
  exact Ypf h.2 x hx
theorem YpN {α:Type} {f:α->α}:∀ {l:List α},(∀ x∈l,f x=x)->l.map f=l
 | [],_=>rfl
 | a::r,h=>by rw [List.map_cons,h a (by simp),YpN (fun x hx=>h x (by simp [hx]))]
theorem low_upc {b:UInt8} (h:LowC b):¬UpC b.toNat:=by
 unfold LowC LetP DigP SymL at h;unfold UpC;rcases h with h | h | h
 ·omega
 ·omega
 simp only [List.mem_cons,List.not_mem_nil,or_false] at h;rcases h with rfl | rfl | rfl | rfl | rfl | rfl | rfl | rfl | rfl<;>decide
theorem Ylu:LowP s/\lowS s=s↔s≠YaD/\s.size<=32/\∀ b∈s.data.toList,LowC b:=by
 constructor
 ·rintro ⟨⟨h1,h2,h3⟩,h4⟩;refine ⟨h1,h2,fun b hb=>?_⟩;have h5:s.data.toList.map lowB=s.data.toList:=by
   have:=congrArg (fun t:Bs=>t.data.toList) h4;simpa [lowS] using this
  exact (h3 b hb).resolve_left (lowB_fix (Ypf h5 b hb))
 rintro ⟨h1,h2,h3⟩;refine ⟨⟨h1,h2,fun b hb=>.inr (h3 b hb)⟩,?_⟩;have:=YpN (f:=lowB) (l:=s.data.toList) (fun b hb=>if_neg (low_upc (h3 b hb)));unfold lowS;rw [this]
def cntO (c:Int):Obj:=Zu #[Zk c] 3
def XBud (g:Nat) (x:Sexpr) (d c:Nat) (v:Value) (H':HP):Prop:=
 ∃ (b:Bool) (c':Int),v=Zo b/\H'=[(g,cntO c')]/\(b=true->c'=((c+xcount x:Nat):Int))/\(b=true↔XOk x/\d+xdepth x<=32/\c+xcount x<=4096)
theorem Yif {x:Sexpr} {d:Nat} {c':Int} (h:¬(XOk x/\d+xdepth x<=32/\c+xcount x<=4096)):XBud g x d c (Zo false) [(g,cntO c')]:=⟨false,c',rfl,rfl,(by simp),iff_of_false (by simp) h⟩
theorem Yjw {g:Nat} {x:Sexpr} {d c:Nat} (h:Yjo x) (hk:x.kids=[]) (hd:d<=32) (h3:x.kind≠3:=by omega) (hc:c+1<=4096:=by omega):XBud g x d c (Zo true) [(g,cntO (c+1:Nat))]:=by
 have h1:xcount x=1:=by rw [Yf8,hk];simp [xcountL]
 have h2:xdepth x=0:=by rw [Yf7,hk,if_neg h3];simp [xdepthL]
 exact ⟨true,_,rfl,rfl,fun _=>by rw [h1],iff_of_true rfl ⟨Ya8.2 ⟨h,by rw [hk];simp⟩,by omega,by omega⟩⟩
theorem xnode1 {x:Sexpr} (h:x.kind=1):Yjo x↔WordT x.text/\x.value=0/\x.kids=[]:=by
 unfold Yjo;rw [h];simp
theorem xnode2 {x:Sexpr} (h:x.kind=2):Yjo x↔x.text=YaD/\x.kids=[]/\YeC x.value:=by
 unfold Yjo;rw [h];simp
theorem xnode3 {x:Sexpr} (h:x.kind=3):Yjo x↔x.text=YaD/\x.value=0:=by
 unfold Yjo;rw [h];simp
theorem Yof:∀ (s:Nat) {fz:FZ} {x:Sexpr} {vk:Value} {g d c:Nat},SizeOf.sizeOf x<=s->Wq fz x vk->d<=32->c<=4096->
 GFn prog 199 [.agg #[Zk x.kind,Zk x.value,Zk x.line,Zk x.column,Zy x.text,vk],Zk d,Zp g] fz [(g,cntO c)] (fun v fz' H'=>Le fz fz'/\XBud g x d c v H')
 | 0,_,x,_,_,_,_,hs,_,_,_=>by cases x;simp at hs
 | s+1,fz,x,vk,g,d,c,hs,h,hd,hc=>by
  obtain ⟨A,n,ca,rfl,hk⟩:=h.kids;have no:∀ {c':Int},¬Yjo x->XBud g x d c (Zo false) [(g,cntO c')]:=fun h0=>Yif (fun h1=>h0 (Ya8.1 h1.1).1)
  have e1:=Yf8 x;have e2:=Yf7 x;unfold cntO;refine zF Tryz.func199 Tryz.ntmps199 (fun w0=>?_);refine pX (fun g0=>?_);refine wC ?_ ?_<;>intro c1
  ·refine zW ?_;exact ret1 rfl rfl (List.Sublist.cons _ (List.Sublist.refl _)) ⟨Zd,Yif (fun h0=>by omega)⟩
  refine wC (fun x1=>?_) (fun y1=>?_)
  ·have hn:=xnode1 x1;by_cases hL:LowP x.text
   ·have hq:=Ypg (fz:=fz) (s:=x.text);rw [if_pos hL,decide_eq_true hL] at hq;refine wc hq ?_;refine wC ?_ ?_<;>intro n1
    ·have hw:=(Ylu.1 ⟨hL,n1⟩);refine wG ?_;refine XS (Yo6 (s:=lowS x.text) (by unfold Short;rw [Yph];exact h.text)) (fun f1=>?_) (fun f1=>?_)
     ·refine zW ?_;exact ret1 rfl rfl Zb ⟨Zd,no (fun h0=>(hn.1 h0).1.2.2.2 (by rw [<- n1];exact Zt f1))⟩
     refine zW ?_
     (((refine zC (fun n2=>?_) (fun n2=>?_));rotate_left 1;((refine zW ?_);(exact ret1 rfl rfl Zb ⟨Zd,no (fun h0=>n2 (hn.1 h0).2.1)⟩));(refine zW ?_)))
     (((refine zC (fun n3=>?_) (fun n3=>?_));rotate_left 1;((refine zW ?_);(exact ret1 rfl rfl Zb ⟨Zd,no (fun h0=>n3 ((len0 hk.len).2 (hn.1 h0).2.2))⟩));(refine zW ?_)));exact wR (h:=by exact ⟨Zd,Yjw (hn.2 ⟨⟨hw.1,hw.2.1,hw.2.2,by rw [<- n1];exact Zf f1⟩,n2,(len0 hk.len).1 n3⟩) ((len0 hk.len).1 n3) hd⟩)
    refine zW ?_;exact ret1 rfl rfl (List.Sublist.cons _ (List.Sublist.refl _)) ⟨Zd,no (fun h0=>n1 (Ylu.2 ⟨(hn.1 h0).1.1,(hn.1 h0).1.2.1,(hn.1 h0).1.2.2.1⟩).2)⟩
   have hq:=Ypg (fz:=fz) (s:=x.text);rw [if_neg hL,decide_eq_false hL] at hq;refine wc hq ?_;refine zW ?_;exact ret1 rfl rfl (List.Sublist.cons _ (List.Sublist.refl _)) ⟨Zd,no (fun h0=>hL (Ylu.2 ⟨(hn.1 h0).1.1,(hn.1 h0).1.2.1,(hn.1 h0).1.2.2.1⟩).1)⟩
  refine wC (fun x2=>?_) (fun y2=>?_)
  ·have hn:=xnode2 x2;refine zW ?_
   (((refine zC (fun n1=>?_) (fun n1=>?_));rotate_left 1;((refine zW ?_);(exact ret1 rfl rfl Zb ⟨Zd,no (fun h0=>n1 (hn.1 h0).1)⟩));(refine zW ?_)))
   (((refine zC (fun n3=>?_) (fun n3=>?_));rotate_left 1;((refine zW ?_);(exact ret1 rfl rfl Zb ⟨Zd,no (fun h0=>n3 ((len0 hk.len).2 (hn.1 h0).2.1))⟩));(refine zW ?_)))
   (((refine zC (fun n4=>?_) (fun n4=>?_));rotate_left 1;((refine zW ?_);(exact ret1 rfl rfl Zb ⟨Zd,no (fun h0=>n4 (hn.1 h0).2.2.1)⟩));(refine zW ?_)))
   (((refine zC (fun n5=>?_) (fun n5=>?_));rotate_left 1;((refine zW ?_);(exact ret1 rfl rfl Zb ⟨Zd,no (fun h0=>n5 (hn.1 h0).2.2.2)⟩));(refine zW ?_)));exact wR (h:=by exact ⟨Zd,Yjw (hn.2 ⟨n1,(len0 hk.len).1 n3,n4,n5⟩) ((len0 hk.len).1 n3) hd⟩)
  refine wC (fun x3=>?_) (fun y3=>?_)
  ·have hn:=xnode3 x3;rw [if_pos x3] at e2;have sk:=hk.short;have lk:=hk.len;refine zW ?_
   (((refine zC (fun n1=>?_) (fun n1=>?_));((refine zW ?_);(exact ret1 rfl rfl Zb ⟨Zd,no (fun h0=>n1 (hn.1 h0).1)⟩));(refine zW ?_)))
   (((refine zC (fun n2=>?_) (fun n2=>?_));((refine zW ?_);(exact ret1 rfl rfl Zb ⟨Zd,no (fun h0=>n2 (hn.1 h0).2)⟩));(refine zW ?_)))
   (((refine zC (fun n3=>?_) (fun n3=>?_));((refine zW ?_);(exact ret1 rfl rfl Zb ⟨Zd,Yif (fun h0=>by omega)⟩));(refine zW ?_)));refine Yn (fun mm σ fz' H'=>∃ k:Nat,k<=n/\mm=n - k/\σ=[(91,Zk k),(90,Zk n),(89,Zc A n ca),(2,Zp g),(1,Zk d)]/\Le fz fz'/\H'=[(g,Zu #[Zk (c+1+xcountL (x.kids.take k):Nat)] 3)]/\(∀ i,i<k->∀ y,x.kids[i]?=some y->XOk y/\d+1+xdepth y<=32)/\c+1+xcountL (x.kids.take k)<=4096) ⟨0,Z0 _,rfl,rfl,Zd,rfl,(fun i hi=>absurd hi Zi),by simp [xcountL];omega⟩ Zw Zb ?_;rintro _ σ fz' H' ⟨k,hkn,rfl,rfl,hle,rfl,hh,hcc⟩;have hk2:=hk.mono hle;refine wC ?_ ?_<;>intro c2
   ·obtain ⟨y,hy⟩:=Yf (l:=x.kids) (k:=k) Zi;have hym:=Zm hy;have hlt:=Sexpr.kids_lt hym;have hst:=Yju hy;have htk:=Yjt (l:=x.kids) (k:=k+1);refine zW ?_;refine zI hk2 hy (fun p1 hp1=>?_);refine zL hp1 ?_;intro cs hcs;obtain ⟨wk,rfl,hRy⟩:=YJ hcs;obtain ⟨A1,n6,b1,rfl,_⟩:=hRy.kids;refine zW ?_;intros
    first | refine Wp.perm (List.Perm.swap _ _ _) ?_ | refine Seq.perm (List.Perm.swap _ _ _) ?_
    refine Yd (Yk [_] [_] Zz (Yof s (x:=y) (d:=d+1) (c:=c+1+xcountL (x.kids.take k)) Zi hRy Zi hcc) (fun v5 fz5 H5 hle5 hR5=>?_));obtain ⟨_,b5,c5,rfl,rfl,hc5,hb5⟩:=hR5;cases b5
    ·refine zW ?_;exact ret1 rfl rfl Zb ⟨hle.trans hle5,Yif (fun h0=>absurd (hb5.2 ⟨(Ya8.1 h0.1).2 y hym,by have:=(YeI (l:=x.kids)).1 (Zs _) y hym;omega,by omega⟩) (by simp))⟩
    have hc5:=hc5 rfl;have hb5:=hb5.1 rfl;subst hc5;exact wP (h:=by exact ⟨k+1,by omega,rfl,rfl,hle.trans hle5,by rw [hst,<- Nat.add_assoc],YH hh hy ⟨hb5.1,hb5.2.1⟩,by omega⟩)
   rw [show x.kids.take k=x.kids from Zl Zi] at hcc ⊢;have hK:=Xc hh Zi;refine zW ?_;exact ret1 rfl rfl (List.Sublist.refl _) ⟨hle,true,_,rfl,rfl,fun _=>by rw [e1];simp only [Nat.add_assoc],iff_of_true rfl ⟨Ya8.2 ⟨hn.2 ⟨n1,n2⟩,fun y hy=>(hK y hy).1⟩,by
    have e3:xdepthL x.kids<=31 - d:=YeI.2 (fun y hy=>by have:=(hK y hy).2;omega);omega,by omega⟩⟩
  refine zW ?_;exact ret1 rfl rfl Zb ⟨Zd,no (fun h0=>by rcases h0 with h0 | h0 | h0;exact y1 h0.1;exact y2 h0.1;exact y3 h0.1)⟩
theorem YfQ {x:Sexpr} (h:Wq fz x vk):QFn prog 124 [.agg #[Zk x.kind,Zk x.value,Zk x.line,Zk x.column,Zy x.text,vk]] fz (Zo (decide (XVal x))):=by
 obtain ⟨A,n,ca,rfl,hk⟩:=h.kids;refine qF Tryz.func124 Tryz.ntmps124 (fun w0=>?_);refine pX (fun g0=>?_);refine zW ?_;intros;refine Yd (Yk [_] [_] Zz (Yof _ (d:=0) (c:=0) (Zs _) h Zi Zi) (fun v5 fz5 H5 hle5 hR5=>?_));obtain ⟨_,b5,c5,rfl,rfl,hc5,hb5⟩:=hR5;refine zW ?_;have hb:(b5=true)↔XVal x:=by rw [hb5];unfold XVal;simp only [Nat.zero_add]
 have hd:decide (XVal x)=b5:=by cases b5<;>simp_all
 exact zR (h:=by rw [hd])
def errV:Int->Value:=fun n=>if n=0 then .nilIface else .iface 88 (Zk n)
theorem YD {n:Int} (h:n≠0):errV n=.iface 88 (Zk n):=if_neg h
def ESmN (e:Lx.Expr):Prop:=e.args.length<=1000000000
def FSmN (f:Formula):Prop:=f.args.length<=1000000000/\f.params.length<=1000000000/\f.kids.length<=1000000000
abbrev ESm (e:Lx.Expr):Prop:=EAll ESmN e
abbrev FSm (f:Formula):Prop:=FAll FSmN ESmN f
theorem Yca:∀ (s:Nat) {e:Lx.Expr},SizeOf.sizeOf e<=s->EOk e->ESm e->EShape e
 | 0,e,h,_,_=>by cases e;simp at h
 | s+1,e,h,h1,h2=>by
  have h3:=YbO.1 h1;have h4:=YbO.1 h2;rcases h3.1 with h5 | h5 | h5
  ·exact .num h5.1
  ·exact .flu h5.1 h4.1
  obtain ⟨a,b,hab⟩:∃ a b,e.kids=[a,b]:=by
   match hK:e.kids,h5.2.2.2.2 with
   | [a,b],_=>exact ⟨a,b,rfl⟩
  have ka:a∈e.kids:=by rw [hab];simp
  have kb:b∈e.kids:=by rw [hab];simp
  have la:=Lx.Expr.kids_lt ka;have lb:=Lx.Expr.kids_lt kb;refine .bin (fun h0=>?_) (fun h0=>?_) hab (Yca s Zi (h3.2 a ka) (h4.2 a ka)) (Yca s Zi (h3.2 b kb) (h4.2 b kb))
  ·have h6:=h5.1;rw [h0] at h6;rcases h6 with h6 | h6 | h6<;>exact absurd (congrArg ByteArray.size h6) Zh
  have h6:=h5.1;rw [h0] at h6;rcases h6 with h6 | h6 | h6<;>exact absurd (congrArg ByteArray.size h6) Zh
theorem YgS:∀ (s:Nat) {f:Formula},SizeOf.sizeOf f<=s->FOk f->FSm f->FShape f
 | 0,f,h,_,_=>by cases f;simp at h
 | s+1,f,h,h1,h2=>by
  have h3:=WQ.1 h1;have h4:=WQ.1 h2;by_cases k1:f.op=kAtom
  ·exact .atom (.inl k1) h4.1.1
  by_cases k2:f.op=kSame
  ·exact .atom (.inr k2) h4.1.1
  by_cases k3:CmpOp f.op
  ·obtain ⟨_,⟨k,hk,hr⟩,_⟩:=h3.1;rw [WW,if_neg (fun h0=>h0.elim k1 k2),if_pos k3] at hk;cases hk;obtain ⟨a,b,hab⟩:∃ a b,f.exprs=[a,b]:=by
    match hK:f.exprs,hr.2.1 with
    | [a,b],_=>exact ⟨a,b,rfl⟩
   have ka:a∈f.exprs:=by rw [hab];simp
   have kb:b∈f.exprs:=by rw [hab];simp
   exact .cmp k3 hab (Yca _ (Zs _) (h3.2.1 a ka) (h4.2.1 a ka)) (Yca _ (Zs _) (h3.2.1 b kb) (h4.2.1 b kb))
  exact .other k1 k2 k3 h4.1.2.1 h4.1.2.2 (fun k hk=>YgS s (by have:=Formula.kids_lt hk;omega) (h3.2.2 k hk) (h4.2.2 k hk))
theorem Yb9:∀ (s:Nat) {e:Lx.Expr},SizeOf.sizeOf e<=s->EOk e->ecount e<=xcount (Wf e)/\edepth e<=xdepth (Wf e)+1
 | 0,e,h,_=>by cases e;simp at h
 | s+1,e,h,h1=>by
  have h3:=YbO.1 h1;rw [exprX_eq,Yc8,Yev];split
  ·rename_i h0;have hk:=((YkC h0).1 h3.1).2.2.1;rw [hk];simp [ecountL,edepthL,numE,xcount,xcountL,xdepth]
  split
  ·rename_i h0;have hk:=((YkD h0).1 h3.1).2.1;rw [hk];simp [ecountL,edepthL,Wn,YK,xcount,xdepth]
  rename_i k1 k2;have h5:=(YkE k1 k2).1 h3.1;obtain ⟨a,b,hab⟩:∃ a b,e.kids=[a,b]:=by
   match hK:e.kids,h5.2.2.2.2 with
   | [a,b],_=>exact ⟨a,b,rfl⟩
  have ka:a∈e.kids:=by rw [hab];simp
  have kb:b∈e.kids:=by rw [hab];simp
  have la:=Yb9 s (by have:=Lx.Expr.kids_lt ka;omega) (h3.2 a ka);have lb:=Yb9 s (by have:=Lx.Expr.kids_lt kb;omega) (h3.2 b kb);rw [hab];simp only [ecountL,edepthL,YK,xcount,xcountL,xdepth,xdepthL,List.map_cons,List.map_nil,Yi];simp;omega
theorem Yie {l:List Formula} (h:∀ k∈l,fcount k<=xcount (Xf k)):fcountL l<=xcountL (l.map Xf):=by
 induction l with
 | nil=>simp [fcountL]
 | cons a r ih=>
  have h1:=h a (by simp);have h2:=ih (fun k hk=>h k (by simp [hk]));simp only [fcountL,List.map_cons,xcountL];omega
theorem Yid {l:List Formula} (h:∀ k∈l,fdepth k<=xdepth (Xf k)+1):fdepthL l<=xdepthL (l.map Xf)+1:=by
 induction l with
 | nil=>simp [fdepthL]
 | cons a r ih=>
  have h1:=h a (by simp);have h2:=ih (fun k hk=>h k (by simp [hk]));simp only [fdepthL,List.map_cons,xdepthL];omega
theorem YcA {l:List Sexpr}:xcount (YK l)=1+xcountL l:=by simp [YK,xcount]
theorem Ycz {l:List Sexpr}:xdepth (YK l)=xdepthL l+1:=by simp [YK,xdepth]
theorem Ye9:∀ (s:Nat) {f:Formula},SizeOf.sizeOf f<=s->FOk f->fcount f<=xcount (Xf f)/\fdepth f<=xdepth (Xf f)+1
 | 0,f,h,_=>by cases f;simp at h
 | s+1,f,h,h1=>by
  have h3:=WQ.1 h1;obtain ⟨_,⟨k,hk,hr⟩,_⟩:=h3.1;rw [YfY,Yer,Yg1];by_cases k1:f.op=kAtom
  ·rw [WW,if_pos (.inl k1)] at hk;cases hk;rw [List.eq_nil_of_length_eq_zero hr.2.1,List.eq_nil_of_length_eq_zero hr.2.2.1,if_pos k1];simp [ecountL,edepthL,fcountL,fdepthL,Wn,YcA,Ycz]
  by_cases k2:f.op=kSame
  ·rw [WW,if_pos (.inr k2)] at hk;cases hk;rw [List.eq_nil_of_length_eq_zero hr.2.1,List.eq_nil_of_length_eq_zero hr.2.2.1,if_neg k1,if_pos k2];simp [ecountL,edepthL,fcountL,fdepthL,Wn,YcA,Ycz]
  by_cases k3:CmpOp f.op
  ·rw [WW,if_neg (fun h0=>h0.elim k1 k2),if_pos k3] at hk;cases hk;obtain ⟨a,b,hab⟩:∃ a b,f.exprs=[a,b]:=by
    match hK:f.exprs,hr.2.1 with
    | [a,b],_=>exact ⟨a,b,rfl⟩
   have la:=Yb9 _ (Zs _) (h3.2.1 a (by rw [hab];simp));have lb:=Yb9 _ (Zs _) (h3.2.1 b (by rw [hab];simp));rw [hab,List.eq_nil_of_length_eq_zero hr.2.2.1,if_neg k1,if_neg k2,if_pos k3];simp only [ecountL,edepthL,fcountL,fdepthL,YcA,Ycz,xcountL,xdepthL,List.map_cons,List.map_nil];omega
  have he:f.exprs=[]:=by
   refine List.eq_nil_of_length_eq_zero ?_;rw [hr.2.1];rw [WW,if_neg (fun h0=>h0.elim k1 k2),if_neg k3] at hk;split at hk
   ·cases hk;rfl
   split at hk
   ·cases hk;rfl
   split at hk
   ·cases hk;rfl
   split at hk
   ·cases hk;rfl
   cases hk
  have c1:=Yie (l:=f.kids) (fun k hk=>(Ye9 s (by have:=Formula.kids_lt hk;omega) (h3.2.2 k hk)).1);have c2:=Yid (l:=f.kids) (fun k hk=>(Ye9 s (by have:=Formula.kids_lt hk;omega) (h3.2.2 k hk)).2);rw [he,if_neg k1,if_neg k2,if_neg k3,YcA,Ycz,Ydz,Yhj];simp only [ecountL,edepthL];omega
def FVal (f:Formula):Prop:=FOk f/\XVal (Xf f)
def EVal (e:Lx.Expr):Prop:=EOk e/\XVal (Wf e)
theorem YmL (h:FormulaR fz f va vp ve vk) (hs:FSm f):
 QFn prog 105 [.agg #[Zy f.op,Zy f.name,va,vp,ve,vk]] fz (Zo (decide (FVal f))):=by
 obtain ⟨⟨A,n,ca,rfl,ha⟩,⟨B,m,cb,rfl,hp⟩,⟨C,r,cr,rfl,he⟩,⟨D,q,cq,rfl,hk⟩⟩:=h.sls;refine qF Tryz.func105 Tryz.ntmps105 (fun w0=>?_);refine pX (fun g0=>?_);refine zW ?_;intros;rename_i g1;refine Yd (Yk [_] [_] Zz (shaped_q (g:=g1) (d:=0) (c:=0) h Zi Zi) (fun v5 fz5 H5 hle5 hR5=>?_));obtain ⟨_,b5,c5,rfl,rfl,hc5,hb5⟩:=hR5;cases b5
 ·refine zW ?_
  (exact ret1 rfl rfl Zb (Yj (fun h0=>by
   have h1:=Ye9 _ (Zs _) h0.1;exact absurd (hb5.2 ⟨h0.1,by have:=h0.2.2.1;omega,by have:=h0.2.2.2;omega⟩) (by simp))))
 have hb:=hb5.1 rfl;refine zW ?_;refine Wm (Yk [] _ Zz (Yn1 (h.mono hle5) (YgS _ (Zs _) hb.1 hs)) (fun v6 fz6 H6 hle6 hR6=>?_));obtain ⟨rfl,cs,rfl,hr⟩:=hR6;obtain ⟨vk6,rfl,hX⟩:=YJ hr;refine wc (YfQ hX) ?_;refine zW ?_;have hd:decide (FVal f)=decide (XVal (Xf f)):=decide_eq_decide.2 ⟨fun h0=>h0.2,fun h0=>⟨hb.1,h0⟩⟩;exact zR (h:=by rw [hd])
theorem evalid_q {e:Lx.Expr} (h:ExprR fz e va vk) (hs:ESm e):
 QFn prog 275 [.agg #[Zy e.op,Zy e.name,Zk e.n,va,vk]] fz (Zo (decide (EVal e))):=by
 obtain ⟨⟨A,n,ca,rfl,ha⟩,⟨D,q,cq,rfl,hk⟩⟩:=h.sls;refine qF Tryz.func275 Tryz.ntmps275 (fun w0=>?_);refine pX (fun g0=>?_);refine zW ?_;intros;rename_i g1;refine Yd (Yk [_] [_] Zz (YmN (g:=g1) (d:=0) (c:=0) h Zi Zi) (fun v5 fz5 H5 hle5 hR5=>?_));obtain ⟨_,b5,c5,rfl,rfl,hc5,hb5⟩:=hR5;cases b5
 ·refine zW ?_
  (exact ret1 rfl rfl Zb (Yj (fun h0=>by
   have h1:=Yb9 _ (Zs _) h0.1;exact absurd (hb5.2 ⟨h0.1,by have:=h0.2.2.1;omega,by have:=h0.2.2.2;omega⟩) (by simp))))
 have hb:=hb5.1 rfl;refine zW ?_;refine Wm (Yk [] _ Zz (WR (h.mono hle5) (Yca _ (Zs _) hb.1 hs)) (fun v6 fz6 H6 hle6 hR6=>?_));obtain ⟨rfl,cs,rfl,hr⟩:=hR6;obtain ⟨vk6,rfl,hX⟩:=YJ hr;refine wc (YfQ hX) ?_;refine zW ?_;have hd:decide (EVal e)=decide (XVal (Wf e)):=decide_eq_decide.2 ⟨fun h0=>h0.2,fun h0=>⟨hb.1,h0⟩⟩;exact zR (h:=by rw [hd])
def Yjs:Sexpr:=.mk 0 0 0 0 ⟨#[]⟩ []
theorem Ycl:SxIs fz (sxV 0 0 ⟨#[]⟩ Zn) Yjs:=⟨_,rfl,Ym (x:=Yjs) ⟨XP,XP,XP,XP,Y5,IsSl.nil⟩⟩
def WrR (P:Prop) (x:Sexpr) (v:Value) (fz':FZ) (H':HP):Prop:=H'=[]/\∃ u y,v=.tuple #[u,errV (if P then 0 else 2)]/\SxIs fz' u y/\(P->y=x)
theorem YmR (h:FormulaR fz f va vp ve vk) (hs:FSm f):
 GFn prog 125 [.agg #[Zy f.op,Zy f.name,va,vp,ve,vk]] fz [] (WrR (FVal f) (Xf f)):=by
 obtain ⟨⟨A,n,ca,rfl,ha⟩,⟨B,m,cb,rfl,hp⟩,⟨C,r,cr,rfl,he⟩,⟨D,q,cq,rfl,hk⟩⟩:=h.sls;refine zF Tryz.func125 Tryz.ntmps125 (fun w0=>?_);refine pX (fun g0=>?_);refine zW ?_;intros;rename_i g1;refine zb (YmL h hs) (fun f1=>?_) (fun f1=>?_)
 ·have hv:=Zt f1;refine wK (q:=Yn1 h (YgS _ (Zs _) hv.1 hs)) (h:=fun v6 fz6 H6 hle6 hR6=>?_);obtain ⟨rfl,cs,rfl,hr⟩:=hR6;obtain ⟨vk6,rfl,hX⟩:=YJ hr;obtain ⟨A6,n6,b6,rfl,_⟩:=hX.kids;refine zW ?_;refine Ybk T (vs:=[.agg #[_,_,_,_,_,_],.nilIface]) ⟨⟨_,_,0,_,_,_,rfl,rfl,rfl,rfl,rfl,rfl⟩,rfl,trivial⟩ (fun fz3 hle3 hf3=>?_);exact ⟨rfl,_,_,by rw [if_pos hv];rfl,SxIs.mono hle3 ⟨_,rfl,Ym hX⟩,fun _=>rfl⟩
 have hv:=Zf f1;refine zW ?_;refine Ybk T (vs:=[.agg #[_,_,_,_,_,_],_]) ⟨⟨_,_,0,_,_,_,rfl,rfl,rfl,rfl,rfl,rfl⟩,rfl,trivial⟩ (fun fz3 hle3 hf3=>?_);exact ⟨rfl,_,_,by rw [if_neg hv,YD Zh];rfl,Ycl,fun h0=>absurd h0 hv⟩
theorem eWrite_q {e:Lx.Expr} (h:ExprR fz e va vk) (hs:ESm e):
 GFn prog 261 [.agg #[Zy e.op,Zy e.name,Zk e.n,va,vk]] fz [] (WrR (EVal e) (Wf e)):=by
 obtain ⟨⟨A,n,ca,rfl,ha⟩,⟨D,q,cq,rfl,hk⟩⟩:=h.sls;refine zF Tryz.func261 Tryz.ntmps261 (fun w0=>?_);refine pX (fun g0=>?_);refine zW ?_;intros;rename_i g1;refine zb (evalid_q h hs) (fun f1=>?_) (fun f1=>?_)
 ·have hv:=Zt f1;refine wK (q:=WR h (Yca _ (Zs _) hv.1 hs)) (h:=fun v6 fz6 H6 hle6 hR6=>?_);obtain ⟨rfl,cs,rfl,hr⟩:=hR6;obtain ⟨vk6,rfl,hX⟩:=YJ hr;obtain ⟨A6,n6,b6,rfl,_⟩:=hX.kids;refine zW ?_;refine Ybk T (vs:=[.agg #[_,_,_,_,_,_],.nilIface]) ⟨⟨_,_,0,_,_,_,rfl,rfl,rfl,rfl,rfl,rfl⟩,rfl,trivial⟩ (fun fz3 hle3 hf3=>?_);exact ⟨rfl,_,_,by rw [if_pos hv];rfl,SxIs.mono hle3 ⟨_,rfl,Ym hX⟩,fun _=>rfl⟩
 have hv:=Zf f1;refine zW ?_;refine Ybk T (vs:=[.agg #[_,_,_,_,_,_],_]) ⟨⟨_,_,0,_,_,_,rfl,rfl,rfl,rfl,rfl,rfl⟩,rfl,trivial⟩ (fun fz3 hle3 hf3=>?_);exact ⟨rfl,_,_,by rw [if_neg hv,YD Zh];rfl,Ycl,fun h0=>absurd h0 hv⟩
theorem toList_inj {a b:Bs}:a.toList=b.toList↔a=b:=by
 constructor
 ·intro h;rw [ByteArray.toList_eq,ByteArray.toList_eq] at h;cases a;cases b;simp only [ByteArray.mk.injEq];exact Array.toList_inj.1 h
 intro h;rw [h]
theorem eq_param (a b c d:Bs) (w:World):(Op.equalIn 10000 86 (.agg #[Zy a,Zy b]) (.agg #[Zy c,Zy d])).run prog w=.ok (decide (a=c/\b=d)) w:=by
 have u3:=Tryz.underlying9;have a3:=Tryz.isAgg9;have z3:=Tryz.sizeOf9;have hS:prog.underlying 86=some (.struct (prog.fieldsOf 86)):=by kernel_rfl
 rw [show (10000:Nat)=9999+1 from rfl,run_equalIn_agg w 9999 86 _ _ hS Zj];simp only [Program.fieldsOf,Tryz.underlying86]
 go_simp
 by_cases h1:a=c<;>by_cases h2:b=d<;>simp [h1,h2,toList_inj]
theorem Yli {cx:Cx} {r:Operand->Option Value} {V:Value->Prop} {dst:Option Nat} {ty:TypeId} {pos:String} {af:Array Edge} {gd:Option (Nat × Bool)} {a b:Param} (hx:r x=some (.agg #[Zy a.name,Zy a.typ])) (hy:r y=some (.agg #[Zy b.name,Zy b.typ]))
 (ht:a≠b->V (.bool true)) (hf:a=b->V (.bool false)):DoesQ prog cx ⟨dst,.binOp .neq 86 x y t',ty,pos,af,gd⟩ r fz H V:=by
 have hab:a=b↔(a.name=b.name/\a.typ=b.typ):=by
  cases a;cases b;simp
 have hV:V (Zo (!decide (a.name=b.name/\a.typ=b.typ))):=by
  by_cases h:a=b
  ·rw [decide_eq_true (hab.1 h)];exact hf h
  rw [decide_eq_false (fun h0=>h (hab.2 h0))];exact ht h
 refine DoesQ.of hV fun ρ w hr hw=>?_
 have hg:=run_eqGuard_agg (P:=prog) w .neq 86 x y #[Zy a.name,Zy a.typ] #[Zy b.name,Zy b.typ] Zj;have hb:=run_neq_struct (P:=prog) w 86 #[Zy a.name,Zy a.typ] #[Zy b.name,Zy b.typ];rw [eq_param,Result.andThen_ok] at hb;have:(execOp ρ ⟨dst,.binOp .neq 86 x y t',ty,pos,af,gd⟩).run prog w=.ok (.value (.bool (!decide (a.name=b.name/\a.typ=b.typ)))) w:=by
  simp only [execOp,hr _ _ hx,hr _ _ hy,Sem.run_bind,hg,hb,Result.andThen_ok,Sem.run_pure]
 rw [this];exact ⟨rfl,Fr.refl _ _⟩
theorem Ydh {m:List α} (h:∀ i,i<l.length->∀ x,l[i]?=some x->m[i]?=some x) (hl:l.length=m.length:=by omega):l=m:=by
 apply List.ext_getElem?;intro i;by_cases hi:i<l.length
 ·have hx:l[i]?=some l[i]:=List.getElem?_eq_getElem hi;rw [hx,h i hi _ hx]
 rw [List.getElem?_eq_none Zi,List.getElem?_eq_none Zi]
theorem Yby {p:Nat->α->Prop} {x:α} (h:∀ i,i<k->∀ x,l[i]?=some x->p i x) (hx:l[k]?=some x) (hp:p k x):∀ i,i<k+1->∀ x,l[i]?=some x->p i x:=fun i hi y hy=>by
 by_cases he:i=k
 ·subst he;rw [hx] at hy;cases hy;exact hp
 exact h i Zi y hy
theorem Yi9 {fz:FZ} {A B:Option Addr} {n c m d:Nat} {l1 l2} (h1:Sl strL fz A n c l1) (h2:Sl strL fz B m d l2):
 QFn prog 70 [Zc A n c,Zc B m d] fz (Zo (decide (l1=l2))):=by
 refine GFn.quiet ?_;have k1:=h1.len;have k2:=h2.len;have k3:=h1.short;have k4:=h2.short;refine zF Tryz.func70 Tryz.ntmps70 (fun w0=>?_);refine wC ?_ ?_<;>intro c1
 ·exact wR (h:=by exact Yj (fun h=>c1 (by rw [<- k1,<- k2,h])))
 refine zW ?_;refine WD n (fun k=>[(13,Zk k),(12,Zk n),(0,Zc A n c),(1,Zc B m d)]) [] (fun k=>(∀ i,i<k->∀ x,l1[i]?=some x->l2[i]?=some x)) (fun i hi=>absurd hi Zi) ?_;intro k hk hh;refine wC ?_ ?_<;>intro c2
 ·obtain ⟨x,hx⟩:=Yf (l:=l1) (k:=k) Zi;obtain ⟨y,hy⟩:=Yf (l:=l2) (k:=k) Zi;refine wI h1 hx (fun a ha=>?_);refine zH ha (fun sx=>?_);refine wI h2 hy (fun b hb=>?_);refine zH hb (fun sy=>?_);refine wC ?_ ?_<;>intro e1
  ·exact wR (h:=by exact Yj (fun h=>e1 (by rw [h,hy] at hx;exact (Option.some.inj hx).symm)))
  exact wM (h:=by exact Yby hh hx (by rw [hy,e1]))
 exact wR (h:=by exact Ys (Ydh (fun i hi x hx=>hh i Zi x hx)))
theorem equalP_q {fz:FZ} {A B:Option Addr} {n c m d:Nat} {l1 l2} (h1:Sl paramL fz A n c l1) (h2:Sl paramL fz B m d l2):
 QFn prog 239 [Zc A n c,Zc B m d] fz (Zo (decide (l1=l2))):=by
 refine GFn.quiet ?_;have k1:=h1.len;have k2:=h2.len;have k3:=h1.short;have k4:=h2.short;refine zF Tryz.func239 Tryz.ntmps239 (fun w0=>?_);refine wC ?_ ?_<;>intro c1
 ·exact wR (h:=by exact Yj (fun h=>c1 (by rw [<- k1,<- k2,h])))
 refine zW ?_;refine WD n (fun k=>[(13,Zk k),(12,Zk n),(0,Zc A n c),(1,Zc B m d)]) [] (fun k=>(∀ i,i<k->∀ x,l1[i]?=some x->l2[i]?=some x)) (fun i hi=>absurd hi Zi) ?_;intro k hk hh;refine wC ?_ ?_<;>intro c2
 ·obtain ⟨x,hx⟩:=Yf (l:=l1) (k:=k) Zi;obtain ⟨y,hy⟩:=Yf (l:=l2) (k:=k) Zi;refine wI h1 hx (fun a ha=>?_)
  ((refine zL ha ?_;intro cs1 hcs1;obtain ⟨rfl,hR1⟩:=YM hcs1));refine wI h2 hy (fun b hb=>?_)
  ((refine zL hb ?_;intro cs2 hcs2;obtain ⟨rfl,hR2⟩:=YM hcs2));refine zW ?_
  (((refine zG ?_);refine Yli Zz Zz (fun e1=>?_) (fun e1=>?_)))
  ·exact wR (h:=by exact Yj (fun h=>e1 (by rw [h,hy] at hx;exact (Option.some.inj hx).symm)))
  exact wM (h:=by exact Yby hh hx (by rw [hy,e1]))
 exact wR (h:=by exact Ys (Ydh (fun i hi x hx=>hh i Zi x hx)))
theorem eqfE_q {m d:Nat} {l1 l2:List Lx.Expr} (h1:Sl exprL fz A n c l1) (h2:Sl exprL fz B m d l2) (hq:∀ x y cs ds,x∈l1->exprL.rep fz x cs->exprL.rep fz y ds->QFn prog ff [.agg (List.toArray cs),.agg (List.toArray ds)] fz (Zo (decide (x=y)))):
 QFn prog 240 [Zc A n c,Zc B m d,.func (.func ff) #[] #[]] fz (Zo (decide (l1=l2))):=by
 refine GFn.quiet ?_;have k1:=h1.len;have k2:=h2.len;have k3:=h1.short;have k4:=h2.short;refine zF Tryz.func240 Tryz.ntmps240 (fun w0=>?_);refine wC ?_ ?_<;>intro c1
 ·exact wR (h:=by exact Yj (fun h=>c1 (by rw [<- k1,<- k2,h])))
 refine zW ?_;refine WD n (fun k=>[(17,Zk k),(16,Zk n),(15,Zc A n c),(2,.func (.func ff) #[] #[]),(1,Zc B m d)]) [] (fun k=>(∀ i,i<k->∀ x,l1[i]?=some x->l2[i]?=some x)) (fun i hi=>absurd hi Zi) ?_;intro k hk hh;refine wC ?_ ?_<;>intro c2
 ·obtain ⟨x,hx⟩:=Yf (l:=l1) (k:=k) Zi;obtain ⟨y,hy⟩:=Yf (l:=l2) (k:=k) Zi;refine wI h1 hx (fun a ha=>?_);refine zL ha ?_;intro cs1 hcs1;have hq1:=fun y ds=>hq x y cs1 ds (Zm hx) hcs1
  obtain ⟨u1,u2,rfl,hR1⟩:=YF hcs1
  ((obtain ⟨A1,n1,c1',rfl,ia1⟩:=hR1.args;obtain ⟨A2,n2,c2',rfl,ik1⟩:=hR1.kids));refine zW ?_;intros;refine zI h2 hy (fun b hb=>?_);refine zL hb ?_;intro cs2 hcs2;have hq2:=hq1 y cs2 hcs2;obtain ⟨w1,w2,rfl,hR2⟩:=YF hcs2
  ((obtain ⟨A3,n3,c3',rfl,ia2⟩:=hR2.args;obtain ⟨A4,n4,c4',rfl,ik2⟩:=hR2.kids));refine zW ?_;intros
  ((refine zG ?_);refine Wb Zz Zz Zz hq2 (fun e1=>?_) (fun e1=>?_))
  ·exact wM (h:=by exact Yby hh hx (by rw [hy,e1]))
  exact wR (h:=by exact Yj (fun h=>e1 (by rw [h,hy] at hx;exact (Option.some.inj hx).symm)))
 exact wR (h:=by exact Ys (Ydh (fun i hi x hx=>hh i Zi x hx)))
theorem eqfF_q {m d:Nat} {l1 l2:List Lx.Formula} (h1:Sl formulaL fz A n c l1) (h2:Sl formulaL fz B m d l2) (hq:∀ x y cs ds,x∈l1->formulaL.rep fz x cs->formulaL.rep fz y ds->QFn prog ff [.agg (List.toArray cs),.agg (List.toArray ds)] fz (Zo (decide (x=y)))):
 QFn prog 242 [Zc A n c,Zc B m d,.func (.func ff) #[] #[]] fz (Zo (decide (l1=l2))):=by
 refine GFn.quiet ?_;have k1:=h1.len;have k2:=h2.len;have k3:=h1.short;have k4:=h2.short;refine zF Tryz.func242 Tryz.ntmps242 (fun w0=>?_);refine wC ?_ ?_<;>intro c1
 ·exact wR (h:=by exact Yj (fun h=>c1 (by rw [<- k1,<- k2,h])))
 refine zW ?_;refine WD n (fun k=>[(17,Zk k),(16,Zk n),(15,Zc A n c),(2,.func (.func ff) #[] #[]),(1,Zc B m d)]) [] (fun k=>(∀ i,i<k->∀ x,l1[i]?=some x->l2[i]?=some x)) (fun i hi=>absurd hi Zi) ?_;intro k hk hh;refine wC ?_ ?_<;>intro c2
 ·obtain ⟨x,hx⟩:=Yf (l:=l1) (k:=k) Zi;obtain ⟨y,hy⟩:=Yf (l:=l2) (k:=k) Zi;refine wI h1 hx (fun a ha=>?_);refine zL ha ?_;intro cs1 hcs1;have hq1:=fun y ds=>hq x y cs1 ds (Zm hx) hcs1
  obtain ⟨u1,u2,u3,u4,rfl,hR1⟩:=Yu hcs1
  ((obtain ⟨A1,n1,c1',rfl,ia1⟩:=hR1.args;obtain ⟨A2,n2,c2',rfl,ip1⟩:=hR1.params;obtain ⟨A3,n3,c3',rfl,ie1⟩:=hR1.exprs;obtain ⟨A4,n4,c4',rfl,ik1⟩:=hR1.kids));refine zW ?_;intros;refine zI h2 hy (fun b hb=>?_);refine zL hb ?_;intro cs2 hcs2;have hq2:=hq1 y cs2 hcs2;obtain ⟨w1,w2,w3,w4,rfl,hR2⟩:=Yu hcs2
  ((obtain ⟨A5,n5,c5',rfl,ia2⟩:=hR2.args;obtain ⟨A6,n6,c6',rfl,ip2⟩:=hR2.params;obtain ⟨A7,n7,c7',rfl,ie2⟩:=hR2.exprs;obtain ⟨A8,n8,c8',rfl,ik2⟩:=hR2.kids));refine zW ?_;intros
  ((refine zG ?_);refine Wb Zz Zz Zz hq2 (fun e1=>?_) (fun e1=>?_))
  ·exact wM (h:=by exact Yby hh hx (by rw [hy,e1]))
  exact wR (h:=by exact Yj (fun h=>e1 (by rw [h,hy] at hx;exact (Option.some.inj hx).symm)))
 exact wR (h:=by exact Ys (Ydh (fun i hi x hx=>hh i Zi x hx)))
theorem Ydp {a b:Lx.Expr}:a=b↔a.op=b.op/\a.name=b.name/\a.n=b.n/\a.args=b.args/\a.kids=b.kids:=by
 cases a;cases b;simp only [Lx.Expr.op,Lx.Expr.name,Lx.Expr.n,Lx.Expr.args,Lx.Expr.kids,Lx.Expr.mk.injEq]
theorem YcD {a b:Formula}:a=b↔a.op=b.op/\a.name=b.name/\a.args=b.args/\a.params=b.params/\a.exprs=b.exprs/\a.kids=b.kids:=by
 cases a;cases b;simp only [Formula.op,Formula.name,Formula.args,Formula.params,Formula.exprs,Formula.kids,Formula.mk.injEq]
theorem YhD:∀ (s:Nat) {fz:FZ} {a b:Lx.Expr} {va vk wa wk:Value},SizeOf.sizeOf a<=s->ExprR fz a va vk->ExprR fz b wa wk->
 QFn prog 241 [.agg #[Zy a.op,Zy a.name,Zk a.n,va,vk],.agg #[Zy b.op,Zy b.name,Zk b.n,wa,wk]] fz (Zo (decide (a=b)))
 | 0,_,e,_,_,_,_,_,hs,_,_=>by cases e;simp at hs
 | s+1,fz,a,b,va,vk,wa,wk,hs,hR1,hR2=>by
  refine GFn.quiet ?_
  ((obtain ⟨A1,n1,c1',rfl,ia1⟩:=hR1.args;obtain ⟨A2,n2,c2',rfl,ik1⟩:=hR1.kids))
  ((obtain ⟨A3,n3,c3',rfl,ia2⟩:=hR2.args;obtain ⟨A4,n4,c4',rfl,ik2⟩:=hR2.kids));refine zF Tryz.func241 Tryz.ntmps241 (fun w0=>?_);refine pX (fun g0=>?_);refine pY (fun g1=>?_);refine zW ?_
  (((refine zC (fun e1=>?_) (fun e1=>?_));rotate_left 1;((refine zW ?_);(exact ret1 rfl rfl Zb (Yj (fun h=>e1 (Ydp.1 h).1))));(refine zW ?_)))
  (((refine zC (fun e2=>?_) (fun e2=>?_));rotate_left 1;((refine zW ?_);(exact ret1 rfl rfl Zb (Yj (fun h=>e2 (Ydp.1 h).2.1))));(refine zW ?_)))
  (((refine zC (fun e3=>?_) (fun e3=>?_));rotate_left 1;((refine zW ?_);(exact ret1 rfl rfl Zb (Yj (fun h=>e3 (Ydp.1 h).2.2.1))));(refine zW ?_)));refine zb (Yi9 ia1 ia2) (fun f1=>?_) (fun f1=>?_)
  ·refine zW ?_
   ((refine zG ?_);refine XS (eqfE_q ik1 ik2 (fun x y cs ds hx h1 h2=>by
    obtain ⟨u1,u2,rfl,h3⟩:=YF h1;obtain ⟨w1,w2,rfl,h4⟩:=YF h2;exact YhD s (by have:=Lx.Expr.kids_lt hx;omega) h3 h4)) (fun f2=>?_) (fun f2=>?_))
   ·exact wR (h:=by exact Ys (Ydp.2 ⟨e1,e2,e3,Zt f1,Zt f2⟩))
   exact wR (h:=by exact Yj (fun h=>Zf f2 (Ydp.1 h).2.2.2.2))
  exact wR (h:=by exact Yj (fun h=>Zf f1 (Ydp.1 h).2.2.2.1))
theorem same_f:∀ (s:Nat) {fz:FZ} {a b:Formula} {va vp ve vk wa wp we wk:Value},SizeOf.sizeOf a<=s->FormulaR fz a va vp ve vk->FormulaR fz b wa wp we wk->
 QFn prog 195 [.agg #[Zy a.op,Zy a.name,va,vp,ve,vk],.agg #[Zy b.op,Zy b.name,wa,wp,we,wk]] fz (Zo (decide (a=b)))
 | 0,_,e,_,_,_,_,_,_,_,_,_,hs,_,_=>by cases e;simp at hs
 | s+1,fz,a,b,va,vp,ve,vk,wa,wp,we,wk,hs,hR1,hR2=>by
  refine GFn.quiet ?_
  ((obtain ⟨A1,n1,c1',rfl,ia1⟩:=hR1.args;obtain ⟨A2,n2,c2',rfl,ip1⟩:=hR1.params;obtain ⟨A3,n3,c3',rfl,ie1⟩:=hR1.exprs;obtain ⟨A4,n4,c4',rfl,ik1⟩:=hR1.kids))
  ((obtain ⟨A5,n5,c5',rfl,ia2⟩:=hR2.args;obtain ⟨A6,n6,c6',rfl,ip2⟩:=hR2.params;obtain ⟨A7,n7,c7',rfl,ie2⟩:=hR2.exprs;obtain ⟨A8,n8,c8',rfl,ik2⟩:=hR2.kids));refine zF Tryz.func195 Tryz.ntmps195 (fun w0=>?_);refine pX (fun g0=>?_);refine pY (fun g1=>?_);refine zW ?_
  (((refine zC (fun e1=>?_) (fun e1=>?_));rotate_left 1;((refine zW ?_);(exact ret1 rfl rfl Zb (Yj (fun h=>e1 (YcD.1 h).1))));(refine zW ?_)))
  (((refine zC (fun e2=>?_) (fun e2=>?_));rotate_left 1;((refine zW ?_);(exact ret1 rfl rfl Zb (Yj (fun h=>e2 (YcD.1 h).2.1))));(refine zW ?_)));refine zb (Yi9 ia1 ia2) (fun f1=>?_) (fun f1=>?_)
  ·refine wb (equalP_q ip1 ip2) (fun f2=>?_) (fun f2=>?_)
   ·refine zW ?_
    ((refine zG ?_);refine XS (eqfE_q ie1 ie2 (fun x y cs ds hx h1 h2=>by
     obtain ⟨u1,u2,rfl,h3⟩:=YF h1;obtain ⟨w1,w2,rfl,h4⟩:=YF h2;exact YhD _ (Zs _) h3 h4)) (fun f3=>?_) (fun f3=>?_))
    ·refine zW ?_
     ((refine zG ?_);refine XS (eqfF_q ik1 ik2 (fun x y cs ds hx h1 h2=>by
      obtain ⟨u1,u2,u3,u4,rfl,h3⟩:=Yu h1;obtain ⟨w1,w2,w3,w4,rfl,h4⟩:=Yu h2;exact same_f s (by have:=Formula.kids_lt hx;omega) h3 h4)) (fun f4=>?_) (fun f4=>?_))
     ·exact wR (h:=by exact Ys (YcD.2 ⟨e1,e2,Zt f1,Zt f2,Zt f3,Zt f4⟩))
     exact wR (h:=by exact Yj (fun h=>Zf f4 (YcD.1 h).2.2.2.2.2))
    exact wR (h:=by exact Yj (fun h=>Zf f3 (YcD.1 h).2.2.2.2.1))
   exact wR (h:=by exact Yj (fun h=>Zf f2 (YcD.1 h).2.2.2.1))
  exact wR (h:=by exact Yj (fun h=>Zf f1 (YcD.1 h).2.2.1))
theorem Ygh {a b:Formula} {wa wp we wk:Value} (hR1:FormulaR fz a va vp ve vk) (hR2:FormulaR fz b wa wp we wk):
 QFn prog 195 [.agg #[Zy a.op,Zy a.name,va,vp,ve,vk],.agg #[Zy b.op,Zy b.name,wa,wp,we,wk]] fz (Zo (decide (a=b))):=same_f _ (Zs _) hR1 hR2
def Xs:Formula:=.mk kAnd ⟨#[]⟩ [] [] [] []
theorem Ycp:FormulaR fz Xs Zn Zn Zn Zn:=⟨by unfold Short Xs;decide,Y5,IsSl.nil,IsSl.nil,IsSl.nil,IsSl.nil⟩
def YbL:Value:=.agg #[Zy kAnd,Ze,Zn,Zn,Zn,Zn]
theorem Yey:QFn prog 196 [] fz YbL:=by
 refine qF Tryz.func196 Tryz.ntmps196 (fun w0=>?_);refine zW ?_;intros;exact Wx (i:=0) rfl (fun _ hi=>⟨_,[],hi.forget (List.nil_sublist _),rfl⟩)
theorem YkA:ExprR fz (.mk ⟨#[]⟩ ⟨#[]⟩ 0 [] []) Zn Zn:=⟨Y5,Y5,XP,IsSl.nil,IsSl.nil⟩
theorem Yg5 {a b:Lx.Expr} {wa wk:Value} (hR1:ExprR fz a va vk) (hR2:ExprR fz b wa wk):
 QFn prog 260 [.agg #[Zy a.op,Zy a.name,Zk a.n,va,vk],.agg #[Zy b.op,Zy b.name,Zk b.n,wa,wk]] fz (Zo (decide (a=b))):=by
 refine GFn.quiet ?_
 ((obtain ⟨A1,n1,c1',rfl,ia1⟩:=hR1.args;obtain ⟨A2,n2,c2',rfl,ik1⟩:=hR1.kids))
 ((obtain ⟨A3,n3,c3',rfl,ia2⟩:=hR2.args;obtain ⟨A4,n4,c4',rfl,ik2⟩:=hR2.kids));refine zF Tryz.func260 Tryz.ntmps260 (fun w0=>?_);refine pX (fun g0=>?_);refine pY (fun g1=>?_);refine zW ?_;refine Yd (Yc (cs:=[Zy a.op,Zy a.name,Zk a.n,Zc A1 n1 c1',Zc A2 n2 c2']) (fun gA=>?_));refine zW ?_;refine Yd (Yc (cs:=[Zy b.op,Zy b.name,Zk b.n,Zc A3 n3 c3',Zc A4 n4 c4']) (fun gB=>?_));refine zW ?_
 first | refine Wp.freeze Zz (fun fz1 hl1 hg1=>?_) | refine Seq.freeze Zz (fun fz1 hl1 hg1=>?_)
 first | refine Wp.freeze Zz (fun fz2 hl2 hg2=>?_) | refine Seq.freeze Zz (fun fz2 hl2 hg2=>?_)
 have s1:Sl exprL fz2 (some ⟨gA,0,none⟩) 1 1 [a]:=XC (ys:=[(a,_)]) hg2 (by simp;rfl) rfl (by simpa using WL (hR1.mono (hl1.trans hl2))) rfl Zh;have s2:Sl exprL fz2 (some ⟨gB,0,none⟩) 1 1 [b]:=XC (ys:=[(b,_)]) (hl2 _ _ hg1) (by simp;rfl) rfl (by simpa using WL (hR2.mono (hl1.trans hl2))) rfl Zh
 ((refine zG ?_);refine Yt (Ygh (a:=.mk ⟨#[]⟩ ⟨#[]⟩ [] [] [a] []) (b:=.mk ⟨#[]⟩ ⟨#[]⟩ [] [] [b] []) ⟨Y5,Y5,IsSl.nil,IsSl.nil,s1.is,IsSl.nil⟩ ⟨Y5,Y5,IsSl.nil,IsSl.nil,s2.is,IsSl.nil⟩) ?_);exact wR (h:=by simp)
end Go.Proofs.YtbdpaoikccabhaaGreatDoor
namespace Go.Lx
open Go
def strOf (l:List UInt8):Bs:=⟨l.toArray⟩
theorem YaG (l:List UInt8):(strOf l).size=l.length:=by simp [strOf,ByteArray.size]
theorem YjG (a b:List UInt8):strOf a++strOf b=strOf (a++b):=by
 apply ByteArray.ext;simp [strOf,ByteArray.data_append]
theorem strOf_of (s:Bs):strOf s.data.toList=s:=by
 apply ByteArray.ext;simp [strOf]
theorem YoE {a b:List UInt8} (h:strOf a=strOf b):a=b:=by
 have:=congrArg (fun s:Bs=>s.data.toList) h;simpa [strOf] using this
end Go.Lx
namespace Go.Lx
open Go.RowKit
section
variable {P:Program} {cx:Cx} {r:Operand->Option Value} {fz:FZ} {H:HP} {V:Value->Prop} {dst:Option Nat} {ty:TypeId} {pos:String} {af:Array Edge} {gd:Option (Nat × Bool)}
variable {t t':TypeId} {x y:Operand}
theorem XX {a b:Bs} (hx:r x=some (.string a)) (hy:r y=some (.string b)) (hs:a.size+b.size<=9223372036854775807) (h:V (.string (a++b))):
 DoesQ P cx ⟨dst,.binOp .add t x y t',ty,pos,af,gd⟩ r fz H V:=
 YL (fun ρ w hr=>by
  have:¬(9223372036854775807<((a.size:Int)+(b.size:Int))):=by omega
  simp [execOp,hr _ _ hx,hr _ _ hy,eqGuard_at_string,binOp,Op.stringOp,this]) h
theorem Yfq {α:Type} {L:Lay α} {t e:TypeId} {x i:Operand} {X Y:Ty} {A:Option Addr} {n c:Nat} {k:IntKind} {j:Nat} {xs:List α}
 (hs:Sl L fz A n c xs) (h:∀ A',Sl L fz A' (n - j) (c - j) (xs.drop j)->V (.slice A' (n - j) (c - j))) (T:Tab P:=by exact T) (hT:T.inf t=some X:=by exact rfl) (hd:X.desc=.slice e:=by exact rfl) (hY:T.inf e=some Y:=by exact rfl) (hz:Y.size=L.size:=by exact rfl) (hx:r x=some (.slice A n c):=by exact rfl) (hi:r i=some (.int k j):=by exact rfl) (hj:j<=n:=by omega):DoesQ P cx ⟨dst,.slice t x (some i) none none,ty,pos,af,gd⟩ r fz H V:=by
  have h1:=hs.cap;have h2:=hs.max;have h3:=hs.short;have h4:=hs.len;refine YL (v:=.slice (if c=j then A else A.map (·.add (j*Y.size))) (n - j) (c - j)) (fun ρ w hr=>by
   have hu:=run_underlying (und_plain T hT hd rfl) w;have hs:=Lx.run_sizeOf T hY w;simp [execOp,hr _ _ hx,hr _ _ hi,Instr.sliceAt,Instr.slice,Instr.sliceBounds,Instr.sliceBound,asIntOf,hu,hs,hj]
   try omega) (h _ ?_)
  refine ⟨by rw [List.length_drop,h4],by omega,by omega,by omega,?_⟩;rcases hs.elem with h0 | ⟨ad,h5,h6⟩
  ·exact .inl Zi
  by_cases hn:n - j=0
  ·exact .inl hn
  refine .inr ⟨ad.add (j*L.size),?_,fun i d hd=>?_⟩
  ·rw [if_neg Zi,h5,hz];rfl
  rw [List.getElem?_drop] at hd;have:=h6 (j+i) d hd;have e:(ad.add (j*L.size)).add (i*L.size)=ad.add ((j+i)*L.size):=by
   rw [Nat.add_mul];unfold Addr.add;by_cases h7:j*L.size=0
   ·rw [h7];simp
   by_cases h8:i*L.size=0
   ·rw [h8];simp
   simp [h7,h8,Nat.add_assoc]
  rw [e];exact this
theorem YoZ {x y:Operand} {ats:Array TypeId} {k:IntKind} {a b:Int} (h:V (.int k (min a b))) (hx:r x=some (.int k a):=by exact rfl) (hy:r y=some (.int k b):=by exact rfl):
 DoesQ P cx ⟨dst,.call {callee:=.builtin .min,args:=#[x,y],argTypes:=ats},ty,pos,af,gd⟩ r fz H V:=
 YL (fun ρ w hr=>by
  have:(if b<a then b else a)=min a b:=by omega
  simp [execOp,resolve,invoke,builtin,hr _ _ hx,hr _ _ hy,Builtin.min_,Builtin.min2,this]) h
theorem q_neg {k:IntKind} {a c:Int} (hx:r x=some (.int k a)) (hw:k.wrap (0 - a)=c) (h:V (.int k c)):DoesQ P cx ⟨dst,.unOp .neg t x,ty,pos,af,gd⟩ r fz H V:=
 YL (fun ρ w hr=>by simp [execOp,hr _ _ hx,Op.unary,Op.intArith] at hw ⊢;exact hw) h
theorem q_quoN {x y:Operand} {t t':TypeId} {a b:Nat} (h:V (Zk (a / b:Nat))) (hx:r x=some (Zk a):=by exact rfl) (hy:r y=some (Zk b):=by exact rfl) (hb:0<b:=by decide) (ha:a<=9223372036854775807:=by omega):DoesQ P cx ⟨dst,.binOp .quo t x y t',ty,pos,af,gd⟩ r fz H V:=
 YL (fun ρ w hr=>by
  have h0:¬(b:Int)=0:=by omega
  have h1:(a:Int).tdiv b=((a / b:Nat):Int):=(Int.ofNat_tdiv a b).symm;have h2:(eqGuard .quo t x y (Zk a) (Zk b)).run P w=.ok () w:=by simp [eqGuard]
  have h3:binOp .quo t (Zk a) (Zk b)=Op.intDiv .quo .i64 a b:=by simp [binOp]
  have h4:a / b<=a:=Nat.div_le_self a b;have h5:IntKind.i64.wrap ((a:Int).tdiv b)=((a / b:Nat):Int):=by rw [h1];generalize a / b=q at h4;exact Xr Zi
  simp only [execOp,hr _ _ hx,hr _ _ hy,h2,h3,Op.intDiv,Sem.run_bind,Result.andThen_ok,if_neg h0,h5,Sem.run_pure]) h
theorem YoX {src dt e:TypeId} {x:Operand} {X Y Z:Ty} {t':TypeId} {g n c:Nat} {cs:List Value} {f:Nat × Nat} {bs:List UInt8} (i:Nat)
 (h:V (.string (strOf bs))) (T:Tab P:=by exact T) (hX:T.inf src=some X:=by exact rfl) (hXd:X.desc=.slice e:=by exact rfl) (hY:T.inf dt=some Y:=by exact rfl) (hYd:Y.desc=.string:=by exact rfl) (hZ:T.inf e=some Z:=by exact rfl) (hZd:Z.desc=.int .u8:=by exact rfl) (hx:r x=some (Zv g n c):=by exact rfl) (hi:H[i]?=some (g,.cells cs.toArray t' f):=by exact rfl) (hcs:cs.take n=bs.map Yax) (hn:bs.length=n):DoesQ P cx ⟨dst,.convert src dt x,ty,pos,af,gd⟩ r fz H V:=by
  refine DoesQ.of h fun ρ w hr hw=>?_
  have hcell:∀ j,j<n->w.cell? ⟨g,0+j,none⟩=some (.int .u8 ((bs.map fun b=>(b.toNat:Int)).getD j 0)):=fun j hj=>by
   have hj':j<bs.length:=by omega
   rw [Nat.zero_add,hw.cellOwn hi j];have h1:(cs.take n)[j]?=some (Yax bs[j]):=by rw [hcs,List.getElem?_map,List.getElem?_eq_getElem hj'];rfl
   rw [List.getElem?_take,if_pos hj] at h1;simp only [List.getElem?_toArray,h1,Yax];simp [List.getD,hj']
  have hrun:=run_convert_bytes_arg (P:=P) w src e (und_plain T hX hXd rfl) (und_plain T hZ hZd rfl) g 0 n c (bs.map fun b=>(b.toNat:Int)) (by simpa using hn) hcell dt (und_plain T hY hYd rfl);have hs:strOfNums (bs.map fun b=>(b.toNat:Int))=strOf bs:=by simp [strOfNums,Function.comp_def,strOf]
  rw [hs] at hrun;have:(execOp ρ ⟨dst,.convert src dt x,ty,pos,af,gd⟩).run P w=.ok (.value (.string (strOf bs))) w:=by
   simp only [execOp,hr _ _ hx,Sem.run_bind,hrun,Result.andThen_ok,Sem.run_pure]
  rw [this];exact ⟨rfl,Fr.refl _ _⟩
end
end Go.Lx
namespace Go.Proofs.YtbdpaoikccabhaaGreatDoor
variable {A:Option Addr} {c n:Nat} {ff:FuncId} {fz:FZ}
theorem YiS {l:List Lx.Param} {cap:List Value} {p:Lx.Param->Prop} [DecidablePred p] (h1:Sl paramL fz A n c l) (hq:∀ x∈l,∀ cs,paramL.rep fz x cs->QFn prog ff (.agg cs.toArray::cap) fz (Zo (decide (p x)))):
 QFn prog 94 [Zc A n c,.func (.func ff) #[] cap.toArray] fz (Zk (W2 p l 0)):=by
 refine qF Tryz.func94 Tryz.ntmps94 (fun w0=>?_);have l1:=h1.len;have hm:=h1.short;refine zW ?_;refine WD n (fun k=>[(8,Zk k),(7,Zk n),(0,Zc A n c),(1,.func (.func ff) #[] cap.toArray)]) [] (fun k=>(∀ i,i<k->∀ x,l[i]?=some x->¬p x)) (fun i hi=>absurd hi Zi) ?_;intro k hk hh;refine wC (fun hlt=>?_) (fun hge=>?_)
 ·refine zW ?_;obtain ⟨x,hx⟩:=Yf (l:=l) (k:=k) Zi;refine zI h1 hx (fun a ha=>?_);refine zL ha ?_;intro cs hcs;refine wG ?_;refine Wb Zz Zz Zz (hq x (Zm hx) cs hcs) (fun c1=>?_) (fun c1=>?_)
  ·exact wR (h:=by rw [XQ hh hx c1,Int.zero_add])
  exact wM (h:=by exact YH hh hx c1)
 exact wR (h:=by rw [Xo (Xc hh Zi)])
theorem YcL {l:List Lx.Param} {cap:List Value} {p:Lx.Param->Prop} [DecidablePred p] (h1:Sl paramL fz A n c l) (hq:∀ x∈l,∀ cs,paramL.rep fz x cs->QFn prog ff (.agg cs.toArray::cap) fz (Zo (decide (p x)))):
 QFn prog 51 [Zc A n c,.func (.func ff) #[] cap.toArray] fz (Zo (decide (∃ x∈l,p x))):=by
 refine qF Tryz.func51 Tryz.ntmps51 (fun w0=>?_);refine wc (YiS h1 hq) ?_;refine zC ?_ ?_<;>intro c1
 ·exact wR (h:=by exact Ys ((Y1 (Int.le_refl 0)).1 c1))
 exact wR (h:=by exact Yj (fun h=>c1 ((Y1 (Int.le_refl 0)).2 h)))
theorem Yko {l:List Lx.Atom} {cap:List Value} {p:Lx.Atom->Prop} [DecidablePred p] (h1:Sl atomL fz A n c l) (hq:∀ x∈l,∀ cs,atomL.rep fz x cs->QFn prog ff (.agg cs.toArray::cap) fz (Zo (decide (p x)))):
 QFn prog 115 [Zc A n c,.func (.func ff) #[] cap.toArray] fz (Zk (W2 p l 0)):=by
 refine qF Tryz.func115 Tryz.ntmps115 (fun w0=>?_);have l1:=h1.len;have hm:=h1.short;refine zW ?_;refine WD n (fun k=>[(8,Zk k),(7,Zk n),(0,Zc A n c),(1,.func (.func ff) #[] cap.toArray)]) [] (fun k=>(∀ i,i<k->∀ x,l[i]?=some x->¬p x)) (fun i hi=>absurd hi Zi) ?_;intro k hk hh;refine wC (fun hlt=>?_) (fun hge=>?_)
 ·refine zW ?_;obtain ⟨x,hx⟩:=Yf (l:=l) (k:=k) Zi;refine zI h1 hx (fun a ha=>?_);refine zL ha ?_;intro cs hcs;refine wG ?_;refine Wb Zz Zz Zz (hq x (Zm hx) cs hcs) (fun c1=>?_) (fun c1=>?_)
  ·exact wR (h:=by rw [XQ hh hx c1,Int.zero_add])
  exact wM (h:=by exact YH hh hx c1)
 exact wR (h:=by rw [Xo (Xc hh Zi)])
theorem Yg7 {l:List Lx.Atom} {cap:List Value} {p:Lx.Atom->Prop} [DecidablePred p] (h1:Sl atomL fz A n c l) (hq:∀ x∈l,∀ cs,atomL.rep fz x cs->QFn prog ff (.agg cs.toArray::cap) fz (Zo (decide (p x)))):
 QFn prog 59 [Zc A n c,.func (.func ff) #[] cap.toArray] fz (Zo (decide (∃ x∈l,p x))):=by
 refine qF Tryz.func59 Tryz.ntmps59 (fun w0=>?_);refine wc (Yko h1 hq) ?_;refine zC ?_ ?_<;>intro c1
 ·exact wR (h:=by exact Ys ((Y1 (Int.le_refl 0)).1 c1))
 exact wR (h:=by exact Yj (fun h=>c1 ((Y1 (Int.le_refl 0)).2 h)))
theorem YiR {l:List Lx.Value_} {cap:List Value} {p:Lx.Value_->Prop} [DecidablePred p] (h1:Sl valueL fz A n c l) (hq:∀ x∈l,∀ cs,valueL.rep fz x cs->QFn prog ff (.agg cs.toArray::cap) fz (Zo (decide (p x)))):
 QFn prog 69 [Zc A n c,.func (.func ff) #[] cap.toArray] fz (Zk (W2 p l 0)):=by
 refine qF Tryz.func69 Tryz.ntmps69 (fun w0=>?_);have l1:=h1.len;have hm:=h1.short;refine zW ?_;refine WD n (fun k=>[(8,Zk k),(7,Zk n),(0,Zc A n c),(1,.func (.func ff) #[] cap.toArray)]) [] (fun k=>(∀ i,i<k->∀ x,l[i]?=some x->¬p x)) (fun i hi=>absurd hi Zi) ?_;intro k hk hh;refine wC (fun hlt=>?_) (fun hge=>?_)
 ·refine zW ?_;obtain ⟨x,hx⟩:=Yf (l:=l) (k:=k) Zi;refine zI h1 hx (fun a ha=>?_);refine zL ha ?_;intro cs hcs;refine wG ?_;refine Wb Zz Zz Zz (hq x (Zm hx) cs hcs) (fun c1=>?_) (fun c1=>?_)
  ·exact wR (h:=by rw [XQ hh hx c1,Int.zero_add])
  exact wM (h:=by exact YH hh hx c1)
 exact wR (h:=by rw [Xo (Xc hh Zi)])
theorem YcK {l:List Lx.Value_} {cap:List Value} {p:Lx.Value_->Prop} [DecidablePred p] (h1:Sl valueL fz A n c l) (hq:∀ x∈l,∀ cs,valueL.rep fz x cs->QFn prog ff (.agg cs.toArray::cap) fz (Zo (decide (p x)))):
 QFn prog 37 [Zc A n c,.func (.func ff) #[] cap.toArray] fz (Zo (decide (∃ x∈l,p x))):=by
 refine qF Tryz.func37 Tryz.ntmps37 (fun w0=>?_);refine wc (YiR h1 hq) ?_;refine zC ?_ ?_<;>intro c1
 ·exact wR (h:=by exact Ys ((Y1 (Int.le_refl 0)).1 c1))
 exact wR (h:=by exact Yj (fun h=>c1 ((Y1 (Int.le_refl 0)).2 h)))
end Go.Proofs.YtbdpaoikccabhaaGreatDoor
