/- The texts VR, PNum, HK, QLp, GOpenA, POpenW, VRowHB, laid together. Conditions: none. -/
import Derived.Test.YtacfpcbladaohaaGreatDoorSAV
import Derived.Lay
import Derived.LaidOnce
import Derived.Carry
import Derived.MakeChecks
import Derived.LaidSub
import Derived.Deep.DeepHandedRow
import Derived.Lib.LaidTab
import Derived.Shelf.Vars
import Derived.Deep.Slices
import Derived.SizedLaws
set_option linter.all false
set_option maxHeartbeats 16000000
set_option maxRecDepth 20000
open Go.Lx Go.RowKit
attribute [local instance 10] Classical.propDecidable
open Go.Proofs.Tryz (prog)
namespace Go.Proofs.YtacfpcbladaohaaGreatDoor
variable {S:List Atom} {d:Domain} {p:Problem}
theorem YoD (hc:(YT d p).2=0) (hf:Fit14 d p) (hap:Apt d p) (hsch:schE (knM d p) d=0) {B D:List (List Bool)} (hS:S.length<=4096) (hB:FitR (schL (knM d p) d) B) (hD:FitR (schL (knM d p) d) D) (hfix:Xq (knM d p) (schL (knM d p) d) S B D=⟨S,B,D,false⟩)
 (hi:∀ a∈p.init,a∈S) {L:List StepM} {Ws:List Wd} {Ss:List StepM} (h:RunOk (mnM d p) p.init L Ws Ss):(∀ W∈Ws,InvW (knM d p) S W)/\∀ s∈Ss,s∈Ydr (schL (knM d p) d) D:=by
 induction h with
 | nil h=>
  refine ⟨fun W hW=>?_,fun s hs=>by cases hs⟩;simp at hW;subst hW;exact ⟨fun a ha=>hi a ((h a).1 ha),fun a ha _=>(h a).2 (YgI.1 ha)⟩
 | snoc _ _ ha hw ih=>
  obtain ⟨i1,i2⟩:=ih;obtain ⟨k1,k2⟩:=inv_step hc hf hap hsch hS hB hD hfix (i1 _ (by simp)) ha hw;refine ⟨fun X hX=>?_,fun t ht=>?_⟩
  ·rcases List.mem_append.1 hX with h | h
   ·exact i1 X h
   simp at h;subst h;exact k1
  rcases List.mem_append.1 ht with h | h
  ·exact i2 t h
  simp at h;subst h;exact k2
end Go.Proofs.YtacfpcbladaohaaGreatDoor
namespace Go.Proofs.YtacfpcbladaohaaGreatDoor
variable {fz:FZ} {f:Formula} {va ve vk vp u1 u2 u3 u4 u5 u6 u7 v1 v2 v3 v4 v5 v6:Value} {d:Domain} {p:Problem}
theorem num_q {n:Int}:QFn prog 12 [errV n] fz (Zk n):=by
 by_cases h:n=0
 ·subst h;refine GFn.quiet ?_;rw [show errV 0=.nilIface from rfl];refine zF Tryz.func12 Tryz.ntmps12 (fun w0=>?_);exact wR (h:=rfl)
 refine GFn.quiet ?_;rw [Yq h];refine zF Tryz.func12 Tryz.ntmps12 (fun w0=>?_);exact wR (h:=rfl)
theorem YhE:∀ (s:Nat) {fz:FZ} {f:Formula} {va vp ve vk:Value},SizeOf.sizeOf f<=s->FormulaR fz f va vp ve vk->fW f<=1000000000000->
 QFn prog 6 [.agg #[Zy f.op,Zy f.name,va,vp,ve,vk]] fz (Zk (spreadM f))
 | 0,_,e,_,_,_,_,hs,_,_=>by cases e;simp at hs
 | s+1,fz,f,va,vp,ve,vk,hs,h,hc=>by
  obtain ⟨⟨A,n,ca,rfl,ha⟩,⟨B,m,cb,rfl,hp⟩,⟨C,r,cr,rfl,he⟩,⟨D,q0,cq,rfl,hk⟩⟩:=h.sls;refine GFn.quiet ?_;have lk:=hk.len;have sk:=hk.short;have lp:=hp.len;have ec:=YjK f;have el:=spread_le f;refine zF Tryz.func6 Tryz.ntmps6 (fun w0=>?_);refine pX (fun g0=>?_);refine zW ?_;intros;refine Yi (fun q σ fz' H'=>∃ (k:Nat) (c:Int),k<=q0/\q=q0 - k/\σ=[(4,Zk k),(3,Zk c),(1,Zp g0)]/\fz=fz'/\H'=[(g0,Zu #[Zy f.op,Zy f.name,Zc A n ca,Zc B m cb,Zc C r cr,Zc D q0 cq] 35)]/\c=((spreadL (f.kids.take k):Nat):Int)) ⟨0,_,Z0 _,rfl,rfl,rfl,rfl,rfl⟩ Zw Zb ?_;rintro q σ fz' H' ⟨k,c,hkm,rfl,rfl,rfl,rfl,hh⟩;refine zW ?_;intros;refine zC ?_ ?_<;>intro c1
  ·obtain ⟨x,hx⟩:=Yc (l:=f.kids) (k:=k) Zi;have hxm:=Zm hx;have hlt:=Formula.kids_lt hxm;have hst:=Yfd hx;have hxw:=kid_fW hxm;refine zW ?_;intros;refine zI hk hx (fun p1 hp1=>?_);refine zL hp1 ?_;intro cs hcs;obtain ⟨w1,w2,w3,w4,rfl,hRx⟩:=Yn hcs;refine zW ?_;intros
   ((refine zG ?_);refine Yu (YhE s Zi hRx Zi) ?_);refine zW ?_;intros;exact wP (h:=by exact ⟨k+1,max c (spreadM x:Nat),by omega,rfl,rfl,rfl,rfl,by omega⟩)
  rw [Zl Zi] at hh;refine zW ?_;intros;exact zR (h:=by rw [hh,ec];exact congrArg (Value.int .i64) Zi)
theorem Ym9 (h:FormulaR fz f va vp ve vk) (hc:fW f<=1000000000000):
 QFn prog 6 [.agg #[Zy f.op,Zy f.name,va,vp,ve,vk]] fz (Zk (spreadM f)):=YhE _ (Zs _) h hc
theorem Yqs {S0:List Atom} (h:Yad d p S0=0):(YT d p).2=0/\expE (knM d p) d S0=0:=by
 unfold Yad at h;split at h
 ·rename_i h1;exact absurd h h1
 rename_i h1;exact ⟨Classical.not_not.1 h1,h⟩
theorem lholds_q {Pk:Option Addr} {np cp:Nat} {picks:List Nat} (hM:MaxF fz) (hD:DomainR fz d v1 v2 v3 v4 v5 v6) (hP:ProblemR fz p u1 u2 u3 u4 u5 u6 u7) (hd:domW d<=1300000) (hp:prbW p<=1300000) (hK:Sl u8L fz Pk np cp picks) (hR:FormulaR fz f va vp ve vk) (hW:fW f<=1300000)
 (hw:∀ fz:FZ,MaxF fz->QFn prog 7 [] fz (Zo true)):
 QFn prog 3 [ZD d v1 v2 v3 v4 v5 v6,ZP p u1 u2 u3 u4 u5 u6 u7,.agg #[Zc Pk np cp,Zy f.op,Zy f.name,va,vp,ve,vk]] fz (Zo true):=by
 have hD0:=hD;have hP0:=hP;have hR0:=hR;have hS:=Yqj hd hp;have hA:=fun hc=>apt_of (d:=d) (p:=p) hc hd hp
 obtain ⟨⟨A1,n1,b1,rfl,i1⟩,⟨A2,n2,b2,rfl,i2⟩,⟨A3,n3,b3,rfl,i3⟩,⟨A4,n4,b4,rfl,i4⟩,⟨A5,n5,b5,rfl,i5⟩,⟨A6,n6,b6,rfl,i6⟩⟩:=hD.sls;obtain ⟨⟨B1,m1,d1,rfl,j1⟩,⟨B2,m2,d2,rfl,j2⟩,⟨B3,m3,d3,rfl,j3⟩⟩:=hP.sls;obtain ⟨⟨B4,m4,d4,rfl,_⟩,⟨B5,m5,d5,rfl,_⟩,⟨B6,m6,d6,rfl,_⟩,⟨B7,m7,d7,rfl,_⟩⟩:=hP.goal.sls;obtain ⟨⟨C1,q1,e1,rfl,_⟩,⟨C2,q2,e2,rfl,_⟩,⟨C3,q3,e3,rfl,_⟩,⟨C4,q4,e4,rfl,_⟩⟩:=hR.sls;have hfc:=fcount_le f;refine qF Tryz.func3 Tryz.ntmps3 (fun w0=>?_);refine pX (fun g3=>?_);refine pY (fun g4=>?_);refine pY (fun g5=>?_);refine zW ?_;intros;refine Ya (Yh [] [_,_,_] Zz (Ypj hD0 hP0) (fun v1 fz1 H1 hle1 hR1=>?_));obtain ⟨rfl,b,rfl,hfit⟩:=hR1;have hM1:MaxF fz1:=hM.mono hle1;cases b with
 | true=>
  refine zW ?_;intros
  ((refine zG ?_);refine Yu (hw _ hM1) ?_);refine zW ?_;intros;exact zR (h:=rfl)
 | false=>
  have hfit:=hfit rfl;have h6:(objsM d p).length<=6:=by unfold objsM;rw [List.length_append];exact hfit.os
  have h3:∀ a∈d.actions,a.params.length<=3:=fun a ha=>(hfit.a a ha).params
  have hF:=fun hc=>actsF_of (d:=d) (p:=p) hc hfit Zi
  have hWB:=wb_of hp;refine zW ?_;intros
  ((refine zG ?_);refine Ye (vs:=[Zy f.op,Zy f.name,Zc C1 q1 e1,Zc C2 q2 e2,Zc C3 q3 e3,Zc C4 q4 e4]) 0 ?_);refine zW ?_;intros
  ((refine zG ?_);refine Yu (Ydv (hR0.mono hle1) Zi) ?_);refine zC ?_ ?_<;>intro c1
  ·refine zW ?_;intros
   ((refine zG ?_);refine Yu (hw _ hM1) ?_);refine zW ?_;intros;exact zR (h:=rfl)
  refine zW ?_;intros
  ((refine zG ?_);refine Ye (vs:=[Zy f.op,Zy f.name,Zc C1 q1 e1,Zc C2 q2 e2,Zc C3 q3 e3,Zc C4 q4 e4]) 0 ?_);refine zW ?_;intros
  ((refine zG ?_);refine Yu (Ym9 (hR0.mono hle1) Zi) ?_);refine zC ?_ ?_<;>intro c2
  ·refine zW ?_;intros
   ((refine zG ?_);refine Yu (hw _ hM1) ?_);refine zW ?_;intros;exact zR (h:=rfl)
  refine zW ?_;intros
  ((refine zG ?_);refine Yu (hw _ hM1) ?_);refine zW ?_;intros;refine Ya (Yh [] [_,_,_] Zz (Yqr hM1 (hD0.mono hle1) (hP0.mono hle1) hS hA) (fun v4 fz4 H4 hle4 hR4=>?_));obtain ⟨rfl,S0,hS0,v,rfl,hz1,hz2⟩:=hR4;have hle:=hle1.trans hle4;generalize hev:errV (Yad d p S0)=ev;refine zW ?_;intros;refine Ya (Yh [] [_,_,_] Zz (run_f (hM.mono hle) (hD0.mono hle) (hP0.mono hle) hS h6 hfit.acts h3 hF hWB Zi (hK.mono hle)) (fun v6 fz6 H6 hle6 hR6=>?_));obtain ⟨rfl,vw,vp',rfl,hrun⟩:=hR6;by_cases he:Yad d p S0=0;rotate_left 1
  ·rw [Yq he] at hev;subst hev;refine zW ?_;intros;exact zR (h:=rfl)
  rw [he,show errV 0=.nilIface from rfl] at hev;subst hev;obtain ⟨l,hl,hpm,_,hla⟩:=hz2 he;obtain ⟨Al,nl,cl,rfl,hsl⟩:=hl;obtain ⟨hc,hx⟩:=Yqs he;obtain ⟨k1,k2,k3,k4,k5,k6⟩:=exp_ok hx;obtain ⟨Aw,nw,cw,Bp,mp,ep,Ws,Ss,rfl,rfl,iW,iS,hRun⟩:=hrun hc;have hI1:=(YoD hc hfit (hA hc) k1 k2 k4 k5 k6 (fun a ha=>k3 a ((hS0.2 a).2 (YgI.2 ha))) hRun).1;have lW:=iW.len;have sW:=iW.short;have hle:=hle.trans hle6;clear hF hWB;refine zW ?_;intros
  ((refine zG ?_);refine Ye (vs:=[Zy f.op,Zy f.name,Zc C1 q1 e1,Zc C2 q2 e2,Zc C3 q3 e3,Zc C4 q4 e4]) 0 ?_);refine zW ?_;intros;refine Ya (Yh [] [_,_,_] Zz (YoK (hM.mono hle) (hD0.mono hle) (hP0.mono hle) hS hc (hA hc) (hsl.mono hle6) hla (hR0.mono hle) Zi) (fun v7 fz7 H7 hle7 hR7=>?_));obtain ⟨rfl,S,b,hSm,rfl,hrel⟩:=hR7;have hle:=hle.trans hle7;refine zW ?_;intros;refine Yi (fun q σ fz' H'=>∃ k:Nat,k<=nw/\q=nw - k/\σ=[(14,Zk k),(13,errV (relE d p f)),(12,Zo b),(9,Zc Aw nw cw),(5,Zp g5),(4,Zp g4),(3,Zp g3)]/\Le fz7 fz'/\H'=[(g5,Zu #[Zc Pk np cp,Zy f.op,Zy f.name,Zc C1 q1 e1,Zc C2 q2 e2,Zc C3 q3 e3,Zc C4 q4 e4] 40),(g4,Zu #[Zy p.name,Zy p.domain,Zc B1 m1 d1,Zc B2 m2 d2,Zc B3 m3 d3,Zy p.goal.op,Zy p.goal.name,Zc B4 m4 d4,Zc B5 m5 d5,Zc B6 m6 d6,Zc B7 m7 d7] 37),(g3,Zu #[Zy d.name,Zc A1 n1 b1,Zc A2 n2 b2,Zc A3 n3 b3,Zc A4 n4 b4,Zc A5 n5 b5,Zc A6 n6 b6] 28)]) ⟨0,Z0 _,rfl,rfl,Zd,rfl⟩ Zw (List.Sublist.refl _) ?_;rintro q σ fz' H' ⟨k,hk,rfl,rfl,hle2,rfl⟩;have hleX:=hle.trans hle2;refine zW ?_;intros;refine zC ?_ ?_<;>intro c3
  ·obtain ⟨W,hW⟩:=Yc (l:=Ws) (k:=k) Zi;have hIW:=hI1 W (Zm hW);refine zWX ?_;intros;refine Yy (Ych (Yy (YV (fun σ fz'' H'=>∃ bq:Bool,σ=[(16,errV (relE d p f)),(15,Zo bq),(14,Zk k),(13,errV (relE d p f)),(12,Zo b),(9,Zc Aw nw cw),(5,Zp g5),(4,Zp g4),(3,Zp g3)]/\Le fz' fz''/\H'=[(g5,Zu #[Zc Pk np cp,Zy f.op,Zy f.name,Zc C1 q1 e1,Zc C2 q2 e2,Zc C3 q3 e3,Zc C4 q4 e4] 40),(g4,Zu #[Zy p.name,Zy p.domain,Zc B1 m1 d1,Zc B2 m2 d2,Zc B3 m3 d3,Zy p.goal.op,Zy p.goal.name,Zc B4 m4 d4,Zc B5 m5 d5,Zc B6 m6 d6,Zc B7 m7 d7] 37),(g3,Zu #[Zy d.name,Zc A1 n1 b1,Zc A2 n2 b2,Zc A3 n3 b3,Zc A4 n4 b4,Zc A5 n5 b5,Zc A6 n6 b6] 28)]/\(relE d p f≠0->bq=false)/\(relE d p f=0->bq=holdsW (mnM d p) W [] [] (normV f))) ?_ ?_)))
   ·refine W9 [] [_,_,_] ?_;refine zW ?_;intros;refine zI (iW.mono (hle7.trans hle2)) hW (fun p1 hp1=>?_);refine zL hp1 ?_;intro cs hcs;obtain ⟨Xa,xn,xc,Xv,xm,xd,rfl,hXa,hXv⟩:=hcs;refine zW ?_;intros
    ((refine zG ?_);refine Ye (vs:=[Zy f.op,Zy f.name,Zc C1 q1 e1,Zc C2 q2 e2,Zc C3 q3 e3,Zc C4 q4 e4]) 0 ?_);refine pT ?_;refine Yr ?_;refine Yd (Yh [] [_,_,_] Zz (mholds_f (hM.mono hleX) (hD0.mono hleX) (hP0.mono hleX) hS h6 hc ⟨_,_,_,_,_,_,rfl,hXa,hXv⟩ (hR0.mono hleX) Zi) (fun v9 fz9 H9 hle9 hR9=>?_));obtain ⟨rfl,bq,rfl,hb1,hb2⟩:=hR9;refine ⟨⟨hle9,Zx⟩,?_⟩
    repeat' first
     | refine Po.done ?_
     | (refine Yr ?_)
     | (refine XL ?_ ?_)
     | refine Po.three ?_ ?_ ?_
     | refine PoS.qk ⟨hle9,Zx⟩ (Yam ?_)
     | refine PoS.qk ⟨hle9,Zx⟩ (WH ?_)
     | refine PoS.qk ⟨hle9,Zx⟩ (YE ?_)
    all_goals
     exact wN (h:=by exact ⟨bq,rfl,hle9,rfl,hb1,hb2⟩)
   rintro σ fz9 H' ⟨bq,rfl,hle9,rfl,hb1,hb2⟩;refine zW ?_;intros;refine zc num_q ?_;refine zW ?_;intros;refine zc num_q ?_;refine zW ?_;intros;refine zC ?_ ?_<;>intro nq
   ·exact absurd rfl nq
   cases bq with
   | false=>
    refine zW ?_;intros;exact wP (h:=by exact ⟨k+1,by omega,rfl,rfl,hle2.trans hle9,rfl⟩)
   | true=>
    have hz:relE d p f=0:=Classical.byContradiction fun h=>absurd (hb1 h) Zh
    have hv:FVal f:=Classical.byContradiction fun h=>by
     unfold relE at hz;rw [if_neg h] at hz;exact absurd hz Zh
    have hb:b=true:=by
     rw [hrel hz];refine Yh1 (T:=(expM (knM d p) d S0).S) (fun a ha=>(hSm a).2 (hpm.mem_iff.2 ha)) _ (Zs _) ?_;exact relax (M:=mnM d p) (fun t=>rfl) hIW _ (Zs _) (YaZ Zi) (fun x=>rfl) (hb2 hz).symm
    subst hb;refine zW ?_;intros;exact wP (h:=by exact ⟨k+1,by omega,rfl,rfl,hle2.trans hle9,rfl⟩)
  refine zW ?_;intros;exact zR (h:=rfl)
end Go.Proofs.YtacfpcbladaohaaGreatDoor
namespace Go.Lx
open Go.RowKit
section
variable {P:Program} {cx:Cx} {n:Nat} {σ:Env} {fz:FZ} {H:HP} {fn:Func} {R:Value->FZ->HP->Prop}
variable {X Y:Ty} {cs:List Value} {g i j k:Nat} {t t':TypeId}
theorem Yne (T:Tab P) {p q:Nat} {u u':TypeId} {ds:List Value} {f f':Nat × Nat} (hres:fn.results=#[.cell p t,.cell q u]) (hT:T.inf t=some X) (hU:T.inf u=some Y) (hd:XU X.desc=true) (he:XU Y.desc=true)
 (hv:lk σ p=some (Zp g)) (hx:lk σ q=some (Zp k)) (hi:H[i]?=some (g,.cells cs.toArray t' f)) (hj:H[j]?=some (k,.cells ds.toArray u' f')) (hsz:X.size=cs.length) (hsy:Y.size=ds.length)
 (h:∀ fz',Le fz fz'->(∀ p∈H,fz' p.1=some p.2)->R (.tuple #[.agg cs.toArray,.agg ds.toArray]) fz' []):retQ P cx n fn R .ret σ fz H:=by
 unfold retQ;exact ⟨.tuple #[.agg cs.toArray,.agg ds.toArray],fun a w hs hw=>by
  have hc:∀ (g i:Nat) (cs:List Value) (t':TypeId) (f:Nat × Nat),H[i]?=some (g,.cells cs.toArray t' f)->∀ j v,cs[j]?=some v->w.cell? ((⟨g,0,none⟩:Addr).add j)=some v:=fun g i cs t' f hi j v hv=>by
   have hadd:(⟨g,0,none⟩:Addr).add j=⟨g,j,none⟩:=by unfold Addr.add;split<;>simp_all
   rw [hadd,hw.cellOwn hi];simpa using hv
  simp [results,hres,hs.slot p _ hv,hs.slot q _ hx,asAddr,YaV T hT hd hsz (hc g i cs t' f hi),YaV T hU he hsy (hc k j ds u' f' hj)],Yge h⟩
end
end Go.Lx
namespace Go.Proofs.YtacfpcbladaohaaGreatDoor
variable {fz:FZ} {s:Bs}
theorem alw_q {fz:FZ}:QFn prog 35 [] fz YbQ:=by
 refine qF Tryz.func35 Tryz.ntmps35 (fun w0=>?_);refine zW ?_;intros;exact Wm (i:=0) rfl (fun _ hi=>⟨_,[],hi.forget (List.nil_sublist _),rfl⟩)
theorem atm_q:QFn prog 36 [Zy s,Zn] fz (.agg #[Zy kAtom,Zy s,Zn,Zn,Zn,Zn]):=by
 refine qF Tryz.func36 Tryz.ntmps36 (fun w0=>?_);refine zW ?_;intros;exact Wm (i:=0) rfl (fun _ hi=>⟨_,[],hi.forget (List.nil_sublist _),rfl⟩)
theorem atm_R (h:s.size<=1000):FormulaR fz (atmF s) Zn Zn Zn Zn:=⟨by show kAtom.size<=_;decide,by show s.size<=_;omega,IsSl.nil,IsSl.nil,IsSl.nil,IsSl.nil⟩
theorem nilE_R:ExprR fz nilE Zn Zn:=⟨Y3,Y3,Wh,IsSl.nil,IsSl.nil⟩
theorem Yqy {k:Int} (hk:I64 k) (h:s.size<=1000):changeL.rep fz (addC k s) [Zk k,Zn,Zy kAnd,Ze,Zn,Zn,Zn,Zn,Zy s,Zn,Ze,Ze,Zk 0,Zn,Zn]:=
 YbO (x:=addC k s) ⟨hk,IsSl.nil,Yco,by show s.size<=_;omega,IsSl.nil,nilE_R⟩
def Ynw (k:Int) (s:Bs):List Value:=[Zk k,Zn,Zy kAnd,Ze,Zn,Zn,Zn,Zn,Zy s,Zn,Ze,Ze,Zk 0,Zn,Zn]
def lampK (ga ge:Nat):List Value:=[Zy YlR,Zn,Zk 2,Zy kAnd,Ze,Zn,Zn,Zn,Zn,Zy kAtom,Zy bOn,Zn,Zn,Zn,Zn,Zy kAnd,Ze,Zn,Zn,Zn,Zn,Zv ga 1 1,Zv ge 2 2]
theorem lamp_f:GFn prog 15 [] fz [] (fun r fz' H'=>H'=[]/\∃ v3 v6,r=.tuple #[.agg #[Zy bD,Zn,Zn,v3,Zn,Zn,v6],.agg #[Zy bP,Zy bD,Zn,Zn,Zn,Zy kAtom,Zy WA,Zn,Zn,Zn,Zn]]/\
 DomainR fz' Xk Zn Zn v3 Zn Zn v6/\ProblemR fz' YaI Zn Zn Zn Zn Zn Zn Zn):=by
 have ha:=@alw_q;unfold YbQ at ha;refine zF Tryz.func15 Tryz.ntmps15 (fun w0=>?_);refine zWN ?_;intros;refine Ya (Yb (cs:=[Zy bOn,Zn,Zy WA,Zn,Zy bKey,Zn]) (fun gp=>?_));refine zWN ?_;refine zc ha ?_;refine zWN ?_;refine zc (atm_q (s:=bOn)) ?_;refine zWN ?_;refine zc ha ?_;refine zWN ?_;refine zc ha ?_;refine zWN ?_;refine Ya (Yb (cs:=Ynw 1 bOn) (fun ga=>?_));refine zWN ?_;refine zc ha ?_;refine zWN ?_;refine zc ha ?_;refine zWN ?_;refine Ya (Yb (cs:=Ynw 1 WA++Ynw 2 bOn) (fun ge=>?_));refine zWN ?_;refine Ya (Yb (cs:=lampK ga ge) (fun gs=>?_));refine zWN ?_;intros;refine W9 [2] [_,_,_,_,_,_,_] ?_;refine wc (atm_q (s:=WA)) ?_;refine PK.p Zz (fun fz'=>Xy rfl) ?_;refine pT ?_;refine Yr ?_;refine PoS.hard0 (YbZ (pre:=[_,_,_,_,_,_]) rfl ?_);refine Yr ?_;refine PoS.hard0 (YbZ (pre:=[_,_,_,_,_]) rfl ?_);refine Po.done ?_;refine zW ?_;refine Yne T (i:=6) (j:=5) rfl Zz Zz Zz Zz Zz Zz Zz Zz Zz Zz (fun fz3 hle3 hf3=>⟨rfl,_,_,rfl,?_,?_⟩)
 ·have h1:=hf3 _ (.tail _ (.tail _ (.tail _ (.tail _ (.head _)))));have h2:=hf3 _ (.tail _ (.tail _ (.tail _ (.head _))));have h3:=hf3 _ (.tail _ (.tail _ (.head _)));have h4:=hf3 _ (.tail _ (.head _));have s1:Sl changeL fz3 (some ⟨ga,0,none⟩) 1 1 [addC 1 bOn]:=XI (ys:=[(addC 1 bOn,Ynw 1 bOn)]) h2 rfl rfl (List.forall_mem_cons.2 ⟨Yqy (by unfold I64;omega) Zh,nilP⟩) rfl Zh;have s2:Sl changeL fz3 (some ⟨ge,0,none⟩) 2 2 [addC 1 WA,addC 2 bOn]:=XI (ys:=[(addC 1 WA,Ynw 1 WA),(addC 2 bOn,Ynw 2 bOn)]) h3 rfl rfl (List.forall_mem_cons.2 ⟨Yqy (by unfold I64;omega) Zh,List.forall_mem_cons.2 ⟨Yqy (by unfold I64;omega) Zh,nilP⟩⟩) rfl Zh;have s3:Sl predicateL fz3 (some ⟨gp,0,none⟩) 3 3 [⟨bOn,[]⟩,⟨WA,[]⟩,⟨bKey,[]⟩]:=XI (ys:=[(⟨bOn,[]⟩,[Zy bOn,Zn]),(⟨WA,[]⟩,[Zy WA,Zn]),(⟨bKey,[]⟩,[Zy bKey,Zn])]) h1 rfl rfl
   (List.forall_mem_cons.2 ⟨Ybs (x:=⟨bOn,[]⟩) ⟨by show bOn.size<=_;decide,IsSl.nil⟩,List.forall_mem_cons.2 ⟨Ybs (x:=⟨WA,[]⟩) ⟨by show WA.size<=_;decide,IsSl.nil⟩,List.forall_mem_cons.2 ⟨Ybs (x:=⟨bKey,[]⟩) ⟨by show bKey.size<=_;decide,IsSl.nil⟩,nilP⟩⟩⟩) rfl Zh
  have s4:Sl durativeL fz3 (some ⟨gs,0,none⟩) 1 1 [YdL]:=XI (ys:=[(YdL,lampK ga ge)]) h4 (List.append_nil _).symm rfl
   (List.forall_mem_cons.2 ⟨Yhw (x:=YdL) ⟨by show YlR.size<=_;decide,IsSl.nil,by show I64 2;unfold I64;omega,Yco,atm_R Zh,Yco,s1.is,s2.is⟩,nilP⟩) rfl Zh
  exact ⟨by show bD.size<=_;decide,IsSl.nil,IsSl.nil,s3.is,IsSl.nil,IsSl.nil,s4.is⟩
 exact ⟨by show bP.size<=_;decide,by show bD.size<=_;decide,IsSl.nil,IsSl.nil,IsSl.nil,atm_R Zh⟩
theorem step_nm {p:Addr} {x:StepM} (h:At Ycp fz p x):At strL fz (p.add 1) x.1:=h.part 1 fun cs hr=>by
 obtain ⟨va,rfl,hs,_⟩:=hr;exact ⟨_,rfl,rfl,hs⟩
theorem Yqq (hM:MaxF fz):QFn prog 7 [] fz (Zo true):=by
 refine qF Tryz.func7 Tryz.ntmps7 (fun w0=>?_);refine wK (q:=lamp_f) (h:=fun v1 fz1 H1 hle1 hR1=>?_);obtain ⟨rfl,v3,v6,rfl,hD,hP⟩:=hR1;obtain ⟨A3,n3,b3,rfl,_⟩:=id hD.predicates;obtain ⟨A6,n6,b6,rfl,_⟩:=id hD.duratives;refine zW ?_;intros;rename_i gd gp;refine wK (q:=Yqr (hM.mono hle1) hD hP Ykm (fun _=>Ymy)) (h:=fun v4 fz4 H4 hle4 hR4=>?_);obtain ⟨rfl,S0,hS0,v,rfl,_,hz⟩:=hR4;have e0:=Ypn hS0;subst e0;rw [lamp_E] at hz ⊢;obtain ⟨l,hl,hp,hs,_⟩:=hz rfl;have el:=lamp_l hp hs;subst el;obtain ⟨A,n,c,rfl,hsl⟩:=hl;have hn:=hsl.len;rw [show errV 0=.nilIface from rfl];refine wK (q:=insts_f (hM.mono (hle1.trans hle4)) (hD.mono hle4) (hP.mono hle4) Ykm (fun _=>Ymy)) (h:=fun v5 fz5 H5 hle5 hR5=>?_);obtain ⟨S1,hS1,v,rfl,_,hy⟩:=hR5;have e1:=Ypn hS1;subst e1;rw [lamp_E] at hy ⊢;obtain ⟨m,hG⟩:=hy rfl;rw [lamp_i] at hG;obtain ⟨A5,c5,rfl,_,_⟩:=hG.form;have hm:=hG.len;simp at hm hn;subst hm;subst hn;refine Seq.freezeAll (H1:=[_,_]) (H2:=H5) Zq (fun fz6 hle6 hf6=>?_);obtain ⟨B5,d5,e5,hS5⟩:=hG.sl hle6 hf6 Zi;injection e5 with e51 e52 e53
 subst e51;subst e53;have hx:=hsl.mono (hle5.trans hle6);rw [show errV 0=.nilIface from rfl];refine vC ?_ ?_<;>intro c1;rotate_left 1
 ·exact absurd rfl c1
 refine vI hx rfl (fun p1 hp1=>?_);refine vH hp1.Atom_name (fun hs1=>?_);refine vC ?_ ?_<;>intro c2;rotate_left 1
 ·exact absurd rfl c2
 refine vC ?_ ?_<;>intro c3;rotate_left 1
 ·exact absurd rfl c3
 refine vI hS5 rfl (fun p2 hp2=>?_);refine vH (step_nm hp2) (fun hs2=>?_);refine vC ?_ ?_<;>intro c4;rotate_left 1
 ·exact absurd rfl c4
 exact vR (h:=rfl)
end Go.Proofs.YtacfpcbladaohaaGreatDoor
namespace Go.Lx
open Go.RowKit Go.ChangeShapes Go.WideShapes Go.Deep
theorem Yph {α:Type} {p:Nat->α->Prop}:∀ {n:Nat},(∀ i,i<n->∃ d,p i d)->∃ ds:List α,ds.length=n/\∀ i d,ds[i]?=some d->p i d
 | 0,_=>⟨[],rfl,by simp⟩
 | n+1,h=>by
  obtain ⟨ds,h1,h2⟩:=Yph (n:=n) (fun i hi=>h i Zi);obtain ⟨d,hd⟩:=h n Zi;refine ⟨ds++ [d],by simp [h1],fun i e he=>?_⟩;by_cases hi:i<ds.length
  ·rw [List.getElem?_append_left hi] at he;exact h2 i e he
  have hl:=(Zg he).1;simp at hl;have:i=n:=by omega
  subst this;rw [List.getElem?_append_right Zi,h1] at he;simp at he;subst he;exact hd
section
variable {H:Type} {enc:TypeId × Value->H} {P:Program} {w:World} {base:Nat} {spare:Nat->Bool} {held:Bool}
variable {α:Type} {fz:FZ} {v:Value} {L:Lay α}
theorem XA {xs:List α} (h:(slL L).rep fz xs [v]):IsSl L fz v xs:=by
 obtain ⟨A,n,c,e,hs⟩:=h;injection e with e
 exact ⟨A,n,c,e,hs⟩
variable {s:Bs}
theorem Ybp (h:strL.rep fz s [v]):v=.string s/\Short s:=by
 obtain ⟨e,hs⟩:=h;injection e with e
 exact ⟨e,hs⟩
theorem YgG {n:Int} (h:intL.rep fz n [v]):v=Zk n/\I64 n:=by
 obtain ⟨e,hs⟩:=h;injection e with e
 exact ⟨e,hs⟩
end
end Go.Lx
set_option maxRecDepth 100000
namespace Go.Proofs.YtacfpcbladaohaaGreatDoor
open Go.Lx Go.RowKit Go.ChangeShapes Go.WideShapes Go.Deep
theorem YfV {H:Type} (d:DataW H):1<=Rows.uptoBulk d:=by
 cases d with
 | lit l=>cases l<;>simp [Rows.uptoBulk]
 | nil=>simp [Rows.uptoBulk]
 | ptr d=>simp [Rows.uptoBulk]
 | slice elems spare=>simp [Rows.uptoBulk]
 | agg parts=>simp [Rows.uptoBulk]
 | iface t d=>simp [Rows.uptoBulk]
 | map entries=>simp [Rows.uptoBulk]
 | held h=>simp [Rows.uptoBulk]
theorem Yg8 {H:Type} {d:DataW H}:∀ {l:List (DataW H)},d∈l->Rows.uptoBulk d<=Rows.uptoBulkAll l
 | [],h=>by cases h
 | x::r,h=>by
  simp only [Rows.uptoBulkAll];rcases List.mem_cons.1 h with rfl | h
  ·omega
  have:=Yg8 h;omega
theorem YmV {H:Type}:∀ (l:List (DataW H)),l.length<=Rows.uptoBulkAll l
 | []=>by simp [Rows.uptoBulkAll]
 | x::r=>by have:=YfV x;have:=YmV r;simp only [Rows.uptoBulkAll,List.length_cons];omega
theorem YmU {H α:Type} {wt:α->Nat}:∀ {l:List (DataW H)} {ds:List α},ds.length=l.length->(∀ (i:Nat) (d:α) (x:DataW H),ds[i]?=some d->l[i]?=some x->wt d<=Rows.uptoBulk x)->(ds.map wt).sum<=Rows.uptoBulkAll l
 | [],ds,h,_=>by
  have:ds=[]:=List.eq_nil_of_length_eq_zero (by simpa using h);subst this;simp
 | x::r,ds,h,hh=>by
  cases ds with
  | nil=>simp at h
  | cons d ds=>
   have h1:=hh 0 d x rfl rfl;have h2:=YmU (l:=r) (ds:=ds) (wt:=wt) (by simpa using h) (fun i e y he hy=>hh (i+1) e y (by simpa using he) (by simpa using hy));simp only [List.map_cons,List.sum_cons,Rows.uptoBulkAll];omega
section
variable {H:Type} {enc:TypeId × Value->H} {P:Program} {w:World} {base:Nat} {spare:Nat->Bool} {held:Bool}
def XV (enc:TypeId × Value->H) (P:Program) (w:World) (base:Nat) (spare:Nat->Bool) (held:Bool) {α:Type} (L:Lay α) (wt:α->Nat) (t:TypeId) (fuel:Nat):Prop:=
 ∀ cs x,DataW.trod enc P w base spare held fuel t cs=some x->Rows.uptoBulk x.1<=1048576->∃ d,L.rep (fzOf w) d cs/\wt d<=Rows.uptoBulk x.1
variable {α:Type} {e t:TypeId} {fuel:Nat} {L:Lay α}
theorem Xj {wt:α->Nat} (ht:P.underlying t=some (.slice e)) (hc:P.cellsOf e=L.size) (he:∀ n,n<fuel->XV enc P w base spare held L wt e n):XV enc P w base spare held (slL L) (fun l=>(l.map wt).sum) t fuel:=fun cs x h hq=>by
 rcases DataW.trod_slice ht h with ⟨rfl,_⟩ | ⟨a,len,cap,elems,rest,n,hfu,rfl,rfl,_,hl,hm,hlen,hel,_,_⟩
 ·exact ⟨[],⟨none,0,0,rfl,Sl.nil⟩,by simp⟩
 have hbd:Rows.uptoBulkAll (elems.map (·.1))+1<=Rows.uptoBulk (.slice (elems.map (·.1)) (rest.map (·.1)):DataW H):=by simp only [Rows.uptoBulk];omega
 have hbl:=YmV (elems.map (·.1));rw [List.length_map] at hbl;obtain ⟨ds,h1,h2⟩:=Yph (p:=fun i d=>At L (fzOf w) (a.add (i*L.size)) d/\∀ y,elems[i]?=some y->wt d<=Rows.uptoBulk y.1) (n:=len) (fun i hil=>by
  have hx:elems[i]?=some (elems[i]'Zi):=List.getElem?_eq_getElem _;have h3:=hel i hil;rw [hx] at h3;cases hcs:w.cells? base (a.add (i*P.cellsOf e)) (P.cellsOf e) with
  | none=>rw [hcs] at h3;cases h3
  | some cs'=>
   rw [hcs] at h3;have hpt:=Yg8 (d:=(elems[i]'Zi).1) (l:=elems.map (·.1)) (List.mem_map.2 ⟨_,Zm hx,rfl⟩);have hq':Rows.uptoBulk (.slice (elems.map (·.1)) (rest.map (·.1)):DataW H)<=1048576:=hq;obtain ⟨d,hd,hw⟩:=he n Zi _ _ h3 Zi;obtain ⟨_,hlen,hat⟩:=World.cells?_some hcs;refine ⟨d,⟨cs',hd,fun j u hu=>?_⟩,fun y hy=>by rw [hx] at hy;injection hy with hy;subst hy;exact hw⟩;have hj:j<cs'.length:=(Zg hu).1;rw [<- hc];exact YmT ((hat j Zi).trans hu))
 have hq':Rows.uptoBulk (.slice (elems.map (·.1)) (rest.map (·.1)):DataW H)<=1048576:=hq;refine ⟨ds,⟨some a,len,cap,rfl,h1,hl,by simpa [maxLen] using hm,by omega,.inr ⟨a,rfl,fun i d hd=>(h2 i d hd).1⟩⟩,?_⟩;have:=YmU (wt:=wt) (ds:=ds) (l:=elems.map (·.1)) (by rw [List.length_map];omega) (fun i d x hd hx=>by
  rw [List.getElem?_map] at hx;cases hy:elems[i]? with
  | none=>rw [hy] at hx;cases hx
  | some y=>rw [hy] at hx;injection hx with hx;subst hx;exact (h2 i d hd).2 y hy)
 exact Nat.le_trans (Nat.le_trans this (Nat.le_succ _)) hbd
variable {cs:List Value} {i k n:Nat}
theorem Yk {wt:α->Nat} {fs:Array Field} {xs:List (DataW H × List MemPlace)} (hf:∀ (i:Nat) (f:Field),fs[i]?=some f->DataW.trod enc P w base spare held n f.type ((cs.drop f.offset).take (P.cellsOf f.type))=xs[i]?)
 (hq:Rows.uptoBulkAll (xs.map (·.1))<=1048576) {f:Field} {y:DataW H × List MemPlace} (hi:fs[i]?=some f) (hy:xs[i]?=some y) (he:XV enc P w base spare held L wt f.type n) {cs':List Value} (hv:(cs.drop f.offset).take k=cs') (hc:P.cellsOf f.type=k:=by kernel_rfl):
 ∃ d,L.rep (fzOf w) d cs'/\wt d<=Rows.uptoBulk y.1:=by
 have h1:=hf i f hi;rw [hc,hy,hv] at h1;have:=Yg8 (d:=y.1) (l:=xs.map (·.1)) (List.mem_map.2 ⟨_,Zm hy,rfl⟩);exact he _ _ h1 Zi
end
section
variable {H:Type} {enc:TypeId × Value->H} {w:World} {base:Nat} {spare:Nat->Bool} {held:Bool}
variable {fuel:Nat}
theorem Yct:XV enc prog w base spare held intL (fun _=>1) 3 fuel:=fun cs x h _=>by
 obtain ⟨n,h1,_,h2⟩:=DataW.trod_int Tryz.underlying3 h;exact ⟨n,⟨h1,by simp [Lit.wf,IntKind.min,IntKind.max,IntKind.signed,IntKind.bits] at h2;unfold I64;omega⟩,YfV _⟩
theorem Wj:XV enc prog w base spare held strL strW 9 fuel:=fun cs x h _=>by
 obtain ⟨s,h1,_,h2⟩:=DataW.trod_string Tryz.underlying9 h;exact ⟨s,⟨h1,by simpa [maxLen] using h2⟩,YfV _⟩
theorem Yd4:XV enc prog w base spare held (slL strL) (fun l=>(l.map strW).sum) 31 fuel:=Xj Tryz.underlying31 Zj (fun _ _=>Wj)
theorem Yj9:XV enc prog w base spare held paramL parW 132 fuel:=fun cs x h hq0=>by
 obtain ⟨xs,n,hfu,rfl,hcl,hxl,hf⟩:=DataW.trod_struct Tryz.underlying132 h;have hc:prog.cellsOf 132=2:=by kernel_rfl
 rw [hc] at hcl;have hq:Rows.uptoBulkAll (xs.map (·.1))<=1048576:=by simp only [Rows.uptoBulk] at hq0;omega
 match cs,hcl,xs,hxl,hf,hq with
 | [v0,v1],_,[x0,x1],_,hf,hq=>
  obtain ⟨d0,r0,b0⟩:=(Yk hf hq (i:=0) (k:=1) (y:=x0) (cs':=[v0]) rfl rfl Wj rfl);obtain ⟨rfl,k0⟩:=Ybp r0;obtain ⟨d1,r1,b1⟩:=(Yk hf hq (i:=1) (k:=1) (y:=x1) (cs':=[v1]) rfl rfl Wj rfl);obtain ⟨rfl,k1⟩:=Ybp r1;refine ⟨⟨d0,d1⟩,⟨rfl,⟨k0,k1⟩⟩,?_⟩;simp only [List.map_cons,List.map_nil,Rows.uptoBulk,Rows.uptoBulkAll,parW];simp only [WV,WW] at*;omega
theorem XK:XV enc prog w base spare held (slL paramL) (fun l=>(l.map parW).sum) 22 fuel:=Xj Tryz.underlying22 Zj (fun _ _=>Yj9)
theorem Ygp:XV enc prog w base spare held atomL YcK 67 fuel:=fun cs x h hq0=>by
 obtain ⟨xs,n,hfu,rfl,hcl,hxl,hf⟩:=DataW.trod_struct Tryz.underlying67 h;have hc:prog.cellsOf 67=2:=by kernel_rfl
 rw [hc] at hcl;have hq:Rows.uptoBulkAll (xs.map (·.1))<=1048576:=by simp only [Rows.uptoBulk] at hq0;omega
 match cs,hcl,xs,hxl,hf,hq with
 | [v0,v1],_,[x0,x1],_,hf,hq=>
  obtain ⟨d0,r0,b0⟩:=(Yk hf hq (i:=0) (k:=1) (y:=x0) (cs':=[v0]) rfl rfl Wj rfl);obtain ⟨rfl,k0⟩:=Ybp r0;obtain ⟨d1,r1,b1⟩:=(Yk hf hq (i:=1) (k:=1) (y:=x1) (cs':=[v1]) rfl rfl Yd4 rfl);have k1:=XA r1;refine ⟨⟨d0,d1⟩,⟨_,rfl,⟨k0,k1⟩⟩,?_⟩;simp only [List.map_cons,List.map_nil,Rows.uptoBulk,Rows.uptoBulkAll,YcK];simp only [WV,WW] at*;omega
theorem Ykb:XV enc prog w base spare held (slL atomL) (fun l=>(l.map YcK).sum) 29 fuel:=Xj Tryz.underlying29 Zj (fun _ _=>Ygp)
theorem Yj8:XV enc prog w base spare held valueL Yb2 210 fuel:=fun cs x h hq0=>by
 obtain ⟨xs,n,hfu,rfl,hcl,hxl,hf⟩:=DataW.trod_struct Tryz.underlying210 h;have hc:prog.cellsOf 210=3:=by kernel_rfl
 rw [hc] at hcl;have hq:Rows.uptoBulkAll (xs.map (·.1))<=1048576:=by simp only [Rows.uptoBulk] at hq0;omega
 match cs,hcl,xs,hxl,hf,hq with
 | [v0,v1,v2],_,[x0,x1],_,hf,hq=>
  obtain ⟨d0,r0,b0⟩:=(Yk hf hq (i:=0) (k:=2) (y:=x0) (cs':=[v0,v1]) rfl rfl Ygp rfl);obtain ⟨y0_0,e0,k0⟩:=Xp r0;simp only [List.cons.injEq,and_true] at e0;obtain ⟨rfl,rfl⟩:=e0;obtain ⟨d1,r1,b1⟩:=(Yk hf hq (i:=1) (k:=1) (y:=x1) (cs':=[v2]) rfl rfl Yct rfl);obtain ⟨rfl,k1⟩:=YgG r1;refine ⟨⟨d0,d1⟩,⟨_,rfl,⟨k0,k1⟩⟩,?_⟩;simp only [List.map_cons,List.map_nil,Rows.uptoBulk,Rows.uptoBulkAll,Yb2];simp only [WV,WW] at*;omega
theorem YiI:XV enc prog w base spare held (slL valueL) (fun l=>(l.map Yb2).sum) 30 fuel:=Xj Tryz.underlying30 Zj (fun _ _=>Yj8)
theorem Ygn:∀ fuel:Nat,XV enc prog w base spare held exprL eW 61 fuel:=fun fuel=>by
 induction fuel using Nat.strongRecOn with
 | _ fuel ih=>
  intro cs x h hq0;obtain ⟨xs,n,hfu,rfl,hcl,hxl,hf⟩:=DataW.trod_struct Tryz.underlying61 h;have hc:prog.cellsOf 61=5:=by kernel_rfl
  rw [hc] at hcl;have hq:Rows.uptoBulkAll (xs.map (·.1))<=1048576:=by simp only [Rows.uptoBulk] at hq0;omega
  match cs,hcl,xs,hxl,hf,hq with
  | [v0,v1,v2,v3,v4],_,[x0,x1,x2,x3,x4],_,hf,hq=>
   obtain ⟨d0,r0,b0⟩:=(Yk hf hq (i:=0) (k:=1) (y:=x0) (cs':=[v0]) rfl rfl Wj rfl);obtain ⟨rfl,k0⟩:=Ybp r0;obtain ⟨d1,r1,b1⟩:=(Yk hf hq (i:=1) (k:=1) (y:=x1) (cs':=[v1]) rfl rfl Wj rfl);obtain ⟨rfl,k1⟩:=Ybp r1;obtain ⟨d2,r2,b2⟩:=(Yk hf hq (i:=2) (k:=1) (y:=x2) (cs':=[v2]) rfl rfl Yct rfl);obtain ⟨rfl,k2⟩:=YgG r2;obtain ⟨d3,r3,b3⟩:=(Yk hf hq (i:=3) (k:=1) (y:=x3) (cs':=[v3]) rfl rfl Yd4 rfl);have k3:=XA r3;obtain ⟨d4,r4,b4⟩:=(Yk hf hq (i:=4) (k:=1) (y:=x4) (cs':=[v4]) rfl rfl (Xj (L:=exprL) Tryz.underlying32 Zj (fun m hm=>ih m Zi)) rfl);have k4:=XA r4;refine ⟨.mk d0 d1 d2 d3 d4,Ww (x:=.mk d0 d1 d2 d3 d4) ⟨k0,k1,k2,k3,k4⟩,?_⟩;simp only [List.map_cons,List.map_nil,Rows.uptoBulk,Rows.uptoBulkAll,YnI,Expr.args,Expr.kids];simp only [WV,WW] at*;omega
theorem Yka:XV enc prog w base spare held (slL exprL) (fun l=>(l.map eW).sum) 32 fuel:=Xj Tryz.underlying32 Zj (fun _ _=>Ygn _)
theorem Wf:∀ fuel:Nat,XV enc prog w base spare held formulaL fW 35 fuel:=fun fuel=>by
 induction fuel using Nat.strongRecOn with
 | _ fuel ih=>
  intro cs x h hq0;obtain ⟨xs,n,hfu,rfl,hcl,hxl,hf⟩:=DataW.trod_struct Tryz.underlying35 h;have hc:prog.cellsOf 35=6:=by kernel_rfl
  rw [hc] at hcl;have hq:Rows.uptoBulkAll (xs.map (·.1))<=1048576:=by simp only [Rows.uptoBulk] at hq0;omega
  match cs,hcl,xs,hxl,hf,hq with
  | [v0,v1,v2,v3,v4,v5],_,[x0,x1,x2,x3,x4,x5],_,hf,hq=>
   obtain ⟨d0,r0,b0⟩:=(Yk hf hq (i:=0) (k:=1) (y:=x0) (cs':=[v0]) rfl rfl Wj rfl);obtain ⟨rfl,k0⟩:=Ybp r0;obtain ⟨d1,r1,b1⟩:=(Yk hf hq (i:=1) (k:=1) (y:=x1) (cs':=[v1]) rfl rfl Wj rfl);obtain ⟨rfl,k1⟩:=Ybp r1;obtain ⟨d2,r2,b2⟩:=(Yk hf hq (i:=2) (k:=1) (y:=x2) (cs':=[v2]) rfl rfl Yd4 rfl);have k2:=XA r2;obtain ⟨d3,r3,b3⟩:=(Yk hf hq (i:=3) (k:=1) (y:=x3) (cs':=[v3]) rfl rfl XK rfl);have k3:=XA r3;obtain ⟨d4,r4,b4⟩:=(Yk hf hq (i:=4) (k:=1) (y:=x4) (cs':=[v4]) rfl rfl Yka rfl);have k4:=XA r4;obtain ⟨d5,r5,b5⟩:=(Yk hf hq (i:=5) (k:=1) (y:=x5) (cs':=[v5]) rfl rfl (Xj (L:=formulaL) Tryz.underlying33 Zj (fun m hm=>ih m Zi)) rfl);have k5:=XA r5;refine ⟨.mk d0 d1 d2 d3 d4 d5,YK (x:=.mk d0 d1 d2 d3 d4 d5) ⟨k0,k1,k2,k3,k4,k5⟩,?_⟩;simp only [List.map_cons,List.map_nil,Rows.uptoBulk,Rows.uptoBulkAll,Ya6,Formula.args,Formula.params,Formula.exprs,Formula.kids];simp only [WV,WW] at*;omega
theorem YiK:XV enc prog w base spare held changeL YW 104 fuel:=fun cs x h hq0=>by
 obtain ⟨xs,n,hfu,rfl,hcl,hxl,hf⟩:=DataW.trod_struct Tryz.underlying104 h;have hc:prog.cellsOf 104=15:=by kernel_rfl
 rw [hc] at hcl;have hq:Rows.uptoBulkAll (xs.map (·.1))<=1048576:=by simp only [Rows.uptoBulk] at hq0;omega
 match cs,hcl,xs,hxl,hf,hq with
 | [v0,v1,v2,v3,v4,v5,v6,v7,v8,v9,v10,v11,v12,v13,v14],_,[x0,x1,x2,x3,x4,x5],_,hf,hq=>
  obtain ⟨d0,r0,b0⟩:=(Yk hf hq (i:=0) (k:=1) (y:=x0) (cs':=[v0]) rfl rfl Yct rfl);obtain ⟨rfl,k0⟩:=YgG r0;obtain ⟨d1,r1,b1⟩:=(Yk hf hq (i:=1) (k:=1) (y:=x1) (cs':=[v1]) rfl rfl XK rfl);have k1:=XA r1;obtain ⟨d2,r2,b2⟩:=(Yk hf hq (i:=2) (k:=6) (y:=x2) (cs':=[v2,v3,v4,v5,v6,v7]) rfl rfl (Wf _) rfl);obtain ⟨y2_0,y2_1,y2_2,y2_3,e2,k2⟩:=Yn r2;simp only [List.cons.injEq,and_true] at e2;obtain ⟨rfl,rfl,rfl,rfl,rfl,rfl⟩:=e2;obtain ⟨d3,r3,b3⟩:=(Yk hf hq (i:=3) (k:=1) (y:=x3) (cs':=[v8]) rfl rfl Wj rfl);obtain ⟨rfl,k3⟩:=Ybp r3;obtain ⟨d4,r4,b4⟩:=(Yk hf hq (i:=4) (k:=1) (y:=x4) (cs':=[v9]) rfl rfl Yd4 rfl);have k4:=XA r4;obtain ⟨d5,r5,b5⟩:=(Yk hf hq (i:=5) (k:=5) (y:=x5) (cs':=[v10,v11,v12,v13,v14]) rfl rfl (Ygn _) rfl);obtain ⟨y5_0,y5_1,e5,k5⟩:=Yw r5;simp only [List.cons.injEq,and_true] at e5;obtain ⟨rfl,rfl,rfl,rfl,rfl⟩:=e5;refine ⟨⟨d0,d1,d2,d3,d4,d5⟩,⟨_,_,_,_,_,_,_,_,rfl,⟨k0,k1,k2,k3,k4,k5⟩⟩,?_⟩;simp only [List.map_cons,List.map_nil,Rows.uptoBulk,Rows.uptoBulkAll,YW];simp only [WV,WW] at*;omega
theorem YbW:XV enc prog w base spare held (slL changeL) (fun l=>(l.map YW).sum) 100 fuel:=Xj Tryz.underlying100 Zj (fun _ _=>YiK)
theorem Yft:XV enc prog w base spare held predicateL Yj4 106 fuel:=fun cs x h hq0=>by
 obtain ⟨xs,n,hfu,rfl,hcl,hxl,hf⟩:=DataW.trod_struct Tryz.underlying106 h;have hc:prog.cellsOf 106=2:=by kernel_rfl
 rw [hc] at hcl;have hq:Rows.uptoBulkAll (xs.map (·.1))<=1048576:=by simp only [Rows.uptoBulk] at hq0;omega
 match cs,hcl,xs,hxl,hf,hq with
 | [v0,v1],_,[x0,x1],_,hf,hq=>
  obtain ⟨d0,r0,b0⟩:=(Yk hf hq (i:=0) (k:=1) (y:=x0) (cs':=[v0]) rfl rfl Wj rfl);obtain ⟨rfl,k0⟩:=Ybp r0;obtain ⟨d1,r1,b1⟩:=(Yk hf hq (i:=1) (k:=1) (y:=x1) (cs':=[v1]) rfl rfl XK rfl);have k1:=XA r1;refine ⟨⟨d0,d1⟩,⟨_,rfl,⟨k0,k1⟩⟩,?_⟩;simp only [List.map_cons,List.map_nil,Rows.uptoBulk,Rows.uptoBulkAll,Yj4];simp only [WV,WW] at*;omega
theorem YeS:XV enc prog w base spare held (slL predicateL) (fun l=>(l.map Yj4).sum) 23 fuel:=Xj Tryz.underlying23 Zj (fun _ _=>Yft)
theorem Ygm:XV enc prog w base spare held functionL funW 237 fuel:=fun cs x h hq0=>by
 obtain ⟨xs,n,hfu,rfl,hcl,hxl,hf⟩:=DataW.trod_struct Tryz.underlying237 h;have hc:prog.cellsOf 237=4:=by kernel_rfl
 rw [hc] at hcl;have hq:Rows.uptoBulkAll (xs.map (·.1))<=1048576:=by simp only [Rows.uptoBulk] at hq0;omega
 match cs,hcl,xs,hxl,hf,hq with
 | [v0,v1,v2,v3],_,[x0,x1,x2,x3],_,hf,hq=>
  obtain ⟨d0,r0,b0⟩:=(Yk hf hq (i:=0) (k:=1) (y:=x0) (cs':=[v0]) rfl rfl Wj rfl);obtain ⟨rfl,k0⟩:=Ybp r0;obtain ⟨d1,r1,b1⟩:=(Yk hf hq (i:=1) (k:=1) (y:=x1) (cs':=[v1]) rfl rfl XK rfl);have k1:=XA r1;obtain ⟨d2,r2,b2⟩:=(Yk hf hq (i:=2) (k:=1) (y:=x2) (cs':=[v2]) rfl rfl Yct rfl);obtain ⟨rfl,k2⟩:=YgG r2;obtain ⟨d3,r3,b3⟩:=(Yk hf hq (i:=3) (k:=1) (y:=x3) (cs':=[v3]) rfl rfl Yct rfl);obtain ⟨rfl,k3⟩:=YgG r3;refine ⟨⟨d0,d1,d2,d3⟩,⟨_,rfl,⟨k0,k1,k2,k3⟩⟩,?_⟩;simp only [List.map_cons,List.map_nil,Rows.uptoBulk,Rows.uptoBulkAll,funW];simp only [WV,WW] at*;omega
theorem Yfu:XV enc prog w base spare held (slL functionL) (fun l=>(l.map funW).sum) 24 fuel:=Xj Tryz.underlying24 Zj (fun _ _=>Ygm)
theorem YiL:XV enc prog w base spare held actionL actW 102 fuel:=fun cs x h hq0=>by
 obtain ⟨xs,n,hfu,rfl,hcl,hxl,hf⟩:=DataW.trod_struct Tryz.underlying102 h;have hc:prog.cellsOf 102=10:=by kernel_rfl
 rw [hc] at hcl;have hq:Rows.uptoBulkAll (xs.map (·.1))<=1048576:=by simp only [Rows.uptoBulk] at hq0;omega
 match cs,hcl,xs,hxl,hf,hq with
 | [v0,v1,v2,v3,v4,v5,v6,v7,v8,v9],_,[x0,x1,x2,x3,x4],_,hf,hq=>
  obtain ⟨d0,r0,b0⟩:=(Yk hf hq (i:=0) (k:=1) (y:=x0) (cs':=[v0]) rfl rfl Wj rfl);obtain ⟨rfl,k0⟩:=Ybp r0;obtain ⟨d1,r1,b1⟩:=(Yk hf hq (i:=1) (k:=1) (y:=x1) (cs':=[v1]) rfl rfl XK rfl);have k1:=XA r1;obtain ⟨d2,r2,b2⟩:=(Yk hf hq (i:=2) (k:=1) (y:=x2) (cs':=[v2]) rfl rfl Yct rfl);obtain ⟨rfl,k2⟩:=YgG r2;obtain ⟨d3,r3,b3⟩:=(Yk hf hq (i:=3) (k:=6) (y:=x3) (cs':=[v3,v4,v5,v6,v7,v8]) rfl rfl (Wf _) rfl);obtain ⟨y3_0,y3_1,y3_2,y3_3,e3,k3⟩:=Yn r3;simp only [List.cons.injEq,and_true] at e3;obtain ⟨rfl,rfl,rfl,rfl,rfl,rfl⟩:=e3;obtain ⟨d4,r4,b4⟩:=(Yk hf hq (i:=4) (k:=1) (y:=x4) (cs':=[v9]) rfl rfl YbW rfl);have k4:=XA r4;refine ⟨⟨d0,d1,d2,d3,d4⟩,⟨_,_,_,_,_,_,rfl,⟨k0,k1,k2,k3,k4⟩⟩,?_⟩;simp only [List.map_cons,List.map_nil,Rows.uptoBulk,Rows.uptoBulkAll,actW];simp only [WV,WW] at*;omega
theorem Yhm:XV enc prog w base spare held (slL actionL) (fun l=>(l.map actW).sum) 25 fuel:=Xj Tryz.underlying25 Zj (fun _ _=>YiL)
theorem Ygo:XV enc prog w base spare held durativeL durW 110 fuel:=fun cs x h hq0=>by
 obtain ⟨xs,n,hfu,rfl,hcl,hxl,hf⟩:=DataW.trod_struct Tryz.underlying110 h;have hc:prog.cellsOf 110=23:=by kernel_rfl
 rw [hc] at hcl;have hq:Rows.uptoBulkAll (xs.map (·.1))<=1048576:=by simp only [Rows.uptoBulk] at hq0;omega
 match cs,hcl,xs,hxl,hf,hq with
 | [v0,v1,v2,v3,v4,v5,v6,v7,v8,v9,v10,v11,v12,v13,v14,v15,v16,v17,v18,v19,v20,v21,v22],_,[x0,x1,x2,x3,x4,x5,x6,x7],_,hf,hq=>
  obtain ⟨d0,r0,b0⟩:=(Yk hf hq (i:=0) (k:=1) (y:=x0) (cs':=[v0]) rfl rfl Wj rfl);obtain ⟨rfl,k0⟩:=Ybp r0;obtain ⟨d1,r1,b1⟩:=(Yk hf hq (i:=1) (k:=1) (y:=x1) (cs':=[v1]) rfl rfl XK rfl);have k1:=XA r1;obtain ⟨d2,r2,b2⟩:=(Yk hf hq (i:=2) (k:=1) (y:=x2) (cs':=[v2]) rfl rfl Yct rfl);obtain ⟨rfl,k2⟩:=YgG r2;obtain ⟨d3,r3,b3⟩:=(Yk hf hq (i:=3) (k:=6) (y:=x3) (cs':=[v3,v4,v5,v6,v7,v8]) rfl rfl (Wf _) rfl);obtain ⟨y3_0,y3_1,y3_2,y3_3,e3,k3⟩:=Yn r3;simp only [List.cons.injEq,and_true] at e3;obtain ⟨rfl,rfl,rfl,rfl,rfl,rfl⟩:=e3;obtain ⟨d4,r4,b4⟩:=(Yk hf hq (i:=4) (k:=6) (y:=x4) (cs':=[v9,v10,v11,v12,v13,v14]) rfl rfl (Wf _) rfl);obtain ⟨y4_0,y4_1,y4_2,y4_3,e4,k4⟩:=Yn r4;simp only [List.cons.injEq,and_true] at e4;obtain ⟨rfl,rfl,rfl,rfl,rfl,rfl⟩:=e4;obtain ⟨d5,r5,b5⟩:=(Yk hf hq (i:=5) (k:=6) (y:=x5) (cs':=[v15,v16,v17,v18,v19,v20]) rfl rfl (Wf _) rfl);obtain ⟨y5_0,y5_1,y5_2,y5_3,e5,k5⟩:=Yn r5;simp only [List.cons.injEq,and_true] at e5;obtain ⟨rfl,rfl,rfl,rfl,rfl,rfl⟩:=e5;obtain ⟨d6,r6,b6⟩:=(Yk hf hq (i:=6) (k:=1) (y:=x6) (cs':=[v21]) rfl rfl YbW rfl);have k6:=XA r6;obtain ⟨d7,r7,b7⟩:=(Yk hf hq (i:=7) (k:=1) (y:=x7) (cs':=[v22]) rfl rfl YbW rfl);have k7:=XA r7;refine ⟨⟨d0,d1,d2,d3,d4,d5,d6,d7⟩,⟨_,_,_,_,_,_,_,_,_,_,_,_,_,_,_,rfl,⟨k0,k1,k2,k3,k4,k5,k6,k7⟩⟩,?_⟩;simp only [List.map_cons,List.map_nil,Rows.uptoBulk,Rows.uptoBulkAll,durW];simp only [WV,WW] at*;omega
theorem Yfv:XV enc prog w base spare held (slL durativeL) (fun l=>(l.map durW).sum) 26 fuel:=Xj Tryz.underlying26 Zj (fun _ _=>Ygo)
theorem YiJ:XV enc prog w base spare held domainL domW 28 fuel:=fun cs x h hq0=>by
 obtain ⟨xs,n,hfu,rfl,hcl,hxl,hf⟩:=DataW.trod_struct Tryz.underlying28 h;have hc:prog.cellsOf 28=7:=by kernel_rfl
 rw [hc] at hcl;have hq:Rows.uptoBulkAll (xs.map (·.1))<=1048576:=by simp only [Rows.uptoBulk] at hq0;omega
 match cs,hcl,xs,hxl,hf,hq with
 | [v0,v1,v2,v3,v4,v5,v6],_,[x0,x1,x2,x3,x4,x5,x6],_,hf,hq=>
  obtain ⟨d0,r0,b0⟩:=(Yk hf hq (i:=0) (k:=1) (y:=x0) (cs':=[v0]) rfl rfl Wj rfl);obtain ⟨rfl,k0⟩:=Ybp r0;obtain ⟨d1,r1,b1⟩:=(Yk hf hq (i:=1) (k:=1) (y:=x1) (cs':=[v1]) rfl rfl XK rfl);have k1:=XA r1;obtain ⟨d2,r2,b2⟩:=(Yk hf hq (i:=2) (k:=1) (y:=x2) (cs':=[v2]) rfl rfl XK rfl);have k2:=XA r2;obtain ⟨d3,r3,b3⟩:=(Yk hf hq (i:=3) (k:=1) (y:=x3) (cs':=[v3]) rfl rfl YeS rfl);have k3:=XA r3;obtain ⟨d4,r4,b4⟩:=(Yk hf hq (i:=4) (k:=1) (y:=x4) (cs':=[v4]) rfl rfl Yfu rfl);have k4:=XA r4;obtain ⟨d5,r5,b5⟩:=(Yk hf hq (i:=5) (k:=1) (y:=x5) (cs':=[v5]) rfl rfl Yhm rfl);have k5:=XA r5;obtain ⟨d6,r6,b6⟩:=(Yk hf hq (i:=6) (k:=1) (y:=x6) (cs':=[v6]) rfl rfl Yfv rfl);have k6:=XA r6;refine ⟨⟨d0,d1,d2,d3,d4,d5,d6⟩,⟨_,_,_,_,_,_,rfl,⟨k0,k1,k2,k3,k4,k5,k6⟩⟩,?_⟩;simp only [List.map_cons,List.map_nil,Rows.uptoBulk,Rows.uptoBulkAll,domW];simp only [WV,WW] at*;omega
theorem Yhl:XV enc prog w base spare held problemL prbW 37 fuel:=fun cs x h hq0=>by
 obtain ⟨xs,n,hfu,rfl,hcl,hxl,hf⟩:=DataW.trod_struct Tryz.underlying37 h;have hc:prog.cellsOf 37=11:=by kernel_rfl
 rw [hc] at hcl;have hq:Rows.uptoBulkAll (xs.map (·.1))<=1048576:=by simp only [Rows.uptoBulk] at hq0;omega
 match cs,hcl,xs,hxl,hf,hq with
 | [v0,v1,v2,v3,v4,v5,v6,v7,v8,v9,v10],_,[x0,x1,x2,x3,x4,x5],_,hf,hq=>
  obtain ⟨d0,r0,b0⟩:=(Yk hf hq (i:=0) (k:=1) (y:=x0) (cs':=[v0]) rfl rfl Wj rfl);obtain ⟨rfl,k0⟩:=Ybp r0;obtain ⟨d1,r1,b1⟩:=(Yk hf hq (i:=1) (k:=1) (y:=x1) (cs':=[v1]) rfl rfl Wj rfl);obtain ⟨rfl,k1⟩:=Ybp r1;obtain ⟨d2,r2,b2⟩:=(Yk hf hq (i:=2) (k:=1) (y:=x2) (cs':=[v2]) rfl rfl XK rfl);have k2:=XA r2;obtain ⟨d3,r3,b3⟩:=(Yk hf hq (i:=3) (k:=1) (y:=x3) (cs':=[v3]) rfl rfl Ykb rfl);have k3:=XA r3;obtain ⟨d4,r4,b4⟩:=(Yk hf hq (i:=4) (k:=1) (y:=x4) (cs':=[v4]) rfl rfl YiI rfl);have k4:=XA r4;obtain ⟨d5,r5,b5⟩:=(Yk hf hq (i:=5) (k:=6) (y:=x5) (cs':=[v5,v6,v7,v8,v9,v10]) rfl rfl (Wf _) rfl);obtain ⟨y5_0,y5_1,y5_2,y5_3,e5,k5⟩:=Yn r5;simp only [List.cons.injEq,and_true] at e5;obtain ⟨rfl,rfl,rfl,rfl,rfl,rfl⟩:=e5;refine ⟨⟨d0,d1,d2,d3,d4,d5⟩,⟨_,_,_,_,_,_,_,rfl,⟨k0,k1,k2,k3,k4,k5⟩⟩,?_⟩;simp only [List.map_cons,List.map_nil,Rows.uptoBulk,Rows.uptoBulkAll,prbW];simp only [WV,WW] at*;omega
variable {α:Type} {t:TypeId} {v:Value} {L:Lay α}
theorem YcU {wt:α->Nat} {fs:Array Field} {r:Reach} {b0:Nat} {d:DataW H} {p:List MemPlace} (hu:prog.underlying t=some (.struct fs)) (ho:∀ fuel,XV enc prog w base spare held L wt t fuel) (hv:Value.okWide prog w r b0 t v) (h:DataW.Trod enc prog w base spare held t v d p) (hq:Rows.uptoBulk d<=1048576):
 ∃ x cs,v=.agg (List.toArray cs)/\L.rep (fzOf w) x cs/\wt x<=1048576:=by
 obtain ⟨cs,rfl,hsz⟩:=okWide_struct hu hv;obtain ⟨l⟩:=cs;obtain ⟨fuel,hf⟩:=h;obtain ⟨x,hx,hw⟩:=ho fuel _ _ hf hq;exact ⟨x,l,rfl,hx,Nat.le_trans hw hq⟩
end
end Go.Proofs.YtacfpcbladaohaaGreatDoor
namespace Go.Proofs.YtacfpcbladaohaaGreatDoor
open Go.ChangeShapes Go.WideShapes Go.ChangeAt Go.RowKit Go.Lx
variable {fuel:Nat} {t:TypeId} {w:World}
theorem YoX {H:Type} {enc:TypeId × Value->H} {P:Program} {base:Nat} {spare:Nat->Bool} {held:Bool} (ht:P.underlying t=some (.int .u8)):XV enc P w base spare held u8L (fun _=>1) t fuel:=fun cs x h _=>by
 obtain ⟨n,h1,_,h2⟩:=DataW.trod_int ht h;have h3:0<=n/\n<=255:=by
  simp [Lit.wf,IntKind.min,IntKind.max,IntKind.signed,IntKind.bits] at h2;omega
 exact ⟨n.toNat,⟨by rw [h1,Int.toNat_of_nonneg h3.1],by omega⟩,YfV _⟩
def runL:Lay (List Nat × Formula) where
 size:=7
 rep:=fun fz x cs=>∃ P n c va vp ve vk,cs=[.slice P n c,.string x.2.op,.string x.2.name,va,vp,ve,vk]/\Sl u8L fz P n c x.1/\FormulaR fz x.2 va vp ve vk
 len:=fun h=>by obtain ⟨_,_,_,_,_,_,_,rfl,_⟩:=h;rfl
 mono:=fun hle h=>by obtain ⟨P,n,c,va,vp,ve,vk,e,h1,h2⟩:=h;exact ⟨P,n,c,va,vp,ve,vk,e,h1.mono hle,h2.mono hle⟩
theorem Ynn {H:Type} {enc:TypeId × Value->H} {base:Nat} {spare:Nat->Bool} {held:Bool}:XV enc Tryz.prog w base spare held runL (fun x=>fW x.2) 40 fuel:=fun cs x h hq0=>by
 obtain ⟨xs,n,hfu,rfl,hcl,hxl,hf⟩:=DataW.trod_struct Tryz.underlying40 h;have hc:Tryz.prog.cellsOf 40=7:=by kernel_rfl
 rw [hc] at hcl;have hq:Rows.uptoBulkAll (xs.map (·.1))<=1048576:=by simp only [Rows.uptoBulk] at hq0;omega
 match cs,hcl,xs,hxl,hf,hq with
 | [v0,v1,v2,v3,v4,v5,v6],_,[x0,x1],_,hf,hq=>
  obtain ⟨d0,r0,b0⟩:=Yk hf hq (i:=0) (k:=1) (y:=x0) (cs':=[v0]) rfl rfl (Xj (L:=u8L) Tryz.underlying38 Zj (fun _ _=>YoX Tryz.underlying5)) Zj rfl;obtain ⟨B,m,c,rfl,h3⟩:=XA r0;obtain ⟨d1,r1,b1⟩:=Yk hf hq (i:=1) (k:=6) (y:=x1) (cs':=[v1,v2,v3,v4,v5,v6]) rfl rfl (Wf _) Zj rfl;obtain ⟨w1,w2,w3,w4,e,hR⟩:=Yn r1;simp only [List.cons.injEq,and_true] at e;obtain ⟨rfl,rfl,rfl,rfl,rfl,rfl⟩:=e;exact ⟨(d0,d1),⟨_,_,_,_,_,_,_,rfl,h3,hR⟩,by simp only [Rows.uptoBulk,Rows.uptoBulkAll,List.map_cons,List.map_nil];omega⟩
theorem Ygl:ownKnob Tryz.prog.godebug=none:=by kernel_rfl
theorem Ybv:laidOutB Tryz.prog=true:=by kernel_rfl
theorem Yns {W:World} (h:W.ShapedOpen Tryz.prog):MaxF (fzOf W):=by
 obtain ⟨m,hm⟩:=cell_of_shapedOpen_int (P:=Tryz.prog) (g:=0) (t:=3) (zero:=#[.int .i64 0]) h (of_decide_eq_true Zj) Zj rfl Zj Zj Tryz.underlying3;exact ⟨m,YmT hm⟩
theorem YjU (os:Os) {H:Type} (enc:TypeId × Value->H):∃ places,DataW.whole enc Tryz.prog ((World.laidAll Tryz.prog os Rows.reachHoldsUptoRow.laid).forCall (fun _ _=>0) ⟨#[],#[.agg #[.string ⟨#[]⟩,.slice none 0 0,.slice none 0 0,.slice none 0 0,.slice none 0 0,.slice none 0 0,.slice none 0 0],.agg #[.string ⟨#[]⟩,.string ⟨#[]⟩,.slice none 0 0,.slice none 0 0,.slice none 0 0,.string ⟨#[]⟩,.string ⟨#[]⟩,.slice none 0 0,.slice none 0 0,.slice none 0 0,.slice none 0 0],.agg #[.slice none 0 0,.string ⟨#[]⟩,.string ⟨#[]⟩,.slice none 0 0,.slice none 0 0,.slice none 0 0,.slice none 0 0]],[]⟩).memory Tryz.f3.params.toList (Rows.OpenSpec.upto Rows.reachHoldsSpec).vars false (#[.agg #[.string ⟨#[]⟩,.slice none 0 0,.slice none 0 0,.slice none 0 0,.slice none 0 0,.slice none 0 0,.slice none 0 0],.agg #[.string ⟨#[]⟩,.string ⟨#[]⟩,.slice none 0 0,.slice none 0 0,.slice none 0 0,.string ⟨#[]⟩,.string ⟨#[]⟩,.slice none 0 0,.slice none 0 0,.slice none 0 0,.slice none 0 0],.agg #[.slice none 0 0,.string ⟨#[]⟩,.string ⟨#[]⟩,.slice none 0 0,.slice none 0 0,.slice none 0 0,.slice none 0 0]]:Array Value).toList 8=some ([.agg [.lit (.string []),.nil,.nil,.nil,.nil,.nil,.nil],.agg [.lit (.string []),.lit (.string []),.nil,.nil,.nil,.agg [.lit (.string []),.lit (.string []),.nil,.nil,.nil,.nil]],.agg [.nil,.agg [.lit (.string []),.lit (.string []),.nil,.nil,.nil,.nil]]],[],places):=⟨[],by kernel_rfl⟩
set_option maxRecDepth 100000 in
theorem YiC (os:Os) (started:os.Started) (H:Type) (enc:TypeId × Value->H) (F:Stop.Interp):
 ReturnsInHanded {} Tryz.checked os 3 .any ((Rows.OpenSpec.upto Rows.reachHoldsSpec).preRow enc Tryz.prog Tryz.f3 Rows.reachHoldsUptoRow.domain false Rows.reachHoldsUptoRow.laid) (((Rows.OpenSpec.upto Rows.reachHoldsSpec).at F).post enc Tryz.prog Tryz.f3 false true false false):=by
 obtain ⟨places,hx⟩:=YjU os enc;refine returnsInHanded_of_row (C:=Tryz.checked) (s:=Rows.OpenSpec.upto Rows.reachHoldsSpec) Ygl started Zj Tryz.func3
  ⟨World.laidAll Tryz.prog os Rows.reachHoldsUptoRow.laid,fun _ _=>0,⟨#[],#[.agg #[.string ⟨#[]⟩,.slice none 0 0,.slice none 0 0,.slice none 0 0,.slice none 0 0,.slice none 0 0,.slice none 0 0],.agg #[.string ⟨#[]⟩,.string ⟨#[]⟩,.slice none 0 0,.slice none 0 0,.slice none 0 0,.string ⟨#[]⟩,.string ⟨#[]⟩,.slice none 0 0,.slice none 0 0,.slice none 0 0,.slice none 0 0],.agg #[.slice none 0 0,.string ⟨#[]⟩,.string ⟨#[]⟩,.slice none 0 0,.slice none 0 0,.slice none 0 0,.slice none 0 0]],[]⟩,World.laidAll_os _ _ _,World.shaped_of_ZipB Zj Zj,rfl,(Input.okWide_of_okWideB Zj).2,
   OpenSpec.preRow_of_cond 8 hx Zj (fun k hk=>by cases hk;kernel_rfl) Zj (by rw [MakeChecks.laidMetH_plain _ _ _ Zj];exact laidMet_laidAll _ Zj Zj),
   by simp only [Assume.holds];exact ⟨by simp,by simp,fun _=>Modest.zero,by simp,by simp⟩⟩ ?_
 intro W base args ds gs before hval0 hW _ hcond _ _ hsh _;have hval:∀ (j:Nat) t v,Tryz.f3.params[j]?=some t->args[j]?=some v->Value.okWide Tryz.prog W .any base t v:=hval0;have hbk:Rows.uptoSmall H (ds++gs)=true:=hcond _ rfl;have hW':DataW.Whole enc Tryz.prog Tryz.f3.params.toList Rows.reachHoldsSpec.vars false W args.toList ds gs before:=hW;obtain ⟨p,q,hA0,hV,rfl,_,_⟩:=hW;have hA:DataW.TrodAll enc Tryz.prog W 0 (fun _=>true) true Tryz.f3.params.toList args.toList ds p:=hA0;rw [Tryz.params3] at hA hval;obtain ⟨v0,v1,v2,d0,d1,d2,p0,p1,p2,rfl,rfl,rfl,h0,h1,h2⟩:=trodAll_three hA;obtain ⟨rfl,rfl⟩:=trodVars_none hV;clear hA0 hval0;simp only [List.append_nil] at hW';have hlt:∀ x∈p0++p1++p2,x.block<W.heap.size:=fun x hx=>hW'.lt x hx
 have hq:Rows.uptoBulk d0<=1048576/\Rows.uptoBulk d1<=1048576/\Rows.uptoBulk d2<=1048576:=by
  have h9:=of_decide_eq_true hbk;simp only [List.append_nil,Rows.uptoBulkAll] at h9;omega
 obtain ⟨x,cs,rfl,⟨u1,u2,u3,u4,u5,u6,rfl,hg⟩,hw⟩:=YcU Tryz.underlying28 (fun _=>YiJ) (hval 0 28 v0 rfl rfl) h0 hq.1;obtain ⟨y,cs,rfl,⟨z1,z2,z3,z4,z5,z6,z7,rfl,hp⟩,hw2⟩:=YcU Tryz.underlying37 (fun _=>Yhl) (hval 1 37 v1 rfl rfl) h1 hq.2.1;obtain ⟨z,cs,rfl,⟨B,m,cc,w1,w2,w3,w4,rfl,h3,hR⟩,hw3⟩:=YcU Tryz.underlying40 (fun _=>Ynn) (hval 2 40 v2 rfl rfl) h2 hq.2.2;refine ((lholds_q (Yns hsh) hg hp Zi Zi h3 hR Zi (fun _ h=>Yqq h)).calls (hp_of W)).mono fun e W' ⟨he1,hfr⟩=>?_
 have hb:=below_of hfr;have k0:=Below.trod Ybv Zj (of_decide_eq_true Zj) h0 hb (fun x hx=>hlt x (by simp [hx]));have k1:=Below.trod Ybv Zj (of_decide_eq_true Zj) h1 hb (fun x hx=>hlt x (by simp [hx]));have k2:=Below.trod Ybv Zj (of_decide_eq_true Zj) h2 hb (fun x hx=>hlt x (by simp [hx]));show ∃ v,e=.returned v/\Rows.reachHoldsSpec.post enc Tryz.prog Tryz.f3 false true false false W _ v W';exact ⟨_,he1,[d0,d1,d2],[],_,[],_,[],hW',trodAll_mk1 (shut_bool Tryz.underlying4 true),trodAll_mk3 k0 k1 k2,rfl,hb.frame _,fun h=>by cases h⟩
end Go.Proofs.YtacfpcbladaohaaGreatDoor
