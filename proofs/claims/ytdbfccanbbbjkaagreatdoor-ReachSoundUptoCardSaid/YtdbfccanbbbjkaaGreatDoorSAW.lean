/- The texts Slm, VC, QLp, GOpenA, POpenW, VRowSB, laid together. Conditions: none. -/
import Derived.Test.YtdbfccanbbbjkaaGreatDoorSAV
import Derived.Lay
import Derived.LaidOnce
import Derived.Carry
import Derived.MakeChecks
import Derived.LaidSub
import Derived.Deep.DeepHandedRow
import Derived.Lib.LaidTab
import Derived.Shelf.Vars
import Derived.Deep.Slices
import Derived.SizedLaws
set_option linter.all false
set_option maxHeartbeats 16000000
set_option maxRecDepth 20000
open Go.Lx Go.RowKit
attribute [local instance 10] Classical.propDecidable
open Go.Proofs.Tryz (prog)
namespace Go.Lx
open Go.RowKit
section
variable {P:Program} {cx:Cx} {r:Operand->Option Value} {fz:FZ} {H:HP} {V:Value->Prop} {dst:Option Nat} {ty:TypeId} {pos:String} {af:Array Edge} {gd:Option (Nat × Bool)}
theorem Yf9 {α:Type} {L:Lay α} {t e:TypeId} {x i u:Operand} {X Y:Ty} {A:Option Addr} {n c j m:Nat} {mi:Int} {xs:List α}
 (hs:Sl L fz A n c xs) (h:∀ A',Sl L fz A' (m - j) (c - j) ((xs.drop j).take (m - j))->V (.slice A' (m - j) (c - j))) (T:Tab P:=by exact T) (hT:T.inf t=some X:=by exact rfl) (hd:X.desc=.slice e:=by exact rfl) (hY:T.inf e=some Y:=by exact rfl) (hz:Y.size=L.size:=by exact rfl) (hx:r x=some (.slice A n c):=by exact rfl) (hi:r i=some (Zk j):=by exact rfl) (hu:r u=some (Zk mi):=by exact rfl) (hmi:mi=m:=by omega) (hj:j<=m:=by omega) (hm:m<=n:=by omega):DoesQ P cx ⟨dst,.slice t x (some i) (some u) none,ty,pos,af,gd⟩ r fz H V:=by
  subst hmi;have h1:=hs.cap;have h2:=hs.max;have h3:=hs.short;have h4:=hs.len;refine YI (v:=.slice (if c=j then A else A.map (·.add (j*Y.size))) (m - j) (c - j)) (fun ρ w hr=>by
   have hud:=run_underlying (und_plain T hT hd rfl) w;have hs:=Lx.run_sizeOf T hY w;have hmc:m<=c:=by omega
   simp [execOp,hr _ _ hx,hr _ _ hi,hr _ _ hu,Instr.sliceAt,Instr.slice,Instr.sliceBounds,Instr.sliceBound,asIntOf,hud,hs,hj,hmc]
   try omega) (h _ ?_)
  refine ⟨by rw [List.length_take,List.length_drop,h4];omega,by omega,by omega,by omega,?_⟩;rcases hs.elem with h0 | ⟨ad,h5,h6⟩
  ·exact .inl Zi
  by_cases hn:m - j=0
  ·exact .inl hn
  refine .inr ⟨ad.add (j*L.size),?_,fun i d hd=>?_⟩
  ·rw [if_neg Zi,h5,hz];rfl
  rw [List.getElem?_take] at hd;split at hd
  ·rw [List.getElem?_drop] at hd;have:=h6 (j+i) d hd;have e:(ad.add (j*L.size)).add (i*L.size)=ad.add ((j+i)*L.size):=by
    rw [Nat.add_mul];unfold Addr.add;by_cases h7:j*L.size=0
    ·rw [h7];simp
    by_cases h8:i*L.size=0
    ·rw [h8];simp
    simp [h7,h8,Nat.add_assoc]
   rw [e];exact this
  cases hd
end
end Go.Lx
namespace Go.Proofs.YtdbfccanbbbjkaaGreatDoor
variable {α:Type} {W:Wd} {fz:FZ} {d:Domain} {p:Problem} {K:Kn} {k:Nat} {u1 u2 u3 u4 u5 u6 u7 v1 v2 v3 v4 v5 v6:Value} {l:List α}
theorem wld_at {p:Addr} (h:At YfS fz p W):At (slL atomL) fz (p.add 0) W.atoms:=h.part 0 fun cs hr=>by
 obtain ⟨A,n,c,B,m,d,rfl,h1,_⟩:=hr;exact ⟨_,rfl,A,n,c,rfl,h1⟩
theorem Yg5 {S0:List Atom} (h:WU d p S0=0):(Y3 d p).2=0/\expE (knM d p) d S0=0:=by
 unfold WU at h;split at h
 ·rename_i h1;exact absurd h h1
 rename_i h1;exact ⟨Classical.not_not.1 h1,h⟩
theorem Yfp {S0 T0 L:List Atom} (h1:Yjg S0 L) (h2:Yjg T0 L) (h:WU d p S0=0):WU d p T0=0:=by
 obtain ⟨e1,e2⟩:=Yg5 h;unfold WU;rw [if_neg (by rw [e1];decide)];exact YpH h1 h2 e2
theorem sch_many (h:schE K d=0):Ybz (schL K d)<=4096:=by
 unfold schE at h;split at h
 ·cases h
 omega
theorem one_of {x:α} (h:l[k]?=some x):(l.drop k).take (k+1 - k)=[x]:=by
 rw [show k+1 - k=1 by omega];obtain ⟨h1,h2⟩:=Zg h;rw [List.drop_eq_getElem_cons h1,h2];rfl
theorem lsound_q {Pk:Option Addr} {np cp:Nat} {picks:List Nat} (hM:MaxF fz) (hD:DomainR fz d v1 v2 v3 v4 v5 v6) (hP:ProblemR fz p u1 u2 u3 u4 u5 u6 u7) (hd:domW d<=1300000) (hp:prbW p<=1300000) (hK:Sl u8L fz Pk np cp picks)
 (hw:∀ fz:FZ,MaxF fz->QFn prog 5 [] fz (Zo true)):
 QFn prog 3 [ZD d v1 v2 v3 v4 v5 v6,ZP p u1 u2 u3 u4 u5 u6 u7,Zc Pk np cp] fz (Zo true):=by
 have hD0:=hD;have hP0:=hP;have hS:=YpY hd hp;have hA:=fun hc=>apt_of (d:=d) (p:=p) hc hd hp
 obtain ⟨⟨A1,n1,b1,rfl,i1⟩,⟨A2,n2,b2,rfl,i2⟩,⟨A3,n3,b3,rfl,i3⟩,⟨A4,n4,b4,rfl,i4⟩,⟨A5,n5,b5,rfl,i5⟩,⟨A6,n6,b6,rfl,i6⟩⟩:=hD.sls;obtain ⟨⟨B1,m1,d1,rfl,j1⟩,⟨B2,m2,d2,rfl,j2⟩,⟨B3,m3,d3,rfl,j3⟩⟩:=hP.sls;obtain ⟨⟨B4,m4,d4,rfl,_⟩,⟨B5,m5,d5,rfl,_⟩,⟨B6,m6,d6,rfl,_⟩,⟨B7,m7,d7,rfl,_⟩⟩:=hP.goal.sls;refine qF Tryz.func3 Tryz.ntmps3 (fun w0=>?_);refine pX (fun g3=>?_);refine pY (fun g4=>?_);refine wK (q:=Yo2 hD0 hP0) (h:=fun v1 fz1 H1 hle1 hR1=>?_);obtain ⟨rfl,b,rfl,hfit⟩:=hR1;have hM1:MaxF fz1:=hM.mono hle1;cases b with
 | true=>
  refine wG ?_;refine Yt (hw _ hM1) ?_;exact wR (h:=rfl)
 | false=>
  have hfit:=hfit rfl;have h6:(objsM d p).length<=6:=by unfold objsM;rw [List.length_append];exact hfit.os
  have h3:∀ a∈d.actions,a.params.length<=3:=fun a ha=>(hfit.a a ha).params
  have hF:=fun hc=>actsF_of (d:=d) (p:=p) hc hfit Zi
  have hWB:=wb_of hp;refine wG ?_;refine Yt (hw _ hM1) ?_;refine wK (q:=Yp6 hM1 (hD0.mono hle1) (hP0.mono hle1) hS hA) (h:=fun v4 fz4 H4 hle4 hR4=>?_);obtain ⟨rfl,S0,hS0,v,rfl,hz1,hz2⟩:=hR4;have hle:=hle1.trans hle4;by_cases he:WU d p S0=0;rotate_left 1
  ·rw [YA he];refine zW ?_;refine Yc (Yj [] [_,_] Zz (Yln (hM.mono hle) (hD0.mono hle) (hP0.mono hle) hS hA) (fun v5 fz5 H5 hle5 hR5=>?_));obtain ⟨T0,hT0,w,rfl,hb,_⟩:=hR5;have he2:WU d p T0≠0:=fun h=>he (Yfp hT0 hS0 h)
   obtain ⟨rfl,rfl⟩:=hb he2;rw [YA he2];have hle:=hle.trans hle5;refine zW ?_;refine Yc (Yj [] [_,_] Zz (run_f (hM.mono hle) (hD0.mono hle) (hP0.mono hle) hS h6 hfit.acts h3 hF hWB Zi (hK.mono hle)) (fun v6 fz6 H6 hle6 hR6=>?_));obtain ⟨rfl,vw,vp,rfl,_⟩:=hR6;refine wG ?_;refine YeK ?_;rw [show ((false==false):Bool)=true from rfl];exact wR (h:=rfl)
  obtain ⟨l,hl,hpm,_⟩:=hz2 he;obtain ⟨Al,nl,cl,rfl,hsl⟩:=hl;obtain ⟨hc,hx⟩:=Yg5 he;rw [he,show errV 0=.nilIface from rfl];refine zW ?_;refine Yc (Yj [] [_,_] Zz (Yln (hM.mono hle) (hD0.mono hle) (hP0.mono hle) hS hA) (fun v5 fz5 H5 hle5 hR5=>?_));obtain ⟨T0,hT0,w,rfl,_,hg⟩:=hR5;have he2:=Yfp hS0 hT0 he;obtain ⟨ni,hG⟩:=hg he2;obtain ⟨_,hy⟩:=Yg5 he2;obtain ⟨e1,e2,e3,e4,e5,e6⟩:=YpI hx;obtain ⟨_,f2,f3,f4,f5,f6⟩:=YpI hy;have hni:=hG.len;have hni2:=Ygy (schL (knM d p) d) (expM (knM d p) d T0).D;have hni3:=sch_many e1;obtain ⟨Ai,ci,rfl,_,_⟩:=hG.form;rw [he2,show errV 0=.nilIface from rfl];refine Seq.freezeAll (H1:=[_,_]) (H2:=H5) Zq (fun fz10 hle10 hf10=>?_);obtain ⟨Bl,dl,el,iL⟩:=hG.sl hle10 hf10 Zi;injection el with w1 w2 w3
  subst w1;subst w3;have hle:=hle.trans (hle5.trans hle10);refine zW ?_;refine Yc (Yj [] [_,_] Zz (run_f (hM.mono hle) (hD0.mono hle) (hP0.mono hle) hS h6 hfit.acts h3 hF hWB Zi (hK.mono hle)) (fun v6 fz6 H6 hle6 hR6=>?_));obtain ⟨rfl,vw,vp,rfl,hrun⟩:=hR6;obtain ⟨Aw,nw,cw,Bp,mp,ep,Ws,Ss,rfl,rfl,iW,iS,hRun⟩:=hrun hc;have hI1:=(YjD hc hfit (hA hc) e1 e2 e4 e5 e6 (fun a ha=>e3 a ((hS0.2 a).2 (Yd6.2 ha))) hRun).1;have hI2:=(YjD hc hfit (hA hc) e1 f2 f4 f5 f6 (fun a ha=>f3 a ((hT0.2 a).2 (Yd6.2 ha))) hRun).2;have isl:=hsl.mono (hle5.trans (hle10.trans hle6));have iL:=iL.mono hle6;have lW:=iW.len;have sW:=iW.short;have lS:=iS.len;have sS:=iS.short;have lL:=iL.len;have sL:=iL.short;clear hF hWB hA;refine zW ?_;refine Yl (fun q σ fz' H'=>∃ k:Nat,k<=nw/\q=nw - k/\σ=[(14,Zk k),(12,Zc Bp mp ep),(11,Zc Aw nw cw),(9,Zc Ai ni ci),(7,Zc Al nl cl)]/\fz6=fz'/\H'=[]) ⟨0,Z0 _,rfl,rfl,rfl,rfl⟩ Zw (List.nil_sublist _) ?_;rintro q σ fz' H' ⟨k,hk,rfl,rfl,rfl,rfl⟩;refine wC ?_ ?_<;>intro c1
  ·obtain ⟨W,hW⟩:=Ye (l:=Ws) (k:=k) Zi;have hIW:=hI1 W (Zm hW);refine zW ?_;refine Yl (fun q σ fz' H'=>∃ j:Nat,j<=W.atoms.length/\q=W.atoms.length - j/\σ=[(15,Zk j),(14,Zk k),(12,Zc Bp mp ep),(11,Zc Aw nw cw),(9,Zc Ai ni ci),(7,Zc Al nl cl)]/\fz6=fz'/\H'=[]) ⟨0,Z0 _,rfl,rfl,rfl,rfl⟩ Zw (List.nil_sublist _) ?_;rintro q σ fz' H' ⟨j,hj,rfl,rfl,rfl,rfl⟩;refine wI iW hW (fun q1 hq1=>?_);refine wG ?_;refine X8 (wld_at hq1) (fun D1 x1 y1 is1=>?_);have lx1:=is1.len;have sx1:=is1.short;refine wC ?_ ?_<;>intro c2
   ·obtain ⟨x,hx⟩:=Ye (l:=W.atoms) (k:=j) Zi;refine wI iW hW (fun q2 hq2=>?_);refine wG ?_;refine X8 (wld_at hq2) (fun D2 x2 y2 is2=>?_);refine wI is2 hx (fun q3 hq3=>?_);refine zL hq3 ?_;intro cs hcs;obtain ⟨vx,rfl,hR⟩:=Xu hcs;have hh:=rhas_q isl hR;rw [decide_eq_true (hpm.mem_iff.2 (hIW.sub x (Zm hx)))] at hh;refine wc hh ?_;exact wP (h:=by exact ⟨j+1,by omega,rfl,rfl,rfl,rfl⟩)
   exact wP (h:=by exact ⟨k+1,by omega,rfl,rfl,rfl,rfl⟩)
  refine zW ?_;refine Yl (fun q σ fz' H'=>∃ k:Nat,k<=mp/\q=mp - k/\σ=[(16,Zk k),(12,Zc Bp mp ep),(9,Zc Ai ni ci)]/\fz6=fz'/\H'=[]) ⟨0,Z0 _,rfl,rfl,rfl,rfl⟩ Zw (List.nil_sublist _) ?_;rintro q σ fz' H' ⟨k,hk,rfl,rfl,rfl,rfl⟩;refine wC ?_ ?_<;>intro c1
  ·obtain ⟨s,hs⟩:=Ye (l:=Ss) (k:=k) Zi;obtain ⟨ks,hks⟩:=List.getElem?_of_mem (hI2 s (Zm hs));have hkl:=(Zg hks).1;refine zW ?_;refine Yl (fun q σ fz' H'=>∃ (j:Nat) (b:Bool),j<=ni/\q=ni - j/\σ=[(18,Zk j),(17,Zo b),(16,Zk k),(12,Zc Bp mp ep),(9,Zc Ai ni ci)]/\fz6=fz'/\H'=[]/\(ks<j->b=true)) ⟨0,false,Z0 _,rfl,rfl,rfl,rfl,fun h=>absurd h Zi⟩ Zw (List.nil_sublist _) ?_;rintro q σ fz' H' ⟨j,b,hj,rfl,rfl,rfl,rfl,hb⟩;refine wC ?_ ?_<;>intro c2
   ·obtain ⟨y,hy⟩:=Ye (l:=YcW (schL (knM d p) d) (expM (knM d p) d T0).D) (k:=j) Zi;cases b with
    | true=>
     exact wP (h:=by exact ⟨j+1,true,by omega,rfl,rfl,rfl,rfl,fun _=>rfl⟩)
    | false=>
     refine wG ?_;refine Yf9 (j:=j) (m:=j+1) iL (fun D1 hd1=>?_);refine wG ?_;refine Yf9 (j:=k) (m:=k+1) iS (fun D2 hd2=>?_);rw [one_of hy] at hd1;rw [one_of hs] at hd2;refine wc (steps_q hd1 hd2) ?_;refine zW ?_;exact Ww ⟨j+1,decide ([y]=[s]),by omega,rfl,rfl,rfl,rfl,fun hlt=>by
      rcases Nat.lt_or_ge ks j with h1 | h1
      ·exact absurd (hb h1) Zh
      have e:ks=j:=by omega
      subst e;rw [hks] at hy;injection hy with hy
      subst hy;exact decide_eq_true rfl⟩ Zi Zw Zb
   have hb:=hb Zi;subst hb;exact wP (h:=by exact ⟨k+1,by omega,rfl,rfl,rfl,rfl⟩)
  exact wR (h:=rfl)
end Go.Proofs.YtdbfccanbbbjkaaGreatDoor
namespace Go.Lx
open Go.RowKit
section
variable {P:Program} {cx:Cx} {n:Nat} {σ:Env} {fz:FZ} {H:HP} {fn:Func} {R:Value->FZ->HP->Prop}
variable {X Y:Ty} {cs:List Value} {g i j k:Nat} {t t':TypeId}
theorem Ym9 (T:Tab P) {p q:Nat} {u u':TypeId} {ds:List Value} {f f':Nat × Nat} (hres:fn.results=#[.cell p t,.cell q u]) (hT:T.inf t=some X) (hU:T.inf u=some Y) (hd:XZ X.desc=true) (he:XZ Y.desc=true)
 (hv:lk σ p=some (Zp g)) (hx:lk σ q=some (Zp k)) (hi:H[i]?=some (g,.cells cs.toArray t' f)) (hj:H[j]?=some (k,.cells ds.toArray u' f')) (hsz:X.size=cs.length) (hsy:Y.size=ds.length)
 (h:∀ fz',Le fz fz'->(∀ p∈H,fz' p.1=some p.2)->R (.tuple #[.agg cs.toArray,.agg ds.toArray]) fz' []):retQ P cx n fn R .ret σ fz H:=by
 unfold retQ;exact ⟨.tuple #[.agg cs.toArray,.agg ds.toArray],fun a w hs hw=>by
  have hc:∀ (g i:Nat) (cs:List Value) (t':TypeId) (f:Nat × Nat),H[i]?=some (g,.cells cs.toArray t' f)->∀ j v,cs[j]?=some v->w.cell? ((⟨g,0,none⟩:Addr).add j)=some v:=fun g i cs t' f hi j v hv=>by
   have hadd:(⟨g,0,none⟩:Addr).add j=⟨g,j,none⟩:=by unfold Addr.add;split<;>simp_all
   rw [hadd,hw.cellOwn hi];simpa using hv
  simp [results,hres,hs.slot p _ hv,hs.slot q _ hx,asAddr,YaU T hT hd hsz (hc g i cs t' f hi),YaU T hU he hsy (hc k j ds u' f' hj)],Yf7 h⟩
end
end Go.Lx
namespace Go.Proofs.YtdbfccanbbbjkaaGreatDoor
variable {fz:FZ} {s:Bs}
theorem alw_q {fz:FZ}:QFn prog 27 [] fz YbN:=by
 refine qF Tryz.func27 Tryz.ntmps27 (fun w0=>?_);refine zW ?_;intros;exact Wt (i:=0) rfl (fun _ hi=>⟨_,[],hi.forget (List.nil_sublist _),rfl⟩)
theorem atm_q:QFn prog 28 [Zy s,Zn] fz (.agg #[Zy kAtom,Zy s,Zn,Zn,Zn,Zn]):=by
 refine qF Tryz.func28 Tryz.ntmps28 (fun w0=>?_);refine zW ?_;intros;exact Wt (i:=0) rfl (fun _ hi=>⟨_,[],hi.forget (List.nil_sublist _),rfl⟩)
theorem atm_R (h:s.size<=1000):FormulaR fz (atmF s) Zn Zn Zn Zn:=⟨by show kAtom.size<=_;decide,by show s.size<=_;omega,IsSl.nil,IsSl.nil,IsSl.nil,IsSl.nil⟩
theorem nilE_R:ExprR fz nilE Zn Zn:=⟨Y1,Y1,XH,IsSl.nil,IsSl.nil⟩
theorem Yqa {k:Int} (hk:I64 k) (h:s.size<=1000):changeL.rep fz (addC k s) [Zk k,Zn,Zy kAnd,Ze,Zn,Zn,Zn,Zn,Zy s,Zn,Ze,Ze,Zk 0,Zn,Zn]:=
 YbL (x:=addC k s) ⟨hk,IsSl.nil,Ycn,by show s.size<=_;omega,IsSl.nil,nilE_R⟩
def Ynn (k:Int) (s:Bs):List Value:=[Zk k,Zn,Zy kAnd,Ze,Zn,Zn,Zn,Zn,Zy s,Zn,Ze,Ze,Zk 0,Zn,Zn]
def lampK (ga ge:Nat):List Value:=[Zy YlH,Zn,Zk 2,Zy kAnd,Ze,Zn,Zn,Zn,Zn,Zy kAtom,Zy bOn,Zn,Zn,Zn,Zn,Zy kAnd,Ze,Zn,Zn,Zn,Zn,Zv ga 1 1,Zv ge 2 2]
theorem lamp_f:GFn prog 12 [] fz [] (fun r fz' H'=>H'=[]/\∃ v3 v6,r=.tuple #[.agg #[Zy bD,Zn,Zn,v3,Zn,Zn,v6],.agg #[Zy bP,Zy bD,Zn,Zn,Zn,Zy kAtom,Zy WN,Zn,Zn,Zn,Zn]]/\
 DomainR fz' Xw Zn Zn v3 Zn Zn v6/\ProblemR fz' YaL Zn Zn Zn Zn Zn Zn Zn):=by
 have ha:=@alw_q;unfold YbN at ha;refine zF Tryz.func12 Tryz.ntmps12 (fun w0=>?_);refine zWN ?_;intros;refine Yc (Yb (cs:=[Zy bOn,Zn,Zy WN,Zn,Zy bKey,Zn]) (fun gp=>?_));refine zWN ?_;refine zc ha ?_;refine zWN ?_;refine zc (atm_q (s:=bOn)) ?_;refine zWN ?_;refine zc ha ?_;refine zWN ?_;refine zc ha ?_;refine zWN ?_;refine Yc (Yb (cs:=Ynn 1 bOn) (fun ga=>?_));refine zWN ?_;refine zc ha ?_;refine zWN ?_;refine zc ha ?_;refine zWN ?_;refine Yc (Yb (cs:=Ynn 1 WN++Ynn 2 bOn) (fun ge=>?_));refine zWN ?_;refine Yc (Yb (cs:=lampK ga ge) (fun gs=>?_));refine zWN ?_;intros;refine Yam [2] [_,_,_,_,_,_,_] ?_;refine wc (atm_q (s:=WN)) ?_;refine PK.p Zz (fun fz'=>XE rfl) ?_;refine pT ?_;refine Ya ?_;refine PoS.hard0 (Wx (pre:=[_,_,_,_,_,_]) rfl ?_);refine Ya ?_;refine PoS.hard0 (Wx (pre:=[_,_,_,_,_]) rfl ?_);refine Po.done ?_;refine zW ?_;refine Ym9 T (i:=6) (j:=5) rfl Zz Zz Zz Zz Zz Zz Zz Zz Zz Zz (fun fz3 hle3 hf3=>⟨rfl,_,_,rfl,?_,?_⟩)
 ·have h1:=hf3 _ (.tail _ (.tail _ (.tail _ (.tail _ (.head _)))));have h2:=hf3 _ (.tail _ (.tail _ (.tail _ (.head _))));have h3:=hf3 _ (.tail _ (.tail _ (.head _)));have h4:=hf3 _ (.tail _ (.head _));have s1:Sl changeL fz3 (some ⟨ga,0,none⟩) 1 1 [addC 1 bOn]:=Xz (ys:=[(addC 1 bOn,Ynn 1 bOn)]) h2 rfl rfl (List.forall_mem_cons.2 ⟨Yqa (by unfold I64;omega) Zh,nilP⟩) rfl Zh;have s2:Sl changeL fz3 (some ⟨ge,0,none⟩) 2 2 [addC 1 WN,addC 2 bOn]:=Xz (ys:=[(addC 1 WN,Ynn 1 WN),(addC 2 bOn,Ynn 2 bOn)]) h3 rfl rfl (List.forall_mem_cons.2 ⟨Yqa (by unfold I64;omega) Zh,List.forall_mem_cons.2 ⟨Yqa (by unfold I64;omega) Zh,nilP⟩⟩) rfl Zh;have s3:Sl predicateL fz3 (some ⟨gp,0,none⟩) 3 3 [⟨bOn,[]⟩,⟨WN,[]⟩,⟨bKey,[]⟩]:=Xz (ys:=[(⟨bOn,[]⟩,[Zy bOn,Zn]),(⟨WN,[]⟩,[Zy WN,Zn]),(⟨bKey,[]⟩,[Zy bKey,Zn])]) h1 rfl rfl
   (List.forall_mem_cons.2 ⟨Ybo (x:=⟨bOn,[]⟩) ⟨by show bOn.size<=_;decide,IsSl.nil⟩,List.forall_mem_cons.2 ⟨Ybo (x:=⟨WN,[]⟩) ⟨by show WN.size<=_;decide,IsSl.nil⟩,List.forall_mem_cons.2 ⟨Ybo (x:=⟨bKey,[]⟩) ⟨by show bKey.size<=_;decide,IsSl.nil⟩,nilP⟩⟩⟩) rfl Zh
  have s4:Sl durativeL fz3 (some ⟨gs,0,none⟩) 1 1 [YdE]:=Xz (ys:=[(YdE,lampK ga ge)]) h4 (List.append_nil _).symm rfl
   (List.forall_mem_cons.2 ⟨Yhm (x:=YdE) ⟨by show YlH.size<=_;decide,IsSl.nil,by show I64 2;unfold I64;omega,Ycn,atm_R Zh,Ycn,s1.is,s2.is⟩,nilP⟩) rfl Zh
  exact ⟨by show bD.size<=_;decide,IsSl.nil,IsSl.nil,s3.is,IsSl.nil,IsSl.nil,s4.is⟩
 exact ⟨by show bP.size<=_;decide,by show bD.size<=_;decide,IsSl.nil,IsSl.nil,IsSl.nil,atm_R Zh⟩
theorem step_nm {p:Addr} {x:StepM} (h:At Ya4 fz p x):At strL fz (p.add 1) x.1:=h.part 1 fun cs hr=>by
 obtain ⟨va,rfl,hs,_⟩:=hr;exact ⟨_,rfl,rfl,hs⟩
theorem Yp5 (hM:MaxF fz):QFn prog 5 [] fz (Zo true):=by
 refine qF Tryz.func5 Tryz.ntmps5 (fun w0=>?_);refine wK (q:=lamp_f) (h:=fun v1 fz1 H1 hle1 hR1=>?_);obtain ⟨rfl,v3,v6,rfl,hD,hP⟩:=hR1;obtain ⟨A3,n3,b3,rfl,_⟩:=id hD.predicates;obtain ⟨A6,n6,b6,rfl,_⟩:=id hD.duratives;refine zW ?_;intros;rename_i gd gp;refine wK (q:=Yp6 (hM.mono hle1) hD hP Yj7 (fun _=>Ymr)) (h:=fun v4 fz4 H4 hle4 hR4=>?_);obtain ⟨rfl,S0,hS0,v,rfl,_,hz⟩:=hR4;have e0:=Yo6 hS0;subst e0;rw [lamp_E] at hz ⊢;obtain ⟨l,hl,hp,hs⟩:=hz rfl;have el:=lamp_l hp hs;subst el;obtain ⟨A,n,c,rfl,hsl⟩:=hl;have hn:=hsl.len;rw [show errV 0=.nilIface from rfl];refine wK (q:=Yln (hM.mono (hle1.trans hle4)) (hD.mono hle4) (hP.mono hle4) Yj7 (fun _=>Ymr)) (h:=fun v5 fz5 H5 hle5 hR5=>?_);obtain ⟨S1,hS1,v,rfl,_,hy⟩:=hR5;have e1:=Yo6 hS1;subst e1;rw [lamp_E] at hy ⊢;obtain ⟨m,hG⟩:=hy rfl;rw [lamp_i] at hG;obtain ⟨A5,c5,rfl,_,_⟩:=hG.form;have hm:=hG.len;simp at hm hn;subst hm;subst hn;refine Seq.freezeAll (H1:=[_,_]) (H2:=H5) Zq (fun fz6 hle6 hf6=>?_);obtain ⟨B5,d5,e5,hS5⟩:=hG.sl hle6 hf6 Zi;injection e5 with e51 e52 e53
 subst e51;subst e53;have hx:=hsl.mono (hle5.trans hle6);rw [show errV 0=.nilIface from rfl];refine vC ?_ ?_<;>intro c1;rotate_left 1
 ·exact absurd rfl c1
 refine vI hx rfl (fun p1 hp1=>?_);refine vH hp1.Atom_name (fun hs1=>?_);refine vC ?_ ?_<;>intro c2;rotate_left 1
 ·exact absurd rfl c2
 refine vC ?_ ?_<;>intro c3;rotate_left 1
 ·exact absurd rfl c3
 refine vI hS5 rfl (fun p2 hp2=>?_);refine vH (step_nm hp2) (fun hs2=>?_);refine vC ?_ ?_<;>intro c4;rotate_left 1
 ·exact absurd rfl c4
 exact vR (h:=rfl)
end Go.Proofs.YtdbfccanbbbjkaaGreatDoor
namespace Go.Lx
open Go.RowKit Go.ChangeShapes Go.WideShapes Go.Deep
theorem YoZ {α:Type} {p:Nat->α->Prop}:∀ {n:Nat},(∀ i,i<n->∃ d,p i d)->∃ ds:List α,ds.length=n/\∀ i d,ds[i]?=some d->p i d
 | 0,_=>⟨[],rfl,by simp⟩
 | n+1,h=>by
  obtain ⟨ds,h1,h2⟩:=YoZ (n:=n) (fun i hi=>h i Zi);obtain ⟨d,hd⟩:=h n Zi;refine ⟨ds++ [d],by simp [h1],fun i e he=>?_⟩;by_cases hi:i<ds.length
  ·rw [List.getElem?_append_left hi] at he;exact h2 i e he
  have hl:=(Zg he).1;simp at hl;have:i=n:=by omega
  subst this;rw [List.getElem?_append_right Zi,h1] at he;simp at he;subst he;exact hd
section
variable {H:Type} {enc:TypeId × Value->H} {P:Program} {w:World} {base:Nat} {spare:Nat->Bool} {held:Bool}
variable {α:Type} {fz:FZ} {v:Value} {L:Lay α}
theorem XM {xs:List α} (h:(slL L).rep fz xs [v]):IsSl L fz v xs:=by
 obtain ⟨A,n,c,e,hs⟩:=h;injection e with e
 exact ⟨A,n,c,e,hs⟩
variable {s:Bs}
theorem Ybl (h:strL.rep fz s [v]):v=.string s/\Short s:=by
 obtain ⟨e,hs⟩:=h;injection e with e
 exact ⟨e,hs⟩
theorem Ygx {n:Int} (h:intL.rep fz n [v]):v=Zk n/\I64 n:=by
 obtain ⟨e,hs⟩:=h;injection e with e
 exact ⟨e,hs⟩
end
end Go.Lx
set_option maxRecDepth 100000
namespace Go.Proofs.YtdbfccanbbbjkaaGreatDoor
open Go.Lx Go.RowKit Go.ChangeShapes Go.WideShapes Go.Deep
theorem YfM {H:Type} (d:DataW H):1<=Rows.uptoBulk d:=by
 cases d with
 | lit l=>cases l<;>simp [Rows.uptoBulk]
 | nil=>simp [Rows.uptoBulk]
 | ptr d=>simp [Rows.uptoBulk]
 | slice elems spare=>simp [Rows.uptoBulk]
 | agg parts=>simp [Rows.uptoBulk]
 | iface t d=>simp [Rows.uptoBulk]
 | map entries=>simp [Rows.uptoBulk]
 | held h=>simp [Rows.uptoBulk]
theorem Yg2 {H:Type} {d:DataW H}:∀ {l:List (DataW H)},d∈l->Rows.uptoBulk d<=Rows.uptoBulkAll l
 | [],h=>by cases h
 | x::r,h=>by
  simp only [Rows.uptoBulkAll];rcases List.mem_cons.1 h with rfl | h
  ·omega
  have:=Yg2 h;omega
theorem YmR {H:Type}:∀ (l:List (DataW H)),l.length<=Rows.uptoBulkAll l
 | []=>by simp [Rows.uptoBulkAll]
 | x::r=>by have:=YfM x;have:=YmR r;simp only [Rows.uptoBulkAll,List.length_cons];omega
theorem YmQ {H α:Type} {wt:α->Nat}:∀ {l:List (DataW H)} {ds:List α},ds.length=l.length->(∀ (i:Nat) (d:α) (x:DataW H),ds[i]?=some d->l[i]?=some x->wt d<=Rows.uptoBulk x)->(ds.map wt).sum<=Rows.uptoBulkAll l
 | [],ds,h,_=>by
  have:ds=[]:=List.eq_nil_of_length_eq_zero (by simpa using h);subst this;simp
 | x::r,ds,h,hh=>by
  cases ds with
  | nil=>simp at h
  | cons d ds=>
   have h1:=hh 0 d x rfl rfl;have h2:=YmQ (l:=r) (ds:=ds) (wt:=wt) (by simpa using h) (fun i e y he hy=>hh (i+1) e y (by simpa using he) (by simpa using hy));simp only [List.map_cons,List.sum_cons,Rows.uptoBulkAll];omega
section
variable {H:Type} {enc:TypeId × Value->H} {P:Program} {w:World} {base:Nat} {spare:Nat->Bool} {held:Bool}
def Wg (enc:TypeId × Value->H) (P:Program) (w:World) (base:Nat) (spare:Nat->Bool) (held:Bool) {α:Type} (L:Lay α) (wt:α->Nat) (t:TypeId) (fuel:Nat):Prop:=
 ∀ cs x,DataW.trod enc P w base spare held fuel t cs=some x->Rows.uptoBulk x.1<=1048576->∃ d,L.rep (fzOf w) d cs/\wt d<=Rows.uptoBulk x.1
variable {α:Type} {e t:TypeId} {fuel:Nat} {L:Lay α}
theorem Xs {wt:α->Nat} (ht:P.underlying t=some (.slice e)) (hc:P.cellsOf e=L.size) (he:∀ n,n<fuel->Wg enc P w base spare held L wt e n):Wg enc P w base spare held (slL L) (fun l=>(l.map wt).sum) t fuel:=fun cs x h hq=>by
 rcases DataW.trod_slice ht h with ⟨rfl,_⟩ | ⟨a,len,cap,elems,rest,n,hfu,rfl,rfl,_,hl,hm,hlen,hel,_,_⟩
 ·exact ⟨[],⟨none,0,0,rfl,Sl.nil⟩,by simp⟩
 have hbd:Rows.uptoBulkAll (elems.map (·.1))+1<=Rows.uptoBulk (.slice (elems.map (·.1)) (rest.map (·.1)):DataW H):=by simp only [Rows.uptoBulk];omega
 have hbl:=YmR (elems.map (·.1));rw [List.length_map] at hbl;obtain ⟨ds,h1,h2⟩:=YoZ (p:=fun i d=>At L (fzOf w) (a.add (i*L.size)) d/\∀ y,elems[i]?=some y->wt d<=Rows.uptoBulk y.1) (n:=len) (fun i hil=>by
  have hx:elems[i]?=some (elems[i]'Zi):=List.getElem?_eq_getElem _;have h3:=hel i hil;rw [hx] at h3;cases hcs:w.cells? base (a.add (i*P.cellsOf e)) (P.cellsOf e) with
  | none=>rw [hcs] at h3;cases h3
  | some cs'=>
   rw [hcs] at h3;have hpt:=Yg2 (d:=(elems[i]'Zi).1) (l:=elems.map (·.1)) (List.mem_map.2 ⟨_,Zm hx,rfl⟩);have hq':Rows.uptoBulk (.slice (elems.map (·.1)) (rest.map (·.1)):DataW H)<=1048576:=hq;obtain ⟨d,hd,hw⟩:=he n Zi _ _ h3 Zi;obtain ⟨_,hlen,hat⟩:=World.cells?_some hcs;refine ⟨d,⟨cs',hd,fun j u hu=>?_⟩,fun y hy=>by rw [hx] at hy;injection hy with hy;subst hy;exact hw⟩;have hj:j<cs'.length:=(Zg hu).1;rw [<- hc];exact YmP ((hat j Zi).trans hu))
 have hq':Rows.uptoBulk (.slice (elems.map (·.1)) (rest.map (·.1)):DataW H)<=1048576:=hq;refine ⟨ds,⟨some a,len,cap,rfl,h1,hl,by simpa [maxLen] using hm,by omega,.inr ⟨a,rfl,fun i d hd=>(h2 i d hd).1⟩⟩,?_⟩;have:=YmQ (wt:=wt) (ds:=ds) (l:=elems.map (·.1)) (by rw [List.length_map];omega) (fun i d x hd hx=>by
  rw [List.getElem?_map] at hx;cases hy:elems[i]? with
  | none=>rw [hy] at hx;cases hx
  | some y=>rw [hy] at hx;injection hx with hx;subst hx;exact (h2 i d hd).2 y hy)
 exact Nat.le_trans (Nat.le_trans this (Nat.le_succ _)) hbd
variable {cs:List Value} {i k n:Nat}
theorem Yo {wt:α->Nat} {fs:Array Field} {xs:List (DataW H × List MemPlace)} (hf:∀ (i:Nat) (f:Field),fs[i]?=some f->DataW.trod enc P w base spare held n f.type ((cs.drop f.offset).take (P.cellsOf f.type))=xs[i]?)
 (hq:Rows.uptoBulkAll (xs.map (·.1))<=1048576) {f:Field} {y:DataW H × List MemPlace} (hi:fs[i]?=some f) (hy:xs[i]?=some y) (he:Wg enc P w base spare held L wt f.type n) {cs':List Value} (hv:(cs.drop f.offset).take k=cs') (hc:P.cellsOf f.type=k:=by kernel_rfl):
 ∃ d,L.rep (fzOf w) d cs'/\wt d<=Rows.uptoBulk y.1:=by
 have h1:=hf i f hi;rw [hc,hy,hv] at h1;have:=Yg2 (d:=y.1) (l:=xs.map (·.1)) (List.mem_map.2 ⟨_,Zm hy,rfl⟩);exact he _ _ h1 Zi
end
section
variable {H:Type} {enc:TypeId × Value->H} {w:World} {base:Nat} {spare:Nat->Bool} {held:Bool}
variable {fuel:Nat}
theorem Yct:Wg enc prog w base spare held intL (fun _=>1) 3 fuel:=fun cs x h _=>by
 obtain ⟨n,h1,_,h2⟩:=DataW.trod_int Tryz.underlying3 h;exact ⟨n,⟨h1,by simp [Lit.wf,IntKind.min,IntKind.max,IntKind.signed,IntKind.bits] at h2;unfold I64;omega⟩,YfM _⟩
theorem Wq:Wg enc prog w base spare held strL strW 9 fuel:=fun cs x h _=>by
 obtain ⟨s,h1,_,h2⟩:=DataW.trod_string Tryz.underlying9 h;exact ⟨s,⟨h1,by simpa [maxLen] using h2⟩,YfM _⟩
theorem YdY:Wg enc prog w base spare held (slL strL) (fun l=>(l.map strW).sum) 31 fuel:=Xs Tryz.underlying31 Zj (fun _ _=>Wq)
theorem YjW:Wg enc prog w base spare held paramL parW 121 fuel:=fun cs x h hq0=>by
 obtain ⟨xs,n,hfu,rfl,hcl,hxl,hf⟩:=DataW.trod_struct Tryz.underlying121 h;have hc:prog.cellsOf 121=2:=by kernel_rfl
 rw [hc] at hcl;have hq:Rows.uptoBulkAll (xs.map (·.1))<=1048576:=by simp only [Rows.uptoBulk] at hq0;omega
 match cs,hcl,xs,hxl,hf,hq with
 | [v0,v1],_,[x0,x1],_,hf,hq=>
  obtain ⟨d0,r0,b0⟩:=(Yo hf hq (i:=0) (k:=1) (y:=x0) (cs':=[v0]) rfl rfl Wq rfl);obtain ⟨rfl,k0⟩:=Ybl r0;obtain ⟨d1,r1,b1⟩:=(Yo hf hq (i:=1) (k:=1) (y:=x1) (cs':=[v1]) rfl rfl Wq rfl);obtain ⟨rfl,k1⟩:=Ybl r1;refine ⟨⟨d0,d1⟩,⟨rfl,⟨k0,k1⟩⟩,?_⟩;simp only [List.map_cons,List.map_nil,Rows.uptoBulk,Rows.uptoBulkAll,parW];simp only [W5,W6] at*;omega
theorem XS:Wg enc prog w base spare held (slL paramL) (fun l=>(l.map parW).sum) 22 fuel:=Xs Tryz.underlying22 Zj (fun _ _=>YjW)
theorem Ygi:Wg enc prog w base spare held atomL YcJ 55 fuel:=fun cs x h hq0=>by
 obtain ⟨xs,n,hfu,rfl,hcl,hxl,hf⟩:=DataW.trod_struct Tryz.underlying55 h;have hc:prog.cellsOf 55=2:=by kernel_rfl
 rw [hc] at hcl;have hq:Rows.uptoBulkAll (xs.map (·.1))<=1048576:=by simp only [Rows.uptoBulk] at hq0;omega
 match cs,hcl,xs,hxl,hf,hq with
 | [v0,v1],_,[x0,x1],_,hf,hq=>
  obtain ⟨d0,r0,b0⟩:=(Yo hf hq (i:=0) (k:=1) (y:=x0) (cs':=[v0]) rfl rfl Wq rfl);obtain ⟨rfl,k0⟩:=Ybl r0;obtain ⟨d1,r1,b1⟩:=(Yo hf hq (i:=1) (k:=1) (y:=x1) (cs':=[v1]) rfl rfl YdY rfl);have k1:=XM r1;refine ⟨⟨d0,d1⟩,⟨_,rfl,⟨k0,k1⟩⟩,?_⟩;simp only [List.map_cons,List.map_nil,Rows.uptoBulk,Rows.uptoBulkAll,YcJ];simp only [W5,W6] at*;omega
theorem YjY:Wg enc prog w base spare held (slL atomL) (fun l=>(l.map YcJ).sum) 29 fuel:=Xs Tryz.underlying29 Zj (fun _ _=>Ygi)
theorem YjV:Wg enc prog w base spare held valueL YbZ 174 fuel:=fun cs x h hq0=>by
 obtain ⟨xs,n,hfu,rfl,hcl,hxl,hf⟩:=DataW.trod_struct Tryz.underlying174 h;have hc:prog.cellsOf 174=3:=by kernel_rfl
 rw [hc] at hcl;have hq:Rows.uptoBulkAll (xs.map (·.1))<=1048576:=by simp only [Rows.uptoBulk] at hq0;omega
 match cs,hcl,xs,hxl,hf,hq with
 | [v0,v1,v2],_,[x0,x1],_,hf,hq=>
  obtain ⟨d0,r0,b0⟩:=(Yo hf hq (i:=0) (k:=2) (y:=x0) (cs':=[v0,v1]) rfl rfl Ygi rfl);obtain ⟨y0_0,e0,k0⟩:=Xu r0;simp only [List.cons.injEq,and_true] at e0;obtain ⟨rfl,rfl⟩:=e0;obtain ⟨d1,r1,b1⟩:=(Yo hf hq (i:=1) (k:=1) (y:=x1) (cs':=[v2]) rfl rfl Yct rfl);obtain ⟨rfl,k1⟩:=Ygx r1;refine ⟨⟨d0,d1⟩,⟨_,rfl,⟨k0,k1⟩⟩,?_⟩;simp only [List.map_cons,List.map_nil,Rows.uptoBulk,Rows.uptoBulkAll,YbZ];simp only [W5,W6] at*;omega
theorem Yit:Wg enc prog w base spare held (slL valueL) (fun l=>(l.map YbZ).sum) 30 fuel:=Xs Tryz.underlying30 Zj (fun _ _=>YjV)
theorem Ygg:∀ fuel:Nat,Wg enc prog w base spare held exprL eW 93 fuel:=fun fuel=>by
 induction fuel using Nat.strongRecOn with
 | _ fuel ih=>
  intro cs x h hq0;obtain ⟨xs,n,hfu,rfl,hcl,hxl,hf⟩:=DataW.trod_struct Tryz.underlying93 h;have hc:prog.cellsOf 93=5:=by kernel_rfl
  rw [hc] at hcl;have hq:Rows.uptoBulkAll (xs.map (·.1))<=1048576:=by simp only [Rows.uptoBulk] at hq0;omega
  match cs,hcl,xs,hxl,hf,hq with
  | [v0,v1,v2,v3,v4],_,[x0,x1,x2,x3,x4],_,hf,hq=>
   obtain ⟨d0,r0,b0⟩:=(Yo hf hq (i:=0) (k:=1) (y:=x0) (cs':=[v0]) rfl rfl Wq rfl);obtain ⟨rfl,k0⟩:=Ybl r0;obtain ⟨d1,r1,b1⟩:=(Yo hf hq (i:=1) (k:=1) (y:=x1) (cs':=[v1]) rfl rfl Wq rfl);obtain ⟨rfl,k1⟩:=Ybl r1;obtain ⟨d2,r2,b2⟩:=(Yo hf hq (i:=2) (k:=1) (y:=x2) (cs':=[v2]) rfl rfl Yct rfl);obtain ⟨rfl,k2⟩:=Ygx r2;obtain ⟨d3,r3,b3⟩:=(Yo hf hq (i:=3) (k:=1) (y:=x3) (cs':=[v3]) rfl rfl YdY rfl);have k3:=XM r3;obtain ⟨d4,r4,b4⟩:=(Yo hf hq (i:=4) (k:=1) (y:=x4) (cs':=[v4]) rfl rfl (Xs (L:=exprL) Tryz.underlying32 Zj (fun m hm=>ih m Zi)) rfl);have k4:=XM r4;refine ⟨.mk d0 d1 d2 d3 d4,WJ (x:=.mk d0 d1 d2 d3 d4) ⟨k0,k1,k2,k3,k4⟩,?_⟩;simp only [List.map_cons,List.map_nil,Rows.uptoBulk,Rows.uptoBulkAll,Ynx,Expr.args,Expr.kids];simp only [W5,W6] at*;omega
theorem YjX:Wg enc prog w base spare held (slL exprL) (fun l=>(l.map eW).sum) 32 fuel:=Xs Tryz.underlying32 Zj (fun _ _=>Ygg _)
theorem WI:∀ fuel:Nat,Wg enc prog w base spare held formulaL fW 35 fuel:=fun fuel=>by
 induction fuel using Nat.strongRecOn with
 | _ fuel ih=>
  intro cs x h hq0;obtain ⟨xs,n,hfu,rfl,hcl,hxl,hf⟩:=DataW.trod_struct Tryz.underlying35 h;have hc:prog.cellsOf 35=6:=by kernel_rfl
  rw [hc] at hcl;have hq:Rows.uptoBulkAll (xs.map (·.1))<=1048576:=by simp only [Rows.uptoBulk] at hq0;omega
  match cs,hcl,xs,hxl,hf,hq with
  | [v0,v1,v2,v3,v4,v5],_,[x0,x1,x2,x3,x4,x5],_,hf,hq=>
   obtain ⟨d0,r0,b0⟩:=(Yo hf hq (i:=0) (k:=1) (y:=x0) (cs':=[v0]) rfl rfl Wq rfl);obtain ⟨rfl,k0⟩:=Ybl r0;obtain ⟨d1,r1,b1⟩:=(Yo hf hq (i:=1) (k:=1) (y:=x1) (cs':=[v1]) rfl rfl Wq rfl);obtain ⟨rfl,k1⟩:=Ybl r1;obtain ⟨d2,r2,b2⟩:=(Yo hf hq (i:=2) (k:=1) (y:=x2) (cs':=[v2]) rfl rfl YdY rfl);have k2:=XM r2;obtain ⟨d3,r3,b3⟩:=(Yo hf hq (i:=3) (k:=1) (y:=x3) (cs':=[v3]) rfl rfl XS rfl);have k3:=XM r3;obtain ⟨d4,r4,b4⟩:=(Yo hf hq (i:=4) (k:=1) (y:=x4) (cs':=[v4]) rfl rfl YjX rfl);have k4:=XM r4;obtain ⟨d5,r5,b5⟩:=(Yo hf hq (i:=5) (k:=1) (y:=x5) (cs':=[v5]) rfl rfl (Xs (L:=formulaL) Tryz.underlying33 Zj (fun m hm=>ih m Zi)) rfl);have k5:=XM r5;refine ⟨.mk d0 d1 d2 d3 d4 d5,YR (x:=.mk d0 d1 d2 d3 d4 d5) ⟨k0,k1,k2,k3,k4,k5⟩,?_⟩;simp only [List.map_cons,List.map_nil,Rows.uptoBulk,Rows.uptoBulkAll,Ybu,Formula.args,Formula.params,Formula.exprs,Formula.kids];simp only [W5,W6] at*;omega
theorem Yiv:Wg enc prog w base spare held changeL Y2 95 fuel:=fun cs x h hq0=>by
 obtain ⟨xs,n,hfu,rfl,hcl,hxl,hf⟩:=DataW.trod_struct Tryz.underlying95 h;have hc:prog.cellsOf 95=15:=by kernel_rfl
 rw [hc] at hcl;have hq:Rows.uptoBulkAll (xs.map (·.1))<=1048576:=by simp only [Rows.uptoBulk] at hq0;omega
 match cs,hcl,xs,hxl,hf,hq with
 | [v0,v1,v2,v3,v4,v5,v6,v7,v8,v9,v10,v11,v12,v13,v14],_,[x0,x1,x2,x3,x4,x5],_,hf,hq=>
  obtain ⟨d0,r0,b0⟩:=(Yo hf hq (i:=0) (k:=1) (y:=x0) (cs':=[v0]) rfl rfl Yct rfl);obtain ⟨rfl,k0⟩:=Ygx r0;obtain ⟨d1,r1,b1⟩:=(Yo hf hq (i:=1) (k:=1) (y:=x1) (cs':=[v1]) rfl rfl XS rfl);have k1:=XM r1;obtain ⟨d2,r2,b2⟩:=(Yo hf hq (i:=2) (k:=6) (y:=x2) (cs':=[v2,v3,v4,v5,v6,v7]) rfl rfl (WI _) rfl);obtain ⟨y2_0,y2_1,y2_2,y2_3,e2,k2⟩:=Yx r2;simp only [List.cons.injEq,and_true] at e2;obtain ⟨rfl,rfl,rfl,rfl,rfl,rfl⟩:=e2;obtain ⟨d3,r3,b3⟩:=(Yo hf hq (i:=3) (k:=1) (y:=x3) (cs':=[v8]) rfl rfl Wq rfl);obtain ⟨rfl,k3⟩:=Ybl r3;obtain ⟨d4,r4,b4⟩:=(Yo hf hq (i:=4) (k:=1) (y:=x4) (cs':=[v9]) rfl rfl YdY rfl);have k4:=XM r4;obtain ⟨d5,r5,b5⟩:=(Yo hf hq (i:=5) (k:=5) (y:=x5) (cs':=[v10,v11,v12,v13,v14]) rfl rfl (Ygg _) rfl);obtain ⟨y5_0,y5_1,e5,k5⟩:=YE r5;simp only [List.cons.injEq,and_true] at e5;obtain ⟨rfl,rfl,rfl,rfl,rfl⟩:=e5;refine ⟨⟨d0,d1,d2,d3,d4,d5⟩,⟨_,_,_,_,_,_,_,_,rfl,⟨k0,k1,k2,k3,k4,k5⟩⟩,?_⟩;simp only [List.map_cons,List.map_nil,Rows.uptoBulk,Rows.uptoBulkAll,Y2];simp only [W5,W6] at*;omega
theorem YbU:Wg enc prog w base spare held (slL changeL) (fun l=>(l.map Y2).sum) 75 fuel:=Xs Tryz.underlying75 Zj (fun _ _=>Yiv)
theorem Yfr:Wg enc prog w base spare held predicateL YjR 97 fuel:=fun cs x h hq0=>by
 obtain ⟨xs,n,hfu,rfl,hcl,hxl,hf⟩:=DataW.trod_struct Tryz.underlying97 h;have hc:prog.cellsOf 97=2:=by kernel_rfl
 rw [hc] at hcl;have hq:Rows.uptoBulkAll (xs.map (·.1))<=1048576:=by simp only [Rows.uptoBulk] at hq0;omega
 match cs,hcl,xs,hxl,hf,hq with
 | [v0,v1],_,[x0,x1],_,hf,hq=>
  obtain ⟨d0,r0,b0⟩:=(Yo hf hq (i:=0) (k:=1) (y:=x0) (cs':=[v0]) rfl rfl Wq rfl);obtain ⟨rfl,k0⟩:=Ybl r0;obtain ⟨d1,r1,b1⟩:=(Yo hf hq (i:=1) (k:=1) (y:=x1) (cs':=[v1]) rfl rfl XS rfl);have k1:=XM r1;refine ⟨⟨d0,d1⟩,⟨_,rfl,⟨k0,k1⟩⟩,?_⟩;simp only [List.map_cons,List.map_nil,Rows.uptoBulk,Rows.uptoBulkAll,YjR];simp only [W5,W6] at*;omega
theorem YeN:Wg enc prog w base spare held (slL predicateL) (fun l=>(l.map YjR).sum) 23 fuel:=Xs Tryz.underlying23 Zj (fun _ _=>Yfr)
theorem Ygf:Wg enc prog w base spare held functionL funW 202 fuel:=fun cs x h hq0=>by
 obtain ⟨xs,n,hfu,rfl,hcl,hxl,hf⟩:=DataW.trod_struct Tryz.underlying202 h;have hc:prog.cellsOf 202=4:=by kernel_rfl
 rw [hc] at hcl;have hq:Rows.uptoBulkAll (xs.map (·.1))<=1048576:=by simp only [Rows.uptoBulk] at hq0;omega
 match cs,hcl,xs,hxl,hf,hq with
 | [v0,v1,v2,v3],_,[x0,x1,x2,x3],_,hf,hq=>
  obtain ⟨d0,r0,b0⟩:=(Yo hf hq (i:=0) (k:=1) (y:=x0) (cs':=[v0]) rfl rfl Wq rfl);obtain ⟨rfl,k0⟩:=Ybl r0;obtain ⟨d1,r1,b1⟩:=(Yo hf hq (i:=1) (k:=1) (y:=x1) (cs':=[v1]) rfl rfl XS rfl);have k1:=XM r1;obtain ⟨d2,r2,b2⟩:=(Yo hf hq (i:=2) (k:=1) (y:=x2) (cs':=[v2]) rfl rfl Yct rfl);obtain ⟨rfl,k2⟩:=Ygx r2;obtain ⟨d3,r3,b3⟩:=(Yo hf hq (i:=3) (k:=1) (y:=x3) (cs':=[v3]) rfl rfl Yct rfl);obtain ⟨rfl,k3⟩:=Ygx r3;refine ⟨⟨d0,d1,d2,d3⟩,⟨_,rfl,⟨k0,k1,k2,k3⟩⟩,?_⟩;simp only [List.map_cons,List.map_nil,Rows.uptoBulk,Rows.uptoBulkAll,funW];simp only [W5,W6] at*;omega
theorem Yfs:Wg enc prog w base spare held (slL functionL) (fun l=>(l.map funW).sum) 24 fuel:=Xs Tryz.underlying24 Zj (fun _ _=>Ygf)
theorem Yiw:Wg enc prog w base spare held actionL actW 91 fuel:=fun cs x h hq0=>by
 obtain ⟨xs,n,hfu,rfl,hcl,hxl,hf⟩:=DataW.trod_struct Tryz.underlying91 h;have hc:prog.cellsOf 91=10:=by kernel_rfl
 rw [hc] at hcl;have hq:Rows.uptoBulkAll (xs.map (·.1))<=1048576:=by simp only [Rows.uptoBulk] at hq0;omega
 match cs,hcl,xs,hxl,hf,hq with
 | [v0,v1,v2,v3,v4,v5,v6,v7,v8,v9],_,[x0,x1,x2,x3,x4],_,hf,hq=>
  obtain ⟨d0,r0,b0⟩:=(Yo hf hq (i:=0) (k:=1) (y:=x0) (cs':=[v0]) rfl rfl Wq rfl);obtain ⟨rfl,k0⟩:=Ybl r0;obtain ⟨d1,r1,b1⟩:=(Yo hf hq (i:=1) (k:=1) (y:=x1) (cs':=[v1]) rfl rfl XS rfl);have k1:=XM r1;obtain ⟨d2,r2,b2⟩:=(Yo hf hq (i:=2) (k:=1) (y:=x2) (cs':=[v2]) rfl rfl Yct rfl);obtain ⟨rfl,k2⟩:=Ygx r2;obtain ⟨d3,r3,b3⟩:=(Yo hf hq (i:=3) (k:=6) (y:=x3) (cs':=[v3,v4,v5,v6,v7,v8]) rfl rfl (WI _) rfl);obtain ⟨y3_0,y3_1,y3_2,y3_3,e3,k3⟩:=Yx r3;simp only [List.cons.injEq,and_true] at e3;obtain ⟨rfl,rfl,rfl,rfl,rfl,rfl⟩:=e3;obtain ⟨d4,r4,b4⟩:=(Yo hf hq (i:=4) (k:=1) (y:=x4) (cs':=[v9]) rfl rfl YbU rfl);have k4:=XM r4;refine ⟨⟨d0,d1,d2,d3,d4⟩,⟨_,_,_,_,_,_,rfl,⟨k0,k1,k2,k3,k4⟩⟩,?_⟩;simp only [List.map_cons,List.map_nil,Rows.uptoBulk,Rows.uptoBulkAll,actW];simp only [W5,W6] at*;omega
theorem Yhc:Wg enc prog w base spare held (slL actionL) (fun l=>(l.map actW).sum) 25 fuel:=Xs Tryz.underlying25 Zj (fun _ _=>Yiw)
theorem Ygh:Wg enc prog w base spare held durativeL durW 101 fuel:=fun cs x h hq0=>by
 obtain ⟨xs,n,hfu,rfl,hcl,hxl,hf⟩:=DataW.trod_struct Tryz.underlying101 h;have hc:prog.cellsOf 101=23:=by kernel_rfl
 rw [hc] at hcl;have hq:Rows.uptoBulkAll (xs.map (·.1))<=1048576:=by simp only [Rows.uptoBulk] at hq0;omega
 match cs,hcl,xs,hxl,hf,hq with
 | [v0,v1,v2,v3,v4,v5,v6,v7,v8,v9,v10,v11,v12,v13,v14,v15,v16,v17,v18,v19,v20,v21,v22],_,[x0,x1,x2,x3,x4,x5,x6,x7],_,hf,hq=>
  obtain ⟨d0,r0,b0⟩:=(Yo hf hq (i:=0) (k:=1) (y:=x0) (cs':=[v0]) rfl rfl Wq rfl);obtain ⟨rfl,k0⟩:=Ybl r0;obtain ⟨d1,r1,b1⟩:=(Yo hf hq (i:=1) (k:=1) (y:=x1) (cs':=[v1]) rfl rfl XS rfl);have k1:=XM r1;obtain ⟨d2,r2,b2⟩:=(Yo hf hq (i:=2) (k:=1) (y:=x2) (cs':=[v2]) rfl rfl Yct rfl);obtain ⟨rfl,k2⟩:=Ygx r2;obtain ⟨d3,r3,b3⟩:=(Yo hf hq (i:=3) (k:=6) (y:=x3) (cs':=[v3,v4,v5,v6,v7,v8]) rfl rfl (WI _) rfl);obtain ⟨y3_0,y3_1,y3_2,y3_3,e3,k3⟩:=Yx r3;simp only [List.cons.injEq,and_true] at e3;obtain ⟨rfl,rfl,rfl,rfl,rfl,rfl⟩:=e3;obtain ⟨d4,r4,b4⟩:=(Yo hf hq (i:=4) (k:=6) (y:=x4) (cs':=[v9,v10,v11,v12,v13,v14]) rfl rfl (WI _) rfl);obtain ⟨y4_0,y4_1,y4_2,y4_3,e4,k4⟩:=Yx r4;simp only [List.cons.injEq,and_true] at e4;obtain ⟨rfl,rfl,rfl,rfl,rfl,rfl⟩:=e4;obtain ⟨d5,r5,b5⟩:=(Yo hf hq (i:=5) (k:=6) (y:=x5) (cs':=[v15,v16,v17,v18,v19,v20]) rfl rfl (WI _) rfl);obtain ⟨y5_0,y5_1,y5_2,y5_3,e5,k5⟩:=Yx r5;simp only [List.cons.injEq,and_true] at e5;obtain ⟨rfl,rfl,rfl,rfl,rfl,rfl⟩:=e5;obtain ⟨d6,r6,b6⟩:=(Yo hf hq (i:=6) (k:=1) (y:=x6) (cs':=[v21]) rfl rfl YbU rfl);have k6:=XM r6;obtain ⟨d7,r7,b7⟩:=(Yo hf hq (i:=7) (k:=1) (y:=x7) (cs':=[v22]) rfl rfl YbU rfl);have k7:=XM r7;refine ⟨⟨d0,d1,d2,d3,d4,d5,d6,d7⟩,⟨_,_,_,_,_,_,_,_,_,_,_,_,_,_,_,rfl,⟨k0,k1,k2,k3,k4,k5,k6,k7⟩⟩,?_⟩;simp only [List.map_cons,List.map_nil,Rows.uptoBulk,Rows.uptoBulkAll,durW];simp only [W5,W6] at*;omega
theorem Yft:Wg enc prog w base spare held (slL durativeL) (fun l=>(l.map durW).sum) 26 fuel:=Xs Tryz.underlying26 Zj (fun _ _=>Ygh)
theorem Yiu:Wg enc prog w base spare held domainL domW 28 fuel:=fun cs x h hq0=>by
 obtain ⟨xs,n,hfu,rfl,hcl,hxl,hf⟩:=DataW.trod_struct Tryz.underlying28 h;have hc:prog.cellsOf 28=7:=by kernel_rfl
 rw [hc] at hcl;have hq:Rows.uptoBulkAll (xs.map (·.1))<=1048576:=by simp only [Rows.uptoBulk] at hq0;omega
 match cs,hcl,xs,hxl,hf,hq with
 | [v0,v1,v2,v3,v4,v5,v6],_,[x0,x1,x2,x3,x4,x5,x6],_,hf,hq=>
  obtain ⟨d0,r0,b0⟩:=(Yo hf hq (i:=0) (k:=1) (y:=x0) (cs':=[v0]) rfl rfl Wq rfl);obtain ⟨rfl,k0⟩:=Ybl r0;obtain ⟨d1,r1,b1⟩:=(Yo hf hq (i:=1) (k:=1) (y:=x1) (cs':=[v1]) rfl rfl XS rfl);have k1:=XM r1;obtain ⟨d2,r2,b2⟩:=(Yo hf hq (i:=2) (k:=1) (y:=x2) (cs':=[v2]) rfl rfl XS rfl);have k2:=XM r2;obtain ⟨d3,r3,b3⟩:=(Yo hf hq (i:=3) (k:=1) (y:=x3) (cs':=[v3]) rfl rfl YeN rfl);have k3:=XM r3;obtain ⟨d4,r4,b4⟩:=(Yo hf hq (i:=4) (k:=1) (y:=x4) (cs':=[v4]) rfl rfl Yfs rfl);have k4:=XM r4;obtain ⟨d5,r5,b5⟩:=(Yo hf hq (i:=5) (k:=1) (y:=x5) (cs':=[v5]) rfl rfl Yhc rfl);have k5:=XM r5;obtain ⟨d6,r6,b6⟩:=(Yo hf hq (i:=6) (k:=1) (y:=x6) (cs':=[v6]) rfl rfl Yft rfl);have k6:=XM r6;refine ⟨⟨d0,d1,d2,d3,d4,d5,d6⟩,⟨_,_,_,_,_,_,rfl,⟨k0,k1,k2,k3,k4,k5,k6⟩⟩,?_⟩;simp only [List.map_cons,List.map_nil,Rows.uptoBulk,Rows.uptoBulkAll,domW];simp only [W5,W6] at*;omega
theorem Yhb:Wg enc prog w base spare held problemL prbW 37 fuel:=fun cs x h hq0=>by
 obtain ⟨xs,n,hfu,rfl,hcl,hxl,hf⟩:=DataW.trod_struct Tryz.underlying37 h;have hc:prog.cellsOf 37=11:=by kernel_rfl
 rw [hc] at hcl;have hq:Rows.uptoBulkAll (xs.map (·.1))<=1048576:=by simp only [Rows.uptoBulk] at hq0;omega
 match cs,hcl,xs,hxl,hf,hq with
 | [v0,v1,v2,v3,v4,v5,v6,v7,v8,v9,v10],_,[x0,x1,x2,x3,x4,x5],_,hf,hq=>
  obtain ⟨d0,r0,b0⟩:=(Yo hf hq (i:=0) (k:=1) (y:=x0) (cs':=[v0]) rfl rfl Wq rfl);obtain ⟨rfl,k0⟩:=Ybl r0;obtain ⟨d1,r1,b1⟩:=(Yo hf hq (i:=1) (k:=1) (y:=x1) (cs':=[v1]) rfl rfl Wq rfl);obtain ⟨rfl,k1⟩:=Ybl r1;obtain ⟨d2,r2,b2⟩:=(Yo hf hq (i:=2) (k:=1) (y:=x2) (cs':=[v2]) rfl rfl XS rfl);have k2:=XM r2;obtain ⟨d3,r3,b3⟩:=(Yo hf hq (i:=3) (k:=1) (y:=x3) (cs':=[v3]) rfl rfl YjY rfl);have k3:=XM r3;obtain ⟨d4,r4,b4⟩:=(Yo hf hq (i:=4) (k:=1) (y:=x4) (cs':=[v4]) rfl rfl Yit rfl);have k4:=XM r4;obtain ⟨d5,r5,b5⟩:=(Yo hf hq (i:=5) (k:=6) (y:=x5) (cs':=[v5,v6,v7,v8,v9,v10]) rfl rfl (WI _) rfl);obtain ⟨y5_0,y5_1,y5_2,y5_3,e5,k5⟩:=Yx r5;simp only [List.cons.injEq,and_true] at e5;obtain ⟨rfl,rfl,rfl,rfl,rfl,rfl⟩:=e5;refine ⟨⟨d0,d1,d2,d3,d4,d5⟩,⟨_,_,_,_,_,_,_,rfl,⟨k0,k1,k2,k3,k4,k5⟩⟩,?_⟩;simp only [List.map_cons,List.map_nil,Rows.uptoBulk,Rows.uptoBulkAll,prbW];simp only [W5,W6] at*;omega
variable {α:Type} {t:TypeId} {v:Value} {L:Lay α}
theorem Yfg {wt:α->Nat} {fs:Array Field} {r:Reach} {b0:Nat} {d:DataW H} {p:List MemPlace} (hu:prog.underlying t=some (.struct fs)) (ho:∀ fuel,Wg enc prog w base spare held L wt t fuel) (hv:Value.okWide prog w r b0 t v) (h:DataW.Trod enc prog w base spare held t v d p) (hq:Rows.uptoBulk d<=1048576):
 ∃ x cs,v=.agg (List.toArray cs)/\L.rep (fzOf w) x cs/\wt x<=1048576:=by
 obtain ⟨cs,rfl,hsz⟩:=okWide_struct hu hv;obtain ⟨l⟩:=cs;obtain ⟨fuel,hf⟩:=h;obtain ⟨x,hx,hw⟩:=ho fuel _ _ hf hq;exact ⟨x,l,rfl,hx,Nat.le_trans hw hq⟩
end
end Go.Proofs.YtdbfccanbbbjkaaGreatDoor
namespace Go.Proofs.YtdbfccanbbbjkaaGreatDoor
open Go.ChangeShapes Go.WideShapes Go.ChangeAt Go.RowKit Go.Lx
variable {fuel:Nat} {t:TypeId} {w:World}
theorem YoK {H:Type} {enc:TypeId × Value->H} {P:Program} {base:Nat} {spare:Nat->Bool} {held:Bool} (ht:P.underlying t=some (.int .u8)):Wg enc P w base spare held u8L (fun _=>1) t fuel:=fun cs x h _=>by
 obtain ⟨n,h1,_,h2⟩:=DataW.trod_int ht h;have h3:0<=n/\n<=255:=by
  simp [Lit.wf,IntKind.min,IntKind.max,IntKind.signed,IntKind.bits] at h2;omega
 exact ⟨n.toNat,⟨by rw [h1,Int.toNat_of_nonneg h3.1],by omega⟩,YfM _⟩
theorem Yge:ownKnob Tryz.prog.godebug=none:=by kernel_rfl
theorem Ybq:laidOutB Tryz.prog=true:=by kernel_rfl
theorem Ynj {W:World} (h:W.ShapedOpen Tryz.prog):MaxF (fzOf W):=by
 obtain ⟨m,hm⟩:=cell_of_shapedOpen_int (P:=Tryz.prog) (g:=0) (t:=3) (zero:=#[.int .i64 0]) h (of_decide_eq_true Zj) Zj rfl Zj Zj Tryz.underlying3;exact ⟨m,YmP hm⟩
theorem YjH (os:Os) {H:Type} (enc:TypeId × Value->H):∃ places,DataW.whole enc Tryz.prog ((World.laidAll Tryz.prog os Rows.reachSoundUptoRow.laid).forCall (fun _ _=>0) ⟨#[],#[.agg #[.string ⟨#[]⟩,.slice none 0 0,.slice none 0 0,.slice none 0 0,.slice none 0 0,.slice none 0 0,.slice none 0 0],.agg #[.string ⟨#[]⟩,.string ⟨#[]⟩,.slice none 0 0,.slice none 0 0,.slice none 0 0,.string ⟨#[]⟩,.string ⟨#[]⟩,.slice none 0 0,.slice none 0 0,.slice none 0 0,.slice none 0 0],.slice none 0 0],[]⟩).memory Tryz.f3.params.toList (Rows.OpenSpec.upto Rows.reachSoundSpec).vars false (#[.agg #[.string ⟨#[]⟩,.slice none 0 0,.slice none 0 0,.slice none 0 0,.slice none 0 0,.slice none 0 0,.slice none 0 0],.agg #[.string ⟨#[]⟩,.string ⟨#[]⟩,.slice none 0 0,.slice none 0 0,.slice none 0 0,.string ⟨#[]⟩,.string ⟨#[]⟩,.slice none 0 0,.slice none 0 0,.slice none 0 0,.slice none 0 0],.slice none 0 0]:Array Value).toList 8=some ([.agg [.lit (.string []),.nil,.nil,.nil,.nil,.nil,.nil],.agg [.lit (.string []),.lit (.string []),.nil,.nil,.nil,.agg [.lit (.string []),.lit (.string []),.nil,.nil,.nil,.nil]],.nil],[],places):=⟨[],by kernel_rfl⟩
set_option maxRecDepth 100000 in
theorem Yim (os:Os) (started:os.Started) (H:Type) (enc:TypeId × Value->H) (F:Stop.Interp):
 ReturnsInHanded {} Tryz.checked os 3 .any ((Rows.OpenSpec.upto Rows.reachSoundSpec).preRow enc Tryz.prog Tryz.f3 Rows.reachSoundUptoRow.domain false Rows.reachSoundUptoRow.laid) (((Rows.OpenSpec.upto Rows.reachSoundSpec).at F).post enc Tryz.prog Tryz.f3 false true false false):=by
 obtain ⟨places,hx⟩:=YjH os enc;refine returnsInHanded_of_row (C:=Tryz.checked) (s:=Rows.OpenSpec.upto Rows.reachSoundSpec) Yge started Zj Tryz.func3
  ⟨World.laidAll Tryz.prog os Rows.reachSoundUptoRow.laid,fun _ _=>0,⟨#[],#[.agg #[.string ⟨#[]⟩,.slice none 0 0,.slice none 0 0,.slice none 0 0,.slice none 0 0,.slice none 0 0,.slice none 0 0],.agg #[.string ⟨#[]⟩,.string ⟨#[]⟩,.slice none 0 0,.slice none 0 0,.slice none 0 0,.string ⟨#[]⟩,.string ⟨#[]⟩,.slice none 0 0,.slice none 0 0,.slice none 0 0,.slice none 0 0],.slice none 0 0],[]⟩,World.laidAll_os _ _ _,World.shaped_of_ZipB Zj Zj,rfl,(Input.okWide_of_okWideB Zj).2,
   OpenSpec.preRow_of_cond 8 hx Zj (fun k hk=>by cases hk;kernel_rfl) Zj (by rw [MakeChecks.laidMetH_plain _ _ _ Zj];exact laidMet_laidAll _ Zj Zj),
   by simp only [Assume.holds];exact ⟨by simp,by simp,fun _=>Modest.zero,by simp,by simp⟩⟩ ?_
 intro W base args ds gs before hval0 hW _ hcond _ _ hsh _;have hval:∀ (j:Nat) t v,Tryz.f3.params[j]?=some t->args[j]?=some v->Value.okWide Tryz.prog W .any base t v:=hval0;have hbk:Rows.uptoSmall H (ds++gs)=true:=hcond _ rfl;have hW':DataW.Whole enc Tryz.prog Tryz.f3.params.toList Rows.reachSoundSpec.vars false W args.toList ds gs before:=hW;obtain ⟨p,q,hA0,hV,rfl,_,_⟩:=hW;have hA:DataW.TrodAll enc Tryz.prog W 0 (fun _=>true) true Tryz.f3.params.toList args.toList ds p:=hA0;rw [Tryz.params3] at hA hval;obtain ⟨v0,v1,v2,d0,d1,d2,p0,p1,p2,rfl,rfl,rfl,h0,h1,h2⟩:=trodAll_three hA;obtain ⟨rfl,rfl⟩:=trodVars_none hV;clear hA0 hval0;simp only [List.append_nil] at hW';have hlt:∀ x∈p0++p1++p2,x.block<W.heap.size:=fun x hx=>hW'.lt x hx
 have hq:Rows.uptoBulk d0<=1048576/\Rows.uptoBulk d1<=1048576/\Rows.uptoBulk d2<=1048576:=by
  have h9:=of_decide_eq_true hbk;simp only [List.append_nil,Rows.uptoBulkAll] at h9;omega
 obtain ⟨x,cs,rfl,⟨u1,u2,u3,u4,u5,u6,rfl,hg⟩,hw⟩:=Yfg Tryz.underlying28 (fun _=>Yiu) (hval 0 28 v0 rfl rfl) h0 hq.1;obtain ⟨y,cs,rfl,⟨z1,z2,z3,z4,z5,z6,z7,rfl,hp⟩,hw2⟩:=Yfg Tryz.underlying37 (fun _=>Yhb) (hval 1 37 v1 rfl rfl) h1 hq.2.1;obtain ⟨B,m,cc,rfl⟩:=okWide_slice Tryz.underlying38 (hval 2 38 v2 rfl rfl);obtain ⟨fuel,hf⟩:=id h2;obtain ⟨picks,⟨B',m',cc',e1,h3⟩,_⟩:=Xs (L:=u8L) Tryz.underlying38 Zj (fun _ _=>YoK Tryz.underlying5) _ _ hf hq.2.2;have e2:=List.head_eq_of_cons_eq e1;rw [e2] at h2 hW' ⊢;refine ((lsound_q (Ynj hsh) hg hp Zi Zi h3 (fun _ h=>Yp5 h)).calls (hp_of W)).mono fun e W' ⟨he1,hfr⟩=>?_
 have hb:=below_of hfr;have k0:=Below.trod Ybq Zj (of_decide_eq_true Zj) h0 hb (fun x hx=>hlt x (by simp [hx]));have k1:=Below.trod Ybq Zj (of_decide_eq_true Zj) h1 hb (fun x hx=>hlt x (by simp [hx]));have k2:=Below.trod Ybq Zj (of_decide_eq_true Zj) h2 hb (fun x hx=>hlt x (by simp [hx]));show ∃ v,e=.returned v/\Rows.reachSoundSpec.post enc Tryz.prog Tryz.f3 false true false false W _ v W';exact ⟨_,he1,[d0,d1,d2],[],_,[],_,[],hW',trodAll_mk1 (shut_bool Tryz.underlying4 true),trodAll_mk3 k0 k1 k2,rfl,hb.frame _,fun h=>by cases h⟩
end Go.Proofs.YtdbfccanbbbjkaaGreatDoor
