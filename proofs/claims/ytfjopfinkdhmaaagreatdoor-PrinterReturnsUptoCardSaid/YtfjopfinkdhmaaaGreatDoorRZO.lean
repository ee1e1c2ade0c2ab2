/- The texts PSize, RA, RB, RC, RD, RE, RF, Mk, RG, laid together. Conditions: none. -/
import Derived.Test.YtfjopfinkdhmaaaGreatDoorRZN
set_option linter.all false
noncomputable section
set_option maxRecDepth 20000
namespace Go.Proofs.YtfjopfinkdhmaaaGreatDoor
open Go.Lx Go.RowKit
attribute [local instance 10] Classical.propDecidable
open Go.Proofs.Tryz (prog)
theorem Yg1 {α:Type} {w:α->Nat} {l:List α} {k:Nat}:((l.take k).map w).sum<=(l.map w).sum:=by
 conv=>rhs;rw [<- List.take_append_drop k l]
 rw [List.map_append,List.sum_append];omega
theorem Yg2 {α:Type} {w:α->Nat} {l:List α} {k:Nat} {x:α} (hx:l[k]?=some x):((l.take (k+1)).map w).sum=((l.take k).map w).sum+w x:=by
 rw [List.take_add_one,hx];simp
mutual
theorem ecount_le:∀ e:Lx.Expr,ecount e<=eW e
 | .mk a b c args kids=>by have:=ecountL_le kids;rw [ecount,eW];omega
theorem ecountL_le:∀ l:List Lx.Expr,ecountL l<=eWL l
 | []=>by simp [ecountL]
 | x::r=>by have h1:=ecount_le x;have h2:=ecountL_le r;rw [ecountL,eWL];omega
end
mutual
theorem fcount_le:∀ f:Formula,fcount f<=fW f
 | .mk a b c d exprs kids=>by have h1:=ecountL_le exprs;have h2:=fcountL_le kids;rw [fcount,fW];omega
theorem fcountL_le:∀ l:List Formula,fcountL l<=fWL l
 | []=>by simp [fcountL]
 | x::r=>by have h1:=fcount_le x;have h2:=fcountL_le r;rw [fcountL,fWL];omega
end
set_option maxHeartbeats 1000000 in
theorem Ymn:∀ (s:Nat) {fz:FZ} {e:Lx.Expr} {va vk:Value},SizeOf.sizeOf e<=s->ExprR fz e va vk->ecount e<=1000000000000->
 QFn prog 45 [.agg #[.string e.op,.string e.name,Zk e.n,va,vk]] fz (Zk (ecount e))
 | 0,_,e,_,_,hs,_,_=>by cases e;simp at hs
 | s+1,fz,e,va,vk,hs,h,hc=>by
  obtain ⟨A,n,ca,rfl,ha⟩:=h.args;obtain ⟨B,m,cb,rfl,hk⟩:=h.kids;refine GFn.quiet ?_;have lk:=hk.len;have sk:=hk.short;have ec:=YcM e;refine zF Tryz.func45 Tryz.ntmps45 (fun w0=>?_);refine Yj (Yq (Ya Zz (Xb _ Zz Zz (fun g0=>?_))));refine zW ?_;refine Ym (fun q σ fz' H'=>∃ (k:Nat) (c:Int),k<=m/\q=m - k/\σ=[(4,Zk k),(3,Zk c),(1,Zp g0)]/\fz=fz'/\H'=[(g0,.cells #[.string e.op,.string e.name,Zk e.n,.slice A n ca,.slice B m cb] 120 (0,0))]/\c=((1+ecountL (e.kids.take k):Nat):Int)) ⟨0,_,Z0 _,rfl,rfl,rfl,rfl,rfl⟩ Zw Zb ?_;rintro q σ fz' H' ⟨k,c,hkm,rfl,rfl,rfl,rfl,hh⟩;refine wC (fun c1=>?_) (fun c1=>?_)
  ·obtain ⟨x,hx⟩:=Yl (l:=e.kids) (k:=k) Zi;have hxm:=Zm hx;have hlt:=Lx.Expr.kids_lt hxm;have hst:=YcO hx;have htk:=YcN (l:=e.kids) (k:=k+1);refine wI hk hx (fun p1 hp1=>?_);refine zL hp1 ?_;intro cs hcs;obtain ⟨wa,wk,rfl,hRx⟩:=YK hcs;refine wG ?_;refine Yv Zz Zz (Ymn s Zi hRx Zi) ?_;exact wP (h:=by exact ⟨k+1,c+(ecount x:Nat),by omega,rfl,rfl,rfl,rfl,by omega⟩)
  rw [Zl Zi] at hh;exact wR (h:=by rw [hh,ec])
variable {fz:FZ} {va vk:Value}
theorem Ymm {e:Lx.Expr} (h:ExprR fz e va vk) (hc:ecount e<=1000000000000):
 QFn prog 45 [.agg #[.string e.op,.string e.name,Zk e.n,va,vk]] fz (Zk (ecount e)):=Ymn _ (Zs _) h hc
set_option maxHeartbeats 1000000 in
theorem size_f:∀ (s:Nat) {fz:FZ} {f:Formula} {va vp ve vk:Value},SizeOf.sizeOf f<=s->FormulaR fz f va vp ve vk->fcount f<=1000000000000->
 QFn prog 24 [.agg #[.string f.op,.string f.name,va,vp,ve,vk]] fz (Zk (fcount f))
 | 0,_,e,_,_,_,_,hs,_,_=>by cases e;simp at hs
 | s+1,fz,f,va,vp,ve,vk,hs,h,hc=>by
  obtain ⟨A,n,ca,rfl,ha⟩:=h.args;obtain ⟨B,m,cb,rfl,hp⟩:=h.params;obtain ⟨C,r,cr,rfl,he⟩:=h.exprs;obtain ⟨D,q0,cq,rfl,hk⟩:=h.kids;refine GFn.quiet ?_;have lk:=hk.len;have sk:=hk.short;have le:=he.len;have se:=he.short;have ec:=YdW f;refine zF Tryz.func24 Tryz.ntmps24 (fun w0=>?_);refine Yj (Yq (Ya Zz (Xb _ Zz Zz (fun g0=>?_))));refine zW ?_;refine Ym (fun q σ fz' H'=>∃ (k:Nat) (c:Int),k<=r/\q=r - k/\σ=[(4,Zk k),(3,Zk c),(1,Zp g0)]/\fz=fz'/\H'=[(g0,.cells #[.string f.op,.string f.name,.slice A n ca,.slice B m cb,.slice C r cr,.slice D q0 cq] 38 (0,0))]/\c=((1+ecountL (f.exprs.take k):Nat):Int)) ⟨0,_,Z0 _,rfl,rfl,rfl,rfl,rfl⟩ Zw Zb ?_;rintro q σ fz' H' ⟨k,c,hkm,rfl,rfl,rfl,rfl,hh⟩;refine wC (fun c1=>?_) (fun c1=>?_)
  ·obtain ⟨x,hx⟩:=Yl (l:=f.exprs) (k:=k) Zi;have hxm:=Zm hx;have hst:=YcO hx;have htk:=YcN (l:=f.exprs) (k:=k+1);refine wI he hx (fun p1 hp1=>?_);refine zL hp1 ?_;intro cs hcs;obtain ⟨wa,wk,rfl,hRx⟩:=YK hcs;refine wG ?_;refine Yv Zz Zz (Ymm hRx Zi) ?_;exact wP (h:=by exact ⟨k+1,c+(ecount x:Nat),by omega,rfl,rfl,rfl,rfl,by omega⟩)
  rw [Zl Zi] at hh;refine zW ?_;refine Ym (fun q σ fz' H'=>∃ (k:Nat) (c:Int),k<=q0/\q=q0 - k/\σ=[(5,Zk k),(3,Zk c),(1,Zp g0)]/\fz=fz'/\H'=[(g0,.cells #[.string f.op,.string f.name,.slice A n ca,.slice B m cb,.slice C r cr,.slice D q0 cq] 38 (0,0))]/\c=((1+ecountL f.exprs+fcountL (f.kids.take k):Nat):Int)) ⟨0,c,Z0 _,rfl,rfl,rfl,rfl,by rw [hh];simp [fcountL]⟩ Zw Zb ?_;rintro q σ fz' H' ⟨k,c,hkm,rfl,rfl,rfl,rfl,hh⟩;refine wC (fun c2=>?_) (fun c2=>?_)
  ·obtain ⟨x,hx⟩:=Yl (l:=f.kids) (k:=k) Zi;have hxm:=Zm hx;have hlt:=Formula.kids_lt hxm;have hst:=YeJ hx;have htk:=YeI (l:=f.kids) (k:=k+1);refine wI hk hx (fun p1 hp1=>?_);refine zL hp1 ?_;intro cs hcs;obtain ⟨w1,w2,w3,w4,rfl,hRx⟩:=YA hcs;refine wG ?_;refine Yv Zz Zz (size_f s Zi hRx Zi) ?_;exact wP (h:=by exact ⟨k+1,c+(fcount x:Nat),by omega,rfl,rfl,rfl,rfl,by omega⟩)
  rw [Zl Zi] at hh;exact wR (h:=by rw [hh,ec])
variable {f:Formula} {ve vp:Value}
theorem Ygu (h:FormulaR fz f va vp ve vk) (hc:fcount f<=1000000000000):
 QFn prog 24 [.agg #[.string f.op,.string f.name,va,vp,ve,vk]] fz (Zk (fcount f)):=size_f _ (Zs _) h hc
def hvC (c:Change):Nat:=1+c.params.length+c.args.length+fcount c.when_+ecount c.value
def Ybw (l:List Change):Nat:=(l.map hvC).sum
theorem hvC_le (c:Change):hvC c<=1*XS c:=by
 have h1:=fcount_le c.when_;have h2:=ecount_le c.value;unfold hvC XS;omega
theorem YfI (l:List Change):Ybw l<=(l.map XS).sum:=by
 have:=Yg3 hvC_le l;unfold Ybw;omega
variable {A:Option Addr} {n:Nat}
set_option maxHeartbeats 1000000 in
theorem YjW {ca:Nat} {l:List Change} (h1:Sl changeL fz A n ca l) (hc:Ybw l<=1000000000000):
 QFn prog 25 [.slice A n ca] fz (Zk (Ybw l)):=by
 refine GFn.quiet ?_;have l1:=h1.len;have s1:=h1.short;refine zF Tryz.func25 Tryz.ntmps25 (fun w0=>?_);refine zW ?_;refine Ym (fun q σ fz' H'=>∃ (k:Nat) (c:Int),k<=n/\q=n - k/\σ=[(4,Zk k),(3,Zk c),(0,.slice A n ca)]/\fz=fz'/\H'=[]/\c=((((l.take k).map hvC).sum:Nat):Int)) ⟨0,_,Z0 _,rfl,rfl,rfl,rfl,rfl⟩ Zw Zb ?_;rintro q σ fz' H' ⟨k,c,hkm,rfl,rfl,rfl,rfl,hh⟩;refine wC (fun c1=>?_) (fun c1=>?_)
 ·obtain ⟨x,hx⟩:=Yl (l:=l) (k:=k) Zi;have hst:=Yg2 (w:=hvC) hx;have htk:=Yg1 (w:=hvC) (l:=l) (k:=k+1);unfold Ybw at hc;have hvx:hvC x=1+x.params.length+x.args.length+fcount x.when_+ecount x.value:=rfl;refine wI h1 hx (fun p1 hp1=>?_);refine wG ?_;refine Ybh T Zz Zz Zz hp1.Change_params (fun P1 pn1 pc1 ip=>?_);have lp:=ip.len;refine wI h1 hx (fun p2 hp2=>?_);refine wG ?_;refine Ybh T Zz Zz Zz hp2.Change_args (fun P2 pn2 pc2 ia=>?_);have la:=ia.len;refine wI h1 hx (fun p3 hp3=>?_);refine wL hp3.Change_when_ ?_;intro cs3 hcs3;obtain ⟨w1,w2,w3,w4,rfl,hR3⟩:=YA hcs3
  ((refine zG ?_);refine Yv Zz Zz (Ygu hR3 Zi) ?_);refine wI h1 hx (fun p4 hp4=>?_);refine wL hp4.Change_value ?_;intro cs4 hcs4;obtain ⟨u1,u2,rfl,hR4⟩:=YK hcs4
  ((refine zG ?_);refine Yv Zz Zz (Ymm hR4 Zi) ?_);exact wP (h:=by exact ⟨k+1,c+(1+pn1+pn2+(fcount x.when_:Nat)+(ecount x.value:Nat)),by omega,rfl,rfl,rfl,rfl,by omega⟩)
 rw [Zl Zi] at hh;exact wR (h:=by rw [hh];rfl)
def laA (a:Action):Nat:=1+fcount a.pre+Ybw a.changes
def laU (a:Durative):Nat:=1+fcount a.start+fcount a.over+fcount a.fin+Ybw a.atStart+Ybw a.atEnd
def YiQ (d:Domain) (p:Problem):Nat:=d.types.length+d.constants.length+d.predicates.length+d.functions.length+p.objects.length+p.init.length+p.values.length+fcount p.goal+(d.actions.map laA).sum+(d.duratives.map laU).sum
theorem laA_le (a:Action):laA a<=1*actW a:=by
 have h1:=fcount_le a.pre;have h2:=YfI a.changes;unfold laA actW;omega
theorem laU_le (a:Durative):laU a<=1*durW a:=by
 have h1:=fcount_le a.start;have h2:=fcount_le a.over;have h3:=fcount_le a.fin;have h4:=YfI a.atStart;have h5:=YfI a.atEnd;unfold laU durW;omega
theorem Yng (d:Domain) (p:Problem):YiQ d p<=domW d+prbW p:=by
 have h1:=Yg3 laA_le d.actions;have h2:=Yg3 laU_le d.duratives;have h3:=fcount_le p.goal;have h4:=Yax YiA d.predicates;have h5:=Yax Yk1 d.functions;have h6:=Yax Yji p.init;have h7:=Yax Ygr p.values;unfold YiQ domW prbW;omega
variable {d:Domain} {p:Problem} {u1 u2 u3 u4 u5 u6 u7 v1 v2 v3 v4 v5 v6:Value}
set_option maxHeartbeats 4000000 in
theorem YlB (h:DomainR fz d v1 v2 v3 v4 v5 v6) (hp:ProblemR fz p u1 u2 u3 u4 u5 u6 u7) (hn:YiQ d p<=1000000000000):
 QFn prog 11 [.agg #[.string d.name,v1,v2,v3,v4,v5,v6],.agg #[.string p.name,.string p.domain,u1,u2,u3,.string p.goal.op,.string p.goal.name,u4,u5,u6,u7]] fz (.bool (decide (2000<YiQ d p))):=by
 obtain ⟨A1,n1,b1,rfl,i1⟩:=h.types;have l1:=i1.len;obtain ⟨A2,n2,b2,rfl,i2⟩:=h.constants;have l2:=i2.len;obtain ⟨A3,n3,b3,rfl,i3⟩:=h.predicates;have l3:=i3.len;obtain ⟨A4,n4,b4,rfl,i4⟩:=h.functions;have l4:=i4.len;obtain ⟨A5,n5,b5,rfl,i5⟩:=h.actions;have l5:=i5.len;obtain ⟨A6,n6,b6,rfl,i6⟩:=h.duratives;have l6:=i6.len;have s5:=i5.short;have s6:=i6.short;obtain ⟨C1,m1,e1,rfl,j1⟩:=hp.objects;have k1:=j1.len;obtain ⟨C2,m2,e2,rfl,j2⟩:=hp.init;have k2:=j2.len;obtain ⟨C3,m3,e3,rfl,j3⟩:=hp.values;have k3:=j3.len;have hg:=hp.goal;obtain ⟨U1,w1,z1,rfl,_⟩:=hp.goal.args;obtain ⟨U2,w2,z2,rfl,_⟩:=hp.goal.params;obtain ⟨U3,w3,z3,rfl,_⟩:=hp.goal.exprs;obtain ⟨U4,w4,z4,rfl,_⟩:=hp.goal.kids;refine GFn.quiet ?_;have hnn:YiQ d p=d.types.length+d.constants.length+d.predicates.length+d.functions.length+p.objects.length+p.init.length+p.values.length+fcount p.goal+(d.actions.map laA).sum+(d.duratives.map laU).sum:=rfl;refine zF Tryz.func11 Tryz.ntmps11 (fun w0=>?_);refine Yj (Yq (Ya Zz (Xb _ Zz Zz (fun g0=>?_))));refine Ya Zz (Xb _ Zz Zz (fun g1=>?_));refine wG ?_;refine Yo (vs:=[.string p.goal.op,.string p.goal.name,.slice U1 w1 z1,.slice U2 w2 z2,.slice U3 w3 z3,.slice U4 w4 z4]) T 0 Zz Zz Zz Zz Zz Zz ?_
 ((refine zG ?_);refine Yv Zz Zz (Ygu hg Zi) ?_);refine zW ?_;refine Ym (fun q σ fz' H'=>∃ (k:Nat) (c:Int),k<=n5/\q=n5 - k/\σ=[(6,Zk k),(5,Zk c),(2,Zp g0)]/\fz=fz'/\H'=[(g0,.cells #[.string d.name,.slice A1 n1 b1,.slice A2 n2 b2,.slice A3 n3 b3,.slice A4 n4 b4,.slice A5 n5 b5,.slice A6 n6 b6] 31 (0,0))]/\c=((n1+n2+n3+n4+m1+m2+m3+fcount p.goal+((d.actions.take k).map laA).sum:Nat):Int)) ⟨0,(n1:Int)+n2+n3+n4+m1+m2+m3+(fcount p.goal:Nat),Z0 _,rfl,rfl,rfl,rfl,by simp⟩ Zw (List.Sublist.cons _ (List.Sublist.refl _)) ?_;rintro q σ fz' H' ⟨k,c,hkm,rfl,rfl,rfl,rfl,hh⟩;refine wC (fun c1=>?_) (fun c1=>?_)
 ·obtain ⟨x,hx⟩:=Yl (l:=d.actions) (k:=k) Zi;have hst:=Yg2 (w:=laA) hx;have htk:=Yg1 (w:=laA) (l:=d.actions) (k:=k+1);have hvx:laA x=1+fcount x.pre+Ybw x.changes:=rfl;refine wI i5 hx (fun pp1 hp1=>?_);refine wL hp1.Action_pre ?_;intro cs1 hcs1;obtain ⟨s1,s2,s3,s4,rfl,hR1⟩:=YA hcs1
  ((refine zG ?_);refine Yv Zz Zz (Ygu hR1 Zi) ?_);refine wI i5 hx (fun pp2 hp2=>?_);refine wG ?_;refine Ybh T Zz Zz Zz hp2.Action_changes (fun P2 pn2 pc2 ic=>?_)
  ((refine zG ?_);refine Yv Zz Zz (YjW ic Zi) ?_);exact wP (h:=by exact ⟨k+1,c+(1+(fcount x.pre:Nat)+(Ybw x.changes:Nat)),by omega,rfl,rfl,rfl,rfl,by omega⟩)
 rw [Zl Zi] at hh;refine zW ?_;refine Ym (fun q σ fz' H'=>∃ (k:Nat) (c:Int),k<=n6/\q=n6 - k/\σ=[(7,Zk k),(5,Zk c),(2,Zp g0)]/\fz=fz'/\H'=[(g0,.cells #[.string d.name,.slice A1 n1 b1,.slice A2 n2 b2,.slice A3 n3 b3,.slice A4 n4 b4,.slice A5 n5 b5,.slice A6 n6 b6] 31 (0,0))]/\c=((n1+n2+n3+n4+m1+m2+m3+fcount p.goal+(d.actions.map laA).sum+((d.duratives.take k).map laU).sum:Nat):Int)) ⟨0,c,Z0 _,rfl,rfl,rfl,rfl,by rw [hh];simp⟩ Zw Zb ?_;rintro q σ fz' H' ⟨k,c,hkm,rfl,rfl,rfl,rfl,hh⟩;refine wC (fun c2=>?_) (fun c2=>?_)
 ·obtain ⟨x,hx⟩:=Yl (l:=d.duratives) (k:=k) Zi;have hst:=Yg2 (w:=laU) hx;have htk:=Yg1 (w:=laU) (l:=d.duratives) (k:=k+1);have hvx:laU x=1+fcount x.start+fcount x.over+fcount x.fin+Ybw x.atStart+Ybw x.atEnd:=rfl;refine wI i6 hx (fun pp1 hp1=>?_);refine zL hp1 ?_;intro cs1 hcs1;obtain ⟨r0,r1,r2,r3,r4,r5,r6,r7,r8,r9,r10,r11,r12,r13,r14,rfl,hR⟩:=Xg hcs1;obtain ⟨P,p1,q1,rfl,ip⟩:=hR.params;have hS1:=hR.start;have hS2:=hR.over;have hS3:=hR.fin;obtain ⟨V1,a1,y1,rfl,_⟩:=hR.start.args;obtain ⟨V2,a2,y2,rfl,_⟩:=hR.start.params;obtain ⟨V3,a3,y3,rfl,_⟩:=hR.start.exprs;obtain ⟨V4,a4,y4,rfl,_⟩:=hR.start.kids;obtain ⟨V5,a5,y5,rfl,_⟩:=hR.over.args;obtain ⟨V6,a6,y6,rfl,_⟩:=hR.over.params;obtain ⟨V7,a7,y7,rfl,_⟩:=hR.over.exprs;obtain ⟨V8,a8,y8,rfl,_⟩:=hR.over.kids;obtain ⟨V9,a9,y9,rfl,_⟩:=hR.fin.args;obtain ⟨V10,a10,y10,rfl,_⟩:=hR.fin.params;obtain ⟨V11,a11,y11,rfl,_⟩:=hR.fin.exprs;obtain ⟨V12,a12,y12,rfl,_⟩:=hR.fin.kids;obtain ⟨V13,a13,y13,rfl,ia⟩:=hR.atStart;obtain ⟨V14,a14,y14,rfl,ie⟩:=hR.atEnd;refine zW ?_;intros
  ((refine zG ?_);refine Yo (vs:=[.string x.start.op,.string x.start.name,.slice V1 a1 y1,.slice V2 a2 y2,.slice V3 a3 y3,.slice V4 a4 y4]) T 0 Zz Zz Zz Zz Zz Zz ?_);refine wG ?_;refine Yv Zz Zz (Ygu hS1 Zi) ?_;refine wG ?_;refine Yo (vs:=[.string x.over.op,.string x.over.name,.slice V5 a5 y5,.slice V6 a6 y6,.slice V7 a7 y7,.slice V8 a8 y8]) T 0 Zz Zz Zz Zz Zz Zz ?_;refine wG ?_;refine Yv Zz Zz (Ygu hS2 Zi) ?_;refine wG ?_;refine Yo (vs:=[.string x.fin.op,.string x.fin.name,.slice V9 a9 y9,.slice V10 a10 y10,.slice V11 a11 y11,.slice V12 a12 y12]) T 0 Zz Zz Zz Zz Zz Zz ?_;refine wG ?_;refine Yv Zz Zz (Ygu hS3 Zi) ?_;refine wG ?_;refine Yv Zz Zz (YjW ia Zi) ?_;refine wG ?_;refine Yv Zz Zz (YjW ie Zi) ?_;exact wP (h:=by exact ⟨k+1,c+(1+(fcount x.start:Nat)+(fcount x.over:Nat)+(fcount x.fin:Nat)+(Ybw x.atStart:Nat)+(Ybw x.atEnd:Nat)),by omega,rfl,rfl,rfl,rfl,by omega⟩)
 rw [Zl Zi] at hh;refine wC (fun c3=>?_) (fun c3=>?_)
 ·exact wR (h:=by exact Yw Zi)
 exact wR (h:=by exact Yn Zi)
end Go.Proofs.YtfjopfinkdhmaaaGreatDoor
namespace Go.Lx
variable {H:HP} {fz:FZ} {n:Nat}
theorem ret0R {P:Program} {cx:Cx} {σ:Env} {H':HP} {fn:Func} {R:Value->FZ->HP->Prop} (hres:fn.results=#[]) (hH:H'.Sublist H) (h:R (.tuple #[]) fz H'):retQ P cx n fn R .ret σ fz H:=by
 unfold retQ;exact ⟨.tuple #[],fun a w hs hw=>by simp [results,hres],Ygx hH h⟩
end Go.Lx
namespace Go.Proofs.YtfjopfinkdhmaaaGreatDoor
open Go.Lx Go.RowKit
attribute [local instance 10] Classical.propDecidable
open Go.Proofs.Tryz (prog)
def SepP (n:Int):Prop:=n=32\/n=9\/n=13\/n=10
instance {n:Int}:Decidable (SepP n):=inferInstanceAs (Decidable (_\/_))
variable {fz:FZ}
theorem sep_q {n:Int}:QFn prog 132 [.int .u8 n] fz (.bool (decide (SepP n))):=by
 refine GFn.quiet ?_;refine zF Tryz.func132 Tryz.ntmps132 (fun w0=>?_);refine zW ?_
 (((refine zC (fun c1=>?_) (fun c1=>?_));((refine zW ?_);(exact ret1 rfl rfl Zb (Yw (.inl c1))));(refine zW ?_)))
 (((refine zC (fun c2=>?_) (fun c2=>?_));((refine zW ?_);(exact ret1 rfl rfl Zb (Yw (.inr (.inl c2)))));(refine zW ?_)))
 (((refine zC (fun c3=>?_) (fun c3=>?_));((refine zW ?_);(exact ret1 rfl rfl Zb (Yw (.inr (.inr (.inl c3))))));(refine zW ?_)));refine zC (fun c4=>?_) (fun c4=>?_)
 ·exact wR (h:=by exact Yw (.inr (.inr (.inr c4))))
 exact wR (h:=by exact Yn (fun h=>by rcases h with h | h | h | h;exact c1 h;exact c2 h;exact c3 h;exact c4 h))
def posS (p:Int × Int) (b:UInt8):Int × Int:=if b=10 then (p.1+1,1) else (p.1,p.2+1)
def posA (t:Bs) (a:Nat):Int × Int:=(t.data.toList.take a).foldl posS (1,1)
theorem YmP {t:Bs} {a:Nat} {b:UInt8} (h:t[a]?=some b):posA t (a+1)=posS (posA t a) b:=by
 unfold posA;have hl:t.data.toList[a]?=some b:=by
  have h1:t[a]?=t.data[a]?:=by
   by_cases ha:a<t.size
   ·rw [getElem?_pos t a ha,Array.getElem?_eq_getElem (show a<t.data.size from ha)];rfl
   rw [getElem?_neg t a ha,Array.getElem?_eq_none (show t.data.size<=a by have:t.data.size=t.size:=rfl;omega)]
  rw [h1] at h;simpa using h
 rw [List.take_add_one,hl];simp
theorem Yk5:∀ (l:List UInt8) (p:Int × Int),0<=p.1->0<=p.2->0<=(l.foldl posS p).1/\0<=(l.foldl posS p).2/\(l.foldl posS p).1<=p.1+l.length/\(l.foldl posS p).2<=p.2+1+l.length
 | [],p,h1,h2=>by simp;omega
 | b::r,p,h1,h2=>by
  rw [List.foldl_cons,List.length_cons];have h3:0<=(posS p b).1/\0<=(posS p b).2/\(posS p b).1<=p.1+1/\(posS p b).2<=p.2+1:=by
   unfold posS;split<;>simp<;>omega
  obtain ⟨i1,i2,i3,i4⟩:=Yk5 r (posS p b) h3.1 h3.2.1;refine ⟨i1,i2,?_,?_⟩<;>push_cast<;>omega
theorem Yfr (t:Bs) (a:Nat):0<=(posA t a).1/\0<=(posA t a).2/\(posA t a).1<=2+t.size/\(posA t a).2<=2+t.size:=by
 have h:=Yk5 (t.data.toList.take a) (1,1) Zh Zh;have hl:(t.data.toList.take a).length<=t.size:=by
  rw [List.length_take];have:t.data.toList.length=t.size:=by rw [Array.length_toList];rfl
  omega
 unfold posA;simp only at h;omega
def rdO (t:Bs) (a:Nat) (n:Int) (v:Value):Obj:=.cells #[.string t,Zk a,Zk (posA t a).1,Zk (posA t a).2,Zk n,v] 160 (0,0)
variable {g:Nat} {v:Value}
theorem Ykz {a:Nat} {t:Bs} {n:Int} (ht:t.size<=1000000) (ha:a<t.size):
 GFn prog 133 [Zp g] fz [(g,rdO t a n v)] (fun r fz' H'=>fz'=fz/\H'=[(g,rdO t (a+1) n v)]/\r=.tuple #[]):=by
 obtain ⟨b,hb,hb2⟩:=Wa ha;have hp:=YmP hb;have hbd:=Yfr t a;unfold rdO;refine zF Tryz.func133 Tryz.ntmps133 (fun w0=>?_);refine wG ?_;refine Xr T Zz Zz Zz Zz Zi (by rw [Int.toNat_natCast];exact hb) ?_;refine wC (fun c1=>?_) (fun c1=>?_)
 ·have hb10:b=10:=by rw [<- UInt8.toNat_inj];show b.toNat=10;omega
  refine zW ?_;refine YaK rfl (List.Sublist.refl _) ⟨rfl,?_,rfl⟩;rw [hp,posS,if_pos hb10];push_cast;rfl
 have hb10:¬b=10:=fun h=>c1 (by rw [h];rfl)
 refine zW ?_;refine YaK rfl (List.Sublist.refl _) ⟨rfl,?_,rfl⟩;rw [hp,posS,if_neg hb10];push_cast;rfl
def YaJ:Bool->List UInt8->Nat
 | _,[]=>0
 | true,b::r=>if b=10 then 1+YaJ false r else 1+YaJ true r
 | false,b::r=>if SepP b.toNat then 1+YaJ false r else if b=59 then 1+YaJ true r else 0
def XY (m:Bool) (t:Bs) (a:Nat):Nat:=a+YaJ m (t.data.toList.drop a)
theorem Yao {t:Bs} {a:Nat} {b:UInt8} (h:t[a]?=some b):t.data.toList.drop a=b::t.data.toList.drop (a+1):=by
 have ha:a<t.size:=by
  rcases Nat.lt_or_ge a t.size with h1 | h1
  ·exact h1
  rw [getElem?_neg t a Zi] at h;cases h
 have hl:a<t.data.toList.length:=by
  have:t.data.toList.length=t.size:=by rw [Array.length_toList];rfl
  omega
 rw [List.drop_eq_getElem_cons hl]
 congr 1
 rw [getElem?_pos t a ha] at h;injection h with h
theorem Yif {m:Bool} {t:Bs} {a:Nat} (h:t.size<=a):XY m t a=a:=by
 have:t.data.toList.drop a=[]:=List.drop_eq_nil_of_le (by have:t.data.toList.length=t.size:=(by rw [Array.length_toList];rfl);omega);unfold XY;rw [this];cases m<;>simp [YaJ]
theorem Yml {t:Bs} {a:Nat} {b:UInt8} (h:t[a]?=some b) (hb:¬b=10):XY true t a=XY true t (a+1):=by
 unfold XY;rw [Yao h,YaJ,if_neg hb];omega
theorem skipA_nl {t:Bs} {a:Nat} {b:UInt8} (h:t[a]?=some b) (hb:b=10):XY true t a=XY false t a:=by
 unfold XY;rw [Yao h,YaJ,if_pos hb,YaJ,if_pos (by subst hb;decide)]
theorem Ymj {t:Bs} {a:Nat} {b:UInt8} (h:t[a]?=some b) (hb:SepP b.toNat):XY false t a=XY false t (a+1):=by
 unfold XY;rw [Yao h,YaJ,if_pos hb];omega
theorem Ymk {t:Bs} {a:Nat} {b:UInt8} (h:t[a]?=some b) (hb:b=59):XY false t a=XY true t a:=by
 unfold XY;have e1:∀ r,YaJ false (b::r)=1+YaJ true r:=fun r=>by rw [YaJ,if_neg (by subst hb;decide),if_pos hb]
 have e2:∀ r,YaJ true (b::r)=1+YaJ true r:=fun r=>by rw [YaJ,if_neg (by subst hb;decide)]
 rw [Yao h,e1,e2]
theorem Ylo {t:Bs} {a:Nat} {b:UInt8} (h:t[a]?=some b) (h1:¬SepP b.toNat) (h2:¬b=59):XY false t a=a:=by
 unfold XY;rw [Yao h,YaJ,if_neg h1,if_neg h2];rfl
set_option maxHeartbeats 4000000 in
theorem skip_f {a:Nat} {t:Bs} {n:Int} (ht:t.size<=1000000) (ha:a<=t.size):
 GFn prog 85 [Zp g] fz [(g,rdO t a n v)] (fun r fz' H'=>fz'=fz/\H'=[(g,rdO t (XY false t a) n v)]/\r=.tuple #[]):=by
 refine zF Tryz.func85 Tryz.ntmps85 (fun w0=>?_);refine zW ?_;refine Ym (fun q σ fz' H'=>∃ k:Nat,k<=t.size/\q=t.size - k/\σ=[(0,Zp g)]/\fz=fz'/\H'=[(g,rdO t k n v)]/\XY false t k=XY false t a) ⟨a,ha,rfl,rfl,rfl,rfl,rfl⟩ Zw Zb ?_;rintro q σ fz' H' ⟨k,hk,rfl,rfl,rfl,rfl,hs⟩;have hrd:=rdO.eq_1 t k n v;rw [hrd];refine wC (fun c1=>?_) (fun c1=>?_)
 ·obtain ⟨b,hb,hb2⟩:=Wa (s:=t) (k:=k) Zi;refine wG ?_;refine Xr T Zz Zz Zz Zz Zi (by rw [Int.toNat_natCast];exact hb) ?_;refine wb (sep_q (n:=b.toNat)) (fun f1=>?_) (fun f1=>?_)
  ·have hsep:=Zt f1;refine zW ?_;refine Ya Zz (Yx [(g,rdO t k n v)] [] Zz Zz Zz (Ykz ht Zi) (fun r1 fz1 H1 hle1 hR1=>?_));obtain ⟨rfl,rfl,rfl⟩:=hR1;exact wP (h:=by exact ⟨k+1,by omega,rfl,rfl,rfl,rfl,by rw [<- Ymj hb hsep];exact hs⟩)
  have hsep:=Zf f1;refine wC (fun c2=>?_) (fun c2=>?_)
  ·have hb59:b=59:=by rw [<- UInt8.toNat_inj];show b.toNat=59;omega
   refine zW ?_;refine Ym (fun q σ fz' H'=>∃ j:Nat,j<=t.size/\k<=j/\q=t.size - j/\σ=[(0,Zp g)]/\fz=fz'/\H'=[(g,rdO t j n v)]/\XY true t j=XY false t a) ⟨k,hk,Zs _,rfl,rfl,rfl,rfl,by rw [<- Ymk hb hb59];exact hs⟩ Zw Zb ?_;rintro q σ fz' H' ⟨j,hj,hkj,rfl,rfl,rfl,rfl,hs2⟩;have hrd2:=rdO.eq_1 t j n v;rw [hrd2];refine wC (fun c3=>?_) (fun c3=>?_)
   ·obtain ⟨b2,hb3,hb4⟩:=Wa (s:=t) (k:=j) Zi;refine wG ?_;refine Xr T Zz Zz Zz Zz Zi (by rw [Int.toNat_natCast];exact hb3) ?_;refine wC (fun c4=>?_) (fun c4=>?_)
    ·have hne:¬b2=10:=fun h=>c4 (by rw [h];rfl)
     refine zW ?_;refine Ya Zz (Yx [(g,rdO t j n v)] [] Zz Zz Zz (Ykz ht Zi) (fun r1 fz1 H1 hle1 hR1=>?_));obtain ⟨rfl,rfl,rfl⟩:=hR1;exact wP (h:=by exact ⟨j+1,by omega,by omega,rfl,rfl,rfl,rfl,by rw [<- Yml hb3 hne];exact hs2⟩)
    have heq:b2=10:=by rw [<- UInt8.toNat_inj];show b2.toNat=10;omega
    have hkj2:k<j:=by
     rcases Nat.lt_or_eq_of_le hkj with h | h
     ·exact h
     subst h;rw [hb] at hb3;injection hb3 with hb3
     rw [hb59] at hb3;rw [<- hb3] at heq;cases heq
    exact wP (h:=by exact ⟨j,hj,rfl,rfl,rfl,rfl,by rw [<- skipA_nl hb3 heq];exact hs2⟩)
   exact wP (h:=by exact ⟨j,hj,rfl,rfl,rfl,rfl,by rw [Yif Zi] at hs2 ⊢;exact hs2⟩)
  have hne:¬b=59:=fun h=>c2 (by rw [h];rfl)
  rw [Ylo hb hsep hne] at hs;refine zW ?_;exact ret0R rfl (List.Sublist.refl _) ⟨rfl,by rw [<- hs];rfl,rfl⟩
 rw [Yif Zi] at hs;refine zW ?_;exact YaK rfl (List.Sublist.refl _) ⟨rfl,by rw [<- hs];rfl,rfl⟩
def zroC:List Value:=[Zk 0,Zk 0,Zk 0,Zk 0,Ze,Zn]
def zroX:Sexpr:=.mk 0 0 0 0 ⟨#[]⟩ []
theorem i64z:I64 0:=by unfold I64;omega
theorem Ykh:Yz.rep fz zroX zroC:=Yh (x:=zroX) ⟨i64z,i64z,i64z,i64z,by show (ByteArray.mk #[]).size<=_;decide,IsSl.nil⟩
variable {n:Nat}
theorem Yg8 {α:Type} {l:List α} {z w:α} (hn:l.length=n):(l++ [z]).set n w=l++ [w]:=by
 subst hn;rw [List.set_append_right _ _ (Zs _),Nat.sub_self];rfl
theorem Yfi:OneC Yz:=by
 intro fz d cs h u hu;obtain ⟨v,rfl,hR⟩:=Yi h;obtain ⟨A,n,c,rfl,_⟩:=hR.kids;simp at hu;rcases hu with rfl | rfl | rfl | rfl | rfl | rfl<;>rfl
set_option maxHeartbeats 8000000 in
theorem add_f {gr go a m cap k:Nat} {t:Bs} {n:Int} {vx:Value} {cur:List Value} {Hb Hl:HP} {l:List Sexpr} {x:Sexpr} (hm:1<=m) (hmc:m<=cap) (hm6:m<=1000) (hcur:cur[(m - 1)*6+5]?=some v) (hG:Grow Yz 57 fz v k Hl l) (hX:YS fz x vx) (hk:k<=1000000):
 GFn prog 134 [Zp gr,.agg #[Zk x.kind,Zk x.value,Zk x.line,Zk x.column,.string x.text,vx]] fz
  ((gr,rdO t a n (Zv go m cap))::(go,.cells cur.toArray 57 (0,0))::(Hb++Hl))
  (fun r fz' H'=>fz'=fz/\r=.tuple #[]/\∃ v' Hl',H'=(gr,rdO t a n (Zv go m cap))::(go,.cells (cur.set ((m - 1)*6+5) v').toArray 57 (0,0))::(Hb++Hl')/\Grow Yz 57 fz v' (k+1) Hl' (l++ [x])):=by
 obtain ⟨Ax,nx,cx',rfl,_⟩:=hX.kids;have hlen:=hG.len;obtain ⟨Av,cv,rfl,_,_⟩:=hG.form;have hjl:(m - 1)*6+5<cur.length:=(Zg hcur).1;unfold rdO;refine zF Tryz.func134 Tryz.ntmps134 (fun w0=>?_);refine Yj (Yq (Ya Zz (Xb _ Zz Zz (fun g7=>?_))));refine wG ?_;refine YC (z:=6) T Zz Zz Zz Zz Zz rfl Zi Zi ?_;rw [show ((m:Int) - 1).toNat=m - 1 by omega];refine zWN ?_;refine Wp.drawP [10,11] (Hq:=(g7,_)::(gr,_)::(go,_):: []) T.mixed Zj Zj Zb ?_;refine wG ?_;refine Y0 T 2 Zz Zz Zz Zz hcur ?_;refine zW ?_;refine Ye ?_;refine Ye ?_;refine Ye ?_;refine Ye ?_;refine PK.p Zz (fun fz'=>by first | exact WH Zz rfl | exact XE Zz rfl | exact YT T Zz Zz Zz Zz Zz Zz rfl | exact Yaz Zz Zz (XD Zi) rfl | exact YQ T Zz Zz Zz rfl) ?_;refine PK.p Zz (fun fz'=>by first | exact WH Zz rfl | exact XE Zz rfl | exact YT T Zz Zz Zz Zz Zz Zz rfl | exact Yaz Zz Zz (XD Zi) rfl | exact YQ T Zz Zz Zz rfl) ?_;refine Ye ?_;refine PK.done ⟨by kernel_rfl,?_⟩;refine Yc Zz Zz ?_;refine Yd (Yb T (cs:=zroC) Zz Zz Zz Zz Zz Zz Zz Zz (fun gb=>⟨(⟨(Le.refl _),Zx⟩),?_⟩));refine Yc Zz Zz ?_;refine Yd (YiS T (Hr:=(gb,_)::(g7,_)::(gr,_)::(go,_)::Hb) (ys:=[(zroX,zroC)]) (l2:=[zroX]) (m:=1) Zz Zz Zz Zz Zz Zz Zz Zz (Zr _) hG Yfi (.head _) (List.append_nil _).symm rfl (by intro p hp;simp at hp;subst hp;exact Ykh) rfl (by show _*72<=_;omega) Zi (fun v' Hs' hO'=>⟨(⟨(Le.refl _),Zx⟩),?_⟩));obtain ⟨gk,cap2,cur1,rfl,rfl,hB⟩:=hO'.b Zi;refine YI Zz Zz Zz ?_ ?_
 ·refine PoS.hard Zj (DoesQ.does (YC T Zz Zz Zz Zz Zz rfl Zi Zi ?_));refine YI Zz Zz Zz ?_ ?_
  ·refine PoS.hard0 Zj (Yy T (pre:=(gb,_)::(g7,_)::(gr,_)::(go,_)::Hb) (L:=Yz) (j:=k) Zz Zz Zz rfl rfl Zz Yfi (Yh hX) hB Zi (fun cur2 hB2=>?_));refine Yc Zz Zz ?_;refine PoS.hard0 Zj (Ych T (pre:=[_,_,_]) Zz Zz Zz rfl Zz Zz Zz hjl ?_);refine Po.done ?_;refine zW ?_;exact YaK (H':=(gr,_)::(go,_)::(Hb++ [(gk,_)])) rfl (List.Sublist.cons _ (List.Sublist.cons _ (List.Sublist.refl _))) ⟨rfl,rfl,_,[(gk,_)],rfl,hB2.grow.of (Yg8 hlen) rfl⟩
  refine PoS.hard0 Zj (Ych T (pre:=[_,_,_]) Zz Zz Zz rfl Zz Zz Zz hjl ?_);refine Yc Zz Zz ?_;refine PoS.hard0 Zj (Yy T (pre:=(gb,_)::(g7,_)::(gr,_)::(go,_)::Hb) (L:=Yz) (j:=k) Zz Zz Zz rfl rfl Zz Yfi (Yh hX) hB Zi (fun cur2 hB2=>?_));refine Po.done ?_;refine zW ?_;exact YaK (H':=(gr,_)::(go,_)::(Hb++ [(gk,_)])) rfl (List.Sublist.cons _ (List.Sublist.cons _ (List.Sublist.refl _))) ⟨rfl,rfl,_,[(gk,_)],rfl,hB2.grow.of (Yg8 hlen) rfl⟩
 refine PoS.hard0 Zj (Ych T (pre:=[_,_,_]) Zz Zz Zz rfl Zz Zz Zz hjl ?_);refine Yc Zz Zz ?_;refine PoS.hard Zj (DoesQ.does (YC T Zz Zz Zz Zz Zz rfl Zi Zi ?_));refine Yc Zz Zz ?_;refine PoS.hard0 Zj (Yy T (pre:=(gb,_)::(g7,_)::(gr,_)::(go,_)::Hb) (L:=Yz) (j:=k) Zz Zz Zz rfl rfl Zz Yfi (Yh hX) hB Zi (fun cur2 hB2=>?_));refine Po.done ?_;refine zW ?_;exact YaK (H':=(gr,_)::(go,_)::(Hb++ [(gk,_)])) rfl (List.Sublist.cons _ (List.Sublist.cons _ (List.Sublist.refl _))) ⟨rfl,rfl,_,[(gk,_)],rfl,hB2.grow.of (Yg8 hlen) rfl⟩
theorem scut_q {s p:Bs} (hs:Short s) (hp:Short p):QFn prog 236 [.string s,.string p] fz (.tuple #[.string (W6 s p),.bool (decide (PreP s p))]):=by
 refine GFn.quiet ?_;refine zF Tryz.func236 Tryz.ntmps236 (fun w0=>?_);refine wb (Ydp hs hp) (fun f1=>?_) (fun f1=>?_)
 ·have hc:=Zt f1;have:=hc.1;refine wG ?_;refine Yec T Zz Zz Zz Zz Zi Zi ?_;exact wS (h:=by exact (by rw [W6,if_pos hc,decide_eq_true hc];rfl))
 have hc:=Zf f1;exact wS (h:=by exact (by rw [W6,if_neg hc,decide_eq_false hc]))
theorem cut_q {s p:Bs} (hs:Short s) (hp:Short p):QFn prog 207 [.string s,.string p] fz (.tuple #[.string (W6 s p),.bool (decide (PreP s p))]):=by
 refine GFn.quiet ?_;refine zF Tryz.func207 Tryz.ntmps207 (fun w0=>?_);refine wc (scut_q hs hp) ?_;exact wS (h:=rfl)
def valD:List UInt8->Nat->Option Nat
 | [],n=>some n
 | b::r,n=>if 1099511627776<10*n+(b.toNat - 48) then none else valD r (10*n+(b.toNat - 48))
def numS (s:Bs):Option Int:=(valD (W6 s Wm).data.toList 0).map fun n=>if PreP s Wm then -(n:Int) else n
set_option maxHeartbeats 2000000 in
theorem value_q {s:Bs} (hs:s.size<=1000000) (hn:NumP s):QFn prog 178 [.string s] fz (.tuple #[Zk ((numS s).getD 0),.bool (numS s).isSome]):=by
 have hsh:Short s:=by unfold Short;omega
 have hz:(W6 s Wm).size<=1000000:=by
  unfold W6;split
  ·rw [Ybn (Zs _)];omega
  exact hs
 obtain ⟨hd,_⟩:=hn;refine GFn.quiet ?_;refine zF Tryz.func178 Tryz.ntmps178 (fun w0=>?_);refine wG ?_;refine Yv Zz Zz (cut_q (p:=Wm) hsh (by unfold Short Wm;decide)) ?_;have hvs:numS s=(valD (W6 s Wm).data.toList 0).map fun n=>if PreP s Wm then -(n:Int) else n:=rfl
 generalize htt:W6 s Wm=t at*;refine zW ?_;refine Ym (fun q σ fz' H'=>∃ (k m:Nat),k<=t.size/\q=t.size - k/\σ=[(15,Zk k),(14,Zk t.size),(6,Zk m),(5,.bool (decide (PreP s Wm))),(4,.string t)]/\fz=fz'/\H'=[]/\m<=1099511627776/\valD (t.data.toList.drop k) m=valD t.data.toList 0) ⟨0,0,Z0 _,rfl,rfl,rfl,rfl,by decide,rfl⟩ Zw Zb ?_;rintro q σ fz' H' ⟨k,m,hk,rfl,rfl,rfl,rfl,hm,hv⟩;refine wC (fun c1=>?_) (fun c1=>?_)
 ·obtain ⟨b,hb,hb2⟩:=Wa (s:=t) (k:=k) Zi;have hdg:=hd k Zi;rw [hb2] at hdg;unfold DigP at hdg;rw [Yao hb,valD] at hv;refine wG ?_;refine q_mul (c:=(10*m:Nat)) Zz Zz (by rw [show (10:Int)*(m:Int)=((10*m:Nat):Int) by push_cast;rfl];exact XD Zi) ?_;refine wG ?_;refine Xr T Zz Zz Zz Zz Zi (by rw [Int.toNat_natCast];exact hb) ?_;refine zG ?_;refine q_sub (c:=(b.toNat - 48:Nat)) Zz Zz (by rw [show ((b.toNat:Int) - 48)=((b.toNat - 48:Nat):Int) by omega];exact Yjt Zi) ?_;refine zG ?_;refine Yhh T Zz Zz Zz Zz (XD Zi) ?_;refine zG ?_;refine Yaz (c:=(10*m+(b.toNat - 48):Nat)) Zz Zz (by rw [show ((10*m:Nat):Int)+((b.toNat - 48:Nat):Int)=((10*m+(b.toNat - 48):Nat):Int) by push_cast;rfl];exact XD Zi) ?_;refine wC (fun c2=>?_) (fun c2=>?_)
  ·rw [if_pos Zi] at hv;exact wS (h:=by exact (by rw [hvs,<- hv];rfl))
  rw [if_neg Zi] at hv;exact wP (h:=by exact ⟨k+1,10*m+(b.toNat - 48),by omega,rfl,rfl,rfl,rfl,by omega,hv⟩)
 rw [List.drop_eq_nil_of_le (by have:t.data.toList.length=t.size:=(by rw [Array.length_toList];rfl);omega),valD] at hv;by_cases hp:PreP s Wm
 ·rw [decide_eq_true hp];refine wG ?_;refine q_neg Zz (XD Zi) ?_;exact wS (h:=by exact (by rw [hvs,<- hv];simp [hp]))
 rw [decide_eq_false hp];exact wS (h:=by exact (by rw [hvs,<- hv];simp [hp]))
end Go.Proofs.YtfjopfinkdhmaaaGreatDoor
namespace Go.Lx
open Go.RowKit
section
variable {P:Program} {cx:Cx} {r:Operand->Option Value} {fz:FZ} {H:HP} {V:Value->Prop} {dst:Option Nat} {ty:TypeId} {pos:String} {af:Array Edge} {gd:Option (Nat × Bool)}
variable {X:Ty} {t:TypeId}
theorem YmD (T:Tab P) {x lo hi:Operand} {s:Bs} {a b:Nat} (hT:T.inf t=some X) (hd:X.desc=.string) (hx:r x=some (.string s)) (hl:r lo=some (Zk a)) (hh:r hi=some (Zk b))
 (hab:a<=b) (hb:b<=s.size) (h:V (.string (s.extract a b))):DoesQ P cx ⟨dst,.slice t x (some lo) (some hi) none,ty,pos,af,gd⟩ r fz H V:=
 YJ (fun ρ w hr=>by
  have hu:=run_underlying (und_plain T hT hd rfl) w;simp [execOp,hr _ _ hx,hr _ _ hl,hr _ _ hh,Instr.sliceAt,Instr.slice,Instr.sliceBounds,Instr.sliceBound,asIntOf,hu,hab,hb]) h
end
variable {fz:FZ} {g j n:Nat}
theorem Ynt {α:Type} {L:Lay α} {e:Nat} {cap:Nat} {cur:List Value} {l:List α} (h:GrowB L e fz g n cap cur l) {d:α} (hj:l[j]?=some d):∃ cs,L.rep fz d cs/\∀ i u,cs[i]?=some u->cur[j*L.size+i]?=some u:=by
 obtain ⟨xs,h1,h2,h3⟩:=h.pairs;rw [<- h1,List.getElem?_map] at hj;cases hx:xs[j]? with
 | none=>rw [hx] at hj;cases hj
 | some p=>
  rw [hx] at hj;simp at hj;subst hj;refine ⟨p.2,h2 p (Zm hx),fun i u hu=>?_⟩;have h5:=YfO (fun p hp=>L.len (h2 p hp)) hx hu;rw [<- h3,List.getElem?_take] at h5;split at h5
  ·exact h5
  cases h5
theorem GrowB.pop {α:Type} {L:Lay α} {e:Nat} {cap:Nat} {cur:List Value} {l:List α} {d:α} (h:GrowB L e fz g (n+1) cap cur (l++ [d])):GrowB L e fz g n cap cur l:=by
 obtain ⟨xs,h1,h2,h3⟩:=h.pairs;have hl:=h.len;have hcap:=h.capn;rw [List.length_append] at hl;simp at hl;have hxl:xs.length=n+1:=by rw [<- List.length_map (f:=Prod.fst),h1,List.length_append];simp [hl]
 have hz:∀ p∈xs.take n,p.2.length=L.size:=fun p hp=>L.len (h2 p (List.mem_of_mem_take hp))
 refine ⟨⟨xs.take n,by rw [List.map_take,h1,<- hl,List.take_left],fun p hp=>h2 p (List.mem_of_mem_take hp),?_⟩,hl,by omega,h.max,h.size⟩;have e1:(xs.take n++xs.drop n).flatMap Prod.snd=xs.flatMap Prod.snd:=by rw [List.take_append_drop]
 rw [List.flatMap_append] at e1;have e2:=Ya4 hz;rw [List.length_take,hxl,Nat.min_eq_left Zi] at e2;have e3:cur.take (n*L.size)=(cur.take ((n+1)*L.size)).take (n*L.size):=by rw [List.take_take,Nat.min_eq_left (Nat.mul_le_mul_right _ Zi)]
 rw [e3,h3,<- e1,<- e2,List.take_left]
variable {v:Value}
theorem GrowB.cell {α:Type} {L:Lay α} {e:Nat} {cap o:Nat} {cur:List Value} {l:List α} {d d':α} (h:GrowB L e fz g (n+1) cap cur (l++ [d])) (ho:o<L.size) (hr:∀ cs,L.rep fz d cs->L.rep fz d' (cs.set o v)):GrowB L e fz g (n+1) cap (cur.set (n*L.size+o) v) (l++ [d']):=by
 have hp:=h.pop;obtain ⟨xs,h1,h2,h3⟩:=hp.pairs;have hl:=hp.len;obtain ⟨cs,h4,h5⟩:=Ynt h (j:=n) (d:=d) (by rw [List.getElem?_append_right Zi,hl,Nat.sub_self];rfl);have hxl:xs.length=n:=by rw [<- List.length_map (f:=Prod.fst),h1,hl]
 have hcl:=L.len h4;have hsz:=h.size;have hcap:=h.capn;have e0:(n+1)*L.size=n*L.size+L.size:=Nat.succ_mul _ _;have hnc:(n+1)*L.size<=cap*L.size:=Nat.mul_le_mul_right _ hcap;have e1:(xs.flatMap Prod.snd).length=n*L.size:=by rw [Ya4 (fun p hp=>L.len (h2 p hp)),hxl]
 refine ⟨⟨xs++ [(d',cs.set o v)],by rw [List.map_append,h1];rfl,fun p hp=>?_,?_⟩,by rw [List.length_append,hl];rfl,hcap,h.max,by rw [List.length_set];exact hsz⟩
 ·rcases List.mem_append.1 hp with hp | hp
  ·exact h2 p hp
  simp at hp;subst hp;exact hr cs h4
 rw [List.flatMap_append,<- h3];refine List.ext_getElem? fun i=>?_
 simp only [List.flatMap_cons,List.flatMap_nil,List.append_nil];by_cases hi:i<n*L.size
 ·rw [List.getElem?_take_of_lt Zi,List.getElem?_append_left (by rw [List.length_take];omega),List.getElem?_take_of_lt hi,List.getElem?_set_ne Zi]
 have e2:(cur.take (n*L.size)).length=n*L.size:=by rw [List.length_take];omega
 rw [List.getElem?_append_right Zi,e2];by_cases hi2:i<(n+1)*L.size
 ·rw [List.getElem?_take_of_lt hi2];by_cases h7:i=n*L.size+o
  ·subst h7;rw [List.getElem?_set_self Zi,Nat.add_sub_cancel_left,List.getElem?_set_self Zi]
  rw [List.getElem?_set_ne Zi,List.getElem?_set_ne Zi];have hlt:i - n*L.size<cs.length:=by omega
  rw [List.getElem?_eq_getElem hlt];have:=h5 (i - n*L.size) _ (List.getElem?_eq_getElem hlt);rw [show n*L.size+(i - n*L.size)=i by omega] at this;exact this
 rw [List.getElem?_eq_none (by rw [List.length_take];omega),List.getElem?_eq_none (by rw [List.length_set];omega)]
def rawL:Lay (List Value) where
 size:=6
 rep:=fun _ d cs=>cs=d/\d.length=6/\∀ u∈d,u.oneCell'=true
 len:=fun h=>by rw [h.1];exact h.2.1
 mono:=fun _ h=>h
theorem Yhd:OneC rawL:=fun _ _ _ h u hu=>h.2.2 u (h.1 ▸ hu)
end Go.Lx
namespace Go.Proofs.YtfjopfinkdhmaaaGreatDoor
open Go.Lx Go.RowKit
attribute [local instance 10] Classical.propDecidable
open Go.Proofs.Tryz (prog)
structure Lev where
 k:Int
 l:Int
 c:Int
 kids:List Sexpr
def Lev.x (e:Lev):Sexpr:=.mk e.k 0 e.l e.c ⟨#[]⟩ e.kids
def Lev.add (e:Lev) (x:Sexpr):Lev:={e with kids:=e.kids++ [x]}
def lvC (e:Lev) (v:Value):List Value:=[Zk e.k,Zk 0,Zk e.l,Zk e.c,Ze,v]
def lvN:List Lev->Nat
 | []=>0
 | e::r=>e.kids.length+1+lvN r
def LvS (fz:FZ):List Lev->List (List Value)->HP->Prop
 | [],ls,H=>ls=[]/\H=[]
 | e::st,ls,H=>∃ ls' H' v Hl,ls=ls'++ [lvC e v]/\H=H'++Hl/\LvS fz st ls' H'/\Grow Yz 57 fz v e.kids.length Hl e.kids/\I64 e.k/\I64 e.l/\I64 e.c
variable {fz fz':FZ}
theorem LvS.mono (hle:Le fz fz'):∀ {st:List Lev} {ls:List (List Value)} {H:HP},LvS fz st ls H->LvS fz' st ls H
 | [],_,_,h=>h
 | _::_,_,_,⟨ls',H',v,Hl,h1,h2,h3,h4,h5⟩=>⟨ls',H',v,Hl,h1,h2,h3.mono hle,h4.mono hle,h5⟩
theorem LvS.len:∀ {st:List Lev} {ls:List (List Value)} {H:HP},LvS fz st ls H->ls.length=st.length
 | [],_,_,h=>by rw [h.1];rfl
 | _::_,_,_,⟨ls',H',v,Hl,h1,h2,h3,h4,h5⟩=>by rw [h1,List.length_append,h3.len];rfl
def RdS (fz:FZ) (gr:Nat) (t:Bs) (a n:Nat) (st:List Lev) (H:HP):Prop:=
 ∃ go cap cur ls Hk,H=(gr,rdO t a n (Zv go st.length cap))::(go,.cells (List.toArray cur) 57 (0,0))::Hk/\GrowB rawL 57 fz go st.length cap cur ls/\LvS fz st ls Hk
variable {H:HP} {n:Nat}
theorem RdS.mono (hle:Le fz fz') {gr:Nat} {t:Bs} {a:Nat} {st:List Lev} (h:RdS fz gr t a n st H):RdS fz' gr t a n st H:=by
 obtain ⟨go,cap,cur,ls,Hk,h1,h2,h3⟩:=h;exact ⟨go,cap,cur,ls,Hk,h1,h2.mono hle,h3.mono hle⟩
theorem Ym8:∀ {st:List Lev} {e:Lev},e∈st->e.kids.length<=lvN st
 | [],_,h=>by cases h
 | e::r,x,h=>by
  rcases List.mem_cons.1 h with rfl | h
  ·rw [lvN];omega
  have:=Ym8 h;rw [lvN];omega
theorem add_s {gr a:Nat} {t:Bs} {e:Lev} {st:List Lev} {X:Sexpr} {vx:Value} (h:RdS fz gr t a n (e::st) H) (hX:YS fz X vx) (hk:e.kids.length<=1000000) (hst:st.length<=900):
 GFn prog 134 [Zp gr,.agg #[Zk X.kind,Zk X.value,Zk X.line,Zk X.column,.string X.text,vx]] fz H
  (fun r fz' H'=>fz'=fz/\r=.tuple #[]/\RdS fz gr t a n (e.add X::st) H'):=by
 obtain ⟨go,cap,cur,ls,Hk,rfl,hB,ls',H',v,Hl,rfl,rfl,h3,h4,h5⟩:=h;have hl:=h3.len;have hcap:=hB.capn;rw [List.length_cons] at hB hcap ⊢;obtain ⟨cs,hc1,hc2⟩:=Ynt hB (j:=st.length) (d:=lvC e v) (by rw [List.getElem?_append_right Zi,hl,Nat.sub_self];rfl);have hcur:cur[(st.length+1 - 1)*6+5]?=some v:=by
  rw [Nat.add_sub_cancel];exact hc2 5 v (by rw [hc1.1];rfl)
 refine (add_f (Hb:=H') Zi hcap Zi hcur h4 hX hk).mono (fun r fz' H2 hr=>?_);obtain ⟨rfl,rfl,v',Hl',rfl,hG⟩:=hr;refine ⟨rfl,rfl,go,cap,_,ls'++ [lvC (e.add X) v'],H'++Hl',rfl,?_,ls',H',v',Hl',rfl,rfl,h3,by rw [show (e.add X).kids=e.kids++ [X] from rfl,List.length_append];exact hG,h5⟩;rw [Nat.add_sub_cancel];obtain ⟨Av,cv,rfl,_,_⟩:=hG.form;exact hB.cell (o:=5) Zh (fun cs hcs=>⟨by rw [hcs.1];rfl,rfl,by intro u hu;simp [lvC] at hu;rcases hu with rfl | rfl | rfl | rfl | rfl | rfl<;>rfl⟩)
def StopP (b:UInt8):Prop:=SepP b.toNat\/b=40\/b=41\/b=59
def tokL:List UInt8->Nat
 | []=>0
 | b::r=>if StopP b then 0 else 1+tokL r
def tokE (t:Bs) (a:Nat):Nat:=a+tokL (t.data.toList.drop a)
theorem Yia {t:Bs} {a:Nat} {b:UInt8} (h:t[a]?=some b) (hb:StopP b):tokE t a=a:=by
 unfold tokE;rw [Yao h,tokL,if_pos hb];rfl
theorem Yma {t:Bs} {a:Nat} {b:UInt8} (h:t[a]?=some b) (hb:¬StopP b):tokE t a=tokE t (a+1):=by
 unfold tokE;rw [Yao h,tokL,if_neg hb];omega
theorem tokE_end {t:Bs} {a:Nat} (h:t.size<=a):tokE t a=a:=by
 have:t.data.toList.drop a=[]:=List.drop_eq_nil_of_le (by rw [YaF];omega);unfold tokE;rw [this];rfl
theorem Yjv:∀ (l:List UInt8),tokL l<=l.length
 | []=>by simp [tokL]
 | b::r=>by
  have:=Yjv r;rw [tokL,List.length_cons];split<;>omega
def tokX (s:Bs) (p:Int × Int):Except Int Sexpr:=
 if NumP s then match numS s with
  | none=>.error 1
  | some v=>.ok (.mk 2 v p.1 p.2 ⟨#[]⟩ [])
 else if LowP s then .ok (.mk 1 0 p.1 p.2 (lowS s) []) else .error 8
def addM (a n:Nat) (X:Sexpr):List Lev->Except Int (Nat × Nat × List Lev)
 | []=>.error 0
 | e::r=>.ok (a,n,e.add X::r)
def tokM (t:Bs) (a n:Nat) (st:List Lev):Except Int (Nat × Nat × List Lev):=
 match tokX (t.extract a (tokE t a)) (posA t a) with
 | .error c=>.error c
 | .ok X=>if n=4096 then .error 5 else addM (tokE t a) (n+1) X st
def RdR (fz:FZ) (gr:Nat) (t:Bs) (a n:Nat) (st:List Lev) (x:Except Int (Nat × Nat × List Lev)) (v:Value) (H:HP):Prop:=
 match x with
 | .error c=>v=errV c/\RdS fz gr t a n st H
 | .ok (a',n',st')=>v=.nilIface/\RdS fz gr t a' n' st' H
def kPar:Bs:=⟨#[40,41,59]⟩
theorem YkL {b:UInt8} (h:¬SepP b.toNat):0<=Lib.indexByte kPar.data.toList ((b.toNat:Int).toNat).toUInt8↔StopP b:=by
 rw [Ydv,XN];show b∈ [40,41,59]↔_;unfold StopP;simp [h]
theorem Yl0:∀ (l:List UInt8) (n m:Nat),n<=1099511627776->valD l n=some m->m<=1099511627776
 | [],n,m,h,e=>by rw [valD] at e;injection e with e;omega
 | b::r,n,m,h,e=>by
  rw [valD] at e;split at e
  ·cases e
  exact Yl0 r _ m Zi e
theorem valS_le {s:Bs} {v:Int} (h:numS s=some v): -1099511627776<=v/\v<=1099511627776:=by
 unfold numS at h;cases hd:valD (W6 s Wm).data.toList 0 with
 | none=>rw [hd] at h;cases h
 | some m=>
  rw [hd] at h;have:=Yl0 _ _ _ Zh hd;have h:(if PreP s Wm then -(m:Int) else m)=v:=by simpa using h
  split at h<;>omega
set_option maxHeartbeats 8000000 in
theorem token_f {gr a:Nat} {t:Bs} {e:Lev} {st:List Lev} (h:RdS fz gr t a n (e::st) H) (ht:t.size<=1000000) (ha:a<=t.size) (hn:n<=4096) (hN:lvN (e::st)<=n+1) (hst:st.length<=900):
 GFn prog 135 [Zp gr] fz H (fun r fz' H'=>fz'=fz/\RdR fz gr t a n (e::st) (tokM t a n (e::st)) r H'):=by
 have hbd:=Yfr t a;have hek:e.kids.length<=1000000:=by have:=Ym8 (st:=e::st) (e:=e) (by simp);omega
 have h':=h;obtain ⟨go,cap,cur,ls,Hk,hH,hB,hL⟩:=h';subst hH;have hunf:=rdO.eq_1 t a n (Zv go (e::st).length cap);have hX0:tokM t a n (e::st)=match tokX (t.extract a (tokE t a)) (posA t a) with
  | .error c=>.error c
  | .ok X=>if n=4096 then .error 5 else addM (tokE t a) (n+1) X (e::st):=rfl
 have hEs:tokE t a<=t.size:=by
  have:=Yjv (t.data.toList.drop a);rw [List.length_drop,YaF] at this;unfold tokE;omega
 have hEa:a<=tokE t a:=by unfold tokE;omega
 generalize hrest:((go,Obj.cells (List.toArray cur) 57 (0,0))::Hk)=Hr at*;generalize hv0:(Zv go (e::st).length cap:Value)=v0 at*;rw [hunf];refine zF Tryz.func135 Tryz.ntmps135 (fun w0=>?_);refine zW ?_;refine Wp.drawK (Hq:=(gr,_)::Hr) T.mixed Zj Zj Zb ?_;refine zW ?_;refine Yf ?_;refine Yf ?_;refine YM ⟨by kernel_rfl,?_⟩;refine Yt (Y6 T Zz Zz (fun g3=>⟨(⟨(Le.refl _),Zp3⟩),?_⟩));refine Ch.hard0 Zj (YV T Zz Zz Zz Zz Zz Zz ?_);refine Ch.done ?_;refine zWX ?_;refine Yj ?_;refine zWX ?_;refine Yj ?_;refine zWX ?_;refine Yj (Wp.mid (fun σ fz' H'=>σ=[(5,Zk (tokE t a)),(4,Zk a),(3,Zp g3),(0,Zp gr)]/\fz=fz'/\H'=(g3,.cells #[Zk 0,Zk 0,Zk (posA t a).1,Zk (posA t a).2,Ze,Zn] 57 (0,0))::(gr,rdO t a n v0)::Hr) ?_ ?_)
 ·refine zW ?_;refine Ym (fun q σ fz' H'=>∃ k:Nat,k<=t.size/\q=t.size - k/\σ=[(5,Zk k),(4,Zk a),(3,Zp g3),(0,Zp gr)]/\fz=fz'/\H'=(g3,.cells #[Zk 0,Zk 0,Zk (posA t a).1,Zk (posA t a).2,Ze,Zn] 57 (0,0))::(gr,rdO t a n v0)::Hr/\tokE t k=tokE t a) ⟨a,ha,rfl,rfl,rfl,rfl,rfl⟩ Zw Zb ?_;rintro q σ fz' H' ⟨k,hk,rfl,rfl,rfl,rfl,hE⟩;rw [hunf];refine wC (fun c1=>?_) (fun c1=>?_)
  ·obtain ⟨b,hb,hb2⟩:=Wa (s:=t) (k:=k) Zi;refine wG ?_;refine Xr T Zz Zz Zz Zz Zi (by rw [Int.toNat_natCast];exact hb) ?_;refine wb (sep_q (n:=b.toNat)) (fun f1=>?_) (fun f1=>?_)
   ·rw [Yia hb (.inl (Zt f1))] at hE;subst hE;exact wN (h:=by exact ⟨rfl,rfl,rfl⟩)
   have hns:=Zf f1;refine wG ?_;refine Xr T Zz Zz Zz Zz Zi (by rw [Int.toNat_natCast];exact hb) ?_;refine wc (ibs_q (s:=kPar) (n:=b.toNat)) ?_;refine wC (fun c2=>?_) (fun c2=>?_)
   ·have hst:¬StopP b:=fun h=>by have:=(YkL hns).2 h;omega
    exact wP (h:=by exact ⟨k+1,by omega,rfl,rfl,rfl,rfl,by rw [<- Yma hb hst];exact hE⟩)
   rw [Yia hb ((YkL hns).1 Zi)] at hE;subst hE;exact wN (h:=by exact ⟨rfl,rfl,rfl⟩)
  rw [tokE_end Zi] at hE;subst hE;exact wN (h:=by exact ⟨rfl,rfl,rfl⟩)
 rintro σ fz' H' ⟨rfl,rfl,rfl⟩;generalize hE:tokE t a=E at*;rw [hunf];refine Yj ?_;refine zWX ?_;refine zG ?_;refine YmD T Zz Zz Zz Zz Zz hEa hEs ?_;refine zWX ?_;generalize hs:t.extract a E=s at*;have hsz:s.size<=1000000:=by rw [<- hs,ByteArray.size_extract];omega
 have hsh:Short s:=by unfold Short;omega
 refine Yj (Wp.mid (fun σ fz' H'=>∃ X:Sexpr,σ=[(5,Zk E),(3,Zp g3),(0,Zp gr)]/\fz=fz'/\H'=(g3,.cells #[Zk X.kind,Zk X.value,Zk X.line,Zk X.column,.string X.text,Zn] 57 (0,0))::(gr,rdO t a n v0)::Hr/\tokX s (posA t a)=.ok X/\YS fz' X Zn) ?_ ?_)
 ·refine wb (YiI hsh) (fun f1=>?_) (fun f1=>?_)
  ·have hnum:=Zt f1;have hX1:tokX s (posA t a)=match numS s with
    | none=>.error 1
    | some v=>.ok (.mk 2 v (posA t a).1 (posA t a).2 ⟨#[]⟩ []):=by unfold tokX;exact if_pos hnum
   have hcall:=value_q (fz:=fz) hsz hnum;cases hv:numS s with
   | none=>
    rw [hv] at hX1 hcall;have hX2:tokX s (posA t a)=.error 1:=hX1;rw [hX2] at hX0;refine wc hcall ?_;refine zW ?_;exact ret1 (H':=(gr,rdO t a n v0)::Hr) rfl rfl Zb ⟨rfl,by rw [hX0];exact ⟨(Yk Zh).symm,h⟩⟩
   | some v=>
    rw [hv] at hX1 hcall;have hvb:=valS_le hv;refine wc hcall ?_;exact wN (h:=by exact ⟨.mk 2 v (posA t a).1 (posA t a).2 ⟨#[]⟩ [],rfl,rfl,rfl,hX1,⟨by unfold I64;show _/\_;simp [Sexpr.kind],by show I64 v;unfold I64;omega,by show I64 (posA t a).1;unfold I64;omega,by show I64 (posA t a).2;unfold I64;omega,by show (ByteArray.mk #[]).size<=_;decide,IsSl.nil⟩⟩)
  have hnum:=Zf f1;have hX1:tokX s (posA t a)=if LowP s then .ok (.mk 1 0 (posA t a).1 (posA t a).2 (lowS s) []) else .error 8:=by unfold tokX;rw [if_neg hnum]
  have hcall:=YjP (fz:=fz) (s:=s);by_cases hl:LowP s
  ·rw [if_pos hl,decide_eq_true hl] at hcall;rw [if_pos hl] at hX1;refine wc hcall ?_;exact wN (h:=by exact ⟨.mk 1 0 (posA t a).1 (posA t a).2 (lowS s) [],rfl,rfl,rfl,hX1,⟨by unfold I64;show _/\_;simp [Sexpr.kind],by unfold I64;show _/\_;simp [Sexpr.value],by show I64 (posA t a).1;unfold I64;omega,by show I64 (posA t a).2;unfold I64;omega,by show (lowS s).size<=_;rw [YiN];exact hsh,IsSl.nil⟩⟩)
  rw [if_neg hl,decide_eq_false hl] at hcall;rw [if_neg hl] at hX1;rw [hX1] at hX0;refine wc hcall ?_;refine zW ?_;exact ret1 (H':=(gr,rdO t a n v0)::Hr) rfl rfl Zb ⟨rfl,by rw [hX0];exact ⟨(Yk Zh).symm,h⟩⟩
 rintro σ fz' H' ⟨X,rfl,rfl,rfl,hX1,hXR⟩;rw [hX1] at hX0;rw [hunf];refine wC (fun c4=>?_) (fun c4=>?_)
 ·have hn4:n=4096:=by omega
  refine zW ?_;exact ret1 (H':=(gr,rdO t a n v0)::Hr) rfl rfl Zb ⟨rfl,by rw [hX0];simp only [hn4,if_true];exact ⟨(Yk Zh).symm,hn4 ▸ h⟩⟩
 have hn4:¬n=4096:=by omega
 have hX3:tokM t a n (e::st)=.ok (E,n+1,e.add X::st):=by rw [hX0];simp only [hn4,if_false];rfl
 have h1:RdS fz gr t a (n+1) (e::st) ((gr,rdO t a (n+1:Nat) v0)::Hr):=by
  rw [<- hv0,<- hrest];exact ⟨go,cap,cur,ls,Hk,rfl,hB,hL⟩
 have hunf1:=rdO.eq_1 t a (n+1:Nat) v0;rw [hunf1] at h1;refine zW ?_;refine Ya Zz (Does.perm (Zq (l₁:=(gr,_)::Hr) (l₂:=[(g3,_)])) (Yx ((gr,_)::Hr) [(g3,_)] Zz Zz Zz (add_s h1 hXR hek hst) (fun r1 fz1 H1 hle1 hR1=>?_)));obtain ⟨rfl,rfl,hR1⟩:=hR1;have hR2:=hR1;obtain ⟨go1,cap1,cur1,ls1,Hk1,rfl,hB1,hL1⟩:=hR1;generalize hrest1:((go1,Obj.cells (List.toArray cur1) 57 (0,0))::Hk1)=Hr1 at*;generalize hv1:(Zv go1 (e.add X::st).length cap1:Value)=v1 at*;rw [List.cons_append];refine zW ?_;refine Ym (fun q σ fz' H'=>∃ k:Nat,k<=E/\q=E - k/\σ=[(5,Zk E),(0,Zp gr)]/\fz1=fz'/\H'=(gr,rdO t k (n+1:Nat) v1)::Hr1) ⟨a,hEa,rfl,rfl,rfl,rfl⟩ Zw (List.Sublist.cons_cons _ (List.sublist_append_left _ _)) ?_;rintro q σ fz' H' ⟨k,hk,rfl,rfl,rfl,rfl⟩;have hunf2:=rdO.eq_1 t k (n+1:Nat) v1;rw [hunf2];refine wC (fun c5=>?_) (fun c5=>?_)
 ·refine zW ?_;refine Ya Zz (Yx [(gr,rdO t k (n+1:Nat) v1)] Hr1 Zz Zz Zz (Ykz ht Zi) (fun r2 fz2 H2 hle2 hR3=>?_));obtain ⟨rfl,rfl,rfl⟩:=hR3;exact wP (h:=by exact ⟨k+1,by omega,rfl,rfl,rfl,rfl⟩)
 have hkE:k=E:=by omega
 subst hkE;refine zW ?_;exact ret1 (H':=(gr,rdO t k (n+1:Nat) v1)::Hr1) rfl rfl Zb ⟨rfl,by rw [hX3];exact ⟨rfl,go1,cap1,cur1,ls1,Hk1,by rw [<- hv1,<- hrest1],hB1,hL1⟩⟩
end Go.Proofs.YtfjopfinkdhmaaaGreatDoor
namespace Go.Lx
open Go.RowKit
section
variable {P:Program} {cx:Cx} {r:Operand->Option Value} {fz:FZ} {H:HP} {V:Value->Prop} {dst:Option Nat} {ty:TypeId} {pos:String} {af:Array Edge} {gd:Option (Nat × Bool)}
variable {A:Option Addr} {X Y:Ty} {j n:Nat} {t:TypeId}
theorem Yiq (T:Tab P) {e:TypeId} {x i:Operand} {c:Nat} (hT:T.inf t=some X) (hd:X.desc=.slice e) (hY:T.inf e=some Y)
 (hx:r x=some (.slice A n c)) (hi:r i=some (Zk j)) (hj:j<=c) (h:V (.slice A j c)):DoesQ P cx ⟨dst,.slice t x none (some i) none,ty,pos,af,gd⟩ r fz H V:=
 YJ (fun ρ w hr=>by
  have hu:=run_underlying (und_plain T hT hd rfl) w;have hs:=Lx.run_sizeOf T hY w;simp [execOp,hr _ _ hx,hr _ _ hi,Instr.sliceAt,Instr.slice,Instr.sliceBounds,Instr.sliceBound,asIntOf,hu,hs,hj];intro _;cases A<;>simp [Addr.add]) h
end
variable {fz:FZ} {g j n:Nat}
theorem gB_cut {α:Type} {L:Lay α} {e:Nat} {cap:Nat} {cur:List Value} {l:List α} (h:GrowB L e fz g n cap cur l) {d:α} (hj:l[j]?=some d):∃ cs,L.rep fz d cs/\(cur.drop (j*L.size)).take L.size=cs:=by
 obtain ⟨cs,h1,h2⟩:=Ynt h hj;have hl:=L.len h1;refine ⟨cs,h1,List.ext_getElem? fun i=>?_⟩;by_cases hi:i<L.size
 ·rw [List.getElem?_take_of_lt hi,List.getElem?_drop,List.getElem?_eq_getElem (by omega:i<cs.length)];exact h2 i _ (List.getElem?_eq_getElem Zi)
 rw [List.getElem?_eq_none (by rw [List.length_take];omega),List.getElem?_eq_none Zi]
end Go.Lx
namespace Go.Proofs.YtfjopfinkdhmaaaGreatDoor
open Go.Lx Go.RowKit
attribute [local instance 10] Classical.propDecidable
open Go.Proofs.Tryz (prog)
def YcF (t:Bs) (a n:Nat) (st:List Lev):Except Int (Nat × Nat × List Lev):=
 match t[a]? with
 | none=>.error 0
 | some b=>
  if b=40 then if 32<st.length\/n=4096 then .error 5 else .ok (a+1,n+1,⟨3,(posA t a).1,(posA t a).2,[]⟩::st)
  else if b=41 then match st with
   | e::e2::r=>.ok (a+1,n,e2.add e.x::r)
   | _=>.error 2
  else tokM t a n st
variable {H:HP} {fz:FZ} {n:Nat}
set_option maxHeartbeats 8000000 in
theorem next_f {gr a:Nat} {t:Bs} {e:Lev} {st:List Lev} (h:RdS fz gr t a n (e::st) H) (ht:t.size<=1000000) (ha:a<t.size) (hn:n<=4096) (hN:lvN (e::st)<=n+1) (hst:st.length<=40):
 GFn prog 86 [Zp gr] fz H (fun r fz' H'=>Le fz fz'/\RdR fz' gr t a n (e::st) (YcF t a n (e::st)) r H'):=by
 have hbd:=Yfr t a;have h0:=h;obtain ⟨b,hb,hb2⟩:=Wa ha;have hM:YcF t a n (e::st)=if b=40 then if 32<(e::st).length\/n=4096 then .error 5 else .ok (a+1,n+1,⟨3,(posA t a).1,(posA t a).2,[]⟩::e::st)
  else if b=41 then (match e::st with
   | e::e2::r=>.ok (a+1,n,e2.add e.x::r)
   | _=>.error 2)
  else tokM t a n (e::st):=by
   unfold YcF;rw [hb]
 have hlen:(e::st).length=st.length+1:=List.length_cons;obtain ⟨go,cap,cur,ls,Hk,rfl,hB,hL⟩:=h;have hcap:=hB.capn;have hunf:=rdO.eq_1 t a n (Zv go (e::st).length cap);rw [hunf];refine zF Tryz.func86 Tryz.ntmps86 (fun w0=>?_);refine wG ?_;refine Xr T Zz Zz Zz Zz Zi (by rw [Int.toNat_natCast];exact hb) ?_;refine QL.done ?_;refine YdD ?_;refine Wp.mid (fun σ fz' H'=>∃ (n':Nat) (st':List Lev),σ=[(0,Zp gr)]/\Le fz fz'/\RdS fz' gr t a n' st' H'/\YcF t a n (e::st)=.ok (a+1,n',st')) ?_ ?_
 ·refine wC (fun c1=>?_) (fun c1=>?_)
  ·have hb1:b=40:=by rw [<- UInt8.toNat_inj];show b.toNat=40;omega
   rw [if_pos hb1] at hM;refine wC (fun c2=>?_) (fun c2=>?_)
   ·refine zW ?_;exact ret1 (H':=(gr,rdO t a n _)::(go,_)::Hk) rfl rfl Zb ⟨Le.refl _,by rw [hM,if_pos (.inl (by rw [List.length_cons] at c2 ⊢;omega))];exact ⟨(Yk Zh).symm,h0⟩⟩
   refine wC (fun c3=>?_) (fun c3=>?_)
   ·refine zW ?_;exact ret1 (H':=(gr,rdO t a n _)::(go,_)::Hk) rfl rfl Zb ⟨Le.refl _,by rw [hM,if_pos (.inr Zi)];exact ⟨(Yk Zh).symm,h0⟩⟩
   rw [if_neg (by rintro (h | h);rw [List.length_cons] at c2 h;omega;omega)] at hM;refine zW ?_;refine Wp.drawP [18,19] (Hq:=(gr,_)::Hk) T.mixed Zj Zj Zb ?_;refine zW ?_;refine Ye ?_;refine Ye ?_;refine Ye ?_;refine Ye ?_;refine PK.p Zz (fun fz'=>by first | exact WH Zz rfl | exact XE Zz rfl | exact YT T Zz Zz Zz Zz Zz Zz rfl | exact Yaz Zz Zz (XD Zi) rfl | exact YQ T Zz Zz Zz rfl) ?_;refine PK.p Zz (fun fz'=>by first | exact WH Zz rfl | exact XE Zz rfl | exact YT T Zz Zz Zz Zz Zz Zz rfl | exact Yaz Zz Zz (XD Zi) rfl | exact YQ T Zz Zz Zz rfl) ?_;refine Ye ?_;refine PK.done ⟨by kernel_rfl,?_⟩;refine Yc Zz Zz ?_;refine Yd (Yb T (cs:=zroC) Zz Zz Zz Zz Zz Zz Zz Zz (fun gb=>⟨⟨Le.refl _,fun p hp=>by rcases List.mem_cons.1 hp with rfl | hp<;>simp [*]⟩,?_⟩));refine Yc Zz Zz ?_;refine Yd (YiS T (Hr:=(gb,_)::(gr,_)::Hk) (ys:=[(zroC,zroC)]) (l2:=[zroC]) (m:=1) Zz Zz Zz Zz Zz Zz Zz Zz (((Zq (l₁:=[_]) (l₂:=Hk)).cons _).cons _) hB.grow Yhd (.head _) (List.append_nil _).symm rfl (by intro p hp;simp at hp;subst hp;exact ⟨rfl,rfl,by decide⟩) rfl (by show _*72<=_;omega) Zi (fun v' Hs' hO'=>⟨⟨Le.refl _,fun p hp=>by rcases List.mem_cons.1 hp with rfl | hp<;>simp [*]⟩,?_⟩));obtain ⟨gk,cap2,cur1,rfl,rfl,hB1⟩:=hO'.b Zi;have hfin:∀ cur2,GrowB rawL 57 fz gk ((e::st).length+1) cap2 cur2 ((ls++ [zroC]).set (e::st).length (lvC ⟨3,(posA t a).1,(posA t a).2,[]⟩ Zn))->
    RdS fz gr t a (n+1) (⟨3,(posA t a).1,(posA t a).2,[]⟩::e::st) ((gr,rdO t a (n+1:Nat) (Zv gk ((e::st).length+1) cap2))::(gk,.cells (List.toArray cur2) 57 (0,0))::Hk):=by
    intro cur2 h2;rw [Yg8 hB.len] at h2;exact ⟨gk,cap2,cur2,_,Hk,rfl,h2,ls,Hk,Zn,[],rfl,(List.append_nil _).symm,hL,Grow.nil _ _ _,by unfold I64;show _/\_;simp,by unfold I64;show _/\_;constructor<;>(simp only [];omega),by unfold I64;show _/\_;constructor<;>(simp only [];omega)⟩
   have hraw:rawL.rep fz (lvC ⟨3,(posA t a).1,(posA t a).2,[]⟩ Zn) [Zk 3,Zk 0,Zk (posA t a).1,Zk (posA t a).2,Ze,Zn]:=⟨rfl,rfl,by intro u hu;simp [lvC] at hu;rcases hu with rfl | rfl | rfl | rfl | rfl | rfl<;>rfl⟩;refine YI Zz Zz Zz ?_ ?_
   ·refine PoS.hard Zj (DoesQ.does (YC T Zz Zz Zz Zz Zz rfl Zi Zi ?_));refine YI Zz Zz Zz ?_ ?_
    ·refine PoS.hard0 Zj (Yy T (pre:=(gb,_)::(gr,_)::Hk) (L:=rawL) (j:=(e::st).length) Zz Zz Zz rfl rfl Zz Yhd hraw hB1 Zi (fun cur2 hB2=>?_));refine Yc Zz Zz ?_;refine PoS.hard0 Zj (YU T Zz Zz Zz Zz Zz Zz ?_);refine Po.done ?_;refine zW ?_;exact midP (((Zq (l₁:=[_]) (l₂:=Hk)).cons _).cons _) ⟨n+1,_,rfl,Le.refl _,hfin cur2 hB2,hM⟩ Zw Zb
    refine PoS.hard0 Zj (YU T Zz Zz Zz Zz Zz Zz ?_);refine Yc Zz Zz ?_;refine PoS.hard0 Zj (Yy T (pre:=(gb,_)::(gr,_)::Hk) (L:=rawL) (j:=(e::st).length) Zz Zz Zz rfl rfl Zz Yhd hraw hB1 Zi (fun cur2 hB2=>?_));refine Po.done ?_;refine zW ?_;exact midP (((Zq (l₁:=[_]) (l₂:=Hk)).cons _).cons _) ⟨n+1,_,rfl,Le.refl _,hfin cur2 hB2,hM⟩ Zw Zb
   refine PoS.hard0 Zj (YU T Zz Zz Zz Zz Zz Zz ?_);refine Yc Zz Zz ?_;refine PoS.hard Zj (DoesQ.does (YC T Zz Zz Zz Zz Zz rfl Zi Zi ?_));refine Yc Zz Zz ?_;refine PoS.hard0 Zj (Yy T (pre:=(gb,_)::(gr,_)::Hk) (L:=rawL) (j:=(e::st).length) Zz Zz Zz rfl rfl Zz Yhd hraw hB1 Zi (fun cur2 hB2=>?_));refine Po.done ?_;refine zW ?_;exact midP (((Zq (l₁:=[_]) (l₂:=Hk)).cons _).cons _) ⟨n+1,_,rfl,Le.refl _,hfin cur2 hB2,hM⟩ Zw Zb
  have hb1:¬b=40:=fun h=>c1 (by rw [h];rfl)
  rw [if_neg hb1] at hM;refine wC (fun c2=>?_) (fun c2=>?_)
  ·have hb2:b=41:=by rw [<- UInt8.toNat_inj];show b.toNat=41;omega
   rw [if_pos hb2] at hM;refine wC (fun c3=>?_) (fun c3=>?_)
   ·have hst0:st=[]:=List.eq_nil_of_length_eq_zero (by rw [List.length_cons] at c3;omega);subst hst0;refine zW ?_;exact ret1 (H':=(gr,rdO t a n _)::(go,_)::Hk) rfl rfl Zb ⟨Le.refl _,by rw [hM];exact ⟨(Yk Zh).symm,h0⟩⟩
   obtain _ | ⟨e2,st2⟩:=st
   ·exact absurd rfl c3
   obtain ⟨ls',H',v,Hl,rfl,rfl,hL',hG,hI⟩:=hL;obtain ⟨Av,cv,rfl,_,_⟩:=hG.form;have hl':=hL'.len;obtain ⟨cs,hc1,hc2⟩:=gB_cut hB (j:=(e2::st2).length) (d:=lvC e (.slice Av e.kids.length cv)) (by rw [List.getElem?_append_right Zi,hl',Nat.sub_self];rfl);have hc3:=hc1.1;subst hc3;have e1:(((e::e2::st2).length:Nat):Int) - 1=((e2::st2).length:Nat):=by omega
   rw [e1];have hek:e.kids.length<=1000000:=by have:=Ym8 (st:=e::e2::st2) (e:=e) (by simp);omega
   have hek2:e2.kids.length<=1000000:=by have:=Ym8 (st:=e::e2::st2) (e:=e2) (by simp);omega
   have hln2:st2.length<=900:=by rw [List.length_cons] at hst;omega
   refine wG ?_;refine YC T Zz Zz Zz Zz Zz rfl Zi Zi ?_;refine zG ?_;refine Yo (vs:=lvC e (.slice Av e.kids.length cv)) T 1 Zz Zz Zz Zz hc2 Zz ?_;refine zW ?_;intros;refine zG ?_;refine Yiq T Zz Zz Zz Zz Zz Zi ?_;refine zW ?_;refine Seq.freezeAll (H1:=(_,_)::(gr,_)::(go,_)::H') (H2:=Hl) (Zr _) (fun fz1 hle1 hf1=>?_);rename_i g4;obtain ⟨A1,c1',hv1,hS1⟩:=hG.sl hle1 hf1 Zi;injection hv1 with hv1 hv2 hv3
   subst hv1 hv3;have hXR:YS fz1 e.x (.slice Av e.kids.length cv):=⟨hI.1,by unfold I64;show _/\_;simp [Lev.x,Sexpr.value],hI.2.1,hI.2.2,by show (ByteArray.mk #[]).size<=_;decide,⟨_,_,_,rfl,hS1⟩⟩;have h1:RdS fz1 gr t a n (e2::st2) ((gr,rdO t a n (Zv go (e2::st2).length cap))::(go,.cells (List.toArray cur) 57 (0,0))::H'):=⟨go,cap,cur,ls',H',rfl,hB.pop.mono hle1,hL'.mono hle1⟩;refine Ya Zz (Does.perm (Zq (l₁:=(gr,_)::(go,_)::H') (l₂:=[(g4,_)])) (Yx ((gr,_)::(go,_)::H') [(g4,_)] Zz Zz Zz (add_s h1 hXR hek2 hln2) (fun r1 fz2 H2 hle2 hR1=>?_)));obtain ⟨rfl,rfl,hR1⟩:=hR1;refine zW ?_;exact midN ⟨n,_,rfl,hle1,hR1,hM⟩ Zw (List.sublist_append_left _ _)
  have hb2:¬b=41:=fun h=>c2 (by rw [h];rfl)
  rw [if_neg hb2] at hM;refine zW ?_;refine Ya Zz (Yx ((gr,_)::(go,_)::Hk) [] (List.append_nil _).symm Zz Zz (token_f h0 ht Zi hn hN Zi) (fun r1 fz1 H1 hle1 hR1=>?_));obtain ⟨rfl,hR1⟩:=hR1;refine zW ?_;exact ret1 (H':=H1) rfl rfl (List.sublist_append_left _ _) ⟨Le.refl _,by rw [hM];exact hR1⟩
 rintro σ fz' H' ⟨n',st',rfl,hle,hR,hM2⟩;obtain ⟨go1,cap1,cur1,ls1,Hk1,rfl,hB1,hL1⟩:=hR;refine zW ?_;refine Ya Zz (Yx [(gr,rdO t a n' _)] ((go1,_)::Hk1) Zz Zz Zz (Ykz ht ha) (fun r2 fz2 H2 hle2 hR3=>?_));obtain ⟨rfl,rfl,rfl⟩:=hR3;refine zW ?_;exact ret1 (H':=(gr,rdO t (a+1) n' _)::(go1,_)::Hk1) rfl rfl Zb ⟨hle,by rw [hM2];exact ⟨rfl,go1,cap1,cur1,ls1,Hk1,rfl,hB1,hL1⟩⟩
end Go.Proofs.YtfjopfinkdhmaaaGreatDoor
namespace Go.Lx
open Go.RowKit
section
variable {P:Program} {cx:Cx} {r:Operand->Option Value} {fz:FZ} {H:HP} {dst:Option Nat} {ty:TypeId} {pos:String} {af:Array Edge} {gd:Option (Nat × Bool)}
variable {X Y:Ty} {t:TypeId} {y:Operand}
theorem YjT (T:Tab P) {e:TypeId} {x:Operand} {k1 k2:IntKind} {l c:Nat} {K:Value->FZ->HP->Prop} (hT:T.inf t=some X) (hd:X.desc=.slice e) (hY:T.inf e=some Y) (hzs:Nat.beq Y.zero.cells.toList.length Y.size=true)
 (hx:r x=some (.int k1 l)) (hy:r y=some (.int k2 c)) (hlc:l<=c) (hb:c*Y.bytes<=1099511627776) (hc:c<=1099511627776)
 (h:∀ g,K (Zv g l c) fz ((g,.cells (repZ Y.zero.cells.toList c).toArray e (0,0))::H)):Does P cx ⟨dst,.makeSlice t x y,ty,pos,af,gd⟩ r fz H K:=by
 unfold Does;intro ρ w hr hw;have hu:=und_plain T hT hd rfl;have hsz:=run_sizeOf T hY w;have hzr:=YcZ T hY w;obtain ⟨inf,hi,i1,i2,i3⟩:=(T.ok_ hY).info;have hwq:IntKind.i64.wrap (c:Int)=c:=XD Zi;have hwl:IntKind.i64.wrap (l:Int)=l:=XD Zi;have hti:(typeInfo e).run P w=.ok inf w:=by simp [typeInfo,hi]
 have hrow:=Ymz Y.zero.cells c Y.size (by simpa using Nat.eq_of_beq_eq_true hzs);have hroom:∀ w,(askRoom (c*Y.bytes)).run P w=.ok () w:=fun w=>by
  unfold askRoom roomBytes;rw [if_neg Zi];rfl
 have hcomm:Y.bytes*c=c*Y.bytes:=Nat.mul_comm _ _;have hcond:(((decide ((c:Int)<0) || decide (((Y.bytes:Int))*(c:Int)>2 ^ 48)) || decide ((l:Int)<0)) || decide ((l:Int)>(c:Int)))=false:=by
  have h5:¬((Y.bytes:Int)*(c:Int)>2 ^ 48):=by
   have:((Y.bytes*c:Nat):Int)<=1099511627776:=by omega
   rw [Int.natCast_mul] at this;omega
  simp;omega
 have:(execOp ρ ⟨dst,.makeSlice t x y,ty,pos,af,gd⟩).run P w=.ok (.value (.slice (some ⟨w.heap.size,0,none⟩) l c)) (w.alloc (.cells (repZ Y.zero.cells.toList c).toArray e (0,0))):=by
  simp only [execOp,hr _ _ hx,hr _ _ hy,Instr.makeSlice,Sem.run_bind,run_underlying hu w,Result.andThen_ok,asInt,asIntOf,Sem.run_pure,hti,i2,hwq,hwl];rw [if_neg (by rw [hcond];simp)];simp only [Sem.run_bind,Int.toNat_natCast,hroom,Result.andThen_ok,hsz];by_cases h0:c*Y.size=0
  ·have hnil:(repZ Y.zero.cells.toList c).toArray=#[]:=by rw [<- hrow,h0];simp
   simp only [if_pos h0,Sem.run_bind,Sem.run_pure,Result.andThen_ok,hnil,newRow,newObj,Sem.run];rw [h0,show Array.range 0=#[] from rfl,Array.map_empty];rfl
  simp only [if_neg h0,Sem.run_bind,Sem.run_pure,Result.andThen_ok,hzr,hrow,newRow,newObj,Sem.run];rfl
 rw [this];exact ⟨fz,_,hw.alloc _,h _⟩
end
end Go.Lx
namespace Go.Proofs.YtfjopfinkdhmaaaGreatDoor
open Go.Lx Go.RowKit
attribute [local instance 10] Classical.propDecidable
open Go.Proofs.Tryz (prog)
def LevI (n:Nat) (st:List Lev):Prop:=st≠ []/\lvN st<=n+1/\st.length<=33/\n<=4096
theorem Ycx:∀ (l:List UInt8) (m:Bool) (b:UInt8) (r:List UInt8),l.drop (YaJ m l)=b::r->¬SepP b.toNat/\b≠59
 | [],m,b,r,h=>by simp at h
 | x::l,true,b,r,h=>by
  rw [YaJ] at h;split at h
  ·rw [Nat.add_comm,List.drop_succ_cons] at h;exact Ycx l false b r h
  rw [Nat.add_comm,List.drop_succ_cons] at h;exact Ycx l true b r h
 | x::l,false,b,r,h=>by
  rw [YaJ] at h;split at h
  ·rw [Nat.add_comm,List.drop_succ_cons] at h;exact Ycx l false b r h
  rename_i h1;split at h
  ·rw [Nat.add_comm,List.drop_succ_cons] at h;exact Ycx l true b r h
  rename_i h2;rw [List.drop_zero] at h;injection h with h3 h4
  subst h3;exact ⟨h1,h2⟩
theorem Ylp {t:Bs} {a:Nat} {b:UInt8} (h:t[XY false t a]?=some b):¬SepP b.toNat/\b≠59:=by
 have h1:=Yao h;rw [XY,<- List.drop_drop] at h1;exact Ycx _ false b _ h1
theorem skipA_ge {m:Bool} {t:Bs} {a:Nat}:a<=XY m t a:=by unfold XY;omega
theorem tokE_le {t:Bs} {a:Nat} (h:a<=t.size):tokE t a<=t.size:=by
 have:=Yjv (t.data.toList.drop a);rw [List.length_drop,YaF] at this;unfold tokE;omega
variable {n:Nat}
theorem next_ok {t:Bs} {a a' n':Nat} {st st':List Lev} (h:YcF t a n st=.ok (a',n',st')) (ha:a<t.size) (hs:∀ b,t[a]?=some b->¬SepP b.toNat/\b≠59) (hI:LevI n st):a<a'/\a'<=t.size/\LevI n' st':=by
 obtain ⟨b,hb,hb2⟩:=Wa ha;obtain ⟨i1,i2,i3,i4⟩:=hI;have hs:=hs b hb;unfold YcF at h;rw [hb] at h;simp only at h;split at h
 ·split at h
  ·cases h
  rename_i h1;injection h with h
  injection h with h2 h3
  injection h3 with h3 h4
  subst h2 h3 h4;rw [not_or] at h1;exact ⟨by omega,by omega,by simp,by rw [lvN];simp only [List.length_nil];omega,by rw [List.length_cons];omega,by omega⟩
 rename_i h40;split at h
 ·split at h
  ·rename_i e e2 r _;injection h with h
   injection h with h2 h3
   injection h3 with h3 h4
   subst h2 h3 h4;simp only [lvN,Lev.add,List.length_append,List.length_cons,List.length_nil] at i2 i3 ⊢;exact ⟨by omega,by omega,by simp,by simp only [lvN,List.length_append,List.length_cons,List.length_nil];omega,by simp only [List.length_cons];omega,by omega⟩
  cases h
 rename_i h41;have hst:¬StopP b:=by
  rintro (h5 | h5 | h5 | h5)
  ·exact hs.1 h5
  ·exact h40 h5
  ·exact h41 h5
  exact hs.2 h5
 unfold tokM at h;split at h
 ·cases h
 split at h
 ·cases h
 unfold addM at h;split at h
 ·cases h
 rename_i e r;injection h with h
 injection h with h2 h3
 injection h3 with h3 h4
 subst h2 h3 h4;have h6:a+1<=tokE t a:=by rw [Yma hb hst];unfold tokE;omega
 simp only [lvN,Lev.add,List.length_cons] at i2 i3;exact ⟨by omega,tokE_le Zi,by simp,by simp only [lvN,Lev.add,List.length_append,List.length_cons,List.length_nil];omega,by simp only [List.length_cons];omega,by omega⟩
theorem next_err {t:Bs} {a:Nat} {st:List Lev} {c:Int} (h:YcF t a n st=.error c) (ha:a<t.size) (hst:st≠ []):c≠0:=by
 obtain ⟨b,hb,hb2⟩:=Wa ha;unfold YcF at h;rw [hb] at h;simp only at h;split at h
 ·split at h
  ·injection h with h;subst h;decide
  cases h
 split at h
 ·split at h
  ·cases h
  injection h with h;subst h;decide
 unfold tokM at h;split at h
 ·rename_i h1;injection h with h
  subst h;unfold tokX at h1;split at h1
  ·split at h1
   ·injection h1 with h1;subst h1;decide
   cases h1
  split at h1
  ·cases h1
  injection h1 with h1;subst h1;decide
 split at h
 ·injection h with h;subst h;decide
 unfold addM at h;split at h
 ·exact absurd rfl hst
 cases h
def endM:List Lev->Except (Int × Int × Int) (List Sexpr)
 | []=>.error (0,0,0)
 | [e]=>.ok e.kids
 | e::_::_=>.error (e.l,e.c,2)
def YaM (t:Bs):Nat->Nat->Nat->List Lev->Except (Int × Int × Int) (List Sexpr)
 | 0,_,_,_=>.error (0,0,0)
 | f+1,a,n,st=>
  if t.size<=XY false t a then endM st
  else match YcF t (XY false t a) n st with
   | .error c=>.error ((posA t (XY false t a)).1,(posA t (XY false t a)).2,c)
   | .ok (a',n',st')=>YaM t f a' n' st'
theorem Yay {t:Bs} {f a:Nat} {st:List Lev}:YaM t (f+1) a n st=if t.size<=XY false t a then endM st
 else match YcF t (XY false t a) n st with
  | .error c=>.error ((posA t (XY false t a)).1,(posA t (XY false t a)).2,c)
  | .ok (a',n',st')=>YaM t f a' n' st':=rfl
def YdH (t:Bs):Except (Int × Int × Int) (List Sexpr):=
 if 65536<t.size then .error (0,0,5) else YaM t (t.size+1) 0 0 [⟨0,0,0,[]⟩]
def ReadR (fz:FZ) (x:Except (Int × Int × Int) (List Sexpr)) (v:Value):Prop:=
 match x with
 | .error (l,c,e)=>v=.tuple #[.slice none 0 0,.int .i64 l,.int .i64 c,errV e]/\e≠0/\I64 l/\I64 c
 | .ok xs=>∃ A n c,v=.tuple #[.slice A n c,.int .i64 0,.int .i64 0,.nilIface]/\Sl Yz fz A n c xs
variable {fz:FZ}
set_option maxHeartbeats 8000000 in
theorem read_f {t:Bs}:GFn prog 33 [.string t] fz [] (fun r fz' H'=>H'=[]/\ReadR fz' (YdH t) r):=by
 have hM:YdH t=if 65536<t.size then .error (0,0,5) else YaM t (t.size+1) 0 0 [⟨0,0,0,[]⟩]:=rfl
 refine zF Tryz.func33 Tryz.ntmps33 (fun w0=>?_);refine wC (fun c1=>?_) (fun c1=>?_)
 ·rw [if_pos Zi] at hM;refine zW ?_;exact YN T (vs:=[Zn,Zk 0,Zk 0,.iface 65 (Zk 5)]) Zz ⟨rfl,rfl,rfl,rfl,trivial⟩ (fun fz3 hle3 hf3=>⟨rfl,by rw [hM];exact ⟨rfl,by decide,i64z,i64z⟩⟩)
 rw [if_neg Zi] at hM;refine zW ?_;refine Ya Zz (YjT (l:=1) (c:=1) T Zz Zz Zz Zz Zz Zz Zh Zh Zh (fun go=>?_));refine zW ?_;intros;rename_i gr;have ht:t.size<=1000000:=by omega
 refine Ya Zz (Yx [(gr,rdO t 0 0 (Zv go 1 1))] [(go,_)] Zz Zz Zz (skip_f (n:=0) ht (Z0 _)) (fun r1 fz1 H1 hle1 hR1=>?_));obtain ⟨rfl,rfl,rfl⟩:=hR1;have h1:RdS fz1 gr t (XY false t 0) 0 [⟨0,0,0,[]⟩] ((gr,rdO t (XY false t 0) 0 (Zv go 1 1))::(go,.cells zroC.toArray 57 (0,0)):: []):=by
  exact ⟨go,1,zroC,[zroC],[],rfl,⟨⟨[(zroC,zroC)],rfl,by intro p hp;simp at hp;subst hp;exact ⟨rfl,rfl,by decide⟩,rfl⟩,rfl,by decide,by decide,rfl⟩,[],[],Zn,[],rfl,rfl,⟨rfl,rfl⟩,Grow.nil _ _ _,i64z,i64z,i64z⟩
 refine zW ?_;refine Ym (fun q σ fz' H'=>∃ (f a n:Nat) (st:List Lev),q=f/\σ=[(6,Zp gr),(0,.string t)]/\Le fz1 fz'/\RdS fz' gr t (XY false t a) n st H'/\a<=t.size/\LevI n st/\t.size - a<f/\YdH t=YaM t f a n st) ⟨t.size+1,0,0,_,rfl,rfl,Le.refl _,h1,Z0 _,⟨by simp,by simp [lvN],by simp,by decide⟩,by omega,hM⟩ Zw Zb ?_;rintro q σ fz' H' ⟨f,a,n,st,rfl,rfl,hle,hR,ha,hI,hf,hG⟩;obtain _ | q:=q
 ·omega
 have hR0:=hR;obtain ⟨g2,cap,cur,ls,Hk,rfl,hB,hL⟩:=hR;have hunf:=rdO.eq_1 t (XY false t a) n (Zv g2 st.length cap);have hbd:=Yfr t (XY false t a);have hcap:=hB.capn;rw [hunf];rw [Yay] at hG;obtain ⟨i1,i2,i3,i4⟩:=hI;obtain _ | ⟨e,st⟩:=st
 ·exact absurd rfl i1
 refine wC (fun c2=>?_) (fun c2=>?_)
 ·rw [if_neg Zi] at hG;refine zW ?_;refine Ya Zz (Yx ((gr,_)::(g2,_)::Hk) [] (List.append_nil _).symm Zz Zz (next_f hR0 ht Zi i4 i2 (by rw [List.length_cons] at i3;omega)) (fun r1 fz2 H1 hle1 hR1=>?_));obtain ⟨_,hR1⟩:=hR1;cases hN:YcF t (XY false t a) n (e::st) with
  | error c=>
   rw [hN] at hG hR1;have hc:=next_err hN Zi (by simp);obtain ⟨rfl,go3,cap3,cur3,ls3,Hk3,rfl,hB3,hL3⟩:=hR1;have hunf3:=rdO.eq_1 t (XY false t a) n (Zv go3 (e::st).length cap3);rw [hunf3,Yk hc];refine zW ?_;exact YN T (vs:=[Zn,Zk (posA t (XY false t a)).1,Zk (posA t (XY false t a)).2,.iface 65 (Zk c)]) Zz ⟨rfl,rfl,rfl,rfl,trivial⟩ (fun fz3 hle3 hf3=>⟨rfl,by rw [hG];exact ⟨by rw [Yk hc],hc,by unfold I64;omega,by unfold I64;omega⟩⟩)
  | ok x=>
   obtain ⟨a',n',st'⟩:=x;rw [hN] at hG hR1;obtain ⟨rfl,hR2⟩:=hR1;obtain ⟨j1,j2,j3⟩:=next_ok hN Zi (fun b hb=>Ylp hb) ⟨i1,i2,i3,i4⟩;obtain ⟨go3,cap3,cur3,ls3,Hk3,rfl,hB3,hL3⟩:=hR2;have hag:=skipA_ge (m:=false) (t:=t) (a:=a);rw [List.append_nil];refine zW ?_;refine Ya Zz (Yx [(gr,rdO t a' n' (Zv go3 st'.length cap3))] ((go3,_)::Hk3) Zz Zz Zz (skip_f ht j2) (fun r4 fz4 H4 hle4 hR4=>?_));obtain ⟨rfl,rfl,rfl⟩:=hR4;exact wP (h:=by exact ⟨q,a',n',st',rfl,rfl,hle.trans hle1,⟨go3,cap3,cur3,ls3,Hk3,rfl,hB3,hL3⟩,j2,j3,by omega,hG⟩)
 rw [if_pos Zi] at hG;refine wC (fun c3=>?_) (fun c3=>?_)
 ·obtain _ | ⟨e2,st⟩:=st
  ·exact absurd c3 (by rw [show [e].length=1 from rfl];decide)
  obtain ⟨ls',H',v,Hl,rfl,rfl,hL',hG',hI'⟩:=hL;obtain ⟨Av,cv,rfl,_,_⟩:=hG'.form;have hl':=hL'.len;obtain ⟨cs,hc1,hc2⟩:=Ynt hB (j:=(e2::st).length) (d:=lvC e (.slice Av e.kids.length cv)) (by rw [List.getElem?_append_right Zi,hl',Nat.sub_self];rfl);have hc3:=hc1.1;subst hc3;have e1:(((e::e2::st).length:Nat):Int) - 1=((e2::st).length:Nat):=by simp only [List.length_cons];push_cast;omega
  have hln:(e::e2::st).length=(e2::st).length+1:=List.length_cons;refine wG ?_;refine YC T Zz Zz Zz Zz Zz rfl Zi Zi ?_;rw [show ((((e::e2::st).length:Nat):Int) - 1).toNat=(e2::st).length by omega];refine wG ?_;refine Y0 T 1 Zz Zz Zz Zz (hc2 2 _ rfl) ?_;refine wG ?_;refine YC T Zz Zz Zz Zz Zz rfl Zi Zi ?_;rw [show ((((e::e2::st).length:Nat):Int) - 1).toNat=(e2::st).length by omega];refine wG ?_;refine Y0 T 1 Zz Zz Zz Zz (hc2 3 _ rfl) ?_;refine zW ?_;exact YN T (vs:=[Zn,Zk e.l,Zk e.c,.iface 65 (Zk 2)]) Zz ⟨rfl,rfl,rfl,rfl,trivial⟩ (fun fz3 hle3 hf3=>⟨rfl,by rw [hG];exact ⟨rfl,by decide,hI'.2.1,hI'.2.2⟩⟩)
 have hst:st=[]:=List.eq_nil_of_length_eq_zero (by rw [List.length_cons] at c3;omega);subst hst;obtain ⟨ls',H',v,Hl,rfl,rfl,hL',hG',hI'⟩:=hL;obtain ⟨Av,cv,rfl,_,_⟩:=hG'.form;have hl':=hL'.len;obtain ⟨cs,hc1,hc2⟩:=Ynt hB (j:=0) (d:=lvC e (.slice Av e.kids.length cv)) (by rw [List.getElem?_append_right (by rw [hl'];exact Z0 _),hl'];rfl);have hc3:=hc1.1;subst hc3;refine wG ?_;refine YC T Zz Zz Zz Zz Zz rfl Zh (by rw [List.length_cons];omega) ?_;refine wG ?_;refine Y0 T 1 Zz Zz Zz Zz (hc2 5 _ rfl) ?_;refine zW ?_;refine YN T (vs:=[.slice Av e.kids.length cv,Zk 0,Zk 0,.nilIface]) Zz ⟨rfl,rfl,rfl,rfl,trivial⟩ (fun fz3 hle3 hf3=>⟨rfl,?_⟩);obtain ⟨A1,c1',hv1,hS1⟩:=hG'.sl hle3 (fun p hp=>hf3 p (by simp [hp])) (by have:=Ym8 (st:=[e]) (e:=e) (by simp);omega);injection hv1 with hv1 hv2 hv3
 subst hv1 hv3;rw [hG];exact ⟨_,_,_,rfl,hS1⟩
end Go.Proofs.YtfjopfinkdhmaaaGreatDoor
