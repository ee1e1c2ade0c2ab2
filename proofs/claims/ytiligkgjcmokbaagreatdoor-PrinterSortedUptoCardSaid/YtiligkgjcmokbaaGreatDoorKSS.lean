/- The texts PSize, NN, KH, PChk, Shelf, PWalkU, PWalkV, PDom, PPrb, KL, RA, RB, RC, laid together. Conditions: none. -/
import Derived.Test.YtiligkgjcmokbaaGreatDoorKSR
import Derived.Shelf.Strings.Repeat
import Derived.Shelf.Strconv.Itoa3
set_option linter.all false
set_option maxHeartbeats 16000000
set_option maxRecDepth 20000
open Go.Lx Go.RowKit
attribute [local instance 10] Classical.propDecidable
open Go.Proofs.Tryz (prog)
namespace Go.Proofs.YtiligkgjcmokbaaGreatDoor
variable {α:Type} {k n:Nat} {fz:FZ} {va vk ve vp u1 u2 u3 u4 u5 u6 u7 v1 v2 v3 v4 v5 v6:Value} {f:Formula} {A:Option Addr} {d:Domain} {p:Problem} {l:List α}
theorem YiI {w:α->Nat}:((l.take k).map w).sum<=(l.map w).sum:=by
 conv=>rhs;rw [<- List.take_append_drop k l]
 rw [List.map_append,List.sum_append];omega
theorem YiJ {w:α->Nat} {x:α} (hx:l[k]?=some x):((l.take (k+1)).map w).sum=((l.take k).map w).sum+w x:=by
 rw [List.take_add_one,hx];simp
mutual
theorem ecount_le:∀ e:Lx.Expr,ecount e<=eW e
 | .mk a b c args kids=>by have:=ecountL_le kids;rw [ecount,eW];omega
theorem ecountL_le:∀ l:List Lx.Expr,ecountL l<=eWL l
 | []=>by simp [ecountL]
 | x::r=>by have h1:=ecount_le x;have h2:=ecountL_le r;rw [ecountL,eWL];omega
end
mutual
theorem fcount_le:∀ f:Formula,fcount f<=fW f
 | .mk a b c d exprs kids=>by have h1:=ecountL_le exprs;have h2:=fcountL_le kids;rw [fcount,fW];omega
theorem fcountL_le:∀ l:List Formula,fcountL l<=fWL l
 | []=>by simp [fcountL]
 | x::r=>by have h1:=fcount_le x;have h2:=fcountL_le r;rw [fcountL,fWL];omega
end
theorem Yo0:∀ (s:Nat) {fz:FZ} {e:Lx.Expr} {va vk:Value},SizeOf.sizeOf e<=s->ExprR fz e va vk->ecount e<=1000000000000->
 QFn prog 47 [.agg #[Zy e.op,Zy e.name,Zk e.n,va,vk]] fz (Zk (ecount e))
 | 0,_,e,_,_,hs,_,_=>by cases e;simp at hs
 | s+1,fz,e,va,vk,hs,h,hc=>by
  obtain ⟨⟨A,n,ca,rfl,ha⟩,⟨B,m,cb,rfl,hk⟩⟩:=h.sls;refine GFn.quiet ?_;have lk:=hk.len;have sk:=hk.short;have ec:=YdM e;refine zF Tryz.func47 Tryz.ntmps47 (fun w0=>?_);refine pX (fun g0=>?_);refine zW ?_;refine Yi (fun q σ fz' H'=>∃ (k:Nat) (c:Int),k<=m/\q=m - k/\σ=[(4,Zk k),(3,Zk c),(1,Zp g0)]/\fz=fz'/\H'=[(g0,Zu #[Zy e.op,Zy e.name,Zk e.n,Zc A n ca,Zc B m cb] 112)]/\c=((1+ecountL (e.kids.take k):Nat):Int)) ⟨0,_,Z0 _,rfl,rfl,rfl,rfl,rfl⟩ Zw Zb ?_;rintro q σ fz' H' ⟨k,c,hkm,rfl,rfl,rfl,rfl,hh⟩;refine wC ?_ ?_<;>intro c1
  ·obtain ⟨x,hx⟩:=Ye (l:=e.kids) (k:=k) Zi;have hxm:=Zm hx;have hlt:=Lx.Expr.kids_lt hxm;have hst:=YdO hx;have htk:=YdN (l:=e.kids) (k:=k+1);refine wI hk hx (fun p1 hp1=>?_);refine zL hp1 ?_;intro cs hcs;obtain ⟨wa,wk,rfl,hRx⟩:=YD hcs;refine wG ?_;refine YF (Yo0 s Zi hRx Zi) ?_;exact wP (h:=by exact ⟨k+1,c+(ecount x:Nat),by omega,rfl,rfl,rfl,rfl,by omega⟩)
  rw [Zl Zi] at hh;exact wR (h:=by rw [hh,ec])
theorem YoZ {e:Lx.Expr} (h:ExprR fz e va vk) (hc:ecount e<=1000000000000):
 QFn prog 47 [.agg #[Zy e.op,Zy e.name,Zk e.n,va,vk]] fz (Zk (ecount e)):=Yo0 _ (Zs _) h hc
theorem size_f:∀ (s:Nat) {fz:FZ} {f:Formula} {va vp ve vk:Value},SizeOf.sizeOf f<=s->FormulaR fz f va vp ve vk->fcount f<=1000000000000->
 QFn prog 12 [.agg #[Zy f.op,Zy f.name,va,vp,ve,vk]] fz (Zk (fcount f))
 | 0,_,e,_,_,_,_,hs,_,_=>by cases e;simp at hs
 | s+1,fz,f,va,vp,ve,vk,hs,h,hc=>by
  obtain ⟨⟨A,n,ca,rfl,ha⟩,⟨B,m,cb,rfl,hp⟩,⟨C,r,cr,rfl,he⟩,⟨D,q0,cq,rfl,hk⟩⟩:=h.sls;refine GFn.quiet ?_;have lk:=hk.len;have sk:=hk.short;have le:=he.len;have se:=he.short;have ec:=Ye4 f;refine zF Tryz.func12 Tryz.ntmps12 (fun w0=>?_);refine pX (fun g0=>?_);refine zW ?_;refine Yi (fun q σ fz' H'=>∃ (k:Nat) (c:Int),k<=r/\q=r - k/\σ=[(4,Zk k),(3,Zk c),(1,Zp g0)]/\fz=fz'/\H'=[(g0,Zu #[Zy f.op,Zy f.name,Zc A n ca,Zc B m cb,Zc C r cr,Zc D q0 cq] 35)]/\c=((1+ecountL (f.exprs.take k):Nat):Int)) ⟨0,_,Z0 _,rfl,rfl,rfl,rfl,rfl⟩ Zw Zb ?_;rintro q σ fz' H' ⟨k,c,hkm,rfl,rfl,rfl,rfl,hh⟩;refine wC ?_ ?_<;>intro c1
  ·obtain ⟨x,hx⟩:=Ye (l:=f.exprs) (k:=k) Zi;have hxm:=Zm hx;have hst:=YdO hx;have htk:=YdN (l:=f.exprs) (k:=k+1);refine wI he hx (fun p1 hp1=>?_);refine zL hp1 ?_;intro cs hcs;obtain ⟨wa,wk,rfl,hRx⟩:=YD hcs;refine wG ?_;refine YF (YoZ hRx Zi) ?_;exact wP (h:=by exact ⟨k+1,c+(ecount x:Nat),by omega,rfl,rfl,rfl,rfl,by omega⟩)
  rw [Zl Zi] at hh;refine zW ?_;refine Yi (fun q σ fz' H'=>∃ (k:Nat) (c:Int),k<=q0/\q=q0 - k/\σ=[(5,Zk k),(3,Zk c),(1,Zp g0)]/\fz=fz'/\H'=[(g0,Zu #[Zy f.op,Zy f.name,Zc A n ca,Zc B m cb,Zc C r cr,Zc D q0 cq] 35)]/\c=((1+ecountL f.exprs+fcountL (f.kids.take k):Nat):Int)) ⟨0,c,Z0 _,rfl,rfl,rfl,rfl,by rw [hh];simp [fcountL]⟩ Zw Zb ?_;rintro q σ fz' H' ⟨k,c,hkm,rfl,rfl,rfl,rfl,hh⟩;refine wC ?_ ?_<;>intro c2
  ·obtain ⟨x,hx⟩:=Ye (l:=f.kids) (k:=k) Zi;have hxm:=Zm hx;have hlt:=Formula.kids_lt hxm;have hst:=Yf5 hx;have htk:=Yf4 (l:=f.kids) (k:=k+1);refine wI hk hx (fun p1 hp1=>?_);refine zL hp1 ?_;intro cs hcs;obtain ⟨w1,w2,w3,w4,rfl,hRx⟩:=Yv hcs;refine wG ?_;refine YF (size_f s Zi hRx Zi) ?_;exact wP (h:=by exact ⟨k+1,c+(fcount x:Nat),by omega,rfl,rfl,rfl,rfl,by omega⟩)
  rw [Zl Zi] at hh;exact wR (h:=by rw [hh,ec])
theorem Yh9 (h:FormulaR fz f va vp ve vk) (hc:fcount f<=1000000000000):
 QFn prog 12 [.agg #[Zy f.op,Zy f.name,va,vp,ve,vk]] fz (Zk (fcount f)):=size_f _ (Zs _) h hc
def hvC (c:Change):Nat:=1+c.params.length+c.args.length+fcount c.when_+ecount c.value
def Ycg (l:List Change):Nat:=(l.map hvC).sum
theorem hvC_le (c:Change):hvC c<=1*Xx c:=by
 have h1:=fcount_le c.when_;have h2:=ecount_le c.value;unfold hvC Xx;omega
theorem Yhb (l:List Change):Ycg l<=(l.map Xx).sum:=by
 have:=YiK hvC_le l;unfold Ycg;omega
theorem Yl5 {ca:Nat} {l:List Change} (h1:Sl changeL fz A n ca l) (hc:Ycg l<=1000000000000):
 QFn prog 13 [Zc A n ca] fz (Zk (Ycg l)):=by
 refine GFn.quiet ?_;have l1:=h1.len;have s1:=h1.short;refine zF Tryz.func13 Tryz.ntmps13 (fun w0=>?_);refine zW ?_;refine Yi (fun q σ fz' H'=>∃ (k:Nat) (c:Int),k<=n/\q=n - k/\σ=[(4,Zk k),(3,Zk c),(0,Zc A n ca)]/\fz=fz'/\H'=[]/\c=((((l.take k).map hvC).sum:Nat):Int)) ⟨0,_,Z0 _,rfl,rfl,rfl,rfl,rfl⟩ Zw Zb ?_;rintro q σ fz' H' ⟨k,c,hkm,rfl,rfl,rfl,rfl,hh⟩;refine wC ?_ ?_<;>intro c1
 ·obtain ⟨x,hx⟩:=Ye (l:=l) (k:=k) Zi;have hst:=YiJ (w:=hvC) hx;have htk:=YiI (w:=hvC) (l:=l) (k:=k+1);unfold Ycg at hc;have hvx:hvC x=1+x.params.length+x.args.length+fcount x.when_+ecount x.value:=rfl;refine wI h1 hx (fun p1 hp1=>?_);refine wG ?_;refine YbX hp1.Change_params (fun P1 pn1 pc1 ip=>?_);have lp:=ip.len;refine wI h1 hx (fun p2 hp2=>?_);refine wG ?_;refine YbX hp2.Change_args (fun P2 pn2 pc2 ia=>?_);have la:=ia.len;refine wI h1 hx (fun p3 hp3=>?_);refine wL hp3.Change_when_ ?_;intro cs3 hcs3;obtain ⟨w1,w2,w3,w4,rfl,hR3⟩:=Yv hcs3
  ((refine zG ?_);refine YF (Yh9 hR3 Zi) ?_);refine wI h1 hx (fun p4 hp4=>?_);refine wL hp4.Change_value ?_;intro cs4 hcs4;obtain ⟨u1,u2,rfl,hR4⟩:=YD hcs4
  ((refine zG ?_);refine YF (YoZ hR4 Zi) ?_);exact wP (h:=by exact ⟨k+1,c+(1+pn1+pn2+(fcount x.when_:Nat)+(ecount x.value:Nat)),by omega,rfl,rfl,rfl,rfl,by omega⟩)
 rw [Zl Zi] at hh;exact wR (h:=by rw [hh];rfl)
def laA (a:Action):Nat:=1+fcount a.pre+Ycg a.changes
def laU (a:Durative):Nat:=1+fcount a.start+fcount a.over+fcount a.fin+Ycg a.atStart+Ycg a.atEnd
def YdH (d:Domain) (p:Problem):Nat:=d.types.length+d.constants.length+d.predicates.length+d.functions.length+p.objects.length+p.init.length+p.values.length+fcount p.goal+(d.actions.map laA).sum+(d.duratives.map laU).sum
theorem laA_le (a:Action):laA a<=1*actW a:=by
 have h1:=fcount_le a.pre;have h2:=Yhb a.changes;unfold laA actW;omega
theorem laU_le (a:Durative):laU a<=1*durW a:=by
 have h1:=fcount_le a.start;have h2:=fcount_le a.over;have h3:=fcount_le a.fin;have h4:=Yhb a.atStart;have h5:=Yhb a.atEnd;unfold laU durW;omega
theorem YpQ (d:Domain) (p:Problem):YdH d p<=domW d+prbW p:=by
 have h1:=YiK laA_le d.actions;have h2:=YiK laU_le d.duratives;have h3:=fcount_le p.goal;have h4:=WG Yks d.predicates;have h5:=WG Ynn d.functions;have h6:=WG Ylj p.init;have h7:=WG Yh7 p.values;unfold YdH domW prbW;omega
theorem Yn6 (h:DomainR fz d v1 v2 v3 v4 v5 v6) (hp:ProblemR fz p u1 u2 u3 u4 u5 u6 u7) (hn:YdH d p<=1000000000000:=by omega):
 QFn prog 4 [ZD d v1 v2 v3 v4 v5 v6,ZP p u1 u2 u3 u4 u5 u6 u7] fz (Zo (decide (2000<YdH d p))):=by
 obtain ⟨A1,n1,b1,rfl,i1⟩:=h.types;have l1:=i1.len;obtain ⟨A2,n2,b2,rfl,i2⟩:=h.constants;have l2:=i2.len;obtain ⟨A3,n3,b3,rfl,i3⟩:=h.predicates;have l3:=i3.len;obtain ⟨A4,n4,b4,rfl,i4⟩:=h.functions;have l4:=i4.len;obtain ⟨A5,n5,b5,rfl,i5⟩:=h.actions;have l5:=i5.len;obtain ⟨A6,n6,b6,rfl,i6⟩:=h.duratives;have l6:=i6.len;have s5:=i5.short;have s6:=i6.short;obtain ⟨C1,m1,e1,rfl,j1⟩:=hp.objects;have k1:=j1.len;obtain ⟨C2,m2,e2,rfl,j2⟩:=hp.init;have k2:=j2.len;obtain ⟨C3,m3,e3,rfl,j3⟩:=hp.values;have k3:=j3.len;have hg:=hp.goal;obtain ⟨⟨U1,w1,z1,rfl,_⟩,⟨U2,w2,z2,rfl,_⟩,⟨U3,w3,z3,rfl,_⟩,⟨U4,w4,z4,rfl,_⟩⟩:=hp.goal.sls;refine GFn.quiet ?_;have hnn:YdH d p=d.types.length+d.constants.length+d.predicates.length+d.functions.length+p.objects.length+p.init.length+p.values.length+fcount p.goal+(d.actions.map laA).sum+(d.duratives.map laU).sum:=rfl;refine zF Tryz.func4 Tryz.ntmps4 (fun w0=>?_);refine pX (fun g0=>?_);refine pY (fun g1=>?_);refine wG ?_;refine Yc (vs:=[Zy p.goal.op,Zy p.goal.name,Zc U1 w1 z1,Zc U2 w2 z2,Zc U3 w3 z3,Zc U4 w4 z4]) 0 ?_
 ((refine zG ?_);refine YF (Yh9 hg Zi) ?_);refine zW ?_;refine Yi (fun q σ fz' H'=>∃ (k:Nat) (c:Int),k<=n5/\q=n5 - k/\σ=[(6,Zk k),(5,Zk c),(2,Zp g0)]/\fz=fz'/\H'=[(g0,Zu #[Zy d.name,Zc A1 n1 b1,Zc A2 n2 b2,Zc A3 n3 b3,Zc A4 n4 b4,Zc A5 n5 b5,Zc A6 n6 b6] 28)]/\c=((n1+n2+n3+n4+m1+m2+m3+fcount p.goal+((d.actions.take k).map laA).sum:Nat):Int)) ⟨0,(n1:Int)+n2+n3+n4+m1+m2+m3+(fcount p.goal:Nat),Z0 _,rfl,rfl,rfl,rfl,by simp⟩ Zw (List.Sublist.cons _ (List.Sublist.refl _)) ?_;rintro q σ fz' H' ⟨k,c,hkm,rfl,rfl,rfl,rfl,hh⟩;refine wC ?_ ?_<;>intro c1
 ·obtain ⟨x,hx⟩:=Ye (l:=d.actions) (k:=k) Zi;have hst:=YiJ (w:=laA) hx;have htk:=YiI (w:=laA) (l:=d.actions) (k:=k+1);have hvx:laA x=1+fcount x.pre+Ycg x.changes:=rfl;refine wI i5 hx (fun pp1 hp1=>?_);refine wL hp1.Action_pre ?_;intro cs1 hcs1;obtain ⟨s1,s2,s3,s4,rfl,hR1⟩:=Yv hcs1
  ((refine zG ?_);refine YF (Yh9 hR1 Zi) ?_);refine wI i5 hx (fun pp2 hp2=>?_);refine wG ?_;refine YbX hp2.Action_changes (fun P2 pn2 pc2 ic=>?_)
  ((refine zG ?_);refine YF (Yl5 ic Zi) ?_);exact wP (h:=by exact ⟨k+1,c+(1+(fcount x.pre:Nat)+(Ycg x.changes:Nat)),by omega,rfl,rfl,rfl,rfl,by omega⟩)
 rw [Zl Zi] at hh;refine zW ?_;refine Yi (fun q σ fz' H'=>∃ (k:Nat) (c:Int),k<=n6/\q=n6 - k/\σ=[(7,Zk k),(5,Zk c),(2,Zp g0)]/\fz=fz'/\H'=[(g0,Zu #[Zy d.name,Zc A1 n1 b1,Zc A2 n2 b2,Zc A3 n3 b3,Zc A4 n4 b4,Zc A5 n5 b5,Zc A6 n6 b6] 28)]/\c=((n1+n2+n3+n4+m1+m2+m3+fcount p.goal+(d.actions.map laA).sum+((d.duratives.take k).map laU).sum:Nat):Int)) ⟨0,c,Z0 _,rfl,rfl,rfl,rfl,by rw [hh];simp⟩ Zw Zb ?_;rintro q σ fz' H' ⟨k,c,hkm,rfl,rfl,rfl,rfl,hh⟩;refine wC ?_ ?_<;>intro c2
 ·obtain ⟨x,hx⟩:=Ye (l:=d.duratives) (k:=k) Zi;have hst:=YiJ (w:=laU) hx;have htk:=YiI (w:=laU) (l:=d.duratives) (k:=k+1);have hvx:laU x=1+fcount x.start+fcount x.over+fcount x.fin+Ycg x.atStart+Ycg x.atEnd:=rfl;refine wI i6 hx (fun pp1 hp1=>?_);refine zL hp1 ?_;intro cs1 hcs1;obtain ⟨r0,r1,r2,r3,r4,r5,r6,r7,r8,r9,r10,r11,r12,r13,r14,rfl,hR⟩:=YZ hcs1;obtain ⟨P,p1,q1,rfl,ip⟩:=hR.params;have hS1:=hR.start;have hS2:=hR.over;have hS3:=hR.fin;obtain ⟨⟨V1,a1,y1,rfl,_⟩,⟨V2,a2,y2,rfl,_⟩,⟨V3,a3,y3,rfl,_⟩,⟨V4,a4,y4,rfl,_⟩⟩:=hR.start.sls;obtain ⟨⟨V5,a5,y5,rfl,_⟩,⟨V6,a6,y6,rfl,_⟩,⟨V7,a7,y7,rfl,_⟩,⟨V8,a8,y8,rfl,_⟩⟩:=hR.over.sls;obtain ⟨⟨V9,a9,y9,rfl,_⟩,⟨V10,a10,y10,rfl,_⟩,⟨V11,a11,y11,rfl,_⟩,⟨V12,a12,y12,rfl,_⟩⟩:=hR.fin.sls;obtain ⟨V13,a13,y13,rfl,ia⟩:=hR.atStart;obtain ⟨V14,a14,y14,rfl,ie⟩:=hR.atEnd;refine zW ?_;intros
  ((refine zG ?_);refine Yc (vs:=[Zy x.start.op,Zy x.start.name,Zc V1 a1 y1,Zc V2 a2 y2,Zc V3 a3 y3,Zc V4 a4 y4]) 0 ?_);refine wG ?_;refine YF (Yh9 hS1 Zi) ?_;refine wG ?_;refine Yc (vs:=[Zy x.over.op,Zy x.over.name,Zc V5 a5 y5,Zc V6 a6 y6,Zc V7 a7 y7,Zc V8 a8 y8]) 0 ?_;refine wG ?_;refine YF (Yh9 hS2 Zi) ?_;refine wG ?_;refine Yc (vs:=[Zy x.fin.op,Zy x.fin.name,Zc V9 a9 y9,Zc V10 a10 y10,Zc V11 a11 y11,Zc V12 a12 y12]) 0 ?_;refine wG ?_;refine YF (Yh9 hS3 Zi) ?_;refine wG ?_;refine YF (Yl5 ia Zi) ?_;refine wG ?_;refine YF (Yl5 ie Zi) ?_;exact wP (h:=by exact ⟨k+1,c+(1+(fcount x.start:Nat)+(fcount x.over:Nat)+(fcount x.fin:Nat)+(Ycg x.atStart:Nat)+(Ycg x.atEnd:Nat)),by omega,rfl,rfl,rfl,rfl,by omega⟩)
 rw [Zl Zi] at hh;refine wC ?_ ?_<;>intro c3
 ·exact wR (h:=by exact Yu Zi)
 exact wR (h:=by exact Yl Zi)
end Go.Proofs.YtiligkgjcmokbaaGreatDoor
namespace Go.Proofs.YtiligkgjcmokbaaGreatDoor
variable {α:Type} {d:Domain} {p:Problem} {l:List α}
section
variable {P:Program} {cx:Cx} {l:List Oper} {pu:List Nat} {σ' ve cv τ:Env} {fz0 fz:FZ} {Hq H:HP} {Q:QQ} {all rest r1:List (Nat × Oper)} {m i d:Nat} {op:Op} {ty:TypeId} {pos:String} {af:Array Edge} {dn:Bool}
theorem YhJ {g:Nat × Bool} (hk:Keep fz0 Hq fz H) (hw:YhM ⟨some d,op,ty,pos,af,some g⟩ ve cv=some true) (h:DoesQ P cx ⟨some d,op,ty,pos,af,some g⟩ (rdc l ⟨some d,op,ty,pos,af,some g⟩ σ' ve cv) fz H fun v=>Po P cx l pu σ' ve fz0 Hq Q all m r1 (dn || allp l all pu ⟨some d,op,ty,pos,af,some g⟩) ((i,v)::cv) ((d,v)::τ) fz H):
 PoS P cx l pu σ' ve fz0 Hq Q all m r1 dn cv τ fz H i ⟨some d,op,ty,pos,af,some g⟩:=YhI hw ((h.mono fun _ hv=>⟨hk,hv⟩).does)
end
theorem laA_pos (a:Action):1<=laA a:=by unfold laA;omega
theorem laU_pos (a:Durative):1<=laU a:=by unfold laU;omega
theorem Yl4 (c:Change):1<=hvC c:=by unfold hvC;omega
theorem YqH {l:List Change} {y:Change} (hy:y∈l) (h:(l.map Xx).sum<=100000000):y.params.length<=1000000000/\fW y.when_<=1000000000/\y.args.length<=1000000000/\eW y.value<=1000000000:=by
 have h1:=Wh (w:=Xx) hy;unfold Xx at h1 h;exact ⟨by omega,by omega,by omega,by omega⟩
theorem canSm_of (hw:domW d<=100000000) (hl:YdH d p<=2000):CanSm d:=by
 unfold YdH at hl;unfold domW at hw;have a1:=WG laA_pos d.actions;have a2:=WG laU_pos d.duratives;refine ⟨by omega,by omega,by omega,by omega,by omega,by omega,fun x hx=>?_,fun x hx=>?_,fun x hx=>?_,fun x hx=>?_⟩
 ·have h1:=Wh (w:=YhR) hx;unfold YhR at h1 hw;omega
 ·have h1:=Wh (w:=funW) hx;unfold funW at h1 hw;omega
 ·have h1:=Wh (w:=actW) hx;have h2:=Wh (w:=laA) hx;have h3:=WG Yl4 x.changes;have h4:laA x=1+fcount x.pre+(x.changes.map hvC).sum:=rfl;have h5:actW x=1+x.params.length+fW x.pre+(x.changes.map Xx).sum:=rfl;exact ⟨by omega,by omega,by omega,fun y hy=>YqH hy Zi⟩
 have h1:=Wh (w:=durW) hx;have h2:=Wh (w:=laU) hx;have h3:=WG Yl4 x.atStart;have h6:=WG Yl4 x.atEnd;have h4:laU x=1+fcount x.start+fcount x.over+fcount x.fin+(x.atStart.map hvC).sum+(x.atEnd.map hvC).sum:=rfl;have h5:durW x=1+x.params.length+fW x.start+fW x.over+fW x.fin+(x.atStart.map Xx).sum+(x.atEnd.map Xx).sum:=rfl;exact ⟨by omega,by omega,by omega,by omega,by omega,by omega,fun y hy=>YqH hy Zi,fun y hy=>YqH hy Zi⟩
theorem canSp_of (hw:prbW p<=100000000) (hl:YdH d p<=2000):CanSp p:=by
 unfold YdH at hl;unfold prbW at hw;refine ⟨by omega,by omega,by omega,fun x hx=>?_,fun x hx=>?_,by omega⟩
 ·have h1:=Wh (w:=Ye8) hx;unfold Ye8 at h1 hw;omega
 have h1:=Wh (w:=Yed) hx;have h2:Yed x=1+(1+x.fluent.args.length):=rfl;omega
theorem YeI {f:α->Nat} {r:List α} (h:l.Perm r):(l.map f).sum=(r.map f).sum:=by
 induction h with
 | nil=>rfl
 | cons x _ ih=>simp only [List.map_cons,List.sum_cons,ih]
 | swap x y l=>simp only [List.map_cons,List.sum_cons];omega
 | trans _ _ h1 h2=>exact h1.trans h2
theorem YlC {α:Type} {f:α->Nat}:∀ {l r:List α},l.Nodup->(∀ x∈l,x∈r)->(l.map f).sum<=(r.map f).sum
 | [],r,_,_=>Z0 _
 | x::l,r,hn,hs=>by
  obtain ⟨h1,h2⟩:=List.nodup_cons.1 hn;obtain ⟨r1,r2,rfl⟩:=List.append_of_mem (hs x (.head _));have ih:=YlC (f:=f) (r:=r1++r2) h2 fun y hy=>by
   have h3:=hs y (.tail _ hy);rcases List.mem_append.1 h3 with h3 | h3
   ·exact List.mem_append_left _ h3
   rcases List.mem_cons.1 h3 with rfl | h3
   ·exact absurd hy h1
   exact List.mem_append_right _ h3
  rw [List.map_append,List.sum_append] at ih;rw [List.map_append,List.sum_append,List.map_cons,List.map_cons,List.sum_cons,List.sum_cons];omega
theorem domW_can (d:Domain):domW (canD d)=domW d:=by
 have h:=YjJ d;unfold domW;rw [h.t.length_eq,h.c.length_eq,YeI h.p,YeI h.f,YeI h.a,YeI h.u]
theorem prbW_can {l:List Atom} (hl:l.Nodup) (hm:∀ a,a∈l↔a∈p.init):prbW (canP p l)<=prbW p:=by
 have h:=YhD (l:=l) hm;unfold prbW;rw [h.o.length_eq,YeI h.v,h.g];have:=YlC (f:=Ye8) hl fun x hx=>(hm x).1 hx
 have e:(canP p l).init=l:=rfl;rw [e];omega
theorem YqP (h:CanSm d):CanSm (canD d):=by
 have k:=YjJ d;exact ⟨k.t.length_eq ▸ h.t,k.c.length_eq ▸ h.c,k.p.length_eq ▸ h.p,k.f.length_eq ▸ h.f,k.a.length_eq ▸ h.a,k.u.length_eq ▸ h.u,fun x hx=>h.pp x (k.p.mem_iff.1 hx),fun x hx=>h.fp x (k.f.mem_iff.1 hx),fun x hx=>h.ap x (k.a.mem_iff.1 hx),fun x hx=>h.up x (k.u.mem_iff.1 hx)⟩
theorem YqO {l:List Atom} (hl:l.Nodup) (hm:∀ a,a∈l↔a∈p.init) (h:CanSp p):CanSp (canP p l):=by
 have k:=YhD (l:=l) hm;have e:l.length<=p.init.length:=by
  have:=YlC (f:=fun _=>1) hl fun x hx=>(hm x).1 hx
  have hs:∀ l:List Atom,(l.map fun _=>1).sum=l.length:=fun l=>by
   induction l with
   | nil=>rfl
   | cons a r ih=>simp only [List.map_cons,List.sum_cons,List.length_cons,ih];omega
  rwa [hs,hs] at this
 exact ⟨k.o.length_eq ▸ h.o,Nat.le_trans e h.i,k.v.length_eq ▸ h.v,fun a ha=>h.ia a ((hm a).1 ha),fun x hx=>h.va x (k.v.mem_iff.1 hx),h.g⟩
theorem Yom {l l2:List Atom} (h:CptS l) (h2:CptS l2) (hm:∀ a,a∈l2↔a∈(canP p l).init):(⟨(canP p l).name,(canP p l).domain,srtC (byC Param.name) (canP p l).objects,l2,srtC byV (canP p l).values,(canP p l).goal⟩:Problem)=canP p l:=by
 obtain rfl:l2=l:=h2.eq h hm;unfold canP;simp only [Yfj (Yek _),YnR]
theorem Yqj:∀ (s:Nat) {e:Lx.Expr},SizeOf.sizeOf e<=s->eW e<=1000000000->ESm e
 | 0,e,h,_=>by cases e;simp at h
 | s+1,e,h,hw=>by
  rw [Yqr] at hw;refine YaN.2 ⟨by unfold ESmN;omega,fun k hk=>Yqj s (by have:=Lx.Expr.kids_lt hk;omega) (by have:=Wh (w:=eW) hk;omega)⟩
theorem Yhc:∀ (s:Nat) {f:Formula},SizeOf.sizeOf f<=s->fW f<=1000000000->FSm f
 | 0,e,h,_=>by cases e;simp at h
 | s+1,f,h,hw=>by
  rw [Yl9] at hw;have hl:=WG fW_pos f.kids;refine WV.2 ⟨by unfold FSmN;omega,fun e he=>Yqj _ (Zs _) (by have:=Wh (w:=eW) he;omega),fun k hk=>Yhc s (by have:=Formula.kids_lt hk;omega) (by have:=Wh (w:=fW) hk;omega)⟩
theorem chsq_w {c:Change} (h:Xx c<=100000000):ChSm c:=by
 unfold Xx at h;exact ⟨by omega,by omega,Yhc _ (Zs _) Zi,Yqj _ (Zs _) Zi⟩
theorem Ymc {l:List Change} (h:(l.map Xx).sum<=100000000):Ylr l:=by
 have:=WG Ymp l;exact ⟨by omega,fun c hc=>chsq_w (by have:=Wh (w:=Xx) hc;omega)⟩
theorem Ymm (hd:domW d<=1300000) (hp:prbW p<=1300000):ChkS d p:=by
 unfold domW at hd;unfold prbW at hp;have l3:=WG Yks d.predicates;have l4:=WG Ynn d.functions;have l5:=WG actW_pos d.actions;have l6:=WG durW_pos d.duratives;have l7:=WG Ylj p.init;have l8:=WG Yh7 p.values;have p3:∀ p∈d.predicates,p.params.length<=100000000:=fun p hp=>by have:=Wh (w:=YhR) hp;have e:YhR p=1+p.params.length:=rfl;omega
 have p4:∀ p∈d.functions,p.params.length<=100000000:=fun p hp=>by have:=Wh (w:=funW) hp;have e:funW p=1+p.params.length:=rfl;omega
 have p5:∀ x∈d.actions,actW x<=100000000:=fun p hp=>by have:=Wh (w:=actW) hp;omega
 have p6:∀ x∈d.duratives,durW x<=100000000:=fun p hp=>by have:=Wh (w:=durW) hp;omega
 refine ⟨⟨by omega,by omega,by omega,fun p hp=>Nat.le_trans (p3 p hp) Zh,by omega,fun p hp=>Nat.le_trans (p4 p hp) Zh,by omega,fun x hx=>?_,by omega,fun x hx=>?_⟩,⟨by omega,by omega,fun a ha=>?_,by omega,fun v hv=>?_,Yhc _ (Zs _) Zi⟩,fun a ha=>Nat.le_trans (p5 a ha) Zh,fun a ha=>Nat.le_trans (p6 a ha) Zh,by omega⟩
 ·have:=p5 x hx;unfold actW at this;exact ⟨by omega,Yhc _ (Zs _) Zi,Ymc Zi⟩
 ·have:=p6 x hx;unfold durW at this;exact ⟨by omega,Yhc _ (Zs _) Zi,Yhc _ (Zs _) Zi,Yhc _ (Zs _) Zi,Ymc Zi,Ymc Zi⟩
 ·have:=Wh (w:=Ye8) ha;have e:Ye8 a=1+a.args.length:=rfl;omega
 have:=Wh (w:=Yed) hv;have e:Yed v=1+Ye8 v.fluent:=rfl;have e2:Ye8 v.fluent=1+v.fluent.args.length:=rfl;omega
end Go.Proofs.YtiligkgjcmokbaaGreatDoor
namespace Go.Proofs
open Go.Shelf
def YfV:Go.Shelf.Ren:=⟨fun | 171=>116 | 243=>176 | 246=>239 | 283=>281 | 284=>282 | 285=>283 | 286=>284 | 129=>202 | 317=>304 | 318=>305 | 319=>306 | 320=>307 | 337=>324 | 338=>325 | n=>n,fun | 3=>3 | 9=>9 | 2=>2 | 4=>4 | 171=>332 | 0=>0 | 53=>267 | 37=>294 | 5=>5 | 173=>334 | 212=>355 | 51=>265 | 20=>20 | 213=>356 | 46=>200 | 232=>370 | 233=>371 | n=>n,fun | 17=>1 | 18=>2 | 19=>3 | n=>n⟩
theorem YjP:Go.Proofs.LaysM.n171 Tryz.prog YfV:={
 mixed:=by kernel_rfl
 f129:=Tryz.func202.trans (congrArg some (by kernel_rfl))
 f171:=Tryz.func116.trans (congrArg some (by kernel_rfl))
 f243:=Tryz.func176.trans (congrArg some (by kernel_rfl))
 f246:=Tryz.func239.trans (congrArg some (by kernel_rfl))
 f283:=Tryz.func281.trans (congrArg some (by kernel_rfl))
 f284:=Tryz.func282.trans (congrArg some (by kernel_rfl))
 f285:=Tryz.func283.trans (congrArg some (by kernel_rfl))
 f286:=Tryz.func284.trans (congrArg some (by kernel_rfl))
 f317:=Tryz.func304.trans (congrArg some (by kernel_rfl))
 f318:=Tryz.func305.trans (congrArg some (by kernel_rfl))
 f319:=Tryz.func306.trans (congrArg some (by kernel_rfl))
 f320:=Tryz.func307.trans (congrArg some (by kernel_rfl))
 f337:=Tryz.func324.trans (congrArg some (by kernel_rfl))
 f338:=Tryz.func325.trans (congrArg some (by kernel_rfl))
 t0:=Tryz.underlying0
 a0:=Tryz.isAgg0
 z0:=Tryz.sizeOf0
 v0:=Tryz.zeroValue0
 t2:=Tryz.underlying2
 a2:=Tryz.isAgg2
 z2:=Tryz.sizeOf2
 v2:=Tryz.zeroValue2
 t3:=Tryz.underlying3
 a3:=Tryz.isAgg3
 z3:=Tryz.sizeOf3
 v3:=Tryz.zeroValue3
 t4:=Tryz.underlying4
 a4:=Tryz.isAgg4
 z4:=Tryz.sizeOf4
 v4:=Tryz.zeroValue4
 t5:=Tryz.underlying5
 a5:=Tryz.isAgg5
 z5:=Tryz.sizeOf5
 v5:=Tryz.zeroValue5
 t9:=Tryz.underlying9
 a9:=Tryz.isAgg9
 z9:=Tryz.sizeOf9
 v9:=Tryz.zeroValue9
 t20:=Tryz.underlying20
 a20:=Tryz.isAgg20
 z20:=Tryz.sizeOf20
 v20:=Tryz.zeroValue20
 t37:=Tryz.underlying294
 a37:=Tryz.isAgg294
 z37:=Tryz.sizeOf294
 v37:=Tryz.zeroValue294
 t46:=Tryz.underlying200
 a46:=Tryz.isAgg200
 z46:=Tryz.sizeOf200
 v46:=Tryz.zeroValue200
 t51:=Tryz.underlying265
 a51:=Tryz.isAgg265
 z51:=Tryz.sizeOf265
 v51:=Tryz.zeroValue265
 t53:=Tryz.underlying267
 a53:=Tryz.isAgg267
 z53:=Tryz.sizeOf267
 v53:=Tryz.zeroValue267
 t171:=Tryz.underlying332
 a171:=Tryz.isAgg332
 z171:=Tryz.sizeOf332
 v171:=Tryz.zeroValue332
 t173:=Tryz.underlying334
 a173:=Tryz.isAgg334
 z173:=Tryz.sizeOf334
 v173:=Tryz.zeroValue334
 t212:=Tryz.underlying355
 a212:=Tryz.isAgg355
 z212:=Tryz.sizeOf355
 v212:=Tryz.zeroValue355
 t213:=Tryz.underlying356
 a213:=Tryz.isAgg356
 z213:=Tryz.sizeOf356
 t232:=Tryz.underlying370
 a232:=Tryz.isAgg370
 z232:=Tryz.sizeOf370
 v232:=Tryz.zeroValue370
 t233:=Tryz.underlying371
 a233:=Tryz.isAgg371
 z233:=Tryz.sizeOf371
 v233:=Tryz.zeroValue371
 g17:=by kernel_rfl
 g18:=by kernel_rfl
 g19:=by kernel_rfl
 i0:=by kernel_rfl
 i2:=by kernel_rfl
 i3:=by kernel_rfl
 i4:=by kernel_rfl
 i5:=by kernel_rfl
 i9:=by kernel_rfl
 i20:=by kernel_rfl
 i37:=by kernel_rfl
 i46:=by kernel_rfl
 i51:=by kernel_rfl
 i53:=by kernel_rfl
 i171:=by kernel_rfl
 i173:=by kernel_rfl
 i212:=by kernel_rfl
 i232:=by kernel_rfl
 i233:=by kernel_rfl
 m17:=by kernel_rfl
 m18:=by kernel_rfl
 m19:=by kernel_rfl}
open Go.RowKit Go.Sort Go.Lib in
/-- strconv.Itoa: "Itoa is equivalent to FormatInt(int64(i), 10).": i's DECIMAL NUMERAL ('Lib.itoa': a '-' where i is negative, then the digits), FOR EVERY int. The world behind the call: the world before it, new blocks behind the heap (the library's 'var a [24]byte'), draws. (LAID: no walk: one application.) -/
theorem Tryz.strconv_Itoa (n:Int) (h0: -9223372036854775808≤n) (h1:n≤9223372036854775807) (w:World) (htab:Lib.TabIs Tryz.prog w "internal/strconv.uint64pow10" .u64 Lib.pow10Tab):
 Calls Tryz.prog 116 #[.int .i64 n] w fun e w'=>e=.returned (.string ⟨(Lib.itoa n).toArray⟩)/\∃ k os,w'=grow (w.drewN k) os:=Any.strconv_Itoa YjP n h0 h1 w htab
def Ydl:Go.Shelf.Ren:=⟨fun | 105=>233 | 212=>278 | 99=>272 | 165=>276 | 166=>232 | 170=>279 | 169=>234 | 263=>301 | 264=>302 | 206=>297 | 240=>277 | 241=>299 | 276=>300 | 277=>322 | n=>n,fun | 9=>9 | 3=>3 | 4=>4 | 20=>20 | 0=>0 | 46=>200 | 109=>327 | 5=>5 | 72=>296 | 76=>297 | 51=>265 | 146=>348 | 53=>267 | 148=>350 | 70=>293 | 37=>294 | 75=>43 | 127=>330 | 164=>346 | 80=>300 | n=>n,fun | n=>n⟩
theorem Yln:Go.Proofs.Lays.n105 Tryz.prog Ydl:={
 mixed:=by kernel_rfl
 f99:=Tryz.func272.trans (congrArg some (by kernel_rfl))
 f105:=Tryz.func233.trans (congrArg some (by kernel_rfl))
 f165:=Tryz.func276.trans (congrArg some (by kernel_rfl))
 f166:=Tryz.func232.trans (congrArg some (by kernel_rfl))
 f169:=Tryz.func234.trans (congrArg some (by kernel_rfl))
 f170:=Tryz.func279.trans (congrArg some (by kernel_rfl))
 f206:=Tryz.func297.trans (congrArg some (by kernel_rfl))
 f212:=Tryz.func278.trans (congrArg some (by kernel_rfl))
 f240:=Tryz.func277.trans (congrArg some (by kernel_rfl))
 f241:=Tryz.func299.trans (congrArg some (by kernel_rfl))
 f263:=Tryz.func301.trans (congrArg some (by kernel_rfl))
 f264:=Tryz.func302.trans (congrArg some (by kernel_rfl))
 f276:=Tryz.func300.trans (congrArg some (by kernel_rfl))
 f277:=Tryz.func322.trans (congrArg some (by kernel_rfl))
 t0:=Tryz.underlying0
 a0:=Tryz.isAgg0
 z0:=Tryz.sizeOf0
 v0:=Tryz.zeroValue0
 t3:=Tryz.underlying3
 a3:=Tryz.isAgg3
 z3:=Tryz.sizeOf3
 v3:=Tryz.zeroValue3
 t4:=Tryz.underlying4
 a4:=Tryz.isAgg4
 z4:=Tryz.sizeOf4
 v4:=Tryz.zeroValue4
 t5:=Tryz.underlying5
 a5:=Tryz.isAgg5
 z5:=Tryz.sizeOf5
 v5:=Tryz.zeroValue5
 t9:=Tryz.underlying9
 a9:=Tryz.isAgg9
 z9:=Tryz.sizeOf9
 v9:=Tryz.zeroValue9
 t20:=Tryz.underlying20
 a20:=Tryz.isAgg20
 z20:=Tryz.sizeOf20
 v20:=Tryz.zeroValue20
 t37:=Tryz.underlying294
 a37:=Tryz.isAgg294
 z37:=Tryz.sizeOf294
 v37:=Tryz.zeroValue294
 t46:=Tryz.underlying200
 a46:=Tryz.isAgg200
 z46:=Tryz.sizeOf200
 v46:=Tryz.zeroValue200
 t51:=Tryz.underlying265
 a51:=Tryz.isAgg265
 z51:=Tryz.sizeOf265
 v51:=Tryz.zeroValue265
 t53:=Tryz.underlying267
 a53:=Tryz.isAgg267
 z53:=Tryz.sizeOf267
 v53:=Tryz.zeroValue267
 t70:=Tryz.underlying293
 a70:=Tryz.isAgg293
 z70:=Tryz.sizeOf293
 v70:=Tryz.zeroValue293
 t72:=Tryz.underlying296
 a72:=Tryz.isAgg296
 z72:=Tryz.sizeOf296
 v72:=Tryz.zeroValue296
 t75:=Tryz.underlying43
 a75:=Tryz.isAgg43
 z75:=Tryz.sizeOf43
 v75:=Tryz.zeroValue43
 t76:=Tryz.underlying297
 a76:=Tryz.isAgg297
 z76:=Tryz.sizeOf297
 v76:=Tryz.zeroValue297
 t109:=Tryz.underlying327
 a109:=Tryz.isAgg327
 z109:=Tryz.sizeOf327
 v109:=Tryz.zeroValue327
 t127:=Tryz.underlying330
 a127:=Tryz.isAgg330
 z127:=Tryz.sizeOf330
 v127:=Tryz.zeroValue330
 t146:=Tryz.underlying348
 a146:=Tryz.isAgg348
 z146:=Tryz.sizeOf348
 v146:=Tryz.zeroValue348
 t148:=Tryz.underlying350
 a148:=Tryz.isAgg350
 z148:=Tryz.sizeOf350
 v148:=Tryz.zeroValue350
 t164:=Tryz.underlying346
 a164:=Tryz.isAgg346
 z164:=Tryz.sizeOf346
 v164:=Tryz.zeroValue346}
theorem Ydo:Builder.Extra Tryz.prog Ydl:={
 sizeBuilder:=by kernel_rfl
 liesBuilder:=by kernel_rfl
 t5:=Tryz.underlying5
 a5:=Tryz.isAgg5
 z5:=Tryz.sizeOf5
 v5:=Tryz.zeroValue5
 infoByte:=by kernel_rfl
 cellsByte:=by kernel_rfl
 sizeByte:=by kernel_rfl
 neB5:=by decide}
open Go.RowKit Go.Lib in
/-- **strings.Repeat: count ≥ 0, the result within one allocation: count copies of s.** (LAID: no walk: one application.) -/
theorem Tryz.strings_Repeat (s:ByteArray) (c:Nat) (w:World) (hc:c<=9223372036854775807) (hlen:s.size*c<=140737488355328):
 Calls Tryz.prog 233 #[.string s,.int .i64 c] w fun e w'=>e=.returned (.string ⟨(Lib.repeatL s.data.toList c).toArray⟩)/\Below w.heap.size w w':=Any.strings_Repeat Yln Ydo s c w hc hlen
end Go.Proofs
namespace Go.Proofs.YtiligkgjcmokbaaGreatDoor
variable {fz fz':FZ} {n i:Nat} {Hs H:HP} {v vk v1 v2 v3 v4 v5 v6 v7 u1 u2 u3 u4 u5 u6 u7:Value} {s:Bs} {d:Domain} {p:Problem}
def TabF (fz:FZ):Prop:=∀ w,Hp fz [] w→Lib.TabIs prog w "internal/strconv.uint64pow10" .u64 Lib.pow10Tab
theorem TabF.mono (hle:Le fz fz') (h:TabF fz):TabF fz':=fun w hw=>h w ⟨fun b o hb=>hw.keep b o (hle b o hb),by simp,by simp⟩
theorem YpV {n:Int} (hT:TabF fz) (h:Yca n):QFn prog 116 [Zk n] fz (Zy (strOf (Lib.itoa n))):=by
 unfold QFn;refine ⟨⟨_,Tryz.func116,by decide,by decide⟩,fun w hw=>?_⟩;unfold Yca at h;refine (Tryz.strconv_Itoa n Zi Zi w (hT w hw)).mono fun e w' ⟨he,k,os,hw'⟩=>⟨he,?_⟩
 subst hw';exact ⟨rfl,rfl,rfl,by show w.heap.size<=(w.heap++os).size;rw [Array.size_append];omega,fun b hb _=>Sort.heap_grow_old (w.drewN k) os hb,fun h=>h.elim⟩
theorem repeat_q (h:n<=1000000000):QFn prog 233 [Zy ⟨#[32]⟩,Zk n] fz (Zy (strOf (List.replicate n 32))):=by
 unfold QFn;refine ⟨⟨_,Tryz.func233,by decide,by decide⟩,fun w hw=>?_⟩;refine (Tryz.strings_Repeat ⟨#[32]⟩ n w Zi (by show 1*n<=_;omega)).mono fun e w' ⟨he,hb⟩=>⟨?_,Yji hb⟩
 rw [he,<- Ykh];rfl
theorem join_q {l:List (List UInt8)} (hg:Grow strL 9 fz v n Hs (l.map strOf)) (hf:∀ p∈Hs,fz' p.1=some p.2) (hn:n<=1000000000) (hlen:(Lib.join l [32]).length<=1000000000):
 QFn prog 229 [v,Zy ⟨#[32]⟩] fz' (Zy (strOf (Lib.join l [32]))):=by
 unfold QFn;refine ⟨⟨_,Tryz.func229,by decide,by decide⟩,fun w hw=>?_⟩;have hd:(l.map strOf).map (fun x=>x.data.toList)=l:=by
  rw [List.map_map]
  calc l.map _=l.map id:=List.map_congr_left fun t _=>Yfi t
   _=l:=List.map_id l
 obtain ⟨xs,h1,h2,h3,h4⟩:=hg;rcases h4.2 with ⟨rfl,h0,_⟩ | ⟨g,cap,cur,rfl,hH,h6,h7,h8,h9⟩
 ·have hl:l=[]:=List.eq_nil_of_length_eq_zero (by have:=h3;rw [List.length_map] at this;omega);subst hl;refine (Tryz.strings_Join_none none 0 ⟨#[32]⟩ w).mono fun e w' ⟨he,hb⟩=>⟨?_,by subst hb;exact Fr.refl _ _⟩
  rw [he];rfl
 have hb:=hw.keep _ _ (hf (g,Zu cur 9) (by rw [hH];simp));have hsh:∀ p∈xs,p.2=[Value.string p.1]:=fun p hp=>(h2 p hp).1
 have hfl:xs.flatMap Prod.snd=(l.map strOf).map Value.string:=by
  rw [<- h1,List.map_map];clear h1 h3 h4 h9 h2
  induction xs with
  | nil=>rfl
  | cons a r ih=>rw [List.flatMap_cons,hsh a (by simp),ih (fun p hp=>hsh p (by simp [hp]))];rfl
 have hcells:∀ (j:Nat) x,(l.map strOf)[j]?=some x->w.cell? ⟨g,0+j,none⟩=some (Zy x):=by
  intro j x hx;have hj:j<n:=by have:=(Zg hx).1;omega
  have h10:(cur.toList.take (n*1))[j]?=some (Zy x):=by
   have h9':cur.toList.take (n*1)=xs.flatMap Prod.snd:=h9;rw [h9',hfl,List.getElem?_map,hx];rfl
  rw [List.getElem?_take,if_pos Zi] at h10;rw [Nat.zero_add];simp only [World.cell?,hb];simpa using h10
 have hll:(l.map strOf).length=n:=h3;have:=Tryz.strings_Join g 0 cap (l.map strOf) ⟨#[32]⟩ w hcells (lt_of_heap hb) Zi Zi (by rw [hd];exact Nat.le_trans hlen Zh);rw [hd,hll] at this;exact this.mono fun e w' ⟨he,hb⟩=>⟨he,Yji hb⟩
def bldO (p v:Value):Obj:=Zu #[p,v] 296
def Bld (b:Nat) (l:List UInt8) (H:HP):Prop:=∃ (p v:Value) (Hs:HP),H=(b,bldO p v)::Hs/\(p=.pointer none\/p=Zp b)/\OwnS 5 1 v l.length (l.map Ydf) Hs
theorem Bld.new (b:Nat):Bld b [] [(b,bldO (.pointer none) Zn)]:=⟨_,_,_,rfl,.inl rfl,OwnS.nil _ _⟩
theorem Ymh {b:Nat} {p:Value} (hp:p=.pointer none\/p=Zp b):
 GFn prog 277 [Zp b] fz [(b,bldO p v)] (fun r fz' H'=>r=.tuple #[]/\fz=fz'/\H'=[(b,bldO (Zp b) v)]):=by
 refine GFn.of ⟨_,Tryz.func277,by decide,by decide⟩ fun w hw=>?_
 obtain ⟨hb,hz⟩:=hw.own (b,bldO p v) (by simp);simp only at hb hz;have c0:w.cell? ⟨b,0,none⟩=some p:=by simp [World.cell?,hb,bldO]
 rcases hp with rfl | rfl
 ·refine (Any.Builder_copyCheck_fresh (ρ:=YaM) {Yck with} Tryz.Builder_Extra_156.toX72 b w c0 (by simp [World.shape?,hb,bldO];rfl) (by simp [World.frozen?,hb,bldO])).mono fun e w' ⟨he,hw'⟩=>?_
  subst hw';refine ⟨_,fz,_,he,⟨rfl,rfl,rfl⟩,⟨fun k o hk=>?_,fun q hq=>?_,by simp⟩,⟨rfl,rfl,rfl,by simp [World.setCell],fun k _ hn=>?_,fun h=>h.elim⟩,⟨fun _ _ h=>h,fun _ _ _=>rfl,fun q hq=>.inl (by simp at hq;subst hq;simp)⟩⟩
  ·rw [Below.heap_setCell _ _ _ _ (fun h=>by subst h;rw [hz] at hk;cases hk)];exact hw.keep k o hk
  ·simp only [List.mem_singleton] at hq;subst hq;refine ⟨?_,hz⟩;simp [World.setCell,Array.getElem?_modify,hb,bldO]
  exact Below.heap_setCell _ _ _ _ (fun h=>hn (by simp [h]))
 refine (Any.Builder_copyCheck_used (ρ:=YaM) {Yck with} Tryz.Builder_Extra_156.toX72 b w c0).mono fun e w' ⟨he,hw'⟩=>?_
 subst hw';exact ⟨_,fz,_,he,⟨rfl,rfl,rfl⟩,hw,Fr.refl _ _,⟨fun _ _ h=>h,fun _ _ _=>rfl,fun q hq=>.inl (by simp at hq;subst hq;simp)⟩⟩
theorem Yh6 {b:Nat} {l:List UInt8} (hb:Bld b l H) (hs:l.length+s.size<=1000000000):
 GFn prog 232 [Zp b,Zy s] fz H (fun r fz' H'=>fz=fz'/\r=.tuple #[Zk s.size,.nilIface]/\Bld b (l++s.data.toList) H'):=by
 obtain ⟨p,v,Hs,rfl,hp,hO⟩:=hb;refine zF Tryz.func232 Tryz.ntmps232 (fun w0=>?_);refine zW ?_;refine Ya (Ym [_] _ Zz (Ymh hp) (fun r1 fz1 H1 hle1 hR1=>?_));obtain ⟨rfl,rfl,rfl⟩:=hR1;unfold bldO;refine zW ?_;refine Ya (Yl3 T (Hr:=[_]) Zz Zz Zz Zz Zz Zz Zz Zz Zz Zz (Zr _) hO Zi (fun v' Hs' hO'=>?_));obtain ⟨A',c',rfl,_,_⟩:=hO'.form;refine zW ?_;refine ret2 rfl rfl rfl (List.Sublist.refl _) ⟨rfl,rfl,_,_,Hs',rfl,.inr rfl,?_⟩;have e:(l++s.data.toList).length=l.length+s.size:=by rw [List.length_append,Array.length_toList];rfl
 rw [e,List.map_append];exact hO'
theorem YqS {b:Nat} {l:List UInt8} (hb:Bld b l H) (h0:l≠ []) (hn:l.length<=1000000000):
 GFn prog 234 [Zp b] fz H (fun r fz' H'=>fz=fz'/\r=Zy (strOf l)/\H'=[]):=by
 obtain ⟨p,v,Hs,rfl,hp,hO⟩:=hb;have hl0:l.length≠0:=by simpa using h0
 rcases hO.2 with ⟨_,h1,_⟩ | ⟨g,cap,cur,rfl,rfl,h3,h4,h5,h6⟩
 ·exact absurd h1 hl0
 obtain ⟨curl,rfl⟩:∃ cl:List Value,cur=cl.toArray:=⟨cur.toList,by simp⟩;unfold bldO;refine zF Tryz.func234 Tryz.ntmps234 (fun w0=>?_);refine zWO ?_;refine Yr (W3 ?_);refine zWO ?_;refine Yr ?_;refine XF [_] ?_;refine wG ?_;refine Ykj Zz Zi ?_;refine zW ?_;refine pU ?_;refine Yj (YhW T (pre:=[_]) (post:=[]) Zz Zz Zz Zz Zz Zz h0 (by simp at h5;omega) Zi (by simpa using h6) ⟨⟨Zd,Zx⟩,?_⟩);refine Ch.qk ⟨Zd,Zx⟩ (YV ?_);refine Ch.done ?_;refine zW ?_;exact ret1 rfl rfl (List.nil_sublist _) ⟨rfl,rfl,rfl⟩
theorem YmE {p q:Sexpr->Prop} (h:∀ x,p x->q x):∀ (s:Nat) {x:Sexpr},SizeOf.sizeOf x<=s->XAll p x->XAll q x
 | 0,x,hs,_=>by cases x;simp at hs
 | s+1,x,hs,hx=>by
  have h1:=Xe.1 hx;exact Xe.2 ⟨h _ h1.1,fun k hk=>YmE h s (by have:=Sexpr.kids_lt hk;omega) (h1.2 k hk)⟩
theorem xnode_sm {x:Sexpr} (h:Yh3 x):Lx.XSm x:=by
 rcases h with ⟨h1,h2,_⟩ | ⟨h1,_,_,h2⟩ | ⟨h1,_⟩
 ·exact ⟨fun _=>h2.2.1,fun h0=>by omega⟩
 ·exact ⟨fun h0=>by omega,fun _=>h2⟩
 exact ⟨fun h0=>by omega,fun h0=>by omega⟩
theorem YmD {x:Sexpr} (h:XOk x):XAll Lx.XSm x:=YmE (fun _=>xnode_sm) _ (Zs _) h
theorem Yot {x:Sexpr} (h:XOk x):(txt x).length<=36*xcount x:=by have:=txt_len (YmD h);omega
theorem strO_one:OneC strL:=by
 intro fz d cs h u hu;obtain ⟨rfl,_⟩:=h;simp at hu;subst hu;rfl
theorem YoT {l:List UInt8} (h:l.length<=1000000000):strL.rep fz (strOf l) [Zy (strOf l)]:=⟨rfl,by rw [WW];omega⟩
theorem YpT {x:Sexpr} (h:XOk x):(Lib.join (x.kids.map txt) [32]).length<=36*xcount x:=by
 cases x with
 | mk k v l c t ks=>
  have h1:=(Xe.1 (YmD h)).2;have h2:=txtL_len (YhG.2 h1);have h3:=join_len (l:=ks.map txt);rw [<- YmJ] at h3 ⊢;simp only [Sexpr.kids] at h2 ⊢;rw [xcount];omega
theorem YmB:∀ (s:Nat) {fz:FZ} {x:Sexpr} {vk:Value},SizeOf.sizeOf x<=s->YT fz x vk->XOk x->xcount x<=4096->TabF fz->
 QFn prog 231 [.agg #[Zk x.kind,Zk x.value,Zk x.line,Zk x.column,Zy x.text,vk]] fz (Zy (strOf (txt x)))
 | 0,_,x,_,hs,_,_,_,_=>by cases x;simp at hs
 | s+1,fz,x,vk,hs,h,hX,hc,hT=>by
  refine GFn.quiet ?_;obtain ⟨A,n,ca,rfl,hk⟩:=h.kids;have l1:=hk.len;have l2:=hk.short;have hN:=Xe.1 hX;have e:=txt_eq x;have ec:=Xj x;refine zF Tryz.func231 Tryz.ntmps231 (fun w0=>?_);refine pX (fun g0=>?_);refine wC (fun x1=>?_) (fun y1=>?_)
  ·exact wR (h:=by rw [e,if_pos (show x.kind=1 from x1),strOf_of])
  refine wC (fun x2=>?_) (fun y2=>?_)
  ·have hNum:Yca x.value:=by
    rcases hN.1 with ⟨h1,_⟩ | ⟨_,_,_,h1⟩ | ⟨h1,_⟩
    ·omega
    ·exact h1
    omega
   refine wc (YpV hT hNum) ?_;exact wR (h:=by rw [e,if_neg (show ¬x.kind=1 from y1),if_pos (show x.kind=2 from x2)])
  have hlen:=YpT hX;have hln:=Wt (l:=x.kids);refine zW ?_;refine Yi (fun q σ fz' H'=>∃ (k:Nat) (v:Value) (Hs:HP),k<=n/\q=n - k/\σ=[(20,Zk k),(19,Zk n),(18,Zc A n ca),(3,v)]/\fz=fz'/\H'=Hs/\Grow strL 9 fz' v k Hs (((x.kids.map txt).take k).map strOf))
   ⟨0,_,[],Z0 _,rfl,rfl,rfl,rfl,Grow.nil _ _ _⟩ Zw Zb ?_
  rintro q σ fz' H' ⟨k,v,Hs,hk',rfl,rfl,rfl,rfl,hG⟩;obtain ⟨Av,cv,rfl,_,_⟩:=hG.form;refine wC ?_ ?_<;>intro c1
  ·obtain ⟨y,hy⟩:=Ye (l:=x.kids) (k:=k) Zi;have hym:=Zm hy;have hlt:=Sexpr.kids_lt hym;have hcy:=Wg hym;have hyo:=hN.2 y hym;have hyl:=Yot hyo;refine wI hk hy (fun p hp=>?_);refine zL hp ?_;intro cs hcs;obtain ⟨vk2,rfl,hR⟩:=Yf hcs;obtain ⟨A2,n2,c2,rfl,_⟩:=hR.kids;refine zW ?_;intros
   ((refine zG ?_);refine YF (YmB s Zi hR hyo Zi hT) ?_);refine Ya (Yb (cs:=[Zy (strOf (txt y))]) (fun gb=>?_));refine Ya (YN (Hr:=[_,_]) (Zr _) hG strO_one (.head _) (YoT Zi) (fun v' Hs' hO'=>?_));obtain ⟨Av',cv',rfl,_,_⟩:=hO'.form;exact wP (h:=by exact ⟨k+1,_,Hs',by omega,rfl,rfl,rfl,rfl,hO'.of (by rw [List.take_add_one,List.getElem?_map,hy];simp) rfl⟩)
  have hk1:n=k:=by omega
  subst hk1;rw [Zl (by rw [List.length_map];omega)] at hG;refine zW ?_;refine Seq.freezeAll (H1:=[]) (Zr _) (fun fz3 hle3 hf3=>?_)
  ((refine zG ?_);refine YF (join_q hG hf3 Zi Zi) ?_);refine zG ?_;refine YgS (a:=[40]) Zz Zz (by simp;omega) ?_;refine zG ?_;refine YgS (b:=[41]) Zz Zz (by simp;omega) ?_;exact wR (h:=by rw [e,if_neg (show ¬x.kind=1 from y1),if_neg (show ¬x.kind=2 from y2)];rfl)
theorem xwrite_q {x:Sexpr} (h:YT fz x vk) (hX:XOk x) (hc:xcount x<=4096) (hT:TabF fz):
 QFn prog 231 [.agg #[Zk x.kind,Zk x.value,Zk x.line,Zk x.column,Zy x.text,vk]] fz (Zy (strOf (txt x))):=YmB _ (Zs _) h hX hc hT
theorem Ylt {x:Sexpr} {w:Nat} (h:XOk x) (hi:i+2*xdepth x<=66):(lay w x i).length<=102*xcount x:=by
 have:=lay_len (w:=w) (M:=66) (YmD h) hi;omega
theorem You:∀ (s:Nat) {fz:FZ} {x:Sexpr} {vk:Value} {w i:Nat},SizeOf.sizeOf x<=s->YT fz x vk->XOk x->xcount x<=4096->i+2*xdepth x<=66->w<=200->TabF fz->
 QFn prog 172 [.agg #[Zk x.kind,Zk x.value,Zk x.line,Zk x.column,Zy x.text,vk],Zk w,Zk i] fz (Zy (strOf (lay w x i)))
 | 0,_,x,_,_,_,hs,_,_,_,_,_,_=>by cases x;simp at hs
 | s+1,fz,x,vk,w,i,hs,h,hX,hc,hi,hw,hT=>by
  refine GFn.quiet ?_;obtain ⟨A,n,ca,rfl,hk⟩:=h.kids;have l1:=hk.len;have l2:=hk.short;have hN:=Xe.1 hX;have ec:=Xj x;have ed:=Ycs x;have htl:=Yot hX;have hsz:=WW (txt x);refine zF Tryz.func172 Tryz.ntmps172 (fun w0=>?_);refine pX (fun g0=>?_);refine wc (xwrite_q h hX hc hT) ?_;refine wC (fun x3=>?_) (fun y3=>?_)
  ·exact wR (h:=by rw [Ygv (.inl x3)])
  refine wC ?_ ?_<;>intro e1
  ·exact wR (h:=by rw [Ygv (.inr (.inl Zi))])
  refine wC ?_ ?_<;>intro e2
  ·exact wR (h:=by rw [Ygv (.inr (.inr Zi))])
  have hl:=lay_long (w:=w) (i:=i) (x:=x) (fun h0=>by omega);obtain ⟨y,hy⟩:=Ye (l:=x.kids) (k:=0) Zi;have hym:=Zm hy;have hlt:=Sexpr.kids_lt hym;have hcy:=Wg hym;have hdy:=Wq.1 (Zs _) y hym;have hd0:i+2+2*xdepthL x.kids<=66:=by rw [if_pos Zi] at ed;omega
  have hyo:=hN.2 y hym;have hyl:=Ylt (w:=w) (i:=i+1) hyo Zi;refine zW ?_;intros;rename_i gb;refine zI hk hy (fun p hp=>?_);refine zL hp ?_;intro cs hcs;obtain ⟨vk2,rfl,hR⟩:=Yf hcs;obtain ⟨A2,n2,c2,rfl,_⟩:=hR.kids;refine wG ?_;refine YF (You s (i:=i+1) Zi hR hyo Zi Zi hw hT) ?_;refine zG ?_;refine YgS (a:=[40]) Zz Zz (by simp;omega) ?_;refine Ya (Ym [_] [_] Zz (Yh6 (s:=strOf ([40]++lay w y (i+1))) (Bld.new gb) (by rw [WW];simp;omega)) (fun r1 fz1 H1 hle1 hR1=>?_));obtain ⟨rfl,rfl,hB⟩:=hR1;refine Seq.perm (Zq (l₁:=[_])) ?_;have hkk:x.kids=y::x.kids.drop 1:=by
   cases hq:x.kids with
   | nil=>simp [hq] at hy
   | cons a b=>simp [hq] at hy;subst hy;rfl
  have hcr:xcountL (x.kids.drop 1)<=xcountL x.kids:=by
   have h0:xcountL x.kids=xcountL (y::x.kids.drop 1):=congrArg xcountL hkk;rw [xcountL] at h0;omega
  have hB2:Bld gb (40::(lay w y (i+1)++layT w ((x.kids.drop 1).take 0) (i+2))) H1:=by simpa [Yfi,layT] using hB
  have hlT:∀ k,(layT w ((x.kids.drop 1).take k) (i+2)).length<=102*4096:=fun k=>by
   have h0:=layT_len (w:=w) (M:=66) (l:=(x.kids.drop 1).take k) (i:=i+2) (YhG.2 (fun z hz=>YmD (hN.2 z (List.mem_of_mem_drop (List.mem_of_mem_take hz))))) (by
    have:xdepthL ((x.kids.drop 1).take k)<=xdepthL x.kids:=Wq.2 (fun z hz=>Wq.1 (Zs _) z (List.mem_of_mem_drop (List.mem_of_mem_take hz)));omega)
   have h1:=YfX (l:=x.kids.drop 1) (k:=k);omega
  refine wG ?_;refine Xy (j:=1) hk (fun B hS=>?_);refine zW ?_;refine Yi (fun q σ fz' H'=>∃ k:Nat,k<=n - 1/\q=n - 1 - k/\σ=[(45,Zk k),(44,Zk ((n - 1:Nat):Int)),(43,Zc B (n - 1) (ca - 1)),(8,Zp gb),(2,Zk i),(1,Zk w)]/\fz=fz'/\Bld gb (40::(lay w y (i+1)++layT w ((x.kids.drop 1).take k) (i+2))) H')
   ⟨0,Z0 _,rfl,rfl,rfl,hB2⟩ Zw Zb ?_
  rintro q σ fz' H' ⟨k,hk',rfl,rfl,rfl,hBk⟩;have hdl:(x.kids.drop 1).length=n - 1:=by rw [List.length_drop,l1]
  refine wC ?_ ?_<;>intro c1
  ·obtain ⟨z,hz⟩:=Ye (l:=x.kids.drop 1) (k:=k) Zi;have hzm:z∈x.kids:=List.mem_of_mem_drop (Zm hz);have hltz:=Sexpr.kids_lt hzm;have hcz:=Wg hzm;have hdz:=Wq.1 (Zs _) z hzm;have hzo:=hN.2 z hzm;have hzl:=Ylt (w:=w) (i:=i+2) hzo Zi;have hlk:=hlT k;refine wI hS hz (fun p2 hp2=>?_);refine zL hp2 ?_;intro cs2 hcs2;obtain ⟨vk3,rfl,hR3⟩:=Yf hcs2;obtain ⟨A3,n3,c3,rfl,_⟩:=hR3.kids;refine zWO ?_;intros;rename_i gk;refine XF [_] ?_;refine wG ?_;refine YF (repeat_q (n:=i+2) Zi) ?_;refine zG ?_;refine YgS (a:=[10]) Zz Zz (by simp;omega) ?_;refine wG ?_;refine YF (You s (i:=i+2) Zi hR3 hzo Zi Zi hw hT) ?_;refine zG ?_;refine YgS Zz Zz (by simp;omega) ?_;refine pU ?_;refine Yj (Does.perm (Zq (l₂:=[_])) (Ym _ [_] Zz (Yh6 (s:=strOf ([10]++List.replicate (i+2) 32++lay w z (i+2))) hBk (by rw [WW];simp only [List.length_cons,List.length_append,List.length_replicate,List.length_nil];omega)) (fun r2 fz2 H2 hle2 hR2=>?_)));obtain ⟨rfl,rfl,hB3⟩:=hR2;refine ⟨⟨Zd,by intro p hp;simp only [List.mem_singleton] at hp;subst hp;simp⟩,?_⟩;refine Ch.done ?_;have hB4:Bld gb (40::(lay w y (i+1)++layT w ((x.kids.drop 1).take (k+1)) (i+2))) H2:=by
    rw [YpP hz];rw [Yfi] at hB3;simpa only [List.cons_append,List.append_assoc,List.nil_append] using hB3
   refine zW ?_;exact Wj ⟨k+1,by omega,rfl,rfl,rfl,hB4⟩ Zi Zw (List.sublist_append_left _ _)
  have hk1:k=n - 1:=by omega
  subst hk1;rw [Zl Zi] at hBk;have hll:=hlT (n - 1);rw [Zl Zi] at hll;refine zW ?_;refine Ya (Ym _ [] ((List.append_nil _).symm) (YqS hBk (by simp) (by simp only [List.length_cons,List.length_append];omega)) (fun r2 fz2 H2 hle2 hR2=>?_));obtain ⟨rfl,rfl,rfl⟩:=hR2;refine zG ?_;refine YgS (b:=[41]) Zz Zz (by simp only [List.length_cons,List.length_append,List.length_nil];omega) ?_;exact wR (h:=by rw [hl,hkk];rfl)
theorem Yov {x:Sexpr} (h:YT fz x vk) (hT:TabF fz):
 QFn prog 110 [.agg #[Zk x.kind,Zk x.value,Zk x.line,Zk x.column,Zy x.text,vk],Zk 80] fz (if XVal x then .tuple #[Zy (strOf (lay 80 x 0)),.nilIface] else .tuple #[Ze,errV 2]):=by
 refine GFn.quiet ?_;obtain ⟨A,n,ca,rfl,hk⟩:=h.kids;refine zF Tryz.func110 Tryz.ntmps110 (fun w0=>?_);refine pX (fun g0=>?_);refine wb (Yat h) (fun f1=>?_) (fun f1=>?_)
 ·have hv:=Zt f1;refine wG ?_;refine q_min ?_;refine wG ?_;refine YF (You (w:=80) (i:=0) _ (Zs _) h hv.1 hv.2.2 (by have:=hv.2.1;omega) Zi hT) ?_;exact wS (h:=by exact (if_pos hv).symm)
 have hv:=Zf f1;exact wS (h:=by exact (if_neg hv).symm)
theorem sx_x {x:Sexpr} (h:SxIs fz v x):∃ A n c,v=.agg #[Zk x.kind,Zk x.value,Zk x.line,Zk x.column,Zy x.text,Zc A n c]/\YT fz x (Zc A n c):=by
 obtain ⟨cs,rfl,hr⟩:=h;obtain ⟨vk,rfl,hX⟩:=Yf hr;obtain ⟨A,n,c,rfl,_⟩:=hX.kids;exact ⟨A,n,c,rfl,hX⟩
theorem Yig {x:Sexpr} (h:YT fz x vk) (hv:XVal x) (hT:TabF fz):
 QFn prog 40 [.agg #[Zk x.kind,Zk x.value,Zk x.line,Zk x.column,Zy x.text,vk],.nilIface] fz (.tuple #[Zy (strOf (lay 80 x 0++ [10])),.nilIface]):=by
 obtain ⟨A,n,c,rfl,_⟩:=h.kids;have hL:=Yov h hT;rw [if_pos hv] at hL;have hl:=Ylt (w:=80) (i:=0) hv.1 (by have:=hv.2.1;omega);have hc:=hv.2.2;refine qF Tryz.func40 Tryz.ntmps40 (fun w0=>?_);refine pX (fun g0=>?_);refine wc hL ?_;refine wG ?_;refine YgS (b:=[10]) Zz Zz (by simp;omega) ?_;exact wS (h:=rfl)
theorem YgU {x:Sexpr} (h:YT fz x vk):
 QFn prog 40 [.agg #[Zk x.kind,Zk x.value,Zk x.line,Zk x.column,Zy x.text,vk],.iface 89 (Zk 2)] fz (.tuple #[Ze,.iface 89 (Zk 2)]):=by
 obtain ⟨A,n,c,rfl,_⟩:=h.kids;refine qF Tryz.func40 Tryz.ntmps40 (fun w0=>?_);refine pX (fun g0=>?_);exact wS (h:=rfl)
noncomputable def Ykq (P:Prop) (l:List UInt8):Value:=.tuple #[Zy (if P then strOf l else ⟨#[]⟩),errV (if P then 0 else 2)]
theorem pdom_q (h:DomainR fz d v1 v2 v3 v4 v5 v6) (hs:DomSm d) (hT:TabF fz):
 QFn prog 14 [ZD d v1 v2 v3 v4 v5 v6] fz (Ykq (Ycq d/\XVal (domX d)) (lay 80 (domX d) 0++ [10])):=by
 obtain ⟨⟨A1,n1,b1,rfl,i1⟩,⟨A2,n2,b2,rfl,i2⟩,⟨A3,n3,b3,rfl,i3⟩,⟨A4,n4,b4,rfl,i4⟩,⟨A5,n5,b5,rfl,i5⟩,⟨A6,n6,b6,rfl,i6⟩⟩:=h.sls;refine qF Tryz.func14 Tryz.ntmps14 (fun w0=>?_);refine pX (fun g0=>?_);refine wK (q:=Yjz h hs) (h:=fun v6 fz6 H6 hle6 hR6=>?_);obtain ⟨rfl,u,y,rfl,hy,hyx⟩:=hR6;obtain ⟨A7,m7,c7,rfl,hX7⟩:=sx_x hy;by_cases hP:Ycq d/\XVal (domX d)
 ·have e:=hyx hP;subst e;rw [if_pos hP,show errV 0=.nilIface from rfl];refine wc (Yig hX7 hP.2 (hT.mono hle6)) ?_;exact wS (h:=by exact (by rw [Ykq,if_pos hP,if_pos hP];rfl))
 rw [if_neg hP,Yg Zh];refine wc (YgU hX7) ?_;exact wS (h:=by exact (by rw [Ykq,if_neg hP,if_neg hP,Yg Zh];rfl))
theorem pprb_q (h:ProblemR fz p v1 v2 v3 v4 v5 v6 v7) (hs:PrbSm p) (hT:TabF fz):
 QFn prog 9 [ZP p v1 v2 v3 v4 v5 v6 v7] fz (Ykq (FVal p.goal/\YbJ p/\XVal (prbX p)) (lay 80 (prbX p) 0++ [10])):=by
 obtain ⟨⟨A1,n1,b1,rfl,io⟩,⟨A2,n2,b2,rfl,ii⟩,⟨A3,n3,b3,rfl,iv⟩⟩:=h.sls;obtain ⟨⟨A4,n4,b4,rfl,_⟩,⟨A5,n5,b5,rfl,_⟩,⟨A6,n6,b6,rfl,_⟩,⟨A7,n7,b7,rfl,i7⟩⟩:=h.goal.sls;refine qF Tryz.func9 Tryz.ntmps9 (fun w0=>?_);refine pX (fun g0=>?_);refine wK (q:=Yi5 h hs) (h:=fun v8 fz8 H8 hle8 hR8=>?_);obtain ⟨rfl,u,y,rfl,hy,hyx⟩:=hR8;obtain ⟨C7,m7,c7,rfl,hX7⟩:=sx_x hy;by_cases hP:FVal p.goal/\YbJ p/\XVal (prbX p)
 ·have e:=hyx hP;subst e;rw [if_pos hP,show errV 0=.nilIface from rfl];refine wc (Yig hX7 hP.2.2 (hT.mono hle8)) ?_;exact wS (h:=by exact (by rw [Ykq,if_pos hP,if_pos hP];rfl))
 rw [if_neg hP,Yg Zh];refine wc (YgU hX7) ?_;exact wS (h:=by exact (by rw [Ykq,if_neg hP,if_neg hP,Yg Zh];rfl))
theorem PK.no {P:Program} {cx:Cx} {l:List Oper} {pu:List Nat} {σ' ve τ:Env} {Hq:HP} {d:Nat} {op:Op} {ty:TypeId} {pos:String} {af:Array Edge} {K:Env->Env->List (Nat × Oper)->Prop} {rest:List Oper} {ch:List (Nat × Oper)} {g:Nat × Bool} (hp:inPu pu i=false) (hw:Ydq ⟨some d,op,ty,pos,af,some g⟩ ve=some false) (h:PK P cx l pu σ' fz Hq K (i+1) rest ((i,undef)::ve) ((d,undef)::τ) ch):
 PK P cx l pu σ' fz Hq K i (⟨some d,op,ty,pos,af,some g⟩::rest) ve τ ch:=by
 unfold PK;exact .inl ⟨undef,by unfold QOkP;rw [hp];exact .inr ⟨hw,rfl⟩,h⟩
theorem YpJ (hD:DomainR fz d v1 v2 v3 v4 v5 v6) (hP:ProblemR fz p u1 u2 u3 u4 u5 u6 u7) (w1:domW d<=1300000) (w2:prbW p<=1300000) (hM:MaxF fz) (hT:TabF fz)
 (awk:QFn prog 5 [] fz (Zo true)):
 GFn prog 3 [ZD d v1 v2 v3 v4 v5 v6,ZP p u1 u2 u3 u4 u5 u6 u7] fz [] (fun r fz' H'=>H'=[]/\r=Zo true):=by
 have hD0:=hD;have hP0:=hP;have hlN:=YpQ d p;have hlq:=Yn6 hD hP;obtain ⟨⟨A1,n1,b1,rfl,_⟩,⟨A2,n2,b2,rfl,_⟩,⟨A3,n3,b3,rfl,_⟩,⟨A4,n4,b4,rfl,_⟩,⟨A5,n5,b5,rfl,_⟩,⟨A6,n6,b6,rfl,_⟩⟩:=id hD.sls;obtain ⟨⟨C1,m1,e1,rfl,_⟩,⟨C2,m2,e2,rfl,_⟩,⟨C3,m3,e3,rfl,_⟩⟩:=id hP.sls;obtain ⟨⟨U1,x1,z1,rfl,_⟩,⟨U2,x2,z2,rfl,_⟩,⟨U3,x3,z3,rfl,_⟩,⟨U4,x4,z4,rfl,_⟩⟩:=id hP.goal.sls;refine zF Tryz.func3 Tryz.ntmps3 (fun w0=>?_);refine pX (fun g1=>?_);refine pY (fun g2=>?_);refine zW ?_;intros;refine zb hlq (fun f1=>?_) (fun f1=>?_)
 ·refine zW ?_;intros;refine zc awk ?_;refine zW ?_;intros;exact ret1 rfl rfl (List.nil_sublist _) ⟨rfl,rfl⟩
 have hl:=Zf f1;have hSm:=canSm_of (show domW d<=100000000 by omega) (show YdH d p<=2000 by omega);have hSp:=canSp_of (show prbW p<=100000000 by omega) (show YdH d p<=2000 by omega);refine zW ?_;intros;refine zc awk ?_;refine zWX ?_;intros;refine Yr (YY (fun σ fz' H'=>∃ (g5 g6:Nat) (l:List Atom) (s1 s2 s3 s4 s5 s6 t1 t2 t3 t4 t5 t6 t7:Value),σ=[(6,Zp g6),(5,Zp g5),(3,Zp g2),(2,Zp g1)]/\Le fz fz'/\
  H'=[(g6,Zu #[Zy p.name,Zy p.domain,t1,t2,t3,Zy p.goal.op,Zy p.goal.name,t4,t5,t6,t7] 37),(g5,Zu #[Zy d.name,s1,s2,s3,s4,s5,s6] 28),(g2,Zu #[Zy p.name,Zy p.domain,Zc C1 m1 e1,Zc C2 m2 e2,Zc C3 m3 e3,Zy p.goal.op,Zy p.goal.name,Zc U1 x1 z1,Zc U2 x2 z2,Zc U3 x3 z3,Zc U4 x4 z4] 37),(g1,Zu #[Zy d.name,Zc A1 n1 b1,Zc A2 n2 b2,Zc A3 n3 b3,Zc A4 n4 b4,Zc A5 n5 b5,Zc A6 n6 b6] 28)]/\
  CptS l/\(∀ a,a∈l↔a∈p.init)/\DomainR fz' (canD d) s1 s2 s3 s4 s5 s6/\ProblemR fz' (canP p l) t1 t2 t3 t4 t5 t6 t7) ?_ ?_)
 ·refine zWN ?_;intros;refine WP [] [_,_] ?_;refine zW ?_;intros;refine Yn ?_;refine zW ?_;intros;refine pT ?_
  repeat' first
   | refine Po.done ?_
   | (refine Yh ?_)
   | (refine XD ?_ ?_)
   | (refine Po.three ?_ ?_ ?_)
   | (refine Yd (i:=1) (Ym [] _ Zz (YqN hD0 hSm) (fun v6 fz6 H6 hle6 hR6=>⟨⟨hle6,Zkx⟩,?_⟩));obtain ⟨rfl,s1,s2,s3,s4,s5,s6,rfl,hD6⟩:=hR6;obtain ⟨X0,i0,j0,rfl,_⟩:=id hD6.types;obtain ⟨X1,i1,j1,rfl,_⟩:=id hD6.constants;obtain ⟨X2,i2,j2,rfl,_⟩:=id hD6.predicates;obtain ⟨X3,i3,j3,rfl,_⟩:=id hD6.functions;obtain ⟨X4,i4,j4,rfl,_⟩:=id hD6.actions;obtain ⟨X5,i5,j5,rfl,_⟩:=id hD6.duratives)
   | (refine Yd (i:=3) (Ym [] _ Zz (YnC (hP0.mono hle6) hSp) (fun v7 fz7 H7 hle7 hR7=>⟨⟨hle6.trans hle7,Zkx⟩,?_⟩));obtain ⟨rfl,l,t1,t2,t3,t4,t5,t6,t7,rfl,hC7,hM7,hP7⟩:=hR7;obtain ⟨Y0,r0,q0,rfl,_⟩:=id hP7.objects;obtain ⟨Y1,r1,q1,rfl,_⟩:=id hP7.init;obtain ⟨Y2,r2,q2,rfl,_⟩:=id hP7.values;obtain ⟨Y3,r3,q3,rfl,_⟩:=id hP7.goal.args;obtain ⟨Y4,r4,q4,rfl,_⟩:=id hP7.goal.params;obtain ⟨Y5,r5,q5,rfl,_⟩:=id hP7.goal.exprs;obtain ⟨Y6,r6,q6,rfl,_⟩:=id hP7.goal.kids)
   | refine Yd (i:=4) (Y7 (fun g5=>⟨⟨Zd,Zkx⟩,?_⟩))
   | refine Yd (i:=4) (Y7 (fun g5=>⟨⟨hle6,Zkx⟩,?_⟩))
   | refine Yd (i:=4) (Y7 (fun g5=>⟨⟨hle6.trans hle7,Zkx⟩,?_⟩))
   | refine Yd (i:=5) (Y7 (fun g6=>⟨⟨Zd,Zkx⟩,?_⟩))
   | refine Yd (i:=5) (Y7 (fun g6=>⟨⟨hle6,Zkx⟩,?_⟩))
   | refine Yd (i:=5) (Y7 (fun g6=>⟨⟨hle6.trans hle7,Zkx⟩,?_⟩))
   | refine PoS.hard0 (YG ?_)
   | refine PoS.hard0 (Y9 ?_)
  all_goals
   first
    | exact midP (H1:=[_,_,_,_]) (H':=[_,_,_,_]) (σ':=[(6,.pointer (some ⟨g6,0,none⟩)),(5,.pointer (some ⟨g5,0,none⟩)),(3,.pointer (some ⟨g2,0,none⟩)),(2,.pointer (some ⟨g1,0,none⟩))]) (Zr _) ⟨g5,g6,l,_,_,_,_,_,_,_,_,_,_,_,_,_,rfl,hle6.trans hle7,rfl,hC7,hM7,hD6.mono hle7,hP7⟩ Zw (List.Sublist.refl _)
    | exact midP (H1:=[_,_,_,_]) (H':=[_,_,_,_]) (σ':=[(6,.pointer (some ⟨g6,0,none⟩)),(5,.pointer (some ⟨g5,0,none⟩)),(3,.pointer (some ⟨g2,0,none⟩)),(2,.pointer (some ⟨g1,0,none⟩))]) (List.Perm.swap _ _ _) ⟨g5,g6,l,_,_,_,_,_,_,_,_,_,_,_,_,_,rfl,hle6.trans hle7,rfl,hC7,hM7,hD6.mono hle7,hP7⟩ Zw (List.Sublist.refl _)
 rintro σ fz1 H' ⟨g5,g6,l,s1,s2,s3,s4,s5,s6,t1,t2,t3,t4,t5,t6,t7,rfl,hle1,rfl,hC1,hM1,hD1,hP1⟩;obtain ⟨⟨X0,i0,j0,rfl,_⟩,⟨X1,i1,j1,rfl,_⟩,⟨X2,i2,j2,rfl,_⟩,⟨X3,i3,j3,rfl,_⟩,⟨X4,i4,j4,rfl,_⟩,⟨X5,i5,j5,rfl,_⟩⟩:=id hD1.sls;obtain ⟨⟨Y0,r0,q0,rfl,_⟩,⟨Y1,r1,q1,rfl,_⟩,⟨Y2,r2,q2,rfl,_⟩⟩:=id hP1.sls;obtain ⟨⟨Y3,r3,q3,rfl,_⟩,⟨Y4,r4,q4,rfl,_⟩,⟨Y5,r5,q5,rfl,_⟩,⟨Y6,r6,q6,rfl,_⟩⟩:=id hP1.goal.sls;have hck:=Ymo (hM.mono hle1) (hD0.mono hle1) (hP0.mono hle1) (Ymm w1 w2);have hck2:=Ymo (hM.mono hle1) hD1 hP1 (Ymm (by rw [domW_can];exact w1) (Nat.le_trans (prbW_can hC1.1 hM1) w2));have hpp:=pprb_q (hP0.mono hle1) (Ymm w1 w2).psm (hT.mono hle1);have hcc:=Yms (d:=d) hC1.1 hM1;rw [resV] at hck hck2;generalize (FVal p.goal/\YbJ p/\XVal (prbX p))=P at hpp hcc;unfold Ykq at hpp;obtain ⟨E1,E2,E3,h1,h2,h3,hE⟩:∃ E1 E2 E3:Value,errV (Yak d p).2=E1/\errV (Yak (canD d) (canP p l)).2=E2/\errV (if P then 0 else 2)=E3/\((∃ n1 n2,E1=errV n1/\E2=errV n2/\E3=errV 2)\/(E1=.nilIface/\E2=.nilIface/\E3=.nilIface)\/(∃ n1 n2,n1≠0/\n2≠0/\E1=errV n1/\E2=errV n2/\E3=.nilIface)):=by
  refine ⟨_,_,_,rfl,rfl,rfl,?_⟩;by_cases hw:P
  ·rw [if_pos hw];by_cases hc:(Yak d p).2=0
   ·rw [hc,(hcc hw).1 hc];exact .inr (.inl ⟨rfl,rfl,rfl⟩)
   exact .inr (.inr ⟨_,_,hc,fun h=>hc ((hcc hw).2 h),rfl,rfl,rfl⟩)
  rw [if_neg hw];exact .inl ⟨_,_,rfl,rfl,rfl⟩
 rw [h1] at hck;rw [h2] at hck2;rw [h3] at hpp;clear h1 h2 h3 hcc;rcases hE with ⟨n1,n2,rfl,rfl,rfl⟩ | ⟨rfl,rfl,rfl⟩ | ⟨n1,n2,z1,z2,rfl,rfl,rfl⟩
 rotate_left 2;rw [Yg z1] at hck;rw [Yg z2] at hck2;rotate_left 1;rw [Yg Zh] at hpp
 all_goals
  refine zW ?_;intros;refine zc hck ?_;refine zW ?_;intros;refine zc hck2 ?_;refine zW ?_;intros;refine zc hpp ?_;refine zWN ?_;intros;refine WP [] [_,_,_,_] ?_
  repeat first
   | ((first | refine PK.q Zz ?_ | refine PK.yes Zz Zz ?_);(first | refine XC ?_ | refine YV ?_ | refine Yt ?_ | refine Yx 0 ?_ (hv:=by exact rfl) | refine Yx 1 ?_ (hv:=by exact rfl) | refine Yx 2 ?_ (hv:=by exact rfl) | refine Yx 3 ?_ (hv:=by exact rfl) | refine Yx 4 ?_ (hv:=by exact rfl) | refine Yx 5 ?_ (hv:=by exact rfl) | refine Yx 6 ?_ (hv:=by exact rfl) | refine Yx 7 ?_ (hv:=by exact rfl) | refine Yy 0 ?_ | refine Yy 1 ?_ | refine Yy 2 ?_ | refine Yy 3 ?_ | refine Yy 4 ?_ | refine Yy 5 ?_ | refine Yy 6 ?_ | refine Yy 7 ?_ | refine YgQ T Zz Zz Zz (by assumption) Zz ?_ | refine YcT T Zz Zz Zz (by assumption) Zz ?_ | refine Yw ?_ | refine Ydy T Zz Zz Zz ?_ | refine Wl ?_ | refine YU Zz ?_ | refine q_not Zz ?_ | refine YbV ?_ | refine Ydw Zz Zz ?_ | refine YlL T Zz Zz Zz Zz Zz Zz ?_ | refine YbW T Zz Zz Zz ?_ | refine Yft T Zz Zz Zz Zz ?_ | refine YgR T Zz Zz Zz Zz ?_ | refine Yfp T Zz Zz Zz Zz ?_ | refine YgO T Zz Zz Zz Zz ?_ | refine YdA T Zz Zz Zz ?_ | refine YaY ?_ | refine q_max Zz Zz ?_ | refine W4 Zz Zz (YQ Zi) ?_ | refine YlH Zz Zz (YQ Zi) ?_))
   | ((first | refine PK.q Zz ?_ | refine PK.yes Zz Zz ?_);refine YnZ ?_)
   | refine PK.no Zz Zz ?_
  refine Yn ?_
  repeat first
   | ((first | refine PK.q Zz ?_ | refine PK.yes Zz Zz ?_);(first | refine XC ?_ | refine YV ?_ | refine Yt ?_ | refine Yx 0 ?_ (hv:=by exact rfl) | refine Yx 1 ?_ (hv:=by exact rfl) | refine Yx 2 ?_ (hv:=by exact rfl) | refine Yx 3 ?_ (hv:=by exact rfl) | refine Yx 4 ?_ (hv:=by exact rfl) | refine Yx 5 ?_ (hv:=by exact rfl) | refine Yx 6 ?_ (hv:=by exact rfl) | refine Yx 7 ?_ (hv:=by exact rfl) | refine Yy 0 ?_ | refine Yy 1 ?_ | refine Yy 2 ?_ | refine Yy 3 ?_ | refine Yy 4 ?_ | refine Yy 5 ?_ | refine Yy 6 ?_ | refine Yy 7 ?_ | refine YgQ T Zz Zz Zz (by assumption) Zz ?_ | refine YcT T Zz Zz Zz (by assumption) Zz ?_ | refine Yw ?_ | refine Ydy T Zz Zz Zz ?_ | refine Wl ?_ | refine YU Zz ?_ | refine q_not Zz ?_ | refine YbV ?_ | refine Ydw Zz Zz ?_ | refine YlL T Zz Zz Zz Zz Zz Zz ?_ | refine YbW T Zz Zz Zz ?_ | refine Yft T Zz Zz Zz Zz ?_ | refine YgR T Zz Zz Zz Zz ?_ | refine Yfp T Zz Zz Zz Zz ?_ | refine YgO T Zz Zz Zz Zz ?_ | refine YdA T Zz Zz Zz ?_ | refine YaY ?_ | refine q_max Zz Zz ?_ | refine W4 Zz Zz (YQ Zi) ?_ | refine YlH Zz Zz (YQ Zi) ?_))
  refine pT ?_;refine Yh ?_;refine YhI (i:=11) Zz (Ym [] _ Zz (YqN hD1 (YqP hSm)) (fun v6 fz6 H6 hle6 hR6=>⟨⟨hle6,Zkx⟩,?_⟩));obtain ⟨rfl,s1,s2,s3,s4,s5,s6,rfl,hD6⟩:=hR6;rw [YqQ] at hD6;refine Yh ?_;refine YhJ (i:=13) ⟨hle6,Zkx⟩ Zz (YF (edomain hD6 (hD1.mono hle6)) ?_);refine Yh ?_;refine PoS.qk ⟨hle6,Zkx⟩ (YbV ?_);refine Yh ?_;refine PoS.qk ⟨hle6,Zkx⟩ (XC ?_)
  repeat' first
   | refine Po.done ?_
   | (refine Yh ?_)
   | (refine XD ?_ ?_)
   | (refine YhI (i:=17) Zz (Ym [] _ Zz (YnC (hP1.mono hle6) (YqO hC1.1 hM1 hSp)) (fun v8 fz8 H8 hle8 hR8=>⟨⟨hle6.trans hle8,Zkx⟩,?_⟩));obtain ⟨rfl,l8,t1,t2,t3,t4,t5,t6,t7,rfl,hC8,hM8,hP8⟩:=hR8;rw [Yom hC1 hC8 hM8] at hP8)
   | refine YhJ (i:=16) ⟨hle6,Zkx⟩ Zz (Yc (vs:=[.string p.name,.string p.domain,.slice Y0 r0 q0,.slice Y1 r1 q1,.slice Y2 r2 q2,.string p.goal.op,.string p.goal.name,.slice Y3 r3 q3,.slice Y4 r4 q4,.slice Y5 r5 q5,.slice Y6 r6 q6]) 0 ?_)
   | refine YhJ (i:=18) ⟨hle6,Zkx⟩ Zz (Yc (vs:=[.string p.name,.string p.domain,.slice Y0 r0 q0,.slice Y1 r1 q1,.slice Y2 r2 q2,.string p.goal.op,.string p.goal.name,.slice Y3 r3 q3,.slice Y4 r4 q4,.slice Y5 r5 q5,.slice Y6 r6 q6]) 0 ?_)
   | refine YhJ (i:=18) ⟨hle6.trans hle8,Zkx⟩ Zz (Yc (vs:=[.string p.name,.string p.domain,.slice Y0 r0 q0,.slice Y1 r1 q1,.slice Y2 r2 q2,.string p.goal.op,.string p.goal.name,.slice Y3 r3 q3,.slice Y4 r4 q4,.slice Y5 r5 q5,.slice Y6 r6 q6]) 0 ?_)
   | refine YhJ (i:=19) ⟨hle6.trans hle8,Zkx⟩ Zz (YF (eproblem hP8 (hP1.mono (hle6.trans hle8))) ?_)
   | refine PoS.qk ⟨hle6.trans hle8,Zkx⟩ (YbV ?_)
   | refine PoS.qk ⟨hle6.trans hle8,Zkx⟩ (YV ?_)
  all_goals
   refine zW ?_;intros;exact ret1 rfl rfl (List.nil_sublist _) ⟨rfl,rfl⟩
end Go.Proofs.YtiligkgjcmokbaaGreatDoor
namespace Go.Lx
variable {H:HP} {fz:FZ} {n:Nat}
theorem ret0R {P:Program} {cx:Cx} {σ:Env} {H':HP} {fn:Func} {R:Value->FZ->HP->Prop} (hres:fn.results=#[]) (hH:H'.Sublist H) (h:R (.tuple #[]) fz H'):retQ P cx n fn R .ret σ fz H:=by
 unfold retQ;exact ⟨.tuple #[],fun a w hs hw=>by simp [results,hres],YgM hH h⟩
end Go.Lx
namespace Go.Proofs.YtiligkgjcmokbaaGreatDoor
variable {α:Type} {fz:FZ} {g n k:Nat} {v:Value} {s:Bs} {l:List α}
def SepP (n:Int):Prop:=n=32\/n=9\/n=13\/n=10
instance {n:Int}:Decidable (SepP n):=inferInstanceAs (Decidable (_\/_))
theorem sep_q {n:Int}:QFn prog 235 [.int .u8 n] fz (Zo (decide (SepP n))):=by
 refine qF Tryz.func235 Tryz.ntmps235 (fun w0=>?_);refine zW ?_
 (((refine zC (fun c1=>?_) (fun c1=>?_));((refine zW ?_);(exact ret1 rfl rfl Zb (Yu (.inl c1))));(refine zW ?_)))
 (((refine zC (fun c2=>?_) (fun c2=>?_));((refine zW ?_);(exact ret1 rfl rfl Zb (Yu (.inr (.inl c2)))));(refine zW ?_)))
 (((refine zC (fun c3=>?_) (fun c3=>?_));((refine zW ?_);(exact ret1 rfl rfl Zb (Yu (.inr (.inr (.inl c3))))));(refine zW ?_)));refine zC ?_ ?_<;>intro c4
 ·exact wR (h:=by exact Yu (.inr (.inr (.inr c4))))
 exact wR (h:=by exact Yl (fun h=>by rcases h with h | h | h | h;exact c1 h;exact c2 h;exact c3 h;exact c4 h))
def posS (p:Int × Int) (b:UInt8):Int × Int:=if b=10 then (p.1+1,1) else (p.1,p.2+1)
def posA (t:Bs) (a:Nat):Int × Int:=(t.data.toList.take a).foldl posS (1,1)
theorem Ypm {t:Bs} {a:Nat} {b:UInt8} (h:t[a]?=some b):posA t (a+1)=posS (posA t a) b:=by
 unfold posA;have hl:t.data.toList[a]?=some b:=by
  have h1:t[a]?=t.data[a]?:=by
   by_cases ha:a<t.size
   ·rw [getElem?_pos t a ha,Array.getElem?_eq_getElem (show a<t.data.size from ha)];rfl
   rw [getElem?_neg t a ha,Array.getElem?_eq_none (show t.data.size<=a by have:t.data.size=t.size:=rfl;omega)]
  rw [h1] at h;simpa using h
 rw [List.take_add_one,hl];simp
theorem Ynq:∀ (l:List UInt8) (p:Int × Int),0<=p.1->0<=p.2->0<=(l.foldl posS p).1/\0<=(l.foldl posS p).2/\(l.foldl posS p).1<=p.1+l.length/\(l.foldl posS p).2<=p.2+1+l.length
 | [],p,h1,h2=>by simp;omega
 | b::r,p,h1,h2=>by
  rw [List.foldl_cons,List.length_cons];have h3:0<=(posS p b).1/\0<=(posS p b).2/\(posS p b).1<=p.1+1/\(posS p b).2<=p.2+1:=by
   unfold posS;split<;>simp<;>omega
  obtain ⟨i1,i2,i3,i4⟩:=Ynq r (posS p b) h3.1 h3.2.1;refine ⟨i1,i2,?_,?_⟩<;>push_cast<;>omega
theorem YgT (t:Bs) (a:Nat):0<=(posA t a).1/\0<=(posA t a).2/\(posA t a).1<=2+t.size/\(posA t a).2<=2+t.size:=by
 have h:=Ynq (t.data.toList.take a) (1,1) Zh Zh;have hl:(t.data.toList.take a).length<=t.size:=by
  rw [List.length_take];have:t.data.toList.length=t.size:=by rw [Array.length_toList];rfl
  omega
 unfold posA;simp only at h;omega
def rdO (t:Bs) (a:Nat) (n:Int) (v:Value):Obj:=Zu #[Zy t,Zk a,Zk (posA t a).1,Zk (posA t a).2,Zk n,v] 236
theorem YmN {a:Nat} {t:Bs} {n:Int} (ht:t.size<=1000000) (ha:a<t.size):
 GFn prog 236 [Zp g] fz [(g,rdO t a n v)] (fun r fz' H'=>fz'=fz/\H'=[(g,rdO t (a+1) n v)]/\r=.tuple #[]):=by
 obtain ⟨b,hb,hb2⟩:=WC ha;have hp:=Ypm hb;have hbd:=YgT t a;unfold rdO;refine zF Tryz.func236 Tryz.ntmps236 (fun w0=>?_);refine wG ?_;refine Xq ?_ (hb:=by rw [Int.toNat_natCast];exact hb);refine wC ?_ ?_<;>intro c1
 ·have hb10:b=10:=by rw [<- UInt8.toNat_inj];show b.toNat=10;omega
  refine zW ?_;refine Ycc rfl (List.Sublist.refl _) ⟨rfl,?_,rfl⟩;rw [hp,posS,if_pos hb10];push_cast;rfl
 have hb10:¬b=10:=fun h=>c1 (by rw [h];rfl)
 refine zW ?_;refine Ycc rfl (List.Sublist.refl _) ⟨rfl,?_,rfl⟩;rw [hp,posS,if_neg hb10];push_cast;rfl
def Ycv:Bool->List UInt8->Nat
 | _,[]=>0
 | true,b::r=>if b=10 then 1+Ycv false r else 1+Ycv true r
 | false,b::r=>if SepP b.toNat then 1+Ycv false r else if b=59 then 1+Ycv true r else 0
def Wv (m:Bool) (t:Bs) (a:Nat):Nat:=a+Ycv m (t.data.toList.drop a)
theorem Ya3 {t:Bs} {a:Nat} {b:UInt8} (h:t[a]?=some b):t.data.toList.drop a=b::t.data.toList.drop (a+1):=by
 have ha:a<t.size:=by
  rcases Nat.lt_or_ge a t.size with h1 | h1
  ·exact h1
  rw [getElem?_neg t a Zi] at h;cases h
 have hl:a<t.data.toList.length:=by
  have:t.data.toList.length=t.size:=by rw [Array.length_toList];rfl
  omega
 rw [List.drop_eq_getElem_cons hl]
 congr 1
 rw [getElem?_pos t a ha] at h;injection h with h
theorem Yj9 {m:Bool} {t:Bs} {a:Nat} (h:t.size<=a):Wv m t a=a:=by
 have:t.data.toList.drop a=[]:=List.drop_eq_nil_of_le (by have:t.data.toList.length=t.size:=(by rw [Array.length_toList];rfl);omega);unfold Wv;rw [this];cases m<;>simp [Ycv]
theorem YoY {t:Bs} {a:Nat} {b:UInt8} (h:t[a]?=some b) (hb:¬b=10):Wv true t a=Wv true t (a+1):=by
 unfold Wv;rw [Ya3 h,Ycv,if_neg hb];omega
theorem skipA_nl {t:Bs} {a:Nat} {b:UInt8} (h:t[a]?=some b) (hb:b=10):Wv true t a=Wv false t a:=by
 unfold Wv;rw [Ya3 h,Ycv,if_pos hb,Ycv,if_pos (by subst hb;decide)]
theorem YoW {t:Bs} {a:Nat} {b:UInt8} (h:t[a]?=some b) (hb:SepP b.toNat):Wv false t a=Wv false t (a+1):=by
 unfold Wv;rw [Ya3 h,Ycv,if_pos hb];omega
theorem YoX {t:Bs} {a:Nat} {b:UInt8} (h:t[a]?=some b) (hb:b=59):Wv false t a=Wv true t a:=by
 unfold Wv;have e1:∀ r,Ycv false (b::r)=1+Ycv true r:=fun r=>by rw [Ycv,if_neg (by subst hb;decide),if_pos hb]
 have e2:∀ r,Ycv true (b::r)=1+Ycv true r:=fun r=>by rw [Ycv,if_neg (by subst hb;decide)]
 rw [Ya3 h,e1,e2]
theorem YnT {t:Bs} {a:Nat} {b:UInt8} (h:t[a]?=some b) (h1:¬SepP b.toNat) (h2:¬b=59):Wv false t a=a:=by
 unfold Wv;rw [Ya3 h,Ycv,if_neg h1,if_neg h2];rfl
theorem skip_f {a:Nat} {t:Bs} {n:Int} (ht:t.size<=1000000) (ha:a<=t.size):
 GFn prog 174 [Zp g] fz [(g,rdO t a n v)] (fun r fz' H'=>fz'=fz/\H'=[(g,rdO t (Wv false t a) n v)]/\r=.tuple #[]):=by
 refine zF Tryz.func174 Tryz.ntmps174 (fun w0=>?_);refine zW ?_;refine Yi (fun q σ fz' H'=>∃ k:Nat,k<=t.size/\q=t.size - k/\σ=[(0,Zp g)]/\fz=fz'/\H'=[(g,rdO t k n v)]/\Wv false t k=Wv false t a) ⟨a,ha,rfl,rfl,rfl,rfl,rfl⟩ Zw Zb ?_;rintro q σ fz' H' ⟨k,hk,rfl,rfl,rfl,rfl,hs⟩;have hrd:=rdO.eq_1 t k n v;rw [hrd];refine wC ?_ ?_<;>intro c1
 ·obtain ⟨b,hb,hb2⟩:=WC (s:=t) (k:=k) Zi;refine wG ?_;refine Xq ?_ (hb:=by rw [Int.toNat_natCast];exact hb);refine wb (sep_q (n:=b.toNat)) (fun f1=>?_) (fun f1=>?_)
  ·have hsep:=Zt f1;refine zW ?_;refine Ya (Ym [(g,rdO t k n v)] [] Zz (YmN ht Zi) (fun r1 fz1 H1 hle1 hR1=>?_));obtain ⟨rfl,rfl,rfl⟩:=hR1;exact wM (h:=by rw [<- YoW hb hsep];exact hs)
  have hsep:=Zf f1;refine wC ?_ ?_<;>intro c2
  ·have hb59:b=59:=by rw [<- UInt8.toNat_inj];show b.toNat=59;omega
   refine zW ?_;refine Yi (fun q σ fz' H'=>∃ j:Nat,j<=t.size/\k<=j/\q=t.size - j/\σ=[(0,Zp g)]/\fz=fz'/\H'=[(g,rdO t j n v)]/\Wv true t j=Wv false t a) ⟨k,hk,Zs _,rfl,rfl,rfl,rfl,by rw [<- YoX hb hb59];exact hs⟩ Zw Zb ?_;rintro q σ fz' H' ⟨j,hj,hkj,rfl,rfl,rfl,rfl,hs2⟩;have hrd2:=rdO.eq_1 t j n v;rw [hrd2];refine wC ?_ ?_<;>intro c3
   ·obtain ⟨b2,hb3,hb4⟩:=WC (s:=t) (k:=j) Zi;refine wG ?_;refine Xq ?_ (hb:=by rw [Int.toNat_natCast];exact hb3);refine wC ?_ ?_<;>intro c4
    ·have hne:¬b2=10:=fun h=>c4 (by rw [h];rfl)
     refine zW ?_;refine Ya (Ym [(g,rdO t j n v)] [] Zz (YmN ht Zi) (fun r1 fz1 H1 hle1 hR1=>?_));obtain ⟨rfl,rfl,rfl⟩:=hR1;exact wP (h:=by exact ⟨j+1,by omega,by omega,rfl,rfl,rfl,rfl,by rw [<- YoY hb3 hne];exact hs2⟩)
    have heq:b2=10:=by rw [<- UInt8.toNat_inj];show b2.toNat=10;omega
    have hkj2:k<j:=by
     rcases Nat.lt_or_eq_of_le hkj with h | h
     ·exact h
     subst h;rw [hb] at hb3;injection hb3 with hb3
     rw [hb59] at hb3;rw [<- hb3] at heq;cases heq
    exact wP (h:=by exact ⟨j,hj,rfl,rfl,rfl,rfl,by rw [<- skipA_nl hb3 heq];exact hs2⟩)
   exact wP (h:=by exact ⟨j,hj,rfl,rfl,rfl,rfl,by rw [Yj9 Zi] at hs2 ⊢;exact hs2⟩)
  have hne:¬b=59:=fun h=>c2 (by rw [h];rfl)
  rw [YnT hb hsep hne] at hs;refine zW ?_;exact ret0R rfl (List.Sublist.refl _) ⟨rfl,by rw [<- hs];rfl,rfl⟩
 rw [Yj9 Zi] at hs;refine zW ?_;exact Ycc rfl (List.Sublist.refl _) ⟨rfl,by rw [<- hs];rfl,rfl⟩
def zroC:List Value:=[Zk 0,Zk 0,Zk 0,Zk 0,Ze,Zn]
def zroX:Sexpr:=.mk 0 0 0 0 ⟨#[]⟩ []
theorem i64z:I64 0:=by unfold I64;omega
theorem Ymz:YE.rep fz zroX zroC:=Ys (x:=zroX) ⟨i64z,i64z,i64z,i64z,by show (ByteArray.mk #[]).size<=_;decide,IsSl.nil⟩
theorem YiO {z w:α} (hn:l.length=n):(l++ [z]).set n w=l++ [w]:=by
 subst hn;rw [List.set_append_right _ _ (Zs _),Nat.sub_self];rfl
theorem YgH:OneC YE:=by
 intro fz d cs h u hu;obtain ⟨v,rfl,hR⟩:=Yf h;obtain ⟨A,n,c,rfl,_⟩:=hR.kids;simp at hu;rcases hu with rfl | rfl | rfl | rfl | rfl | rfl<;>rfl
theorem add_f {gr go a m cap:Nat} {t:Bs} {n:Int} {vx:Value} {cur:List Value} {Hb Hl:HP} {l:List Sexpr} {x:Sexpr} (hm:1<=m) (hmc:m<=cap) (hm6:m<=1000) (hcur:cur[(m - 1)*6+5]?=some v) (hG:Grow YE 86 fz v k Hl l) (hX:YT fz x vx) (hk:k<=1000000):
 GFn prog 237 [Zp gr,.agg #[Zk x.kind,Zk x.value,Zk x.line,Zk x.column,Zy x.text,vx]] fz
  ((gr,rdO t a n (Zv go m cap))::(go,Zu cur.toArray 86)::(Hb++Hl))
  (fun r fz' H'=>fz'=fz/\r=.tuple #[]/\∃ v' Hl',H'=(gr,rdO t a n (Zv go m cap))::(go,.cells (cur.set ((m - 1)*6+5) v').toArray 86 (0,0))::(Hb++Hl')/\Grow YE 86 fz v' (k+1) Hl' (l++ [x])):=by
 obtain ⟨Ax,nx,cx',rfl,_⟩:=hX.kids;have hlen:=hG.len;obtain ⟨Av,cv,rfl,_,_⟩:=hG.form;have hjl:(m - 1)*6+5<cur.length:=(Zg hcur).1;unfold rdO;refine zF Tryz.func237 Tryz.ntmps237 (fun w0=>?_);refine pX (fun g7=>?_);refine wG ?_;refine Yq (z:=6) rfl ?_;rw [show ((m:Int) - 1).toNat=m - 1 by omega];refine zWN ?_;refine WP [10,11] ((g7,_)::(gr,_)::(go,_):: []) ?_;refine wG ?_;refine Yx 2 ?_ (hv:=hcur);refine zW ?_;refine Yn (Yn (Yn (Yn ?_)));refine PK.p Zz (fun fz'=>by first | exact XC rfl | exact YU Zz rfl | exact Yt rfl | exact W4 Zz Zz (YQ Zi) rfl | exact Yw rfl) ?_;refine PK.p Zz (fun fz'=>by first | exact XC rfl | exact YU Zz rfl | exact Yt rfl | exact W4 Zz Zz (YQ Zi) rfl | exact Yw rfl) ?_;refine pT ?_;refine Yh ?_;refine Yd (Yb (cs:=zroC) (fun gb=>⟨⟨Zd,Zx⟩,?_⟩));refine Yh ?_;refine Yd (YkN (Hr:=(gb,_)::(g7,_)::(gr,_)::(go,_)::Hb) (ys:=[(zroX,zroC)]) (l2:=[zroX]) (m:=1) (Zr _) hG YgH (.head _) (List.append_nil _).symm rfl rfl (fun v' Hs' hO'=>⟨⟨Zd,Zx⟩,?_⟩) (hys:=by intro p hp;simp at hp;subst hp;exact Ymz));obtain ⟨gk,cap2,cur1,rfl,rfl,hB⟩:=hO'.b Zi;refine XD ?_ ?_
 ·refine PoS.hard (DoesQ.does (Yq rfl ?_));refine XD ?_ ?_
  ·refine PoS.hard0 (YI (pre:=(gb,_)::(g7,_)::(gr,_)::(go,_)::Hb) (L:=YE) (j:=k) rfl rfl YgH (Ys hX) hB (fun cur2 hB2=>?_));refine Yh ?_;refine PoS.hard0 (Yc6 (pre:=[_,_,_]) ?_ (hH:=rfl) (hj:=hjl));refine Po.done ?_;refine zW ?_;exact Ycc (H':=(gr,_)::(go,_)::(Hb++ [(gk,_)])) rfl (List.Sublist.cons _ (List.Sublist.cons _ (List.Sublist.refl _))) ⟨rfl,rfl,_,[(gk,_)],rfl,hB2.grow.of (YiO hlen) rfl⟩
  refine PoS.hard0 (Yc6 (pre:=[_,_,_]) ?_ (hH:=rfl) (hj:=hjl));refine Yh ?_;refine PoS.hard0 (YI (pre:=(gb,_)::(g7,_)::(gr,_)::(go,_)::Hb) (L:=YE) (j:=k) rfl rfl YgH (Ys hX) hB (fun cur2 hB2=>?_));refine Po.done ?_;refine zW ?_;exact Ycc (H':=(gr,_)::(go,_)::(Hb++ [(gk,_)])) rfl (List.Sublist.cons _ (List.Sublist.cons _ (List.Sublist.refl _))) ⟨rfl,rfl,_,[(gk,_)],rfl,hB2.grow.of (YiO hlen) rfl⟩
 refine PoS.hard0 (Yc6 (pre:=[_,_,_]) ?_ (hH:=rfl) (hj:=hjl));refine Yh ?_;refine PoS.hard (DoesQ.does (Yq rfl ?_));refine Yh ?_;refine PoS.hard0 (YI (pre:=(gb,_)::(g7,_)::(gr,_)::(go,_)::Hb) (L:=YE) (j:=k) rfl rfl YgH (Ys hX) hB (fun cur2 hB2=>?_));refine Po.done ?_;refine zW ?_;exact Ycc (H':=(gr,_)::(go,_)::(Hb++ [(gk,_)])) rfl (List.Sublist.cons _ (List.Sublist.cons _ (List.Sublist.refl _))) ⟨rfl,rfl,_,[(gk,_)],rfl,hB2.grow.of (YiO hlen) rfl⟩
theorem scut_q {p:Bs} (hs:Short s) (hp:Short p):QFn prog 323 [Zy s,Zy p] fz (.tuple #[Zy (Ya6 s p),Zo (decide (PreP s p))]):=by
 refine qF Tryz.func323 Tryz.ntmps323 (fun w0=>?_);refine wb (Yer hs hp) (fun f1=>?_) (fun f1=>?_)
 ·have hc:=Zt f1;have:=hc.1;refine wG ?_;refine Yfo ?_ (h1:=by omega);exact wS (h:=by exact (by rw [Ya6,if_pos hc,decide_eq_true hc];rfl))
 have hc:=Zf f1;exact wS (h:=by exact (by rw [Ya6,if_neg hc,decide_eq_false hc]))
theorem cut_q {p:Bs} (hs:Short s) (hp:Short p):QFn prog 303 [Zy s,Zy p] fz (.tuple #[Zy (Ya6 s p),Zo (decide (PreP s p))]):=by
 refine qF Tryz.func303 Tryz.ntmps303 (fun w0=>?_);refine wc (scut_q hs hp) ?_;exact wS (h:=rfl)
def valD:List UInt8->Nat->Option Nat
 | [],n=>some n
 | b::r,n=>if 1099511627776<10*n+(b.toNat - 48) then none else valD r (10*n+(b.toNat - 48))
def numS (s:Bs):Option Int:=(valD (Ya6 s YaB).data.toList 0).map fun n=>if PreP s YaB then -(n:Int) else n
theorem value_q (hs:s.size<=1000000) (hn:NumP s):QFn prog 280 [Zy s] fz (.tuple #[Zk ((numS s).getD 0),Zo (numS s).isSome]):=by
 have hsh:Short s:=by unfold Short;omega
 have hz:(Ya6 s YaB).size<=1000000:=by
  unfold Ya6;split
  ·rw [Yb7 (Zs _)];omega
  exact hs
 obtain ⟨hd,_⟩:=hn;refine qF Tryz.func280 Tryz.ntmps280 (fun w0=>?_);refine wG ?_;refine YF (cut_q (p:=YaB) hsh (by unfold Short YaB;decide)) ?_;have hvs:numS s=(valD (Ya6 s YaB).data.toList 0).map fun n=>if PreP s YaB then -(n:Int) else n:=rfl
 generalize htt:Ya6 s YaB=t at*;refine zW ?_;refine Yi (fun q σ fz' H'=>∃ (k m:Nat),k<=t.size/\q=t.size - k/\σ=[(15,Zk k),(14,Zk t.size),(6,Zk m),(5,Zo (decide (PreP s YaB))),(4,Zy t)]/\fz=fz'/\H'=[]/\m<=1099511627776/\valD (t.data.toList.drop k) m=valD t.data.toList 0) ⟨0,0,Z0 _,rfl,rfl,rfl,rfl,by decide,rfl⟩ Zw Zb ?_;rintro q σ fz' H' ⟨k,m,hk,rfl,rfl,rfl,rfl,hm,hv⟩;refine wC ?_ ?_<;>intro c1
 ·obtain ⟨b,hb,hb2⟩:=WC (s:=t) (k:=k) Zi;have hdg:=hd k Zi;rw [hb2] at hdg;unfold DigP at hdg;rw [Ya3 hb,valD] at hv;refine wG ?_;refine Ype (c:=(10*m:Nat)) Zz Zz (by rw [show (10:Int)*(m:Int)=((10*m:Nat):Int) by push_cast;rfl];exact YQ Zi) ?_;refine wG ?_;refine Xq ?_ (hb:=by rw [Int.toNat_natCast];exact hb);refine zG ?_;refine YlH (c:=(b.toNat - 48:Nat)) Zz Zz (by rw [show ((b.toNat:Int) - 48)=((b.toNat - 48:Nat):Int) by omega];exact Ylw) ?_;refine zG ?_;refine Wm ?_ (hw:=YQ Zi);refine zG ?_;refine W4 (c:=(10*m+(b.toNat - 48):Nat)) Zz Zz (by rw [show ((10*m:Nat):Int)+((b.toNat - 48:Nat):Int)=((10*m+(b.toNat - 48):Nat):Int) by push_cast;rfl];exact YQ Zi) ?_;refine wC ?_ ?_<;>intro c2
  ·rw [if_pos Zi] at hv;exact wS (h:=by exact (by rw [hvs,<- hv];rfl))
  rw [if_neg Zi] at hv;exact wP (h:=by exact ⟨k+1,10*m+(b.toNat - 48),by omega,rfl,rfl,rfl,rfl,by omega,hv⟩)
 rw [List.drop_eq_nil_of_le (by have:t.data.toList.length=t.size:=(by rw [Array.length_toList];rfl);omega),valD] at hv;by_cases hp:PreP s YaB
 ·rw [decide_eq_true hp];refine wG ?_;refine q_neg Zz (YQ Zi) ?_;exact wS (h:=by exact (by rw [hvs,<- hv];simp [hp]))
 rw [decide_eq_false hp];exact wS (h:=by exact (by rw [hvs,<- hv];simp [hp]))
end Go.Proofs.YtiligkgjcmokbaaGreatDoor
