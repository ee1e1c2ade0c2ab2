/- The texts PSize, NN, Draw, laid together. Conditions: none. -/
import Derived.Test.YtaaanbkahfeknaaGreatDoorCNM
set_option linter.all false
set_option maxHeartbeats 8000000
set_option maxRecDepth 20000
namespace Go.Proofs.YtaaanbkahfeknaaGreatDoor
open Go.Lx Go.RowKit
attribute [local instance 10] Classical.propDecidable
open Go.Proofs.Tryz (prog)
variable {α:Type} {k n:Nat} {fz:FZ} {va vk ve vp u1 u2 u3 u4 u5 u6 u7 v1 v2 v3 v4 v5 v6:Value} {f:Formula} {A:Option Addr} {d:Domain} {p:Problem} {l:List α}
theorem YeF {w:α->Nat}:((l.take k).map w).sum<=(l.map w).sum:=by
 conv=>rhs;rw [<- List.take_append_drop k l]
 rw [List.map_append,List.sum_append];omega
theorem YeG {w:α->Nat} {x:α} (hx:l[k]?=some x):((l.take (k+1)).map w).sum=((l.take k).map w).sum+w x:=by
 rw [List.take_add_one,hx];simp
mutual
theorem ecount_le:∀ e:Lx.Expr,ecount e<=eW e
 | .mk a b c args kids=>by have:=ecountL_le kids;rw [ecount,eW];omega
theorem ecountL_le:∀ l:List Lx.Expr,ecountL l<=eWL l
 | []=>by simp [ecountL]
 | x::r=>by have h1:=ecount_le x;have h2:=ecountL_le r;rw [ecountL,eWL];omega
end
mutual
theorem fcount_le:∀ f:Formula,fcount f<=fW f
 | .mk a b c d exprs kids=>by have h1:=ecountL_le exprs;have h2:=fcountL_le kids;rw [fcount,fW];omega
theorem fcountL_le:∀ l:List Formula,fcountL l<=fWL l
 | []=>by simp [fcountL]
 | x::r=>by have h1:=fcount_le x;have h2:=fcountL_le r;rw [fcountL,fWL];omega
end
theorem Yi4:∀ (s:Nat) {fz:FZ} {e:Lx.Expr} {va vk:Value},SizeOf.sizeOf e<=s->ExprR fz e va vk->ecount e<=1000000000000->
 QFn prog 44 [.agg #[Zy e.op,Zy e.name,Zk e.n,va,vk]] fz (Zk (ecount e))
 | 0,_,e,_,_,hs,_,_=>by cases e;simp at hs
 | s+1,fz,e,va,vk,hs,h,hc=>by
  obtain ⟨⟨A,n,ca,rfl,ha⟩,⟨B,m,cb,rfl,hk⟩⟩:=h.sls;refine GFn.quiet ?_;have lk:=hk.len;have sk:=hk.short;have ec:=Ykt e;refine zF Tryz.func44 Tryz.ntmps44 (fun w0=>?_);refine pX (fun g0=>?_);refine zW ?_;refine Yd (fun q σ fz' H'=>∃ (k:Nat) (c:Int),k<=m/\q=m - k/\σ=[(4,Zk k),(3,Zk c),(1,Zp g0)]/\fz=fz'/\H'=[(g0,Zu #[Zy e.op,Zy e.name,Zk e.n,Zc A n ca,Zc B m cb] 93)]/\c=((1+ecountL (e.kids.take k):Nat):Int)) ⟨0,_,Z0 _,rfl,rfl,rfl,rfl,rfl⟩ Zw Zb ?_;rintro q σ fz' H' ⟨k,c,hkm,rfl,rfl,rfl,rfl,hh⟩;refine wC ?_ ?_<;>intro c1
  ·obtain ⟨x,hx⟩:=Yq (l:=e.kids) (k:=k) Zi;have hxm:=Zm hx;have hlt:=Lx.Expr.kids_lt hxm;have hst:=YcC hx;have htk:=YcB (l:=e.kids) (k:=k+1);refine wI hk hx (fun p1 hp1=>?_);refine zL hp1 ?_;intro cs hcs;obtain ⟨wa,wk,rfl,hRx⟩:=Xe hcs;refine wG ?_;refine Xn (Yi4 s Zi hRx Zi) ?_;exact wP (h:=by exact ⟨k+1,c+(ecount x:Nat),by omega,rfl,rfl,rfl,rfl,by omega⟩)
  rw [Zl Zi] at hh;exact wR (h:=by rw [hh,ec])
theorem Yi3 {e:Lx.Expr} (h:ExprR fz e va vk) (hc:ecount e<=1000000000000):
 QFn prog 44 [.agg #[Zy e.op,Zy e.name,Zk e.n,va,vk]] fz (Zk (ecount e)):=Yi4 _ (Zs _) h hc
theorem size_f:∀ (s:Nat) {fz:FZ} {f:Formula} {va vp ve vk:Value},SizeOf.sizeOf f<=s->FormulaR fz f va vp ve vk->fcount f<=1000000000000->
 QFn prog 12 [.agg #[Zy f.op,Zy f.name,va,vp,ve,vk]] fz (Zk (fcount f))
 | 0,_,e,_,_,_,_,hs,_,_=>by cases e;simp at hs
 | s+1,fz,f,va,vp,ve,vk,hs,h,hc=>by
  obtain ⟨⟨A,n,ca,rfl,ha⟩,⟨B,m,cb,rfl,hp⟩,⟨C,r,cr,rfl,he⟩,⟨D,q0,cq,rfl,hk⟩⟩:=h.sls;refine GFn.quiet ?_;have lk:=hk.len;have sk:=hk.short;have le:=he.len;have se:=he.short;have ec:=Ykk f;refine zF Tryz.func12 Tryz.ntmps12 (fun w0=>?_);refine pX (fun g0=>?_);refine zW ?_;refine Yd (fun q σ fz' H'=>∃ (k:Nat) (c:Int),k<=r/\q=r - k/\σ=[(4,Zk k),(3,Zk c),(1,Zp g0)]/\fz=fz'/\H'=[(g0,Zu #[Zy f.op,Zy f.name,Zc A n ca,Zc B m cb,Zc C r cr,Zc D q0 cq] 35)]/\c=((1+ecountL (f.exprs.take k):Nat):Int)) ⟨0,_,Z0 _,rfl,rfl,rfl,rfl,rfl⟩ Zw Zb ?_;rintro q σ fz' H' ⟨k,c,hkm,rfl,rfl,rfl,rfl,hh⟩;refine wC ?_ ?_<;>intro c1
  ·obtain ⟨x,hx⟩:=Yq (l:=f.exprs) (k:=k) Zi;have hxm:=Zm hx;have hst:=YcC hx;have htk:=YcB (l:=f.exprs) (k:=k+1);refine wI he hx (fun p1 hp1=>?_);refine zL hp1 ?_;intro cs hcs;obtain ⟨wa,wk,rfl,hRx⟩:=Xe hcs;refine wG ?_;refine Xn (Yi3 hRx Zi) ?_;exact wP (h:=by exact ⟨k+1,c+(ecount x:Nat),by omega,rfl,rfl,rfl,rfl,by omega⟩)
  rw [Zl Zi] at hh;refine zW ?_;refine Yd (fun q σ fz' H'=>∃ (k:Nat) (c:Int),k<=q0/\q=q0 - k/\σ=[(5,Zk k),(3,Zk c),(1,Zp g0)]/\fz=fz'/\H'=[(g0,Zu #[Zy f.op,Zy f.name,Zc A n ca,Zc B m cb,Zc C r cr,Zc D q0 cq] 35)]/\c=((1+ecountL f.exprs+fcountL (f.kids.take k):Nat):Int)) ⟨0,c,Z0 _,rfl,rfl,rfl,rfl,by rw [hh];simp [fcountL]⟩ Zw Zb ?_;rintro q σ fz' H' ⟨k,c,hkm,rfl,rfl,rfl,rfl,hh⟩;refine wC ?_ ?_<;>intro c2
  ·obtain ⟨x,hx⟩:=Yq (l:=f.kids) (k:=k) Zi;have hxm:=Zm hx;have hlt:=Formula.kids_lt hxm;have hst:=Yf0 hx;have htk:=YfZ (l:=f.kids) (k:=k+1);refine wI hk hx (fun p1 hp1=>?_);refine zL hp1 ?_;intro cs hcs;obtain ⟨w1,w2,w3,w4,rfl,hRx⟩:=YI hcs;refine wG ?_;refine Xn (size_f s Zi hRx Zi) ?_;exact wP (h:=by exact ⟨k+1,c+(fcount x:Nat),by omega,rfl,rfl,rfl,rfl,by omega⟩)
  rw [Zl Zi] at hh;exact wR (h:=by rw [hh,ec])
theorem Yee (h:FormulaR fz f va vp ve vk) (hc:fcount f<=1000000000000):
 QFn prog 12 [.agg #[Zy f.op,Zy f.name,va,vp,ve,vk]] fz (Zk (fcount f)):=size_f _ (Zs _) h hc
def hvC (c:Change):Nat:=1+c.params.length+c.args.length+fcount c.when_+ecount c.value
def Yag (l:List Change):Nat:=(l.map hvC).sum
theorem hvC_le (c:Change):hvC c<=1*XZ c:=by
 have h1:=fcount_le c.when_;have h2:=ecount_le c.value;unfold hvC XZ;omega
theorem YdA (l:List Change):Yag l<=(l.map XZ).sum:=by
 have:=YeH hvC_le l;unfold Yag;omega
theorem YgH {ca:Nat} {l:List Change} (h1:Sl changeL fz A n ca l) (hc:Yag l<=1000000000000):
 QFn prog 13 [Zc A n ca] fz (Zk (Yag l)):=by
 refine GFn.quiet ?_;have l1:=h1.len;have s1:=h1.short;refine zF Tryz.func13 Tryz.ntmps13 (fun w0=>?_);refine zW ?_;refine Yd (fun q σ fz' H'=>∃ (k:Nat) (c:Int),k<=n/\q=n - k/\σ=[(4,Zk k),(3,Zk c),(0,Zc A n ca)]/\fz=fz'/\H'=[]/\c=((((l.take k).map hvC).sum:Nat):Int)) ⟨0,_,Z0 _,rfl,rfl,rfl,rfl,rfl⟩ Zw Zb ?_;rintro q σ fz' H' ⟨k,c,hkm,rfl,rfl,rfl,rfl,hh⟩;refine wC ?_ ?_<;>intro c1
 ·obtain ⟨x,hx⟩:=Yq (l:=l) (k:=k) Zi;have hst:=YeG (w:=hvC) hx;have htk:=YeF (w:=hvC) (l:=l) (k:=k+1);unfold Yag at hc;have hvx:hvC x=1+x.params.length+x.args.length+fcount x.when_+ecount x.value:=rfl;refine wI h1 hx (fun p1 hp1=>?_);refine wG ?_;refine YaY hp1.Change_params (fun P1 pn1 pc1 ip=>?_);have lp:=ip.len;refine wI h1 hx (fun p2 hp2=>?_);refine wG ?_;refine YaY hp2.Change_args (fun P2 pn2 pc2 ia=>?_);have la:=ia.len;refine wI h1 hx (fun p3 hp3=>?_);refine wL hp3.Change_when_ ?_;intro cs3 hcs3;obtain ⟨w1,w2,w3,w4,rfl,hR3⟩:=YI hcs3
  ((refine zG ?_);refine Xn (Yee hR3 Zi) ?_);refine wI h1 hx (fun p4 hp4=>?_);refine wL hp4.Change_value ?_;intro cs4 hcs4;obtain ⟨u1,u2,rfl,hR4⟩:=Xe hcs4
  ((refine zG ?_);refine Xn (Yi3 hR4 Zi) ?_);exact wP (h:=by exact ⟨k+1,c+(1+pn1+pn2+(fcount x.when_:Nat)+(ecount x.value:Nat)),by omega,rfl,rfl,rfl,rfl,by omega⟩)
 rw [Zl Zi] at hh;exact wR (h:=by rw [hh];rfl)
def laA (a:Action):Nat:=1+fcount a.pre+Yag a.changes
def laU (a:Durative):Nat:=1+fcount a.start+fcount a.over+fcount a.fin+Yag a.atStart+Yag a.atEnd
def Ya3 (d:Domain) (p:Problem):Nat:=d.types.length+d.constants.length+d.predicates.length+d.functions.length+p.objects.length+p.init.length+p.values.length+fcount p.goal+(d.actions.map laA).sum+(d.duratives.map laU).sum
theorem laA_le (a:Action):laA a<=1*actW a:=by
 have h1:=fcount_le a.pre;have h2:=YdA a.changes;unfold laA actW;omega
theorem laU_le (a:Durative):laU a<=1*durW a:=by
 have h1:=fcount_le a.start;have h2:=fcount_le a.over;have h3:=fcount_le a.fin;have h4:=YdA a.atStart;have h5:=YdA a.atEnd;unfold laU durW;omega
theorem YjR (d:Domain) (p:Problem):Ya3 d p<=domW d+prbW p:=by
 have h1:=YeH laA_le d.actions;have h2:=YeH laU_le d.duratives;have h3:=fcount_le p.goal;have h4:=Ws Yju d.predicates;have h5:=Ws funW_pos d.functions;have h6:=Ws YkI p.init;have h7:=Ws Yh0 p.values;unfold Ya3 domW prbW;omega
theorem Yiw (h:DomainR fz d v1 v2 v3 v4 v5 v6) (hp:ProblemR fz p u1 u2 u3 u4 u5 u6 u7) (hn:Ya3 d p<=1000000000000:=by omega):
 QFn prog 4 [ZD d v1 v2 v3 v4 v5 v6,ZP p u1 u2 u3 u4 u5 u6 u7] fz (Zo (decide (2000<Ya3 d p))):=by
 obtain ⟨A1,n1,b1,rfl,i1⟩:=h.types;have l1:=i1.len;obtain ⟨A2,n2,b2,rfl,i2⟩:=h.constants;have l2:=i2.len;obtain ⟨A3,n3,b3,rfl,i3⟩:=h.predicates;have l3:=i3.len;obtain ⟨A4,n4,b4,rfl,i4⟩:=h.functions;have l4:=i4.len;obtain ⟨A5,n5,b5,rfl,i5⟩:=h.actions;have l5:=i5.len;obtain ⟨A6,n6,b6,rfl,i6⟩:=h.duratives;have l6:=i6.len;have s5:=i5.short;have s6:=i6.short;obtain ⟨C1,m1,e1,rfl,j1⟩:=hp.objects;have k1:=j1.len;obtain ⟨C2,m2,e2,rfl,j2⟩:=hp.init;have k2:=j2.len;obtain ⟨C3,m3,e3,rfl,j3⟩:=hp.values;have k3:=j3.len;have hg:=hp.goal;obtain ⟨⟨U1,w1,z1,rfl,_⟩,⟨U2,w2,z2,rfl,_⟩,⟨U3,w3,z3,rfl,_⟩,⟨U4,w4,z4,rfl,_⟩⟩:=hp.goal.sls;refine GFn.quiet ?_;have hnn:Ya3 d p=d.types.length+d.constants.length+d.predicates.length+d.functions.length+p.objects.length+p.init.length+p.values.length+fcount p.goal+(d.actions.map laA).sum+(d.duratives.map laU).sum:=rfl;refine zF Tryz.func4 Tryz.ntmps4 (fun w0=>?_);refine pX (fun g0=>?_);refine pY (fun g1=>?_);refine wG ?_;refine Ya (vs:=[Zy p.goal.op,Zy p.goal.name,Zc U1 w1 z1,Zc U2 w2 z2,Zc U3 w3 z3,Zc U4 w4 z4]) 0 ?_
 ((refine zG ?_);refine Xn (Yee hg Zi) ?_);refine zW ?_;refine Yd (fun q σ fz' H'=>∃ (k:Nat) (c:Int),k<=n5/\q=n5 - k/\σ=[(6,Zk k),(5,Zk c),(2,Zp g0)]/\fz=fz'/\H'=[(g0,Zu #[Zy d.name,Zc A1 n1 b1,Zc A2 n2 b2,Zc A3 n3 b3,Zc A4 n4 b4,Zc A5 n5 b5,Zc A6 n6 b6] 28)]/\c=((n1+n2+n3+n4+m1+m2+m3+fcount p.goal+((d.actions.take k).map laA).sum:Nat):Int)) ⟨0,(n1:Int)+n2+n3+n4+m1+m2+m3+(fcount p.goal:Nat),Z0 _,rfl,rfl,rfl,rfl,by simp⟩ Zw (List.Sublist.cons _ (List.Sublist.refl _)) ?_;rintro q σ fz' H' ⟨k,c,hkm,rfl,rfl,rfl,rfl,hh⟩;refine wC ?_ ?_<;>intro c1
 ·obtain ⟨x,hx⟩:=Yq (l:=d.actions) (k:=k) Zi;have hst:=YeG (w:=laA) hx;have htk:=YeF (w:=laA) (l:=d.actions) (k:=k+1);have hvx:laA x=1+fcount x.pre+Yag x.changes:=rfl;refine wI i5 hx (fun pp1 hp1=>?_);refine wL hp1.Action_pre ?_;intro cs1 hcs1;obtain ⟨s1,s2,s3,s4,rfl,hR1⟩:=YI hcs1
  ((refine zG ?_);refine Xn (Yee hR1 Zi) ?_);refine wI i5 hx (fun pp2 hp2=>?_);refine wG ?_;refine YaY hp2.Action_changes (fun P2 pn2 pc2 ic=>?_)
  ((refine zG ?_);refine Xn (YgH ic Zi) ?_);exact wP (h:=by exact ⟨k+1,c+(1+(fcount x.pre:Nat)+(Yag x.changes:Nat)),by omega,rfl,rfl,rfl,rfl,by omega⟩)
 rw [Zl Zi] at hh;refine zW ?_;refine Yd (fun q σ fz' H'=>∃ (k:Nat) (c:Int),k<=n6/\q=n6 - k/\σ=[(7,Zk k),(5,Zk c),(2,Zp g0)]/\fz=fz'/\H'=[(g0,Zu #[Zy d.name,Zc A1 n1 b1,Zc A2 n2 b2,Zc A3 n3 b3,Zc A4 n4 b4,Zc A5 n5 b5,Zc A6 n6 b6] 28)]/\c=((n1+n2+n3+n4+m1+m2+m3+fcount p.goal+(d.actions.map laA).sum+((d.duratives.take k).map laU).sum:Nat):Int)) ⟨0,c,Z0 _,rfl,rfl,rfl,rfl,by rw [hh];simp⟩ Zw Zb ?_;rintro q σ fz' H' ⟨k,c,hkm,rfl,rfl,rfl,rfl,hh⟩;refine wC ?_ ?_<;>intro c2
 ·obtain ⟨x,hx⟩:=Yq (l:=d.duratives) (k:=k) Zi;have hst:=YeG (w:=laU) hx;have htk:=YeF (w:=laU) (l:=d.duratives) (k:=k+1);have hvx:laU x=1+fcount x.start+fcount x.over+fcount x.fin+Yag x.atStart+Yag x.atEnd:=rfl;refine wI i6 hx (fun pp1 hp1=>?_);refine zL hp1 ?_;intro cs1 hcs1;obtain ⟨r0,r1,r2,r3,r4,r5,r6,r7,r8,r9,r10,r11,r12,r13,r14,rfl,hR⟩:=Xy hcs1;obtain ⟨P,p1,q1,rfl,ip⟩:=hR.params;have hS1:=hR.start;have hS2:=hR.over;have hS3:=hR.fin;obtain ⟨⟨V1,a1,y1,rfl,_⟩,⟨V2,a2,y2,rfl,_⟩,⟨V3,a3,y3,rfl,_⟩,⟨V4,a4,y4,rfl,_⟩⟩:=hR.start.sls;obtain ⟨⟨V5,a5,y5,rfl,_⟩,⟨V6,a6,y6,rfl,_⟩,⟨V7,a7,y7,rfl,_⟩,⟨V8,a8,y8,rfl,_⟩⟩:=hR.over.sls;obtain ⟨⟨V9,a9,y9,rfl,_⟩,⟨V10,a10,y10,rfl,_⟩,⟨V11,a11,y11,rfl,_⟩,⟨V12,a12,y12,rfl,_⟩⟩:=hR.fin.sls;obtain ⟨V13,a13,y13,rfl,ia⟩:=hR.atStart;obtain ⟨V14,a14,y14,rfl,ie⟩:=hR.atEnd;refine zW ?_;intros
  ((refine zG ?_);refine Ya (vs:=[Zy x.start.op,Zy x.start.name,Zc V1 a1 y1,Zc V2 a2 y2,Zc V3 a3 y3,Zc V4 a4 y4]) 0 ?_);refine wG ?_;refine Xn (Yee hS1 Zi) ?_;refine wG ?_;refine Ya (vs:=[Zy x.over.op,Zy x.over.name,Zc V5 a5 y5,Zc V6 a6 y6,Zc V7 a7 y7,Zc V8 a8 y8]) 0 ?_;refine wG ?_;refine Xn (Yee hS2 Zi) ?_;refine wG ?_;refine Ya (vs:=[Zy x.fin.op,Zy x.fin.name,Zc V9 a9 y9,Zc V10 a10 y10,Zc V11 a11 y11,Zc V12 a12 y12]) 0 ?_;refine wG ?_;refine Xn (Yee hS3 Zi) ?_;refine wG ?_;refine Xn (YgH ia Zi) ?_;refine wG ?_;refine Xn (YgH ie Zi) ?_;exact wP (h:=by exact ⟨k+1,c+(1+(fcount x.start:Nat)+(fcount x.over:Nat)+(fcount x.fin:Nat)+(Yag x.atStart:Nat)+(Yag x.atEnd:Nat)),by omega,rfl,rfl,rfl,rfl,by omega⟩)
 rw [Zl Zi] at hh;refine wC ?_ ?_<;>intro c3
 ·exact wR (h:=by exact W9 Zi)
 exact wR (h:=by exact Xf Zi)
section
variable {P:Program} {cx:Cx} {l:List Oper} {pu:List Nat} {σ' ve cv τ:Env} {fz0 fz:FZ} {Hq H:HP} {Q:QQ} {all rest r1:List (Nat × Oper)} {m i d:Nat} {op:Op} {ty:TypeId} {pos:String} {af:Array Edge} {dn:Bool}
theorem Yfm {g:Nat × Bool} (hk:Keep fz0 Hq fz H) (hw:YbB ⟨some d,op,ty,pos,af,some g⟩ ve cv=some true) (h:DoesQ P cx ⟨some d,op,ty,pos,af,some g⟩ (rdc l ⟨some d,op,ty,pos,af,some g⟩ σ' ve cv) fz H fun v=>Po P cx l pu σ' ve fz0 Hq Q all m r1 (dn || allp l all pu ⟨some d,op,ty,pos,af,some g⟩) ((i,v)::cv) ((d,v)::τ) fz H):
 PoS P cx l pu σ' ve fz0 Hq Q all m r1 dn cv τ fz H i ⟨some d,op,ty,pos,af,some g⟩:=PoS.softG hw ((h.mono fun _ hv=>⟨hk,hv⟩).does)
end
theorem laA_pos (a:Action):1<=laA a:=by unfold laA;omega
theorem laU_pos (a:Durative):1<=laU a:=by unfold laU;omega
theorem YgG (c:Change):1<=hvC c:=by unfold hvC;omega
theorem YkC {l:List Change} {y:Change} (hy:y∈l) (h:(l.map XZ).sum<=100000000):y.params.length<=1000000000/\fW y.when_<=1000000000/\y.args.length<=1000000000/\eW y.value<=1000000000:=by
 have h1:=Wr (w:=XZ) hy;unfold XZ at h1 h;exact ⟨by omega,by omega,by omega,by omega⟩
theorem canSm_of (hw:domW d<=100000000) (hl:Ya3 d p<=2000):CanSm d:=by
 unfold Ya3 at hl;unfold domW at hw;have a1:=Ws laA_pos d.actions;have a2:=Ws laU_pos d.duratives;refine ⟨by omega,by omega,by omega,by omega,by omega,by omega,fun x hx=>?_,fun x hx=>?_,fun x hx=>?_,fun x hx=>?_⟩
 ·have h1:=Wr (w:=YfH) hx;unfold YfH at h1 hw;omega
 ·have h1:=Wr (w:=funW) hx;unfold funW at h1 hw;omega
 ·have h1:=Wr (w:=actW) hx;have h2:=Wr (w:=laA) hx;have h3:=Ws YgG x.changes;have h4:laA x=1+fcount x.pre+(x.changes.map hvC).sum:=rfl;have h5:actW x=1+x.params.length+fW x.pre+(x.changes.map XZ).sum:=rfl;exact ⟨by omega,by omega,by omega,fun y hy=>YkC hy Zi⟩
 have h1:=Wr (w:=durW) hx;have h2:=Wr (w:=laU) hx;have h3:=Ws YgG x.atStart;have h6:=Ws YgG x.atEnd;have h4:laU x=1+fcount x.start+fcount x.over+fcount x.fin+(x.atStart.map hvC).sum+(x.atEnd.map hvC).sum:=rfl;have h5:durW x=1+x.params.length+fW x.start+fW x.over+fW x.fin+(x.atStart.map XZ).sum+(x.atEnd.map XZ).sum:=rfl;exact ⟨by omega,by omega,by omega,by omega,by omega,by omega,fun y hy=>YkC hy Zi,fun y hy=>YkC hy Zi⟩
theorem canSp_of (hw:prbW p<=100000000) (hl:Ya3 d p<=2000):CanSp p:=by
 unfold Ya3 at hl;unfold prbW at hw;refine ⟨by omega,by omega,by omega,fun x hx=>?_,fun x hx=>?_,by omega⟩
 ·have h1:=Wr (w:=Yfd) hx;unfold Yfd at h1 hw;omega
 have h1:=Wr (w:=Ycr) hx;have h2:Ycr x=1+(1+x.fluent.args.length):=rfl;omega
theorem lcanon_f (hD:DomainR fz d v1 v2 v3 v4 v5 v6) (hP:ProblemR fz p u1 u2 u3 u4 u5 u6 u7) (w1:domW d<=100000000) (w2:prbW p<=100000000)
 (awk:QFn prog 5 [] fz (Zo true)):
 GFn prog 3 [ZD d v1 v2 v3 v4 v5 v6,ZP p u1 u2 u3 u4 u5 u6 u7] fz [] (fun r fz' H'=>H'=[]/\r=Zo true):=by
 have hD0:=hD;have hP0:=hP;have hlN:=YjR d p;have hlq:=Yiw hD hP;obtain ⟨⟨A1,n1,b1,rfl,_⟩,⟨A2,n2,b2,rfl,_⟩,⟨A3,n3,b3,rfl,_⟩,⟨A4,n4,b4,rfl,_⟩,⟨A5,n5,b5,rfl,_⟩,⟨A6,n6,b6,rfl,_⟩⟩:=id hD.sls;obtain ⟨⟨C1,m1,e1,rfl,_⟩,⟨C2,m2,e2,rfl,_⟩,⟨C3,m3,e3,rfl,_⟩⟩:=id hP.sls;obtain ⟨⟨U1,x1,z1,rfl,_⟩,⟨U2,x2,z2,rfl,_⟩,⟨U3,x3,z3,rfl,_⟩,⟨U4,x4,z4,rfl,_⟩⟩:=id hP.goal.sls;refine zF Tryz.func3 Tryz.ntmps3 (fun w0=>?_);refine pX (fun g1=>?_);refine pY (fun g2=>?_);refine zW ?_;intros;refine zb hlq (fun f1=>?_) (fun f1=>?_)
 ·refine zW ?_;intros;refine zc awk ?_;refine zW ?_;intros;exact ret1 rfl rfl (List.nil_sublist _) ⟨rfl,rfl⟩
 have hl:=Zf f1;have hSm:=canSm_of w1 (show Ya3 d p<=2000 by omega);have hSp:=canSp_of w2 (show Ya3 d p<=2000 by omega);refine zW ?_;intros;refine zc awk ?_;refine zWN ?_;intros;refine Wi [] [_,_] ?_;refine zW ?_;intros;refine Ya6 ?_;refine zW ?_;intros;refine pT ?_;refine Yp ?_;refine YH (Ym [] [_,_] Zz (canon_f hD0 hSm) (fun v6 fz6 H6 hle6 hR6=>⟨⟨hle6,Zx⟩,?_⟩));obtain ⟨rfl,y1,y2,y3,y4,y5,y6,rfl,hD6⟩:=hR6;refine Yp ?_;refine YH (Ym [] [_,_] Zz (rcanon_f (hD0.mono hle6) hSm.t hSm.c hSm.p hSm.f hSm.a hSm.u) (fun v7 fz7 H7 hle7 hR7=>⟨⟨hle6.trans hle7,Zx⟩,?_⟩));obtain ⟨rfl,t1,t2,t3,t4,t5,t6,rfl,hD7⟩:=hR7;have h67:=hle6.trans hle7;refine Yp ?_;refine PoS.qk ⟨h67,Zx⟩ (Xn (edomain (hD6.mono hle7) hD7) ?_);refine Yp ?_;refine PoS.qk ⟨h67,Zx⟩ (Yz ?_)
 repeat' first
  | refine Po.done ?_
  | (refine Yp ?_)
  | (refine Ycl ?_ ?_)
  | (refine PoS.softG (i:=7) Zz (Ym [] [_,_] Zz (canonP_f (hP0.mono h67) hSp) (fun v8 fz8 H8 hle8 hR8=>⟨⟨h67.trans hle8,Zkx⟩,?_⟩));obtain ⟨rfl,l8,a1,a2,a3,a4,a5,a6,a7,rfl,hC8,hM8,hP8⟩:=hR8)
  | (refine PoS.softG (i:=9) Zz (Ym [] [_,_] Zz (Yjj (hP0.mono (h67.trans hle8)) hSp.o hSp.i hSp.v) (fun v9 fz9 H9 hle9 hR9=>⟨⟨h67.trans (hle8.trans hle9),Zkx⟩,?_⟩));obtain ⟨rfl,l9,b1',b2',b3',b4',b5',b6',b7',rfl,hC9,hM9,hP9⟩:=hR9;obtain rfl:=hC8.eq hC9 (fun a=>(hM8 a).trans (hM9 a).symm))
  | refine Yfm (i:=6) ⟨h67,Zkx⟩ Zz (Ya (vs:=[.string p.name,.string p.domain,.slice C1 m1 e1,.slice C2 m2 e2,.slice C3 m3 e3,.string p.goal.op,.string p.goal.name,.slice U1 x1 z1,.slice U2 x2 z2,.slice U3 x3 z3,.slice U4 x4 z4]) 0 ?_)
  | refine Yfm (i:=8) ⟨h67,Zkx⟩ Zz (Ya (vs:=[.string p.name,.string p.domain,.slice C1 m1 e1,.slice C2 m2 e2,.slice C3 m3 e3,.string p.goal.op,.string p.goal.name,.slice U1 x1 z1,.slice U2 x2 z2,.slice U3 x3 z3,.slice U4 x4 z4]) 0 ?_)
  | refine Yfm (i:=8) ⟨h67.trans hle8,Zkx⟩ Zz (Ya (vs:=[.string p.name,.string p.domain,.slice C1 m1 e1,.slice C2 m2 e2,.slice C3 m3 e3,.string p.goal.op,.string p.goal.name,.slice U1 x1 z1,.slice U2 x2 z2,.slice U3 x3 z3,.slice U4 x4 z4]) 0 ?_)
  | refine Yfm (i:=10) ⟨h67.trans (hle8.trans hle9),Zkx⟩ Zz (Xn (eproblem (hP8.mono hle9) hP9) ?_)
  | refine PoS.qk ⟨h67.trans (hle8.trans hle9),Zkx⟩ (Ybr ?_)
  | refine PoS.qk ⟨h67.trans (hle8.trans hle9),Zkx⟩ (XM ?_)
 all_goals
  refine zW ?_;intros;exact ret1 rfl rfl (List.nil_sublist _) ⟨rfl,rfl⟩
end Go.Proofs.YtaaanbkahfeknaaGreatDoor
namespace Go.Lx
open Go.RowKit
variable {i:Nat} {o:Oper} {H:HP} {fz:FZ} {v:Value}
abbrev Pend:=List (Nat × HP)
abbrev Fl:=Nat->Oper->Env->Option (Obj × (Nat->Value))
def putT (d:Option Nat) (v:Value) (τ:Env):Env:=match d with
 | some d=>(d,v)::τ
 | none=>τ
def rdg (ops:List Oper) (i:Nat) (o:Oper) (σ ve:Env):Operand->Option Value
 | .tmp t=>match Wy ops t 0 with
  | none=>lk σ t
  | some j=>match waits o j with
   | true=>lk ve j
   | false=>match ops[j]? with
    | some oj=>match waits oj i with
     | true=>lk σ t
     | false=>none
    | none=>none
 | .const v=>some v
 | .func f=>some (.func (.func f) #[] #[])
 | .global g=>some (.pointer (some ⟨g,0,none⟩))
theorem Ygl {ops:List Oper} {σ a b:Env} (h:VExt a b):∀ x v,rdg ops i o σ a x=some v->rdg ops i o σ b x=some v:=by
 intro x v hv;cases x with
 | tmp t=>
  unfold rdg at hv ⊢;cases hw:Wy ops t 0 with
  | none=>simp only [hw] at hv ⊢;exact hv
  | some j=>
   simp only [hw] at hv ⊢;cases hwt:waits o j with
   | true=>simp only [hwt] at hv ⊢;exact h _ _ hv
   | false=>simp only [hwt] at hv ⊢;exact hv
 | const c=>exact hv
 | global g=>exact hv
 | func f=>exact hv
def QOkG (P:Program) (cx:Cx) (ops:List Oper) (i:Nat) (o:Oper) (σ ve:Env) (fz:FZ) (H:HP) (v:Value):Prop:=
 (XR o ve=some true/\Quiet P cx o (rdg ops i o σ ve) fz H v)\/(XR o ve=some false/\v=undef)
theorem QOkG.ext {P:Program} {cx:Cx} {σ:Env} {ops:List Oper} {a b:Env} (h:VExt a b) (hq:QOkG P cx ops i o σ a fz H v):QOkG P cx ops i o σ b fz H v:=by
 rcases hq with ⟨h1,h2⟩ | ⟨h1,h2⟩
 ·exact .inl ⟨YbA h h1,fun ρ w hr hi=>h2 ρ w (fun x v hx=>hr x v (Ygl h x v hx)) hi⟩
 exact .inr ⟨YbA h h1,h2⟩
def num:Nat->List Oper->List (Nat × Oper)
 | _,[]=>[]
 | i,o::r=>(i,o)::num (i+1) r
section
variable (P:Program) (cx:Cx) (l:List Oper) (σ:Env)
def NP (fk:Oper->Bool) (fz:FZ) (H:HP) (K:Env->Env->Pend->List (Nat × Oper)->Prop):List (Nat × Oper)->Env->Env->Pend->List (Nat × Oper)->Prop
 | [],ve,τ,pend,kept=>K ve τ pend kept
 | (i,o)::r,ve,τ,pend,kept=>
  (fk o=false/\∃ v H0,H0.Sublist H/\QOkG P cx l i o σ ve fz H0 v/\NP fk fz H K r ((i,v)::ve) (putT o.dst v τ) ((i,H0)::pend) kept)\/
  NP fk fz H K r ve τ pend (kept++ [(i,o)])
def Xo (pend:Pend) (o:Oper):Pend:=pend.filter fun q=>!waits o q.1
def YdY (o:Oper) (r:Operand->Option Value) (fz:FZ) (H:HP) (K:Value->FZ->HP->Prop):Prop:=
 ∀ Hx,Does P cx o r fz (Hx++H) fun v fz' H'=>∃ H1,H'=Hx++H1/\K v fz' H1
def YaW (ve:Env) (fls:List Nat) (o:Oper):Bool:=o.after.toList.any fun e=>Region.binds .any e && ((lk ve e.on).isNone && !fls.any (Nat.beq e.on))
inductive Clo (fk:Oper->Bool) (ve:Env) (kept:List (Nat × Oper)):Nat->Prop where
 | mk (p:Nat × Oper):p∈kept->fk p.2=true->(∀ e∈p.2.after,Region.binds .any e=true->lk ve e.on=none->Clo fk ve kept e.on)->Clo fk ve kept p.1
def Yei:Value->Bool
 | .pointer _=>true
 | .slice _ _ _=>true
 | .map _=>true
 | _=>false
def Yfq (fk:Oper->Bool) (fl:Fl) (ve:Env) (p:Nat × Oper):Prop:=
 fk p.2=true/\∀ ve',VExt ve ve'->(∀ k v,lk ve' k=some v->lk ve k=none->Yei v=true)->(∀ e∈p.2.after,Region.binds .any e=true->lk ve' e.on≠none)->(fl p.1 p.2 ve').isSome=true
def rm (i:Nat) (kept:List (Nat × Oper)):List (Nat × Oper):=kept.filter fun p=>!Nat.beq p.1 i
def DrV (fk:Oper->Bool) (fl:Fl) (Q:QQ):Nat->List (Nat × Oper)->Env->Env->Pend->FZ->HP->Prop
 | 0,_,_,_,_,_,_=>False
 | m+1,rem,ve,τ,pend,fz,H=>NP P cx l σ fk fz H (fun ve τ pend kept=>(kept=[]/\Q .normal τ fz H)\/
  ((∃ p∈kept,fk p.2=false)/\∃ fls:List Nat,(∀ k,Clo fk ve kept k->k∈fls)/\∀ p∈kept,(p.1∈fls/\Yfq fk fl ve p)\/YaW ve fls p.2=true\/
   (fk p.2=false/\XR p.2 ve=some true/\YdY P cx p.2 (rdg l p.1 p.2 σ ve) fz H fun v fz' H'=>
    Le fz fz'/\(∀ q∈Xo pend p.2,∀ b∈q.2,b∈H')/\DrV fk fl Q m (rm p.1 kept) ((p.1,v)::ve) (putT p.2.dst v τ) (Xo pend p.2) fz' H'))\/
  (∃ i o,(i,o)∈kept/\∃ obj mk,fl i o ve=some (obj,mk)/\∃ fls:List Nat,(∀ k,Clo fk ve (rm i kept) k->k∈fls)/\(∀ p∈rm i kept,(p.1∈fls/\Yfq fk fl ve p)\/YaW ve fls p.2=true)/\∀ g,(∀ p∈H,p.1≠g)->DrV fk fl Q m (rm i kept) ((i,mk g)::ve) (putT o.dst (mk g) τ) pend fz ((g,obj)::H))) rem ve τ pend []
end
section
variable {P:Program} {cx:Cx} {n:Nat} {σ:Env} {fz:FZ} {H:HP} {Q:QQ} {l:List Oper}
theorem YeV:∀ (r:List Oper) (i:Nat) (p:Nat × Oper),p∈num i r->i<=p.1/\r[p.1 - i]?=some p.2
 | [],_,_,h=>by cases h
 | o::r,i,p,h=>by
  cases h with
  | head=>simp
  | tail _ h=>
   obtain ⟨h1,h2⟩:=YeV r (i+1) p h;refine ⟨by omega,?_⟩;rw [show p.1 - i=(p.1 - (i+1))+1 from by omega];simpa using h2
theorem Yjz:∀ (r:List Oper) (i k:Nat) (o:Oper),r[k]?=some o->(i+k,o)∈num i r
 | [],_,_,_,h=>by simp at h
 | x::r,i,0,o,h=>by simp at h;subst h;simp [num]
 | x::r,i,k+1,o,h=>by
  have:=Yjz r (i+1) k o (by simpa using h);unfold num;rw [show i+(k+1)=i+1+k from by omega];exact List.mem_cons_of_mem _ this
theorem YfP:∀ (r:List Oper) (i:Nat),((num i r).map Prod.fst).Nodup
 | [],_=>by simp [num]
 | o::r,i=>by
  simp only [num,List.map_cons,List.nodup_cons];refine ⟨fun h=>?_,YfP r (i+1)⟩;obtain ⟨p,hp,he⟩:=List.mem_map.1 h;have:=(YeV r (i+1) p hp).1;omega
structure NPOut (P:Program) (cx:Cx) (l:List Oper) (σ:Env) (fk:Oper->Bool) (fz:FZ) (H:HP) (rem:List (Nat × Oper)) (ve τ:Env) (pend:Pend) (ve' τ':Env) (pend':Pend) (sub:List (Nat × Oper)):Prop where
 ext:VExt ve ve'
 pen:∀ k∈pend,k∈pend'
 subl:sub.Sublist rem
 none_:∀ p∈sub,lk ve' p.1=none
 val:∀ p∈rem,p∈sub\/fk p.2=false/\∃ v,lk ve' p.1=some v/\∃ H0,H0.Sublist H/\QOkG P cx l p.1 p.2 σ ve' fz H0 v/\(p.1,H0)∈pend'
 new:∀ k v,lk ve' k=some v->lk ve k=some v\/∃ p∈rem,p.1=k/\p ∉ sub
 tau:∀ s v,lk τ' s=some v->(∃ p∈rem,p.2.dst=some s/\lk ve' p.1=some v)\/(lk τ s=some v/\∀ p∈rem,p ∉ sub->p.2.dst≠some s)
theorem NP.out {fk:Oper->Bool} {K:Env->Env->Pend->List (Nat × Oper)->Prop}:∀ (rem:List (Nat × Oper)) (ve τ:Env) (pend:Pend) (kept:List (Nat × Oper)),
 NP P cx l σ fk fz H K rem ve τ pend kept->(rem.map Prod.fst).Nodup->(∀ p∈rem,lk ve p.1=none)->
 ∃ ve' τ' pend' sub,K ve' τ' pend' (kept++sub)/\NPOut P cx l σ fk fz H rem ve τ pend ve' τ' pend' sub
 | [],ve,τ,pend,kept,h,_,_=>⟨ve,τ,pend,[],by simpa [NP] using h,⟨fun _ _ h=>h,fun _ h=>h,List.Sublist.refl _,by simp,by simp,fun _ _ h=>.inl h,fun _ _ h=>.inr ⟨h,by simp⟩⟩⟩
 | (i,o)::r,ve,τ,pend,kept,h,hnd,hnone=>by
  simp only [List.map_cons,List.nodup_cons] at hnd;have hi:lk ve i=none:=hnone (i,o) (by simp);have hri:∀ p∈r,p.1≠i:=fun p hp he=>hnd.1 (List.mem_map.2 ⟨p,hp,he⟩)
  -- a value was found
  have found:fk o=false->∀ (v:Value) (pend1:Pend),(∀ k∈pend,k∈pend1)->(∃ H0,H0.Sublist H/\QOkG P cx l i o σ ve fz H0 v/\(i,H0)∈pend1)->
   NP P cx l σ fk fz H K r ((i,v)::ve) (putT o.dst v τ) pend1 kept->
   ∃ ve' τ' pend' sub,K ve' τ' pend' (kept++sub)/\NPOut P cx l σ fk fz H ((i,o)::r) ve τ pend ve' τ' pend' sub:=by
   intro hfl v pend1 hp1 hq hn;obtain ⟨ve',τ',pend',sub,hK,h1,h2,h3,h4,h5,h6,h7⟩:=NP.out r _ _ _ _ hn hnd.2 (fun p hp=>by rw [Yn _ _ (fun he=>hri p hp he.symm)];exact hnone p (by simp [hp]));have hvi:lk ve' i=some v:=h1 i v (Ys _ _ _);have hext:VExt ve ve':=fun k u hk=>h1 k u (by
    rw [Yn _ _ (fun he=>by subst he;rw [hi] at hk;cases hk)];exact hk)
   have hisub:(i,o) ∉ sub:=fun hs=>by have:=h4 _ hs;simp only at this;rw [hvi] at this;cases this
   refine ⟨ve',τ',pend',sub,hK,⟨hext,fun k hk=>h2 k (hp1 k hk),h3.cons _,h4,fun p hp=>?_,fun k u hk=>?_,fun s u hs=>?_⟩⟩
   ·cases hp with
    | head=>
     refine .inr ⟨hfl,v,hvi,?_⟩;obtain ⟨H0,hs,hq,hm⟩:=hq;exact ⟨H0,hs,QOkG.ext hext hq,h2 _ hm⟩
    | tail _ hp=>exact h5 p hp
   ·rcases h6 k u hk with h8 | ⟨p,hp,he,hns⟩
    ·by_cases hki:i=k
     ·exact .inr ⟨(i,o),by simp,hki,hisub⟩
     rw [Yn _ _ hki] at h8;exact .inl h8
    exact .inr ⟨p,by simp [hp],he,hns⟩
   rcases h7 s u hs with ⟨p,hp,hd,hv⟩ | ⟨hτ,hne⟩
   ·exact .inl ⟨p,by simp [hp],hd,hv⟩
   unfold putT at hτ;cases hd:o.dst with
   | none=>
    simp only [hd] at hτ;refine .inr ⟨hτ,fun p hp hns=>?_⟩;cases hp with
    | head=>simp only;rw [hd];simp
    | tail _ hp=>exact hne p hp hns
   | some d=>
    simp only [hd] at hτ;by_cases hds:d=s
    ·subst hds;rw [Ys] at hτ;injection hτ with hτ
     subst hτ;exact .inl ⟨(i,o),by simp,hd,hvi⟩
    rw [Yn _ _ hds] at hτ;refine .inr ⟨hτ,fun p hp hns=>?_⟩;cases hp with
    | head=>simp only;rw [hd];simpa using hds
    | tail _ hp=>exact hne p hp hns
  unfold NP at h;rcases h with ⟨hfl,v,H0,hs,hq,hn⟩ | hn
  ·exact found hfl v ((i,H0)::pend) (fun k hk=>by simp [hk]) ⟨H0,hs,hq,by simp⟩ hn
  obtain ⟨ve',τ',pend',sub,hK,h1,h2,h3,h4,h5,h6,h7⟩:=NP.out r _ _ _ _ hn hnd.2 (fun p hp=>hnone p (by simp [hp]));refine ⟨ve',τ',pend',(i,o)::sub,by simpa using hK,⟨h1,h2,h3.cons_cons _,fun p hp=>?_,fun p hp=>?_,fun k u hk=>?_,fun s u hs=>?_⟩⟩
  ·cases hp with
   | head=>
    cases hv:lk ve' i with
    | none=>rfl
    | some v=>
     rcases h6 i v hv with h8 | ⟨p,hp,he,_⟩
     ·rw [hi] at h8;cases h8
     exact absurd he (hri p hp)
   | tail _ hp=>exact h4 p hp
  ·cases hp with
   | head=>exact .inl (by simp)
   | tail _ hp=>
    rcases h5 p hp with h8 | h8
    ·exact .inl (by simp [h8])
    exact .inr h8
  ·rcases h6 k u hk with h8 | ⟨p,hp,he,hns⟩
   ·exact .inl h8
   refine .inr ⟨p,by simp [hp],he,fun hc=>?_⟩;cases hc with
   | head=>exact hri _ hp rfl
   | tail _ hc=>exact hns hc
  rcases h7 s u hs with ⟨p,hp,hd,hv⟩ | ⟨hτ,hne⟩
  ·exact .inl ⟨p,by simp [hp],hd,hv⟩
  refine .inr ⟨hτ,fun p hp hns=>?_⟩;cases hp with
  | head=>exact absurd (by simp) hns
  | tail _ hp=>exact hne p hp (fun hc=>hns (by simp [hc]))
def Pd (P:Program) (cx:Cx) (l:List Oper) (σ ve:Env) (pend:Pend) (fz:FZ) (H:HP) (k:Nat) (o:Oper) (v:Value):Prop:=
 ∃ fz0 H0,(∃ w1,Inv cx fz0 H0 w1)/\Keep fz0 H0 fz H/\QOkG P cx l k o σ ve fz0 H0 v/\(k,H0)∈pend
abbrev Ex:=List (Nat × (Nat × Obj) × (Nat->Value))
def hx (ex:Ex):HP:=ex.map fun e=>e.2.1
def veX:Ex->Env->Env
 | [],ve=>ve
 | e::r,ve=>(e.1,e.2.2 e.2.1.1)::veX r ve
theorem YbC {ve:Env}:∀ {ex:Ex},(∀ e∈ex,lk ve e.1=none)->VExt ve (veX ex ve)
 | [],_=>fun _ _ h=>h
 | e::r,h=>fun k v hk=>by
  unfold veX;rw [Yn _ _ (fun he=>by have:=h e (by simp);rw [he,hk] at this;cases this)];exact YbC (fun x hx=>h x (by simp [hx])) k v hk
theorem YaU {ve:Env}:∀ {ex:Ex} {k:Nat} {v:Value},lk (veX ex ve) k=some v->(∃ e∈ex,e.1=k/\v=e.2.2 e.2.1.1)\/lk ve k=some v
 | [],_,_,h=>.inr h
 | e::r,k,v,h=>by
  unfold veX at h;by_cases hek:e.1=k
  ·rw [hek,Ys] at h;injection h with h
   exact .inl ⟨e,by simp,hek,h.symm⟩
  rw [Yn _ _ hek] at h;rcases YaU h with ⟨x,hx,h1⟩ | h1
  ·exact .inl ⟨x,by simp [hx],h1⟩
  exact .inr h1
theorem Yfv {ve:Env}:∀ {ex:Ex},(ex.map Prod.fst).Nodup->∀ e∈ex,lk (veX ex ve) e.1=some (e.2.2 e.2.1.1)
 | [],_,e,h=>by cases h
 | x::r,hn,e,h=>by
  simp only [List.map_cons,List.nodup_cons] at hn;unfold veX;cases h with
  | head=>exact Ys _ _ _
  | tail _ h=>
   rw [Yn _ _ (fun he=>hn.1 (List.mem_map.2 ⟨e,h,he.symm⟩))];exact Yfv hn.2 e h
theorem Ygg {ve ve':Env} {ex ex':Ex} (h1:∀ k v,lk ve k=some v->lk (veX ex' ve') k=some v) (h2:∀ e∈ex,lk (veX ex' ve') e.1=some (e.2.2 e.2.1.1)):VExt (veX ex ve) (veX ex' ve'):=fun k v hk=>by
 rcases YaU hk with ⟨e,he,hek,hv⟩ | hk
 ·rw [hv,<- hek];exact h2 e he
 exact h1 k v hk
structure DA (P:Program) (cx:Cx) (n:Nat) (l:List Oper) (σ:Env) (fk:Oper->Bool) (fl:Fl) (ve τ:Env) (pend:Pend) (fz:FZ) (H:HP) (kept:List (Nat × Oper)) (ex:Ex) (listed:Array Bool) (a:Act) (w:World):Prop where
 inv:Inv cx fz (hx ex++H) w
 size:a.tmps.size=n
 defers:a.defers=[]
 ls:listed.size=l.length
 old:∀ s v,lk σ s=some v->(∀ (k:Nat) (o:Oper),l[k]?=some o->o.dst=some s->listed.getD k true=false)->a.tmps[s]?=some v
 dc:∀ (j:Nat) (o:Oper),l[j]?=some o->listed.getD j true=true->∀ k,waits o k=true->listed.getD k true=true
 got:∀ (k:Nat) (o:Oper) (v:Value),l[k]?=some o->lk ve k=some v->(listed.getD k true=true->∀ d,o.dst=some d->a.tmps[d]?=some v)/\(listed.getD k true=false->Pd P cx l σ ve pend fz H k o v)
 nd:(kept.map Prod.fst).Nodup
 kp:∀ p∈kept,l[p.1]?=some p.2/\lk ve p.1=none/\(listed.getD p.1 true=false\/∃ e∈ex,e.1=p.1)
 rest:∀ k,k<l.length->lk ve k=none->∃ p∈kept,p.1=k
 exk:∀ e∈ex,∃ o,(e.1,o)∈kept/\(fk o=true/\fl e.1 o (veX ex ve)=some (e.2.1.2,e.2.2))/\listed.getD e.1 true=true/\∀ d,o.dst=some d->a.tmps[d]?=some (e.2.2 e.2.1.1)
 exn:(ex.map Prod.fst).Nodup
 tau:∀ s v,lk τ s=some v->(∃ (k:Nat) (o:Oper),l[k]?=some o/\o.dst=some s/\lk ve k=some v)\/(lk σ s=some v/\∀ (k:Nat) (o:Oper),l[k]?=some o->lk ve k≠none->o.dst≠some s)
theorem Keep.refl (fz:FZ) (H:HP):Keep fz H fz H:=⟨Zd,fun _ h=>h⟩
theorem Keep.trans {a b c:FZ} {x y z:HP} (h:Keep a x b y) (k:Keep b y c z):Keep a x c z:=⟨h.1.trans k.1,fun p hp=>k.2 p (h.2 p hp)⟩
theorem Keep.nil {a b c:FZ} {y z:HP} (h:Keep a [] b y) (k:Le b c):Keep a [] c z:=⟨h.1.trans k,by simp⟩
theorem Keep.more {a b:FZ} {x y:HP} (z:HP) (h:Keep a x b y):Keep a x b (z++y):=⟨h.1,fun p hp=>List.mem_append.2 (.inr (h.2 p hp))⟩
variable {k:Nat}
theorem Pd.more {ve:Env} {pend:Pend} {H':HP} (h:Pd P cx l σ ve pend fz H k o v) (hk:Keep fz H fz H'):Pd P cx l σ ve pend fz H' k o v:=by
 obtain ⟨fz0,H0,h1,h2,h3⟩:=h;exact ⟨fz0,H0,h1,h2.trans hk,h3⟩
variable {w:World}
theorem DA.step {fk:Oper->Bool} {fl:Fl} {ve τ:Env} {pend:Pend} {kept r:List (Nat × Oper)} {ex:Ex} {listed:Array Bool} {a:Act} {e:Nat × (Nat × Obj) × (Nat->Value)} (hfm:∀ i o a b x,VExt a b->fl i o a=some x->fl i o b=some x) (d:DA P cx n l σ fk fl ve τ pend fz H kept ex listed a w)
 (hp:kept.Perm ((i,o)::r)) (he:e∈ex) (hei:e.1=i):
 ∃ ex',DA P cx n l σ fk fl ((i,e.2.2 e.2.1.1)::ve) (putT o.dst (e.2.2 e.2.1.1) τ) pend fz ((e.2.1.1,e.2.1.2)::H) r ex' listed a w:=by
 have hmem:(i,o)∈kept:=hp.symm.subset (by simp);obtain ⟨hio,hvi,_⟩:=d.kp _ hmem;simp only at hio hvi;have hnd:(((i,o)::r).map Prod.fst).Nodup:=(hp.map _).nodup d.nd;simp only [List.map_cons,List.nodup_cons] at hnd;have hrne:∀ x∈r,x.1≠i:=fun x hx he=>hnd.1 (List.mem_map.2 ⟨x,hx,he⟩)
 have hext:VExt ve ((i,e.2.2 e.2.1.1)::ve):=fun k u hk=>by
  rw [Yn _ _ (fun he=>by subst he;rw [hvi] at hk;cases hk)];exact hk
 obtain ⟨s1,s2,hs⟩:=List.append_of_mem he;have hexn:=d.exn;subst hs;simp only [List.map_append,List.map_cons] at hexn;rw [List.nodup_append] at hexn;obtain ⟨hn1,hn2,hn3⟩:=hexn;simp only [List.nodup_cons] at hn2;have hinv:Inv cx fz (hx (s1++s2)++(e.2.1.1,e.2.1.2)::H) w:=by
  refine d.inv.perm ?_;simp only [hx,List.map_append,List.map_cons,List.append_assoc,List.cons_append];refine List.Perm.append_left _ ?_;exact List.perm_middle
 obtain ⟨oe,ho1,ho2,ho3,ho4⟩:=d.exk e (by simp);have hoe:oe=o:=by
  have h1:=(d.kp _ ho1).1;simp only at h1;rw [hei,hio] at h1;injection h1 with h1
  exact h1.symm
 subst hoe;have hn4:((s1++s2).map Prod.fst).Nodup:=by
  simp only [List.map_append];rw [List.nodup_append];exact ⟨hn1,hn2.2,fun x hx y hy=>hn3 x hx y (by simp only [List.mem_cons];exact .inr hy)⟩
 have hexne:∀ x∈s1++s2,x.1≠i:=by
  intro x hx hc;rw [<- hei] at hc;rcases List.mem_append.1 hx with h | h
  ·exact hn3 x.1 (List.mem_map.2 ⟨x,h,rfl⟩) e.1 (by simp) hc
  exact hn2.1 (List.mem_map.2 ⟨x,h,hc⟩)
 have hX:VExt (veX (s1++e::s2) ve) (veX (s1++s2) ((i,e.2.2 e.2.1.1)::ve)):=by
  have hnone:∀ x∈s1++s2,lk ((i,e.2.2 e.2.1.1)::ve) x.1=none:=fun x hx=>by
   rw [Yn _ _ (fun he=>hexne x hx he.symm)];obtain ⟨ox,h1,_⟩:=d.exk x (by rcases List.mem_append.1 hx with h | h<;>simp [h]);exact (d.kp _ h1).2.1
  refine Ygg (fun k v hk=>YbC hnone k v (hext k v hk)) fun x hx=>?_
  by_cases hxi:x.1=i
  ·have hxe:x=e:=by
    simp only [List.mem_append,List.mem_cons] at hx;rcases hx with hx | hx | hx
    ·exact absurd hxi (hexne x (by simp [hx]))
    ·exact hx
    exact absurd hxi (hexne x (by simp [hx]))
   rw [hxe,hei];exact YbC hnone _ _ (Ys _ _ _)
  refine Yfv hn4 x ?_;simp only [List.mem_append,List.mem_cons] at hx;rcases hx with hx | hx | hx
  ·simp [hx]
  ·exact absurd (hx ▸ hei) hxi
  simp [hx]
 refine ⟨s1++s2,⟨hinv,d.size,d.defers,d.ls,d.old,d.dc,fun k ok v hk hv=>?_,hnd.2,fun x hx=>?_,fun k hk hn=>?_,fun x hx=>?_,?_,fun s u hsu=>?_⟩⟩
 ·by_cases hki:i=k
  ·subst hki;rw [hio] at hk;injection hk with hk;subst hk
   rw [Ys] at hv;injection hv with hv;subst hv
   exact ⟨fun _ s hd=>ho4 s hd,fun hc=>by rw [hei,hc] at ho3;cases ho3⟩
  rw [Yn _ _ hki] at hv;obtain ⟨h1,h2⟩:=d.got k ok v hk hv;refine ⟨h1,fun hl=>?_⟩;obtain ⟨fz0,H0,h3,h4,h5,h6⟩:=h2 hl;exact ⟨fz0,H0,h3,⟨h4.1,fun p hp=>by simp [h4.2 p hp]⟩,QOkG.ext hext h5,h6⟩
 ·obtain ⟨h1,h2,h3⟩:=d.kp x (hp.symm.subset (by simp [hx]));refine ⟨h1,by rw [Yn _ _ (fun he=>hrne x hx he.symm)];exact h2,h3.imp id fun ⟨y,hy,hyx⟩=>⟨y,?_,hyx⟩⟩;simp only [List.mem_append,List.mem_cons] at hy;rcases hy with hy | hy | hy
  ·simp [hy]
  ·subst hy;exact absurd (hyx.symm.trans hei) (hrne x hx)
  simp [hy]
 ·by_cases hki:i=k
  ·subst hki;rw [Ys] at hn;cases hn
  rw [Yn _ _ hki] at hn;obtain ⟨x,hx,hxk⟩:=d.rest k hk hn;have:=hp.subset hx;cases this with
  | head=>exact absurd hxk hki
  | tail _ hx=>exact ⟨x,hx,hxk⟩
 ·have hxe:x∈s1++e::s2:=by
   rcases List.mem_append.1 hx with h | h<;>simp [h]
  obtain ⟨ox,h1,h2,h3,h4⟩:=d.exk x hxe;refine ⟨ox,?_,⟨h2.1,hfm _ _ _ _ _ hX h2.2⟩,h3,h4⟩;have:=hp.subset h1;have hne:x.1≠i:=by
   intro hc;rw [<- hei] at hc;rcases List.mem_append.1 hx with h | h
   ·exact hn3 x.1 (List.mem_map.2 ⟨x,h,rfl⟩) e.1 (by simp) hc
   exact hn2.1 (List.mem_map.2 ⟨x,h,hc⟩)
  cases this with
  | head=>exact absurd rfl hne
  | tail _ hx=>exact hx
 ·exact hn4
 have hstep:∀ (hτ:lk τ s=some u) (hne:oe.dst≠some s),(∃ (k:Nat) (o:Oper),l[k]?=some o/\o.dst=some s/\lk ((i,e.2.2 e.2.1.1)::ve) k=some u)\/(lk σ s=some u/\∀ (k:Nat) (o:Oper),l[k]?=some o->lk ((i,e.2.2 e.2.1.1)::ve) k≠none->o.dst≠some s):=by
  intro hτ hne;rcases d.tau s u hτ with ⟨k,o,h1,h2,h3⟩ | ⟨h1,h2⟩
  ·exact .inl ⟨k,o,h1,h2,hext k u h3⟩
  refine .inr ⟨h1,fun k o hk hnn=>?_⟩;by_cases hki:i=k
  ·subst hki;rw [hio] at hk;injection hk with hk;subst hk;exact hne
  rw [Yn _ _ hki] at hnn;exact h2 k o hk hnn
 unfold putT at hsu;cases hd:oe.dst with
 | none=>simp only [hd] at hsu;exact hstep hsu (by rw [hd];simp)
 | some dd=>
  simp only [hd] at hsu;by_cases hds:dd=s
  ·subst hds;rw [Ys] at hsu;injection hsu with hsu
   subst hsu;exact .inl ⟨i,oe,hio,hd,Ys _ _ _⟩
  rw [Yn _ _ hds] at hsu;exact hstep hsu (by rw [hd];simpa using hds)
theorem Ygk {i:Nat} {o:Oper}:∀ {kept:List (Nat × Oper)},(kept.map Prod.fst).Nodup->(i,o)∈kept->kept.Perm ((i,o)::rm i kept)
 | [],_,h=>by cases h
 | (j,x)::r,hnd,h=>by
  simp only [List.map_cons,List.nodup_cons] at hnd;by_cases hji:j=i
  ·subst hji;have hx:x=o:=by
    cases h with
    | head=>rfl
    | tail _ h=>exact absurd (List.mem_map.2 ⟨_,h,rfl⟩) hnd.1
   subst hx;have:rm j ((j,x)::r)=r:=by
    unfold rm;rw [List.filter_cons_of_neg (by simp)];refine List.filter_eq_self.2 fun p hp=>?_
    simp only [Bool.not_eq_true'];cases hb:Nat.beq p.1 j with
    | false=>rfl
    | true=>exact absurd (List.mem_map.2 ⟨p,hp,Nat.eq_of_beq_eq_true hb⟩) hnd.1
   rw [this]
  have h':(i,o)∈r:=by
   cases h with
   | head=>exact absurd rfl hji
   | tail _ h=>exact h
  have:rm i ((j,x)::r)=(j,x)::rm i r:=by
   unfold rm;rw [List.filter_cons_of_pos];simp only [Bool.not_eq_true'];cases hb:Nat.beq j i with
   | false=>rfl
   | true=>exact absurd (Nat.eq_of_beq_eq_true hb) hji
  rw [this];exact ((Ygk hnd.2 h').cons _).trans (List.Perm.swap ..)
def SL (P:Program) (cx:Cx) (l:List Oper) (σ:Env) (fk:Oper->Bool) (fl:Fl) (Q:QQ) (m:Nat) (ve τ:Env) (pend:Pend) (fz:FZ) (H:HP) (kept:List (Nat × Oper)) (listed:Array Bool):Prop:=
 (kept=[]/\Q .normal τ fz H)\/
  ((∃ p∈kept,fk p.2=false)/\∃ fls:List Nat,(∀ k,Clo fk ve kept k->k∈fls)/\∀ p∈kept,(p.1∈fls/\Yfq fk fl ve p)\/YaW ve fls p.2=true\/
   (fk p.2=false/\XR p.2 ve=some true/\YdY P cx p.2 (rdg l p.1 p.2 σ ve) fz H fun v fz' H'=>
    Le fz fz'/\(∀ q∈Xo pend p.2,∀ b∈q.2,b∈H')/\DrV P cx l σ fk fl Q m (rm p.1 kept) ((p.1,v)::ve) (putT p.2.dst v τ) (Xo pend p.2) fz' H'))\/
  (∃ i o,(i,o)∈kept/\listed.getD i true=false/\∃ obj mk,fl i o ve=some (obj,mk)/\∃ fls:List Nat,(∀ k,Clo fk ve (rm i kept) k->k∈fls)/\(∀ p∈rm i kept,(p.1∈fls/\Yfq fk fl ve p)\/YaW ve fls p.2=true)/\∀ g,(∀ p∈H,p.1≠g)->DrV P cx l σ fk fl Q m (rm i kept) ((i,mk g)::ve) (putT o.dst (mk g) τ) pend fz ((g,obj)::H))
theorem DrV.enter {fk:Oper->Bool} {fl:Fl} (hfm:∀ i o a b x,VExt a b->fl i o a=some x->fl i o b=some x) {listed:Array Bool} {a:Act} {w:World}:∀ {m:Nat} {rem:List (Nat × Oper)} {ve τ:Env} {pend:Pend} {H:HP} {ex:Ex},DrV P cx l σ fk fl Q m rem ve τ pend fz H->DA P cx n l σ fk fl ve τ pend fz H rem ex listed a w->
 ∃ m' ve' τ' pend' H' kept ex',SL P cx l σ fk fl Q m' ve' τ' pend' fz H' kept listed/\DA P cx n l σ fk fl ve' τ' pend' fz H' kept ex' listed a w
 | 0,_,_,_,_,_,_,h,_=>h.elim
 | m+1,rem,ve,τ,pend,H,ex,h,d=>by
  unfold DrV at h;obtain ⟨ve',τ',pend',sub,hK,o⟩:=NP.out rem ve τ pend [] h d.nd (fun p hp=>(d.kp p hp).2.1);simp only [List.nil_append] at hK
  -- floats that have run stay among the kept only if the walk kept them
  by_cases hex:∀ e∈ex,∀ p∈rem,p.1=e.1->p∈sub
  ·have d':DA P cx n l σ fk fl ve' τ' pend' fz H sub ex listed a w:=by
    refine ⟨d.inv,d.size,d.defers,d.ls,d.old,d.dc,fun k ok v hk hv=>?_,(o.subl.map _).nodup d.nd,fun p hp=>?_,fun k hk hn=>?_,fun e he=>?_,d.exn,fun s v hs=>?_⟩
    ·rcases o.new k v hv with h1 | ⟨p,hp,he,hns⟩
     ·obtain ⟨g1,g2⟩:=d.got k ok v hk h1;refine ⟨g1,fun hl=>?_⟩;obtain ⟨fz0,H0,hw,hkp,hq,hm⟩:=g2 hl;exact ⟨fz0,H0,hw,hkp,QOkG.ext o.ext hq,o.pen _ hm⟩
     obtain ⟨h2,h3,h4⟩:=d.kp p hp;rw [he,hk] at h2;injection h2 with h2
     have h4':listed.getD k true=false:=by
      rcases h4 with h4 | ⟨e,hee,hep⟩
      ·rw [<- he];exact h4
      exact absurd (hex e hee p hp hep.symm) hns
     refine ⟨fun hl=>(by rw [hl] at h4';cases h4'),fun _=>?_⟩;rcases o.val p hp with h5 | ⟨_,u,hu,h5⟩
     ·exact absurd h5 hns
     rw [he,hv] at hu;injection hu with hu
     subst hu;rw [<- h2,he] at h5;have hi0:Inv cx fz H w:=d.inv.forget (List.sublist_append_right _ _);obtain ⟨H0,hs,h5,h6⟩:=h5;exact ⟨fz,H0,⟨w,hi0.forget hs⟩,⟨Zd,fun p hp=>hs.subset hp⟩,h5,h6⟩
    ·obtain ⟨h1,h2,h3⟩:=d.kp p (o.subl.subset hp);exact ⟨h1,o.none_ p hp,h3⟩
    ·have h1:lk ve k=none:=by
      cases hc:lk ve k with
      | none=>rfl
      | some v=>rw [o.ext k v hc] at hn;cases hn
     obtain ⟨p,hp,he⟩:=d.rest k hk h1;rcases o.val p hp with h2 | ⟨_,u,hu,_⟩
     ·exact ⟨p,h2,he⟩
     rw [he,hn] at hu;cases hu
    ·obtain ⟨oe,h1,h2,h3,h4⟩:=d.exk e he;refine ⟨oe,hex e he _ h1 rfl,⟨h2.1,hfm _ _ _ _ _ ?_ h2.2⟩,h3,h4⟩;have hnone:∀ x∈ex,lk ve' x.1=none:=fun x hx=>by
      obtain ⟨ox,g1,_⟩:=d.exk x hx;exact o.none_ _ (hex x hx _ g1 rfl)
     exact Ygg (fun k v hk=>YbC hnone k v (o.ext k v hk)) (fun x hx=>Yfv d.exn x hx)
    rcases o.tau s v hs with ⟨p,hp,hd,hv⟩ | ⟨hτ,hne⟩
    ·exact .inl ⟨p.1,p.2,(d.kp p hp).1,hd,hv⟩
    rcases d.tau s v hτ with ⟨k,ok,h1,h2,h3⟩ | ⟨h1,h2⟩
    ·exact .inl ⟨k,ok,h1,h2,o.ext k v h3⟩
    refine .inr ⟨h1,fun k ok hk hnn hd=>?_⟩;cases hc:lk ve' k with
    | none=>exact hnn hc
    | some u=>
     rcases o.new k u hc with h3 | ⟨p,hp,he,hns⟩
     ·exact h2 k ok hk (by rw [h3];simp) hd
     have h4:=(d.kp p hp).1;rw [he,hk] at h4;injection h4 with h4
     exact hne p hp hns (by rw [<- h4];exact hd)
   rcases hK with ⟨h1,h2⟩ | hE | ⟨i,oi,hp,obj,mk,hfl,fls,hcl,hr,hg⟩
   ·exact ⟨m,ve',τ',pend',H,sub,ex,.inl ⟨h1,h2⟩,d'⟩
   ·exact ⟨m,ve',τ',pend',H,sub,ex,.inr (.inl hE),d'⟩
   obtain ⟨h1,_,h3⟩:=d'.kp (i,oi) hp;rcases h3 with h3 | ⟨e,he,hei⟩
   ·exact ⟨m,ve',τ',pend',H,sub,ex,.inr (.inr ⟨i,oi,hp,h3,obj,mk,hfl,fls,hcl,hr,hg⟩),d'⟩
   obtain ⟨oe,g1,g2,_,_⟩:=d'.exk e he;have:=(d'.kp _ g1).1;simp only at this hei h1;rw [hei,h1] at this;injection this with this
   subst this;have hnone:∀ x∈ex,lk ve' x.1=none:=fun x hx=>by
    obtain ⟨ox,g1,_⟩:=d'.exk x hx;exact (d'.kp _ g1).2.1
   have g2:=g2.2;rw [hei,hfm _ _ _ _ _ (YbC hnone) hfl] at g2;injection g2 with g2
   injection g2 with g2 g3
   subst g2;subst g3;obtain ⟨ex',d''⟩:=d'.step hfm (Ygk d'.nd hp) he hei;have hne:∀ p∈H,p.1≠e.2.1.1:=fun p hp hc=>by
    have hnd:=d'.inv.hp.nd;rw [List.map_append,List.nodup_append] at hnd;exact hnd.2.2 e.2.1.1 (List.mem_map.2 ⟨e.2.1,List.mem_map.2 ⟨e,he,rfl⟩,rfl⟩) p.1 (List.mem_map.2 ⟨p,hp,rfl⟩) hc.symm
   exact DrV.enter hfm (hg e.2.1.1 hne) d''
  exfalso;simp only [Classical.not_forall] at hex;obtain ⟨e,he,p,hp,hpe,hns⟩:=hex;rcases o.val p hp with h5 | ⟨hfl,_⟩
  ·exact hns h5
  obtain ⟨oe,g1,g2,_,_⟩:=d.exk e he;have h1:=(d.kp _ g1).1;have h2:=(d.kp p hp).1;simp only at h1;rw [hpe,h1] at h2;injection h2 with h2
  rw [h2] at g2;rw [hfl] at g2;exact absurd g2.1 (by simp)
theorem Wp.drawG {fk:Oper->Bool} {fl:Fl} {id m:Nat} (hm:P.follows .mixedOrders=true) (hB:Yar n l 0 []=true) (hG:YaK l=true)
 (hfm:∀ i o a b x,VExt a b->fl i o a=some x->fl i o b=some x)
 (hfl:∀ i o ve obj mk,fl i o ve=some (obj,mk)->o.guard=none/\∀ ρ w,Reads (rdg l i o σ ve) ρ->(execOp ρ o).run P w=.ok (.value (mk w.heap.size)) (w.alloc obj))
 (hone:∀ i o ve obj mk,fl i o ve=some (obj,mk)->∀ g,Yei (mk g)=true)
 (h:DrV P cx l σ fk fl Q m (num 0 l) [] σ [] fz H):Wp P cx n (.region id l.toArray true) σ fz H Q:=by
 refine Wp.of fun a w hs hi=>?_
 have hedge:=Yae (n:=n) l 0 [] hB;have hdst:=Yaq (n:=n) l 0 [] hB;simp only [Nat.zero_add] at hedge;have hops:∀ k:Nat,(l.toArray)[k]?=l[k]?:=fun k=>by simp
 let A:Array Bool->Act->World->Prop:=fun listed a w=>∃ m ve τ pend fz H kept ex,SL P cx l σ fk fl Q m ve τ pend fz H kept listed/\DA P cx n l σ fk fl ve τ pend fz H kept ex listed a w
 have hall:∀ (listed:Array Bool),listed.size=l.length->Region.ready .any l.toArray listed=[]->∀ k,k<l.length->listed.getD k true=true:=by
  intro listed hsz hr k
  induction k using Nat.strongRecOn with
  | _ k ih=>
   intro hk;cases hl:listed.getD k true with
   | true=>rfl
   | false=>
    exfalso;have hmem:k∈Region.ready .any l.toArray listed:=by
     unfold Region.ready;simp only [List.mem_filter,List.mem_range,List.size_toArray,hk,true_and,hl,Bool.not_false,Bool.true_and];rw [hops k,List.getElem?_eq_getElem hk];simp only [Option.map_some,Option.getD_some,Array.all_eq_true_iff_forall_mem];intro e he;cases hb:Region.binds .any e with
     | false=>rfl
     | true=>
      have h1:=hedge k l[k] (List.getElem?_eq_getElem hk) e he hb;have h2:=ih e.on Zi Zi;have h3:e.on<listed.size:=by omega
      simp only [Bool.not_true,Bool.false_or];simpa [Array.getD,h3] using h2
    rw [hr] at hmem;cases hmem
 have hfin:∀ listed a w,A listed a w->Region.ready .any l.toArray listed=[]->lift cx n Q .normal a w:=by
  rintro listed a w ⟨m,ve,τ,pend,fz,H,kept,ex,hS,d⟩ hr;rcases hS with ⟨hk,hQ⟩ | ⟨⟨p,hp,hpf⟩,_⟩ | ⟨i,o,hp,hl,_⟩
  ·subst hk;have hsome:∀ k,k<l.length->lk ve k≠none:=fun k hk hn=>by obtain ⟨p,hp,_⟩:=d.rest k hk hn;cases hp
   refine ⟨τ,fz,H,⟨d.size,d.defers,fun s v hsv=>?_⟩,d.inv.forget (List.sublist_append_right _ _),hQ⟩;rcases d.tau s v hsv with ⟨k,o,hk,hd,hv⟩ | ⟨hv,hn⟩
   ·exact (d.got k o v hk hv).1 (hall listed d.ls hr k (Zg hk).1) s hd
   exact d.old s v hv fun k o hk hd=>absurd hd (hn k o hk (hsome k (Zg hk).1))
  ·obtain ⟨h1,_,h3⟩:=d.kp p hp;have h4:=hall listed d.ls hr p.1 (Zg h1).1;rcases h3 with h3 | ⟨e,he,hei⟩
   ·rw [h3] at h4;cases h4
   obtain ⟨oe,g1,g2,_,_⟩:=d.exk e he;have:=(d.kp _ g1).1;simp only at this;rw [hei,h1] at this;injection this with this
   rw [<- this,hpf] at g2;exact absurd g2.1 (by simp)
  have h1:=(d.kp (i,o) hp).1;have:=hall listed d.ls hr i (Zg h1).1;rw [hl] at this;cases this
 have main:∀ (fuel:Nat) (listed:Array Bool) (a:Act) (w:World),(List.range l.length).countP (fun i=>!listed.getD i true)<=fuel->A listed a w->wpAny P .any l.toArray (lift cx n Q) fuel listed a w:=by
  intro fuel
  induction fuel with
  | zero=>
   intro listed a w hc hA;have hr:Region.ready .any l.toArray listed=[]:=by
    unfold Region.ready;rw [List.filter_eq_nil_iff];intro k hk;have:(List.range l.length).countP (fun i=>!listed.getD i true)=0:=by omega
    rw [List.countP_eq_zero] at this;have:=this k (by simpa using hk);simp only [Bool.not_eq_true,Bool.not_eq_false'] at this;simp only [this];simp
   exact ⟨hr,hfin listed a w hA hr⟩
  | succ fuel ih=>
   intro listed a w hc hA;refine ⟨fun hr=>hfin listed a w hA hr,fun i hir=>?_⟩;obtain ⟨m,ve,τ,pend,fz,H,kept,ex,hS,d⟩:=hA;unfold Region.ready at hir;simp only [List.mem_filter,List.mem_range,List.size_toArray,Bool.and_eq_true,Bool.not_eq_true'] at hir;obtain ⟨hil,hun,hrdy⟩:=hir;have hio:l[i]?=some l[i]:=List.getElem?_eq_getElem hil;rw [hops i,hio] at hrdy;simp only [Option.map_some,Option.getD_some,Array.all_eq_true_iff_forall_mem] at hrdy;have hls:=d.ls;have hilt:i<listed.size:=by omega
   have hdone1:∀ e∈l[i].after,Region.binds .any e=true->listed.getD e.on true=true/\e.on<l.length:=by
    intro e he hb;have h1:=hrdy e he;rw [hb] at h1;have h3:=hedge i l[i] hio e he hb;simp only [Bool.not_true,Bool.false_or] at h1;have h5:e.on<listed.size:=by omega
    exact ⟨by simpa [Array.getD,h5] using h1,by omega⟩
   have hdone:∀ j,waits l[i] j=true->listed.getD j true=true/\j<l.length:=by
    intro j hj;unfold waits at hj;obtain ⟨e,he,hej⟩:=List.any_eq_true.1 hj;simp only [Bool.and_eq_true] at hej;have h2:e.on=j:=Nat.eq_of_beq_eq_true hej.1;subst h2;exact hdone1 e (by simpa using he) hej.2
   have hother:∀ k,k≠i->(listed.setIfInBounds i true).getD k true=listed.getD k true:=by
    intro k hk;simp only [Array.getD_eq_getD_getElem?];rw [Array.getElem?_setIfInBounds_ne Zi]
   have hsame:(listed.setIfInBounds i true).getD i true=true:=by simp [Array.getD,hilt]
   have hmono:∀ k,listed.getD k true=true->(listed.setIfInBounds i true).getD k true=true:=by
    intro k hk;by_cases he:k=i
    ·subst he;exact hsame
    rw [hother k he];exact hk
   have hcount:(List.range l.length).countP (fun j=>!(listed.setIfInBounds i true).getD j true)<=fuel:=by
    have:=YdJ (p:=fun j=>!listed.getD j true) (q:=fun j=>!(listed.setIfInBounds i true).getD j true) (List.range l.length) i (by simpa using hil) (fun j hj=>by
     by_cases hji:j=i
     ·subst hji;rw [hsame] at hj;cases hj
     rw [hother j hji] at hj;exact hj) (by simp only [hun,Bool.not_false]) (by rw [hsame];rfl)
    omega
   have putOther:∀ (v:Value) (s:Nat) (u:Value),a.tmps[s]?=some u->l[i].dst≠some s->(a.put l[i].dst v).tmps[s]?=some u:=by
    intro v s u hu hne;cases hd:l[i].dst with
    | none=>exact hu
    | some d=>
     have:d≠s:=fun he=>hne (by rw [hd,he])
     simp only [Act.put];rw [Array.getElem?_setIfInBounds_ne this];exact hu
   have putSame:∀ (v:Value) (s:Nat),l[i].dst=some s->(a.put l[i].dst v).tmps[s]?=some v:=by
    intro v s hd;rw [hd];simp [Act.put,d.size,(hdst i _ s hio hd).1]
   have putSize:∀ v,(a.put l[i].dst v).tmps.size=n:=by intro v;cases hd:l[i].dst<;>simp [Act.put,d.size]
   have putDef:∀ v,(a.put l[i].dst v).defers=[]:=by intro v;cases hd:l[i].dst<;>simp [Act.put,d.defers]
   have dstNe:∀ (k:Nat) (o:Oper) (s:Nat),l[k]?=some o->o.dst=some s->k≠i->l[i].dst≠some s:=fun k o s hk hd hki hc=>hki ((hdst i _ s hio hc).2.2 k o hk hd)
   have hnoneX:∀ x∈ex,lk ve x.1=none:=fun x hx=>by
    obtain ⟨ox,g1,_⟩:=d.exk x hx;exact (d.kp _ g1).2.1
   have hreadsX:Reads (rdg l i l[i] σ (veX ex ve)) a.eval:=by
    intro x u hx;cases x with
    | tmp t=>
     unfold rdg at hx;cases hw:Wy l t 0 with
     | none=>
      simp only [hw] at hx;have:=d.old t u hx (fun k o hk hd=>absurd hd (Yao l t 0 hw k o hk));simp [Act.eval,this]
     | some j=>
      simp only [hw] at hx;cases hwt:waits l[i] j with
      | false=>
       simp only [hwt] at hx;obtain ⟨k,o,rfl,hk,hd⟩:=Wb l t 0 j hw;simp only [Nat.zero_add] at*;simp only [hk] at hx;cases hwj:waits o i with
       | false=>simp [hwj] at hx
       | true=>
        simp only [hwj] at hx;have hkl:listed.getD k true=false:=by
         cases hkl:listed.getD k true with
         | false=>rfl
         | true=>have:=d.dc k o hk hkl i hwj;rw [hun] at this;cases this
        have:=d.old t u hx (fun k' o' hk' hd'=>by
         have:=(hdst k o t hk hd).2.2 k' o' hk' hd';rw [this];exact hkl)
        simp [Act.eval,this]
      | true=>
       simp only [hwt] at hx;obtain ⟨k,o,rfl,hk,hd⟩:=Wb l t 0 j hw;simp only [Nat.zero_add] at*;rcases YaU hx with ⟨e,he,hek,hv⟩ | hx
       ·obtain ⟨oe,g1,_,_,g4⟩:=d.exk e he;have h5:=(d.kp _ g1).1;simp only at h5;rw [hek,hk] at h5;injection h5 with h5
        subst h5;have:=g4 t hd;rw [<- hv] at this;simp [Act.eval,this]
       have:=(d.got k o u hk hx).1 (hdone k hwt).1 t hd;simp [Act.eval,this]
    | const c=>injection hx
    | global g=>injection hx
    | func f=>injection hx
   have hreads:Reads (rdg l i l[i] σ ve) a.eval:=fun x v hx=>hreadsX x v (Ygl (YbC hnoneX) x v hx)
   have hdc:∀ (j:Nat) (o:Oper),l[j]?=some o->(listed.setIfInBounds i true).getD j true=true->∀ k,waits o k=true->(listed.setIfInBounds i true).getD k true=true:=by
    intro j o hj hjl k hk;by_cases hji:j=i
    ·subst hji;rw [hio] at hj;injection hj with hj;subst hj
     exact hmono k (hdone k hk).1
    rw [hother j hji] at hjl;exact hmono k (d.dc j o hj hjl k hk)
   have hold:∀ (v:Value) s u,lk σ s=some u->(∀ (k:Nat) (o:Oper),l[k]?=some o->o.dst=some s->(listed.setIfInBounds i true).getD k true=false)->(a.put l[i].dst v).tmps[s]?=some u:=by
    intro v s u hsu hn;refine putOther v s u (d.old s u hsu fun k o hk hd=>?_) (fun hd=>?_)
    ·have:=hn k o hk hd;cases hkl:listed.getD k true with
     | false=>rfl
     | true=>rw [hmono k hkl] at this;cases this
    have:=hn i _ hio hd;rw [hsame] at this;cases this
   -- one that is stuck cannot be this one
   have hstuck:∀ (o:Oper) (fls:List Nat),o=l[i]->(∀ p∈kept,p.1 ∉ fls->listed.getD p.1 true=false)->YaW ve fls o=true->False:=by
    intro o fls ho hfls hb;subst ho;obtain ⟨e,he,hej⟩:=List.any_eq_true.1 hb;simp only [Bool.and_eq_true,Option.isNone_iff_eq_none,Bool.not_eq_true'] at hej;obtain ⟨h1,h2⟩:=hdone1 e (by simpa using he) hej.1;obtain ⟨x,hx,hxe⟩:=d.rest e.on h2 hej.2.1;have h3:=hfls x hx (fun hc=>by
     have:=List.any_eq_false.1 hej.2.2 x.1 hc;rw [hxe] at this;exact this (Nat.beq_refl _))
    rw [hxe,h1] at h3;cases h3
   have hyield:∀ j b,l[i].guard=some (j,b)->waits l[i] j=true->∀ c,lk ve j=some c->yielded l.toArray a.tmps j=asB c:=by
    intro j b hg hwt c hcv;obtain ⟨h1,h2⟩:=hdone j hwt;unfold yielded;rw [hops j,List.getElem?_eq_getElem h2];cases hd:l[j].dst with
    | none=>
     have h7:=List.all_eq_true.1 hG l[i] (List.getElem_mem hil);simp [hg,List.getElem?_eq_getElem h2,hd] at h7
    | some s=>
     have:=(d.got j l[j] c (List.getElem?_eq_getElem h2) hcv).1 h1 s hd;simp only [Option.bind_some,hd,this];cases c<;>rfl
   have hwanted:∀ b,XR l[i] ve=some b->Region.wanted l[i] (yielded l.toArray a.tmps)=b:=by
    intro b hw;unfold Region.wanted;unfold XR at hw;cases hg:l[i].guard with
    | none=>simp only [hg] at hw;exact Option.some.inj hw
    | some jb=>
     obtain ⟨j,b'⟩:=jb;simp only [hg] at hw ⊢;cases hwt:waits l[i] j with
     | false=>simp [hwt] at hw
     | true=>
      simp only [hwt] at hw;split at hw
      ·rename_i c hc;rw [hyield j b' hg hwt c hc];exact Option.some.inj hw
      cases hw
   unfold wpOp;rw [hops i,hio];simp only;cases hvi:lk ve i with
   | some v=>
    obtain ⟨fz0,H0,⟨w1,hw1⟩,hkp,hqv,_⟩:=(d.got i l[i] v hio hvi).2 hun;have hkeep:Inv cx fz0 H0 w:=hw1.keep d.inv (hkp.more _);have hnext:∀ w',Fr [] w w'->A (listed.setIfInBounds i true) (a.put l[i].dst v) w':=by
     intro w' hw';have hS':SL P cx l σ fk fl Q m ve τ pend fz H kept (listed.setIfInBounds i true):=by
      rcases hS with h1 | h1 | ⟨j,o,hp,hl,hh⟩
      ·exact .inl h1
      ·exact .inr (.inl h1)
      refine .inr (.inr ⟨j,o,hp,?_,hh⟩);have:=(d.kp (j,o) hp).2.1;rw [hother j (fun he=>by simp only at this;rw [he,hvi] at this;cases this)];exact hl
     refine ⟨m,ve,τ,pend,fz,H,kept,ex,hS',⟨d.inv.quiet hw',putSize v,putDef v,by simpa using hls,hold v,hdc,fun k o u hk hu=>?_,d.nd,fun p hp=>?_,d.rest,fun e he=>?_,d.exn,d.tau⟩⟩
     ·by_cases hki:k=i
      ·subst hki;rw [hio] at hk;injection hk with hk;subst hk
       rw [hvi] at hu;injection hu with hu;subst hu
       exact ⟨fun _ s hd=>putSame v s hd,fun hc=>by rw [hsame] at hc;cases hc⟩
      rw [hother k hki];obtain ⟨h1,h2⟩:=d.got k o u hk hu;exact ⟨fun hl s hd=>putOther v s u (h1 hl s hd) (dstNe k o s hk hd hki),h2⟩
     ·obtain ⟨h1,h2,h3⟩:=d.kp p hp;have hpi:p.1≠i:=fun he=>by rw [he,hvi] at h2;cases h2
      exact ⟨h1,h2,by rw [hother _ hpi];exact h3⟩
     obtain ⟨o,h1,h2,h3,h4⟩:=d.exk e he;obtain ⟨h5,h6,_⟩:=d.kp _ h1;have hpi:e.1≠i:=fun he=>by simp only at h6;rw [he,hvi] at h6;cases h6
     exact ⟨o,h1,h2,hmono _ h3,fun s hd=>putOther v s _ (h4 s hd) (dstNe e.1 o s h5 hd hpi)⟩
    rcases hqv with ⟨hq1,hq2⟩ | ⟨hq1,hq2⟩
    ·rw [if_pos (hwanted true hq1)];exact .inl (Xk.wp ((hq2 a.eval w hreads hkeep).mono fun v' w' ⟨he,hw'⟩=>by subst he;exact ih _ _ _ hcount (hnext w' hw')))
    rw [if_neg (by simp [hwanted false hq1])];subst hq2;exact ih _ _ _ hcount (hnext w (Fr.refl _ _))
   | none=>
    obtain ⟨p,hp,hpi⟩:=d.rest i hil hvi;have hpl:=(d.kp p hp).1;rw [hpi,hio] at hpl;injection hpl with hpl
    obtain ⟨pi,po⟩:=p;simp only at hpi hpl;subst hpi;subst hpl;have hexi:∀ e∈ex,e.1≠pi:=fun e he hc=>by
     obtain ⟨_,_,_,h3,_⟩:=d.exk e he;rw [hc,hun] at h3;cases h3
    have hcloX:∀ (S:List (Nat × Oper)),(∀ e∈ex,∀ o,(e.1,o)∈kept->(e.1,o)∈S)->∀ (k:Nat) (e:Nat × (Nat × Obj) × (Nat->Value)),e∈ex->e.1=k->Clo fk ve S k:=by
     intro S hS' k
     induction k using Nat.strongRecOn with
     | _ k ihk=>
      intro e he hek;obtain ⟨oe,g1,g2,g3,_⟩:=d.exk e he;have h5:=(d.kp _ g1).1;simp only at h5;have:=Clo.mk (fk:=fk) (ve:=ve) (kept:=S) (e.1,oe) (hS' e he oe g1) g2.1 (fun e2 he2 hb2 hn2=>by
       have hlt:=hedge e.1 oe h5 e2 he2 hb2;have hlen:e.1<l.length:=(Zg h5).1;obtain ⟨y,hy,hye⟩:=d.rest e2.on Zi hn2;have hw2:waits oe e2.on=true:=by
        unfold waits;exact List.any_eq_true.2 ⟨e2,by simpa using he2,by simp [hb2]⟩
       have hl2:=d.dc e.1 oe h5 g3 e2.on hw2;rcases (d.kp y hy).2.2 with h6 | ⟨e',he',hey⟩
       ·rw [hye,hl2] at h6;cases h6
       exact ihk e2.on Zi e' he' (hey.trans hye))
      rw [<- hek];exact this
    have hkfl:∀ (S:List (Nat × Oper)) (fls:List Nat),(∀ e∈ex,∀ o,(e.1,o)∈kept->(e.1,o)∈S)->(∀ k,Clo fk ve S k->k∈fls)->∀ x∈kept,x.1 ∉ fls->listed.getD x.1 true=false:=by
     intro S fls hS' hcl x hx hnf;rcases (d.kp x hx).2.2 with h1 | ⟨e,he,hex⟩
     ·exact h1
     exact absurd (hcl _ (hcloX S hS' x.1 e he hex)) hnf
    have hXv:∀ v,VExt (veX ex ve) (veX ex ((pi,v)::ve)):=fun v=>
     Ygg (fun k u hk=>YbC (fun x hx=>by rw [Yn _ _ (fun he=>hexi x hx he.symm)];exact hnoneX x hx) k u (by
      rw [Yn _ _ (fun he=>by subst he;rw [hvi] at hk;cases hk)];exact hk)) (fun x hx=>Yfv d.exn x hx)
    -- an allocation of which enough is known
    have hearly:Yfq fk fl ve (pi,l[pi])->∃ obj mk,fl pi l[pi] (veX ex ve)=some (obj,mk):=by
     intro ⟨_,he⟩;have:=he (veX ex ve) (YbC hnoneX) (fun k v hk hn=>by
      rcases YaU hk with ⟨e,hee,_,hv⟩ | hk
      ·obtain ⟨oe,_,g2,_⟩:=d.exk e hee;rw [hv];exact hone _ _ _ _ _ g2.2 _
      ·rw [hn] at hk;cases hk) (fun e2 he2 hb2 hn2=>by
      obtain ⟨h1,h2⟩:=hdone1 e2 he2 hb2;have hv2:lk ve e2.on=none:=by
       cases hc:lk ve e2.on with
       | none=>rfl
       | some v=>have:=YbC hnoneX _ _ hc;rw [hn2] at this;cases this
      obtain ⟨y,hy,hye⟩:=d.rest e2.on h2 hv2;rcases (d.kp y hy).2.2 with h6 | ⟨e',he',hey⟩
      ·rw [hye,h1] at h6;cases h6
      have:=Yfv d.exn e' he' (ve:=ve);rw [hey,hye,hn2] at this;cases this)
     cases hfo:fl pi l[pi] (veX ex ve) with
     | none=>simp only at this;rw [hfo] at this;cases this
     | some om=>exact ⟨om.1,om.2,rfl⟩
    have hpm:kept.Perm ((pi,l[pi])::rm pi kept):=Ygk d.nd hp;have hext:∀ v,VExt ve ((pi,v)::ve):=fun v k u hk=>by
     rw [Yn _ _ (fun he=>by subst he;rw [hvi] at hk;cases hk)];exact hk
    -- the next one has run
    have take:∀ (v:Value) (fz':FZ) (H1:HP) (pend':Pend) (w':World),Inv cx fz' (hx ex++H1) w'->
     (∀ (k:Nat) (ok:Oper) (u:Value),listed.getD k true=false->Pd P cx l σ ve pend fz H k ok u->Pd P cx l σ ((pi,v)::ve) pend' fz' H1 k ok u)->
     DA P cx n l σ fk fl ((pi,v)::ve) (putT l[pi].dst v τ) pend' fz' H1 (rm pi kept) ex (listed.setIfInBounds pi true) (a.put l[pi].dst v) w':=by
     intro v fz' H1 pend' w' hinv hpd;have hnd:=(hpm.map Prod.fst).nodup d.nd;simp only [List.map_cons,List.nodup_cons] at hnd;have hrne:∀ x∈rm pi kept,x.1≠pi:=fun x hx he=>hnd.1 (List.mem_map.2 ⟨x,hx,he⟩)
     refine ⟨hinv,putSize v,putDef v,by simpa using hls,hold v,hdc,fun k ok u hk hu=>?_,hnd.2,fun x hx=>?_,fun k hk hn=>?_,fun e he=>?_,d.exn,fun s u hsu=>?_⟩
     ·by_cases hki:k=pi
      ·subst hki;rw [hio] at hk;injection hk with hk;subst hk
       rw [Ys] at hu;injection hu with hu;subst hu
       exact ⟨fun _ s hd=>putSame v s hd,fun hc=>by rw [hsame] at hc;cases hc⟩
      rw [Yn _ _ (fun he=>hki he.symm)] at hu;rw [hother k hki];obtain ⟨h1,h2⟩:=d.got k ok u hk hu;exact ⟨fun hl s hd=>putOther v s u (h1 hl s hd) (dstNe k ok s hk hd hki),fun hl=>hpd k ok u hl (h2 hl)⟩
     ·obtain ⟨h1,h2,h3⟩:=d.kp x (hpm.symm.subset (by simp [hx]));exact ⟨h1,by rw [Yn _ _ (fun he=>hrne x hx he.symm)];exact h2,by rw [hother _ (hrne x hx)];exact h3⟩
     ·by_cases hki:pi=k
      ·subst hki;rw [Ys] at hn;cases hn
      rw [Yn _ _ hki] at hn;obtain ⟨x,hx,he⟩:=d.rest k hk hn;have:=hpm.subset hx;cases this with
      | head=>exact absurd he hki
      | tail _ hx=>exact ⟨x,hx,he⟩
     ·obtain ⟨oe,h1,h2,h3,h4⟩:=d.exk e he;have hne:=hexi e he;have h5:=hpm.subset h1;refine ⟨oe,?_,⟨h2.1,hfm _ _ _ _ _ (hXv v) h2.2⟩,hmono _ h3,fun s hd=>putOther v s _ (h4 s hd) (dstNe e.1 oe s (d.kp _ h1).1 hd hne)⟩;cases h5 with
      | head=>exact absurd rfl hne
      | tail _ h5=>exact h5
     have hstep:∀ (hτ:lk τ s=some u) (hne:l[pi].dst≠some s),(∃ (k:Nat) (o:Oper),l[k]?=some o/\o.dst=some s/\lk ((pi,v)::ve) k=some u)\/(lk σ s=some u/\∀ (k:Nat) (o:Oper),l[k]?=some o->lk ((pi,v)::ve) k≠none->o.dst≠some s):=by
      intro hτ hne;rcases d.tau s u hτ with ⟨k,ok,h1,h2,h3⟩ | ⟨h1,h2⟩
      ·exact .inl ⟨k,ok,h1,h2,hext v k u h3⟩
      refine .inr ⟨h1,fun k ok hk hnn=>?_⟩;by_cases hki:pi=k
      ·subst hki;rw [hio] at hk;injection hk with hk;subst hk;exact hne
      rw [Yn _ _ hki] at hnn;exact h2 k ok hk hnn
     unfold putT at hsu;cases hd:l[pi].dst with
     | none=>simp only [hd] at hsu;exact hstep hsu (by rw [hd];simp)
     | some dd=>
      simp only [hd] at hsu;by_cases hds:dd=s
      ·subst hds;rw [Ys] at hsu;injection hsu with hsu
       subst hsu;exact .inl ⟨pi,l[pi],hio,hd,Ys _ _ _⟩
      rw [Yn _ _ hds] at hsu;exact hstep hsu (by rw [hd];simpa using hds)
    -- an early float
    have early:∀ obj mk,fk l[pi]=true->fl pi l[pi] (veX ex ve)=some (obj,mk)->SL P cx l σ fk fl Q m ve τ pend fz H kept (listed.setIfInBounds pi true)->A (listed.setIfInBounds pi true) (a.put l[pi].dst (mk w.heap.size)) (w.alloc obj):=by
     intro obj mk hfk hfo hS';have hXe:VExt (veX ex ve) (veX ((pi,(w.heap.size,obj),mk)::ex) ve):=fun k v hk=>by
      unfold veX;rw [Yn _ _ (fun he=>by
       rcases YaU hk with ⟨e,hee,hek,_⟩ | hk
       ·exact hexi e hee (hek.trans he.symm)
       rw [<- he,hvi] at hk;cases hk)]
      exact hk
     refine ⟨m,ve,τ,pend,fz,H,kept,(pi,(w.heap.size,obj),mk)::ex,hS',⟨d.inv.alloc obj,putSize _,putDef _,by simpa using hls,hold _,hdc,fun k ok u hk hu=>?_,d.nd,fun x hx=>?_,d.rest,fun e he=>?_,?_,d.tau⟩⟩
     ·have hki:k≠pi:=fun he=>by subst he;rw [hvi] at hu;cases hu
      rw [hother k hki];obtain ⟨h1,h2⟩:=d.got k ok u hk hu;exact ⟨fun hl s hd=>putOther _ s u (h1 hl s hd) (dstNe k ok s hk hd hki),h2⟩
     ·obtain ⟨h1,h2,h3⟩:=d.kp x hx;refine ⟨h1,h2,?_⟩;by_cases hxi:x.1=pi
      ·exact .inr ⟨_,List.mem_cons_self ..,hxi.symm⟩
      rw [hother _ hxi];exact h3.imp (fun h=>h) fun ⟨e,he,hex⟩=>⟨e,List.mem_cons_of_mem _ he,hex⟩
     ·cases he with
      | head=>exact ⟨l[pi],hp,⟨hfk,hfm _ _ _ _ _ hXe hfo⟩,hsame,fun s hd=>putSame _ s hd⟩
      | tail _ he=>
       obtain ⟨oe,h1,h2,h3,h4⟩:=d.exk e he;exact ⟨oe,h1,⟨h2.1,hfm _ _ _ _ _ hXe h2.2⟩,hmono _ h3,fun s hd=>putOther _ s _ (h4 s hd) (dstNe e.1 oe s (d.kp _ h1).1 hd (hexi e he))⟩
     simp only [List.map_cons,List.nodup_cons];exact ⟨fun hc=>by obtain ⟨e,he,hep⟩:=List.mem_map.1 hc;exact hexi e he hep,d.exn⟩
    rcases hS with ⟨hk,_⟩ | ⟨hex0,fls,hcl,hh⟩ | ⟨j,o,hpj,hjl,obj,mk,hf,fls,hcl,hr,hg⟩
    ·subst hk;cases hp
    ·rcases hh _ hp with ⟨_,hea⟩ | hst | ⟨_,hgd,hdo⟩
     ·obtain ⟨obj,mk,hfo⟩:=hearly hea;obtain ⟨hgd,hrun⟩:=hfl _ _ _ _ _ hfo;rw [if_pos (by simp [Region.wanted,hgd])];refine .inl (Xk.wp ?_);rw [hrun _ _ hreadsX];exact ih _ _ _ hcount (early obj mk hea.1 hfo (.inr (.inl ⟨hex0,fls,hcl,hh⟩)))
     ·exact (hstuck _ _ rfl (hkfl kept fls (fun _ _ _ h=>h) hcl) hst).elim
     simp only at hgd hdo;rw [if_pos (hwanted true hgd)];refine .inl (Xk.wp (((hdo (hx ex)).run a.eval w hreads d.inv).mono fun v w' ⟨fz',H',hinv,H1,hH1,hle,hkc,hD⟩=>ih _ _ _ hcount ?_));subst hH1;have hDA:=take v fz' H1 (Xo pend l[pi]) w' hinv (fun k ok u hl hq=>by
      obtain ⟨fz0,H0,hw,hkp,hq,hmm⟩:=hq;have hnw:waits l[pi] k=false:=by
       cases hwt:waits l[pi] k with
       | false=>rfl
       | true=>have:=(hdone k hwt).1;rw [hl] at this;cases this
      have hmem:(k,H0)∈Xo pend l[pi]:=by
       unfold Xo;exact List.mem_filter.2 ⟨hmm,by simp [hnw]⟩
      exact ⟨fz0,H0,hw,⟨hkp.1.trans hle,hkc _ hmem⟩,QOkG.ext (hext v) hq,hmem⟩)
     obtain ⟨m',ve',τ',pend',H'',kept',ex',hS',hA'⟩:=hD.enter hfm hDA;exact ⟨m',ve',τ',pend',fz',H'',kept',ex',hS',hA'⟩
    by_cases hji:j=pi
    ·subst hji;have ho:o=l[j]:=by
      have:=(d.kp _ hpj).1;simp only at this;rw [hio] at this;injection this with this
      exact this.symm
     subst ho;obtain ⟨hgd,hrun⟩:=hfl _ _ _ _ _ hf;rw [if_pos (by simp [Region.wanted,hgd])];refine .inl (Xk.wp ?_);rw [hrun _ _ hreads];refine ih _ _ _ hcount ?_;have hDA:=take (mk w.heap.size) fz ((w.heap.size,obj)::H) pend (w.alloc obj) ((d.inv.alloc obj).perm List.perm_middle) (fun k ok u _ hq=>by
      obtain ⟨fz0,H0,hw,hkp,hq,hmm⟩:=hq;exact ⟨fz0,H0,hw,⟨hkp.1,fun p hp=>by simp [hkp.2 p hp]⟩,QOkG.ext (hext _) hq,hmm⟩)
     obtain ⟨m',ve',τ',pend',H'',kept',ex',hS',hA'⟩:=(hg w.heap.size (fun p hp hc=>by have:=lt_of_heap (d.inv.hp.own p (by simp [hp])).1;omega)).enter hfm hDA;exact ⟨m',ve',τ',pend',fz,H'',kept',ex',hS',hA'⟩
    have hrmem:∀ x∈kept,x.1≠j->x∈rm j kept:=fun x hx hne=>by
     unfold rm;refine List.mem_filter.2 ⟨hx,?_⟩;simp only [Bool.not_eq_true'];cases hb:Nat.beq x.1 j with
     | false=>rfl
     | true=>exact absurd (Nat.eq_of_beq_eq_true hb) hne
    have hexj:∀ e∈ex,e.1≠j:=fun e he hc=>by
     obtain ⟨_,_,_,h3,_⟩:=d.exk e he;rw [hc,hjl] at h3;cases h3
    rcases hr _ (hrmem _ hp (fun h=>hji h.symm)) with ⟨_,hea⟩ | hst
    ·obtain ⟨obj',mk',hfo⟩:=hearly hea;obtain ⟨hgd,hrun⟩:=hfl _ _ _ _ _ hfo;rw [if_pos (by simp [Region.wanted,hgd])];refine .inl (Xk.wp ?_);rw [hrun _ _ hreadsX];exact ih _ _ _ hcount (early obj' mk' hea.1 hfo (.inr (.inr ⟨j,o,hpj,by rw [hother j hji];exact hjl,obj,mk,hf,fls,hcl,hr,hg⟩)))
    exact (hstuck _ _ rfl (fun x hx hnf=>by
     by_cases hxj:x.1=j
     ·rw [hxj];exact hjl
     exact hkfl (rm j kept) fls (fun e he o h=>hrmem _ h (hexj e he)) hcl x hx hnf) hst).elim
 refine wp_region_any hm (main _ _ _ _ ?_ ?_)
 ·have:=List.countP_le_length (p:=fun i=>!(Array.replicate l.toArray.size false).getD i true) (l:=List.range l.length);simpa using this
 have hlt:∀ p∈num 0 l,p.1<l.length:=fun p hp=>by
  have:=(YeV l 0 p hp).2;exact (Zg this).1
 obtain ⟨m',ve',τ',pend',H',kept',ex',hS',hA'⟩:=h.enter hfm (n:=n) (listed:=Array.replicate l.toArray.size false) (a:=a) (ex:=[]) ⟨by simpa [hx] using hi.drew,hs.size,hs.defers,by simp,fun s v hv _=>hs.slot s v hv,fun j o hj hjl=>absurd hjl (by have:=(Zg hj).1;simp [Array.getD,this]),fun k o v _ hv=>(by cases hv),YfP l 0,
  fun p hp=>⟨by simpa using (YeV l 0 p hp).2,rfl,.inl (by simp [Array.getD,hlt p hp])⟩,fun k hk _=>⟨(k,l[k]),by simpa using Yjz l 0 k l[k] (List.getElem?_eq_getElem hk),rfl⟩,by simp,by simp,fun s v hv=>.inr ⟨hv,fun k o _ hn=>absurd rfl hn⟩⟩
 exact ⟨m',ve',τ',pend',fz,H',kept',ex',hS',hA'⟩
end
end Go.Lx
