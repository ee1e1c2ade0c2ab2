/- The texts QLx, QPl, QLm, U6, UW, UX, VA, laid together. Conditions: none. -/
import Derived.Test.YtbdpaoikccabhaaGreatDoorEAU
set_option linter.all false
set_option maxHeartbeats 16000000
noncomputable section
set_option maxRecDepth 20000
open Go.Lx Go.RowKit
attribute [local instance 10] Classical.propDecidable
open Go.Proofs.Tryz (prog)
namespace Go.Proofs.YtbdpaoikccabhaaGreatDoor
variable {f:Formula} {k:Nat} {fz:FZ} {va ve vk vp u1 u2 u3 u4 u5 u6 u7 v1 v2 v3 v4 v5 v6:Value} {d:Domain} {p:Problem}
mutual
def spreadM:Formula->Nat
 | .mk _ _ _ params _ kids=>spreadL kids+params.length
def spreadL:List Formula->Nat
 | []=>0
 | k::r=>max (spreadM k) (spreadL r)
end
mutual
theorem spread_le:∀ f:Formula,spreadM f<=fW f
 | .mk a b c d exprs kids=>by have h:=spreadL_le kids;rw [spreadM,fW];omega
theorem spreadL_le:∀ l:List Formula,spreadL l<=fWL l
 | []=>by simp [spreadL]
 | x::r=>by have h1:=spread_le x;have h2:=spreadL_le r;rw [spreadL,fWL];omega
end
theorem kid_fW {k:Formula} (h:k∈f.kids):fW k<=fW f:=by
 have:=Xg (w:=fW) h;rw [Ybu f];omega
theorem YoF (f:Formula):spreadM f=spreadL f.kids+f.params.length:=by cases f;rw [spreadM];rfl
theorem Ygg:∀ (a b:List Formula),spreadL (a++b)=max (spreadL a) (spreadL b)
 | [],b=>by simp [spreadL]
 | x::a,b=>by rw [List.cons_append,spreadL,spreadL,Ygg a b];omega
theorem YjH {l:List Formula} {x:Formula} (hx:l[k]?=some x):spreadL (l.take (k+1))=max (spreadL (l.take k)) (spreadM x):=by
 rw [List.take_add_one,hx,Ygg];simp [spreadL]
theorem Yme:∀ (s:Nat) {fz:FZ} {f:Formula} {va vp ve vk:Value},SizeOf.sizeOf f<=s->FormulaR fz f va vp ve vk->fW f<=1000000000000->
 QFn prog 28 [.agg #[Zy f.op,Zy f.name,va,vp,ve,vk]] fz (Zk (spreadM f))
 | 0,_,e,_,_,_,_,hs,_,_=>by cases e;simp at hs
 | s+1,fz,f,va,vp,ve,vk,hs,h,hc=>by
  obtain ⟨⟨A,n,ca,rfl,ha⟩,⟨B,m,cb,rfl,hp⟩,⟨C,r,cr,rfl,he⟩,⟨D,q0,cq,rfl,hk⟩⟩:=h.sls;refine GFn.quiet ?_;have lk:=hk.len;have sk:=hk.short;have lp:=hp.len;have ec:=YoF f;have el:=spread_le f;refine zF Tryz.func28 Tryz.ntmps28 (fun w0=>?_);refine pX (fun g0=>?_);refine zW ?_;refine Yn (fun q σ fz' H'=>∃ (k:Nat) (c:Int),k<=q0/\q=q0 - k/\σ=[(4,Zk k),(3,Zk c),(1,Zp g0)]/\fz=fz'/\H'=[(g0,Zu #[Zy f.op,Zy f.name,Zc A n ca,Zc B m cb,Zc C r cr,Zc D q0 cq] 35)]/\c=((spreadL (f.kids.take k):Nat):Int)) ⟨0,_,Z0 _,rfl,rfl,rfl,rfl,rfl⟩ Zw Zb ?_;rintro q σ fz' H' ⟨k,c,hkm,rfl,rfl,rfl,rfl,hh⟩;refine wC ?_ ?_<;>intro c1
  ·obtain ⟨x,hx⟩:=Yf (l:=f.kids) (k:=k) Zi;have hxm:=Zm hx;have hlt:=Formula.kids_lt hxm;have hst:=YjH hx;have hxw:=kid_fW hxm;refine wI hk hx (fun p1 hp1=>?_);refine zL hp1 ?_;intro cs hcs;obtain ⟨w1,w2,w3,w4,rfl,hRx⟩:=Yu hcs;refine wG ?_;refine Yt (Yme s Zi hRx Zi) ?_;exact wP (h:=by exact ⟨k+1,max c (spreadM x:Nat),by omega,rfl,rfl,rfl,rfl,by omega⟩)
  rw [Zl Zi] at hh;exact wR (h:=by rw [hh,ec];exact congrArg (Value.int .i64) Zi)
theorem Yip (h:FormulaR fz f va vp ve vk) (hc:fW f<=1000000000000):
 QFn prog 28 [.agg #[Zy f.op,Zy f.name,va,vp,ve,vk]] fz (Zk (spreadM f)):=Yme _ (Zs _) h hc
structure FitA (x:Action):Prop where
 params:x.params.length<=3
 many:x.changes.length<=10
 c:∀ c∈x.changes,c.params.length<=3
structure Fit14 (d:Domain) (p:Problem):Prop where
 os:d.constants.length+p.objects.length<=6
 acts:d.actions.length<=8
 init:p.init.length<=40
 a:∀ a∈d.actions,FitA a
theorem Ypp (h:DomainR fz d v1 v2 v3 v4 v5 v6) (hp:ProblemR fz p u1 u2 u3 u4 u5 u6 u7) (hd:domW d<=1000000000) (hw:prbW p<=1000000000):
 GFn prog 12 [ZD d v1 v2 v3 v4 v5 v6,ZP p u1 u2 u3 u4 u5 u6 u7] fz [] (fun r _ H'=>H'=[]/\∃ b,r=Zo b/\(b=false->Fit14 d p)):=by
 have h0:=h;have hp0:=hp;have hn:=Ypn d p;obtain ⟨A1,n1,b1,rfl,i1⟩:=h.types;obtain ⟨A2,n2,b2,rfl,i2⟩:=h.constants;have l2:=i2.len;have s2:=i2.short;obtain ⟨A3,n3,b3,rfl,i3⟩:=h.predicates;obtain ⟨A4,n4,b4,rfl,i4⟩:=h.functions;obtain ⟨A5,n5,b5,rfl,i5⟩:=h.actions;have l5:=i5.len;obtain ⟨A6,n6,b6,rfl,i6⟩:=h.duratives;have s5:=i5.short;obtain ⟨C1,m1,e1,rfl,j1⟩:=hp.objects;have k1:=j1.len;have t1:=j1.short;obtain ⟨C2,m2,e2,rfl,j2⟩:=hp.init;have k2:=j2.len;obtain ⟨C3,m3,e3,rfl,j3⟩:=hp.values;have hg:=hp.goal;have hgw:fW p.goal<=prbW p:=by unfold prbW;omega
 have hgc:=fcount_le p.goal;obtain ⟨⟨U1,w1,z1,rfl,_⟩,⟨U2,w2,z2,rfl,_⟩,⟨U3,w3,z3,rfl,_⟩,⟨U4,w4,z4,rfl,_⟩⟩:=hp.goal.sls;refine zF Tryz.func12 Tryz.ntmps12 (fun w0=>?_);refine pX (fun g0=>?_);refine pY (fun g1=>?_);refine wb (YnC h0 hp0) (fun f1=>?_) (fun f1=>?_)
 ·exact wR (h:=by exact ⟨rfl,true,rfl,Za⟩)
 refine wC ?_ ?_<;>intro c1
 ·exact wR (h:=by exact ⟨rfl,true,rfl,Za⟩)
 refine wC ?_ ?_<;>intro c2
 ·exact wR (h:=by exact ⟨rfl,true,rfl,Za⟩)
 refine wC ?_ ?_<;>intro c3
 ·exact wR (h:=by exact ⟨rfl,true,rfl,Za⟩)
 refine wG ?_;refine Yh (vs:=[Zy p.goal.op,Zy p.goal.name,Zc U1 w1 z1,Zc U2 w2 z2,Zc U3 w3 z3,Zc U4 w4 z4]) 0 ?_
 ((refine zG ?_);refine Yt (Yip hg Zi) ?_);refine wC ?_ ?_<;>intro c4
 ·exact wR (h:=by exact ⟨rfl,true,rfl,Za⟩)
 refine wG ?_;refine Yh (vs:=[Zy p.goal.op,Zy p.goal.name,Zc U1 w1 z1,Zc U2 w2 z2,Zc U3 w3 z3,Zc U4 w4 z4]) 0 ?_
 ((refine zG ?_);refine Yt (YdY hg Zi) ?_);refine wC ?_ ?_<;>intro c5
 ·exact wR (h:=by exact ⟨rfl,true,rfl,Za⟩)
 refine zW ?_;refine Yn (fun q σ fz' H'=>∃ (k:Nat),k<=n5/\q=n5 - k/\σ=[(5,Zk k),(2,Zp g0)]/\fz=fz'/\H'=[(g0,Zu #[Zy d.name,Zc A1 n1 b1,Zc A2 n2 b2,Zc A3 n3 b3,Zc A4 n4 b4,Zc A5 n5 b5,Zc A6 n6 b6] 28)]/\(∀ i,i<k->∀ x,d.actions[i]?=some x->FitA x)) ⟨0,Z0 _,rfl,rfl,rfl,rfl,fun i hi=>absurd hi Zi⟩ Zw (List.Sublist.cons _ (List.Sublist.refl _)) ?_;rintro q σ fz' H' ⟨k,hkm,rfl,rfl,rfl,rfl,hfit⟩;refine wC ?_ ?_<;>intro c6
 ·obtain ⟨x,hx⟩:=Yf (l:=d.actions) (k:=k) Zi;have hxw:actW x<=domW d:=by
   have:=Xg (w:=actW) (Zm hx);unfold domW;omega
  have hxe:actW x=1+x.params.length+fW x.pre+(x.changes.map Y7).sum:=rfl;have hxc:=fcount_le x.pre;refine wI i5 hx (fun pp1 hp1=>?_);refine zL hp1 ?_;intro cs1 hcs1;obtain ⟨r1,r2,r3,r4,r5,r6,rfl,hR⟩:=Xd hcs1;obtain ⟨P,p1,q1,rfl,ip⟩:=hR.params;have hS1:=hR.pre;obtain ⟨⟨V1,a1,y1,rfl,_⟩,⟨V2,a2,y2,rfl,_⟩,⟨V3,a3,y3,rfl,_⟩,⟨V4,a4,y4,rfl,_⟩⟩:=hR.pre.sls;obtain ⟨W1,o1,f2,rfl,ic⟩:=hR.changes;have lc:=ic.len;have lpp:=ip.len;have sc:=ic.short;refine Yd (YU (fun ga=>?_));refine wC ?_ ?_<;>intro d1
  ·exact wR (h:=by exact ⟨rfl,true,rfl,Za⟩)
  refine wG ?_;refine Yh (vs:=[Zy x.pre.op,Zy x.pre.name,Zc V1 a1 y1,Zc V2 a2 y2,Zc V3 a3 y3,Zc V4 a4 y4]) 0 ?_
  ((refine zG ?_);refine Yt (Yip hS1 Zi) ?_);refine wC ?_ ?_<;>intro d2
  ·exact wR (h:=by exact ⟨rfl,true,rfl,Za⟩)
  refine wG ?_;refine Yh (vs:=[Zy x.pre.op,Zy x.pre.name,Zc V1 a1 y1,Zc V2 a2 y2,Zc V3 a3 y3,Zc V4 a4 y4]) 0 ?_
  ((refine zG ?_);refine Yt (YdY hS1 Zi) ?_);refine wC ?_ ?_<;>intro d3
  ·exact wR (h:=by exact ⟨rfl,true,rfl,Za⟩)
  refine wC ?_ ?_<;>intro d4
  ·exact wR (h:=by exact ⟨rfl,true,rfl,Za⟩)
  refine zW ?_;refine Yn (fun q σ fz' H'=>∃ (k':Nat),k'<=o1/\q=o1 - k'/\σ=[(7,Zk k'),(6,Zp ga),(5,Zk k),(2,Zp g0)]/\fz=fz'/\H'=[(ga,Zu #[Zy x.name,Zc P p1 q1,Zk x.cost,Zy x.pre.op,Zy x.pre.name,Zc V1 a1 y1,Zc V2 a2 y2,Zc V3 a3 y3,Zc V4 a4 y4,Zc W1 o1 f2] 67),(g0,Zu #[Zy d.name,Zc A1 n1 b1,Zc A2 n2 b2,Zc A3 n3 b3,Zc A4 n4 b4,Zc A5 n5 b5,Zc A6 n6 b6] 28)]/\(∀ i,i<k'->∀ c,x.changes[i]?=some c->c.params.length<=3)) ⟨0,Z0 _,rfl,rfl,rfl,rfl,fun i hi=>absurd hi Zi⟩ Zw Zb ?_;rintro q σ fz' H' ⟨k',hkm',rfl,rfl,rfl,rfl,hfc⟩;refine wC ?_ ?_<;>intro c7
  ·obtain ⟨ch,hch⟩:=Yf (l:=x.changes) (k:=k') Zi;have hcw:=Xg (w:=Y7) (Zm hch);have hce:Y7 ch=1+ch.params.length+fW ch.when_+ch.args.length+eW ch.value:=rfl;have hcc:=fcount_le ch.when_;have hcs:=spread_le ch.when_;refine wI ic hch (fun pp2 hp2=>?_);refine wG ?_;refine Wy hp2.Change_params (fun P2 pn2 pc2 ipc=>?_);have lpc:=ipc.len;refine wI ic hch (fun pp3 hp3=>?_);refine wL hp3.Change_when_ ?_;intro cs3 hcs3;obtain ⟨w1,w2,w3,w4,rfl,hR3⟩:=Yu hcs3;refine wG ?_;refine Yt (Yip hR3 Zi) ?_;refine wC ?_ ?_<;>intro e1
   ·exact wR (h:=by exact ⟨rfl,true,rfl,Za⟩)
   refine wI ic hch (fun pp4 hp4=>?_);refine wL hp4.Change_when_ ?_;intro cs4 hcs4;obtain ⟨x1,x2,x3,x4,rfl,hR4⟩:=Yu hcs4;refine wG ?_;refine Yt (YdY hR4 Zi) ?_;refine wC ?_ ?_<;>intro e2
   ·exact wR (h:=by exact ⟨rfl,true,rfl,Za⟩)
   exact wP (h:=by exact ⟨k'+1,by omega,rfl,rfl,rfl,rfl,YH hfc hch Zi⟩)
  refine zW ?_;exact Ws ⟨k+1,by omega,rfl,rfl,rfl,rfl,YH hfit hx ⟨by omega,by omega,fun c hc=>by
   obtain ⟨i,hi⟩:=List.getElem?_of_mem hc;exact hfc i (by have:=(Zg hi).1;omega) c hi⟩⟩ Zi Zw (List.Sublist.cons _ (List.Sublist.refl _))
 refine zW ?_;exact ret1 rfl rfl Zb ⟨rfl,false,rfl,fun _=>⟨by omega,by omega,by omega,fun a ha=>by
  obtain ⟨i,hi⟩:=List.getElem?_of_mem ha;exact hfit i (by have:=(Zg hi).1;omega) a hi⟩⟩
theorem Ypo (h:DomainR fz d v1 v2 v3 v4 v5 v6) (hp:ProblemR fz p u1 u2 u3 u4 u5 u6 u7) (hd:domW d<=1000000000:=by omega) (hw:prbW p<=1000000000:=by omega):
 GFn prog 4 [ZD d v1 v2 v3 v4 v5 v6,ZP p u1 u2 u3 u4 u5 u6 u7] fz [] (fun r _ H'=>H'=[]/\∃ b,r=Zo b/\(b=false->Fit14 d p)):=by
 have h0:=h;have hp0:=hp;obtain ⟨⟨A1,n1,b1,rfl,i1⟩,⟨A2,n2,b2,rfl,i2⟩,⟨A3,n3,b3,rfl,i3⟩,⟨A4,n4,b4,rfl,i4⟩,⟨A5,n5,b5,rfl,i5⟩,⟨A6,n6,b6,rfl,i6⟩⟩:=h.sls;obtain ⟨⟨C1,m1,e1,rfl,j1⟩,⟨C2,m2,e2,rfl,j2⟩,⟨C3,m3,e3,rfl,j3⟩⟩:=hp.sls;obtain ⟨⟨U1,w1,z1,rfl,_⟩,⟨U2,w2,z2,rfl,_⟩,⟨U3,w3,z3,rfl,_⟩,⟨U4,w4,z4,rfl,_⟩⟩:=hp.goal.sls;refine zF Tryz.func4 Tryz.ntmps4 (fun w0=>?_);refine pX (fun g0=>?_);refine pY (fun g1=>?_);refine wK (q:=Ypp h0 hp0 hd hw) (h:=fun v1 fz1 H1 hle1 hR1=>?_);obtain ⟨rfl,b,rfl,hfit⟩:=hR1;cases b with
 | true=>
  exact wR (h:=by exact ⟨rfl,true,rfl,Za⟩)
 | false=>
  refine wC ?_ ?_<;>intro c1
  ·exact wR (h:=by exact ⟨rfl,true,rfl,Za⟩)
  refine wC ?_ ?_<;>intro c2
  ·exact wR (h:=by exact ⟨rfl,true,rfl,Za⟩)
  exact wR (h:=by exact ⟨rfl,false,rfl,fun _=>hfit rfl⟩)
end Go.Proofs.YtbdpaoikccabhaaGreatDoor
namespace Go.Proofs.YtbdpaoikccabhaaGreatDoor
variable {α:Type} {i:Nat} {s:Bs} {f:Formula} {d:Domain} {p:Problem} {E:EnvM} {K:Kn} {S:List Atom} {b:Bool}
theorem byte_of {b:UInt8} (h:s.data.toList[i]?=some b):i<s.size/\Ya2 s i=b.toNat:=by
 have hlt:i<s.size:=(Zg h).1;obtain ⟨c,h1,h2⟩:=Ybx hlt;refine ⟨hlt,?_⟩;rw [h2];have h3:s.data.toList[i]?=some c:=by
  have:s[i]?=s.data[i]?:=by
   rw [getElem?_pos s i hlt,Array.getElem?_eq_getElem (show i<s.data.size from hlt)];rfl
  rw [this] at h1;simpa using h1
 rw [h] at h3;injection h3 with h3
 rw [h3]
theorem YbC (h:Xk s):PlnS s:=by
 refine ⟨Nat.le_trans h.2.2.1 Zh,fun b hb=>?_⟩;obtain ⟨i,hi⟩:=List.getElem?_of_mem hb;obtain ⟨hlt,he⟩:=byte_of hi;have:=h.1 i hlt;unfold Yba LetP DigP at this;unfold PlnB;rw [he] at this;omega
theorem pln_var (h:VarP s):PlnS s:=by
 obtain ⟨h1,h2,h3,h4⟩:=h;refine ⟨Nat.le_trans h2 Zh,fun b hb=>?_⟩;obtain ⟨i,hi⟩:=List.getElem?_of_mem hb;obtain ⟨hlt,he⟩:=byte_of hi;cases i with
 | zero=>rw [he] at h3;unfold PlnB;omega
 | succ i=>
  have hx:(s.extract 1 s.size).data.toList[i]?=some b:=by
   rw [ByteArray.data_extract,Array.toList_extract];have hs:s.size=s.data.toList.length:=rfl;show (List.extract s.data.toList 1 s.size)[i]?=_;rw [List.extract,List.getElem?_take_of_lt Zi,List.getElem?_drop,Nat.add_comm];exact hi
  exact (YbC h4).2 b (Zm hx)
theorem Ymo (h:Yfm s):PlnS s:=h.elim YbC pln_var
theorem YlY:∀ (n:Nat) {f:Formula},SizeOf.sizeOf f<=n->HSh f->ShN f
 | 0,f,h,_=>by cases f;simp at h
 | n+1,f,h,hs=>.mk hs.same (fun h1=>hs.head h1) (fun k hk=>YlY n (by have:=Formula.kids_lt hk;omega) (hs.kid hk))
theorem HSh.join {op:Bs} {ns:List Formula} (hop:op=kAnd\/op=kOr) (h:∀ n∈ns,HSh n):HSh (joinF op ns):=by
 have a1:¬op=kSame:=by rcases hop with rfl | rfl<;>decide+kernel
 have a2:¬(op=kNot\/QuF op):=by rcases hop with rfl | rfl<;>(unfold QuF;decide+kernel)
 have a3:¬op=kAtom:=by rcases hop with rfl | rfl<;>decide+kernel
 refine .mk (fun e=>absurd e a1) (fun e=>absurd e a2) (fun e=>absurd e a3) (fun e=>absurd (.inl e) a2) (Z0 _) (fun k hk=>?_);have hk:k∈joinL op ns:=hk;unfold joinL at hk;obtain ⟨n,hn,hkn⟩:=List.mem_flatMap.1 hk;split at hkn
 ·exact (h n hn).kid hkn
 rw [List.mem_singleton] at hkn;subst hkn;exact h k hn
theorem HSh.cmp {op:Bs} {a b:Lx.Expr} (hop:op=kLt\/op=kLe\/op=kEq):HSh (cmpF op a b):=by
 have a1:¬op=kSame:=by rcases hop with rfl | rfl | rfl<;>decide+kernel
 have a2:¬(op=kNot\/QuF op):=by rcases hop with rfl | rfl | rfl<;>(unfold QuF;decide+kernel)
 have a3:¬op=kAtom:=by rcases hop with rfl | rfl | rfl<;>decide+kernel
 exact .mk (fun e=>absurd e a1) (fun e=>absurd e a2) (fun e=>absurd e a3) (fun e=>absurd (.inl e) a2) (Z0 _) (fun k hk=>by cases hk)
theorem HSh.zero:HSh Yds:=by
 have a1:¬Yds.op=kSame:=by decide+kernel
 have a2:¬(Yds.op=kNot\/QuF Yds.op):=by unfold QuF;decide+kernel
 have a3:¬Yds.op=kAtom:=by decide+kernel
 exact .mk (fun e=>absurd e a1) (fun e=>absurd e a2) (fun e=>absurd e a3) (fun e=>absurd (.inl e) a2) (Z0 _) (fun k hk=>by cases hk)
theorem kid_w {k:Formula} (h:k∈f.kids):fW k<=fW f:=by
 have:=Xg (w:=fW) h;rw [Ybu f];omega
theorem Ymu:∀ (n:Nat) {f:Formula} (sg:Bool),SizeOf.sizeOf f<=n->FOk f->fW f<=1500000->HSh (normM sg f)
 | 0,f,_,h,_,_=>by cases f;simp at h
 | n+1,f,sg,hsz,hok,hw=>by
  have hall:=WQ.1 hok;obtain ⟨⟨f1,f2,f3⟩,⟨k,hk,r1,r2,r3,r4⟩,hpar⟩:=hall.1;have ih:∀ (sg':Bool) (x:Formula),x∈f.kids->HSh (normM sg' x):=fun sg' x hx=>Ymu n sg' (by have:=Formula.kids_lt hx;omega) (hall.2.2 x hx) (Nat.le_trans (kid_w hx) hw)
  have hone:∀ sg':Bool,f.kids.length=1->HSh (headN (f.kids.map (normM sg'))):=fun sg' h1=>by
   obtain ⟨x,hx⟩:=List.length_eq_one_iff.1 h1;rw [hx];exact ih sg' x (by rw [hx];simp)
  have hmap:∀ sg':Bool,∀ x∈f.kids.map (normM sg'),HSh x:=fun sg' x hx=>by
   obtain ⟨y,hy,rfl⟩:=List.mem_map.1 hx;exact ih sg' y hy
  have hw2:=Ybu f;rw [WG];by_cases w1:f.op=kNot
  ·rw [if_pos w1];have e:WW f=some (0,false,1):=by
    unfold WW;rw [w1,if_neg (by decide+kernel),if_neg (by unfold CmpOp;decide+kernel),if_neg (by decide+kernel),if_pos rfl]
   rw [e] at hk;injection hk with hk
   subst hk;exact hone _ r3
  rw [if_neg w1];by_cases w2:f.op=kImply
  ·rw [if_pos w2];have e:WW f=some (0,false,2):=by
    unfold WW;rw [w2,if_neg (by decide+kernel),if_neg (by unfold CmpOp;decide+kernel),if_neg (by decide+kernel),if_neg (by decide+kernel),if_pos rfl]
   rw [e] at hk;injection hk with hk
   subst hk;have hl:f.kids.length=2:=r3;obtain ⟨x,y,hxy⟩:∃ x y,f.kids=[x,y]:=by
    match hf:f.kids,hl with
    | [x,y],_=>exact ⟨x,y,rfl⟩
   rw [hxy];refine HSh.join (by split<;>simp) (fun z hz=>?_);rcases List.mem_cons.1 hz with rfl | hz
   ·exact ih _ x (by rw [hxy];simp)
   rw [List.mem_singleton] at hz;subst hz;exact ih _ y (by rw [hxy];simp)
  rw [if_neg w2];by_cases w3:f.op=kAnd
  ·rw [if_pos w3];exact HSh.join (by split<;>simp) (hmap sg)
  rw [if_neg w3];by_cases w4:f.op=kOr
  ·rw [if_pos w4];exact HSh.join (by split<;>simp) (hmap sg)
  rw [if_neg w4];by_cases w5:QuF f.op
  ·rw [if_pos w5];have e:WW f=some (0,true,1):=by
    unfold WW;rcases w5 with w5 | w5
    ·rw [w5,if_neg (by decide+kernel),if_neg (by unfold CmpOp;decide+kernel),if_neg (by decide+kernel),if_neg (by decide+kernel),if_neg (by decide+kernel),if_pos (by simp)]
    rw [w5,if_neg (by decide+kernel),if_neg (by unfold CmpOp;decide+kernel),if_neg (by decide+kernel),if_neg (by decide+kernel),if_neg (by decide+kernel),if_pos (by simp)]
   rw [e] at hk;injection hk with hk
   subst hk;have hq:∀ op,op=kForall\/op=kExists->¬op=kSame/\¬op=kAtom/\¬op=kNot:=by
    rintro op (rfl | rfl)<;>decide+kernel
   have hop:QuF (if sg=true then f.op else if f.op=kForall then kExists else kForall):=by
    split
    ·exact w5
    split
    ·exact .inr rfl
    exact .inl rfl
   obtain ⟨q1,q2,q3⟩:=hq _ hop;refine .mk (fun e=>absurd e q1) (fun _ h=>by cases h) (fun e=>absurd e q2) (fun e=>absurd e q3) (by show f.params.length<=_;omega) (fun x hx=>?_);have hx:x∈ [headN (f.kids.map (normM sg))]:=hx;rw [List.mem_singleton] at hx;subst hx;exact hone _ r3
  rw [if_neg w5];by_cases w6:f.op=kLt
  ·rw [if_pos w6];split
   ·exact HSh.cmp (.inl rfl)
   exact HSh.cmp (.inr (.inl rfl))
  rw [if_neg w6];by_cases w7:f.op=kLe
  ·rw [if_pos w7];split
   ·exact HSh.cmp (.inr (.inl rfl))
   exact HSh.cmp (.inl rfl)
  rw [if_neg w7];by_cases w8:f.op=kEq
  ·rw [if_pos w8];split
   ·exact HSh.cmp (.inr (.inr rfl))
   have a1:¬kOr=kSame:=by decide+kernel
   have a2:¬(kOr=kNot\/QuF kOr):=by unfold QuF;decide+kernel
   have a3:¬kOr=kAtom:=by decide+kernel
   refine .mk (fun e=>absurd e a1) (fun e=>absurd e a2) (fun e=>absurd e a3) (fun e=>absurd (.inl e) a2) (Z0 _) (fun x hx=>?_);rcases List.mem_cons.1 hx with rfl | hx
   ·exact HSh.cmp (.inl rfl)
   rw [List.mem_singleton] at hx;subst hx;exact HSh.cmp (.inl rfl)
  rw [if_neg w8];have hao:f.op=kAtom\/f.op=kSame:=by
   unfold WW at hk;by_cases h0:f.op=kAtom\/f.op=kSame
   ·exact h0
   rw [if_neg h0,if_neg (fun h=>by unfold CmpOp at h;rcases h with h | h | h;exact w6 h;exact w7 h;exact w8 h),if_neg (fun h=>h.elim w3 w4),if_neg w1,if_neg w2,if_neg (show ¬(f.op=kForall\/f.op=kExists) from w5)] at hk;cases hk
  have e:k=(0,false,0):=by
   unfold WW at hk;rw [if_pos hao] at hk;injection hk with hk
   exact hk.symm
  subst e;have hk0:f.kids=[]:=List.eq_nil_of_length_eq_zero r3;have hn1:¬(f.op=kNot\/QuF f.op):=fun h=>h.elim w1 w5
  have hf:HSh f:=by
   refine .mk (fun e=>Nat.le_of_eq (f2 e).2.symm) (fun e=>absurd e hn1) (fun e=>⟨YbC (f1 e),by omega,fun t ht=>Ymo (f3 hao t ht)⟩) (fun e=>absurd (.inl e) hn1) Zi (fun x hx=>by rw [hk0] at hx;cases hx)
  cases sg with
  | true=>rw [if_pos rfl];exact hf
  | false=>
   rw [if_neg Zh];have a1:¬kNot=kSame:=by decide+kernel
   have a3:¬kNot=kAtom:=by decide+kernel
   refine .mk (fun e=>absurd e a1) (fun _ h=>by cases h) (fun e=>absurd e a3) (fun _ x hx=>?_) (Z0 _) (fun x hx=>?_)
   ·have hx:x∈ [f]:=hx;rw [List.mem_singleton] at hx;subst hx;exact hao
   have hx:x∈ [f]:=hx;rw [List.mem_singleton] at hx;subst hx;exact hf
theorem Yb5 (hw:fW f<=1500000):HSh (normV f):=by
 unfold normV;split
 ·rename_i h;exact Ymu _ true (Zs _) h.1 hw
 exact HSh.zero
theorem YmY {K:Kn} (hO:∀ o∈K.os,PlnS o.name) {most:Nat}:∀ (ps:List Param) (out:List (List Bs)),(∀ l∈out,∀ t∈l,PlnS t)->∀ l∈ps.foldl (Yea K most) out,∀ t∈l,PlnS t
 | [],_,h=>h
 | p::ps,out,h=>YmY hO ps _ (fun l hl t ht=>by
  unfold Yea at hl;obtain ⟨l0,h1,h2⟩:=List.mem_flatMap.1 (List.mem_of_mem_take hl);obtain ⟨o,ho,rfl⟩:=List.mem_map.1 h2;rcases List.mem_append.1 ht with ht | ht
  ·exact h l0 h1 t ht
  rw [List.mem_singleton] at ht;subst ht;obtain ⟨q,hq,e⟩:=Ylq ho;exact e ▸ hO q hq)
theorem Ypb {l:List Change} {c:Change} (h:c∈normC l):∃ c0∈l,c={c0 with when_:=normV c0.when_}:=by
 unfold normC at h;obtain ⟨c0,h1,rfl⟩:=List.mem_map.1 h;exact ⟨c0,(List.mem_filter.1 h1).1,rfl⟩
theorem YmV {l:List Change} (hok:YeG l) (hw:(l.map Y7).sum<=1400000:=by omega):∀ c∈normC l,CSh c:=by
 intro c hc;obtain ⟨c0,h0,rfl⟩:=Ypb hc;have h1:=Xg (w:=Y7) h0;have h2:Y7 c0=1+c0.params.length+fW c0.when_+c0.args.length+eW c0.value:=rfl;obtain ⟨⟨n1,n2⟩,_,_,_⟩:=hok c0 h0;exact ⟨Yb5 Zi,YbC n1,by show c0.args.length<=_;omega,fun t ht=>Ymo (n2 t ht),by show c0.params.length<=_;omega⟩
theorem Yk3 {l:List Change} (hw:(l.map Y7).sum<=1400000):l.length<=2000000/\∀ c∈l,fW c.when_<=1400000:=by
 refine ⟨?_,fun c hc=>?_⟩
 ·have:=XR (w:=Y7) (fun c=>by unfold Y7;omega) l;omega
 have h1:=Xg (w:=Y7) hc;have h2:Y7 c=1+c.params.length+fW c.when_+c.args.length+eW c.value:=rfl;omega
theorem andW (l:List Formula):fW (andF l)=1+(l.map fW).sum:=by
 rw [Ybu];show 1+0+0+0+(l.map fW).sum=_;omega
theorem apt_of (hc:(Y4 d p).2=0) (hd:domW d<=1300000) (hp:prbW p<=1300000):Apt d p:=by
 have hok:=Yh5 hc;obtain ⟨hL,hT64,hp6⟩:=YgE hok.lim;obtain ⟨_,_,d3,_,_,d6,d7⟩:=hok.dok.1;obtain ⟨_,_,p3,_,p5⟩:=hok.pok.2.1;have wA:∀ a∈d.actions,actW a<=1300000:=fun a ha=>by
  have:=Xg (w:=actW) ha;unfold domW at hd;omega
 have wD:∀ a∈d.duratives,durW a<=1300000:=fun a ha=>by
  have:=Xg (w:=durW) ha;unfold domW at hd;omega
 have hos:∀ o∈(knM d p).os,PlnS o.name:=fun o ho=>by
  rcases List.mem_append.1 ho with ho | ho
  ·have:=(d3 o ho).1;exact YbC (by simpa using this)
  have:=(p3 o ho).1;exact YbC (by simpa using this)
 have eA:∀ a:Action,actW a=1+a.params.length+fW a.pre+(a.changes.map Y7).sum:=fun _=>rfl
 have eD:∀ a:Durative,durW a=1+a.params.length+fW a.start+fW a.over+fW a.fin+(a.atStart.map Y7).sum+(a.atEnd.map Y7).sum:=fun _=>rfl
 refine ⟨fun a ha=>?_,⟨by have:=hL.a;omega,by have:=hL.u;omega,fun a ha=>?_,fun a ha=>?_,fun a ha=>?_⟩,hos,fun _ s hs=>?_⟩
 ·have h1:=Xg (w:=YcN) ha;have h2:YcN a=1+a.args.length:=rfl;have h3:=p5 a ha;unfold prbW at hp;exact ⟨YbC h3.1,by omega,fun t ht=>YbC (h3.2 t ht)⟩
 ·have h1:=wA a ha;have h2:=eA a;obtain ⟨h3,h4⟩:=Yk3 (l:=a.changes) Zi;exact ⟨by omega,by omega,h3,fun c hc=>Nat.le_trans (h4 c hc) Zh⟩
 ·have h1:=wD a ha;have h2:=eD a;obtain ⟨h3,h4⟩:=Yk3 (l:=a.atStart) Zi;obtain ⟨h5,h6⟩:=Yk3 (l:=a.atEnd) Zi;exact ⟨by omega,by omega,by omega,by omega,h3,h5,fun c hc=>Nat.le_trans (h4 c hc) Zh,fun c hc=>Nat.le_trans (h6 c hc) Zh⟩
 ·have h1:=wA a ha;have h2:=eA a;have h3:=YmV (d6 a ha).2.2.2.2;exact ⟨YlY _ (Zs _) (Yb5 Zi),fun c hc=>YlY _ (Zs _) (h3 c hc).when_⟩
 obtain ⟨s0,h0,rfl⟩:=List.mem_map.1 hs;have hargs:∀ a∈(YaF (knM d p) s0).arguments,a.length=s0.params.length/\∀ t∈a,PlnS t:=fun a ha=>
  ⟨Yff ha,YmY hos s0.params [[]] (by simp) a ha⟩
 rcases List.mem_append.1 h0 with h0 | h0
 ·obtain ⟨a,ha,rfl⟩:=List.mem_map.1 h0;have h1:=wA a ha;have h2:=eA a;exact ⟨Yb5 Zi,Yb5 Zi,fun c hc=>(by cases hc),YmV (d6 a ha).2.2.2.2,hargs⟩
 obtain ⟨a,ha,rfl⟩:=List.mem_map.1 h0;have h1:=wD a ha;have h2:=eD a;obtain ⟨_,_,_,_,_,o1,o2⟩:=d7 a ha;refine ⟨Yb5 ?_,Yb5 ?_,YmV o1,YmV o2,hargs⟩
 ·rw [andW];simp only [List.map_cons,List.map_nil,List.sum_cons,List.sum_nil];omega
 rw [andW];simp only [List.map_cons,List.map_nil,List.sum_cons,List.sum_nil];omega
theorem chsm_w {c:Change} (h:Y7 c<=100000000):ChSm c:=by
 unfold Y7 at h;exact ⟨by omega,by omega,YfA _ (Zs _) Zi,Yp4 _ (Zs _) Zi⟩
theorem YlI {l:List Change} (h:(l.map Y7).sum<=100000000):YqK l:=by
 have:=XR YlP l;exact ⟨by omega,fun c hc=>chsm_w (by have:=Xg (w:=Y7) hc;omega)⟩
theorem Yqk (hd:domW d<=1300000) (hp:prbW p<=1300000):ChkS d p:=by
 unfold domW at hd;unfold prbW at hp;have l3:=XR YjX d.predicates;have l4:=XR YmM d.functions;have l5:=XR actW_pos d.actions;have l6:=XR durW_pos d.duratives;have l7:=XR YkP p.init;have l8:=XR YhA p.values;have p3:∀ p∈d.predicates,p.params.length<=100000000:=fun p hp=>by have:=Xg (w:=YjY) hp;have e:YjY p=1+p.params.length:=rfl;omega
 have p4:∀ p∈d.functions,p.params.length<=100000000:=fun p hp=>by have:=Xg (w:=funW) hp;have e:funW p=1+p.params.length:=rfl;omega
 have p5:∀ x∈d.actions,actW x<=100000000:=fun p hp=>by have:=Xg (w:=actW) hp;omega
 have p6:∀ x∈d.duratives,durW x<=100000000:=fun p hp=>by have:=Xg (w:=durW) hp;omega
 refine ⟨⟨by omega,by omega,by omega,fun p hp=>Nat.le_trans (p3 p hp) Zh,by omega,fun p hp=>Nat.le_trans (p4 p hp) Zh,by omega,fun x hx=>?_,by omega,fun x hx=>?_⟩,⟨by omega,by omega,fun a ha=>?_,by omega,fun v hv=>?_,YfA _ (Zs _) Zi⟩,fun a ha=>Nat.le_trans (p5 a ha) Zh,fun a ha=>Nat.le_trans (p6 a ha) Zh,by omega⟩
 ·have:=p5 x hx;unfold actW at this;exact ⟨by omega,YfA _ (Zs _) Zi,YlI Zi⟩
 ·have:=p6 x hx;unfold durW at this;exact ⟨by omega,YfA _ (Zs _) Zi,YfA _ (Zs _) Zi,YfA _ (Zs _) Zi,YlI Zi,YlI Zi⟩
 ·have:=Xg (w:=YcN) ha;have e:YcN a=1+a.args.length:=rfl;omega
 have:=Xg (w:=Yb0) hv;have e:Yb0 v=1+YcN v.fluent:=rfl;have e2:YcN v.fluent=1+v.fluent.args.length:=rfl;omega
def bD:Bs:=⟨#[100]⟩
def bP:Bs:=⟨#[112]⟩
def bOn:Bs:=⟨#[111,110]⟩
def WO:Bs:=⟨#[115,101,101,110]⟩
def bKey:Bs:=⟨#[107,101,121]⟩
def YlR:Bs:=⟨#[108,111,111,107]⟩
def atmF (n:Bs):Formula:=.mk kAtom n [] [] [] []
def addC (k:Int) (n:Bs):Change:=⟨k,[],Xs,n,[],nilE⟩
def YdM:Durative:=⟨YlR,[],2,Xs,atmF bOn,Xs,[addC 1 bOn],[addC 1 WO,addC 2 bOn]⟩
def Xz:Domain:=⟨bD,[],[],[⟨bOn,[]⟩,⟨WO,[]⟩,⟨bKey,[]⟩],[],[],[YdM]⟩
def YaJ:Problem:=⟨bP,bD,[],[],[],atmF WO⟩
theorem nilP {p:α->Prop}:∀ x∈([]:List α),p x:=fun _ h=>by cases h
theorem Ynv (h1:0<s.size) (h2:s.size<=32) (h3:∀ b∈s.data.toList,LetP b.toNat) (h4:s.data.toList ∉ Ybl.map (·.data.toList)):Xk s:=by
 refine ⟨fun i hi=>.inl ?_,fun h=>by rw [h] at h1;exact absurd h1 Zh,h2,fun h=>h4 (List.mem_map.2 ⟨s,h,rfl⟩)⟩;obtain ⟨b,hb,hb2⟩:=Ybx (s:=s) (k:=i) hi;rw [hb2];refine h3 b ?_;have:=YmK hi;rw [getElem?_pos s i hi] at hb;injection hb with hb
 rw [hb] at this;exact Zm this
def WrdP (s:Bs):Prop:=0<s.size/\s.size<=32/\(∀ b∈s.data.toList,(97<=(b.toNat:Int)/\(b.toNat:Int)<=122)\/(48<=(b.toNat:Int)/\(b.toNat:Int)<=57)\/b∈SymL)/\¬PreP s Yb7/\¬DigP (Ya2 s 0)
instance {s:Bs}:Decidable (WrdP s):=inferInstanceAs (Decidable (_/\_))
theorem wd_ok (h:WrdP s):WordT s:=by
 obtain ⟨h1,h2,h3,h4,h5⟩:=h;refine ⟨fun h=>by rw [h] at h1;exact absurd h1 Zh,h2,h3,fun hn=>?_⟩;have h6:=hn.1 0 (by rw [YcP,if_neg h4];exact h1);rw [YcP,if_neg h4] at h6;exact h5 h6
theorem nD:Xk bD:=Ynv Zh Zh (by unfold LetP;decide) Zh
theorem nP:Xk bP:=Ynv Zh Zh (by unfold LetP;decide) Zh
theorem nOn:Xk bOn:=Ynv Zh Zh (by unfold LetP;decide) Zh
theorem nSeen:Xk WO:=Ynv Zh Zh (by unfold LetP;decide) Zh
theorem nKey:Xk bKey:=Ynv Zh Zh (by unfold LetP;decide) Zh
theorem nLook:Xk YlR:=Ynv Zh Zh (by unfold LetP;decide) Zh
theorem xl {ks:List Sexpr} (h:∀ k∈ks,XOk k):XOk (YK ks):=Ya8.2 ⟨.inr (.inr ⟨rfl,rfl,rfl⟩),h⟩
theorem xw (h:WordT s):XOk (Yi s):=Ya8.2 ⟨.inl ⟨rfl,h,rfl,rfl⟩,by intro k hk;cases hk⟩
theorem xc {k:Sexpr} {r:List Sexpr} (h:XOk k) (h2:∀ j∈r,XOk j):∀ j∈k::r,XOk j:=List.forall_mem_cons.2 ⟨h,h2⟩
theorem x0:∀ j∈([]:List Sexpr),XOk j:=nilP
theorem xk {r:List Sexpr} (h:WrdP s) (h2:∀ j∈r,XOk j):∀ j∈Yi s::r,XOk j:=xc (xw (wd_ok h)) h2
theorem opA (l:List Formula):(andF l).op=kAnd:=rfl
theorem opT:Xs.op=kAnd:=rfl
theorem opM (n:Bs):(atmF n).op=kAtom:=rfl
theorem Ye8:Xf Xs=YK []:=by
 rw [YfY];have h1:¬kAnd=kAtom:=by decide
 have h2:¬kAnd=kSame:=by decide
 have h3:¬CmpOp kAnd:=by unfold CmpOp;decide
 have h4:¬(kAnd=kForall\/kAnd=kExists):=by decide
 simp [Xs,Formula.op,Formula.kids,h1,h2,h3,h4]
theorem Yc5 (n:Bs):Xf (atmF n)=Wn n []:=by
 rw [YfY,opM,if_pos rfl];rfl
theorem Ykr {l:List Formula} (h:l≠ []):Xf (andF l)=YK (Yi kAnd::l.map Xf):=by
 rw [YfY];have h1:¬kAnd=kAtom:=by decide
 have h2:¬kAnd=kSame:=by decide
 have h3:¬CmpOp kAnd:=by unfold CmpOp;decide
 have h4:¬(kAnd=kForall\/kAnd=kExists):=by decide
 simp [andF,Formula.op,Formula.kids,h1,h2,h3,h4,h]
theorem YlB {l:List Formula} (h:∀ k∈l,FOk k):FOk (andF l):=by
 have h1:¬kAnd=kAtom:=by decide
 have h2:¬kAnd=kSame:=by decide
 have h3:¬CmpOp kAnd:=by unfold CmpOp;decide
 refine WQ.2 ⟨⟨⟨fun h=>absurd h h1,fun h=>absurd h h2,fun h=>absurd h (by rw [opA];decide)⟩,⟨(0,false,l.length),?_,fun _ _=>⟨rfl,rfl⟩,rfl,rfl,fun _=>rfl⟩,nilP⟩,nilP,h⟩;rw [WW,opA,if_neg Zh,if_neg h3,if_pos (.inl rfl)];rfl
theorem YpK {n:Bs} (h:Xk n):FOk (atmF n):=by
 refine WQ.2 ⟨⟨⟨fun _=>h,fun h=>absurd h (by rw [opM];decide),fun _=>nilP⟩,⟨(0,false,0),?_,fun h=>absurd rfl h,rfl,rfl,fun _=>rfl⟩,nilP⟩,nilP,nilP⟩;rw [WW,opM,if_pos (.inl rfl)]
theorem xOn:XOk (Wn bOn []):=xl (xk (by decide+kernel) x0)
theorem xSeen:XOk (Wn WO []):=xl (xk (by decide+kernel) x0)
theorem YdP:FVal Xs:=⟨YlB (l:=[]) nilP,by rw [Ye8];exact ⟨xl x0,by decide,by decide⟩⟩
theorem fv_on:FVal (atmF bOn):=⟨YpK nOn,by rw [Yc5];exact ⟨xOn,by decide,by decide⟩⟩
theorem fv_seen:FVal (atmF WO):=⟨YpK nSeen,by rw [Yc5];exact ⟨xSeen,by decide,by decide⟩⟩
theorem xAnd {r:List Sexpr} (h:∀ j∈r,XOk j):XOk (YK (Yi kAnd::r)):=xl (xk (by decide+kernel) h)
theorem fv_a1:FVal (andF [Xs]):=⟨YlB (List.forall_mem_cons.2 ⟨YdP.1,nilP⟩),by
 rw [Ykr (by simp)];simp only [List.map_cons,List.map_nil,Ye8];exact ⟨xAnd (xc (xl x0) x0),by decide,by decide⟩⟩
theorem fv_a3:FVal (andF [Xs,atmF bOn,Xs]):=⟨YlB (List.forall_mem_cons.2 ⟨YdP.1,List.forall_mem_cons.2 ⟨fv_on.1,List.forall_mem_cons.2 ⟨YdP.1,nilP⟩⟩⟩),by
 rw [Ykr (by simp)];simp only [List.map_cons,List.map_nil,Ye8,Yc5];exact ⟨xAnd (xc (xl x0) (xc xOn (xc (xl x0) x0))),by decide,by decide⟩⟩
theorem ch_ok {k:Int} {n:Bs} (hk:k=1\/k=2) (hn:Xk n):ChOk (addC k n):=⟨⟨hn,nilP⟩,.inl ⟨hk,rfl⟩,.inl rfl,nilP⟩
theorem lampU_ok:YnO YdM:=⟨nLook,nilP,YdP,fv_on,YdP,List.forall_mem_cons.2 ⟨ch_ok (.inl rfl) nOn,nilP⟩,List.forall_mem_cons.2 ⟨ch_ok (.inl rfl) nSeen,List.forall_mem_cons.2 ⟨ch_ok (.inr rfl) nOn,nilP⟩⟩⟩
theorem lampD_ok:DomOk Xz:=⟨nD,nilP,nilP,List.forall_mem_cons.2 ⟨⟨nOn,nilP⟩,List.forall_mem_cons.2 ⟨⟨nSeen,nilP⟩,List.forall_mem_cons.2 ⟨⟨nKey,nilP⟩,nilP⟩⟩⟩,nilP,nilP,List.forall_mem_cons.2 ⟨lampU_ok,nilP⟩⟩
theorem lampP_ok:PrbOk YaJ:=⟨nP,nD,nilP,nilP,nilP⟩
theorem chX_1 (n:Bs):chX (addC 1 n)=Wn n []:=by simp [chX,chX2,chX1,addC,Num5]
theorem chX_2 (n:Bs):chX (addC 2 n)=YK [Yi kNot,Wn n []]:=by simp [chX,chX2,chX1,addC,Num5]
theorem atm_ne (n:Bs):¬atmF n=Xs:=fun h=>absurd (congrArg Formula.op h) (by show ¬kAtom=kAnd;decide)
theorem durX_l:durX YdM=YK [Yi Y8,Yi YlR,Yi W0,numE 2,Yi Ykk,Wn bOn [],Yi Ydm,YK [Yi kAnd,Wn bOn []],Yi Ykl,YK [Yi kAnd,Wn WO [],YK [Yi kNot,Wn bOn []]]]:=by
 simp [durX,YdM,opt,effX,chX_1,chX_2,atm_ne,Yc5]
theorem domX_l:domX Xz=YK [Yi YQ,YK [Yi Xn,Yi bD],YK [Yi Yac,YK [Yi bOn],YK [Yi WO],YK [Yi bKey]],durX YdM]:=by
 simp [domX,Xz,grp,YaA,YiE]
theorem Ypu:XVal (domX Xz):=by
 rw [domX_l,durX_l];refine ⟨?_,by decide,by decide⟩;refine xl (xk (by decide+kernel) (xc (xl (xk (by decide+kernel) (xk (by decide+kernel) x0))) (xc (xl (xk (by decide+kernel) (xc xOn (xc xSeen (xc (xl (xk (by decide+kernel) x0)) x0))))) (xc ?_ x0))));refine xl (xk (by decide+kernel) (xk (by decide+kernel) (xk (by decide+kernel) (xc ?_ (xk (by decide+kernel) (xc xOn (xk (by decide+kernel) (xc (xAnd (xc xOn x0)) (xk (by decide+kernel) (xc (xAnd (xc xSeen (xc (xl (xk (by decide+kernel) (xc xOn x0))) x0))) x0))))))))));exact Ya8.2 ⟨.inr (.inl ⟨rfl,rfl,rfl,by unfold YeC;decide⟩),nilP⟩
theorem prbX_l:prbX YaJ=YK [Yi YQ,YK [Yi XI,Yi bP],YK [Yi YZ,Yi bD],YK [Yi Ydw,Wn WO []]]:=by
 have h:¬(kAtom=kAnd):=by decide
 simp [prbX,YaJ,grp,YaA,YnJ,atmF,Formula.op,h];rw [show Xf (Formula.mk kAtom WO [] [] [] [])=_ from Yc5 WO]
theorem Ypt:XVal (prbX YaJ):=by
 rw [prbX_l];exact ⟨xl (xk (by decide+kernel) (xc (xl (xk (by decide+kernel) (xk (by decide+kernel) x0))) (xc (xl (xk (by decide+kernel) (xk (by decide+kernel) x0))) (xc (xl (xk (by decide+kernel) (xc xSeen x0))) x0)))),by decide,by decide⟩
theorem e1:¬WO=bOn:=by decide
theorem e2:¬bKey=bOn:=by decide
theorem e3:¬bKey=WO:=by decide
theorem l_names:YaX Xz []=none:=by simp [YaX,YgA,Yfw,Yfv,Xz,nmd,repM,e1,e2,e3]
theorem l_tw:¬TwP [] (parN []):=fun ⟨k,x,h,_⟩=>by simp [parN] at h
theorem l_ex:ExP [] []:=nilP
theorem l_atom {n:Bs} (h:n=bOn\/n=WO):atomM Xz [] [] n []=0:=by
 have h1:fstP Xz.predicates n=some ⟨n,[]⟩:=by
  rcases h with rfl | rfl
  ·simp [fstP,Xz]
  simp [fstP,Xz,Ne.symm e1]
 rw [atomM,h1];simp [YlS,Y9]
theorem l_true:formM Xz [] [] Xs=0:=by
 have h4:¬(YkW kAnd):=by unfold YkW;decide
 rw [YfZ,if_neg Zh,if_neg (by show ¬ownM Xz [] [] kAnd [] []≠0;rw [ownM,if_neg Zh,if_neg h4];decide)];rw [if_neg (by show ¬exprML Xz [] _ []≠0;rw [exprML];decide)];show formML Xz [] _ []=0;rw [formML]
theorem l_lit:LitP Xs:=YmC rfl |>.2 nilP
theorem l_atm {n:Bs} (h:n=bOn\/n=WO):formM Xz [] [] (atmF n)=0:=by rw [YfZ,opM,if_pos rfl];exact l_atom h
theorem l_litA (n:Bs):LitP (atmF n):=(YmB (by show ¬kAtom=kNot;decide) (by show ¬kAtom=kAnd;decide)).2 (.inl rfl)
theorem l_ch {k:Int} {n:Bs} (hk:k=1\/k=2) (h:n=bOn\/n=WO):YaO Xz [] [] (addC k n) true=0:=by
 have hp:Yib (addC k n):=⟨rfl,rfl⟩;have hn:¬NumC (addC k n):=fun h=>by rcases hk with rfl | rfl;exact h.1 rfl;exact h.2 rfl
 rw [Ym0 (vars:=[]) (fun h=>h.1 hp) l_tw l_ex,if_neg (by show ¬formM Xz [] [] Xs≠0;rw [l_true];decide),if_pos hn];exact l_atom h
theorem long_t:¬LongP Xs:=by rw [Yed];simp [Xs,Formula.params,Formula.kids]
theorem long_a (n:Bs):¬LongP (atmF n):=by rw [Yed];simp [atmF,Formula.params,Formula.kids]
theorem YmE:(Y4 Xz YaJ).2=0:=by
 have ho:objsM Xz YaJ=[]:=rfl;have hl:¬LargeM Xz YaJ []:=by
  simp [LargeM,Xz,YaJ,YdM,YnZ,Yhy,addC,long_t,long_a]
 have hn:newM Xz.types=0:=by
  show newM []=0;rw [newM,if_neg l_tw];simp
 have h0:(stepM Xz [] YaJ 0).2=0:=by simp [stepM,l_names]
 have h1:(stepM Xz [] YaJ 1).2=0:=by simp [stepM,YbE,Xz,YdM,Y9,l_tw]
 have h2:(stepM Xz [] YaJ 2).2=0:=by simp [stepM,YbE,Xz,YdM,Y9,l_ex]
 have h3:(stepM Xz [] YaJ 3).2=0:=rfl;have h4:(stepM Xz [] YaJ 4).2=0:=by simp [stepM,numsL,Xz,YdM,Y9,Yhx]
 have h5:(stepM Xz [] YaJ 5).2=0:=by
  have a1:X9 Xz [] [] [addC 1 bOn] true=0:=by rw [X9,Yav,if_pos (l_ch (.inl rfl) (.inl rfl)),Yav]
  have a2:X9 Xz [] [] [addC 1 WO,addC 2 bOn] true=0:=by rw [X9,Yav,if_pos (l_ch (.inl rfl) (.inr rfl)),Yav,if_pos (l_ch (.inr rfl) (.inl rfl)),Yav]
  have a3:YaB Xz [] [] Xs=0:=by rw [YaB,if_pos l_lit];exact l_true
  have a4:YaB Xz [] [] (atmF bOn)=0:=by rw [YaB,if_pos (l_litA _)];exact l_atm (.inl rfl)
  show (Y9 idN (YaR Xz [])).2=0;have:YaR Xz []=durL Xz [] YdM:=by simp [YaR,Xz]
  rw [this];simp only [durL,YdM,a1,a2,a3,a4];rfl
 have h6:(stepM Xz [] YaJ 6).2=0:=by simp [stepM,W8,Xz,YaJ,Yav,Yih]
 have h7:(stepM Xz [] YaJ 7).2=0:=by
  have a:YaB Xz [] [] YaJ.goal=0:=by show YaB Xz [] [] (atmF WO)=0;rw [YaB,if_pos (l_litA _)];exact l_atm (.inr rfl)
  have e:(if Xz.duratives=[] then formM Xz [] [] YaJ.goal else YaB Xz [] [] YaJ.goal)=0:=by rw [if_neg (by simp [Xz])];exact a
  simp only [stepM,Ykp,e,ne_eq,not_true_eq_false,if_false]
 rw [Y4,ho,if_neg (fun h=>h ⟨lampD_ok,Ypu⟩),if_neg (fun h=>h ⟨fv_seen,lampP_ok,Ypt⟩),if_neg hl,if_neg (fun h=>h hn)];simp only [Yep,h0,h1,h2,h3,h4,h5,h6,h7,if_true,Nat.zero_add,Nat.reduceAdd]
theorem Ypr:domW Xz<=1300000:=by decide
theorem Ypq:prbW YaJ<=1300000:=by decide
theorem YmF:Apt Xz YaJ:=apt_of YmE Ypr Ypq
theorem Ykg:ChkS Xz YaJ:=Yqk Ypr Ypq
theorem Ygx (l:List Formula):normM true (andF l)=joinF kAnd (l.map (normM true)):=by
 rw [WG,opA,if_neg Zh,if_neg Zh,if_pos rfl];rfl
theorem Ypa (n:Bs):normM true (atmF n)=atmF n:=by
 have h:¬QuF kAtom:=by unfold QuF;decide
 rw [WG,opM,if_neg Zh,if_neg Zh,if_neg Zh,if_neg Zh,if_neg h,if_neg Zh,if_neg Zh,if_neg Zh,if_pos rfl]
theorem YeZ:normM true Xs=Xs:=Ygx []
theorem norm_0:normV Xs=Xs:=by rw [normV,if_pos YdP,YeZ]
theorem norm_1:normV (andF [Xs])=Xs:=by rw [normV,if_pos fv_a1,Ygx];simp only [List.map_cons,List.map_nil,YeZ];simp [joinF,joinL,Xs,Formula.op,Formula.kids]
theorem norm_3:normV (andF [Xs,atmF bOn,Xs])=andF [atmF bOn]:=by
 have h:¬kAtom=kAnd:=by decide
 rw [normV,if_pos fv_a3,Ygx];simp only [List.map_cons,List.map_nil,YeZ,Ypa];simp [joinF,joinL,Xs,atmF,andF,Formula.op,Formula.kids,h]
def aOn:Atom:=⟨bOn,[]⟩
def Yez:Atom:=⟨WO,[]⟩
theorem YiT (K:Kn) (S:List Atom) (E:EnvM):holdsM K S E Xs=true:=by
 rw [YS,opT,if_neg Zh,if_neg Zh,if_neg Zh,if_pos rfl];show allH K S E []=true;rw [allH]
theorem Yly (K:Kn) (S:List Atom) (E:EnvM):holdsM K S E (andF [atmF bOn])=decide (aOn∈S):=by
 rw [YS,opA,if_neg Zh,if_neg Zh,if_neg Zh,if_pos rfl];show allH K S E [atmF bOn]=_;rw [allH,allH,Bool.and_true,YS,opM,if_pos rfl];rfl
def s0:Schema:=⟨YlR,[],Xs,andF [atmF bOn],normV (andF [atmF bOn]),Xs,[addC 1 bOn],[addC 1 WO],false,[[]]⟩
theorem sch_l (K:Kn):schL K Xz=[s0]:=by
 have c1:normC [addC 1 bOn]=[addC 1 bOn]:=by simp [normC,addC,norm_0]
 have c2:normC [addC 1 WO,addC 2 bOn]=[addC 1 WO]:=by simp [normC,addC,norm_0]
 simp [schL,schB,Xz,YdM,schD,YaF,c1,c2,norm_1,norm_3,YcF,s0]
theorem Yqw {n:Bs}:X8 K [addC 1 n] E S=if (⟨n,[]⟩:Atom)∈S then (S,false) else (S++ [⟨n,[]⟩],true):=by
 simp only [X8,List.foldl_cons,List.foldl_nil,addC,addM,YiT,bndA,List.map_nil];by_cases h:(⟨n,[]⟩:Atom)∈S<;>simp [h]
theorem Ylf {s:Schema} {d:Bool} (h:s.arguments=[[]]):Xu K [s] S [[b]] [[d]]=⟨(Xq K s [] S b d).S,[[(Xq K s [] S b d).b]],[[(Xq K s [] S b d).d]],(Xq K s [] S b d).n⟩:=by
 simp [Xu,rndN,stepW,rowN,Ynh,h]
theorem on_ne:¬Yez=aOn:=fun h=>e1 (congrArg Atom.name h)
theorem inst_1 (K:Kn):Xq K s0 [] [] false false=⟨[aOn],true,false,true⟩:=by
 have e:s0.early=[addC 1 bOn]:=rfl;have l:s0.late=[addC 1 WO]:=rfl;have s:s0.start=Xs:=rfl;have a:s0.all=andF [atmF bOn]:=rfl;simp [Xq,e,l,s,a,YiT,Yly,Yqw,aOn]
theorem inst_2 (K:Kn):Xq K s0 [] [aOn] true false=⟨[aOn,Yez],true,true,true⟩:=by
 have e:s0.early=[addC 1 bOn]:=rfl;have l:s0.late=[addC 1 WO]:=rfl;have s:s0.start=Xs:=rfl;have a:s0.all=andF [atmF bOn]:=rfl;have o:=on_ne;simp only [aOn,Yez] at o;simp [Xq,e,l,s,a,YiT,Yly,Yqw,aOn,Yez,e1]
theorem inst_3 (K:Kn):Xq K s0 [] [aOn,Yez] true true=⟨[aOn,Yez],true,true,false⟩:=by
 have e:s0.early=[addC 1 bOn]:=rfl;have l:s0.late=[addC 1 WO]:=rfl;have s:s0.start=Xs:=rfl;have a:s0.all=andF [atmF bOn]:=rfl;simp [Xq,e,l,s,a,YiT,Yly,Yqw,aOn,Yez]
theorem exp_l (K:Kn):expM K Xz []=⟨[aOn,Yez],[[true]],[[true]],false⟩:=by
 have h0:exN0 [s0]=[[false]]:=rfl;have r1:=Ylf (K:=K) (s:=s0) (S:=[]) (b:=false) (d:=false) rfl;have r2:=Ylf (K:=K) (s:=s0) (S:=[aOn]) (b:=true) (d:=false) rfl;have r3:=Ylf (K:=K) (s:=s0) (S:=[aOn,Yez]) (b:=true) (d:=true) rfl;rw [inst_1] at r1;rw [inst_2] at r2;rw [inst_3] at r3;rw [expM,sch_l,h0,exM];rw [show meas (totB [s0]) (totB [s0]) ⟨[],[[false]],[[false]],false⟩+1=4097+1+1+1 from rfl];rw [Yeu (by rw [r1];simp),r1,Yeu (by rw [r2];simp),r2,Yi8 (.inl (by rw [r3])),r3]
theorem Yps {S0:List Atom} (h:YnY S0 (YfL YaJ.init)):S0=[]:=List.eq_nil_iff_forall_not_mem.2 fun a ha=>by
 have:=Yei.1 ((h.2 a).1 ha);cases this
theorem lamp_E:Yah Xz YaJ []=0:=by
 rw [Yah,if_neg (fun h=>h YmE),expE];have hs:schE (knM Xz YaJ) Xz=0:=by
  rw [schE,sch_l,if_neg (by show ¬4096<1;decide),if_neg];rintro ⟨s,h,hb⟩;rw [List.mem_singleton] at h;subst h;exact absurd hb.1 Zh
 rw [if_neg (fun h=>h hs),exp_l,if_neg (by show ¬4096<2;decide)]
theorem lamp_l {l:List Atom} (h:l.Perm (expM K Xz []).S) (hs:Ydd l):l=[aOn,Yez]:=by
 rw [exp_l] at h;have hc:cmpA aOn Yez<0:=by decide+kernel
 have h2:l.length=2:=h.length_eq
 match l,h2 with
 | [a,b],_=>
  have ha:a=aOn\/a=Yez:=by simpa using h.mem_iff.1 (List.mem_cons_self ..)
  have hd:([aOn,Yez]:List Atom).Nodup:=by simp;exact fun h=>on_ne h.symm
  have hn:=h.nodup_iff.2 hd;have hb:b=aOn\/b=Yez:=by simpa using h.mem_iff.1 (List.mem_cons_of_mem _ (List.mem_cons_self ..))
  rcases ha with rfl | rfl
  ·rcases hb with rfl | rfl
   ·simp at hn
   rfl
  rcases hb with rfl | rfl
  ·exact absurd hc (hs 0 1 _ _ Zh rfl rfl)
  simp at hn
theorem lamp_i (K:Kn):YdN (schL K Xz) (expM K Xz []).D=[(YlR,[])]:=by rw [sch_l,exp_l];rfl
theorem fmC_of (h:FVal f) (hw:fW f<=100000000):FmC f:=⟨hw,Yo9 h,by have:=normV_w h;omega⟩
theorem actF_of {a:Action} (hok:YnX a) (hf:FitA a) (hw:actW a<=100000000):ActF a:=by
 have e:actW a=1+a.params.length+fW a.pre+(a.changes.map Y7).sum:=rfl;obtain ⟨_,_,_,hp,hc⟩:=hok;have hcw:∀ c∈a.changes,1+c.params.length+fW c.when_+c.args.length+eW c.value<=100000000:=fun c h=>by
  have h1:=Xg (w:=Y7) h;have h2:Y7 c=1+c.params.length+fW c.when_+c.args.length+eW c.value:=rfl;omega
 refine ⟨⟨by have:=hf.params;omega,by have:=hf.many;omega,fmC_of hp Zi,fun c h=>⟨by have:=hcw c h;omega,by have:=hcw c h;omega,fun hn=>?_⟩⟩,fun c h=>⟨hf.c c h,fmC_of ?_ (by have:=hcw c h;omega),by have:=hcw c h;omega⟩,hf.many⟩
 ·obtain ⟨_,hk,_,_⟩:=hc c h;rcases hk with ⟨hk,_⟩ | ⟨_,hk⟩
  ·unfold numC at hn;omega
  exact Yoa _ (Zs _) hk.1
 obtain ⟨_,_,hwn,_⟩:=hc c h;rcases hwn with hwn | hwn
 ·rw [hwn];exact YdP
 exact hwn
theorem actsF_of (hc:(Y4 d p).2=0) (hf:Fit14 d p) (hd:domW d<=100000000):∀ a∈d.actions,ActF a:=fun a ha=>by
 have hok:=(Yh5 hc).dok.1;have hw:actW a<=domW d:=by
  have:=Xg (w:=actW) ha;unfold domW;omega
 exact actF_of (hok.2.2.2.2.2.1 a ha) (hf.a a ha) Zi
theorem wb_of (hp:prbW p<=1300000):WB 1300000 ⟨p.init,p.values⟩:=by
 have e:prbW p=1+p.objects.length+(p.init.map YcN).sum+(p.values.map Yb0).sum+fW p.goal:=rfl;have h1:=XR (w:=YcN) (fun a=>by unfold YcN;omega) p.init;have h2:=XR (w:=Yb0) (fun a=>by unfold Yb0;omega) p.values;exact
  {na:=by show p.init.length<=_;omega
   nv:=by show p.values.length<=_;omega
   a:=fun a ha=>by
    have:=Xg (w:=YcN) (show a∈p.init from ha);have e2:YcN a=1+a.args.length:=rfl;omega
   v:=fun v hv=>by
    have:=Xg (w:=Yb0) (show v∈p.values from hv);have e2:Yb0 v=1+(1+v.fluent.args.length):=rfl;omega}
end Go.Proofs.YtbdpaoikccabhaaGreatDoor
namespace Go.Proofs.YtbdpaoikccabhaaGreatDoor
variable {d:Domain} {fz:FZ} {p:Problem} {u1 u2 u3 u4 u5 u6 u7 v1 v2 v3 v4 v5 v6:Value} {M:Mn} {k:Nat}
theorem YpF {nb:Nat} (hM:MaxF fz) (hD:DomainR fz d v1 v2 v3 v4 v5 v6) (hP:ProblemR fz p u1 u2 u3 u4 u5 u6 u7) (hS:ChkS d p) (h6:(objsM d p).length<=6) (hWB:WB nb ⟨p.init,p.values⟩) (hnb:nb<=1900000):
 GFn prog 6 [ZD d v1 v2 v3 v4 v5 v6,ZP p u1 u2 u3 u4 u5 u6 u7] fz []
  (fun r fz' H'=>H'=[]/\∃ v W',r=.tuple #[v,errV (Y4 d p).2]/\WdR fz' W' v/\((Y4 d p).2=0->WB nb W'/\(∀ x,x∈W'.atoms↔x∈p.init)/\∃ l,SortedBy cmpA l/\W'.atoms=cptM l)):=by
 have hD0:=hD;have hP0:=hP;obtain ⟨⟨A1,n1,b1',rfl,i1⟩,⟨A2,n2,b2',rfl,i2⟩,⟨A3,n3,b3,rfl,i3⟩,⟨A4,n4,b4,rfl,i4⟩,⟨A5,n5,b5,rfl,i5⟩,⟨A6,n6,b6,rfl,i6⟩⟩:=hD.sls;obtain ⟨⟨B1,m1,d1,rfl,j1⟩,⟨B2,m2,d2,rfl,j2⟩,⟨B3,m3,d3,rfl,j3⟩⟩:=hP.sls;obtain ⟨⟨B4,m4,d4,rfl,_⟩,⟨B5,m5,d5,rfl,_⟩,⟨B6,m6,d6,rfl,_⟩,⟨B7,m7,d7,rfl,_⟩⟩:=hP.goal.sls;refine zF Tryz.func6 Tryz.ntmps6 (fun w0=>?_);refine pX (fun g2=>?_);refine pY (fun g3=>?_);refine zWO ?_;intros;refine zV ?_;rename_i g4;refine Yd (Yk [] [_,_,_] Zz (Ylt hM hD0 hP0 hS h6) (fun v7 fz7 H7 hle7 hR7=>?_));obtain ⟨rfl,vm,rfl,_⟩:=hR7;rw [List.nil_append];by_cases hc:(Y4 d p).2=0;rotate_left 1
 ·rw [YD hc];refine zV ?_;exact Ybk T (vs:=[.agg #[Zn,Zn],.iface 88 (Zk (Y4 d p).2)]) ⟨⟨_,_,0,_,_,_,rfl,rfl,rfl,rfl,rfl,rfl⟩,rfl,trivial⟩ (fun fz3 hle3 hf3=>⟨rfl,_,⟨[],[]⟩,rfl,⟨_,_,_,_,_,_,rfl,Sl.nil,Sl.nil⟩,fun h=>absurd h hc⟩)
 rw [hc,show errV 0=.nilIface from rfl];refine zV ?_;refine Yd (Yk [] [_,_,_] Zz (Yn5 (W:=⟨p.init,p.values⟩) ⟨_,_,_,_,_,_,rfl,j2.mono hle7,j3.mono hle7⟩ ⟨by have:=hWB.na;omega,by have:=hWB.nv;omega,hWB.a,hWB.v⟩) (fun v8 fz8 H8 hle8 hR8=>?_));obtain ⟨rfl,W',hW',⟨lw,hp1,hs1,he1⟩,hp2⟩:=hR8;have hW0:=hW';obtain ⟨C1,k1,q1,C2,k2,q2,rfl,_,_⟩:=hW';refine zV ?_;refine Ybk T (vs:=[.agg #[Zc C1 k1 q1,Zc C2 k2 q2],.nilIface]) ⟨⟨_,_,0,_,_,_,rfl,rfl,rfl,rfl,rfl,rfl⟩,rfl,trivial⟩ (fun fz9 hle9 hf9=>⟨rfl,_,W',rfl,hW0.mono hle9,fun _=>⟨?_,fun x=>?_,lw,hs1,he1⟩⟩)
 ·have hd:=Yf2 p.values [];have hcl:=Yjd lw lw.length;have hpl:lw.length=p.init.length:=hp1.length_eq;have b1:p.init.length<=nb:=hWB.na;have b2:p.values.length<=nb:=hWB.nv;exact
   {na:=by rw [he1];show (cpt lw lw.length).length<=_;omega
    nv:=by
     rw [hp2.length_eq];have h2:(dedV p.values).length<=0+p.values.length:=hd.2;show (dedV p.values).length<=_;omega
    a:=fun y hy=>by
     rw [he1,Yf3,hp1.mem_iff] at hy;exact hWB.a y hy
    v:=fun y hy=>by
     rw [hp2.mem_iff] at hy;rcases hd.1 y hy with h | h
     ·cases h
     exact hWB.v y h}
 rw [he1,Yf3,hp1.mem_iff]
def instA (M:Mn) (a:Action):List StepM:=(tupM M a.params).map fun t=>(a.name,t)
def YfK (M:Mn) (l:List Action):List StepM:=l.flatMap (instA M)
theorem YnF {l:List Action} {a:Action} (h:l[k]?=some a):YfK M (l.take (k+1))=YfK M (l.take k)++instA M a:=by
 unfold YfK;rw [List.take_add_one,h,List.flatMap_append];simp
theorem sinst_f (hM:MaxF fz) (hD:DomainR fz d v1 v2 v3 v4 v5 v6) (hP:ProblemR fz p u1 u2 u3 u4 u5 u6 u7) (hS:ChkS d p) (h6:(objsM d p).length<=6) (h8:d.actions.length<=8) (h3:∀ a∈d.actions,a.params.length<=3):
 GFn prog 9 [ZD d v1 v2 v3 v4 v5 v6,ZP p u1 u2 u3 u4 u5 u6 u7] fz []
  (fun r fz' H'=>∃ v,r=.tuple #[v,errV (Y4 d p).2]/\((Y4 d p).2≠0->v=Zn/\H'=[])/\((Y4 d p).2=0->∃ n,n<=1728/\Grow YfG 54 fz' v n H' (YfK (mnM d p) d.actions))):=by
 have hD0:=hD;have hP0:=hP;obtain ⟨⟨A1,n1,b1',rfl,i1⟩,⟨A2,n2,b2',rfl,i2⟩,⟨A3,n3,b3,rfl,i3⟩,⟨A4,n4,b4,rfl,i4⟩,⟨A5,n5,b5,rfl,i5⟩,⟨A6,n6,b6,rfl,i6⟩⟩:=hD.sls;obtain ⟨⟨B1,m1,d1,rfl,j1⟩,⟨B2,m2,d2,rfl,j2⟩,⟨B3,m3,d3,rfl,j3⟩⟩:=hP.sls;obtain ⟨⟨B4,m4,d4,rfl,_⟩,⟨B5,m5,d5,rfl,_⟩,⟨B6,m6,d6,rfl,_⟩,⟨B7,m7,d7,rfl,_⟩⟩:=hP.goal.sls;have l5:=i5.len;refine zF Tryz.func9 Tryz.ntmps9 (fun w0=>?_);refine pX (fun g2=>?_);refine pY (fun g3=>?_);refine zWO ?_;refine vK (q:=Ylt hM hD0 hP0 hS h6) (h:=fun v7 fz7 H7 hle7 hR7=>?_);obtain ⟨rfl,vm,rfl,hMn⟩:=hR7;by_cases hc:(Y4 d p).2=0;rotate_left 1
 ·rw [YD hc];refine zV ?_;exact ret2 rfl rfl rfl (List.nil_sublist _) ⟨_,rfl,fun _=>⟨rfl,rfl⟩,fun h=>absurd h hc⟩
 have hmn:=hMn hc;rw [hc,show errV 0=.nilIface from rfl];refine zV ?_;refine Yn (fun q σ fz' H'=>∃ (k:Nat) (vo:Value) (mo:Nat),k<=n5/\q=n5 - k/\σ=[(30,Zk k),(29,Zk n5),(28,Zc A5 n5 b5),(8,vo),(6,vm)]/\Le fz7 fz'/\mo<=k*216/\Grow YfG 54 fz' vo mo H' (YfK (mnM d p) (d.actions.take k)))
  ⟨0,_,0,Z0 _,rfl,rfl,Zd,by omega,Grow.nil _ _ _⟩ Zw (List.nil_sublist _) ?_
 rintro q σ fz1 Ho ⟨k,vo,mo,hk,rfl,rfl,hle1,hmo,hGo⟩;obtain ⟨Ao,co,rfl,_,_⟩:=hGo.form;have hle01:=hle7.trans hle1;refine vC ?_ ?_<;>intro e1;rotate_left 1
 ·have hkn:n5=k:=by omega
  subst hkn;rw [show d.actions.take n5=d.actions from Zl Zi] at hGo;exact vS (h:=by exact ⟨_,rfl,fun h=>absurd rfl h,fun _=>⟨mo,by omega,hGo⟩⟩)
 obtain ⟨a,ha⟩:=Yf (l:=d.actions) (k:=k) Zi;have ham:=Zm ha;have ha3:=h3 a ham;have hnx:=YnF (M:=mnM d p) ha;refine vI (i5.mono hle01) ha (fun p8 hp8=>?_);refine zL hp8 ?_;intro cs hcs;obtain ⟨X0,x0,y0,X1,x1,y1,X2,x2,y2,X3,x3,y3,X4,x4,y4,X5,x5,y5,rfl,hR⟩:=Ybh hcs;obtain ⟨_,_,_,e0,ip⟩:=id hR.params;cases e0;have lp:=ip.len;have hkk:k<n5:=by omega
 have hk7:k<=7:=by omega
 refine zV ?_;intros;rename_i g10;refine Yn (fun q σ fz' H'=>∃ (j many:Nat),j<=x0/\q=x0 - j/\σ=[(37,Zk j),(36,Zk x0),(35,Zc X0 x0 y0),(11,Zk many),(10,Zp g10),(30,Zk k),(29,Zk n5),(28,Zc A5 n5 b5),(8,Zc Ao mo co),(6,vm)]/\Le fz1 fz'/\H'=(g10,Zu #[Zy a.name,Zc X0 x0 y0,Zk a.cost,Zy a.pre.op,Zy a.pre.name,Zc X1 x1 y1,Zc X2 x2 y2,Zc X3 x3 y3,Zc X4 x4 y4,Zc X5 x5 y5] 67)::Ho/\many<=6 ^ j)
  ⟨0,1,Z0 _,rfl,rfl,Zd,rfl,by decide⟩ Zw Zb ?_
 rintro q σ fz2 H' ⟨j,many,hj,rfl,rfl,hle2,rfl,hmj⟩;have hpow:6 ^ j<=216:=Nat.pow_le_pow_right Zh (show j<=3 by omega);refine vC ?_ ?_<;>intro e2
 ·obtain ⟨x,hx⟩:=Yf (l:=a.params) (k:=j) Zi;refine vI (ip.mono hle2) hx (fun p2 hp2=>?_);refine zL hp2 ?_;intro ds hds;obtain ⟨rfl,hRx⟩:=YM hds;refine zV ?_;intros;refine Yd (Yk [] (_::_::Ho) Zz (Ynx (t:=x.typ) (hmn.mono (hle1.trans hle2))) (fun v4 fz4 H4 hle4 hR4=>?_));obtain ⟨rfl,Bo,mm,do_,rfl,hSo⟩:=hR4;have hmm:mm<=6:=by rw [<- hSo.len];exact Nat.le_trans (Ylp _ _) h6
  have hml:many*mm<=6 ^ (j+1):=by rw [Nat.pow_succ];exact Nat.mul_le_mul hmj hmm
  have hpow1:6 ^ (j+1)<=216:=Nat.pow_le_pow_right Zh (show j+1<=3 by omega);have hmz:(many:Int)*(mm:Int)=((many*mm:Nat):Int):=(Int.natCast_mul _ _).symm;refine vG ?_;refine YjS Zz Zz (Xr (by rw [hmz];omega)) ?_;refine vG ?_;refine YoZ ?_;rw [show min ((many:Int)*(mm:Int)) 8192=((many*mm:Nat):Int) from by rw [hmz];omega];exact vP (h:=by exact ⟨j+1,many*mm,by omega,rfl,rfl,hle2.trans hle4,rfl,hml⟩)
 have hm216:many<=216:=Nat.le_trans hmj hpow;refine zV ?_;refine Yn (fun q σ fz' H'=>∃ (j many:Nat),j<=x0/\q=x0 - j/\σ=[(53,Zk j),(52,Zk x0),(51,Zc X0 x0 y0),(11,Zk many),(10,Zp g10),(30,Zk k),(29,Zk n5),(28,Zc A5 n5 b5),(8,Zc Ao mo co),(6,vm)]/\Le fz2 fz'/\H'=(g10,Zu #[Zy a.name,Zc X0 x0 y0,Zk a.cost,Zy a.pre.op,Zy a.pre.name,Zc X1 x1 y1,Zc X2 x2 y2,Zc X3 x3 y3,Zc X4 x4 y4,Zc X5 x5 y5] 67)::Ho/\many<=216)
  ⟨0,many,Z0 _,rfl,rfl,Zd,rfl,hm216⟩ Zw Zb ?_
 rintro q σ fz3 H' ⟨j,many,hj,rfl,rfl,hle3,rfl,hmj⟩;refine vC ?_ ?_<;>intro e3
 ·obtain ⟨x,hx⟩:=Yf (l:=a.params) (k:=j) Zi;refine vI (ip.mono (hle2.trans hle3)) hx (fun p2 hp2=>?_);refine zL hp2 ?_;intro ds hds;obtain ⟨rfl,hRx⟩:=YM hds;refine zV ?_;intros;refine Yd (Yk [] (_::_::Ho) Zz (Ynx (t:=x.typ) (hmn.mono (hle1.trans (hle2.trans hle3)))) (fun v4 fz4 H4 hle4 hR4=>?_));obtain ⟨rfl,Bo,mm,do_,rfl,hSo⟩:=hR4;refine vC ?_ ?_<;>intro e4
  ·exact vP (h:=by exact ⟨j+1,0,by omega,rfl,rfl,hle3.trans hle4,rfl,by omega⟩)
  exact vP (h:=by exact ⟨j+1,many,by omega,rfl,rfl,hle3.trans hle4,rfl,hmj⟩)
 have hle13:=hle2.trans hle3;refine vC ?_ ?_<;>intro e4
 ·exact absurd e4 Zi
 refine zV ?_;refine Yd (Yk [] (_::Ho) Zz (Yl9 (hmn.mono (hle1.trans hle13)) (ip.mono hle13) Zi) (fun v6 fz6 H6 hle6 hR6=>?_));obtain ⟨rfl,T6,t6,s6,rfl,iT⟩:=hR6;have lT:=iT.len;have hTl:=Yik (M:=mnM d p) h6 ha3;rw [List.nil_append];refine zV ?_;refine Yn (fun q σ fz' H'=>∃ (j:Nat) (vo:Value) (mj:Nat) (Hj:HP),j<=t6/\q=t6 - j/\σ=[(75,Zk j),(74,Zk t6),(73,Zc T6 t6 s6),(10,Zp g10),(30,Zk k),(29,Zk n5),(28,Zc A5 n5 b5),(8,vo),(6,vm)]/\fz6=fz'/\H'=(g10,Zu #[Zy a.name,Zc X0 x0 y0,Zk a.cost,Zy a.pre.op,Zy a.pre.name,Zc X1 x1 y1,Zc X2 x2 y2,Zc X3 x3 y3,Zc X4 x4 y4,Zc X5 x5 y5] 67)::Hj/\mj<=mo+j/\
  Grow YfG 54 fz' vo mj Hj (YfK (mnM d p) (d.actions.take k)++((tupM (mnM d p) a.params).take j).map fun t=>(a.name,t)))
  ⟨0,_,mo,Ho,Z0 _,rfl,rfl,rfl,rfl,by omega,(hGo.mono (hle13.trans hle6)).of (by rw [List.take_zero];exact (List.append_nil _).symm) rfl⟩ Zw Zb ?_
 rintro q σ fz9 H' ⟨j,vj,mj,Hj,hj,rfl,rfl,rfl,rfl,hmj,hGj⟩;obtain ⟨Aj,cj,rfl,_,_⟩:=hGj.form;refine vC ?_ ?_<;>intro e5
 ·obtain ⟨t,ht⟩:=Yf (l:=tupM (mnM d p) a.params) (k:=j) Zi;refine vI iT ht (fun p9 hp9=>?_)
  ((refine zG ?_);refine Wy hp9 (fun S9 m9 d9 hsl=>?_));refine zV ?_;refine Yd (Yc (cs:=[Zk 0,Zy a.name,Zc S9 m9 d9]) (fun gb=>?_));refine Yd (YG (Hr:=[_,_]) (d:=(a.name,t)) (Zr _) hGj Ymd (.head _) ⟨_,rfl,hR.name,_,_,_,rfl,hsl⟩ (fun v' Hs' hO'=>?_));obtain ⟨Av',cv',rfl,_,_⟩:=hO'.form;exact vP (h:=by exact ⟨j+1,_,mj+1,Hs',by omega,rfl,rfl,rfl,rfl,by omega,hO'.of (by rw [List.take_add_one,ht,List.map_append,<- List.append_assoc];rfl) rfl⟩)
 have hjt:t6=j:=by omega
 subst hjt;rw [show (tupM (mnM d p) a.params).take t6=tupM (mnM d p) a.params from Zl Zi] at hGj;exact vP (h:=by exact ⟨k+1,_,mj,by omega,rfl,rfl,hle1.trans (hle13.trans hle6),by omega,by rw [hnx];exact hGj⟩)
theorem YnG {l:List Action} {s:StepM} (h3:∀ a∈l,a.params.length<=3) (h:s∈YfK M l):s.2.length<=3:=by
 obtain ⟨a,ha,h⟩:=List.mem_flatMap.1 h;obtain ⟨t,ht,rfl⟩:=List.mem_map.1 h;rw [YjC ht];exact h3 a ha
end Go.Proofs.YtbdpaoikccabhaaGreatDoor
namespace Go.Proofs.YtbdpaoikccabhaaGreatDoor
variable {E:EnvM} {M:Mn} {K:Kn} {S:List Atom} {i j:Nat}
def EqE (ns bs:List Bs) (E:EnvM):Prop:=∀ x,valN ns bs x=valE E x
theorem EqE.cons {ns bs:List Bs} (h:EqE ns bs E) (x a:Bs):EqE (x::ns) (a::bs) (setE E x a):=fun y=>by
 unfold valE setE;rw [valN];by_cases e:x=y
 ·rw [if_pos e,if_pos e.symm];rfl
 rw [if_neg e,if_neg (fun h=>e h.symm)];exact h y
theorem EqE.bnd {ns bs:List Bs} (h:EqE ns bs E) (n:Bs) (l:List Bs):bndA E n l=⟨n,l.map (valN ns bs)⟩:=by
 unfold bndA;rw [List.map_congr_left (fun x _=>(h x).symm)]
theorem Yl5 {p a:Bs} {ns bs:List Bs} {x:Bs}:∀ {l m:List Bs},l.length=m.length->p ∉ l->valN (l++p::ns) (m++a::bs) x=valN (p::(l++ns)) (a::(m++bs)) x
 | [],[],_,_=>rfl
 | [],_::_,h,_=>by cases h
 | _::_,[],h,_=>by cases h
 | y::l,b::m,h,hp=>by
  show valN (y::(l++p::ns)) (b::(m++a::bs)) x=valN (p::y::(l++ns)) (a::b::(m++bs)) x;have hi:=Yl5 (p:=p) (a:=a) (ns:=ns) (bs:=bs) (x:=x) (l:=l) (m:=m) (by simpa using h) (fun h1=>hp (by simp [h1]));rw [valN,valN,valN,hi,valN];by_cases e1:y=x
  ·rw [if_pos e1];by_cases e2:p=x
   ·exact absurd (e2.trans e1.symm) (fun e=>hp (by simp [e]))
   rw [if_neg e2,if_pos e1]
  rw [if_neg e1,if_neg e1]
theorem EqE.ext:∀ {ps:List Param} {as_ ns bs:List Bs} {E:EnvM},as_.length=ps.length->(parN ps).Nodup->EqE ns bs E->EqE (parN ps++ns) (as_++bs) (extE E ps as_)
 | [],[],_,_,_,_,_,h=>h
 | [],_::_,_,_,_,hl,_,_=>by cases hl
 | _::_,[],_,_,_,hl,_,_=>by cases hl
 | p::ps,a::as_,ns,bs,E,hl,hn,h=>fun x=>by
  have hl':as_.length=ps.length:=by simpa using hl
  have hn':p.name ∉ parN ps/\(parN ps).Nodup:=List.nodup_cons.1 hn;have h1:=EqE.ext hl' hn'.2 (h.cons p.name a) x;rw [Yl5 (by rw [YfU];exact hl'.symm) hn'.1] at h1;exact h1
theorem Yl7 {o l:List Bs} (h:¬TwP o l):l.Nodup:=by
 rw [List.nodup_iff_pairwise_ne,List.pairwise_iff_getElem];intro i j hi hj hij e;refine h ⟨j,l[j],List.getElem?_eq_getElem hj,List.mem_append_right _ ?_⟩;rw [<- e];exact Zm (i:=i) (by rw [List.getElem?_take_of_lt hij];exact List.getElem?_eq_getElem hi)
structure InvW (K:Kn) (S:List Atom) (W:Wd):Prop where
 sub:∀ a∈W.atoms,a∈S
 st:∀ a∈K.init,K.chg a.name=false->a∈W.atoms
theorem YdL {K:Kn} {M:Mn} (ho:∀ t,ofN M t=ofK K t) {al:Bool} {hw:List Bs->List Bs->Bool} {he:EnvM->Bool} (hh:∀ ns bs E,EqE ns bs E->hw ns bs=true->he E=true):
 ∀ (ps:List Param) {ns bs:List Bs} {E:EnvM},EqE ns bs E->quantW M al hw ps ns bs=true->quantV K al he ps E=true
 | [],_,_,_,h,g=>by rw [quantW] at g;rw [quantV];exact hh _ _ _ h g
 | p::ps,_,_,_,h,g=>by
  rw [quantW,ho] at g;rw [quantV];cases al with
  | true=>
   rw [if_pos rfl,List.all_eq_true] at g ⊢;exact fun o hi=>YdL ho hh ps (h.cons _ _) (g o hi)
  | false=>
   rw [if_neg Zh,List.any_eq_true] at g ⊢;obtain ⟨o,hi,g⟩:=g;exact ⟨o,hi,YdL ho hh ps (h.cons _ _) g⟩
theorem relax {K:Kn} {M:Mn} {S:List Atom} {W:Wd} (ho:∀ t,ofN M t=ofK K t) (hI:InvW K S W):∀ (s:Nat) {f:Formula} {ns bs:List Bs} {E:EnvM},SizeOf.sizeOf f<=s->HSh f->EqE ns bs E->holdsW M W ns bs f=true->holdsM K S E f=true
 | 0,f,_,_,_,hs,_,_,_=>by cases f;simp at hs
 | s+1,f,ns,bs,E,hs,hf,hE,h=>by
  rw [Yej] at h;rw [YS];by_cases c1:f.op=kAtom
  ·rw [if_pos c1] at h ⊢;rw [hE.bnd];exact decide_eq_true (hI.sub _ (Zt h))
  rw [if_neg c1] at h ⊢;by_cases c2:f.op=kSame
  ·rw [if_pos c2] at h ⊢;rw [hE,hE] at h;exact h
  rw [if_neg c2] at h ⊢;by_cases c3:f.op=kNot
  ·rw [if_pos c3] at h ⊢;cases hk:f.kids with
   | nil=>rw [notH]
   | cons g r=>
    rw [hk,headW,Yej] at h;rw [notH];rcases hf.neg c3 g (by rw [hk];simp) with e | e
    ·have e2:¬g.op=kSame:=by rw [e];decide+kernel
     rw [if_pos e] at h;rw [if_neg e2];by_cases hc:K.chg g.name=true
     ·rw [hc];rfl
     have hc:K.chg g.name=false:=by simpa using hc
     have hx:bndA E g.name g.args ∉ K.init:=fun hin=>by
      have h1:=hI.st _ hin hc;rw [hE.bnd] at h1;rw [decide_eq_true h1] at h;cases h
     rw [hc,decide_eq_false hx];rfl
    have e2:¬g.op=kAtom:=by rw [e];decide+kernel
    rw [if_neg e2,if_pos e,hE,hE] at h;rw [if_pos e,YS,if_neg e2,if_pos e];exact h
  rw [if_neg c3] at h ⊢;have hkid:∀ g∈f.kids,∀ {ns bs E},EqE ns bs E->holdsW M W ns bs g=true->holdsM K S E g=true:=fun g hg _ _ _ hE hh=>
   relax ho hI s (by have:=Formula.kids_lt hg;omega) (hf.kid hg) hE hh
  by_cases c4:f.op=kAnd
  ·rw [if_pos c4] at h ⊢;rw [Yf5] at h;rw [Yhg];simp only [Bool.not_eq_true',decide_eq_false_iff_not] at h ⊢;exact fun ⟨g,hg,hn⟩=>h ⟨g,hg,fun hh=>hn (hkid g hg hE hh)⟩
  rw [if_neg c4] at h ⊢;by_cases c5:f.op=kOr
  ·rw [if_pos c5] at h ⊢;rw [Yf4] at h;rw [Yhf];obtain ⟨g,hg,hn⟩:=Zt h;exact decide_eq_true ⟨g,hg,hkid g hg hE hn⟩
  rw [if_neg c5] at h ⊢;by_cases c6:QuF f.op
  ·rw [if_pos c6] at h ⊢;refine YdL ho (fun ns bs E hE hw=>?_) _ hE h;cases hk:f.kids with
   | nil=>rw [headH]
   | cons g r=>
    rw [hk,headW] at hw;rw [headH];exact hkid g (by rw [hk];simp) hE hw
  rw [if_neg c6]
def Ydy (M:Mn):List Param->List Bs->Prop
 | [],[]=>True
 | p::ps,x::xs=>x∈ofN M p.typ/\Ydy M ps xs
 | _,_=>False
theorem Ydy.len {M:Mn}:∀ {ps:List Param} {l:List Bs},Ydy M ps l->l.length=ps.length
 | [],[],_=>rfl
 | p::ps,x::xs,h=>by simp [Ydy.len h.2]
 | [],_::_,h=>h.elim
 | _::_,[],h=>h.elim
theorem Yoq {M:Mn}:∀ {ps:List Param} {l:List Bs},l.length=ps.length->(∀ (i:Nat) (x:Bs) (p:Param),l[i]?=some x->ps[i]?=some p->x∈ofN M p.typ)->Ydy M ps l
 | [],[],_,_=>trivial
 | [],_::_,h,_=>by cases h
 | _::_,[],h,_=>by cases h
 | p::ps,x::l,h,hh=>⟨hh 0 x p rfl rfl,Yoq (by simpa using h) (fun i y q hy hq=>hh (i+1) y q (by simpa using hy) (by simpa using hq))⟩
theorem Yeb {M:Mn}:∀ {ps:List Param} {out:List (List Bs)} {l:List Bs},l∈ps.foldl (Ye1 M) out↔∃ l0∈out,∃ t,Ydy M ps t/\l=l0++t
 | [],out,l=>by
  constructor
  ·intro h;exact ⟨l,h,[],trivial,(List.append_nil l).symm⟩
  rintro ⟨l0,h,t,ht,rfl⟩;cases t with
  | nil=>rw [List.append_nil];exact h
  | cons x t=>exact ht.elim
 | p::ps,out,l=>by
  rw [List.foldl_cons,Yeb];constructor
  ·rintro ⟨l1,h1,t,ht,rfl⟩;obtain ⟨l0,h0,h1⟩:=List.mem_flatMap.1 h1;obtain ⟨o,ho,rfl⟩:=List.mem_map.1 h1;exact ⟨l0,h0,o::t,⟨ho,ht⟩,by simp⟩
  rintro ⟨l0,h0,t,ht,rfl⟩;cases t with
  | nil=>exact ht.elim
  | cons o t=>exact ⟨l0++ [o],List.mem_flatMap.2 ⟨l0,h0,List.mem_map.2 ⟨o,ht.1,rfl⟩⟩,t,ht.2,by simp⟩
theorem Yop {ps:List Param} {l:List Bs} (h:l∈tupM M ps):Ydy M ps l:=by
 unfold tupM at h;split at h
 ·cases h
 obtain ⟨l0,h0,t,ht,rfl⟩:=Yeb.1 h;simp at h0;subst h0;exact ht
theorem Yje {K:Kn} {M:Mn} (ho:∀ t,ofN M t=ofK K t) (hm:M.os.length<=6):∀ (ps:List Param) (out:List (List Bs)) (n:Nat),out.length<=6 ^ n->n+ps.length<=3->ps.foldl (Yea K 4096) out=ps.foldl (Ye1 M) out
 | [],_,_,_,_=>rfl
 | p::ps,out,n,h,hn=>by
  rw [List.length_cons] at hn;have h1:(Ye1 M out p).length<=6 ^ (n+1):=by
   have:=Yj8 hm out p;rw [Nat.pow_succ];omega
  have h2:6 ^ (n+1)<=6 ^ 3:=Nat.pow_le_pow_right Zh Zi;have e:Yea K 4096 out p=Ye1 M out p:=by
   unfold Yea;rw [<- ho];exact Zl (by show (Ye1 M out p).length<=_;omega)
  rw [List.foldl_cons,List.foldl_cons,e];exact Yje ho hm ps _ (n+1) h1 Zi
theorem mem_comb (ho:∀ t,ofN M t=ofK K t) (hm:M.os.length<=6) {ps:List Param} (h3:ps.length<=3) {l:List Bs} (h:Ydy M ps l):l∈YcF K ps 4096:=by
 unfold YcF;rw [Yje ho hm ps [[]] 0 Zh Zi];exact Yeb.2 ⟨[],by simp,l,h,rfl⟩
theorem Ykv {α:Type} {f:List Atom × Bool->α->List Atom × Bool} (hf:∀ r x,r.2=true->(f r x).2=true):∀ (l:List α) (r:List Atom × Bool),r.2=true->(l.foldl f r).2=true
 | [],_,h=>h
 | x::l,r,h=>Ykv hf l _ (hf r x h)
theorem Yi0 {α:Type} {f:List Atom × Bool->α->List Atom × Bool} (hf:∀ r x,r.2=true->(f r x).2=true) {S:List Atom} (hs:∀ x,(f (S,false) x).2=false->f (S,false) x=(S,false)):∀ {l:List α},(l.foldl f (S,false)).2=false->∀ x∈l,(f (S,false) x).2=false
 | [],_,x,hx=>by cases hx
 | y::l,h,x,hx=>by
  rw [List.foldl_cons] at h;have h1:(f (S,false) y).2=false:=by
   cases hc:(f (S,false) y).2 with
   | false=>rfl
   | true=>rw [Ykv hf l _ hc] at h;cases h
  rw [hs y h1] at h;rcases List.mem_cons.1 hx with rfl | hx
  ·exact h1
  exact Yi0 hf hs h x hx
theorem YkT {c:Change} (hS:S.length<=4096) {p:Param} {ps:List Param} (h:(addM K c (p::ps) E S).2=false):∀ o∈ofK K p.typ,(addM K c ps (setE E p.name o) S).2=false:=fun o ho=>by
 have hl:¬4096<((S,false):List Atom × Bool).1.length:=by show ¬4096<S.length;omega
 rw [addM] at h;have h1:=Yi0 (S:=S) (fun r x hr=>by split<;>simp [hr]) (fun x hx=>by
  rw [if_neg hl] at hx ⊢;simp only [Bool.or_false] at hx ⊢;rw [hx,(Ych K c ps (setE E p.name x) S).2.2 hx]) h o ho
 rw [if_neg hl] at h1;simpa only [Bool.or_false] using h1
theorem Ym7 {K:Kn} {M:Mn} (ho:∀ t,ofN M t=ofK K t) {c:Change} {S:List Atom} (hS:S.length<=4096):∀ {ps:List Param} {E:EnvM},(addM K c ps E S).2=false->∀ {l:List Bs},Ydy M ps l->holdsM K S (extE E ps l) c.when_=true->bndA (extE E ps l) c.name c.args∈S
 | [],E,h,[],_,hh=>by
  rw [addM] at h;split at h
  ·cases h
  rename_i hn;exact Classical.byContradiction fun h1=>hn ⟨h1,hh⟩
 | [],_,_,_::_,ht,_=>ht.elim
 | _::_,_,_,[],ht,_=>ht.elim
 | p::ps,E,h,o::l,ht,hh=>Ym7 ho hS (YkT hS h o (by rw [<- ho];exact ht.1)) ht.2 hh
theorem YkS {l:List Change} (h:(X8 K l E S).2=false):∀ c∈l,(addM K c c.params E S).2=false:=by
 rw [X8] at h;intro c hc;have h1:=Yi0 (S:=S) (fun r x hr=>by simp [hr]) (fun x hx=>by
  simp only [Bool.or_false] at hx ⊢;rw [hx,(Ych K x x.params E S).2.2 hx]) h c hc
 simpa using h1
theorem Yiu {K:Kn} {s:Schema}:∀ (k:Nat) {st:RowS},st.bs.length=s.arguments.length->st.ds.length=s.arguments.length->(rowN K s k st).n=false->∀ j,j<k->∀ a,s.arguments[j]?=some a->(Xq K s a st.S (st.bs[j]?.getD false) (st.ds[j]?.getD false)).n=false
 | 0,_,_,_,_,j,hj,_,_=>absurd hj Zi
 | k+1,st,hb,hd,h,j,hj,a,ha=>by
  obtain ⟨_,_,_,_,_,g6⟩:=YcT K s k st hb hd;cases hk:s.arguments[k]? with
  | none=>
   rw [rowN,hk] at h;have:j≠k:=fun e=>by rw [e,hk] at ha;cases ha
   exact Yiu k hb hd h j Zi a ha
  | some a'=>
   rw [Yd1 hk] at h;obtain ⟨h1,h2⟩:=(Bool.or_eq_false_iff.1 h:_=false/\_=false);rcases Nat.lt_or_ge j k with hjk | hjk
   ·exact Yiu k hb hd h2 j hjk a ha
   have e:j=k:=by omega
   subst e;rw [hk] at ha;injection ha with ha
   subst ha;rw [g6 h2] at h1;exact h1
theorem Yiv {K:Kn} {l:List Schema}:∀ (k:Nat) {w:RndS},FitR l w.B->FitR l w.D->(rndN K l k w).n=false->∀ i,i<k->∀ s,l[i]?=some s->(rowN K s s.arguments.length ⟨w.S,w.B[i]?.getD [],w.D[i]?.getD [],false⟩).n=false
 | 0,_,_,_,_,i,hi,_,_=>absurd hi Zi
 | k+1,w,hB,hD,h,i,hi,s,hs=>by
  obtain ⟨_,_,_,g4,_,g6⟩:=YcU K l k w hB hD;cases hk:l[k]? with
  | none=>
   rw [rndN,hk] at h;have:i≠k:=fun e=>by rw [e,hk] at hs;cases hs
   exact Yiv k hB hD h i Zi s hs
  | some s'=>
   rw [Yd2 hk] at h;have h':(rowN K s' s'.arguments.length ⟨(rndN K l k w).S,(rndN K l k w).B[k]?.getD [],(rndN K l k w).D[k]?.getD [],(rndN K l k w).n⟩).n=false:=h;obtain ⟨fB,fD⟩:=Yd3 (K:=K) k hB hD;have hlt:=(Zg hk).1;obtain ⟨b,hb⟩:=Yf (l:=(rndN K l k w).B) (k:=k) (by rw [fB.1];exact hlt);obtain ⟨d,hd⟩:=Yf (l:=(rndN K l k w).D) (k:=k) (by rw [fD.1];exact hlt);have h2:(rndN K l k w).n=false:=by
    cases hn:(rndN K l k w).n with
    | false=>rfl
    | true=>
     obtain ⟨_,_,_,q4,_,_⟩:=YcT K s' s'.arguments.length ⟨(rndN K l k w).S,(rndN K l k w).B[k]?.getD [],(rndN K l k w).D[k]?.getD [],(rndN K l k w).n⟩ (by rw [hb];exact fB.2 k s' b hk hb) (by rw [hd];exact fD.2 k s' d hk hd);rw [q4 hn] at h';cases h'
   rcases Nat.lt_or_ge i k with hik | hik
   ·exact Yiv k hB hD h2 i hik s hs
   have e:i=k:=by omega
   subst e;rw [hk] at hs;injection hs with hs
   subst hs;have e2:=g6 h2;rw [e2] at h';rw [e2] at h2;rw [h2] at h';exact h'
theorem YmG {l:List Schema} {B D:List (List Bool)} (hB:FitR l B) (hD:FitR l D) (h:Xu K l S B D=⟨S,B,D,false⟩) {s:Schema} {a:List Bs} (hs:l[i]?=some s) (ha:s.arguments[j]?=some a):
 ∃ b d x y,B[i]?=some b/\D[i]?=some d/\b[j]?=some x/\d[j]?=some y/\(Xq K s a S x y).n=false:=by
 have hi:=(Zg hs).1;have hj:=(Zg ha).1;obtain ⟨b,hb⟩:=Yf (l:=B) (k:=i) (by rw [hB.1];exact hi);obtain ⟨d,hd⟩:=Yf (l:=D) (k:=i) (by rw [hD.1];exact hi);have lb:=hB.2 i s b hs hb;have ld:=hD.2 i s d hs hd;obtain ⟨x,hx⟩:=Yf (l:=b) (k:=j) Zi;obtain ⟨y,hy⟩:=Yf (l:=d) (k:=j) Zi;have h1:=Yiv (K:=K) l.length (w:=⟨S,B,D,false⟩) hB hD (by
  have:(Xu K l S B D).n=false:=by rw [h]
  exact this) i hi s hs
 rw [hb,hd] at h1;have h2:=Yiu s.arguments.length (st:=⟨S,b,d,false⟩) lb ld h1 j hj a ha;rw [hx,hy] at h2;exact ⟨b,d,x,y,hb,hd,hx,hy,h2⟩
theorem inst_act {s:Schema} {a:List Bs} {x y:Bool} (h:(Xq K s a S x y).n=false) (he:s.early=[]) (hst:s.start=s.all) (hh:holdsM K S (envA s a) s.all=true):y=true/\(X8 K s.late (envA s a) S).2=false:=by
 have e0:X8 K [] (envA s a) S=(S,false):=rfl;simp only [Xq,hst,hh,he,e0,Bool.or_true,Bool.and_true,if_true,Bool.or_eq_false_iff,Bool.not_eq_false'] at h;exact ⟨h.2.2.1,h.1⟩
end Go.Proofs.YtbdpaoikccabhaaGreatDoor
