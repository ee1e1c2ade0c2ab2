/- The texts YT, YP, GOpenA, POpenW, YRowRB, laid together. Conditions: none. -/
import Derived.Test.YtfjopfinkdhmaaaGreatDoorRZU
import Derived.Lay
import Derived.LaidOnce
import Derived.Carry
import Derived.MakeChecks
import Derived.LaidSub
import Derived.Deep.DeepHandedRow
import Derived.Lib.LaidTab
import Derived.Shelf.Vars
import Derived.Deep.Slices
import Derived.SizedLaws
set_option linter.all false
set_option maxRecDepth 20000
namespace Go.Proofs.YtfjopfinkdhmaaaGreatDoor
open Go.Lx Go.RowKit
attribute [local instance 10] Classical.propDecidable
open Go.Proofs.Tryz (prog)
variable {A B:Option Addr} {c n:Nat} {fz:FZ}
set_option maxHeartbeats 8000000 in
theorem YhM {m d:Nat} {l:List Change} (h1:Sl changeL fz A n c l) (h2:Sl changeL fz B m d l):QFn prog 41 [.slice A n c,.slice B m d] fz (.bool true):=by
 have k1:=h1.len;have k2:=h2.len;have k3:=h1.short;subst k1 k2;refine GFn.quiet ?_;refine zF Tryz.func41 Tryz.ntmps41 (fun w0=>?_);refine zW ?_
 (((refine zC (fun c1=>?_) (fun c1=>?_));(exact absurd rfl c1);(refine zW ?_)));refine Ym (fun q σ fz' H'=>∃ k:Nat,k<=l.length/\q=l.length - k/\σ=[(5,Zk k),(0,.slice A l.length c),(1,.slice B l.length d)]/\fz=fz'/\H'=[]) ⟨0,Z0 _,rfl,rfl,rfl,rfl⟩ Zw Zb ?_;rintro q σ fz' H' ⟨k,hk,rfl,rfl,rfl,rfl⟩;refine wC (fun c2=>?_) (fun c2=>?_)
 ·obtain ⟨x,hx⟩:=Yl (l:=l) (k:=k) Zi;have hx':=hx;refine zWN ?_;refine Wp.mid (fun σ fz' H'=>∃ g6 g7 ca cb,σ=[(5,Zk k),(7,Zp g7),(6,Zp g6),(0,.slice A l.length c),(1,.slice B l.length d)]/\fz=fz'/\H'=[(g7,.cells (List.toArray cb) 123 (0,0)),(g6,.cells (List.toArray ca) 123 (0,0))]/\changeL.rep fz x ca/\changeL.rep fz x cb) ?_ ?_
  ·refine Wp.drawP [] (Hq:=[]) T.mixed Zj Zj Zb ?_;refine wI h1 hx (fun p1 hp1=>?_);refine zL hp1 ?_;intro cs1 hr1;have hr1':=hr1;obtain ⟨au1,au2,au3,au4,au5,au6,au7,au8,rfl,ahC⟩:=Xj hr1;have ahW:=ahC.when_;have ahV:=ahC.value;obtain ⟨aC1,ao1,aq1,rfl,ai1⟩:=ahC.params;obtain ⟨aC2,ao2,aq2,rfl,ai2⟩:=ahC.when_.args;obtain ⟨aC3,ao3,aq3,rfl,ai3⟩:=ahC.when_.params;obtain ⟨aC4,ao4,aq4,rfl,ai4⟩:=ahC.when_.exprs;obtain ⟨aC5,ao5,aq5,rfl,ai5⟩:=ahC.when_.kids;obtain ⟨aC6,ao6,aq6,rfl,ai6⟩:=ahC.args;obtain ⟨aC7,ao7,aq7,rfl,ai7⟩:=ahC.value.args;obtain ⟨aC8,ao8,aq8,rfl,ai8⟩:=ahC.value.kids;refine wI h2 hx (fun p2 hp2=>?_);refine zL hp2 ?_;intro cs2 hr2;have hr2':=hr2;obtain ⟨bu1,bu2,bu3,bu4,bu5,bu6,bu7,bu8,rfl,bhC⟩:=Xj hr2;have bhW:=bhC.when_;have bhV:=bhC.value;obtain ⟨bC1,bo1,bq1,rfl,bi1⟩:=bhC.params;obtain ⟨bC2,bo2,bq2,rfl,bi2⟩:=bhC.when_.args;obtain ⟨bC3,bo3,bq3,rfl,bi3⟩:=bhC.when_.params;obtain ⟨bC4,bo4,bq4,rfl,bi4⟩:=bhC.when_.exprs;obtain ⟨bC5,bo5,bq5,rfl,bi5⟩:=bhC.when_.kids;obtain ⟨bC6,bo6,bq6,rfl,bi6⟩:=bhC.args;obtain ⟨bC7,bo7,bq7,rfl,bi7⟩:=bhC.value.args;obtain ⟨bC8,bo8,bq8,rfl,bi8⟩:=bhC.value.kids;refine zW ?_;refine Ye ?_;refine Ye ?_;refine Ye ?_;refine Ye ?_;refine PK.done ⟨by kernel_rfl,?_⟩;refine YI Zz Zz Zz ?_ ?_
   ·refine Yd (Y6 T Zz Zz (fun g6=>⟨(⟨(Le.refl _),by intro p hp;cases hp⟩),?_⟩));refine Yc Zz Zz ?_;refine Yd (Y6 T Zz Zz (fun g7=>⟨(⟨(Le.refl _),by intro p hp;cases hp⟩),?_⟩));refine Yc Zz Zz ?_;refine PoS.soft0 (YU T Zz Zz Zz Zz Zz Zz ⟨(⟨(Le.refl _),by intro p hp;cases hp⟩),?_⟩);refine Yc Zz Zz ?_;refine PoS.soft0 (YV T Zz Zz Zz Zz Zz Zz ⟨(⟨(Le.refl _),by intro p hp;cases hp⟩),?_⟩);refine Po.done ?_;exact wN (h:=by exact ⟨g6,g7,_,_,rfl,rfl,rfl,hr1',hr2'⟩)
   refine Yd (Y6 T Zz Zz (fun g7=>⟨(⟨(Le.refl _),by intro p hp;cases hp⟩),?_⟩));refine Yc Zz Zz ?_;refine Yd (Y6 T Zz Zz (fun g6=>⟨(⟨(Le.refl _),by intro p hp;cases hp⟩),?_⟩));refine Yc Zz Zz ?_;refine PoS.soft0 (YV T Zz Zz Zz Zz Zz Zz ⟨(⟨(Le.refl _),by intro p hp;cases hp⟩),?_⟩);refine Yc Zz Zz ?_;refine PoS.soft0 (YU T Zz Zz Zz Zz Zz Zz ⟨(⟨(Le.refl _),by intro p hp;cases hp⟩),?_⟩);refine Po.done ?_;refine zW ?_;exact midP (H1:=[(g7,_),(g6,_)]) (List.Perm.swap _ _ _) ⟨g6,g7,_,_,rfl,rfl,rfl,hr1',hr2'⟩ Zw Zb
  rintro σ fz' H' ⟨g6,g7,ca,cb,rfl,rfl,rfl,hr1,hr2⟩;obtain ⟨au1,au2,au3,au4,au5,au6,au7,au8,rfl,ahC⟩:=Xj hr1;have ahW:=ahC.when_;have ahV:=ahC.value;obtain ⟨aC1,ao1,aq1,rfl,ai1⟩:=ahC.params;obtain ⟨aC2,ao2,aq2,rfl,ai2⟩:=ahC.when_.args;obtain ⟨aC3,ao3,aq3,rfl,ai3⟩:=ahC.when_.params;obtain ⟨aC4,ao4,aq4,rfl,ai4⟩:=ahC.when_.exprs;obtain ⟨aC5,ao5,aq5,rfl,ai5⟩:=ahC.when_.kids;obtain ⟨aC6,ao6,aq6,rfl,ai6⟩:=ahC.args;obtain ⟨aC7,ao7,aq7,rfl,ai7⟩:=ahC.value.args;obtain ⟨aC8,ao8,aq8,rfl,ai8⟩:=ahC.value.kids;obtain ⟨bu1,bu2,bu3,bu4,bu5,bu6,bu7,bu8,rfl,bhC⟩:=Xj hr2;have bhW:=bhC.when_;have bhV:=bhC.value;obtain ⟨bC1,bo1,bq1,rfl,bi1⟩:=bhC.params;obtain ⟨bC2,bo2,bq2,rfl,bi2⟩:=bhC.when_.args;obtain ⟨bC3,bo3,bq3,rfl,bi3⟩:=bhC.when_.params;obtain ⟨bC4,bo4,bq4,rfl,bi4⟩:=bhC.when_.exprs;obtain ⟨bC5,bo5,bq5,rfl,bi5⟩:=bhC.when_.kids;obtain ⟨bC6,bo6,bq6,rfl,bi6⟩:=bhC.args;obtain ⟨bC7,bo7,bq7,rfl,bi7⟩:=bhC.value.args;obtain ⟨bC8,bo8,bq8,rfl,bi8⟩:=bhC.value.kids;refine zW ?_
  (((refine zC (fun e1=>?_) (fun e1=>?_));(exact absurd rfl e1);(refine zW ?_)))
  (((refine zC (fun e2=>?_) (fun e2=>?_));(exact absurd rfl e2);(refine zW ?_)));refine zc (etexts9 ai6 bi6) ?_;refine wc (YhL ai1 bi1) ?_;refine wG ?_;refine Yo (vs:=[.string x.when_.op,.string x.when_.name,.slice aC2 ao2 aq2,.slice aC3 ao3 aq3,.slice aC4 ao4 aq4,.slice aC5 ao5 aq5]) T 1 Zz Zz Zz Zz Zz Zz ?_;refine wG ?_;refine Yo (vs:=[.string x.when_.op,.string x.when_.name,.slice bC2 bo2 bq2,.slice bC3 bo3 bq3,.slice bC4 bo4 bq4,.slice bC5 bo5 bq5]) T 0 Zz Zz Zz Zz Zz Zz ?_;refine zc (YlH ahW bhW) ?_;refine wG ?_;refine Yo (vs:=[.string x.value.op,.string x.value.name,Zk x.value.n,.slice aC7 ao7 aq7,.slice aC8 ao8 aq8]) T 1 Zz Zz Zz Zz Zz Zz ?_;refine wG ?_;refine Yo (vs:=[.string x.value.op,.string x.value.name,Zk x.value.n,.slice bC7 bo7 bq7,.slice bC8 bo8 bq8]) T 0 Zz Zz Zz Zz Zz Zz ?_;refine zc (eexpr ahV bhV) ?_;exact wP (h:=by exact ⟨k+1,by omega,rfl,rfl,rfl,rfl⟩)
 exact wR (h:=rfl)
variable {v1 v2 v3 v4 v5 v6 w1 w2 w3:Value}
set_option maxHeartbeats 2000000 in
theorem eaction {x:Action} {w4 w5 w6:Value} (h1:ActionR fz x v1 v2 v3 v4 v5 v6) (h2:ActionR fz x w1 w2 w3 w4 w5 w6):
 QFn prog 19 [.agg #[.string x.name,v1,Zk x.cost,.string x.pre.op,.string x.pre.name,v2,v3,v4,v5,v6],.agg #[.string x.name,w1,Zk x.cost,.string x.pre.op,.string x.pre.name,w2,w3,w4,w5,w6]] fz (.bool true):=by
 have p1:=h1.pre;have p2:=h2.pre;refine GFn.quiet ?_;obtain ⟨aC0,ao0,aq0,rfl,ai0⟩:=h1.params;obtain ⟨aC1,ao1,aq1,rfl,ai1⟩:=h1.pre.args;obtain ⟨aC2,ao2,aq2,rfl,ai2⟩:=h1.pre.params;obtain ⟨aC3,ao3,aq3,rfl,ai3⟩:=h1.pre.exprs;obtain ⟨aC4,ao4,aq4,rfl,ai4⟩:=h1.pre.kids;obtain ⟨aC5,ao5,aq5,rfl,ai5⟩:=h1.changes;obtain ⟨bC0,bo0,bq0,rfl,bi0⟩:=h2.params;obtain ⟨bC1,bo1,bq1,rfl,bi1⟩:=h2.pre.args;obtain ⟨bC2,bo2,bq2,rfl,bi2⟩:=h2.pre.params;obtain ⟨bC3,bo3,bq3,rfl,bi3⟩:=h2.pre.exprs;obtain ⟨bC4,bo4,bq4,rfl,bi4⟩:=h2.pre.kids;obtain ⟨bC5,bo5,bq5,rfl,bi5⟩:=h2.changes;refine zF Tryz.func19 Tryz.ntmps19 (fun w0=>?_);refine Yj (Yq (Ya Zz (Xb _ Zz Zz (fun g0=>?_))));refine Ya Zz (Xb _ Zz Zz (fun g1=>?_));refine zW ?_
 (((refine zC (fun e1=>?_) (fun e1=>?_));rotate_left 1;(exact absurd rfl e1);(refine zW ?_)))
 (((refine zC (fun e2=>?_) (fun e2=>?_));rotate_left 1;(exact absurd rfl e2);(refine zW ?_)));refine zc (YhL ai0 bi0) ?_;refine wG ?_;refine Yo (vs:=[.string x.pre.op,.string x.pre.name,.slice aC1 ao1 aq1,.slice aC2 ao2 aq2,.slice aC3 ao3 aq3,.slice aC4 ao4 aq4]) T 1 Zz Zz Zz Zz Zz Zz ?_;refine wG ?_;refine Yo (vs:=[.string x.pre.op,.string x.pre.name,.slice bC1 bo1 bq1,.slice bC2 bo2 bq2,.slice bC3 bo3 bq3,.slice bC4 bo4 bq4]) T 0 Zz Zz Zz Zz Zz Zz ?_;refine zc (YlH p1 p2) ?_;refine wc (YhM ai5 bi5) ?_;exact wR (h:=rfl)
variable {v7:Value}
set_option maxHeartbeats 4000000 in
theorem YnQ {x:Durative} {v8 v9 v10 v11 v12 v13 v14 v15 w4 w5 w6 w7 w8 w9 w10 w11 w12 w13 w14 w15:Value} (h1:DurativeR fz x v1 v2 v3 v4 v5 v6 v7 v8 v9 v10 v11 v12 v13 v14 v15) (h2:DurativeR fz x w1 w2 w3 w4 w5 w6 w7 w8 w9 w10 w11 w12 w13 w14 w15):
 QFn prog 20 [.agg #[.string x.name,v1,Zk x.duration,.string x.start.op,.string x.start.name,v2,v3,v4,v5,.string x.over.op,.string x.over.name,v6,v7,v8,v9,.string x.fin.op,.string x.fin.name,v10,v11,v12,v13,v14,v15],.agg #[.string x.name,w1,Zk x.duration,.string x.start.op,.string x.start.name,w2,w3,w4,w5,.string x.over.op,.string x.over.name,w6,w7,w8,w9,.string x.fin.op,.string x.fin.name,w10,w11,w12,w13,w14,w15]] fz (.bool true):=by
 have p1:=h1.start;have p2:=h2.start;have p3:=h1.over;have p4:=h2.over;have p5:=h1.fin;have p6:=h2.fin;refine GFn.quiet ?_;obtain ⟨aC0,ao0,aq0,rfl,ai0⟩:=h1.params;obtain ⟨aC1,ao1,aq1,rfl,ai1⟩:=h1.start.args;obtain ⟨aC2,ao2,aq2,rfl,ai2⟩:=h1.start.params;obtain ⟨aC3,ao3,aq3,rfl,ai3⟩:=h1.start.exprs;obtain ⟨aC4,ao4,aq4,rfl,ai4⟩:=h1.start.kids;obtain ⟨aC5,ao5,aq5,rfl,ai5⟩:=h1.over.args;obtain ⟨aC6,ao6,aq6,rfl,ai6⟩:=h1.over.params;obtain ⟨aC7,ao7,aq7,rfl,ai7⟩:=h1.over.exprs;obtain ⟨aC8,ao8,aq8,rfl,ai8⟩:=h1.over.kids;obtain ⟨aC9,ao9,aq9,rfl,ai9⟩:=h1.fin.args;obtain ⟨aC10,ao10,aq10,rfl,ai10⟩:=h1.fin.params;obtain ⟨aC11,ao11,aq11,rfl,ai11⟩:=h1.fin.exprs;obtain ⟨aC12,ao12,aq12,rfl,ai12⟩:=h1.fin.kids;obtain ⟨aC13,ao13,aq13,rfl,ai13⟩:=h1.atStart;obtain ⟨aC14,ao14,aq14,rfl,ai14⟩:=h1.atEnd;obtain ⟨bC0,bo0,bq0,rfl,bi0⟩:=h2.params;obtain ⟨bC1,bo1,bq1,rfl,bi1⟩:=h2.start.args;obtain ⟨bC2,bo2,bq2,rfl,bi2⟩:=h2.start.params;obtain ⟨bC3,bo3,bq3,rfl,bi3⟩:=h2.start.exprs;obtain ⟨bC4,bo4,bq4,rfl,bi4⟩:=h2.start.kids;obtain ⟨bC5,bo5,bq5,rfl,bi5⟩:=h2.over.args;obtain ⟨bC6,bo6,bq6,rfl,bi6⟩:=h2.over.params;obtain ⟨bC7,bo7,bq7,rfl,bi7⟩:=h2.over.exprs;obtain ⟨bC8,bo8,bq8,rfl,bi8⟩:=h2.over.kids;obtain ⟨bC9,bo9,bq9,rfl,bi9⟩:=h2.fin.args;obtain ⟨bC10,bo10,bq10,rfl,bi10⟩:=h2.fin.params;obtain ⟨bC11,bo11,bq11,rfl,bi11⟩:=h2.fin.exprs;obtain ⟨bC12,bo12,bq12,rfl,bi12⟩:=h2.fin.kids;obtain ⟨bC13,bo13,bq13,rfl,bi13⟩:=h2.atStart;obtain ⟨bC14,bo14,bq14,rfl,bi14⟩:=h2.atEnd;refine zF Tryz.func20 Tryz.ntmps20 (fun w0=>?_);refine Yj (Yq (Ya Zz (Xb _ Zz Zz (fun g0=>?_))));refine Ya Zz (Xb _ Zz Zz (fun g1=>?_));refine zW ?_
 (((refine zC (fun e1=>?_) (fun e1=>?_));(exact absurd rfl e1);(refine zW ?_)))
 (((refine zC (fun e2=>?_) (fun e2=>?_));(exact absurd rfl e2);(refine zW ?_)));refine zc (YhL ai0 bi0) ?_;refine wc (YhM ai13 bi13) ?_;refine wc (YhM ai14 bi14) ?_;refine wG ?_;refine Yo (vs:=[.string x.start.op,.string x.start.name,.slice aC1 ao1 aq1,.slice aC2 ao2 aq2,.slice aC3 ao3 aq3,.slice aC4 ao4 aq4]) T 1 Zz Zz Zz Zz Zz Zz ?_;refine wG ?_;refine Yo (vs:=[.string x.start.op,.string x.start.name,.slice bC1 bo1 bq1,.slice bC2 bo2 bq2,.slice bC3 bo3 bq3,.slice bC4 bo4 bq4]) T 0 Zz Zz Zz Zz Zz Zz ?_;refine zc (YlH p1 p2) ?_;refine wG ?_;refine Yo (vs:=[.string x.over.op,.string x.over.name,.slice aC5 ao5 aq5,.slice aC6 ao6 aq6,.slice aC7 ao7 aq7,.slice aC8 ao8 aq8]) T 1 Zz Zz Zz Zz Zz Zz ?_;refine wG ?_;refine Yo (vs:=[.string x.over.op,.string x.over.name,.slice bC5 bo5 bq5,.slice bC6 bo6 bq6,.slice bC7 bo7 bq7,.slice bC8 bo8 bq8]) T 0 Zz Zz Zz Zz Zz Zz ?_;refine zc (YlH p3 p4) ?_;refine wG ?_;refine Yo (vs:=[.string x.fin.op,.string x.fin.name,.slice aC9 ao9 aq9,.slice aC10 ao10 aq10,.slice aC11 ao11 aq11,.slice aC12 ao12 aq12]) T 1 Zz Zz Zz Zz Zz Zz ?_;refine wG ?_;refine Yo (vs:=[.string x.fin.op,.string x.fin.name,.slice bC9 bo9 bq9,.slice bC10 bo10 bq10,.slice bC11 bo11 bq11,.slice bC12 bo12 bq12]) T 0 Zz Zz Zz Zz Zz Zz ?_;refine zc (YlH p5 p6) ?_;exact wR (h:=rfl)
set_option maxHeartbeats 8000000 in
theorem edomain {x:Domain} {w4 w5 w6:Value} (h1:DomainR fz x v1 v2 v3 v4 v5 v6) (h2:DomainR fz x w1 w2 w3 w4 w5 w6):
 QFn prog 9 [.agg #[.string x.name,v1,v2,v3,v4,v5,v6],.agg #[.string x.name,w1,w2,w3,w4,w5,w6]] fz (.bool true):=by
 refine GFn.quiet ?_;obtain ⟨aC0,ao0,aq0,rfl,ai0⟩:=h1.types;obtain ⟨aC1,ao1,aq1,rfl,ai1⟩:=h1.constants;obtain ⟨aC2,ao2,aq2,rfl,ai2⟩:=h1.predicates;obtain ⟨aC3,ao3,aq3,rfl,ai3⟩:=h1.functions;obtain ⟨aC4,ao4,aq4,rfl,ai4⟩:=h1.actions;obtain ⟨aC5,ao5,aq5,rfl,ai5⟩:=h1.duratives;obtain ⟨bC0,bo0,bq0,rfl,bi0⟩:=h2.types;obtain ⟨bC1,bo1,bq1,rfl,bi1⟩:=h2.constants;obtain ⟨bC2,bo2,bq2,rfl,bi2⟩:=h2.predicates;obtain ⟨bC3,bo3,bq3,rfl,bi3⟩:=h2.functions;obtain ⟨bC4,bo4,bq4,rfl,bi4⟩:=h2.actions;obtain ⟨bC5,bo5,bq5,rfl,bi5⟩:=h2.duratives;have ka2:=ai2.len;have kb2:=bi2.len;have ks2:=ai2.short;subst ka2 kb2;have ka3:=ai3.len;have kb3:=bi3.len;have ks3:=ai3.short;subst ka3 kb3;have ka4:=ai4.len;have kb4:=bi4.len;have ks4:=ai4.short;subst ka4 kb4;have ka5:=ai5.len;have kb5:=bi5.len;have ks5:=ai5.short;subst ka5 kb5;refine zF Tryz.func9 Tryz.ntmps9 (fun w0=>?_);refine Yj (Yq (Ya Zz (Xb _ Zz Zz (fun g0=>?_))));refine Ya Zz (Xb _ Zz Zz (fun g1=>?_));refine zW ?_
 (((refine zC (fun e1=>?_) (fun e1=>?_));(exact absurd rfl e1);(refine zW ?_)));refine zc (YhL ai0 bi0) ?_;refine wc (YhL ai1 bi1) ?_;refine zW ?_
 (((refine zC (fun e2=>?_) (fun e2=>?_));(exact absurd rfl e2);(refine zW ?_)))
 (((refine zC (fun e3=>?_) (fun e3=>?_));(exact absurd rfl e3);(refine zW ?_)))
 (((refine zC (fun e4=>?_) (fun e4=>?_));(exact absurd rfl e4);(refine zW ?_)))
 (((refine zC (fun e5=>?_) (fun e5=>?_));(exact absurd rfl e5);(refine zW ?_)));refine Ym (fun q σ fz' H'=>∃ k:Nat,k<=x.predicates.length/\q=x.predicates.length - k/\σ=[(5,Zk k),(3,Zp g1),(2,Zp g0)]/\fz=fz'/\H'=[(g1,.cells #[.string x.name,.slice bC0 bo0 bq0,.slice bC1 bo1 bq1,.slice bC2 x.predicates.length bq2,.slice bC3 x.functions.length bq3,.slice bC4 x.actions.length bq4,.slice bC5 x.duratives.length bq5] 31 (0,0)),(g0,.cells #[.string x.name,.slice aC0 ao0 aq0,.slice aC1 ao1 aq1,.slice aC2 x.predicates.length aq2,.slice aC3 x.functions.length aq3,.slice aC4 x.actions.length aq4,.slice aC5 x.duratives.length aq5] 31 (0,0))]) ⟨0,Z0 _,rfl,rfl,rfl,rfl⟩ Zw Zb ?_;rintro q σ fz' H' ⟨k,hk,rfl,rfl,rfl,rfl⟩;refine wC (fun c2=>?_) (fun c2=>?_)
 ·obtain ⟨y,hy⟩:=Yl (l:=x.predicates) (k:=k) Zi;refine wI ai2 hy (fun p1 hp1=>?_);refine wH hp1.Predicate_name (fun s1=>?_);refine wI bi2 hy (fun p2 hp2=>?_);refine wH hp2.Predicate_name (fun s2=>?_);refine zW ?_
  (((refine zC (fun n1=>?_) (fun n1=>?_));(exact absurd rfl n1);(refine zW ?_)));refine zI ai2 hy (fun p3 hp3=>?_);refine wG ?_;refine Ybh T Zz Zz Zz hp3.Predicate_params (fun P1 m1 z1 j1=>?_);refine wI bi2 hy (fun p4 hp4=>?_);refine wG ?_;refine Ybh T Zz Zz Zz hp4.Predicate_params (fun P2 m2 z2 j2=>?_);refine zc (YhL j1 j2) ?_;exact wP (h:=by exact ⟨k+1,by omega,rfl,rfl,rfl,rfl⟩)
 refine zW ?_;refine Ym (fun q σ fz' H'=>∃ k:Nat,k<=x.functions.length/\q=x.functions.length - k/\σ=[(6,Zk k),(3,Zp g1),(2,Zp g0)]/\fz=fz'/\H'=[(g1,.cells #[.string x.name,.slice bC0 bo0 bq0,.slice bC1 bo1 bq1,.slice bC2 x.predicates.length bq2,.slice bC3 x.functions.length bq3,.slice bC4 x.actions.length bq4,.slice bC5 x.duratives.length bq5] 31 (0,0)),(g0,.cells #[.string x.name,.slice aC0 ao0 aq0,.slice aC1 ao1 aq1,.slice aC2 x.predicates.length aq2,.slice aC3 x.functions.length aq3,.slice aC4 x.actions.length aq4,.slice aC5 x.duratives.length aq5] 31 (0,0))]) ⟨0,Z0 _,rfl,rfl,rfl,rfl⟩ Zw Zb ?_;rintro q σ fz' H' ⟨k,hk,rfl,rfl,rfl,rfl⟩;refine wC (fun c2=>?_) (fun c2=>?_)
 ·obtain ⟨y,hy⟩:=Yl (l:=x.functions) (k:=k) Zi;refine zWN ?_;refine Wp.mid (fun σ fz' H'=>∃ g6 g7 ca cb,σ=[(6,Zk k),(8,Zp g7),(7,Zp g6),(3,Zp g1),(2,Zp g0)]/\fz=fz'/\H'=(g7,.cells (List.toArray cb) 71 (0,0))::(g6,.cells (List.toArray ca) 71 (0,0)):: [(g1,.cells #[.string x.name,.slice bC0 bo0 bq0,.slice bC1 bo1 bq1,.slice bC2 x.predicates.length bq2,.slice bC3 x.functions.length bq3,.slice bC4 x.actions.length bq4,.slice bC5 x.duratives.length bq5] 31 (0,0)),(g0,.cells #[.string x.name,.slice aC0 ao0 aq0,.slice aC1 ao1 aq1,.slice aC2 x.predicates.length aq2,.slice aC3 x.functions.length aq3,.slice aC4 x.actions.length aq4,.slice aC5 x.duratives.length aq5] 31 (0,0))]/\functionL.rep fz y ca/\functionL.rep fz y cb) ?_ ?_
  ·refine Wp.drawP [] (Hq:=[_,_]) T.mixed Zj Zj Zb ?_;refine wI ai3 hy (fun p1 hp1=>?_);refine zL hp1 ?_;intro cs1 hr1;have hr1':=hr1;obtain ⟨x1,rfl,hY1⟩:=Y9 hr1;obtain ⟨F1,f1,y1,rfl,_⟩:=hY1.params;refine wI bi3 hy (fun p2 hp2=>?_);refine zL hp2 ?_;intro cs2 hr2;have hr2':=hr2;obtain ⟨x2,rfl,hY2⟩:=Y9 hr2;obtain ⟨F2,f2,y2,rfl,_⟩:=hY2.params;refine zW ?_;refine Ye ?_;refine Ye ?_;refine Ye ?_;refine Ye ?_;refine PK.done ⟨by kernel_rfl,?_⟩;refine YI Zz Zz Zz ?_ ?_
   ·refine Yd (Y6 T Zz Zz (fun g6=>⟨(⟨(Le.refl _),Zx⟩),?_⟩));refine Yc Zz Zz ?_;refine Yd (Y6 T Zz Zz (fun g7=>⟨(⟨(Le.refl _),Zx⟩),?_⟩));refine Yc Zz Zz ?_;refine PoS.soft0 (YU T Zz Zz Zz Zz Zz Zz ⟨(⟨(Le.refl _),Zx⟩),?_⟩);refine Yc Zz Zz ?_;refine PoS.soft0 (YV T Zz Zz Zz Zz Zz Zz ⟨(⟨(Le.refl _),Zx⟩),?_⟩);refine Po.done ?_;exact wN (h:=by exact ⟨g6,g7,_,_,rfl,rfl,rfl,hr1',hr2'⟩)
   refine Yd (Y6 T Zz Zz (fun g7=>⟨(⟨(Le.refl _),Zx⟩),?_⟩));refine Yc Zz Zz ?_;refine Yd (Y6 T Zz Zz (fun g6=>⟨(⟨(Le.refl _),Zx⟩),?_⟩));refine Yc Zz Zz ?_;refine PoS.soft0 (YV T Zz Zz Zz Zz Zz Zz ⟨(⟨(Le.refl _),Zx⟩),?_⟩);refine Yc Zz Zz ?_;refine PoS.soft0 (YU T Zz Zz Zz Zz Zz Zz ⟨(⟨(Le.refl _),Zx⟩),?_⟩);refine Po.done ?_;refine zW ?_;exact midP (H1:=(g7,_)::(g6,_):: [_,_]) (List.Perm.swap _ _ _) ⟨g6,g7,_,_,rfl,rfl,rfl,hr1',hr2'⟩ Zw Zb
  rintro σ fz' H' ⟨g6,g7,ca,cb,rfl,rfl,rfl,hr1,hr2⟩;obtain ⟨x1,rfl,hY1⟩:=Y9 hr1;obtain ⟨F1,f1,y1,rfl,j1⟩:=hY1.params;obtain ⟨x2,rfl,hY2⟩:=Y9 hr2;obtain ⟨F2,f2,y2,rfl,j2⟩:=hY2.params;refine zW ?_
  (((refine zC (fun n1=>?_) (fun n1=>?_));(exact absurd rfl n1);(refine zW ?_)))
  (((refine zC (fun n2=>?_) (fun n2=>?_));(exact absurd rfl n2);(refine zW ?_)))
  (((refine zC (fun n3=>?_) (fun n3=>?_));(exact absurd rfl n3);(refine zW ?_)));refine zc (YhL j1 j2) ?_;exact wP (h:=by exact ⟨k+1,by omega,rfl,rfl,rfl,rfl⟩)
 refine zW ?_;refine Ym (fun q σ fz' H'=>∃ k:Nat,k<=x.actions.length/\q=x.actions.length - k/\σ=[(9,Zk k),(3,Zp g1),(2,Zp g0)]/\fz=fz'/\H'=[(g1,.cells #[.string x.name,.slice bC0 bo0 bq0,.slice bC1 bo1 bq1,.slice bC2 x.predicates.length bq2,.slice bC3 x.functions.length bq3,.slice bC4 x.actions.length bq4,.slice bC5 x.duratives.length bq5] 31 (0,0)),(g0,.cells #[.string x.name,.slice aC0 ao0 aq0,.slice aC1 ao1 aq1,.slice aC2 x.predicates.length aq2,.slice aC3 x.functions.length aq3,.slice aC4 x.actions.length aq4,.slice aC5 x.duratives.length aq5] 31 (0,0))]) ⟨0,Z0 _,rfl,rfl,rfl,rfl⟩ Zw Zb ?_;rintro q σ fz' H' ⟨k,hk,rfl,rfl,rfl,rfl⟩;refine wC (fun c2=>?_) (fun c2=>?_)
 ·obtain ⟨y,hy⟩:=Yl (l:=x.actions) (k:=k) Zi;refine wI ai4 hy (fun p1 hp1=>?_);refine zL hp1 ?_;intro cs1 hr1;obtain ⟨y1,y2,y3,y4,y5,y6,rfl,hY1⟩:=Xq hr1;refine wI bi4 hy (fun p2 hp2=>?_);refine zL hp2 ?_;intro cs2 hr2;obtain ⟨z1,z2,z3,z4,z5,z6,rfl,hY2⟩:=Xq hr2;refine wc (eaction hY1 hY2) ?_;exact wP (h:=by exact ⟨k+1,by omega,rfl,rfl,rfl,rfl⟩)
 refine zW ?_;refine Ym (fun q σ fz' H'=>∃ k:Nat,k<=x.duratives.length/\q=x.duratives.length - k/\σ=[(10,Zk k),(3,Zp g1),(2,Zp g0)]/\fz=fz'/\H'=[(g1,.cells #[.string x.name,.slice bC0 bo0 bq0,.slice bC1 bo1 bq1,.slice bC2 x.predicates.length bq2,.slice bC3 x.functions.length bq3,.slice bC4 x.actions.length bq4,.slice bC5 x.duratives.length bq5] 31 (0,0)),(g0,.cells #[.string x.name,.slice aC0 ao0 aq0,.slice aC1 ao1 aq1,.slice aC2 x.predicates.length aq2,.slice aC3 x.functions.length aq3,.slice aC4 x.actions.length aq4,.slice aC5 x.duratives.length aq5] 31 (0,0))]) ⟨0,Z0 _,rfl,rfl,rfl,rfl⟩ Zw Zb ?_;rintro q σ fz' H' ⟨k,hk,rfl,rfl,rfl,rfl⟩;refine wC (fun c2=>?_) (fun c2=>?_)
 ·obtain ⟨y,hy⟩:=Yl (l:=x.duratives) (k:=k) Zi;refine wI ai5 hy (fun p1 hp1=>?_);refine zL hp1 ?_;intro cs1 hr1;obtain ⟨y1,y2,y3,y4,y5,y6,y7,y8,y9,y10,y11,y12,y13,y14,y15,rfl,hY1⟩:=Xg hr1;refine wI bi5 hy (fun p2 hp2=>?_);refine zL hp2 ?_;intro cs2 hr2;obtain ⟨z1,z2,z3,z4,z5,z6,z7,z8,z9,z10,z11,z12,z13,z14,z15,rfl,hY2⟩:=Xg hr2;refine wc (YnQ hY1 hY2) ?_;exact wP (h:=by exact ⟨k+1,by omega,rfl,rfl,rfl,rfl⟩)
 exact wR (h:=rfl)
variable {va vb:Value}
theorem ecmp {a:Atom} (ha:AtomR fz a va) (hb:AtomR fz a vb):QFn prog 42 [.agg #[.string a.name,va],.agg #[.string a.name,vb]] fz (Zk 0):=by
 have:=rcmp_q ha hb;rw [(Yn1 a a).2 rfl] at this;exact this
theorem eatoms {m d:Nat} {l:List Atom} (h1:Sl atomL fz A n c l) (h2:Sl atomL fz B m d l):QFn prog 21 [.slice A n c,.slice B m d] fz (.bool true):=by
 have k1:=h1.len;have k2:=h2.len;have k3:=h1.short;subst k1 k2;refine GFn.quiet ?_;refine zF Tryz.func21 Tryz.ntmps21 (fun w0=>?_);refine zW ?_
 (((refine zC (fun c1=>?_) (fun c1=>?_));(exact absurd rfl c1);(refine zW ?_)));refine Ym (fun q σ fz' H'=>∃ k:Nat,k<=l.length/\q=l.length - k/\σ=[(5,Zk k),(0,.slice A l.length c),(1,.slice B l.length d)]/\fz=fz'/\H'=[]) ⟨0,Z0 _,rfl,rfl,rfl,rfl⟩ Zw Zb ?_;rintro q σ fz' H' ⟨k,hk,rfl,rfl,rfl,rfl⟩;refine wC (fun c2=>?_) (fun c2=>?_)
 ·obtain ⟨x,hx⟩:=Yl (l:=l) (k:=k) Zi;refine wI h1 hx (fun p1 hp1=>?_);refine zL hp1 ?_;intro cs1 hr1;obtain ⟨v1,rfl,hY1⟩:=WF hr1;refine wI h2 hx (fun p2 hp2=>?_);refine zL hp2 ?_;intro cs2 hr2;obtain ⟨v2,rfl,hY2⟩:=WF hr2;refine wc (ecmp hY1 hY2) ?_;refine zW ?_
  (((refine zC (fun n1=>?_) (fun n1=>?_));(exact absurd rfl n1);(refine zW ?_)));exact wP (h:=by exact ⟨k+1,by omega,rfl,rfl,rfl,rfl⟩)
 exact wR (h:=rfl)
theorem evalues {m d:Nat} {l:List Value_} (h1:Sl valueL fz A n c l) (h2:Sl valueL fz B m d l):QFn prog 22 [.slice A n c,.slice B m d] fz (.bool true):=by
 have k1:=h1.len;have k2:=h2.len;have k3:=h1.short;subst k1 k2;refine GFn.quiet ?_;refine zF Tryz.func22 Tryz.ntmps22 (fun w0=>?_);refine zW ?_
 (((refine zC (fun c1=>?_) (fun c1=>?_));(exact absurd rfl c1);(refine zW ?_)));refine Ym (fun q σ fz' H'=>∃ k:Nat,k<=l.length/\q=l.length - k/\σ=[(5,Zk k),(0,.slice A l.length c),(1,.slice B l.length d)]/\fz=fz'/\H'=[]) ⟨0,Z0 _,rfl,rfl,rfl,rfl⟩ Zw Zb ?_;rintro q σ fz' H' ⟨k,hk,rfl,rfl,rfl,rfl⟩;refine wC (fun c2=>?_) (fun c2=>?_)
 ·obtain ⟨x,hx⟩:=Yl (l:=l) (k:=k) Zi;refine wI h1 hx (fun p1 hp1=>?_);refine wG ?_;refine XG T Zz Zz Zz hp1.Value__n (fun i1=>?_);refine wI h2 hx (fun p2 hp2=>?_);refine wG ?_;refine XG T Zz Zz Zz hp2.Value__n (fun i2=>?_);refine zW ?_
  (((refine zC (fun n1=>?_) (fun n1=>?_));(exact absurd rfl n1);(refine zW ?_)));refine zI h1 hx (fun p3 hp3=>?_);refine wL hp3.Value__fluent ?_;intro cs1 hr1;obtain ⟨v1,rfl,hY1⟩:=WF hr1;refine wI h2 hx (fun p4 hp4=>?_);refine wL hp4.Value__fluent ?_;intro cs2 hr2;obtain ⟨v2,rfl,hY2⟩:=WF hr2;refine wc (ecmp hY1 hY2) ?_;refine zW ?_
  (((refine zC (fun n2=>?_) (fun n2=>?_));(exact absurd rfl n2);(refine zW ?_)));exact wP (h:=by exact ⟨k+1,by omega,rfl,rfl,rfl,rfl⟩)
 exact wR (h:=rfl)
set_option maxHeartbeats 4000000 in
theorem eproblem {x:Problem} {w4 w5 w6 w7:Value} (h1:ProblemR fz x v1 v2 v3 v4 v5 v6 v7) (h2:ProblemR fz x w1 w2 w3 w4 w5 w6 w7):
 QFn prog 10 [.agg #[.string x.name,.string x.domain,v1,v2,v3,.string x.goal.op,.string x.goal.name,v4,v5,v6,v7],.agg #[.string x.name,.string x.domain,w1,w2,w3,.string x.goal.op,.string x.goal.name,w4,w5,w6,w7]] fz (.bool true):=by
 have p1:=h1.goal;have p2:=h2.goal;refine GFn.quiet ?_;obtain ⟨aC0,ao0,aq0,rfl,ai0⟩:=h1.objects;obtain ⟨aC1,ao1,aq1,rfl,ai1⟩:=h1.init;obtain ⟨aC2,ao2,aq2,rfl,ai2⟩:=h1.values;obtain ⟨aC3,ao3,aq3,rfl,ai3⟩:=h1.goal.args;obtain ⟨aC4,ao4,aq4,rfl,ai4⟩:=h1.goal.params;obtain ⟨aC5,ao5,aq5,rfl,ai5⟩:=h1.goal.exprs;obtain ⟨aC6,ao6,aq6,rfl,ai6⟩:=h1.goal.kids;obtain ⟨bC0,bo0,bq0,rfl,bi0⟩:=h2.objects;obtain ⟨bC1,bo1,bq1,rfl,bi1⟩:=h2.init;obtain ⟨bC2,bo2,bq2,rfl,bi2⟩:=h2.values;obtain ⟨bC3,bo3,bq3,rfl,bi3⟩:=h2.goal.args;obtain ⟨bC4,bo4,bq4,rfl,bi4⟩:=h2.goal.params;obtain ⟨bC5,bo5,bq5,rfl,bi5⟩:=h2.goal.exprs;obtain ⟨bC6,bo6,bq6,rfl,bi6⟩:=h2.goal.kids;refine zF Tryz.func10 Tryz.ntmps10 (fun w0=>?_);refine Yj (Yq (Ya Zz (Xb _ Zz Zz (fun g0=>?_))));refine Ya Zz (Xb _ Zz Zz (fun g1=>?_));refine zW ?_
 (((refine zC (fun e1=>?_) (fun e1=>?_));rotate_left 1;(exact absurd rfl e1);(refine zW ?_)))
 (((refine zC (fun e2=>?_) (fun e2=>?_));rotate_left 1;(exact absurd rfl e2);(refine zW ?_)));refine zc (YhL ai0 bi0) ?_;refine wc (eatoms ai1 bi1) ?_;refine wc (evalues ai2 bi2) ?_;refine wG ?_;refine Yo (vs:=[.string x.goal.op,.string x.goal.name,.slice aC3 ao3 aq3,.slice aC4 ao4 aq4,.slice aC5 ao5 aq5,.slice aC6 ao6 aq6]) T 1 Zz Zz Zz Zz Zz Zz ?_;refine wG ?_;refine Yo (vs:=[.string x.goal.op,.string x.goal.name,.slice bC3 bo3 bq3,.slice bC4 bo4 bq4,.slice bC5 bo5 bq5,.slice bC6 bo6 bq6]) T 0 Zz Zz Zz Zz Zz Zz ?_;refine zc (YlH p1 p2) ?_;exact wR (h:=rfl)
variable {d:Domain} {p:Problem}
theorem chk_both (hc:(Yaj d p).2=0):(Ybt d/\XVal (domX d))/\FVal p.goal/\Ybs p/\XVal (prbX p):=by
 unfold Yaj at hc;have h1:Ybt d/\XVal (domX d):=Classical.byContradiction fun h=>by rw [if_pos h] at hc;exact absurd hc Zh
 rw [if_neg (fun h=>h h1)] at hc;exact ⟨h1,Classical.byContradiction fun h=>by rw [if_pos h] at hc;exact absurd hc Zh⟩
variable {u1 u2 u3 u4 u5 u6 u7:Value}
set_option maxHeartbeats 8000000 in
theorem Ylz (hT:TabF fz) (hX:MaxF fz) (hD:DomainR fz d v1 v2 v3 v4 v5 v6) (hP:ProblemR fz p u1 u2 u3 u4 u5 u6 u7) (hd:domW d<=1300000) (hp:prbW p<=1300000):
 QFn prog 4 [.agg #[.string d.name,v1,v2,v3,v4,v5,v6],.agg #[.string p.name,.string p.domain,u1,u2,u3,.string p.goal.op,.string p.goal.name,u4,u5,u6,u7]] fz (.bool true):=by
 have hD0:=hD;have hP0:=hP;have hS:=chkq_of hd hp;have hn:=Yng d p;have hck:=Yn4 hX hD hP hS;have hpd:=pdom_q hD hS.dsm hT;have hpp:=pprb_q hP hS.psm hT;obtain ⟨A1,n1,b1,rfl,i1⟩:=hD.types;obtain ⟨A2,n2,b2,rfl,i2⟩:=hD.constants;obtain ⟨A3,n3,b3,rfl,i3⟩:=hD.predicates;obtain ⟨A4,n4,b4,rfl,i4⟩:=hD.functions;obtain ⟨A5,n5,b5,rfl,i5⟩:=hD.actions;obtain ⟨A6,n6,b6,rfl,i6⟩:=hD.duratives;obtain ⟨B1,m1,d1,rfl,j1⟩:=hP.objects;obtain ⟨B2,m2,d2,rfl,j2⟩:=hP.init;obtain ⟨B3,m3,d3,rfl,j3⟩:=hP.values;obtain ⟨B4,m4,d4,rfl,_⟩:=hP.goal.args;obtain ⟨B5,m5,d5,rfl,_⟩:=hP.goal.params;obtain ⟨B6,m6,d6,rfl,_⟩:=hP.goal.exprs;obtain ⟨B7,m7,d7,rfl,_⟩:=hP.goal.kids;rw [resV] at hck;refine GFn.quiet ?_;refine zF Tryz.func4 Tryz.ntmps4 (fun w0=>?_);refine Yj (Yq (Ya Zz (Xb _ Zz Zz (fun g2=>?_))));refine Ya Zz (Xb _ Zz Zz (fun g3=>?_));refine wG ?_;refine We Zz Zz (YlB hD0 hP0 Zi) (fun f1=>?_) (fun f1=>?_)
 ·refine wc (Yjh hT hX) ?_;exact wR (h:=rfl)
 refine wc (Yjh hT hX) ?_;unfold Yiy at hpd hpp;by_cases hc:(Yaj d p).2=0;rotate_left 1
 ·rw [Yk hc] at hck;refine wc hck ?_;refine wc hpd ?_;refine wc hpp ?_;exact wR (h:=rfl)
 obtain ⟨hb1,hb2⟩:=chk_both hc;rw [hc,show errV 0=.nilIface from rfl] at hck;rw [if_pos hb1,if_pos hb1,show errV 0=.nilIface from rfl] at hpd;rw [if_pos hb2,if_pos hb2,show errV 0=.nilIface from rfl] at hpp;have hback:=fun a b=>Ync (d:=d) (p:=p) hc a b
 have hsa:=XF (lay 80 (domX d) 0++ [10]);have hsb:=XF (lay 80 (prbX p) 0++ [10]);rw [<- hsa,<- hsb] at hback;generalize (strOf (lay 80 (domX d) 0++ [10]))=ta at*;generalize (strOf (lay 80 (prbX p) 0++ [10]))=tb at*;refine wc hck ?_;refine wc hpd ?_;refine wc hpp ?_;refine wC (fun x1=>?_) (fun x1=>?_)
 ·exact wR (h:=rfl)
 refine wC (fun x2=>?_) (fun x2=>?_)
 ·exact wR (h:=rfl)
 have hback:=hback Zi Zi;refine wK (q:=load_f (a:=ta) (b:=tb) hT hX) (h:=fun r1 fz1 H1 hle1 hR1=>?_);obtain ⟨rfl,hR1⟩:=hR1;rw [hback] at hR1;obtain ⟨d',p',cd1,cp1,pl1,hd1,hp1,rfl,rfl,rfl⟩:=hR1;rw [List.nil_append];obtain ⟨w1,w2,w3,w4,w5,w6,rfl,hD1⟩:=YcQ hd1;obtain ⟨y1,y2,y3,y4,y5,y6,y7,rfl,hP1⟩:=Ya1 hp1;have hD1':=hD1;have hP1':=hP1;obtain ⟨aD0,ad0,az0,rfl,_⟩:=hD1.types;obtain ⟨aD1,ad1,az1,rfl,_⟩:=hD1.constants;obtain ⟨aD2,ad2,az2,rfl,_⟩:=hD1.predicates;obtain ⟨aD3,ad3,az3,rfl,_⟩:=hD1.functions;obtain ⟨aD4,ad4,az4,rfl,_⟩:=hD1.actions;obtain ⟨aD5,ad5,az5,rfl,_⟩:=hD1.duratives;obtain ⟨aP0,ap0,ay0,rfl,_⟩:=hP1.objects;obtain ⟨aP1,ap1,ay1,rfl,_⟩:=hP1.init;obtain ⟨aP2,ap2,ay2,rfl,_⟩:=hP1.values;obtain ⟨aP3,ap3,ay3,rfl,_⟩:=hP1.goal.args;obtain ⟨aP4,ap4,ay4,rfl,_⟩:=hP1.goal.params;obtain ⟨aP5,ap5,ay5,rfl,_⟩:=hP1.goal.exprs;obtain ⟨aP6,ap6,ay6,rfl,_⟩:=hP1.goal.kids;refine zW ?_;intros;refine zC (fun e1=>?_) (fun e1=>?_);rotate_left 1
 ·exact absurd rfl e1
 refine wc (edomain hD1' (hD0.mono hle1)) ?_;refine wc (eproblem hP1' (hP0.mono hle1)) ?_;exact wR (h:=rfl)
end Go.Proofs.YtfjopfinkdhmaaaGreatDoor
namespace Go.Lx
open Go.RowKit Go.ChangeShapes Go.WideShapes Go.Deep
theorem Yne {α:Type} {p:Nat->α->Prop}:∀ {n:Nat},(∀ i,i<n->∃ d,p i d)->∃ ds:List α,ds.length=n/\∀ i d,ds[i]?=some d->p i d
 | 0,_=>⟨[],rfl,by simp⟩
 | n+1,h=>by
  obtain ⟨ds,h1,h2⟩:=Yne (n:=n) (fun i hi=>h i Zi);obtain ⟨d,hd⟩:=h n Zi;refine ⟨ds++ [d],by simp [h1],fun i e he=>?_⟩;by_cases hi:i<ds.length
  ·rw [List.getElem?_append_left hi] at he;exact h2 i e he
  have hl:=(Zg he).1;simp at hl;have:i=n:=by omega
  subst this;rw [List.getElem?_append_right Zi,h1] at he;simp at he;subst he;exact hd
section
variable {H:Type} {enc:TypeId × Value->H} {P:Program} {w:World} {base:Nat} {spare:Nat->Bool} {held:Bool}
variable {fz:FZ} {v:Value}
theorem X0 {α:Type} {L:Lay α} {xs:List α} (h:(slL L).rep fz xs [v]):IsSl L fz v xs:=by
 obtain ⟨A,n,c,e,hs⟩:=h;injection e with e
 exact ⟨A,n,c,e,hs⟩
theorem Ybe {s:Bs} (h:strL.rep fz s [v]):v=.string s/\Short s:=by
 obtain ⟨e,hs⟩:=h;injection e with e
 exact ⟨e,hs⟩
theorem YfF {n:Int} (h:intL.rep fz n [v]):v=Zk n/\I64 n:=by
 obtain ⟨e,hs⟩:=h;injection e with e
 exact ⟨e,hs⟩
end
end Go.Lx
set_option maxRecDepth 100000
namespace Go.Proofs.YtfjopfinkdhmaaaGreatDoor
open Go.Lx Go.RowKit Go.ChangeShapes Go.WideShapes Go.Deep
open Go.Proofs.Tryz (prog)
theorem YhW {H:Type} (d:DataW H):1<=Rows.uptoBulk d:=by
 cases d with
 | lit l=>cases l<;>simp [Rows.uptoBulk]
 | nil=>simp [Rows.uptoBulk]
 | ptr d=>simp [Rows.uptoBulk]
 | slice elems spare=>simp [Rows.uptoBulk]
 | agg parts=>simp [Rows.uptoBulk]
 | iface t d=>simp [Rows.uptoBulk]
 | map entries=>simp [Rows.uptoBulk]
 | held h=>simp [Rows.uptoBulk]
theorem Yf4 {H:Type} {d:DataW H}:∀ {l:List (DataW H)},d∈l->Rows.uptoBulk d<=Rows.uptoBulkAll l
 | [],h=>by cases h
 | x::r,h=>by
  simp only [Rows.uptoBulkAll];rcases List.mem_cons.1 h with rfl | h
  ·omega
  have:=Yf4 h;omega
theorem Ylh {H:Type}:∀ (l:List (DataW H)),l.length<=Rows.uptoBulkAll l
 | []=>by simp [Rows.uptoBulkAll]
 | x::r=>by have:=YhW x;have:=Ylh r;simp only [Rows.uptoBulkAll,List.length_cons];omega
theorem Ylg {H α:Type} {wt:α->Nat}:∀ {l:List (DataW H)} {ds:List α},ds.length=l.length->(∀ (i:Nat) (d:α) (x:DataW H),ds[i]?=some d->l[i]?=some x->wt d<=Rows.uptoBulk x)->(ds.map wt).sum<=Rows.uptoBulkAll l
 | [],ds,h,_=>by
  have:ds=[]:=List.eq_nil_of_length_eq_zero (by simpa using h);subst this;simp
 | x::r,ds,h,hh=>by
  cases ds with
  | nil=>simp at h
  | cons d ds=>
   have h1:=hh 0 d x rfl rfl;have h2:=Ylg (l:=r) (ds:=ds) (wt:=wt) (by simpa using h) (fun i e y he hy=>hh (i+1) e y (by simpa using he) (by simpa using hy));simp only [List.map_cons,List.sum_cons,Rows.uptoBulkAll];omega
section
variable {H:Type} {enc:TypeId × Value->H} {P:Program} {w:World} {base:Nat} {spare:Nat->Bool} {held:Bool}
def Wx (enc:TypeId × Value->H) (P:Program) (w:World) (base:Nat) (spare:Nat->Bool) (held:Bool) {α:Type} (L:Lay α) (wt:α->Nat) (t:TypeId) (fuel:Nat):Prop:=
 ∀ cs x,DataW.trod enc P w base spare held fuel t cs=some x->Rows.uptoBulk x.1<=1048576->∃ d,L.rep (fzOf w) d cs/\wt d<=Rows.uptoBulk x.1
variable {t:TypeId}
theorem XM {α:Type} {L:Lay α} {wt:α->Nat} {e:TypeId} {fuel:Nat} (ht:P.underlying t=some (.slice e)) (hc:P.cellsOf e=L.size) (he:∀ n,n<fuel->Wx enc P w base spare held L wt e n):Wx enc P w base spare held (slL L) (fun l=>(l.map wt).sum) t fuel:=fun cs x h hq=>by
 rcases DataW.trod_slice ht h with ⟨rfl,_⟩ | ⟨a,len,cap,elems,rest,n,hfu,rfl,rfl,_,hl,hm,hlen,hel,_,_⟩
 ·exact ⟨[],⟨none,0,0,rfl,Sl.nil Zi⟩,by simp⟩
 have hbd:Rows.uptoBulkAll (elems.map (·.1))+1<=Rows.uptoBulk (.slice (elems.map (·.1)) (rest.map (·.1)):DataW H):=by simp only [Rows.uptoBulk];omega
 have hbl:=Ylh (elems.map (·.1));rw [List.length_map] at hbl;obtain ⟨ds,h1,h2⟩:=Yne (p:=fun i d=>At L (fzOf w) (a.add (i*L.size)) d/\∀ y,elems[i]?=some y->wt d<=Rows.uptoBulk y.1) (n:=len) (fun i hil=>by
  have hx:elems[i]?=some (elems[i]'Zi):=List.getElem?_eq_getElem _;have h3:=hel i hil;rw [hx] at h3;cases hcs:w.cells? base (a.add (i*P.cellsOf e)) (P.cellsOf e) with
  | none=>rw [hcs] at h3;cases h3
  | some cs'=>
   rw [hcs] at h3;have hpt:=Yf4 (d:=(elems[i]'Zi).1) (l:=elems.map (·.1)) (List.mem_map.2 ⟨_,Zm hx,rfl⟩);have hq':Rows.uptoBulk (.slice (elems.map (·.1)) (rest.map (·.1)):DataW H)<=1048576:=hq;obtain ⟨d,hd,hw⟩:=he n Zi _ _ h3 Zi;obtain ⟨_,hlen,hat⟩:=World.cells?_some hcs;refine ⟨d,⟨cs',hd,fun j u hu=>?_⟩,fun y hy=>by rw [hx] at hy;injection hy with hy;subst hy;exact hw⟩;have hj:j<cs'.length:=(Zg hu).1;rw [<- hc];exact Ylf ((hat j Zi).trans hu))
 have hq':Rows.uptoBulk (.slice (elems.map (·.1)) (rest.map (·.1)):DataW H)<=1048576:=hq;refine ⟨ds,⟨some a,len,cap,rfl,h1,hl,by simpa [maxLen] using hm,by omega,.inr ⟨a,rfl,fun i d hd=>(h2 i d hd).1⟩⟩,?_⟩;have:=Ylg (wt:=wt) (ds:=ds) (l:=elems.map (·.1)) (by rw [List.length_map];omega) (fun i d x hd hx=>by
  rw [List.getElem?_map] at hx;cases hy:elems[i]? with
  | none=>rw [hy] at hx;cases hx
  | some y=>rw [hy] at hx;injection hx with hx;subst hx;exact (h2 i d hd).2 y hy)
 exact Nat.le_trans (Nat.le_trans this (Nat.le_succ _)) hbd
variable {cs:List Value} {i k n:Nat}
theorem Yp {α:Type} {L:Lay α} {wt:α->Nat} {fs:Array Field} {xs:List (DataW H × List MemPlace)} (hf:∀ (i:Nat) (f:Field),fs[i]?=some f->DataW.trod enc P w base spare held n f.type ((cs.drop f.offset).take (P.cellsOf f.type))=xs[i]?)
 (hq:Rows.uptoBulkAll (xs.map (·.1))<=1048576) {f:Field} {y:DataW H × List MemPlace} (hi:fs[i]?=some f) (hy:xs[i]?=some y) (he:Wx enc P w base spare held L wt f.type n) (hc:P.cellsOf f.type=k) {cs':List Value} (hv:(cs.drop f.offset).take k=cs'):
 ∃ d,L.rep (fzOf w) d cs'/\wt d<=Rows.uptoBulk y.1:=by
 have h1:=hf i f hi;rw [hc,hy,hv] at h1;have:=Yf4 (d:=y.1) (l:=xs.map (·.1)) (List.mem_map.2 ⟨_,Zm hy,rfl⟩);exact he _ _ h1 Zi
end
section
variable {H:Type} {enc:TypeId × Value->H} {w:World} {base:Nat} {spare:Nat->Bool} {held:Bool}
theorem Ycb {fuel:Nat}:Wx enc prog w base spare held intL (fun _=>1) 3 fuel:=fun cs x h _=>by
 obtain ⟨n,h1,_,h2⟩:=DataW.trod_int Tryz.underlying3 h;exact ⟨n,⟨h1,by simp [Lit.wf,IntKind.min,IntKind.max,IntKind.signed,IntKind.bits] at h2;unfold I64;omega⟩,YhW _⟩
theorem Wy {fuel:Nat}:Wx enc prog w base spare held strL strW 9 fuel:=fun cs x h _=>by
 obtain ⟨s,h1,_,h2⟩:=DataW.trod_string Tryz.underlying9 h;exact ⟨s,⟨h1,by simpa [maxLen] using h2⟩,YhW _⟩
theorem YdL {fuel:Nat}:Wx enc prog w base spare held (slL strL) (fun l=>(l.map strW).sum) 34 fuel:=XM Tryz.underlying34 Zj (fun _ _=>Wy)
theorem YiF {fuel:Nat}:Wx enc prog w base spare held paramL parW 110 fuel:=fun cs x h hq0=>by
 obtain ⟨xs,n,hfu,rfl,hcl,hxl,hf⟩:=DataW.trod_struct Tryz.underlying110 h;have hc:prog.cellsOf 110=2:=by kernel_rfl
 rw [hc] at hcl;have hq:Rows.uptoBulkAll (xs.map (·.1))<=1048576:=by simp only [Rows.uptoBulk] at hq0;omega
 match cs,hcl,xs,hxl,hf,hq with
 | [v0,v1],_,[x0,x1],_,hf,hq=>
  obtain ⟨d0,r0,b0⟩:=(Yp hf hq (i:=0) (k:=1) (y:=x0) (cs':=[v0]) rfl rfl Wy Zj rfl);obtain ⟨rfl,k0⟩:=Ybe r0;obtain ⟨d1,r1,b1⟩:=(Yp hf hq (i:=1) (k:=1) (y:=x1) (cs':=[v1]) rfl rfl Wy Zj rfl);obtain ⟨rfl,k1⟩:=Ybe r1;refine ⟨⟨d0,d1⟩,⟨rfl,⟨k0,k1⟩⟩,?_⟩;simp only [List.map_cons,List.map_nil,Rows.uptoBulk,Rows.uptoBulkAll,parW];simp only [W9,Yaa] at*;omega
theorem X4 {fuel:Nat}:Wx enc prog w base spare held (slL paramL) (fun l=>(l.map parW).sum) 25 fuel:=XM Tryz.underlying25 Zj (fun _ _=>YiF)
theorem Yfy {fuel:Nat}:Wx enc prog w base spare held atomL Yf5 114 fuel:=fun cs x h hq0=>by
 obtain ⟨xs,n,hfu,rfl,hcl,hxl,hf⟩:=DataW.trod_struct Tryz.underlying114 h;have hc:prog.cellsOf 114=2:=by kernel_rfl
 rw [hc] at hcl;have hq:Rows.uptoBulkAll (xs.map (·.1))<=1048576:=by simp only [Rows.uptoBulk] at hq0;omega
 match cs,hcl,xs,hxl,hf,hq with
 | [v0,v1],_,[x0,x1],_,hf,hq=>
  obtain ⟨d0,r0,b0⟩:=(Yp hf hq (i:=0) (k:=1) (y:=x0) (cs':=[v0]) rfl rfl Wy Zj rfl);obtain ⟨rfl,k0⟩:=Ybe r0;obtain ⟨d1,r1,b1⟩:=(Yp hf hq (i:=1) (k:=1) (y:=x1) (cs':=[v1]) rfl rfl YdL Zj rfl);have k1:=X0 r1;refine ⟨⟨d0,d1⟩,⟨_,rfl,⟨k0,k1⟩⟩,?_⟩;simp only [List.map_cons,List.map_nil,Rows.uptoBulk,Rows.uptoBulkAll,Yf5];simp only [W9,Yaa] at*;omega
theorem YiH {fuel:Nat}:Wx enc prog w base spare held (slL atomL) (fun l=>(l.map Yf5).sum) 32 fuel:=XM Tryz.underlying32 Zj (fun _ _=>Yfy)
theorem YiE {fuel:Nat}:Wx enc prog w base spare held valueL YeD 116 fuel:=fun cs x h hq0=>by
 obtain ⟨xs,n,hfu,rfl,hcl,hxl,hf⟩:=DataW.trod_struct Tryz.underlying116 h;have hc:prog.cellsOf 116=3:=by kernel_rfl
 rw [hc] at hcl;have hq:Rows.uptoBulkAll (xs.map (·.1))<=1048576:=by simp only [Rows.uptoBulk] at hq0;omega
 match cs,hcl,xs,hxl,hf,hq with
 | [v0,v1,v2],_,[x0,x1],_,hf,hq=>
  obtain ⟨d0,r0,b0⟩:=(Yp hf hq (i:=0) (k:=2) (y:=x0) (cs':=[v0,v1]) rfl rfl Yfy Zj rfl);obtain ⟨y0_0,e0,k0⟩:=WF r0;simp only [List.cons.injEq,and_true] at e0;obtain ⟨rfl,rfl⟩:=e0;obtain ⟨d1,r1,b1⟩:=(Yp hf hq (i:=1) (k:=1) (y:=x1) (cs':=[v2]) rfl rfl Ycb Zj rfl);obtain ⟨rfl,k1⟩:=YfF r1;refine ⟨⟨d0,d1⟩,⟨_,rfl,⟨k0,k1⟩⟩,?_⟩;simp only [List.map_cons,List.map_nil,Rows.uptoBulk,Rows.uptoBulkAll,YeD];simp only [W9,Yaa] at*;omega
theorem Yhq {fuel:Nat}:Wx enc prog w base spare held (slL valueL) (fun l=>(l.map YeD).sum) 33 fuel:=XM Tryz.underlying33 Zj (fun _ _=>YiE)
theorem Yfw:∀ fuel:Nat,Wx enc prog w base spare held exprL eW 120 fuel:=fun fuel=>by
 induction fuel using Nat.strongRecOn with
 | _ fuel ih=>
  intro cs x h hq0;obtain ⟨xs,n,hfu,rfl,hcl,hxl,hf⟩:=DataW.trod_struct Tryz.underlying120 h;have hc:prog.cellsOf 120=5:=by kernel_rfl
  rw [hc] at hcl;have hq:Rows.uptoBulkAll (xs.map (·.1))<=1048576:=by simp only [Rows.uptoBulk] at hq0;omega
  match cs,hcl,xs,hxl,hf,hq with
  | [v0,v1,v2,v3,v4],_,[x0,x1,x2,x3,x4],_,hf,hq=>
   obtain ⟨d0,r0,b0⟩:=(Yp hf hq (i:=0) (k:=1) (y:=x0) (cs':=[v0]) rfl rfl Wy Zj rfl);obtain ⟨rfl,k0⟩:=Ybe r0;obtain ⟨d1,r1,b1⟩:=(Yp hf hq (i:=1) (k:=1) (y:=x1) (cs':=[v1]) rfl rfl Wy Zj rfl);obtain ⟨rfl,k1⟩:=Ybe r1;obtain ⟨d2,r2,b2⟩:=(Yp hf hq (i:=2) (k:=1) (y:=x2) (cs':=[v2]) rfl rfl Ycb Zj rfl);obtain ⟨rfl,k2⟩:=YfF r2;obtain ⟨d3,r3,b3⟩:=(Yp hf hq (i:=3) (k:=1) (y:=x3) (cs':=[v3]) rfl rfl YdL Zj rfl);have k3:=X0 r3;obtain ⟨d4,r4,b4⟩:=(Yp hf hq (i:=4) (k:=1) (y:=x4) (cs':=[v4]) rfl rfl (XM (L:=exprL) Tryz.underlying35 Zj (fun m hm=>ih m Zi)) Zj rfl);have k4:=X0 r4;refine ⟨.mk d0 d1 d2 d3 d4,YbV (x:=.mk d0 d1 d2 d3 d4) ⟨k0,k1,k2,k3,k4⟩,?_⟩;simp only [List.map_cons,List.map_nil,Rows.uptoBulk,Rows.uptoBulkAll,eW_eq,Expr.args,Expr.kids];simp only [W9,Yaa] at*;omega
theorem YiG {fuel:Nat}:Wx enc prog w base spare held (slL exprL) (fun l=>(l.map eW).sum) 35 fuel:=XM Tryz.underlying35 Zj (fun _ _=>Yfw _)
theorem WM:∀ fuel:Nat,Wx enc prog w base spare held YW fW 38 fuel:=fun fuel=>by
 induction fuel using Nat.strongRecOn with
 | _ fuel ih=>
  intro cs x h hq0;obtain ⟨xs,n,hfu,rfl,hcl,hxl,hf⟩:=DataW.trod_struct Tryz.underlying38 h;have hc:prog.cellsOf 38=6:=by kernel_rfl
  rw [hc] at hcl;have hq:Rows.uptoBulkAll (xs.map (·.1))<=1048576:=by simp only [Rows.uptoBulk] at hq0;omega
  match cs,hcl,xs,hxl,hf,hq with
  | [v0,v1,v2,v3,v4,v5],_,[x0,x1,x2,x3,x4,x5],_,hf,hq=>
   obtain ⟨d0,r0,b0⟩:=(Yp hf hq (i:=0) (k:=1) (y:=x0) (cs':=[v0]) rfl rfl Wy Zj rfl);obtain ⟨rfl,k0⟩:=Ybe r0;obtain ⟨d1,r1,b1⟩:=(Yp hf hq (i:=1) (k:=1) (y:=x1) (cs':=[v1]) rfl rfl Wy Zj rfl);obtain ⟨rfl,k1⟩:=Ybe r1;obtain ⟨d2,r2,b2⟩:=(Yp hf hq (i:=2) (k:=1) (y:=x2) (cs':=[v2]) rfl rfl YdL Zj rfl);have k2:=X0 r2;obtain ⟨d3,r3,b3⟩:=(Yp hf hq (i:=3) (k:=1) (y:=x3) (cs':=[v3]) rfl rfl X4 Zj rfl);have k3:=X0 r3;obtain ⟨d4,r4,b4⟩:=(Yp hf hq (i:=4) (k:=1) (y:=x4) (cs':=[v4]) rfl rfl YiG Zj rfl);have k4:=X0 r4;obtain ⟨d5,r5,b5⟩:=(Yp hf hq (i:=5) (k:=1) (y:=x5) (cs':=[v5]) rfl rfl (XM (L:=YW) Tryz.underlying36 Zj (fun m hm=>ih m Zi)) Zj rfl);have k5:=X0 r5;refine ⟨.mk d0 d1 d2 d3 d4 d5,WL (x:=.mk d0 d1 d2 d3 d4 d5) ⟨k0,k1,k2,k3,k4,k5⟩,?_⟩;simp only [List.map_cons,List.map_nil,Rows.uptoBulk,Rows.uptoBulkAll,YlG,Formula.args,Formula.params,Formula.exprs,Formula.kids];simp only [W9,Yaa] at*;omega
theorem Yhs {fuel:Nat}:Wx enc prog w base spare held changeL XS 123 fuel:=fun cs x h hq0=>by
 obtain ⟨xs,n,hfu,rfl,hcl,hxl,hf⟩:=DataW.trod_struct Tryz.underlying123 h;have hc:prog.cellsOf 123=15:=by kernel_rfl
 rw [hc] at hcl;have hq:Rows.uptoBulkAll (xs.map (·.1))<=1048576:=by simp only [Rows.uptoBulk] at hq0;omega
 match cs,hcl,xs,hxl,hf,hq with
 | [v0,v1,v2,v3,v4,v5,v6,v7,v8,v9,v10,v11,v12,v13,v14],_,[x0,x1,x2,x3,x4,x5],_,hf,hq=>
  obtain ⟨d0,r0,b0⟩:=(Yp hf hq (i:=0) (k:=1) (y:=x0) (cs':=[v0]) rfl rfl Ycb Zj rfl);obtain ⟨rfl,k0⟩:=YfF r0;obtain ⟨d1,r1,b1⟩:=(Yp hf hq (i:=1) (k:=1) (y:=x1) (cs':=[v1]) rfl rfl X4 Zj rfl);have k1:=X0 r1;obtain ⟨d2,r2,b2⟩:=(Yp hf hq (i:=2) (k:=6) (y:=x2) (cs':=[v2,v3,v4,v5,v6,v7]) rfl rfl (WM _) Zj rfl);obtain ⟨y2_0,y2_1,y2_2,y2_3,e2,k2⟩:=YA r2;simp only [List.cons.injEq,and_true] at e2;obtain ⟨rfl,rfl,rfl,rfl,rfl,rfl⟩:=e2;obtain ⟨d3,r3,b3⟩:=(Yp hf hq (i:=3) (k:=1) (y:=x3) (cs':=[v8]) rfl rfl Wy Zj rfl);obtain ⟨rfl,k3⟩:=Ybe r3;obtain ⟨d4,r4,b4⟩:=(Yp hf hq (i:=4) (k:=1) (y:=x4) (cs':=[v9]) rfl rfl YdL Zj rfl);have k4:=X0 r4;obtain ⟨d5,r5,b5⟩:=(Yp hf hq (i:=5) (k:=5) (y:=x5) (cs':=[v10,v11,v12,v13,v14]) rfl rfl (Yfw _) Zj rfl);obtain ⟨y5_0,y5_1,e5,k5⟩:=YK r5;simp only [List.cons.injEq,and_true] at e5;obtain ⟨rfl,rfl,rfl,rfl,rfl⟩:=e5;refine ⟨⟨d0,d1,d2,d3,d4,d5⟩,⟨_,_,_,_,_,_,_,_,rfl,⟨k0,k1,k2,k3,k4,k5⟩⟩,?_⟩;simp only [List.map_cons,List.map_nil,Rows.uptoBulk,Rows.uptoBulkAll,XS];simp only [W9,Yaa] at*;omega
theorem YbE {fuel:Nat}:Wx enc prog w base spare held (slL changeL) (fun l=>(l.map XS).sum) 73 fuel:=XM Tryz.underlying73 Zj (fun _ _=>Yhs)
theorem YeP {fuel:Nat}:Wx enc prog w base spare held predicateL YiB 69 fuel:=fun cs x h hq0=>by
 obtain ⟨xs,n,hfu,rfl,hcl,hxl,hf⟩:=DataW.trod_struct Tryz.underlying69 h;have hc:prog.cellsOf 69=2:=by kernel_rfl
 rw [hc] at hcl;have hq:Rows.uptoBulkAll (xs.map (·.1))<=1048576:=by simp only [Rows.uptoBulk] at hq0;omega
 match cs,hcl,xs,hxl,hf,hq with
 | [v0,v1],_,[x0,x1],_,hf,hq=>
  obtain ⟨d0,r0,b0⟩:=(Yp hf hq (i:=0) (k:=1) (y:=x0) (cs':=[v0]) rfl rfl Wy Zj rfl);obtain ⟨rfl,k0⟩:=Ybe r0;obtain ⟨d1,r1,b1⟩:=(Yp hf hq (i:=1) (k:=1) (y:=x1) (cs':=[v1]) rfl rfl X4 Zj rfl);have k1:=X0 r1;refine ⟨⟨d0,d1⟩,⟨_,rfl,⟨k0,k1⟩⟩,?_⟩;simp only [List.map_cons,List.map_nil,Rows.uptoBulk,Rows.uptoBulkAll,YiB];simp only [W9,Yaa] at*;omega
theorem Yek {fuel:Nat}:Wx enc prog w base spare held (slL predicateL) (fun l=>(l.map YiB).sum) 26 fuel:=XM Tryz.underlying26 Zj (fun _ _=>YeP)
theorem Yfv {fuel:Nat}:Wx enc prog w base spare held functionL funW 71 fuel:=fun cs x h hq0=>by
 obtain ⟨xs,n,hfu,rfl,hcl,hxl,hf⟩:=DataW.trod_struct Tryz.underlying71 h;have hc:prog.cellsOf 71=4:=by kernel_rfl
 rw [hc] at hcl;have hq:Rows.uptoBulkAll (xs.map (·.1))<=1048576:=by simp only [Rows.uptoBulk] at hq0;omega
 match cs,hcl,xs,hxl,hf,hq with
 | [v0,v1,v2,v3],_,[x0,x1,x2,x3],_,hf,hq=>
  obtain ⟨d0,r0,b0⟩:=(Yp hf hq (i:=0) (k:=1) (y:=x0) (cs':=[v0]) rfl rfl Wy Zj rfl);obtain ⟨rfl,k0⟩:=Ybe r0;obtain ⟨d1,r1,b1⟩:=(Yp hf hq (i:=1) (k:=1) (y:=x1) (cs':=[v1]) rfl rfl X4 Zj rfl);have k1:=X0 r1;obtain ⟨d2,r2,b2⟩:=(Yp hf hq (i:=2) (k:=1) (y:=x2) (cs':=[v2]) rfl rfl Ycb Zj rfl);obtain ⟨rfl,k2⟩:=YfF r2;obtain ⟨d3,r3,b3⟩:=(Yp hf hq (i:=3) (k:=1) (y:=x3) (cs':=[v3]) rfl rfl Ycb Zj rfl);obtain ⟨rfl,k3⟩:=YfF r3;refine ⟨⟨d0,d1,d2,d3⟩,⟨_,rfl,⟨k0,k1,k2,k3⟩⟩,?_⟩;simp only [List.map_cons,List.map_nil,Rows.uptoBulk,Rows.uptoBulkAll,funW];simp only [W9,Yaa] at*;omega
theorem YeQ {fuel:Nat}:Wx enc prog w base spare held (slL functionL) (fun l=>(l.map funW).sum) 27 fuel:=XM Tryz.underlying27 Zj (fun _ _=>Yfv)
theorem Yht {fuel:Nat}:Wx enc prog w base spare held actionL actW 75 fuel:=fun cs x h hq0=>by
 obtain ⟨xs,n,hfu,rfl,hcl,hxl,hf⟩:=DataW.trod_struct Tryz.underlying75 h;have hc:prog.cellsOf 75=10:=by kernel_rfl
 rw [hc] at hcl;have hq:Rows.uptoBulkAll (xs.map (·.1))<=1048576:=by simp only [Rows.uptoBulk] at hq0;omega
 match cs,hcl,xs,hxl,hf,hq with
 | [v0,v1,v2,v3,v4,v5,v6,v7,v8,v9],_,[x0,x1,x2,x3,x4],_,hf,hq=>
  obtain ⟨d0,r0,b0⟩:=(Yp hf hq (i:=0) (k:=1) (y:=x0) (cs':=[v0]) rfl rfl Wy Zj rfl);obtain ⟨rfl,k0⟩:=Ybe r0;obtain ⟨d1,r1,b1⟩:=(Yp hf hq (i:=1) (k:=1) (y:=x1) (cs':=[v1]) rfl rfl X4 Zj rfl);have k1:=X0 r1;obtain ⟨d2,r2,b2⟩:=(Yp hf hq (i:=2) (k:=1) (y:=x2) (cs':=[v2]) rfl rfl Ycb Zj rfl);obtain ⟨rfl,k2⟩:=YfF r2;obtain ⟨d3,r3,b3⟩:=(Yp hf hq (i:=3) (k:=6) (y:=x3) (cs':=[v3,v4,v5,v6,v7,v8]) rfl rfl (WM _) Zj rfl);obtain ⟨y3_0,y3_1,y3_2,y3_3,e3,k3⟩:=YA r3;simp only [List.cons.injEq,and_true] at e3;obtain ⟨rfl,rfl,rfl,rfl,rfl,rfl⟩:=e3;obtain ⟨d4,r4,b4⟩:=(Yp hf hq (i:=4) (k:=1) (y:=x4) (cs':=[v9]) rfl rfl YbE Zj rfl);have k4:=X0 r4;refine ⟨⟨d0,d1,d2,d3,d4⟩,⟨_,_,_,_,_,_,rfl,⟨k0,k1,k2,k3,k4⟩⟩,?_⟩;simp only [List.map_cons,List.map_nil,Rows.uptoBulk,Rows.uptoBulkAll,actW];simp only [W9,Yaa] at*;omega
theorem Ygg {fuel:Nat}:Wx enc prog w base spare held (slL actionL) (fun l=>(l.map actW).sum) 28 fuel:=XM Tryz.underlying28 Zj (fun _ _=>Yht)
theorem Yfx {fuel:Nat}:Wx enc prog w base spare held durativeL durW 78 fuel:=fun cs x h hq0=>by
 obtain ⟨xs,n,hfu,rfl,hcl,hxl,hf⟩:=DataW.trod_struct Tryz.underlying78 h;have hc:prog.cellsOf 78=23:=by kernel_rfl
 rw [hc] at hcl;have hq:Rows.uptoBulkAll (xs.map (·.1))<=1048576:=by simp only [Rows.uptoBulk] at hq0;omega
 match cs,hcl,xs,hxl,hf,hq with
 | [v0,v1,v2,v3,v4,v5,v6,v7,v8,v9,v10,v11,v12,v13,v14,v15,v16,v17,v18,v19,v20,v21,v22],_,[x0,x1,x2,x3,x4,x5,x6,x7],_,hf,hq=>
  obtain ⟨d0,r0,b0⟩:=(Yp hf hq (i:=0) (k:=1) (y:=x0) (cs':=[v0]) rfl rfl Wy Zj rfl);obtain ⟨rfl,k0⟩:=Ybe r0;obtain ⟨d1,r1,b1⟩:=(Yp hf hq (i:=1) (k:=1) (y:=x1) (cs':=[v1]) rfl rfl X4 Zj rfl);have k1:=X0 r1;obtain ⟨d2,r2,b2⟩:=(Yp hf hq (i:=2) (k:=1) (y:=x2) (cs':=[v2]) rfl rfl Ycb Zj rfl);obtain ⟨rfl,k2⟩:=YfF r2;obtain ⟨d3,r3,b3⟩:=(Yp hf hq (i:=3) (k:=6) (y:=x3) (cs':=[v3,v4,v5,v6,v7,v8]) rfl rfl (WM _) Zj rfl);obtain ⟨y3_0,y3_1,y3_2,y3_3,e3,k3⟩:=YA r3;simp only [List.cons.injEq,and_true] at e3;obtain ⟨rfl,rfl,rfl,rfl,rfl,rfl⟩:=e3;obtain ⟨d4,r4,b4⟩:=(Yp hf hq (i:=4) (k:=6) (y:=x4) (cs':=[v9,v10,v11,v12,v13,v14]) rfl rfl (WM _) Zj rfl);obtain ⟨y4_0,y4_1,y4_2,y4_3,e4,k4⟩:=YA r4;simp only [List.cons.injEq,and_true] at e4;obtain ⟨rfl,rfl,rfl,rfl,rfl,rfl⟩:=e4;obtain ⟨d5,r5,b5⟩:=(Yp hf hq (i:=5) (k:=6) (y:=x5) (cs':=[v15,v16,v17,v18,v19,v20]) rfl rfl (WM _) Zj rfl);obtain ⟨y5_0,y5_1,y5_2,y5_3,e5,k5⟩:=YA r5;simp only [List.cons.injEq,and_true] at e5;obtain ⟨rfl,rfl,rfl,rfl,rfl,rfl⟩:=e5;obtain ⟨d6,r6,b6⟩:=(Yp hf hq (i:=6) (k:=1) (y:=x6) (cs':=[v21]) rfl rfl YbE Zj rfl);have k6:=X0 r6;obtain ⟨d7,r7,b7⟩:=(Yp hf hq (i:=7) (k:=1) (y:=x7) (cs':=[v22]) rfl rfl YbE Zj rfl);have k7:=X0 r7;refine ⟨⟨d0,d1,d2,d3,d4,d5,d6,d7⟩,⟨_,_,_,_,_,_,_,_,_,_,_,_,_,_,_,rfl,⟨k0,k1,k2,k3,k4,k5,k6,k7⟩⟩,?_⟩;simp only [List.map_cons,List.map_nil,Rows.uptoBulk,Rows.uptoBulkAll,durW];simp only [W9,Yaa] at*;omega
theorem YeR {fuel:Nat}:Wx enc prog w base spare held (slL durativeL) (fun l=>(l.map durW).sum) 29 fuel:=XM Tryz.underlying29 Zj (fun _ _=>Yfx)
theorem Yhr {fuel:Nat}:Wx enc prog w base spare held Yev domW 31 fuel:=fun cs x h hq0=>by
 obtain ⟨xs,n,hfu,rfl,hcl,hxl,hf⟩:=DataW.trod_struct Tryz.underlying31 h;have hc:prog.cellsOf 31=7:=by kernel_rfl
 rw [hc] at hcl;have hq:Rows.uptoBulkAll (xs.map (·.1))<=1048576:=by simp only [Rows.uptoBulk] at hq0;omega
 match cs,hcl,xs,hxl,hf,hq with
 | [v0,v1,v2,v3,v4,v5,v6],_,[x0,x1,x2,x3,x4,x5,x6],_,hf,hq=>
  obtain ⟨d0,r0,b0⟩:=(Yp hf hq (i:=0) (k:=1) (y:=x0) (cs':=[v0]) rfl rfl Wy Zj rfl);obtain ⟨rfl,k0⟩:=Ybe r0;obtain ⟨d1,r1,b1⟩:=(Yp hf hq (i:=1) (k:=1) (y:=x1) (cs':=[v1]) rfl rfl X4 Zj rfl);have k1:=X0 r1;obtain ⟨d2,r2,b2⟩:=(Yp hf hq (i:=2) (k:=1) (y:=x2) (cs':=[v2]) rfl rfl X4 Zj rfl);have k2:=X0 r2;obtain ⟨d3,r3,b3⟩:=(Yp hf hq (i:=3) (k:=1) (y:=x3) (cs':=[v3]) rfl rfl Yek Zj rfl);have k3:=X0 r3;obtain ⟨d4,r4,b4⟩:=(Yp hf hq (i:=4) (k:=1) (y:=x4) (cs':=[v4]) rfl rfl YeQ Zj rfl);have k4:=X0 r4;obtain ⟨d5,r5,b5⟩:=(Yp hf hq (i:=5) (k:=1) (y:=x5) (cs':=[v5]) rfl rfl Ygg Zj rfl);have k5:=X0 r5;obtain ⟨d6,r6,b6⟩:=(Yp hf hq (i:=6) (k:=1) (y:=x6) (cs':=[v6]) rfl rfl YeR Zj rfl);have k6:=X0 r6;refine ⟨⟨d0,d1,d2,d3,d4,d5,d6⟩,⟨_,_,_,_,_,_,rfl,⟨k0,k1,k2,k3,k4,k5,k6⟩⟩,?_⟩;simp only [List.map_cons,List.map_nil,Rows.uptoBulk,Rows.uptoBulkAll,domW];simp only [W9,Yaa] at*;omega
theorem Ygf {fuel:Nat}:Wx enc prog w base spare held YaE prbW 40 fuel:=fun cs x h hq0=>by
 obtain ⟨xs,n,hfu,rfl,hcl,hxl,hf⟩:=DataW.trod_struct Tryz.underlying40 h;have hc:prog.cellsOf 40=11:=by kernel_rfl
 rw [hc] at hcl;have hq:Rows.uptoBulkAll (xs.map (·.1))<=1048576:=by simp only [Rows.uptoBulk] at hq0;omega
 match cs,hcl,xs,hxl,hf,hq with
 | [v0,v1,v2,v3,v4,v5,v6,v7,v8,v9,v10],_,[x0,x1,x2,x3,x4,x5],_,hf,hq=>
  obtain ⟨d0,r0,b0⟩:=(Yp hf hq (i:=0) (k:=1) (y:=x0) (cs':=[v0]) rfl rfl Wy Zj rfl);obtain ⟨rfl,k0⟩:=Ybe r0;obtain ⟨d1,r1,b1⟩:=(Yp hf hq (i:=1) (k:=1) (y:=x1) (cs':=[v1]) rfl rfl Wy Zj rfl);obtain ⟨rfl,k1⟩:=Ybe r1;obtain ⟨d2,r2,b2⟩:=(Yp hf hq (i:=2) (k:=1) (y:=x2) (cs':=[v2]) rfl rfl X4 Zj rfl);have k2:=X0 r2;obtain ⟨d3,r3,b3⟩:=(Yp hf hq (i:=3) (k:=1) (y:=x3) (cs':=[v3]) rfl rfl YiH Zj rfl);have k3:=X0 r3;obtain ⟨d4,r4,b4⟩:=(Yp hf hq (i:=4) (k:=1) (y:=x4) (cs':=[v4]) rfl rfl Yhq Zj rfl);have k4:=X0 r4;obtain ⟨d5,r5,b5⟩:=(Yp hf hq (i:=5) (k:=6) (y:=x5) (cs':=[v5,v6,v7,v8,v9,v10]) rfl rfl (WM _) Zj rfl);obtain ⟨y5_0,y5_1,y5_2,y5_3,e5,k5⟩:=YA r5;simp only [List.cons.injEq,and_true] at e5;obtain ⟨rfl,rfl,rfl,rfl,rfl,rfl⟩:=e5;refine ⟨⟨d0,d1,d2,d3,d4,d5⟩,⟨_,_,_,_,_,_,_,rfl,⟨k0,k1,k2,k3,k4,k5⟩⟩,?_⟩;simp only [List.map_cons,List.map_nil,Rows.uptoBulk,Rows.uptoBulkAll,prbW];simp only [W9,Yaa] at*;omega
variable {t:TypeId} {v:Value}
theorem YeG {α:Type} {L:Lay α} {wt:α->Nat} {fs:Array Field} {r:Reach} {b0:Nat} {d:DataW H} {p:List MemPlace} (hu:prog.underlying t=some (.struct fs)) (ho:∀ fuel,Wx enc prog w base spare held L wt t fuel) (hv:Value.okWide prog w r b0 t v) (h:DataW.Trod enc prog w base spare held t v d p) (hq:Rows.uptoBulk d<=1048576):
 ∃ x cs,v=.agg (List.toArray cs)/\L.rep (fzOf w) x cs/\wt x<=1048576:=by
 obtain ⟨cs,rfl,hsz⟩:=okWide_struct hu hv;obtain ⟨l⟩:=cs;obtain ⟨fuel,hf⟩:=h;obtain ⟨x,hx,hw⟩:=ho fuel _ _ hf hq;exact ⟨x,l,rfl,hx,Nat.le_trans hw hq⟩
end
end Go.Proofs.YtfjopfinkdhmaaaGreatDoor
namespace Go.Proofs.YtfjopfinkdhmaaaGreatDoor
open Go.ChangeShapes Go.WideShapes Go.ChangeAt Go.RowKit Go.Lx
theorem Yej:ownKnob Tryz.prog.godebug=none:=by kernel_rfl
theorem YbS:laidOutB Tryz.prog=true:=by kernel_rfl
theorem YiM {W:World} (h:W.ShapedOpen Tryz.prog):MaxF (fzOf W):=by
 obtain ⟨m,hm⟩:=cell_of_shapedOpen_int (P:=Tryz.prog) (g:=1) (t:=3) (zero:=#[.int .i64 0]) h (of_decide_eq_true Zj) Zj rfl Zj Zj Tryz.underlying3;exact ⟨m,Ylf hm⟩
theorem Yic {W:World} (h:laidMetH Tryz.prog Rows.printerReturnsUptoRow.laid W):TabF (fzOf W):=by
 have h1:=h.filter (fun x=>x.1== "internal/strconv.uint64pow10");have h2:laidMetH Tryz.prog [("internal/strconv.uint64pow10",Rows.laid_internal_strconv_uint64pow10)] W:=h1;rw [MakeChecks.laidMetH_plain _ _ _ Zj] at h2;have h3:Lib.TabIs Tryz.prog W "internal/strconv.uint64pow10" .u64 Lib.pow10Tab:=Lib.tabIs_of_head (rest:=[]) (g:=0) (t:=282) (e:=257) (n:=20) Zj Zj Tryz.underlying282 Tryz.underlying257 Zj Zj h2;intro w hw;have hg:Tryz.prog.globalNamed "internal/strconv.uint64pow10"=some 0:=by kernel_rfl
 unfold Lib.TabIs World.var? at h3 ⊢;rw [hg] at h3 ⊢;simp only [Option.bind_some] at h3 ⊢;cases hb:W.heap[0]? with
 | none=>rw [hb] at h3;cases h3
 | some o=>
  rw [hb] at h3;rw [hw.keep 0 o hb];exact h3
theorem Ygd (os:Os) {H:Type} (enc:TypeId × Value->H):∃ places,DataW.whole enc Tryz.prog ((World.laidAll Tryz.prog os Rows.printerReturnsUptoRow.laid).forCall (fun _ _=>0) ⟨#[],#[.agg #[.string ⟨#[]⟩,.slice none 0 0,.slice none 0 0,.slice none 0 0,.slice none 0 0,.slice none 0 0,.slice none 0 0],.agg #[.string ⟨#[]⟩,.string ⟨#[]⟩,.slice none 0 0,.slice none 0 0,.slice none 0 0,.string ⟨#[]⟩,.string ⟨#[]⟩,.slice none 0 0,.slice none 0 0,.slice none 0 0,.slice none 0 0]],[]⟩).memory Tryz.f4.params.toList (Rows.OpenSpec.upto Rows.printerReturnsSpec).vars false (#[.agg #[.string ⟨#[]⟩,.slice none 0 0,.slice none 0 0,.slice none 0 0,.slice none 0 0,.slice none 0 0,.slice none 0 0],.agg #[.string ⟨#[]⟩,.string ⟨#[]⟩,.slice none 0 0,.slice none 0 0,.slice none 0 0,.string ⟨#[]⟩,.string ⟨#[]⟩,.slice none 0 0,.slice none 0 0,.slice none 0 0,.slice none 0 0]]:Array Value).toList 8=some ([.agg [.lit (.string []),.nil,.nil,.nil,.nil,.nil,.nil],.agg [.lit (.string []),.lit (.string []),.nil,.nil,.nil,.agg [.lit (.string []),.lit (.string []),.nil,.nil,.nil,.nil]]],[],places):=⟨[],by kernel_rfl⟩
set_option maxRecDepth 100000 in
set_option maxHeartbeats 4000000 in
theorem Yfc (os:Os) (started:os.Started) (H:Type) (enc:TypeId × Value->H) (F:Stop.Interp):
 ReturnsInHanded {} Tryz.checked os 4 .any ((Rows.OpenSpec.upto Rows.printerReturnsSpec).preRow enc Tryz.prog Tryz.f4 Rows.printerReturnsUptoRow.domain false Rows.printerReturnsUptoRow.laid) (((Rows.OpenSpec.upto Rows.printerReturnsSpec).at F).post enc Tryz.prog Tryz.f4 false true false false):=by
 obtain ⟨places,hx⟩:=Ygd os enc;refine returnsInHanded_of_row (C:=Tryz.checked) (s:=Rows.OpenSpec.upto Rows.printerReturnsSpec) Yej started Zj Tryz.func4
  ⟨World.laidAll Tryz.prog os Rows.printerReturnsUptoRow.laid,fun _ _=>0,⟨#[],#[.agg #[.string ⟨#[]⟩,.slice none 0 0,.slice none 0 0,.slice none 0 0,.slice none 0 0,.slice none 0 0,.slice none 0 0],.agg #[.string ⟨#[]⟩,.string ⟨#[]⟩,.slice none 0 0,.slice none 0 0,.slice none 0 0,.string ⟨#[]⟩,.string ⟨#[]⟩,.slice none 0 0,.slice none 0 0,.slice none 0 0,.slice none 0 0]],[]⟩,World.laidAll_os _ _ _,World.shaped_of_ZipB Zj Zj,rfl,(Input.okWide_of_okWideB Zj).2,
   OpenSpec.preRow_of_cond 8 hx Zj (fun k hk=>by cases hk;kernel_rfl) Zj (by rw [MakeChecks.laidMetH_plain _ _ _ Zj];exact laidMet_laidAll _ Zj Zj),
   by simp only [Assume.holds];exact ⟨by simp,by simp,fun _=>Modest.zero,by simp,by simp⟩⟩ ?_
 intro W base args ds gs before hval0 hW _ hcond _ hL hsh _;have hval:∀ (j:Nat) t v,Tryz.f4.params[j]?=some t->args[j]?=some v->Value.okWide Tryz.prog W .any base t v:=hval0;have hbk:Rows.uptoSmall H (ds++gs)=true:=hcond _ rfl;have hW':DataW.Whole enc Tryz.prog Tryz.f4.params.toList Rows.printerReturnsSpec.vars false W args.toList ds gs before:=hW;obtain ⟨p,q,hA0,hV,rfl,_,_⟩:=hW;have hA:DataW.TrodAll enc Tryz.prog W 0 (fun _=>true) true Tryz.f4.params.toList args.toList ds p:=hA0;rw [Tryz.params4] at hA hval;obtain ⟨v0,v1,d0,d1,p0,p1,rfl,rfl,rfl,h0,h1⟩:=trodAll_two hA;obtain ⟨rfl,rfl⟩:=trodVars_none hV;clear hA0 hval0;simp only [List.append_nil] at hW';have hlt:∀ x∈p0++p1,x.block<W.heap.size:=fun x hx=>hW'.lt x hx
 have hq:Rows.uptoBulk d0<=1048576/\Rows.uptoBulk d1<=1048576:=by
  have h9:=of_decide_eq_true hbk;simp only [List.append_nil,Rows.uptoBulkAll] at h9;omega
 obtain ⟨x,cs,rfl,⟨u1,u2,u3,u4,u5,u6,rfl,hg⟩,hw⟩:=YeG Tryz.underlying31 (fun _=>Yhr) (hval 0 31 v0 rfl rfl) h0 hq.1;obtain ⟨y,cs,rfl,⟨z1,z2,z3,z4,z5,z6,z7,rfl,hp⟩,hw2⟩:=YeG Tryz.underlying40 (fun _=>Ygf) (hval 1 40 v1 rfl rfl) h1 hq.2;refine ((Ylz (Yic hL) (YiM hsh) hg hp Zi Zi).calls (hp_of W)).mono fun e W' ⟨he1,hfr⟩=>?_
 have hb:=below_of hfr;have k0:=Below.trod YbS Zj (of_decide_eq_true Zj) h0 hb (fun x hx=>hlt x (by simp [hx]));have k1:=Below.trod YbS Zj (of_decide_eq_true Zj) h1 hb (fun x hx=>hlt x (by simp [hx]));show ∃ v,e=.returned v/\Rows.printerReturnsSpec.post enc Tryz.prog Tryz.f4 false true false false W _ v W';exact ⟨_,he1,[d0,d1],[],_,[],_,[],hW',trodAll_mk1 (shut_bool Tryz.underlying4 true),trodAll_mk2 k0 k1,rfl,hb.frame _,fun h=>by cases h⟩
end Go.Proofs.YtfjopfinkdhmaaaGreatDoor
