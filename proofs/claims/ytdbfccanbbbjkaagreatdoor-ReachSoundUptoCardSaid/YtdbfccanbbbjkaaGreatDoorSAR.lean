/- The texts QL, QLB, QV, QW, QY, laid together. Conditions: none. -/
import Derived.Test.YtdbfccanbbbjkaaGreatDoorSAQ
set_option linter.all false
set_option maxHeartbeats 32000000
noncomputable section
set_option maxRecDepth 20000
open Go.Lx Go.RowKit
attribute [local instance 10] Classical.propDecidable
open Go.Proofs.Tryz (prog)
namespace Go.Proofs.YtdbfccanbbbjkaaGreatDoor
variable {α:Type} {K:Kn} {fz fz':FZ} {v:Value} {cs:List Value} {j g:Nat} {t:TypeId} {L:Lay α} {l:List α}
def schA (a:Action):Schema:=⟨a.name,a.params,normV a.pre,normV a.pre,Ydx,Ydx,[],normC a.changes,true,[]⟩
def schD (a:Durative):Schema:=⟨a.name,a.params,normV (andF [a.start]),normV (andF [a.start,a.over,a.fin]),normV (andF [a.over]),normV (andF [a.fin]),normC a.atStart,normC a.atEnd,false,[]⟩
def schB (d:Domain):List Schema:=d.actions.map schA++d.duratives.map schD
def Ybi (K:Kn) (s:Schema):Schema:={s with arguments:=Yc4 K s.params 4096}
def schL (K:Kn) (d:Domain):List Schema:=(schB d).map (Ybi K)
def Ybz (l:List Schema):Nat:=(l.map fun s=>s.arguments.length).sum
def Yk1 (K:Kn) (s:Schema):Prop:=s.count=true/\(64<termsM K s.start\/∃ c∈s.late,64<termsM K c.when_)
def schE (K:Kn) (d:Domain):Int:=if 4096<Ybz (schL K d) then 5 else if ∃ s∈schL K d,Yk1 K s then 5 else 0
structure KnD (fz:FZ) (v:Value) (K:Kn) (d:Domain):Prop where
 k:KnR fz v K
 ex:∃ (g:Nat) (cs:List Value) (v5 v6:Value),v=Zp g/\fz g=some (Zu cs.toArray 110)/\cs[5]?=some v5/\cs[6]?=some v6/\IsSl actionL fz v5 d.actions/\IsSl durativeL fz v6 d.duratives
theorem KnD.mono {d:Domain} (h:KnD fz v K d) (hle:Le fz fz'):KnD fz' v K d:=by
 obtain ⟨hk,g,cs,v5,v6,h1,h2,h3,h4,h5,h6⟩:=h;exact ⟨hk.mono hle,g,cs,v5,v6,h1,hle _ _ h2,h3,h4,h5.mono hle,h6.mono hle⟩
theorem Yhu:OneC schemaL:=by
 intro fz d cs h u hu;obtain ⟨u0,u1,u2,u3,u4,u5,u6,u7,u8,u9,u10,u11,u12,u13,u14,u15,u16,u17,u18,u19,rfl,hR⟩:=Yag h;obtain ⟨A0,n0,c0,rfl,_⟩:=hR.params;obtain ⟨⟨A1,n1,c1,rfl,_⟩,⟨A2,n2,c2,rfl,_⟩,⟨A3,n3,c3,rfl,_⟩,⟨A4,n4,c4,rfl,_⟩⟩:=hR.start.sls;obtain ⟨⟨A5,n5,c5,rfl,_⟩,⟨A6,n6,c6,rfl,_⟩,⟨A7,n7,c7,rfl,_⟩,⟨A8,n8,c8,rfl,_⟩⟩:=hR.all.sls;obtain ⟨⟨A9,n9,c9,rfl,_⟩,⟨A10,n10,c10,rfl,_⟩,⟨A11,n11,c11,rfl,_⟩,⟨A12,n12,c12,rfl,_⟩⟩:=hR.over.sls;obtain ⟨⟨A13,n13,c13,rfl,_⟩,⟨A14,n14,c14,rfl,_⟩,⟨A15,n15,c15,rfl,_⟩,⟨A16,n16,c16,rfl,_⟩⟩:=hR.fin.sls;obtain ⟨A17,n17,c17,rfl,_⟩:=hR.early;obtain ⟨A18,n18,c18,rfl,_⟩:=hR.late;obtain ⟨A19,n19,c19,rfl,_⟩:=hR.arguments
 iterate 30 (rcases List.mem_cons.1 hu with rfl | hu;· rfl)
 cases hu
structure SchS (K:Kn) (d:Domain):Prop where
 na:d.actions.length<=2000000
 nd:d.duratives.length<=2000000
 pa:∀ a∈d.actions,fW a.pre<=100000000/\a.params.length<=2000000/\a.changes.length<=2000000/\∀ c∈a.changes,fW c.when_<=100000000
 pd:∀ a∈d.duratives,fW a.start<=10000000/\fW a.over<=10000000/\fW a.fin<=10000000/\a.params.length<=2000000/\a.atStart.length<=2000000/\a.atEnd.length<=2000000/\(∀ c∈a.atStart,fW c.when_<=100000000)/\(∀ c∈a.atEnd,fW c.when_<=100000000)
 sh:∀ a∈d.actions,ShN (normV a.pre)/\∀ c∈normC a.changes,ShN c.when_
theorem YkT:FormulaR fz Ydx Zn Zn Zn Zn:=⟨Z0 _,Z0 _,IsSl.nil,IsSl.nil,IsSl.nil,IsSl.nil⟩
theorem YmT (l:List Formula) (h:(l.map fW).sum<=90000000):fW (andF l)<=100000000:=by
 rw [Ybu];show 1+0+0+0+(l.map fW).sum<=_;omega
theorem Ykm {z:Nat} {cur:List Value} {o:Nat} (hc:(cur.drop (j*z)).take z=cs) (hv:cs[o]?=some v):cur[j*z+o]?=some v:=by
 subst hc;have ho:o<z:=by
  have:=(Zg hv).1;rw [List.length_take] at this;omega
 rw [List.getElem?_take_of_lt ho,List.getElem?_drop] at hv;exact hv
theorem Yns {e:Nat} {n cap:Nat} {cur:List Value} (h:GrowB L e fz g n cap cur l) {o:Nat} {d d':α} (hj:l[j]?=some d) (hc:(cur.drop (j*L.size)).take L.size=cs) (ho:o<L.size) (hr:L.rep fz d' (cs.set o v)):
 GrowB L e fz g n cap (cur.set (j*L.size+o) v) (l.set j d'):=by
 obtain ⟨xs,h1,h2,h3⟩:=h.pairs;have hl:=h.len;have hjn:j<n:=by have:=(Zg hj).1;omega
 have hxl:xs.length=n:=by rw [<- h1,List.length_map] at hl;exact hl
 have hsz:=h.size;have hcap:=h.capn;have hjz:j*L.size+L.size<=n*L.size:=by rw [<- Nat.succ_mul];exact Nat.mul_le_mul_right _ hjn
 have hnc:n*L.size<=cap*L.size:=Nat.mul_le_mul_right _ hcap;refine ⟨⟨xs.set j (d',cs.set o v),by rw [List.map_set,h1],fun p hp=>?_,?_⟩,by rw [List.length_set];exact hl,hcap,h.max,by rw [List.length_set];exact hsz⟩
 ·rcases List.mem_or_eq_of_mem_set hp with hp | hp
  ·exact h2 p hp
  subst hp;exact hr
 have hcl:cs.length=L.size:=by rw [<- hc,List.length_take,List.length_drop];omega
 rw [<- Yd9 (z:=L.size) (d:=(d',cs.set o v)) (by simpa using hcl) (fun p hp=>L.len (h2 p hp)) Zi,<- h3];refine List.ext_getElem? fun i=>?_
 rw [List.getElem?_take];simp only [<- hc];by_cases hi:i<n*L.size
 ·rw [if_pos hi];by_cases h5:i<j*L.size
  ·rw [List.append_assoc,List.getElem?_append_left (by rw [List.length_take,List.length_take];omega),List.getElem?_take_of_lt h5,List.getElem?_take_of_lt hi,List.getElem?_set_ne Zi]
  have e1:((cur.take (n*L.size)).take (j*L.size)).length=j*L.size:=by rw [List.length_take,List.length_take];omega
  have e2:(((cur.drop (j*L.size)).take L.size).set o v).length=L.size:=by rw [List.length_set,List.length_take,List.length_drop];omega
  rw [List.append_assoc,List.getElem?_append_right Zi,e1];by_cases h6:i<j*L.size+L.size
  ·rw [List.getElem?_append_left Zi];by_cases h7:i=j*L.size+o
   ·subst h7;rw [List.getElem?_set_self Zi,Nat.add_sub_cancel_left,List.getElem?_set_self (by rw [List.length_set] at e2;omega)]
   rw [List.getElem?_set_ne Zi,List.getElem?_set_ne Zi,List.getElem?_take_of_lt Zi,List.getElem?_drop]
   congr 1;omega
  rw [List.getElem?_append_right Zi,e2,List.getElem?_drop,List.getElem?_take_of_lt Zi,List.getElem?_set_ne Zi]
  congr 1;omega
 rw [if_neg hi];have:i>=(List.take (j*L.size) (cur.take (n*L.size))++((cur.drop (j*L.size)).take L.size).set o v++(cur.take (n*L.size)).drop (j*L.size+L.size)).length:=by
  simp only [List.length_append,List.length_take,List.length_drop,List.length_set];omega
 rw [List.getElem?_eq_none Zi]
theorem schm1_q {x:Change} {g1:Nat} {t1:TypeId} (hK:KnR fz v K) (hc:changeL.rep fz x cs) (hS:ShN x.when_) (h1:fz g1=some (.cells #[v] t1 (0,0))):
 QFn prog 67 [.agg cs.toArray,Zp g1] fz (Zo (decide (64<termsM K x.when_))):=by
 obtain ⟨u1,u2,u3,u4,u5,u6,u7,u8,rfl,hR⟩:=Xf hc;obtain ⟨A1,n1,c1',rfl,_⟩:=id hR.params;obtain ⟨⟨A2,n2,c2',rfl,_⟩,⟨A3,n3,c3',rfl,_⟩,⟨A4,n4,c4',rfl,_⟩,⟨A5,n5,c5',rfl,_⟩⟩:=id hR.when_.sls;obtain ⟨A6,n6,c6',rfl,_⟩:=id hR.args;obtain ⟨⟨A7,n7,c7',rfl,_⟩,⟨A8,n8,c8',rfl,_⟩⟩:=id hR.value.sls;have hK0:=hK;obtain ⟨⟨gk,a0,a1,a2,a3,a4,a5,a6,a7,a8,a9,a10,a11,a12,a13,a14,a15,a16,a17,vf,Ao,no,co,gc,gi,mc,mi,rfl,hg,hF,hO,h5,h6,h7,h8⟩,hw,_⟩:=hK;refine qF Tryz.func67 Tryz.ntmps67 (fun w0=>?_);refine pX (fun g2=>?_);refine wG ?_;refine Yg (vs:=[Zy x.when_.op,Zy x.when_.name,Zc A2 n2 c2',Zc A3 n3 c3',Zc A4 n4 c4',Zc A5 n5 c5']) 0 ?_;refine zc (Yoh hK0 hR.when_ hS) ?_;refine zC ?_ ?_<;>intro c1
 ·exact wR (h:=by rw [decide_eq_true Zi])
 exact wR (h:=by rw [decide_eq_false Zi])
structure DurV (a:Durative) (i:Nat) (v:Value) (fz:FZ):Prop where
 p7:i=7->IsSl formulaL fz v [a.start]
 p8:i=8->FormulaV fz (normV (andF [a.start])) v
 p11:i=11->IsSl formulaL fz v [a.over]
 p12:i=12->FormulaV fz (normV (andF [a.over])) v
 p15:i=15->IsSl formulaL fz v [a.fin]
 p16:i=16->FormulaV fz (normV (andF [a.fin])) v
 p23:i=23->IsSl formulaL fz v [a.start,a.over,a.fin]
 p24:i=24->FormulaV fz (normV (andF [a.start,a.over,a.fin])) v
 p27:i=27->IsSl changeL fz v (normC a.atStart)
 p30:i=30->IsSl changeL fz v (normC a.atEnd)
theorem DurV.mono {a:Durative} (i:Nat) (v:Value) (fz fz':FZ) (hle:Le fz fz') (h:DurV a i v fz):DurV a i v fz':=
 ⟨fun e=>(h.p7 e).mono hle,fun e=>(h.p8 e).mono hle,fun e=>(h.p11 e).mono hle,fun e=>(h.p12 e).mono hle,fun e=>(h.p15 e).mono hle,fun e=>(h.p16 e).mono hle,fun e=>(h.p23 e).mono hle,fun e=>(h.p24 e).mono hle,fun e=>(h.p27 e).mono hle,fun e=>(h.p30 e).mono hle⟩
theorem Ype {x:α} (h:fz g=some (Zu cs.toArray t)) (hr:L.rep fz x cs):IsSl L fz (Zv g 1 1) [x]:=
 (Xz (m:=1) (l:=[x]) (ys:=[(x,cs)]) h (by simp) rfl (fun p hp=>by rw [List.mem_singleton] at hp;subst hp;exact hr) rfl Zh).is
theorem is_three {x y z:α} {ds es:List Value} (h:fz g=some (.cells (cs++ds++es).toArray t (0,0))) (hx:L.rep fz x cs) (hy:L.rep fz y ds) (hz:L.rep fz z es):IsSl L fz (Zv g 3 3) [x,y,z]:=
 (Xz (m:=3) (l:=[x,y,z]) (ys:=[(x,cs),(y,ds),(z,es)]) h (by simp) rfl (fun p hp=>by
  rcases List.mem_cons.1 hp with rfl | hp
  ·exact hx
  rcases List.mem_cons.1 hp with rfl | hp
  ·exact hy
  rw [List.mem_singleton] at hp;subst hp;exact hz) rfl Zh).is
theorem DurV.m7 {a:Durative} (h:IsSl formulaL fz v [a.start]):DurV a 7 v fz:=⟨fun _=>h,Za,Za,Za,Za,Za,Za,Za,Za,Za⟩
theorem DurV.m8 {a:Durative} (h:FormulaV fz (normV (andF [a.start])) v):DurV a 8 v fz:=⟨Za,fun _=>h,Za,Za,Za,Za,Za,Za,Za,Za⟩
theorem DurV.m11 {a:Durative} (h:IsSl formulaL fz v [a.over]):DurV a 11 v fz:=⟨Za,Za,fun _=>h,Za,Za,Za,Za,Za,Za,Za⟩
theorem DurV.m12 {a:Durative} (h:FormulaV fz (normV (andF [a.over])) v):DurV a 12 v fz:=⟨Za,Za,Za,fun _=>h,Za,Za,Za,Za,Za,Za⟩
theorem DurV.m15 {a:Durative} (h:IsSl formulaL fz v [a.fin]):DurV a 15 v fz:=⟨Za,Za,Za,Za,fun _=>h,Za,Za,Za,Za,Za⟩
theorem DurV.m16 {a:Durative} (h:FormulaV fz (normV (andF [a.fin])) v):DurV a 16 v fz:=⟨Za,Za,Za,Za,Za,fun _=>h,Za,Za,Za,Za⟩
theorem DurV.m23 {a:Durative} (h:IsSl formulaL fz v [a.start,a.over,a.fin]):DurV a 23 v fz:=⟨Za,Za,Za,Za,Za,Za,fun _=>h,Za,Za,Za⟩
theorem DurV.m24 {a:Durative} (h:FormulaV fz (normV (andF [a.start,a.over,a.fin])) v):DurV a 24 v fz:=⟨Za,Za,Za,Za,Za,Za,Za,fun _=>h,Za,Za⟩
theorem DurV.m27 {a:Durative} (h:IsSl changeL fz v (normC a.atStart)):DurV a 27 v fz:=⟨Za,Za,Za,Za,Za,Za,Za,Za,fun _=>h,Za⟩
theorem DurV.m30 {a:Durative} (h:IsSl changeL fz v (normC a.atEnd)):DurV a 30 v fz:=⟨Za,Za,Za,Za,Za,Za,Za,Za,Za,fun _=>h⟩
theorem Ygp (K:Kn):∀ l:List Schema,Ybz (l.map (Ybi K))<=4097*l.length
 | []=>by simp [Ybz]
 | x::r=>by
  have h1:=Ygp K r;have h2:=Yei K 4096 x.params [[]] (by simp);unfold Ybz at h1 ⊢;simp only [List.map_cons,List.sum_cons,List.length_cons] at h1 ⊢;have:(Ybi K x).arguments.length<=4097:=h2;omega
theorem manyS_le (K:Kn) (d:Domain) (k:Nat):Ybz (((schB d).take k).map (Ybi K))<=4097*(schB d).length:=by
 refine Nat.le_trans (Ygp K _) (Nat.mul_le_mul_left _ ?_);rw [List.length_take];omega
theorem Yl5 {d:Domain} {x:Schema} (hS:SchS K d) (hx:x∈schB d):x.params.length<=2000000:=by
 rcases List.mem_append.1 hx with hx | hx
 ·obtain ⟨a,ha,rfl⟩:=List.mem_map.1 hx;exact (hS.pa a ha).2.1
 obtain ⟨a,ha,rfl⟩:=List.mem_map.1 hx;exact (hS.pd a ha).2.2.2.1
theorem schL_sh {d:Domain} {x:Schema} (hS:SchS K d) (hx:x∈schL K d) (hc:x.count=true):ShN x.start/\∀ c∈x.late,ShN c.when_:=by
 obtain ⟨s,hs,rfl⟩:=List.mem_map.1 hx;rcases List.mem_append.1 hs with hs | hs
 ·obtain ⟨a,ha,rfl⟩:=List.mem_map.1 hs;exact hS.sh a ha
 obtain ⟨a,ha,rfl⟩:=List.mem_map.1 hs;cases hc
theorem Yop {d:Domain} (hKD:KnD fz v K d) (hS:SchS K d):
 GFn prog 34 [v] fz [] (fun r fz' H'=>H'=[]/\∃ vs,r=.tuple #[vs,errV (schE K d)]/\(schE K d=0->IsSl schemaL fz' vs (schL K d))/\(schE K d≠0->vs=Zn)):=by
 have hKD0:=hKD;obtain ⟨hK,gk,cs,v5,v6,rfl,hg,c5,c6,i5,i6⟩:=hKD;have hK0:=hK;obtain ⟨⟨gk',a0,a1,a2,a3,a4,a5,a6,a7,a8,a9,a10,a11,a12,a13,a14,a15,a16,a17,vf,Ao,no,co,gc,gi,mc,mi,e1,hg',hF,hO,h5,h6,h7,h8⟩,hw,hmany⟩:=hK;cases e1;rw [hg] at hg';injection hg' with hg'
 injection hg' with hg' _ _
 have e2:=congrArg Array.toList hg';simp only at e2;subst e2;simp only [List.getElem?_cons_succ,List.getElem?_cons_zero,Option.some.injEq] at c5 c6;subst c5;subst c6;obtain ⟨A5,n5,b5,rfl,i5⟩:=i5;obtain ⟨A6,n6,b6,rfl,i6⟩:=i6;have l5:=i5.len;have l6:=i6.len;have hna:=hS.na;have hnd:=hS.nd;refine zF Tryz.func34 Tryz.ntmps34 (fun w0=>?_);refine pX (fun g1=>?_);refine zW ?_;refine Yl (fun q σ fz' H'=>∃ (k:Nat) (u:Value) (Hs:HP),k<=n5/\q=n5 - k/\σ=[(20,Zk k),(19,Zk n5),(18,Zc A5 n5 b5),(4,u),(1,Zp g1)]/\Le fz fz'/\H'=(g1,Zu #[Zp gk] 62)::Hs/\Grow schemaL 78 fz' u k Hs ((d.actions.take k).map schA)) ⟨0,_,[],Z0 _,rfl,rfl,Zd,rfl,Grow.nil _ _ _⟩ Zw Zb ?_;rintro q σ fz' H' ⟨k,u,Hs,hk,rfl,rfl,hle,rfl,hG⟩;obtain ⟨Au,cu,rfl,_,_⟩:=hG.form;refine wC ?_ ?_<;>intro c1
 ·obtain ⟨x,hx⟩:=Ye (l:=d.actions) (k:=k) Zi;have hxm:=Zm hx;obtain ⟨w1,w2,w3,w4⟩:=hS.pa x hxm;refine wI (i5.mono hle) hx (fun p1 hp1=>?_);refine zL hp1 ?_;intro cs hcs;obtain ⟨u1,u2,u3,u4,u5,u6,rfl,hR⟩:=Xg hcs;obtain ⟨B1,m1,d1,rfl,ip⟩:=id hR.params;obtain ⟨⟨B2,m2,d2,rfl,_⟩,⟨B3,m3,d3,rfl,_⟩,⟨B4,m4,d4,rfl,_⟩,⟨B5,m5,d5,rfl,_⟩⟩:=id hR.pre.sls;obtain ⟨B6,m6,d6,rfl,ich⟩:=id hR.changes;have lch:=ich.len;refine zW ?_;intros
  ((refine zG ?_);refine Yg (vs:=[Zy x.pre.op,Zy x.pre.name,Zc B2 m2 d2,Zc B3 m3 d3,Zc B4 m4 d4,Zc B5 m5 d5]) 0 ?_);refine Yc (Yj [] (_::_::Hs) Zz (Yer hR.pre w1) (fun v7 fz7 H7 hle7 hR7=>?_));obtain ⟨rfl,hV7⟩:=hR7;obtain ⟨C1,s1,t1,C2,s2,t2,C3,s3,t3,C4,s4,t4,rfl,hF7⟩:=hV7.open;refine zWN ?_;intros;refine Y0 [_,_,_] ?_;refine zW ?_;refine pU ?_;refine Yf (Yj [] (_::_::_::Hs) Zz (Yf4 (ich.mono hle7) Zi w4) (fun v8 fz8 H8 hle8 hR8=>⟨⟨hle8,Zx⟩,?_⟩));obtain ⟨rfl,D1,o1,q1,rfl,hC8⟩:=hR8;refine Ch.qk ⟨hle8,Zx⟩ (XE ?_);refine Yf (Yb (cs:=[Zy x.name,Zc B1 m1 d1,Zy (normV x.pre).op,Zy (normV x.pre).name,Zc C1 s1 t1,Zc C2 s2 t2,Zc C3 s3 t3,Zc C4 s4 t4,Zy (normV x.pre).op,Zy (normV x.pre).name,Zc C1 s1 t1,Zc C2 s2 t2,Zc C3 s3 t3,Zc C4 s4 t4,
   Ze,Ze,Zn,Zn,Zn,Zn,Ze,Ze,Zn,Zn,Zn,Zn,Zn,Zc D1 o1 q1,Zo true,Zn]) (fun gb=>⟨⟨hle8,Zx⟩,?_⟩))
  refine Yf (YC (Hr:=[_,_,_,_]) (d:=schA x) (Zr _) (hG.mono (hle7.trans hle8)) Yhu (.head _) (YcN (x:=schA x) ⟨hR.name,ip.is.mono (hle7.trans hle8),hF7.mono hle8,hF7.mono hle8,YkT,YkT,IsSl.nil,hC8.is,trivial,IsSl.nil⟩) (fun v9 H9 hO9=>⟨⟨hle8,Zx⟩,?_⟩));obtain ⟨A9,c9,rfl,_,_⟩:=hO9.form;refine Ch.qk ⟨hle8,Zx⟩ (YO ?_);refine Ch.done ?_;exact wP (h:=by exact ⟨k+1,_,H9,by omega,rfl,rfl,hle.trans (hle7.trans hle8),rfl,hO9.of (by rw [List.take_add_one,hx];simp) rfl⟩)
 have hk2:n5=k:=by omega
 subst hk2;rw [Zl Zi] at hG;have hgA:=hle _ _ hg;refine zW ?_;refine Yl (fun q σ fz2 H'=>∃ (k:Nat) (u:Value) (Hs:HP),k<=n6/\q=n6 - k/\σ=[(47,Zk k),(46,Zk n6),(45,Zc A6 n6 b6),(4,u),(1,Zp g1)]/\Le fz' fz2/\H'=(g1,Zu #[Zp gk] 62)::Hs/\Grow schemaL 78 fz2 u (n5+k) Hs (d.actions.map schA++(d.duratives.take k).map schD)) ⟨0,_,Hs,Z0 _,rfl,rfl,Zd,rfl,hG.of (by simp) rfl⟩ Zw Zb ?_;rintro q σ fz2 H' ⟨k,u,Hs2,hk6,rfl,rfl,hle2,rfl,hG2⟩;obtain ⟨Au2,cu2,rfl,_,_⟩:=hG2.form;refine wC ?_ ?_<;>intro c2
 ·obtain ⟨x,hx⟩:=Ye (l:=d.duratives) (k:=k) Zi;have hxm:=Zm hx;obtain ⟨w1,w2,w3,w4,w5,w6,w7,w8⟩:=hS.pd x hxm;refine wI (i6.mono (hle.trans hle2)) hx (fun p1 hp1=>?_);refine zL hp1 ?_;intro cs hcs;obtain ⟨u0,u1,u2,u3,u4,u5,u6,u7,u8,u9,u10,u11,u12,u13,u14,rfl,hR⟩:=XG hcs;obtain ⟨B0,m0,d0,rfl,ip⟩:=id hR.params;obtain ⟨⟨B1,m1,d1,rfl,_⟩,⟨B2,m2,d2,rfl,_⟩,⟨B3,m3,d3,rfl,_⟩,⟨B4,m4,d4,rfl,_⟩⟩:=id hR.start.sls;obtain ⟨⟨B5,m5,d5,rfl,_⟩,⟨B6,m6,d6,rfl,_⟩,⟨B7,m7,d7,rfl,_⟩,⟨B8,m8,d8,rfl,_⟩⟩:=id hR.over.sls;obtain ⟨⟨B9,m9,d9,rfl,_⟩,⟨B10,m10,d10,rfl,_⟩,⟨B11,m11,d11,rfl,_⟩,⟨B12,m12,d12,rfl,_⟩⟩:=id hR.fin.sls;obtain ⟨B13,m13,d13,rfl,ias⟩:=id hR.atStart;obtain ⟨B14,m14,d14,rfl,iae⟩:=id hR.atEnd;have las:=ias.len;have lae:=iae.len;refine zWN ?_;intros;refine Yam [] [_,_] ?_;refine wG ?_;refine Yg (vs:=[Zy x.start.op,Zy x.start.name,Zc B1 m1 d1,Zc B2 m2 d2,Zc B3 m3 d3,Zc B4 m4 d4]) 0 ?_;refine Ys (Ys ?_);refine wG ?_;refine Yg (vs:=[Zy x.over.op,Zy x.over.name,Zc B5 m5 d5,Zc B6 m6 d6,Zc B7 m7 d7,Zc B8 m8 d8]) 0 ?_;refine Ys (Ys ?_);refine wG ?_;refine Yg (vs:=[Zy x.fin.op,Zy x.fin.name,Zc B9 m9 d9,Zc B10 m10 d10,Zc B11 m11 d11,Zc B12 m12 d12]) 0 ?_;refine Ys (Ys ?_);refine wG ?_;refine Yg (vs:=[Zy x.start.op,Zy x.start.name,Zc B1 m1 d1,Zc B2 m2 d2,Zc B3 m3 d3,Zc B4 m4 d4]) 0 ?_;refine wG ?_;refine Yg (vs:=[Zy x.over.op,Zy x.over.name,Zc B5 m5 d5,Zc B6 m6 d6,Zc B7 m7 d7,Zc B8 m8 d8]) 0 ?_;refine wG ?_;refine Yg (vs:=[Zy x.fin.op,Zy x.fin.name,Zc B9 m9 d9,Zc B10 m10 d10,Zc B11 m11 d11,Zc B12 m12 d12]) 0 ?_;refine Ys (Ys ?_);refine zW ?_;refine Ys ?_;refine zW ?_;refine pT ?_;refine Po.dag [7,8,11,12,15,16,23,24,27,30] 30 40 (DurV x) Zz Zz Zj Zj Zj Zj DurV.mono ⟨Zd,Zx⟩ ?_ (fun dn cv τ1 fz3 hle3 h2 hv hτ=>?_)
  ·refine DagOps.step (fun cv fz4 hle4 h4 hd=>?_) ?_
   ·exact Does.cv (cv':=[]) trivial h4 (Does.post (Yb (cs:=[Zy x.start.op,Zy x.start.name,Zc B1 m1 d1,Zc B2 m2 d2,Zc B3 m3 d3,Zc B4 m4 d4]) (fun gb=>⟨_,[_],Zq (l₁:=[_]),fun fz5 hle5 hf5=>⟨rfl,hle5,.m7 (Ype (hf5 _ (.head _)) (YR (hR.start.mono (hle4.trans hle5))))⟩⟩)))
   refine DagOps.step (fun cv fz4 hle4 h4 hd=>?_) ?_
   ·obtain ⟨v7,e7,h7⟩:=hd 7 Zj Zj;obtain ⟨E7,r7,q7,rfl,hs7⟩:=h7.p7 rfl;exact Does.cv (cv':=[(7,_)]) ⟨e7,trivial⟩ h4 (Yj [] _ Zz (and_f hs7 (YmT _ (by simp;omega))) (fun v8 fz5 H5 hle5 hR5=>by
     obtain ⟨rfl,hV5⟩:=hR5;exact ⟨rfl,hle5,.m8 hV5⟩))
   refine DagOps.step (fun cv fz4 hle4 h4 hd=>?_) ?_
   ·exact Does.cv (cv':=[]) trivial h4 (Does.post (Yb (cs:=[Zy x.over.op,Zy x.over.name,Zc B5 m5 d5,Zc B6 m6 d6,Zc B7 m7 d7,Zc B8 m8 d8]) (fun gb=>⟨_,[_],Zq (l₁:=[_]),fun fz5 hle5 hf5=>⟨rfl,hle5,.m11 (Ype (hf5 _ (.head _)) (YR (hR.over.mono (hle4.trans hle5))))⟩⟩)))
   refine DagOps.step (fun cv fz4 hle4 h4 hd=>?_) ?_
   ·obtain ⟨v7,e7,h7⟩:=hd 11 Zj Zj;obtain ⟨E7,r7,q7,rfl,hs7⟩:=h7.p11 rfl;exact Does.cv (cv':=[(11,_)]) ⟨e7,trivial⟩ h4 (Yj [] _ Zz (and_f hs7 (YmT _ (by simp;omega))) (fun v8 fz5 H5 hle5 hR5=>by
     obtain ⟨rfl,hV5⟩:=hR5;exact ⟨rfl,hle5,.m12 hV5⟩))
   refine DagOps.step (fun cv fz4 hle4 h4 hd=>?_) ?_
   ·exact Does.cv (cv':=[]) trivial h4 (Does.post (Yb (cs:=[Zy x.fin.op,Zy x.fin.name,Zc B9 m9 d9,Zc B10 m10 d10,Zc B11 m11 d11,Zc B12 m12 d12]) (fun gb=>⟨_,[_],Zq (l₁:=[_]),fun fz5 hle5 hf5=>⟨rfl,hle5,.m15 (Ype (hf5 _ (.head _)) (YR (hR.fin.mono (hle4.trans hle5))))⟩⟩)))
   refine DagOps.step (fun cv fz4 hle4 h4 hd=>?_) ?_
   ·obtain ⟨v7,e7,h7⟩:=hd 15 Zj Zj;obtain ⟨E7,r7,q7,rfl,hs7⟩:=h7.p15 rfl;exact Does.cv (cv':=[(15,_)]) ⟨e7,trivial⟩ h4 (Yj [] _ Zz (and_f hs7 (YmT _ (by simp;omega))) (fun v8 fz5 H5 hle5 hR5=>by
     obtain ⟨rfl,hV5⟩:=hR5;exact ⟨rfl,hle5,.m16 hV5⟩))
   refine DagOps.step (fun cv fz4 hle4 h4 hd=>?_) ?_
   ·exact Does.cv (cv':=[]) trivial h4 (Does.post (Yb (cs:=[Zy x.start.op,Zy x.start.name,Zc B1 m1 d1,Zc B2 m2 d2,Zc B3 m3 d3,Zc B4 m4 d4,Zy x.over.op,Zy x.over.name,Zc B5 m5 d5,Zc B6 m6 d6,Zc B7 m7 d7,Zc B8 m8 d8,Zy x.fin.op,Zy x.fin.name,Zc B9 m9 d9,Zc B10 m10 d10,Zc B11 m11 d11,Zc B12 m12 d12]) (fun gb=>⟨_,[_],Zq (l₁:=[_]),fun fz5 hle5 hf5=>⟨rfl,hle5,.m23 (is_three (hf5 _ (.head _)) (YR (hR.start.mono (hle4.trans hle5))) (YR (hR.over.mono (hle4.trans hle5))) (YR (hR.fin.mono (hle4.trans hle5))))⟩⟩)))
   refine DagOps.step (fun cv fz4 hle4 h4 hd=>?_) ?_
   ·obtain ⟨v7,e7,h7⟩:=hd 23 Zj Zj;obtain ⟨E7,r7,q7,rfl,hs7⟩:=h7.p23 rfl;exact Does.cv (cv':=[(23,_)]) ⟨e7,trivial⟩ h4 (Yj [] _ Zz (and_f hs7 (YmT _ (by simp;omega))) (fun v8 fz5 H5 hle5 hR5=>by
     obtain ⟨rfl,hV5⟩:=hR5;exact ⟨rfl,hle5,.m24 hV5⟩))
   refine DagOps.step (fun cv fz4 hle4 h4 hd=>?_) ?_
   ·exact Does.cv (cv':=[]) trivial h4 (Yj [] _ Zz (Yf4 (ias.mono hle4) Zi w7) (fun v8 fz5 H5 hle5 hR5=>by
     obtain ⟨rfl,hV5⟩:=hR5;exact ⟨rfl,hle5,.m27 hV5⟩))
   refine DagOps.step (fun cv fz4 hle4 h4 hd=>?_) ?_
   ·exact Does.cv (cv':=[]) trivial h4 (Yj [] _ Zz (Yf4 (iae.mono hle4) Zi w8) (fun v8 fz5 H5 hle5 hR5=>by
     obtain ⟨rfl,hV5⟩:=hR5;exact ⟨rfl,hle5,.m30 hV5⟩))
   exact DagOps.nil rfl
  obtain ⟨v8,e8,h8⟩:=hv 8 Zj;obtain ⟨v12,e12,h12⟩:=hv 12 Zj;obtain ⟨v16,e16,h16⟩:=hv 16 Zj;obtain ⟨v24,e24,h24⟩:=hv 24 Zj;obtain ⟨v27,e27,h27⟩:=hv 27 Zj;obtain ⟨v30,e30,h30⟩:=hv 30 Zj;obtain ⟨C80,s80,t80,C81,s81,t81,C82,s82,t82,C83,s83,t83,rfl,hF8⟩:=(h8.p8 rfl).open;obtain ⟨C120,s120,t120,C121,s121,t121,C122,s122,t122,C123,s123,t123,rfl,hF12⟩:=(h12.p12 rfl).open;obtain ⟨C160,s160,t160,C161,s161,t161,C162,s162,t162,C163,s163,t163,rfl,hF16⟩:=(h16.p16 rfl).open;obtain ⟨C240,s240,t240,C241,s241,t241,C242,s242,t242,C243,s243,t243,rfl,hF24⟩:=(h24.p24 rfl).open;obtain ⟨C27,s27,t27,rfl,hC27⟩:=h27.p27 rfl;obtain ⟨C30,s30,t30,rfl,hC30⟩:=h30.p30 rfl;refine Po.cv [(8,_),(12,_),(16,_),(24,_),(27,_),(30,_)] ⟨e8,e12,e16,e24,e27,e30,trivial⟩ h2 Zj ?_;refine Ya ?_;refine PoS.qk ⟨hle3,Zx⟩ (XE ?_);refine Ya ?_;refine Yd (Yb (cs:=[Zy x.name,Zc B0 m0 d0,Zy (normV (andF [x.start])).op,Zy (normV (andF [x.start])).name,Zc C80 s80 t80,Zc C81 s81 t81,Zc C82 s82 t82,Zc C83 s83 t83,Zy (normV (andF [x.start,x.over,x.fin])).op,Zy (normV (andF [x.start,x.over,x.fin])).name,Zc C240 s240 t240,Zc C241 s241 t241,Zc C242 s242 t242,Zc C243 s243 t243,Zy (normV (andF [x.over])).op,Zy (normV (andF [x.over])).name,Zc C120 s120 t120,Zc C121 s121 t121,Zc C122 s122 t122,Zc C123 s123 t123,Zy (normV (andF [x.fin])).op,Zy (normV (andF [x.fin])).name,Zc C160 s160 t160,Zc C161 s161 t161,Zc C162 s162 t162,Zc C163 s163 t163,Zc C27 s27 t27,Zc C30 s30 t30,Zo false,Zn]) (fun gb=>⟨⟨hle3,Zx⟩,?_⟩));refine Ya ?_;refine Yd (YC (Hr:=[_,_,_]) (d:=schD x) (Zr _) (hG2.mono hle3) Yhu (.head _) (YcN (x:=schD x) ⟨hR.name,ip.is.mono hle3,hF8,hF24,hF12,hF16,hC27.is,hC30.is,trivial,IsSl.nil⟩) (fun v9 H9 hO9=>⟨⟨hle3,Zx⟩,?_⟩));obtain ⟨A9,c9,rfl,_,_⟩:=hO9.form;refine Ya ?_;refine PoS.qk ⟨hle3,Zx⟩ (YO ?_);refine Po.done ?_;refine blkN ?_;refine Ydl ?_;refine Wp.weaken (σ':=[(4,Zc A9 (n5+k+1) c9),(47,Zk k),(46,Zk n6),(45,Zc A6 n6 b6),(1,Zp g1)]) ⟨rfl,(hτ 47 Zj).trans rfl,(hτ 46 Zj).trans rfl,(hτ 45 Zj).trans rfl,(hτ 1 Zj).trans rfl,trivial⟩ (List.Sublist.refl _) ?_;exact wP (h:=by exact ⟨k+1,_,H9,by omega,rfl,rfl,hle2.trans hle3,rfl,hO9.of (by rw [List.take_add_one,hx];simp) rfl⟩)
 have hk2:n6=k:=by omega
 subst hk2;rw [Zl (show d.duratives.length<=n6 by omega)] at hG2;change Grow schemaL _ fz2 _ _ _ (schB d) at hG2;have lB:(schB d).length=n5+n6:=hG2.len;generalize hN:n5+n6=N at hG2 lB;have hleA:=hle.trans hle2;refine zW ?_;refine Yl (fun q σ fz3 H'=>∃ (k:Nat) (Hs:HP),k<=N/\q=N - k/\σ=[(88,Zk k),(87,Zk N),(10,Zk ((Ybz (((schB d).take k).map (Ybi K)):Nat):Int)),(4,Zc Au2 N cu2),(1,Zp g1)]/\Le fz2 fz3/\H'=(g1,Zu #[Zp gk] 62)::Hs/\Grow schemaL 78 fz3 (Zc Au2 N cu2) N Hs (((schB d).take k).map (Ybi K)++(schB d).drop k)) ⟨0,Hs2,Z0 _,rfl,rfl,Zd,rfl,hG2.of (by simp) rfl⟩ Zw Zb ?_;rintro q σ fz3 H' ⟨k,Hs3,hk3,rfl,rfl,hle3,rfl,hG3⟩;have hmb:=manyS_le K d k;refine wC ?_ ?_<;>intro c3
 ·obtain ⟨x,hx⟩:=Ye (l:=schB d) (k:=k) Zi;have hxk:(((schB d).take k).map (Ybi K)++(schB d).drop k)[k]?=some x:=by
   rw [List.getElem?_append_right (by rw [List.length_map,List.length_take];omega),List.length_map,List.length_take,List.getElem?_drop,<- hx]
   congr 1;omega
  have hps:=Yl5 hS (Zm hx);obtain ⟨gb,cap,cur,e8,rfl,hB⟩:=hG3.b Zi;injection e8 with e81 e82 e83
  subst e81;subst e83;obtain ⟨cs,hrx,hcx⟩:=YbJ hB hxk;obtain ⟨u0,u1,u2,u3,u4,u5,u6,u7,u8,u9,u10,u11,u12,u13,u14,u15,u16,u17,u18,u19,rfl,hRx⟩:=Yag hrx;obtain ⟨P1,pn,pc,rfl,hPs⟩:=id hRx.params;have lps:=hPs.len;have hK3:=hK0.mono (hleA.trans hle3);refine zWN ?_;refine Y0 [_,_] ?_;refine wG ?_;refine Yn rfl ?_;refine wG ?_;refine Yu 1 ?_ (hv:=Ykm (o:=1) hcx rfl);refine pU ?_;refine Yf (Yj [] [_,_] Zz (comb_f (most:=4096) hK3 hPs Zi Zh) (fun v8 fz8 H8 hle8 hR8=>⟨⟨hle8,Zx⟩,?_⟩));obtain ⟨rfl,Bc,mc8,dc8,rfl,hSc⟩:=hR8;have lsc:=hSc.len;have hcl:(Yc4 K x.params 4096).length<=4097:=Yei K 4096 x.params [[]] (by simp);refine Ch.qk ⟨hle8,Zx⟩ (Yn rfl ?_);refine Ch.qk ⟨hle8,Zx⟩ (Xr ?_);have hB8:=Yns (o:=29) (d':=Ybi K x) (v:=Zc Bc mc8 dc8) (hB.mono hle8) hxk hcx Zh (YcN (x:=Ybi K x) (let h:=hRx.mono hle8;⟨h.name,h.params,h.start,h.all,h.over,h.fin,h.early,h.late,trivial,hSc.is⟩));have e5:(((schB d).take k).map (Ybi K)++(schB d).drop k).set k (Ybi K x)=((schB d).take (k+1)).map (Ybi K)++(schB d).drop (k+1):=by
   rw [List.set_append_right _ _ (by rw [List.length_map,List.length_take];omega),List.length_map,List.length_take,show k - min k (schB d).length=0 by omega];obtain ⟨h1,h2⟩:=Zg hx;rw [List.drop_eq_getElem_cons h1,List.set_cons_zero,List.take_add_one,hx];simp
  rw [e5] at hB8;have hxk8:(((schB d).take (k+1)).map (Ybi K)++(schB d).drop (k+1))[k]?=some (Ybi K x):=by
   rw [<- e5,List.getElem?_set_self (by rw [List.length_append,List.length_map,List.length_take,List.length_drop];omega)]
  obtain ⟨cs8,hr8,hc8⟩:=YbJ hB8 hxk8;have hl29:k*schemaL.size+29<cur.length:=by
   have h1:=hB.size;have h2:k*schemaL.size+schemaL.size<=cu2*schemaL.size:=by rw [<- Nat.succ_mul];exact Nat.mul_le_mul_right _ (by have:=hB.capn;omega)
   have h3:schemaL.size=30:=rfl;omega
  have hc29:cs8[29]?=some (Zc Bc mc8 dc8):=by
   rw [<- hc8,List.getElem?_take_of_lt Zh,List.getElem?_drop,List.getElem?_set_self hl29]
  have hms:Ybz (((schB d).take (k+1)).map (Ybi K))=Ybz (((schB d).take k).map (Ybi K))+mc8:=by
   unfold Ybz;rw [List.take_add_one,hx,List.map_append,List.map_append,List.sum_append];show _+((Ybi K x).arguments.length+0)=_;rw [show (Ybi K x).arguments=Yc4 K x.params 4096 from rfl,lsc];rfl
  refine Ch.hard0 (Ygt (pre:=[_]) (j:=k*schemaL.size+29) ?_ (hH:=rfl) (hs:=rfl) (hv:=rfl) (h1:=rfl) (hj:=hl29));refine Ch.done ?_;refine wG ?_;refine Yn rfl ?_;refine wG ?_;refine Yu 1 ?_ (hv:=Ykm (o:=29) (z:=schemaL.size) (j:=k) hc8 hc29);exact wP (h:=by exact ⟨k+1,_,by omega,rfl,by rw [hms],hle3.trans hle8,rfl,hB8.grow⟩)
 have hk4:N=k:=by omega
 subst hk4;rw [Zl (show (schB d).length<=N by omega)] at hG3 ⊢;rw [List.drop_eq_nil_of_le (show (schB d).length<=N by omega),List.append_nil] at hG3;change Grow schemaL _ fz3 _ _ _ (schL K d) at hG3;rw [show (schB d).map (Ybi K)=schL K d from rfl];have hmz:Ybz (schL K d)<=4097*(schB d).length:=Ygp K (schB d);refine wC ?_ ?_<;>intro c4
 ·have hE:schE K d=5:=by rw [schE,if_pos Zi]
  exact wS (h:=by exact ⟨rfl,_,by rw [hE];rfl,fun h=>absurd h (by rw [hE];decide),fun _=>rfl⟩)
 have hno:¬4096<Ybz (schL K d):=by omega
 first
 | refine Wp.freezeAll (H1:=[_]) (H2:=Hs3) (Zr _) (fun fz4 hle4 hf4=>?_)
 | refine Seq.freezeAll (H1:=[_]) (H2:=Hs3) (Zr _) (fun fz4 hle4 hf4=>?_)
 obtain ⟨A9,c9,e9,hSl⟩:=hG3.sl hle4 hf4 Zi;injection e9 with e91 e92 e93
 subst e91;subst e93;have lSl:=hSl.len;refine zW ?_;refine Yl (fun q σ fz5 H'=>∃ (k:Nat),k<=N/\q=N - k/\σ=[(116,Zk k),(115,Zk N),(114,Zc Au2 N cu2),(4,Zc Au2 N cu2),(1,Zp g1)]/\fz4=fz5/\H'=[(g1,Zu #[Zp gk] 62)]/\∀ i,i<k->∀ s,(schL K d)[i]?=some s->¬Yk1 K s) ⟨0,Z0 _,rfl,rfl,rfl,rfl,fun i hi=>absurd hi Zi⟩ Zw Zb ?_;rintro q σ fz5 H' ⟨k,hk5,rfl,rfl,rfl,rfl,hall⟩;have hK4:=hK0.mono (hleA.trans (hle3.trans hle4));refine wC ?_ ?_<;>intro c5
 ·obtain ⟨x,hx⟩:=Ye (l:=schL K d) (k:=k) Zi;have hxm:=Zm hx;refine wI hSl hx (fun p5 hp5=>?_);refine zL hp5 ?_;intro cs hcs;obtain ⟨u0,u1,u2,u3,u4,u5,u6,u7,u8,u9,u10,u11,u12,u13,u14,u15,u16,u17,u18,u19,rfl,hR⟩:=Yag hcs;obtain ⟨B0,m0,d0,rfl,_⟩:=id hR.params;obtain ⟨⟨B1,m1,d1,rfl,_⟩,⟨B2,m2,d2,rfl,_⟩,⟨B3,m3,d3,rfl,_⟩,⟨B4,m4,d4,rfl,_⟩⟩:=id hR.start.sls;obtain ⟨⟨B5,m5,d5,rfl,_⟩,⟨B6,m6,d6,rfl,_⟩,⟨B7,m7,d7,rfl,_⟩,⟨B8,m8,d8,rfl,_⟩⟩:=id hR.all.sls;obtain ⟨⟨B9,m9,d9,rfl,_⟩,⟨B10,m10,d10,rfl,_⟩,⟨B11,m11,d11,rfl,_⟩,⟨B12,m12,d12,rfl,_⟩⟩:=id hR.over.sls;obtain ⟨⟨B13,m13,d13,rfl,_⟩,⟨B14,m14,d14,rfl,_⟩,⟨B15,m15,d15,rfl,_⟩,⟨B16,m16,d16,rfl,_⟩⟩:=id hR.fin.sls;obtain ⟨B17,m17,d17,rfl,_⟩:=id hR.early;obtain ⟨B18,m18,d18,rfl,il⟩:=id hR.late;obtain ⟨B19,m19,d19,rfl,_⟩:=id hR.arguments;cases hcnt:x.count with
  | false=>
   refine zW ?_;intros;exact wM (h:=by exact YF hall hx (fun h=>by rw [Yk1,hcnt] at h;exact absurd h.1 Zh))
  | true=>
   obtain ⟨hs1,hs2⟩:=schL_sh hS hxm hcnt;refine zW ?_;intros
   ((refine zG ?_);refine Yg (vs:=[Zy x.start.op,Zy x.start.name,Zc B1 m1 d1,Zc B2 m2 d2,Zc B3 m3 d3,Zc B4 m4 d4]) 0 ?_);refine zc (Yoh hK4 hR.start hs1) ?_;refine zC ?_ ?_<;>intro c6
   ·have hb:Yk1 K x:=⟨hcnt,.inl Zi⟩;have hE:schE K d=5:=by rw [schE,if_neg hno,if_pos ⟨x,hxm,hb⟩]
    exact wS (h:=by exact ⟨rfl,_,by rw [hE];rfl,fun h=>absurd h (by rw [hE];decide),fun _=>rfl⟩)
   refine wG ?_;refine YX ?_;refine zG ?_;refine Ycr (fun fz' hle hf=>YaP (p:=fun y=>64<termsM K y.when_) (il.mono hle) (fun y hy cs hcs=>schm1_q (hK4.mono hle) hcs (hs2 y hy) (hf _ (.tail _ (.head _))))) (fun f1=>?_) (fun f1=>?_)
   ·have hb:Yk1 K x:=⟨hcnt,.inr (Zt f1)⟩;have hE:schE K d=5:=by rw [schE,if_neg hno,if_pos ⟨x,hxm,hb⟩]
    exact wS (h:=by exact ⟨rfl,_,by rw [hE];rfl,fun h=>absurd h (by rw [hE];decide),fun _=>rfl⟩)
   have hb:¬Yk1 K x:=fun h=>by
    rcases h.2 with h | h
    ·omega
    exact Zf f1 h
   exact wM (h:=by exact YF hall hx hb)
 have hA:∀ i s,(schL K d)[i]?=some s->¬Yk1 K s:=fun i s hi=>hall i (by have:=(Zg hi).1;omega) s hi
 have hE:schE K d=0:=by
  rw [schE,if_neg hno,if_neg];rintro ⟨s,hs,hb⟩;obtain ⟨i,hi⟩:=List.getElem?_of_mem hs;exact hA i s hi hb
 exact wS (h:=by exact ⟨rfl,_,by rw [hE];rfl,fun _=>hSl.is,fun h=>absurd hE h⟩)
end Go.Proofs.YtdbfccanbbbjkaaGreatDoor
namespace Go.Lx
open Go.RowKit
def rowL:Lay (Nat × Nat) where
 size:=1
 rep:=fun _ x cs=>cs=[Zc (some ⟨x.1,0,none⟩) x.2 x.2]
 len:=fun h=>by subst h;rfl
 mono:=fun _ h=>h
section
variable {P:Program} {cx:Cx} {r:Operand->Option Value} {fz:FZ} {H:HP} {V:Value->Prop} {dst:Option Nat} {ty:TypeId} {pos:String} {af:Array Edge} {gd:Option (Nat × Bool)}
theorem Xc {t:TypeId} {x:Operand} {X:Ty} {p:Addr} {d:Nat × Nat} (h:At rowL fz p d) (hV:V (.slice (some ⟨d.1,0,none⟩) d.2 d.2)) (T:Tab P:=by exact T) (hT:T.inf t=some X:=by exact rfl) (hd:XZ X.desc=false:=by exact rfl) (hx:r x=some (.pointer (some p)):=by exact rfl):DoesQ P cx ⟨dst,.load t x,ty,pos,af,gd⟩ r fz H V:=by
 obtain ⟨v,h1,h2⟩:=h.cell rfl;injection h1 with h1
 subst h1;exact YaJ T hT hd hx h2 hV
end
theorem row_one:OneC rowL:=by
 intro fz d cs h u hu;subst h;simp at hu;subst hu;rfl
end Go.Lx
namespace Go.Proofs.YtdbfccanbbbjkaaGreatDoor
variable {g i:Nat} {K:Kn}
def rowO (g:Nat) (b:List Bool):Nat × Obj:=(g,.cells (b.map Value.bool).toArray 4 (0,0))
def rowsO (gs:List Nat) (B:List (List Bool)):HP:=List.zipWith rowO gs B
theorem Yf2 {gs:List Nat} {B:List (List Bool)} {b:List Bool} (hg:gs[i]?=some g) (hb:B[i]?=some b):(rowsO gs B)[i]?=some (rowO g b):=by
 unfold rowsO;rw [List.getElem?_zipWith,hg,hb]
theorem Yor {gs:List Nat} {B:List (List Bool)} (h:gs.length=B.length):(rowsO gs B).length=gs.length:=by
 unfold rowsO;rw [List.length_zipWith];omega
theorem YjF {gs:List Nat} {B:List (List Bool)} {b b':List Bool} (hl:gs.length=B.length) (hg:gs[i]?=some g) (hb:B[i]?=some b):
 ∃ pre post,rowsO gs B=pre++rowO g b::post/\rowsO gs (B.set i b')=pre++rowO g b'::post:=by
 obtain ⟨h1,h2⟩:=Zg hg;obtain ⟨h3,h4⟩:=Zg hb;have e1:gs=gs.take i++g::gs.drop (i+1):=by rw [<- h2,<- List.drop_eq_getElem_cons h1,List.take_append_drop]
 have e2:B=B.take i++b::B.drop (i+1):=by rw [<- h4,<- List.drop_eq_getElem_cons h3,List.take_append_drop]
 have e3:B.set i b'=B.take i++b'::B.drop (i+1):=by rw [List.set_eq_take_append_cons_drop,if_pos h3]
 have hz:∀ c,rowsO (gs.take i++g::gs.drop (i+1)) (B.take i++c::B.drop (i+1))=rowsO (gs.take i) (B.take i)++rowO g c::rowsO (gs.drop (i+1)) (B.drop (i+1)):=fun c=>by
  unfold rowsO;rw [List.zipWith_append (by rw [List.length_take,List.length_take];omega)];rfl
 refine ⟨rowsO (gs.take i) (B.take i),rowsO (gs.drop (i+1)) (B.drop (i+1)),?_,?_⟩
 ·rw [<- hz b,<- e1,<- e2]
 rw [e3,<- hz b',<- e1]
structure InsR where
 S:List Atom
 b:Bool
 d:Bool
 n:Bool
def envA (s:Schema) (a:List Bs):EnvM:=extE (fun _=>none) s.params a
def XC (K:Kn) (s:Schema) (a:List Bs) (S:List Atom) (b d:Bool):InsR:=
 let E:=envA s a
 let b':=b || holdsM K S E s.start
 let d':=d || (b' && holdsM K S E s.all)
 let r1:=if b'=true then Wz K s.early E S else (S,false)
 let r2:=if d'=true then Wz K s.late E r1.1 else (r1.1,false)
 ⟨r2.1,b',d',r2.2 || (r1.2 || ((!d && d') || (!b && b')))⟩
structure RowS where
 S:List Atom
 bs:List Bool
 ds:List Bool
 n:Bool
def Ym5 (K:Kn) (s:Schema) (st:RowS) (j:Nat) (a:List Bs):RowS:=
 let q:=XC K s a st.S (st.bs[j]?.getD false) (st.ds[j]?.getD false)
 ⟨q.S,st.bs.set j q.b,st.ds.set j q.d,q.n || st.n⟩
def rowN (K:Kn) (s:Schema):Nat->RowS->RowS
 | 0,st=>st
 | k+1,st=>match s.arguments[k]? with
  | some a=>Ym5 K s (rowN K s k st) k a
  | none=>rowN K s k st
structure RndS where
 S:List Atom
 B:List (List Bool)
 D:List (List Bool)
 n:Bool
def stepW (K:Kn) (w:RndS) (i:Nat) (s:Schema):RndS:=
 let r:=rowN K s s.arguments.length ⟨w.S,w.B[i]?.getD [],w.D[i]?.getD [],w.n⟩
 ⟨r.S,w.B.set i r.bs,w.D.set i r.ds,r.n⟩
def rndN (K:Kn) (l:List Schema):Nat->RndS->RndS
 | 0,w=>w
 | i+1,w=>match l[i]? with
  | some s=>stepW K (rndN K l i w) i s
  | none=>rndN K l i w
def Xq (K:Kn) (l:List Schema) (S:List Atom) (B D:List (List Bool)):RndS:=rndN K l l.length ⟨S,B,D,false⟩
theorem YfB (K:Kn) (s:Schema):∀ (k:Nat) (st:RowS),(rowN K s k st).bs.length=st.bs.length/\(rowN K s k st).ds.length=st.ds.length
 | 0,_=>⟨rfl,rfl⟩
 | k+1,st=>by
  have h:=YfB K s k st;rw [rowN];split
  ·exact ⟨by show ((rowN K s k st).bs.set _ _).length=_;rw [List.length_set];exact h.1,by show ((rowN K s k st).ds.set _ _).length=_;rw [List.length_set];exact h.2⟩
  exact h
theorem Yf3 {s:Schema} {k:Nat} {st:RowS} {a:List Bs} (h:s.arguments[k]?=some a):rowN K s (k+1) st=Ym5 K s (rowN K s k st) k a:=by rw [rowN,h]
theorem Yf5 {l:List Schema} {w:RndS} {s:Schema} (h:l[i]?=some s):rndN K l (i+1) w=stepW K (rndN K l i w) i s:=by rw [rndN,h]
def FitR (l:List Schema) (B:List (List Bool)):Prop:=B.length=l.length/\∀ (i:Nat) (s:Schema) (b:List Bool),l[i]?=some s->B[i]?=some b->b.length=s.arguments.length
theorem FitR.set {l:List Schema} {B:List (List Bool)} (h:FitR l B) {b b':List Bool} (hb:B[i]?=some b) (hl:b'.length=b.length):FitR l (B.set i b'):=by
 refine ⟨by rw [List.length_set];exact h.1,fun j s c hs hc=>?_⟩;by_cases he:i=j
 ·subst he;have hlt:=(Zg hb).1;rw [List.getElem?_set_self hlt] at hc;injection hc with hc
  subst hc;rw [hl];exact h.2 i s b hs hb
 rw [List.getElem?_set_ne he] at hc;exact h.2 j s c hs hc
theorem YdT {K:Kn} {l:List Schema}:∀ (i:Nat) {w:RndS},FitR l w.B->FitR l w.D->FitR l (rndN K l i w).B/\FitR l (rndN K l i w).D
 | 0,_,h1,h2=>⟨h1,h2⟩
 | i+1,w,h1,h2=>by
  obtain ⟨k1,k2⟩:=YdT (K:=K) i h1 h2;rw [rndN];split
  ·rename_i s hs;have hlt:i<l.length:=(Zg hs).1;obtain ⟨b,hb⟩:=Ye (l:=(rndN K l i w).B) (k:=i) (by rw [k1.1];exact hlt);obtain ⟨d,hd⟩:=Ye (l:=(rndN K l i w).D) (k:=i) (by rw [k2.1];exact hlt);have hrl:=YfB K s s.arguments.length ⟨(rndN K l i w).S,((rndN K l i w).B[i]?).getD [],((rndN K l i w).D[i]?).getD [],(rndN K l i w).n⟩;exact ⟨k1.set hb (by rw [hrl.1,hb];rfl),k2.set hd (by rw [hrl.2,hd];rfl)⟩
  exact ⟨k1,k2⟩
end Go.Proofs.YtdbfccanbbbjkaaGreatDoor
namespace Go.Lx
open Go.RowKit
section
variable {P:Program} {cx:Cx} {r:Operand->Option Value} {fz:FZ} {H:HP} {dst:Option Nat} {ty:TypeId} {pos:String} {af:Array Edge} {gd:Option (Nat × Bool)}
variable {X:Ty} {cs:List Value} {g j:Nat} {t t':TypeId} {v:Value} {x y:Operand}
theorem Yfi (T:Tab P) {pre post H2:HP} {K:Value->FZ->HP->Prop} (hT:T.inf t=some X)
 (hx:r x=some (.pointer (some ⟨g,j,none⟩))) (hy:r y=some v) (hH:H=pre++(g,Zu cs.toArray t')::post) (hs:X.size=1) (hv:v.cells=#[v]) (h1:v.oneCell'=true) (hj:j<cs.length)
 (hE:pre++(g,.cells (cs.set j v).toArray t' (0,0))::post=H2) (h:K undef fz H2):Does P cx ⟨dst,.store t x y,ty,pos,af,gd⟩ r fz H K:=Ygt (by rw [hE];exact h) (hT:=hT) (hx:=hx) (hy:=hy) (hH:=hH) (hs:=hs) (hv:=hv) (h1:=h1) (hj:=hj)
end
end Go.Lx
namespace Go.Proofs.YtdbfccanbbbjkaaGreatDoor
variable {α:Type} {j g i:Nat} {K:Kn} {fz:FZ} {m:List (Bs × Value)} {l:List α}
structure SSh (s:Schema):Prop where
 start:HSh s.start
 all:HSh s.all
 early:∀ c∈s.early,CSh c
 late:∀ c∈s.late,CSh c
 args:∀ a∈s.arguments,a.length=s.params.length/\∀ t∈a,PlnS t
theorem extE_P:∀ (l:List (Param × Bs)) {E:EnvM},EnvP E->(∀ z∈l,PlnS z.2)->EnvP (l.foldl (fun E z=>setE E z.1.name z.2) E)
 | [],_,h,_=>h
 | z::l,E,h,hl=>extE_P l (h.set (hl z (by simp))) (fun y hy=>hl y (by simp [hy]))
theorem envA_P {s:Schema} {a:List Bs} (h:∀ t∈a,PlnS t):EnvP (envA s a):=by
 unfold envA extE;refine extE_P _ (fun x y h=>by cases h) (fun z hz=>h z.2 ?_);exact (List.of_mem_zip hz).2
theorem Yad {bs:List Bool} {b:Bool} (h:bs[j]?=some b):(bs.map Value.bool)[(j:Int).toNat*1]?=some (Zo b):=by
 rw [Int.toNat_natCast,Nat.mul_one,List.getElem?_map,h];rfl
theorem Ymj {bs:List Bool} {b:Bool}:(bs.map Value.bool).set ((j:Int).toNat*1) (Zo b)=(bs.set j b).map Value.bool:=by
 rw [Int.toNat_natCast,Nat.mul_one,List.map_set]
theorem Yet {gB gD:List Nat} {B D:List (List Bool)} {k:Nat} {b:List Bool} {x y:Nat × Obj} (hg:gB[k]?=some g) (hb:B[k]?=some b):(x::y::(rowsO gB B++rowsO gD D))[k+2]?=some (g,.cells (b.map Value.bool).toArray 4 (0,0)):=by
 have h:=Yf2 hg hb;have hlt:=(Zg h).1;rw [List.getElem?_cons_succ,List.getElem?_cons_succ,List.getElem?_append_left hlt];exact h
theorem YkQ {gB gD:List Nat} {B D:List (List Bool)} {k:Nat} {b:List Bool} {x y:Nat × Obj} (hl:gB.length=B.length) (hg:gD[k]?=some g) (hb:D[k]?=some b):(x::y::(rowsO gB B++rowsO gD D))[gB.length+k+2]?=some (g,.cells (b.map Value.bool).toArray 4 (0,0)):=by
 have h:=Yf2 hg hb;have hlB:=Yor hl;rw [List.getElem?_cons_succ,List.getElem?_cons_succ,List.getElem?_append_right Zi,hlB,Nat.add_sub_cancel_left];exact h
theorem Yl4 {a b:α}:(l.set i a).set i b=l.set i b:=by rw [List.set_set]
theorem round_f {gr gk gs:Nat} {gB gD:List Nat} {S:List Atom} {B D:List (List Bool)} {l:List Schema} {As Ab Ad:Option Addr} {n cS cb cd:Nat}
 (hr:fz gr=some (Zu #[Zp gk,Zc As n cS,.map (some gs),Zc Ab n cb,Zc Ad n cd] 73)) (hK:KnR fz (Zp gk) K) (hOs:∀ o∈K.os,PlnS o.name) (hSet:SetM fz m S)
 (hl:Sl schemaL fz As n cS l) (hB:Sl rowL fz Ab n cb (gB.zip (l.map fun s=>s.arguments.length))) (hD:Sl rowL fz Ad n cd (gD.zip (l.map fun s=>s.arguments.length))) (lB:gB.length=l.length) (lD:gD.length=l.length) (fB:FitR l B) (fD:FitR l D) (hSh:∀ s∈l,SSh s):
 GFn prog 35 [Zp gr] fz ((gs,mapS m)::(rowsO gB B++rowsO gD D)) (fun r fz' H'=>r=Zo (Xq K l S B D).n/\∃ m',H'=(gs,mapS m')::(rowsO gB (Xq K l S B D).B++rowsO gD (Xq K l S B D).D)/\SetM fz' m' (Xq K l S B D).S):=by
 have ll:=hl.len;have sn:=hl.short;generalize hw0:(⟨S,B,D,false⟩:RndS)=w0';have e0:w0'.S=S/\w0'.B=B/\w0'.D=D/\w0'.n=false:=by subst hw0;exact ⟨rfl,rfl,rfl,rfl⟩
 have hM:Xq K l S B D=rndN K l l.length w0':=by rw [<- hw0];rfl
 refine zF Tryz.func35 Tryz.ntmps35 (fun w0=>?_);refine zW ?_;refine Yl (fun q σ fz' H'=>∃ (k:Nat) (m:List (Bs × Value)),k<=n/\q=n - k/\σ=[(14,Zk k),(13,Zk n),(12,Zc As n cS),(3,Zo (rndN K l k w0').n),(0,Zp gr)]/\Le fz fz'/\H'=(gs,mapS m)::(rowsO gB (rndN K l k w0').B++rowsO gD (rndN K l k w0').D)/\SetM fz' m (rndN K l k w0').S)
  ⟨0,m,Z0 _,rfl,by rw [rndN,e0.2.2.2],Zd,by rw [rndN,e0.2.1,e0.2.2.1],by rw [rndN,e0.1];exact hSet⟩ Zw Zb ?_
 rintro q σ fz1 H' ⟨k,m1,hk,rfl,rfl,hle1,rfl,hS1⟩;have hfit:=YdT (K:=K) k (w:=w0') (by rw [e0.2.1];exact fB) (by rw [e0.2.2.1];exact fD);generalize hw:rndN K l k w0'=w at hS1 hfit;obtain ⟨fB1,fD1⟩:=hfit;refine wC ?_ ?_<;>intro c1
 ·obtain ⟨s,hs⟩:=Ye (l:=l) (k:=k) Zi;have hnx:=Yf5 (K:=K) (w:=w0') hs;rw [hw] at hnx;have hsh:=hSh s (Zm hs);obtain ⟨gb,hgb⟩:=Ye (l:=gB) (k:=k) Zi;obtain ⟨gd,hgd⟩:=Ye (l:=gD) (k:=k) Zi;obtain ⟨b0,hb0⟩:=Ye (l:=w.B) (k:=k) (by rw [fB1.1];omega);obtain ⟨d0,hd0⟩:=Ye (l:=w.D) (k:=k) (by rw [fD1.1];omega);have lb0:=fB1.2 k s b0 hs hb0;have ld0:=fD1.2 k s d0 hs hd0;have hkB:=(Zg hb0).1;have hkD:=(Zg hd0).1;have eB:(gB.zip (l.map fun s=>s.arguments.length))[k]?=some (gb,s.arguments.length):=by rw [List.getElem?_zip_eq_some];exact ⟨hgb,by rw [List.getElem?_map,hs];rfl⟩
  have eD:(gD.zip (l.map fun s=>s.arguments.length))[k]?=some (gd,s.arguments.length):=by rw [List.getElem?_zip_eq_some];exact ⟨hgd,by rw [List.getElem?_map,hs];rfl⟩
  unfold stepW at hnx;rw [hb0,hd0] at hnx;simp only [Option.getD_some] at hnx;generalize hst0:(⟨w.S,b0,d0,w.n⟩:RowS)=st0 at hnx;have f0:st0.S=w.S/\st0.bs=b0/\st0.ds=d0/\st0.n=w.n:=by subst hst0;exact ⟨rfl,rfl,rfl,rfl⟩
  refine wI (hl.mono hle1) hs (fun pp1 hp1=>?_);refine zL hp1 ?_;intro cs hcs;obtain ⟨u0,u1,u2,u3,u4,u5,u6,u7,u8,u9,u10,u11,u12,u13,u14,u15,u16,u17,u18,u19,rfl,hR⟩:=Yag hcs;obtain ⟨P0,p0,q0,rfl,ip⟩:=id hR.params;obtain ⟨⟨P1,p1,q1,rfl,_⟩,⟨P2,p2,q2,rfl,_⟩,⟨P3,p3,q3,rfl,_⟩,⟨P4,p4,q4,rfl,_⟩⟩:=id hR.start.sls;obtain ⟨⟨P5,p5,q5,rfl,_⟩,⟨P6,p6,q6,rfl,_⟩,⟨P7,p7,q7,rfl,_⟩,⟨P8,p8,q8,rfl,_⟩⟩:=id hR.all.sls;obtain ⟨⟨P9,p9,q9,rfl,_⟩,⟨P10,p10,q10,rfl,_⟩,⟨P11,p11,q11,rfl,_⟩,⟨P12,p12,q12,rfl,_⟩⟩:=id hR.over.sls;obtain ⟨⟨P13,p13,q13,rfl,_⟩,⟨P14,p14,q14,rfl,_⟩,⟨P15,p15,q15,rfl,_⟩,⟨P16,p16,q16,rfl,_⟩⟩:=id hR.fin.sls;obtain ⟨P17,p17,q17,rfl,ie⟩:=id hR.early;obtain ⟨P18,p18,q18,rfl,il⟩:=id hR.late;obtain ⟨P19,p19,q19,rfl,iar⟩:=id hR.arguments;have lar:=iar.len;have sar:=iar.short;have lpar:=ip.len;refine zW ?_;intros;rename_i g5;refine Yl (fun q σ fz' H'=>∃ (j:Nat) (m:List (Bs × Value)),j<=p19/\q=p19 - j/\σ=[(22,Zk j),(21,Zk p19),(20,Zc P19 p19 q19),(14,Zk k),(13,Zk n),(12,Zc As n cS),(5,Zp g5),(4,Zk k),(3,Zo (rowN K s j st0).n),(0,Zp gr)]/\Le fz1 fz'/\H'=(g5,Zu #[Zy s.name,Zc P0 p0 q0,Zy s.start.op,Zy s.start.name,Zc P1 p1 q1,Zc P2 p2 q2,Zc P3 p3 q3,Zc P4 p4 q4,Zy s.all.op,Zy s.all.name,Zc P5 p5 q5,Zc P6 p6 q6,Zc P7 p7 q7,Zc P8 p8 q8,Zy s.over.op,Zy s.over.name,Zc P9 p9 q9,Zc P10 p10 q10,Zc P11 p11 q11,Zc P12 p12 q12,Zy s.fin.op,Zy s.fin.name,Zc P13 p13 q13,Zc P14 p14 q14,Zc P15 p15 q15,Zc P16 p16 q16,Zc P17 p17 q17,Zc P18 p18 q18,Zo s.count,Zc P19 p19 q19] 78)::(gs,mapS m)::(rowsO gB (w.B.set k (rowN K s j st0).bs)++rowsO gD (w.D.set k (rowN K s j st0).ds))/\SetM fz' m (rowN K s j st0).S)
   ⟨0,m1,Z0 _,rfl,by rw [rowN,f0.2.2.2],Zd,by rw [rowN,f0.2.1,f0.2.2.1,Wo hb0,Wo hd0],by rw [rowN,f0.1];exact hS1⟩ Zw Zb ?_
  rintro q σ fz2 H' ⟨j,m2,hj,rfl,rfl,hle2,rfl,hS2⟩;have hlen:=YfB K s j st0;generalize hst:rowN K s j st0=st at hS2 hlen;have hx2:=hle1.trans hle2;have hr2:=hx2 _ _ hr;refine wC ?_ ?_<;>intro c2
  ·obtain ⟨a,ha⟩:=Ye (l:=s.arguments) (k:=j) Zi;have hrn:=Yf3 (K:=K) (st:=st0) ha;rw [hst] at hrn;obtain ⟨hal,hap⟩:=hsh.args a (Zm ha);have lbs:st.bs.length=p19:=by rw [hlen.1,f0.2.1,lb0,lar]
   have lds:st.ds.length=p19:=by rw [hlen.2,f0.2.2.1,ld0,lar]
   obtain ⟨b,hb⟩:=Ye (l:=st.bs) (k:=j) Zi;obtain ⟨d,hd⟩:=Ye (l:=st.ds) (k:=j) Zi;refine wI (iar.mono hle2) ha (fun pp2 hp2=>?_)
   ((refine zG ?_);refine X8 hp2 (fun Ay ny cy hy2=>?_));have ly:=hy2.len;refine zW ?_;refine Yc (Yj [] (_::_::(rowsO gB (w.B.set k st.bs)++rowsO gD (w.D.set k st.ds))) Zz (env_f (ip.mono hle2) hy2 Zi (.inl ⟨rfl,fun _=>rfl⟩)) (fun v3 fz3 H3 hle3 hR3=>?_));obtain ⟨rfl,hE3⟩:=hR3;have hE4:EnvR fz3 v3 (envA s a):=by
    rw [Zl Zi] at hE3;exact hE3
   have hP:=envA_P (s:=s) hap;have hx3:=hx2.trans hle3;have hr3:=hx3 _ _ hr;have hS3:=hS2.mono hle3;have hK3:=hK.mono hx3;have hE0:=hE4;obtain ⟨ge,me,rfl,_,_,_⟩:=hE4;generalize hq:XC K s a st.S b d=qi;have hqi:Ym5 K s st j a=⟨qi.S,st.bs.set j qi.b,st.ds.set j qi.d,qi.n || st.n⟩:=by
    unfold Ym5;rw [hb,hd];simp only [Option.getD_some];rw [hq]
   rw [hqi] at hrn;simp only [XC] at hq;generalize hh1:holdsM K st.S (envA s a) s.start=h1 at hq;generalize hh2:holdsM K st.S (envA s a) s.all=h2 at hq;generalize hb':(b || h1)=b' at hq;generalize hd':(d || (b' && h2))=d' at hq;generalize hr1:(if b'=true then Wz K s.early (envA s a) st.S else (st.S,false))=r1 at hq;generalize hr2':(if d'=true then Wz K s.late (envA s a) r1.1 else (r1.1,false))=r2 at hq;subst hq;simp only at hrn;have hBk:(w.B.set k st.bs)[k]?=some st.bs:=List.getElem?_set_self hkB;have hDk:(w.D.set k st.ds)[k]?=some st.ds:=List.getElem?_set_self hkD;have hlB1:gB.length=(w.B.set k st.bs).length:=by rw [List.length_set,lB,fB1.1]

   refine zWX ?_;refine YL (Y8 (fun σ fz' H'=>σ=[(8,.map (some ge)),(6,Zk j),(22,Zk j),(21,Zk p19),(20,Zc P19 p19 q19),(14,Zk k),(13,Zk n),(12,Zc As n cS),(5,Zp g5),(4,Zk k),(3,Zo ((!b && b') || st.n)),(0,Zp gr)]/\fz3=fz'/\H'=(g5,Zu #[Zy s.name,Zc P0 p0 q0,Zy s.start.op,Zy s.start.name,Zc P1 p1 q1,Zc P2 p2 q2,Zc P3 p3 q3,Zc P4 p4 q4,Zy s.all.op,Zy s.all.name,Zc P5 p5 q5,Zc P6 p6 q6,Zc P7 p7 q7,Zc P8 p8 q8,Zy s.over.op,Zy s.over.name,Zc P9 p9 q9,Zc P10 p10 q10,Zc P11 p11 q11,Zc P12 p12 q12,Zy s.fin.op,Zy s.fin.name,Zc P13 p13 q13,Zc P14 p14 q14,Zc P15 p15 q15,Zc P16 p16 q16,Zc P17 p17 q17,Zc P18 p18 q18,Zo s.count,Zc P19 p19 q19] 78)::(gs,mapS m2)::(rowsO gB (w.B.set k (st.bs.set j b'))++rowsO gD (w.D.set k (st.ds)))) ?_ ?_)
   ·cases b with
    | true=>
     have e7:st.bs.set j b'=st.bs:=by rw [<- hb'];exact Wo hb
     rw [show ((!true && b') || st.n)=st.n from by simp,e7];refine wI (hB.mono hx3) eB (fun ppx hpx=>?_);refine zG ?_;refine Xc hpx ?_;refine wG ?_;refine Yn (z:=1) rfl ?_;refine zG ?_;refine Yu (k+2) ?_ (hi:=Yet hgb hBk) (hv:=Yad hb);exact wN (h:=by exact ⟨rfl,rfl,rfl⟩)
    | false=>
     cases h1 with
     | false=>
      have e7:st.bs.set j b'=st.bs:=by rw [<- hb'];exact Wo hb
      rw [show ((!false && b') || st.n)=st.n from by rw [<- hb'];simp,e7];refine wI (hB.mono hx3) eB (fun ppx hpx=>?_);refine zG ?_;refine Xc hpx ?_;refine wG ?_;refine Yn (z:=1) rfl ?_;refine zG ?_;refine Yu (k+2) ?_ (hi:=Yet hgb hBk) (hv:=Yad hb);refine wG ?_;refine Yg (vs:=[Zy s.start.op,Zy s.start.name,Zc P1 p1 q1,Zc P2 p2 q2,Zc P3 p3 q3,Zc P4 p4 q4]) 0 ?_;refine wG ?_;refine WE (fun fz' hle hf=>YdF _ (Zs _) (hK3.mono hle) hOs (hf (gs,mapS m2) (by simp)) (hS3.mono hle) (hR.start.mono (hle2.trans (hle3.trans hle))) hsh.start (hE0.mono hle) hP) ?_;rw [hh1];exact wN (h:=by exact ⟨rfl,rfl,rfl⟩)
     | true=>
      have e8:b'=true:=by rw [<- hb'];rfl
      subst e8;rw [show ((!false && true) || st.n)=true from by simp];obtain ⟨pre,post,e1,e2⟩:=YjF (b':=st.bs.set j true) hlB1 hgb hBk;refine wI (hB.mono hx3) eB (fun ppx hpx=>?_);refine zG ?_;refine Xc hpx ?_;refine wG ?_;refine Yn (z:=1) rfl ?_;refine zG ?_;refine Yu (k+2) ?_ (hi:=Yet hgb hBk) (hv:=Yad hb);refine wG ?_;refine Yg (vs:=[Zy s.start.op,Zy s.start.name,Zc P1 p1 q1,Zc P2 p2 q2,Zc P3 p3 q3,Zc P4 p4 q4]) 0 ?_;refine wG ?_;refine WE (fun fz' hle hf=>YdF _ (Zs _) (hK3.mono hle) hOs (hf (gs,mapS m2) (by simp)) (hS3.mono hle) (hR.start.mono (hle2.trans (hle3.trans hle))) hsh.start (hE0.mono hle) hP) ?_;rw [hh1];refine wI (hB.mono hx3) eB (fun ppx hpx=>?_);refine zG ?_;refine Xc hpx ?_;refine wG ?_;refine Yn (z:=1) rfl ?_;refine YG (Yfi T (pre:=_::_::pre) (cs:=st.bs.map Value.bool) Zz Zz Zz (by rw [e1];simp only [List.append_assoc,List.cons_append];rfl) rfl rfl rfl (by rw [List.length_map,Int.toNat_natCast];omega) (H2:=(g5,Zu #[Zy s.name,Zc P0 p0 q0,Zy s.start.op,Zy s.start.name,Zc P1 p1 q1,Zc P2 p2 q2,Zc P3 p3 q3,Zc P4 p4 q4,Zy s.all.op,Zy s.all.name,Zc P5 p5 q5,Zc P6 p6 q6,Zc P7 p7 q7,Zc P8 p8 q8,Zy s.over.op,Zy s.over.name,Zc P9 p9 q9,Zc P10 p10 q10,Zc P11 p11 q11,Zc P12 p12 q12,Zy s.fin.op,Zy s.fin.name,Zc P13 p13 q13,Zc P14 p14 q14,Zc P15 p15 q15,Zc P16 p16 q16,Zc P17 p17 q17,Zc P18 p18 q18,Zo s.count,Zc P19 p19 q19] 78)::(gs,mapS m2)::(rowsO gB (w.B.set k (st.bs.set j true))++rowsO gD (w.D.set k (st.ds)))) (by rw [Ymj,<- Yl4 (l:=w.B) (a:=st.bs),e2];simp only [List.append_assoc,List.cons_append];rfl) ?_);exact wN (h:=by exact ⟨rfl,rfl,rfl⟩)
   rintro σ fz4 H' ⟨rfl,rfl,rfl⟩;have hBk1:(w.B.set k (st.bs.set j b'))[k]?=some (st.bs.set j b'):=List.getElem?_set_self hkB;have hb1:(st.bs.set j b')[j]?=some b':=List.getElem?_set_self Zi;have hlB2:gB.length=(w.B.set k (st.bs.set j b')).length:=by rw [List.length_set,lB,fB1.1]
   have hlD2:gD.length=(w.D.set k st.ds).length:=by rw [List.length_set,lD,fD1.1]
   refine YL (Y8 (fun σ fz' H'=>σ=[(8,.map (some ge)),(6,Zk j),(22,Zk j),(21,Zk p19),(20,Zc P19 p19 q19),(14,Zk k),(13,Zk n),(12,Zc As n cS),(5,Zp g5),(4,Zk k),(3,Zo ((!d && d') || ((!b && b') || st.n))),(0,Zp gr)]/\fz3=fz'/\H'=(g5,Zu #[Zy s.name,Zc P0 p0 q0,Zy s.start.op,Zy s.start.name,Zc P1 p1 q1,Zc P2 p2 q2,Zc P3 p3 q3,Zc P4 p4 q4,Zy s.all.op,Zy s.all.name,Zc P5 p5 q5,Zc P6 p6 q6,Zc P7 p7 q7,Zc P8 p8 q8,Zy s.over.op,Zy s.over.name,Zc P9 p9 q9,Zc P10 p10 q10,Zc P11 p11 q11,Zc P12 p12 q12,Zy s.fin.op,Zy s.fin.name,Zc P13 p13 q13,Zc P14 p14 q14,Zc P15 p15 q15,Zc P16 p16 q16,Zc P17 p17 q17,Zc P18 p18 q18,Zo s.count,Zc P19 p19 q19] 78)::(gs,mapS m2)::(rowsO gB (w.B.set k (st.bs.set j b'))++rowsO gD (w.D.set k (st.ds.set j d')))) ?_ ?_)
   ·cases b' with
    | false=>
     have e7:st.ds.set j d'=st.ds:=by rw [<- hd',Bool.false_and,Bool.or_false];exact Wo hd
     rw [show ((!d && d') || ((!b && false) || st.n))=((!b && false) || st.n) from by rw [<- hd'];cases d<;>simp,e7];refine wI (hB.mono hx3) eB (fun ppx hpx=>?_);refine zG ?_;refine Xc hpx ?_;refine wG ?_;refine Yn (z:=1) rfl ?_;refine zG ?_;refine Yu (k+2) ?_ (hi:=Yet hgb hBk1) (hv:=Yad hb1);exact wN (h:=by exact ⟨rfl,rfl,rfl⟩)
    | true=>
     generalize hn1:((!b && true) || st.n)=nn1;cases d with
     | true=>
      have e7:st.ds.set j d'=st.ds:=by rw [<- hd',Bool.true_or];exact Wo hd
      rw [show ((!true && d') || nn1)=nn1 from by simp,e7];refine wI (hB.mono hx3) eB (fun ppx hpx=>?_);refine zG ?_;refine Xc hpx ?_;refine wG ?_;refine Yn (z:=1) rfl ?_;refine zG ?_;refine Yu (k+2) ?_ (hi:=Yet hgb hBk1) (hv:=Yad hb1);refine wI (hD.mono hx3) eD (fun ppx hpx=>?_);refine zG ?_;refine Xc hpx ?_;refine wG ?_;refine Yn (z:=1) rfl ?_;refine zG ?_;refine Yu (gB.length+k+2) ?_ (hi:=YkQ hlB2 hgd hDk) (hv:=Yad hd);exact wN (h:=by exact ⟨rfl,rfl,rfl⟩)
     | false=>
      cases h2 with
      | false=>
       have e7:st.ds.set j d'=st.ds:=by rw [<- hd'];exact Wo hd
       rw [show ((!false && d') || nn1)=nn1 from by rw [<- hd'];simp,e7];refine wI (hB.mono hx3) eB (fun ppx hpx=>?_);refine zG ?_;refine Xc hpx ?_;refine wG ?_;refine Yn (z:=1) rfl ?_;refine zG ?_;refine Yu (k+2) ?_ (hi:=Yet hgb hBk1) (hv:=Yad hb1);refine wI (hD.mono hx3) eD (fun ppx hpx=>?_);refine zG ?_;refine Xc hpx ?_;refine wG ?_;refine Yn (z:=1) rfl ?_;refine zG ?_;refine Yu (gB.length+k+2) ?_ (hi:=YkQ hlB2 hgd hDk) (hv:=Yad hd);refine wG ?_;refine Yg (vs:=[Zy s.all.op,Zy s.all.name,Zc P5 p5 q5,Zc P6 p6 q6,Zc P7 p7 q7,Zc P8 p8 q8]) 0 ?_;refine wG ?_;refine WE (fun fz' hle hf=>YdF _ (Zs _) (hK3.mono hle) hOs (hf (gs,mapS m2) (by simp)) (hS3.mono hle) (hR.all.mono (hle2.trans (hle3.trans hle))) hsh.all (hE0.mono hle) hP) ?_;rw [hh2];exact wN (h:=by exact ⟨rfl,rfl,rfl⟩)
      | true=>
       have e8:d'=true:=by rw [<- hd'];rfl
       subst e8;rw [show ((!false && true) || nn1)=true from by simp];obtain ⟨pre,post,e1,e2⟩:=YjF (b':=st.ds.set j true) hlD2 hgd hDk;refine wI (hB.mono hx3) eB (fun ppx hpx=>?_);refine zG ?_;refine Xc hpx ?_;refine wG ?_;refine Yn (z:=1) rfl ?_;refine zG ?_;refine Yu (k+2) ?_ (hi:=Yet hgb hBk1) (hv:=Yad hb1);refine wI (hD.mono hx3) eD (fun ppx hpx=>?_);refine zG ?_;refine Xc hpx ?_;refine wG ?_;refine Yn (z:=1) rfl ?_;refine zG ?_;refine Yu (gB.length+k+2) ?_ (hi:=YkQ hlB2 hgd hDk) (hv:=Yad hd);refine wG ?_;refine Yg (vs:=[Zy s.all.op,Zy s.all.name,Zc P5 p5 q5,Zc P6 p6 q6,Zc P7 p7 q7,Zc P8 p8 q8]) 0 ?_;refine wG ?_;refine WE (fun fz' hle hf=>YdF _ (Zs _) (hK3.mono hle) hOs (hf (gs,mapS m2) (by simp)) (hS3.mono hle) (hR.all.mono (hle2.trans (hle3.trans hle))) hsh.all (hE0.mono hle) hP) ?_;rw [hh2];refine wI (hD.mono hx3) eD (fun ppx hpx=>?_);refine zG ?_;refine Xc hpx ?_;refine wG ?_;refine Yn (z:=1) rfl ?_;refine YG (Yfi T (pre:=_::_::(rowsO gB (w.B.set k (st.bs.set j true))++pre)) (cs:=st.ds.map Value.bool) Zz Zz Zz (by rw [e1];simp only [List.append_assoc,List.cons_append];rfl) rfl rfl rfl (by rw [List.length_map,Int.toNat_natCast];omega) (H2:=(g5,Zu #[Zy s.name,Zc P0 p0 q0,Zy s.start.op,Zy s.start.name,Zc P1 p1 q1,Zc P2 p2 q2,Zc P3 p3 q3,Zc P4 p4 q4,Zy s.all.op,Zy s.all.name,Zc P5 p5 q5,Zc P6 p6 q6,Zc P7 p7 q7,Zc P8 p8 q8,Zy s.over.op,Zy s.over.name,Zc P9 p9 q9,Zc P10 p10 q10,Zc P11 p11 q11,Zc P12 p12 q12,Zy s.fin.op,Zy s.fin.name,Zc P13 p13 q13,Zc P14 p14 q14,Zc P15 p15 q15,Zc P16 p16 q16,Zc P17 p17 q17,Zc P18 p18 q18,Zo s.count,Zc P19 p19 q19] 78)::(gs,mapS m2)::(rowsO gB (w.B.set k (st.bs.set j true))++rowsO gD (w.D.set k (st.ds.set j true)))) (by rw [Ymj,<- Yl4 (l:=w.D) (a:=st.ds),e2];simp only [List.append_assoc,List.cons_append];rfl) ?_);exact wN (h:=by exact ⟨rfl,rfl,rfl⟩)
   rintro σ fz4 H' ⟨rfl,rfl,rfl⟩;generalize hn2:((!d && d') || ((!b && b') || st.n))=nn2;have hfin:(r2.2 || (r1.2 || ((!d && d') || (!b && b'))) || st.n)=(r2.2 || (r1.2 || nn2)):=by rw [<- hn2];simp only [Bool.or_assoc]
   rw [hfin] at hrn;have hDk1:(w.D.set k (st.ds.set j d'))[k]?=some (st.ds.set j d'):=List.getElem?_set_self hkD;have hd1:(st.ds.set j d')[j]?=some d':=List.getElem?_set_self Zi;refine YL (Y8 (fun σ fz' H'=>∃ m,σ=[(8,.map (some ge)),(6,Zk j),(22,Zk j),(21,Zk p19),(20,Zc P19 p19 q19),(14,Zk k),(13,Zk n),(12,Zc As n cS),(5,Zp g5),(4,Zk k),(3,Zo (r1.2 || nn2)),(0,Zp gr)]/\Le fz3 fz'/\H'=(g5,Zu #[Zy s.name,Zc P0 p0 q0,Zy s.start.op,Zy s.start.name,Zc P1 p1 q1,Zc P2 p2 q2,Zc P3 p3 q3,Zc P4 p4 q4,Zy s.all.op,Zy s.all.name,Zc P5 p5 q5,Zc P6 p6 q6,Zc P7 p7 q7,Zc P8 p8 q8,Zy s.over.op,Zy s.over.name,Zc P9 p9 q9,Zc P10 p10 q10,Zc P11 p11 q11,Zc P12 p12 q12,Zy s.fin.op,Zy s.fin.name,Zc P13 p13 q13,Zc P14 p14 q14,Zc P15 p15 q15,Zc P16 p16 q16,Zc P17 p17 q17,Zc P18 p18 q18,Zo s.count,Zc P19 p19 q19] 78)::(gs,mapS m)::(rowsO gB (w.B.set k (st.bs.set j b'))++rowsO gD (w.D.set k (st.ds.set j d')))/\SetM fz' m r1.1) ?_ ?_)
   ·cases b' with
    | false=>
     have e9:r1=(st.S,false):=by rw [<- hr1];rfl
     subst e9;simp only [Bool.false_or];refine wI (hB.mono hx3) eB (fun ppx hpx=>?_);refine zG ?_;refine Xc hpx ?_;refine wG ?_;refine Yn (z:=1) rfl ?_;refine zG ?_;refine Yu (k+2) ?_ (hi:=Yet hgb hBk1) (hv:=Yad hb1);exact wN (h:=by exact ⟨m2,rfl,Zd,rfl,hS3⟩)
    | true=>
     have e9:r1=Wz K s.early (envA s a) st.S:=by rw [<- hr1];rfl
     refine wI (hB.mono hx3) eB (fun ppx hpx=>?_);refine zG ?_;refine Xc hpx ?_;refine wG ?_;refine Yn (z:=1) rfl ?_;refine zG ?_;refine Yu (k+2) ?_ (hi:=Yet hgb hBk1) (hv:=Yad hb1);refine zW ?_;refine Yc (Does.perm (H':=(gs,mapS m2)::_::(rowsO gB (w.B.set k (st.bs.set j true))++rowsO gD (w.D.set k (st.ds.set j d')))) (List.Perm.swap _ _ _) (Does.after (Yj [_] (_::(rowsO gB (w.B.set k (st.bs.set j true))++rowsO gD (w.D.set k (st.ds.set j d')))) Zz (adds_f (hx3 _ _ hr) (hK.mono hx3) hOs hS3 (ie.mono (hle2.trans hle3)) hsh.early (hE0.mono Zd) hP) (fun v6 fz6 H6 hle6 hR6=>?_))));obtain ⟨rfl,m6,rfl,hS6⟩:=hR6;refine ⟨(g5,Zu #[Zy s.name,Zc P0 p0 q0,Zy s.start.op,Zy s.start.name,Zc P1 p1 q1,Zc P2 p2 q2,Zc P3 p3 q3,Zc P4 p4 q4,Zy s.all.op,Zy s.all.name,Zc P5 p5 q5,Zc P6 p6 q6,Zc P7 p7 q7,Zc P8 p8 q8,Zy s.over.op,Zy s.over.name,Zc P9 p9 q9,Zc P10 p10 q10,Zc P11 p11 q11,Zc P12 p12 q12,Zy s.fin.op,Zy s.fin.name,Zc P13 p13 q13,Zc P14 p14 q14,Zc P15 p15 q15,Zc P16 p16 q16,Zc P17 p17 q17,Zc P18 p18 q18,Zo s.count,Zc P19 p19 q19] 78)::(gs,mapS m6)::(rowsO gB (w.B.set k (st.bs.set j true))++rowsO gD (w.D.set k (st.ds.set j d'))),List.Perm.swap _ _ _,?_⟩;rw [<- e9] at hS6;rw [<- e9];generalize hr12:r1.2=bb;cases bb with
     | true=>
      exact wN (h:=by exact ⟨m6,rfl,hle6,rfl,hS6⟩)
     | false=>
      simp only [Bool.false_or];exact wN (h:=by exact ⟨m6,rfl,hle6,rfl,hS6⟩)
   rintro σ fz4 H' ⟨m4,rfl,hle4,rfl,hS4⟩;have hx4:=hx3.trans hle4;have hr4:=hx4 _ _ hr;generalize hn3:(r1.2 || nn2)=nn3 at hrn;cases d' with
   | false=>
    have e9:r2=(r1.1,false):=by rw [<- hr2'];rfl
    subst e9;simp only [Bool.false_or] at hrn;refine wI (hD.mono hx4) eD (fun ppx hpx=>?_);refine zG ?_;refine Xc hpx ?_;refine wG ?_;refine Yn (z:=1) rfl ?_;refine zG ?_;refine Yu (gB.length+k+2) ?_ (hi:=YkQ hlB2 hgd hDk1) (hv:=Yad hd1);exact wP (h:=by exact ⟨j+1,m4,by omega,rfl,by rw [hrn],hle2.trans (hle3.trans hle4),by rw [hrn],by rw [hrn];exact hS4⟩)
   | true=>
    have e9:r2=Wz K s.late (envA s a) r1.1:=by rw [<- hr2'];rfl
    refine wI (hD.mono hx4) eD (fun ppx hpx=>?_);refine zG ?_;refine Xc hpx ?_;refine wG ?_;refine Yn (z:=1) rfl ?_;refine zG ?_;refine Yu (gB.length+k+2) ?_ (hi:=YkQ hlB2 hgd hDk1) (hv:=Yad hd1);refine zW ?_;refine Yc (Does.perm (H':=(gs,mapS m4)::_::(rowsO gB (w.B.set k (st.bs.set j b'))++rowsO gD (w.D.set k (st.ds.set j true)))) (List.Perm.swap _ _ _) (Does.after (Yj [_] (_::(rowsO gB (w.B.set k (st.bs.set j b'))++rowsO gD (w.D.set k (st.ds.set j true)))) Zz (adds_f (hx4 _ _ hr) (hK.mono hx4) hOs hS4 (il.mono (hle2.trans (hle3.trans hle4))) hsh.late (hE0.mono hle4) hP) (fun v6 fz6 H6 hle6 hR6=>?_))));obtain ⟨rfl,m6,rfl,hS6⟩:=hR6;refine ⟨(g5,Zu #[Zy s.name,Zc P0 p0 q0,Zy s.start.op,Zy s.start.name,Zc P1 p1 q1,Zc P2 p2 q2,Zc P3 p3 q3,Zc P4 p4 q4,Zy s.all.op,Zy s.all.name,Zc P5 p5 q5,Zc P6 p6 q6,Zc P7 p7 q7,Zc P8 p8 q8,Zy s.over.op,Zy s.over.name,Zc P9 p9 q9,Zc P10 p10 q10,Zc P11 p11 q11,Zc P12 p12 q12,Zy s.fin.op,Zy s.fin.name,Zc P13 p13 q13,Zc P14 p14 q14,Zc P15 p15 q15,Zc P16 p16 q16,Zc P17 p17 q17,Zc P18 p18 q18,Zo s.count,Zc P19 p19 q19] 78)::(gs,mapS m6)::(rowsO gB (w.B.set k (st.bs.set j b'))++rowsO gD (w.D.set k (st.ds.set j true))),List.Perm.swap _ _ _,?_⟩;rw [<- e9] at hS6;rw [<- e9];generalize hr22:r2.2=bb at hrn;cases bb with
    | true=>
     simp only [Bool.true_or] at hrn;exact wP (h:=by exact ⟨j+1,m6,by omega,rfl,by rw [hrn],hle2.trans (hle3.trans (hle4.trans hle6)),by rw [hrn],by rw [hrn];exact hS6⟩)
    | false=>
     simp only [Bool.false_or] at hrn;exact wP (h:=by exact ⟨j+1,m6,by omega,rfl,by rw [hrn],hle2.trans (hle3.trans (hle4.trans hle6)),by rw [hrn],by rw [hrn];exact hS6⟩)
  have hj2:j=p19:=by omega
  have hfull:rowN K s s.arguments.length st0=st:=by rw [show s.arguments.length=j by omega];exact hst
  rw [hfull] at hnx;exact wP (h:=by exact ⟨k+1,m2,by omega,rfl,by rw [hnx],hle1.trans hle2,by rw [hnx],by rw [hnx];exact hS2⟩)
 have hk2:k=n:=by omega
 have hfull:Xq K l S B D=w:=by rw [hM,show l.length=k by omega];exact hw
 exact wR (h:=by exact ⟨by rw [hfull],m1,by rw [hfull],by rw [hfull];exact hS1⟩)
end Go.Proofs.YtdbfccanbbbjkaaGreatDoor
namespace Go.Proofs.YtdbfccanbbbjkaaGreatDoor
variable {K:Kn}
def SubA (S S':List Atom):Prop:=∃ T,S'=S++T
theorem SubA.refl (S:List Atom):SubA S S:=⟨[],by simp⟩
theorem SubA.trans {a b c:List Atom} (h:SubA a b) (k:SubA b c):SubA a c:=by
 obtain ⟨t,rfl⟩:=h;obtain ⟨u,rfl⟩:=k;exact ⟨t++u,by simp⟩
theorem SubA.len {a b:List Atom} (h:SubA a b):a.length<=b.length:=by
 obtain ⟨t,rfl⟩:=h;simp
theorem SubA.mem {a b:List Atom} (h:SubA a b) {x:Atom} (hx:x∈a):x∈b:=by
 obtain ⟨t,rfl⟩:=h;simp [hx]
def Grew (S:List Atom) (r:List Atom × Bool):Prop:=SubA S r.1/\(r.2=true->S.length<r.1.length)/\(r.2=false->r.1=S)
theorem Grew.step {S:List Atom} {r q:List Atom × Bool} (h:Grew S r) (k:Grew r.1 q):Grew S (q.1,q.2 || r.2):=by
 refine ⟨h.1.trans k.1,fun e=>?_,fun e=>?_⟩
 ·have h1:=h.1.len;have h2:=k.1.len;show S.length<q.1.length;rw [Bool.or_eq_true] at e;rcases e with e | e
  ·have:=k.2.1 e;omega
  have:=h.2.1 e;omega
 rw [Bool.or_eq_false_iff] at e;rw [k.2.2 e.1,h.2.2 e.2]
theorem YgM {α:Type} {S:List Atom} {f:List Atom × Bool->α->List Atom × Bool} (hf:∀ r x,Grew S r->Grew S (f r x)):∀ (l:List α) (r:List Atom × Bool),Grew S r->Grew S (l.foldl f r)
 | [],_,h=>h
 | x::l,r,h=>YgM hf l (f r x) (hf r x h)
theorem Grew.zero (S:List Atom):Grew S (S,false):=⟨SubA.refl S,(fun h=>by cases h),fun _=>rfl⟩
theorem Yel (K:Kn) (c:Change):∀ (ps:List Param) (E:EnvM) (S:List Atom),Grew S (addM K c ps E S)
 | [],E,S=>by
  rw [addM];split
  ·exact ⟨⟨_,rfl⟩,fun _=>by simp,fun h=>by cases h⟩
  exact Grew.zero S
 | p::ps,E,S=>by
  rw [addM];refine YgM (fun r o h=>?_) _ _ (Grew.zero S);split
  ·exact h
  exact h.step (Yel K c ps (setE E p.name o) r.1)
theorem Ye7 (K:Kn) (l:List Change) (E:EnvM) (S:List Atom):Grew S (Wz K l E S):=by
 rw [Wz];exact YgM (fun r c h=>h.step (Yel K c c.params E r.1)) _ _ (Grew.zero S)
def tr (b:Bool):Nat:=if b=true then 1 else 0
theorem YhO (K:Kn) (s:Schema) (a:List Bs) (S:List Atom) (b d:Bool):
 SubA S (XC K s a S b d).S/\tr b<=tr (XC K s a S b d).b/\tr d<=tr (XC K s a S b d).d/\
 ((XC K s a S b d).n=true->S.length+tr b+tr d<(XC K s a S b d).S.length+tr (XC K s a S b d).b+tr (XC K s a S b d).d)/\
 ((XC K s a S b d).n=false->(XC K s a S b d).S=S/\(XC K s a S b d).b=b/\(XC K s a S b d).d=d):=by
 simp only [XC];generalize hb:(b || holdsM K S (envA s a) s.start)=b';generalize hd:(d || (b' && holdsM K S (envA s a) s.all))=d';have h1:Grew S (if b'=true then Wz K s.early (envA s a) S else (S,false)):=by
  split
  ·exact Ye7 K s.early (envA s a) S
  exact Grew.zero S
 generalize (if b'=true then Wz K s.early (envA s a) S else (S,false))=r1 at h1;have h2:Grew r1.1 (if d'=true then Wz K s.late (envA s a) r1.1 else (r1.1,false)):=by
  split
  ·exact Ye7 K s.late (envA s a) r1.1
  exact Grew.zero r1.1
 generalize (if d'=true then Wz K s.late (envA s a) r1.1 else (r1.1,false))=r2 at h2;have l1:=h1.1.len;have l2:=h2.1.len;have tb:tr b<=tr b':=by rw [<- hb];cases b<;>simp [tr]
 have td:tr d<=tr d':=by rw [<- hd];cases d<;>simp [tr]
 refine ⟨h1.1.trans h2.1,tb,td,fun e=>?_,fun e=>?_⟩
 ·simp only [Bool.or_eq_true,Bool.and_eq_true] at e;rcases e with e | e | e | e
  ·have:=h2.2.1 e;omega
  ·have:=h1.2.1 e;omega
  ·have:tr d<tr d':=by
    obtain ⟨e1,e2⟩:=e;subst e2;cases d
    ·simp [tr]
    cases e1
   omega
  have:tr b<tr b':=by
   obtain ⟨e1,e2⟩:=e;subst e2;cases b
   ·simp [tr]
   cases e1
  omega
 simp only [Bool.or_eq_false_iff] at e;obtain ⟨e1,e2,e3,e4⟩:=e;refine ⟨by rw [h2.2.2 e1,h1.2.2 e2],?_,?_⟩
 ·cases b' with
  | false=>cases b with
   | false=>rfl
   | true=>simp at hb
  | true=>cases b with
   | false=>simp at e4
   | true=>rfl
 cases d' with
 | false=>cases d with
  | false=>rfl
  | true=>simp at hd
 | true=>cases d with
  | false=>simp at e3
  | true=>rfl
def cntT (l:List Bool):Nat:=(l.map tr).sum
theorem Yi2:∀ {l:List Bool} {j:Nat} {b b':Bool},l[j]?=some b->cntT (l.set j b')+tr b=cntT l+tr b'
 | [],j,_,_,h=>by simp at h
 | x::r,0,b,b',h=>by simp at h;subst h;simp [cntT];omega
 | x::r,j+1,b,b',h=>by
  have:=Yi2 (l:=r) (j:=j) (b:=b) (b':=b') (by simpa using h);simp only [cntT,List.set_cons_succ,List.map_cons,List.sum_cons] at this ⊢;omega
theorem YpV:∀ (l:List Bool),cntT l<=l.length
 | []=>by simp [cntT]
 | x::r=>by
  have:=YpV r;have:tr x<=1:=by unfold tr;split<;>omega
  simp only [cntT,List.map_cons,List.sum_cons,List.length_cons] at*;omega
def cntB (B:List (List Bool)):Nat:=(B.map cntT).sum
theorem Yi3:∀ {B:List (List Bool)} {i:Nat} {b b':List Bool},B[i]?=some b->cntB (B.set i b')+cntT b=cntB B+cntT b'
 | [],i,_,_,h=>by simp at h
 | x::r,0,b,b',h=>by simp at h;subst h;simp [cntB];omega
 | x::r,i+1,b,b',h=>by
  have:=Yi3 (B:=r) (i:=i) (b:=b) (b':=b') (by simpa using h);simp only [cntB,List.set_cons_succ,List.map_cons,List.sum_cons] at this ⊢;omega
theorem YdS (K:Kn) (s:Schema):∀ (k:Nat) (st:RowS),st.bs.length=s.arguments.length->st.ds.length=s.arguments.length->
 SubA st.S (rowN K s k st).S/\cntT st.bs<=cntT (rowN K s k st).bs/\cntT st.ds<=cntT (rowN K s k st).ds/\(st.n=true->(rowN K s k st).n=true)/\
 (st.n=false->(rowN K s k st).n=true->st.S.length+cntT st.bs+cntT st.ds<(rowN K s k st).S.length+cntT (rowN K s k st).bs+cntT (rowN K s k st).ds)/\
 ((rowN K s k st).n=false->rowN K s k st=st)
 | 0,st,_,_=>⟨SubA.refl _,Zs _,Zs _,fun h=>h,(fun h1 h2=>by rw [rowN,h1] at h2;cases h2),fun _=>rfl⟩
 | k+1,st,hb,hd=>by
  obtain ⟨i1,i2,i3,i4,i5,i6⟩:=YdS K s k st hb hd;have hlen:=YfB K s k st;rw [rowN];cases ha:s.arguments[k]? with
  | none=>exact ⟨i1,i2,i3,i4,i5,i6⟩
  | some a=>
   simp only;generalize hr:rowN K s k st=r at*;have hk:=(Zg ha).1;obtain ⟨b,hbk⟩:=Ye (l:=r.bs) (k:=k) Zi;obtain ⟨d,hdk⟩:=Ye (l:=r.ds) (k:=k) Zi;unfold Ym5;rw [hbk,hdk];simp only [Option.getD_some];obtain ⟨g1,g2,g3,g4,g5⟩:=YhO K s a r.S b d;generalize XC K s a r.S b d=q at g1 g2 g3 g4 g5;have c1:=Yi2 (b':=q.b) hbk;have c2:=Yi2 (b':=q.d) hdk;have l1:=i1.len;have l2:=g1.len;refine ⟨i1.trans g1,by omega,by omega,fun h=>by rw [i4 h,Bool.or_true],fun h1 h2=>?_,fun h=>?_⟩
   ·rw [Bool.or_eq_true] at h2;rcases h2 with h2 | h2
    ·have:=g4 h2;omega
    have:=i5 h1 h2;omega
   rw [Bool.or_eq_false_iff] at h;obtain ⟨e1,e2,e3⟩:=g5 h.1;have e4:=i6 h.2;rw [e1,e2,e3,Wo hbk,Wo hdk,h.1,Bool.false_or];exact e4
theorem Yf6 (K:Kn) (l:List Schema):∀ (k:Nat) (w:RndS),FitR l w.B->FitR l w.D->
 SubA w.S (rndN K l k w).S/\cntB w.B<=cntB (rndN K l k w).B/\cntB w.D<=cntB (rndN K l k w).D/\(w.n=true->(rndN K l k w).n=true)/\
 (w.n=false->(rndN K l k w).n=true->w.S.length+cntB w.B+cntB w.D<(rndN K l k w).S.length+cntB (rndN K l k w).B+cntB (rndN K l k w).D)/\
 ((rndN K l k w).n=false->rndN K l k w=w)
 | 0,w,_,_=>⟨SubA.refl _,Zs _,Zs _,fun h=>h,(fun h1 h2=>by rw [rndN,h1] at h2;cases h2),fun _=>rfl⟩
 | k+1,w,hB,hD=>by
  obtain ⟨i1,i2,i3,i4,i5,i6⟩:=Yf6 K l k w hB hD;obtain ⟨fB,fD⟩:=YdT (K:=K) k hB hD;rw [rndN];cases hs:l[k]? with
  | none=>exact ⟨i1,i2,i3,i4,i5,i6⟩
  | some s=>
   simp only;generalize hr:rndN K l k w=r at*;have hk:=(Zg hs).1;obtain ⟨b,hbk⟩:=Ye (l:=r.B) (k:=k) (by rw [fB.1];exact hk);obtain ⟨d,hdk⟩:=Ye (l:=r.D) (k:=k) (by rw [fD.1];exact hk);unfold stepW;rw [hbk,hdk];simp only [Option.getD_some];obtain ⟨g1,g2,g3,g4,g5,g6⟩:=YdS K s s.arguments.length ⟨r.S,b,d,r.n⟩ (fB.2 k s b hs hbk) (fD.2 k s d hs hdk);generalize hq:rowN K s s.arguments.length ⟨r.S,b,d,r.n⟩=q at g1 g2 g3 g4 g5 g6;have c1:=Yi3 (b':=q.bs) hbk;have c2:=Yi3 (b':=q.ds) hdk;have l1:=i1.len;have l2:=g1.len;simp only at l2 g2 g3 g4 g5;refine ⟨i1.trans g1,by omega,by omega,fun h=>g4 (i4 h),fun h1 h2=>?_,fun h=>?_⟩
   ·cases hn:r.n with
    | true=>have:=i5 h1 hn;omega
    | false=>have:=g5 hn h2;omega
   have e:=g6 h;rw [e] at h ⊢;have e4:=i6 h;simp only;rw [Wo hbk,Wo hdk];exact e4
def meas (tB tD:Nat) (w:RndS):Nat:=(4097 - w.S.length)+(tB - cntB w.B)+(tD - cntB w.D)
def exF (K:Kn) (l:List Schema):Nat->RndS->RndS
 | 0,w=>w
 | f+1,w=>let r:=Xq K l w.S w.B w.D;if r.n=false\/4096<r.S.length then r else exF K l f r
def totB (l:List Schema):Nat:=(l.map fun s=>s.arguments.length).sum
theorem YlB:∀ {l:List Schema} {B:List (List Bool)},FitR l B->cntB B<=totB l
 | [],B,h=>by
  have:B=[]:=List.eq_nil_of_length_eq_zero h.1;subst this;simp [cntB]
 | s::l,[],h=>by have:=h.1;simp at this
 | s::l,b::B,h=>by
  have h1:=h.2 0 s b rfl rfl;have h2:=YpV b;have h3:=YlB (l:=l) (B:=B) ⟨by have:=h.1;simpa using this,fun i s b hs hb=>h.2 (i+1) s b (by simpa using hs) (by simpa using hb)⟩;simp only [cntB,totB,List.map_cons,List.sum_cons] at*;omega
theorem Yhw {l:List Schema} {S:List Atom} {B D:List (List Bool)} (hB:FitR l B) (hD:FitR l D):
 SubA S (Xq K l S B D).S/\FitR l (Xq K l S B D).B/\FitR l (Xq K l S B D).D/\
 ((Xq K l S B D).n=true->S.length<=4096->meas (totB l) (totB l) (Xq K l S B D)<meas (totB l) (totB l) ⟨S,B,D,false⟩)/\
 ((Xq K l S B D).n=false->Xq K l S B D=⟨S,B,D,false⟩):=by
 obtain ⟨i1,i2,i3,i4,i5,i6⟩:=Yf6 K l l.length ⟨S,B,D,false⟩ hB hD;obtain ⟨fB,fD⟩:=YdT (K:=K) l.length (w:=⟨S,B,D,false⟩) hB hD;refine ⟨i1,fB,fD,fun hn hS=>?_,i6⟩;have:=i5 rfl hn;have b1:=YlB fB;have b2:=YlB fD;have l1:=i1.len;unfold meas Xq;simp only at this i2 i3 l1 ⊢;omega
def exM (K:Kn) (l:List Schema) (S:List Atom) (B D:List (List Bool)):RndS:=exF K l (meas (totB l) (totB l) ⟨S,B,D,false⟩+1) ⟨S,B,D,false⟩
theorem YiU {l:List Schema} {f:Nat} {S:List Atom} {B D:List (List Bool)} {n:Bool} (h:(Xq K l S B D).n=false\/4096<(Xq K l S B D).S.length):exF K l (f+1) ⟨S,B,D,n⟩=Xq K l S B D:=by
 rw [exF];exact if_pos h
theorem Yeg {l:List Schema} {f:Nat} {S:List Atom} {B D:List (List Bool)} {n:Bool} (h:¬((Xq K l S B D).n=false\/4096<(Xq K l S B D).S.length)):exF K l (f+1) ⟨S,B,D,n⟩=exF K l f (Xq K l S B D):=by
 rw [exF];exact if_neg h
theorem YgT {K:Kn} {l:List Schema}:∀ (f:Nat) {w:RndS},meas (totB l) (totB l) w<f->FitR l w.B->FitR l w.D->SubA w.S (exF K l f w).S/\FitR l (exF K l f w).B/\FitR l (exF K l f w).D/\(4096<(exF K l f w).S.length\/Xq K l (exF K l f w).S (exF K l f w).B (exF K l f w).D=⟨(exF K l f w).S,(exF K l f w).B,(exF K l f w).D,false⟩)
 | 0,_,h,_,_=>absurd h Zi
 | f+1,w,h,hB,hD=>by
  obtain ⟨S,B,D,n⟩:=w;have hB:FitR l B:=hB;have hD:FitR l D:=hD;obtain ⟨g1,g2,g3,g4,g5⟩:=Yhw (K:=K) (l:=l) (S:=S) (B:=B) (D:=D) hB hD;by_cases hc:(Xq K l S B D).n=false\/4096<(Xq K l S B D).S.length
  ·rw [YiU hc];refine ⟨g1,g2,g3,?_⟩;rcases hc with hc | hc
   ·have e:=g5 hc;rw [e];exact .inr e
   exact .inl hc
  rw [Yeg hc];have hc1:(Xq K l S B D).n=true:=by
   cases hn:(Xq K l S B D).n with
   | true=>rfl
   | false=>exact absurd (.inl hn) hc
  have hc2:¬4096<(Xq K l S B D).S.length:=fun h=>hc (.inr h)
  have hl:=g1.len;have hm:=g4 hc1 Zi;have hmm:meas (totB l) (totB l) ⟨S,B,D,n⟩=meas (totB l) (totB l) ⟨S,B,D,false⟩:=rfl;obtain ⟨k1,k2,k3,k4⟩:=YgT f (w:=Xq K l S B D) Zi g2 g3;exact ⟨g1.trans k1,k2,k3,k4⟩
end Go.Proofs.YtdbfccanbbbjkaaGreatDoor
