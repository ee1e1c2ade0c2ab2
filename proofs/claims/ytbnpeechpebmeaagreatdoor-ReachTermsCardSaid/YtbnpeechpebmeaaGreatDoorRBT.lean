/- The texts QL, QLB, QV, QW, laid together. Conditions: none. -/
import Derived.Test.YtbnpeechpebmeaaGreatDoorRBS
set_option linter.all false
noncomputable section
set_option maxRecDepth 20000
namespace Go.Proofs.YtbnpeechpebmeaaGreatDoor
open Go.Lx Go.RowKit
attribute [local instance 10] Classical.propDecidable
open Go.Proofs.Tryz (prog)
def schA (a:Action):Schema:=⟨a.name,a.params,normV a.pre,normV a.pre,Ycx,Ycx,[],normC a.changes,true,[]⟩
def schD (a:Durative):Schema:=⟨a.name,a.params,normV (andF [a.start]),normV (andF [a.start,a.over,a.fin]),normV (andF [a.over]),normV (andF [a.fin]),normC a.atStart,normC a.atEnd,false,[]⟩
def schB (d:Domain):List Schema:=d.actions.map schA++d.duratives.map schD
def YaT (K:Kn) (s:Schema):Schema:={s with arguments:=Ycc K s.params 4096}
def schL (K:Kn) (d:Domain):List Schema:=(schB d).map (YaT K)
def Ya6 (l:List Schema):Nat:=(l.map fun s=>s.arguments.length).sum
def YfZ (K:Kn) (s:Schema):Prop:=s.count=true∧(64<termsM K s.start∨∃ c∈s.late,64<termsM K c.when_)
def schE (K:Kn) (d:Domain):Int:=if 4096<Ya6 (schL K d) then 5 else if ∃ s∈schL K d,YfZ K s then 5 else 0
structure KnD (fz:FZ) (v:Value) (K:Kn) (d:Domain):Prop where
 k:KnR fz v K
 ex:∃ (g:Nat) (cs:List Value) (v5 v6:Value),v=.pointer (some ⟨g,0,none⟩)∧fz g=some (.cells cs.toArray 156 (0,0))∧cs[5]?=some v5∧cs[6]?=some v6∧IsSl actionL fz v5 d.actions∧IsSl durativeL fz v6 d.duratives
variable {K:Kn} {fz fz':FZ} {v:Value}
theorem KnD.mono {d:Domain} (h:KnD fz v K d) (hle:Le fz fz'):KnD fz' v K d:=by
 obtain ⟨hk,g,cs,v5,v6,h1,h2,h3,h4,h5,h6⟩:=h
 exact ⟨hk.mono hle,g,cs,v5,v6,h1,hle _ _ h2,h3,h4,h5.mono hle,h6.mono hle⟩
theorem Yfq:OneC schemaL:=by
 intro fz d cs h u hu
 obtain ⟨u0,u1,u2,u3,u4,u5,u6,u7,u8,u9,u10,u11,u12,u13,u14,u15,u16,u17,u18,u19,rfl,hR⟩:=WC h
 obtain ⟨A0,n0,c0,rfl,_⟩:=hR.params
 obtain ⟨A1,n1,c1,rfl,_⟩:=hR.start.args
 obtain ⟨A2,n2,c2,rfl,_⟩:=hR.start.params
 obtain ⟨A3,n3,c3,rfl,_⟩:=hR.start.exprs
 obtain ⟨A4,n4,c4,rfl,_⟩:=hR.start.kids
 obtain ⟨A5,n5,c5,rfl,_⟩:=hR.all.args
 obtain ⟨A6,n6,c6,rfl,_⟩:=hR.all.params
 obtain ⟨A7,n7,c7,rfl,_⟩:=hR.all.exprs
 obtain ⟨A8,n8,c8,rfl,_⟩:=hR.all.kids
 obtain ⟨A9,n9,c9,rfl,_⟩:=hR.over.args
 obtain ⟨A10,n10,c10,rfl,_⟩:=hR.over.params
 obtain ⟨A11,n11,c11,rfl,_⟩:=hR.over.exprs
 obtain ⟨A12,n12,c12,rfl,_⟩:=hR.over.kids
 obtain ⟨A13,n13,c13,rfl,_⟩:=hR.fin.args
 obtain ⟨A14,n14,c14,rfl,_⟩:=hR.fin.params
 obtain ⟨A15,n15,c15,rfl,_⟩:=hR.fin.exprs
 obtain ⟨A16,n16,c16,rfl,_⟩:=hR.fin.kids
 obtain ⟨A17,n17,c17,rfl,_⟩:=hR.early
 obtain ⟨A18,n18,c18,rfl,_⟩:=hR.late
 obtain ⟨A19,n19,c19,rfl,_⟩:=hR.arguments
 iterate 30 (rcases List.mem_cons.1 hu with rfl | hu;· rfl)
 cases hu
structure SchS (K:Kn) (d:Domain):Prop where
 na:d.actions.length≤2000000
 nd:d.duratives.length≤2000000
 pa:∀ a∈d.actions,fW a.pre≤100000000∧a.params.length≤2000000∧a.changes.length≤2000000∧∀ c∈a.changes,fW c.when_≤100000000
 pd:∀ a∈d.duratives,fW a.start≤10000000∧fW a.over≤10000000∧fW a.fin≤10000000∧a.params.length≤2000000∧a.atStart.length≤2000000∧a.atEnd.length≤2000000∧(∀ c∈a.atStart,fW c.when_≤100000000)∧(∀ c∈a.atEnd,fW c.when_≤100000000)
 sh:∀ a∈d.actions,ShN (normV a.pre)∧∀ c∈normC a.changes,ShN c.when_
theorem YkA:FormulaR fz Ycx (.slice none 0 0) (.slice none 0 0) (.slice none 0 0) (.slice none 0 0):=⟨Z0 _,Z0 _,IsSl.nil,IsSl.nil,IsSl.nil,IsSl.nil⟩
theorem YjP (l:List Formula) (h:(l.map fW).sum≤90000000):fW (andF l)≤100000000:=by
 rw [Yca]
 show 1+0+0+0+(l.map fW).sum≤_
 omega
variable {cs:List Value} {j:Nat}
theorem YhE {z:Nat} {cur:List Value} {o:Nat} (hc:(cur.drop (j*z)).take z=cs) (hv:cs[o]?=some v):cur[j*z+o]?=some v:=by
 subst hc
 have ho:o<z:=by
  have:=(Zg hv).1
  rw [List.length_take] at this;omega
 rw [List.getElem?_take_of_lt ho,List.getElem?_drop] at hv
 exact hv
variable {g:Nat}
theorem Ykn {α:Type} {L:Lay α} {e:Nat} {n cap:Nat} {cur:List Value} {l:List α} (h:GrowB L e fz g n cap cur l) {o:Nat} {d d':α} (hj:l[j]?=some d) (hc:(cur.drop (j*L.size)).take L.size=cs) (ho:o<L.size) (hr:L.rep fz d' (cs.set o v)):
 GrowB L e fz g n cap (cur.set (j*L.size+o) v) (l.set j d'):=by
 obtain ⟨xs,h1,h2,h3⟩:=h.pairs
 have hl:=h.len
 have hjn:j<n:=by have:=(Zg hj).1;omega
 have hxl:xs.length=n:=by rw [← h1,List.length_map] at hl;exact hl
 have hsz:=h.size
 have hcap:=h.capn
 have hjz:j*L.size+L.size≤n*L.size:=by rw [← Nat.succ_mul];exact Nat.mul_le_mul_right _ hjn
 have hnc:n*L.size≤cap*L.size:=Nat.mul_le_mul_right _ hcap
 refine ⟨⟨xs.set j (d',cs.set o v),by rw [List.map_set,h1],fun p hp=>?_,?_⟩,by rw [List.length_set];exact hl,hcap,h.max,by rw [List.length_set];exact hsz⟩
 ·rcases List.mem_or_eq_of_mem_set hp with hp | hp
  ·exact h2 p hp
  ·subst hp;exact hr
 ·have hcl:cs.length=L.size:=by rw [← hc,List.length_take,List.length_drop];omega
  rw [← Ygt (z:=L.size) (d:=(d',cs.set o v)) (by simpa using hcl) (fun p hp=>L.len (h2 p hp)) Zi,← h3]
  refine List.ext_getElem? fun i=>?_
  rw [List.getElem?_take]
  simp only [← hc]
  by_cases hi:i<n*L.size
  ·rw [if_pos hi]
   by_cases h5:i<j*L.size
   ·rw [List.append_assoc,List.getElem?_append_left (by rw [List.length_take,List.length_take];omega),List.getElem?_take_of_lt h5,List.getElem?_take_of_lt hi,List.getElem?_set_ne Zi]
   ·have e1:((cur.take (n*L.size)).take (j*L.size)).length=j*L.size:=by rw [List.length_take,List.length_take];omega
    have e2:(((cur.drop (j*L.size)).take L.size).set o v).length=L.size:=by rw [List.length_set,List.length_take,List.length_drop];omega
    rw [List.append_assoc,List.getElem?_append_right Zi,e1]
    by_cases h6:i<j*L.size+L.size
    ·rw [List.getElem?_append_left Zi]
     by_cases h7:i=j*L.size+o
     ·subst h7
      rw [List.getElem?_set_self Zi,Nat.add_sub_cancel_left,List.getElem?_set_self (by rw [List.length_set] at e2;omega)]
     ·rw [List.getElem?_set_ne Zi,List.getElem?_set_ne Zi,List.getElem?_take_of_lt Zi,List.getElem?_drop]
      congr 1;omega
    ·rw [List.getElem?_append_right Zi,e2,List.getElem?_drop,List.getElem?_take_of_lt Zi,List.getElem?_set_ne Zi]
     congr 1;omega
  ·rw [if_neg hi]
   have:i≥(List.take (j*L.size) (cur.take (n*L.size))++((cur.drop (j*L.size)).take L.size).set o v++(cur.take (n*L.size)).drop (j*L.size+L.size)).length:=by
    simp only [List.length_append,List.length_take,List.length_drop,List.length_set];omega
   rw [List.getElem?_eq_none Zi]
theorem schm1_q {x:Change} {g1:Nat} {t1:TypeId} (hK:KnR fz v K) (hc:changeL.rep fz x cs) (hS:ShN x.when_) (h1:fz g1=some (.cells #[v] t1 (0,0))):
 QFn prog 120 [.agg cs.toArray,.pointer (some ⟨g1,0,none⟩)] fz (.bool (decide (64<termsM K x.when_))):=by
 obtain ⟨u1,u2,u3,u4,u5,u6,u7,u8,rfl,hR⟩:=XF hc
 obtain ⟨A1,n1,c1',rfl,_⟩:=id hR.params
 obtain ⟨A2,n2,c2',rfl,_⟩:=id hR.when_.args
 obtain ⟨A3,n3,c3',rfl,_⟩:=id hR.when_.params
 obtain ⟨A4,n4,c4',rfl,_⟩:=id hR.when_.exprs
 obtain ⟨A5,n5,c5',rfl,_⟩:=id hR.when_.kids
 obtain ⟨A6,n6,c6',rfl,_⟩:=id hR.args
 obtain ⟨A7,n7,c7',rfl,_⟩:=id hR.value.args
 obtain ⟨A8,n8,c8',rfl,_⟩:=id hR.value.kids
 have hK0:=hK
 obtain ⟨⟨gk,a0,a1,a2,a3,a4,a5,a6,a7,a8,a9,a10,a11,a12,a13,a14,a15,a16,a17,vf,Ao,no,co,gc,gi,mc,mi,rfl,hg,hF,hO,h5,h6,h7,h8⟩,hw,_⟩:=hK
 refine GFn.quiet ?_
 refine zF Tryz.func120 Tryz.ntmps120 (fun w0=>?_)
 refine Yp (Yq (Yb Zz (Y3 _ Zz Zz (fun g2=>?_))))
 refine zW ?_;intros
 ((refine zG ?_);refine Yn (vs:=[.string x.when_.op,.string x.when_.name,.slice A2 n2 c2',.slice A3 n3 c3',.slice A4 n4 c4',.slice A5 n5 c5']) T 0 Zz Zz Zz Zz Zz Zz ?_)
 refine zc (YkX hK0 hR.when_ hS) ?_
 refine zC (fun c1=>?_) (fun c1=>?_)
 ·refine zW ?_;intros
  exact zR (h:=by rw [decide_eq_true Zi])
 ·refine zW ?_;intros
  exact zR (h:=by rw [decide_eq_false Zi])
structure DurV (a:Durative) (i:Nat) (v:Value) (fz:FZ):Prop where
 p7:i=7→IsSl formulaL fz v [a.start]
 p8:i=8→FormulaV fz (normV (andF [a.start])) v
 p11:i=11→IsSl formulaL fz v [a.over]
 p12:i=12→FormulaV fz (normV (andF [a.over])) v
 p15:i=15→IsSl formulaL fz v [a.fin]
 p16:i=16→FormulaV fz (normV (andF [a.fin])) v
 p23:i=23→IsSl formulaL fz v [a.start,a.over,a.fin]
 p24:i=24→FormulaV fz (normV (andF [a.start,a.over,a.fin])) v
 p27:i=27→IsSl changeL fz v (normC a.atStart)
 p30:i=30→IsSl changeL fz v (normC a.atEnd)
theorem DurV.mono {a:Durative} (i:Nat) (v:Value) (fz fz':FZ) (hle:Le fz fz') (h:DurV a i v fz):DurV a i v fz':=
 ⟨fun e=>(h.p7 e).mono hle,fun e=>(h.p8 e).mono hle,fun e=>(h.p11 e).mono hle,fun e=>(h.p12 e).mono hle,fun e=>(h.p15 e).mono hle,fun e=>(h.p16 e).mono hle,fun e=>(h.p23 e).mono hle,fun e=>(h.p24 e).mono hle,fun e=>(h.p27 e).mono hle,fun e=>(h.p30 e).mono hle⟩
variable {t:TypeId}
theorem YlS {α:Type} {L:Lay α} {x:α} (h:fz g=some (.cells cs.toArray t (0,0))) (hr:L.rep fz x cs):IsSl L fz (.slice (some ⟨g,0,none⟩) 1 1) [x]:=
 (Xg (m:=1) (l:=[x]) (ys:=[(x,cs)]) h (by simp) rfl (fun p hp=>by rw [List.mem_singleton] at hp;subst hp;exact hr) rfl Zh).is
theorem is_three {α:Type} {L:Lay α} {x y z:α} {ds es:List Value} (h:fz g=some (.cells (cs++ds++es).toArray t (0,0))) (hx:L.rep fz x cs) (hy:L.rep fz y ds) (hz:L.rep fz z es):IsSl L fz (.slice (some ⟨g,0,none⟩) 3 3) [x,y,z]:=
 (Xg (m:=3) (l:=[x,y,z]) (ys:=[(x,cs),(y,ds),(z,es)]) h (by simp) rfl (fun p hp=>by
  rcases List.mem_cons.1 hp with rfl | hp
  ·exact hx
  ·rcases List.mem_cons.1 hp with rfl | hp
   ·exact hy
   ·rw [List.mem_singleton] at hp
    subst hp
    exact hz) rfl Zh).is
theorem DurV.m7 {a:Durative} (h:IsSl formulaL fz v [a.start]):DurV a 7 v fz:=⟨fun _=>h,fun e=>absurd e Zh,fun e=>absurd e Zh,fun e=>absurd e Zh,fun e=>absurd e Zh,fun e=>absurd e Zh,fun e=>absurd e Zh,fun e=>absurd e Zh,fun e=>absurd e Zh,fun e=>absurd e Zh⟩
theorem DurV.m8 {a:Durative} (h:FormulaV fz (normV (andF [a.start])) v):DurV a 8 v fz:=⟨fun e=>absurd e Zh,fun _=>h,fun e=>absurd e Zh,fun e=>absurd e Zh,fun e=>absurd e Zh,fun e=>absurd e Zh,fun e=>absurd e Zh,fun e=>absurd e Zh,fun e=>absurd e Zh,fun e=>absurd e Zh⟩
theorem DurV.m11 {a:Durative} (h:IsSl formulaL fz v [a.over]):DurV a 11 v fz:=⟨fun e=>absurd e Zh,fun e=>absurd e Zh,fun _=>h,fun e=>absurd e Zh,fun e=>absurd e Zh,fun e=>absurd e Zh,fun e=>absurd e Zh,fun e=>absurd e Zh,fun e=>absurd e Zh,fun e=>absurd e Zh⟩
theorem DurV.m12 {a:Durative} (h:FormulaV fz (normV (andF [a.over])) v):DurV a 12 v fz:=⟨fun e=>absurd e Zh,fun e=>absurd e Zh,fun e=>absurd e Zh,fun _=>h,fun e=>absurd e Zh,fun e=>absurd e Zh,fun e=>absurd e Zh,fun e=>absurd e Zh,fun e=>absurd e Zh,fun e=>absurd e Zh⟩
theorem DurV.m15 {a:Durative} (h:IsSl formulaL fz v [a.fin]):DurV a 15 v fz:=⟨fun e=>absurd e Zh,fun e=>absurd e Zh,fun e=>absurd e Zh,fun e=>absurd e Zh,fun _=>h,fun e=>absurd e Zh,fun e=>absurd e Zh,fun e=>absurd e Zh,fun e=>absurd e Zh,fun e=>absurd e Zh⟩
theorem DurV.m16 {a:Durative} (h:FormulaV fz (normV (andF [a.fin])) v):DurV a 16 v fz:=⟨fun e=>absurd e Zh,fun e=>absurd e Zh,fun e=>absurd e Zh,fun e=>absurd e Zh,fun e=>absurd e Zh,fun _=>h,fun e=>absurd e Zh,fun e=>absurd e Zh,fun e=>absurd e Zh,fun e=>absurd e Zh⟩
theorem DurV.m23 {a:Durative} (h:IsSl formulaL fz v [a.start,a.over,a.fin]):DurV a 23 v fz:=⟨fun e=>absurd e Zh,fun e=>absurd e Zh,fun e=>absurd e Zh,fun e=>absurd e Zh,fun e=>absurd e Zh,fun e=>absurd e Zh,fun _=>h,fun e=>absurd e Zh,fun e=>absurd e Zh,fun e=>absurd e Zh⟩
theorem DurV.m24 {a:Durative} (h:FormulaV fz (normV (andF [a.start,a.over,a.fin])) v):DurV a 24 v fz:=⟨fun e=>absurd e Zh,fun e=>absurd e Zh,fun e=>absurd e Zh,fun e=>absurd e Zh,fun e=>absurd e Zh,fun e=>absurd e Zh,fun e=>absurd e Zh,fun _=>h,fun e=>absurd e Zh,fun e=>absurd e Zh⟩
theorem DurV.m27 {a:Durative} (h:IsSl changeL fz v (normC a.atStart)):DurV a 27 v fz:=⟨fun e=>absurd e Zh,fun e=>absurd e Zh,fun e=>absurd e Zh,fun e=>absurd e Zh,fun e=>absurd e Zh,fun e=>absurd e Zh,fun e=>absurd e Zh,fun e=>absurd e Zh,fun _=>h,fun e=>absurd e Zh⟩
theorem DurV.m30 {a:Durative} (h:IsSl changeL fz v (normC a.atEnd)):DurV a 30 v fz:=⟨fun e=>absurd e Zh,fun e=>absurd e Zh,fun e=>absurd e Zh,fun e=>absurd e Zh,fun e=>absurd e Zh,fun e=>absurd e Zh,fun e=>absurd e Zh,fun e=>absurd e Zh,fun e=>absurd e Zh,fun _=>h⟩
theorem Yey (K:Kn):∀ l:List Schema,Ya6 (l.map (YaT K))≤4097*l.length
 | []=>by simp [Ya6]
 | x::r=>by
  have h1:=Yey K r
  have h2:=YcU K 4096 x.params [[]] (by simp)
  unfold Ya6 at h1 ⊢
  simp only [List.map_cons,List.sum_cons,List.length_cons] at h1 ⊢
  have:(YaT K x).arguments.length≤4097:=h2
  omega
theorem manyS_le (K:Kn) (d:Domain) (k:Nat):Ya6 (((schB d).take k).map (YaT K))≤4097*(schB d).length:=by
 refine Nat.le_trans (Yey K _) (Nat.mul_le_mul_left _ ?_)
 rw [List.length_take];omega
theorem Yi6 {d:Domain} {x:Schema} (hS:SchS K d) (hx:x∈schB d):x.params.length≤2000000:=by
 rcases List.mem_append.1 hx with hx | hx
 ·obtain ⟨a,ha,rfl⟩:=List.mem_map.1 hx
  exact (hS.pa a ha).2.1
 ·obtain ⟨a,ha,rfl⟩:=List.mem_map.1 hx
  exact (hS.pd a ha).2.2.2.1
theorem schL_sh {d:Domain} {x:Schema} (hS:SchS K d) (hx:x∈schL K d) (hc:x.count=true):ShN x.start∧∀ c∈x.late,ShN c.when_:=by
 obtain ⟨s,hs,rfl⟩:=List.mem_map.1 hx
 rcases List.mem_append.1 hs with hs | hs
 ·obtain ⟨a,ha,rfl⟩:=List.mem_map.1 hs
  exact hS.sh a ha
 ·obtain ⟨a,ha,rfl⟩:=List.mem_map.1 hs
  cases hc
set_option maxHeartbeats 16000000 in
theorem Yk8 {d:Domain} (hKD:KnD fz v K d) (hS:SchS K d):
 GFn prog 72 [v] fz [] (fun r fz' H'=>H'=[]∧∃ vs,r=.tuple #[vs,errV (schE K d)]∧(schE K d=0→IsSl schemaL fz' vs (schL K d))∧(schE K d≠0→vs=.slice none 0 0)):=by
 have hKD0:=hKD
 obtain ⟨hK,gk,cs,v5,v6,rfl,hg,c5,c6,i5,i6⟩:=hKD
 have hK0:=hK
 obtain ⟨⟨gk',a0,a1,a2,a3,a4,a5,a6,a7,a8,a9,a10,a11,a12,a13,a14,a15,a16,a17,vf,Ao,no,co,gc,gi,mc,mi,e1,hg',hF,hO,h5,h6,h7,h8⟩,hw,hmany⟩:=hK
 cases e1
 rw [hg] at hg'
 injection hg' with hg'
 injection hg' with hg' _ _
 have e2:=congrArg Array.toList hg'
 simp only at e2
 subst e2
 simp only [List.getElem?_cons_succ,List.getElem?_cons_zero,Option.some.injEq] at c5 c6
 subst c5;subst c6
 obtain ⟨A5,n5,b5,rfl,i5⟩:=i5
 obtain ⟨A6,n6,b6,rfl,i6⟩:=i6
 have l5:=i5.len
 have l6:=i6.len
 have hna:=hS.na
 have hnd:=hS.nd
 refine zF Tryz.func72 Tryz.ntmps72 (fun w0=>?_)
 refine Yp (Yq (Yb Zz (Y3 _ Zz Zz (fun g1=>?_))))
 refine zW ?_;intros
 refine Yk (fun q σ fz' H'=>∃ (k:Nat) (u:Value) (Hs:HP),k≤n5∧q=n5 - k∧σ=[(20,.int .i64 k),(19,.int .i64 n5),(18,.slice A5 n5 b5),(4,u),(1,.pointer (some ⟨g1,0,none⟩))]∧Le fz fz'∧H'=(g1,.cells #[.pointer (some ⟨gk,0,none⟩)] 90 (0,0))::Hs∧Grow schemaL 111 fz' u k Hs ((d.actions.take k).map schA)) ⟨0,_,[],Z0 _,rfl,rfl,Le.refl _,rfl,Grow.nil _ _ _⟩ Zw Zb ?_
 rintro q σ fz' H' ⟨k,u,Hs,hk,rfl,rfl,hle,rfl,hG⟩
 obtain ⟨Au,cu,rfl,_,_⟩:=hG.form
 refine zW ?_;intros
 refine zC (fun c1=>?_) (fun c1=>?_)
 ·obtain ⟨x,hx⟩:=Yg (l:=d.actions) (k:=k) Zi
  have hxm:=Zm hx
  obtain ⟨w1,w2,w3,w4⟩:=hS.pa x hxm
  refine zW ?_;intros
  refine zI (i5.mono hle) hx (fun p1 hp1=>?_)
  refine zL hp1 ?_
  intro cs hcs
  obtain ⟨u1,u2,u3,u4,u5,u6,rfl,hR⟩:=XO hcs
  obtain ⟨B1,m1,d1,rfl,ip⟩:=id hR.params
  obtain ⟨B2,m2,d2,rfl,_⟩:=id hR.pre.args
  obtain ⟨B3,m3,d3,rfl,_⟩:=id hR.pre.params
  obtain ⟨B4,m4,d4,rfl,_⟩:=id hR.pre.exprs
  obtain ⟨B5,m5,d5,rfl,_⟩:=id hR.pre.kids
  obtain ⟨B6,m6,d6,rfl,ich⟩:=id hR.changes
  have lch:=ich.len
  refine zW ?_;intros
  ((refine zG ?_);refine Yn (vs:=[.string x.pre.op,.string x.pre.name,.slice B2 m2 d2,.slice B3 m3 d3,.slice B4 m4 d4,.slice B5 m5 d5]) T 0 Zz Zz Zz Zz Zz Zz ?_)
  refine Yb Zz (Yl [] (_::_::Hs) Zz Zz Zz (YgL hR.pre w1) (fun v7 fz7 H7 hle7 hR7=>?_))
  obtain ⟨rfl,hV7⟩:=hR7
  obtain ⟨C1,s1,t1,C2,s2,t2,C3,s3,t3,C4,s4,t4,rfl,hF7⟩:=hV7.open
  refine zWN ?_;intros
  refine Wp.drawK (Hq:=[_,_,_]) T.mixed Zj Zj Zb ?_
  refine zW ?_;intros
  refine Ye ?_
  refine Ye ?_
  refine Ye ?_
  refine Ye ?_
  refine Ye ?_
  refine YD ⟨by kernel_rfl,?_⟩
  refine Yj (Yl [] (_::_::_::Hs) Zz Zz Zz (Yel (ich.mono hle7) Zi w4) (fun v8 fz8 H8 hle8 hR8=>⟨(⟨hle8,Zx⟩),?_⟩))
  obtain ⟨rfl,D1,o1,q1,rfl,hC8⟩:=hR8
  refine Ch.qk (⟨hle8,Zx⟩) (YS T Zz Zz Zz Zz Zz ?_)
  refine Yj (Yc T (cs:=[.string x.name,.slice B1 m1 d1,.string (normV x.pre).op,.string (normV x.pre).name,.slice C1 s1 t1,.slice C2 s2 t2,.slice C3 s3 t3,.slice C4 s4 t4,.string (normV x.pre).op,.string (normV x.pre).name,.slice C1 s1 t1,.slice C2 s2 t2,.slice C3 s3 t3,.slice C4 s4 t4,
   .string ⟨#[]⟩,.string ⟨#[]⟩,.slice none 0 0,.slice none 0 0,.slice none 0 0,.slice none 0 0,.string ⟨#[]⟩,.string ⟨#[]⟩,.slice none 0 0,.slice none 0 0,.slice none 0 0,.slice none 0 0,.slice none 0 0,.slice D1 o1 q1,.bool true,.slice none 0 0]) Zz Zz Zz Zz Zz Zz Zz Zz (fun gb=>⟨(⟨hle8,Zx⟩),?_⟩))
  refine Yj (YK T (Hr:=[_,_,_,_]) (d:=schA x) Zz Zz Zz Zz Zz Zz Zz Zz (Zr _) (hG.mono (hle7.trans hle8)) Yfq (.head _) (YbN (x:=schA x) ⟨hR.name,ip.is.mono (hle7.trans hle8),hF7.mono hle8,hF7.mono hle8,YkA,YkA,IsSl.nil,hC8.is,trivial,IsSl.nil⟩) (by show _*632≤_;omega) Zi (fun v9 H9 hO9=>⟨(⟨hle8,Zx⟩),?_⟩))
  obtain ⟨A9,c9,rfl,_,_⟩:=hO9.form
  refine Ch.qk (⟨hle8,Zx⟩) (Yz Zz ?_)
  refine Ch.done ?_
  refine zW ?_;intros
  exact YA ⟨k+1,_,H9,by omega,rfl,rfl,hle.trans (hle7.trans hle8),rfl,hO9.of (by rw [List.take_add_one,hx];simp) rfl⟩ Zi Zw Zb
 ·have hk2:n5=k:=by omega
  subst hk2
  rw [Zl Zi] at hG
  have hgA:=hle _ _ hg
  refine zW ?_;intros
  refine Yk (fun q σ fz2 H'=>∃ (k:Nat) (u:Value) (Hs:HP),k≤n6∧q=n6 - k∧σ=[(47,.int .i64 k),(46,.int .i64 n6),(45,.slice A6 n6 b6),(4,u),(1,.pointer (some ⟨g1,0,none⟩))]∧Le fz' fz2∧H'=(g1,.cells #[.pointer (some ⟨gk,0,none⟩)] 90 (0,0))::Hs∧Grow schemaL 111 fz2 u (n5+k) Hs (d.actions.map schA++(d.duratives.take k).map schD)) ⟨0,_,Hs,Z0 _,rfl,rfl,Le.refl _,rfl,hG.of (by simp) rfl⟩ Zw Zb ?_
  rintro q σ fz2 H' ⟨k,u,Hs2,hk6,rfl,rfl,hle2,rfl,hG2⟩
  obtain ⟨Au2,cu2,rfl,_,_⟩:=hG2.form
  refine zW ?_;intros
  refine zC (fun c2=>?_) (fun c2=>?_)
  ·obtain ⟨x,hx⟩:=Yg (l:=d.duratives) (k:=k) Zi
   have hxm:=Zm hx
   obtain ⟨w1,w2,w3,w4,w5,w6,w7,w8⟩:=hS.pd x hxm
   refine zW ?_;intros
   refine zI (i6.mono (hle.trans hle2)) hx (fun p1 hp1=>?_)
   refine zL hp1 ?_
   intro cs hcs
   obtain ⟨u0,u1,u2,u3,u4,u5,u6,u7,u8,u9,u10,u11,u12,u13,u14,rfl,hR⟩:=XE hcs
   obtain ⟨B0,m0,d0,rfl,ip⟩:=id hR.params
   obtain ⟨B1,m1,d1,rfl,_⟩:=id hR.start.args
   obtain ⟨B2,m2,d2,rfl,_⟩:=id hR.start.params
   obtain ⟨B3,m3,d3,rfl,_⟩:=id hR.start.exprs
   obtain ⟨B4,m4,d4,rfl,_⟩:=id hR.start.kids
   obtain ⟨B5,m5,d5,rfl,_⟩:=id hR.over.args
   obtain ⟨B6,m6,d6,rfl,_⟩:=id hR.over.params
   obtain ⟨B7,m7,d7,rfl,_⟩:=id hR.over.exprs
   obtain ⟨B8,m8,d8,rfl,_⟩:=id hR.over.kids
   obtain ⟨B9,m9,d9,rfl,_⟩:=id hR.fin.args
   obtain ⟨B10,m10,d10,rfl,_⟩:=id hR.fin.params
   obtain ⟨B11,m11,d11,rfl,_⟩:=id hR.fin.exprs
   obtain ⟨B12,m12,d12,rfl,_⟩:=id hR.fin.kids
   obtain ⟨B13,m13,d13,rfl,ias⟩:=id hR.atStart
   obtain ⟨B14,m14,d14,rfl,iae⟩:=id hR.atEnd
   have las:=ias.len
   have lae:=iae.len
   refine zWN ?_;intros
   refine Wp.drawP [] (Hq:=[_,_]) T.mixed Zj Zj Zb ?_
   refine zW ?_;intros
   ((refine zG ?_);refine Yn (vs:=[.string x.start.op,.string x.start.name,.slice B1 m1 d1,.slice B2 m2 d2,.slice B3 m3 d3,.slice B4 m4 d4]) T 0 Zz Zz Zz Zz Zz Zz ?_)
   refine Yf ?_
   refine Yf ?_
   refine zW ?_;intros
   ((refine zG ?_);refine Yn (vs:=[.string x.over.op,.string x.over.name,.slice B5 m5 d5,.slice B6 m6 d6,.slice B7 m7 d7,.slice B8 m8 d8]) T 0 Zz Zz Zz Zz Zz Zz ?_)
   refine Yf ?_
   refine Yf ?_
   refine zW ?_;intros
   ((refine zG ?_);refine Yn (vs:=[.string x.fin.op,.string x.fin.name,.slice B9 m9 d9,.slice B10 m10 d10,.slice B11 m11 d11,.slice B12 m12 d12]) T 0 Zz Zz Zz Zz Zz Zz ?_)
   refine Yf ?_
   refine Yf ?_
   refine zW ?_;intros
   ((refine zG ?_);refine Yn (vs:=[.string x.start.op,.string x.start.name,.slice B1 m1 d1,.slice B2 m2 d2,.slice B3 m3 d3,.slice B4 m4 d4]) T 0 Zz Zz Zz Zz Zz Zz ?_)
   refine zW ?_;intros
   ((refine zG ?_);refine Yn (vs:=[.string x.over.op,.string x.over.name,.slice B5 m5 d5,.slice B6 m6 d6,.slice B7 m7 d7,.slice B8 m8 d8]) T 0 Zz Zz Zz Zz Zz Zz ?_)
   refine zW ?_;intros
   ((refine zG ?_);refine Yn (vs:=[.string x.fin.op,.string x.fin.name,.slice B9 m9 d9,.slice B10 m10 d10,.slice B11 m11 d11,.slice B12 m12 d12]) T 0 Zz Zz Zz Zz Zz Zz ?_)
   refine Yf ?_
   refine Yf ?_
   refine zW ?_;intros
   refine Yf ?_
   refine zW ?_;intros
   refine Yf ?_
   refine Yf ?_
   refine Yf ?_
   refine Yf ?_
   refine Yf ?_
   refine PK.done ⟨by kernel_rfl,?_⟩
   refine Po.dag [7,8,11,12,15,16,23,24,27,30] 30 40 (DurV x) Zz Zz Zj Zj Zj Zj DurV.mono (⟨(Le.refl _),Zx⟩) ?_ (fun dn cv τ1 fz3 hle3 h2 hv hτ=>?_)
   ·refine DagOps.step Zz (fun cv fz4 hle4 h4 hd=>?_) ?_
    ·exact Does.cv (cv':=[]) trivial h4 (Does.post (Yc T (cs:=[.string x.start.op,.string x.start.name,.slice B1 m1 d1,.slice B2 m2 d2,.slice B3 m3 d3,.slice B4 m4 d4]) Zz Zz Zz Zz Zz Zz Zz Zz (fun gb=>⟨_,[_],Zq (l₁:=[_]),fun fz5 hle5 hf5=>⟨rfl,hle5,.m7 (YlS (hf5 _ (.head _)) (YX (hR.start.mono (hle4.trans hle5))))⟩⟩)))
    refine DagOps.step Zz (fun cv fz4 hle4 h4 hd=>?_) ?_
    ·obtain ⟨v7,e7,h7⟩:=hd 7 Zj Zj
     obtain ⟨E7,r7,q7,rfl,hs7⟩:=h7.p7 rfl
     exact Does.cv (cv':=[(7,_)]) ⟨e7,trivial⟩ h4 (Yl [] _ Zz Zz Zz (and_f hs7 (YjP _ (by simp;omega))) (fun v8 fz5 H5 hle5 hR5=>by
      obtain ⟨rfl,hV5⟩:=hR5
      exact ⟨rfl,hle5,.m8 hV5⟩))
    refine DagOps.step Zz (fun cv fz4 hle4 h4 hd=>?_) ?_
    ·exact Does.cv (cv':=[]) trivial h4 (Does.post (Yc T (cs:=[.string x.over.op,.string x.over.name,.slice B5 m5 d5,.slice B6 m6 d6,.slice B7 m7 d7,.slice B8 m8 d8]) Zz Zz Zz Zz Zz Zz Zz Zz (fun gb=>⟨_,[_],Zq (l₁:=[_]),fun fz5 hle5 hf5=>⟨rfl,hle5,.m11 (YlS (hf5 _ (.head _)) (YX (hR.over.mono (hle4.trans hle5))))⟩⟩)))
    refine DagOps.step Zz (fun cv fz4 hle4 h4 hd=>?_) ?_
    ·obtain ⟨v7,e7,h7⟩:=hd 11 Zj Zj
     obtain ⟨E7,r7,q7,rfl,hs7⟩:=h7.p11 rfl
     exact Does.cv (cv':=[(11,_)]) ⟨e7,trivial⟩ h4 (Yl [] _ Zz Zz Zz (and_f hs7 (YjP _ (by simp;omega))) (fun v8 fz5 H5 hle5 hR5=>by
      obtain ⟨rfl,hV5⟩:=hR5
      exact ⟨rfl,hle5,.m12 hV5⟩))
    refine DagOps.step Zz (fun cv fz4 hle4 h4 hd=>?_) ?_
    ·exact Does.cv (cv':=[]) trivial h4 (Does.post (Yc T (cs:=[.string x.fin.op,.string x.fin.name,.slice B9 m9 d9,.slice B10 m10 d10,.slice B11 m11 d11,.slice B12 m12 d12]) Zz Zz Zz Zz Zz Zz Zz Zz (fun gb=>⟨_,[_],Zq (l₁:=[_]),fun fz5 hle5 hf5=>⟨rfl,hle5,.m15 (YlS (hf5 _ (.head _)) (YX (hR.fin.mono (hle4.trans hle5))))⟩⟩)))
    refine DagOps.step Zz (fun cv fz4 hle4 h4 hd=>?_) ?_
    ·obtain ⟨v7,e7,h7⟩:=hd 15 Zj Zj
     obtain ⟨E7,r7,q7,rfl,hs7⟩:=h7.p15 rfl
     exact Does.cv (cv':=[(15,_)]) ⟨e7,trivial⟩ h4 (Yl [] _ Zz Zz Zz (and_f hs7 (YjP _ (by simp;omega))) (fun v8 fz5 H5 hle5 hR5=>by
      obtain ⟨rfl,hV5⟩:=hR5
      exact ⟨rfl,hle5,.m16 hV5⟩))
    refine DagOps.step Zz (fun cv fz4 hle4 h4 hd=>?_) ?_
    ·exact Does.cv (cv':=[]) trivial h4 (Does.post (Yc T (cs:=[.string x.start.op,.string x.start.name,.slice B1 m1 d1,.slice B2 m2 d2,.slice B3 m3 d3,.slice B4 m4 d4,.string x.over.op,.string x.over.name,.slice B5 m5 d5,.slice B6 m6 d6,.slice B7 m7 d7,.slice B8 m8 d8,.string x.fin.op,.string x.fin.name,.slice B9 m9 d9,.slice B10 m10 d10,.slice B11 m11 d11,.slice B12 m12 d12]) Zz Zz Zz Zz Zz Zz Zz Zz (fun gb=>⟨_,[_],Zq (l₁:=[_]),fun fz5 hle5 hf5=>⟨rfl,hle5,.m23 (is_three (hf5 _ (.head _)) (YX (hR.start.mono (hle4.trans hle5))) (YX (hR.over.mono (hle4.trans hle5))) (YX (hR.fin.mono (hle4.trans hle5))))⟩⟩)))
    refine DagOps.step Zz (fun cv fz4 hle4 h4 hd=>?_) ?_
    ·obtain ⟨v7,e7,h7⟩:=hd 23 Zj Zj
     obtain ⟨E7,r7,q7,rfl,hs7⟩:=h7.p23 rfl
     exact Does.cv (cv':=[(23,_)]) ⟨e7,trivial⟩ h4 (Yl [] _ Zz Zz Zz (and_f hs7 (YjP _ (by simp;omega))) (fun v8 fz5 H5 hle5 hR5=>by
      obtain ⟨rfl,hV5⟩:=hR5
      exact ⟨rfl,hle5,.m24 hV5⟩))
    refine DagOps.step Zz (fun cv fz4 hle4 h4 hd=>?_) ?_
    ·exact Does.cv (cv':=[]) trivial h4 (Yl [] _ Zz Zz Zz (Yel (ias.mono hle4) Zi w7) (fun v8 fz5 H5 hle5 hR5=>by
      obtain ⟨rfl,hV5⟩:=hR5
      exact ⟨rfl,hle5,.m27 hV5⟩))
    refine DagOps.step Zz (fun cv fz4 hle4 h4 hd=>?_) ?_
    ·exact Does.cv (cv':=[]) trivial h4 (Yl [] _ Zz Zz Zz (Yel (iae.mono hle4) Zi w8) (fun v8 fz5 H5 hle5 hR5=>by
      obtain ⟨rfl,hV5⟩:=hR5
      exact ⟨rfl,hle5,.m30 hV5⟩))
    exact DagOps.nil rfl
   ·obtain ⟨v8,e8,h8⟩:=hv 8 Zj
    obtain ⟨v12,e12,h12⟩:=hv 12 Zj
    obtain ⟨v16,e16,h16⟩:=hv 16 Zj
    obtain ⟨v24,e24,h24⟩:=hv 24 Zj
    obtain ⟨v27,e27,h27⟩:=hv 27 Zj
    obtain ⟨v30,e30,h30⟩:=hv 30 Zj
    obtain ⟨C80,s80,t80,C81,s81,t81,C82,s82,t82,C83,s83,t83,rfl,hF8⟩:=(h8.p8 rfl).open
    obtain ⟨C120,s120,t120,C121,s121,t121,C122,s122,t122,C123,s123,t123,rfl,hF12⟩:=(h12.p12 rfl).open
    obtain ⟨C160,s160,t160,C161,s161,t161,C162,s162,t162,C163,s163,t163,rfl,hF16⟩:=(h16.p16 rfl).open
    obtain ⟨C240,s240,t240,C241,s241,t241,C242,s242,t242,C243,s243,t243,rfl,hF24⟩:=(h24.p24 rfl).open
    obtain ⟨C27,s27,t27,rfl,hC27⟩:=h27.p27 rfl
    obtain ⟨C30,s30,t30,rfl,hC30⟩:=h30.p30 rfl
    refine Po.cv [(8,_),(12,_),(16,_),(24,_),(27,_),(30,_)] ⟨e8,e12,e16,e24,e27,e30,trivial⟩ h2 Zj ?_
    refine Ya Zz Zz ?_
    refine PoS.qk (⟨hle3,Zx⟩) (YS T Zz Zz Zz Zz Zz ?_)
    refine Ya Zz Zz ?_
    refine Yd (Yc T (cs:=[.string x.name,.slice B0 m0 d0,.string (normV (andF [x.start])).op,.string (normV (andF [x.start])).name,.slice C80 s80 t80,.slice C81 s81 t81,.slice C82 s82 t82,.slice C83 s83 t83,.string (normV (andF [x.start,x.over,x.fin])).op,.string (normV (andF [x.start,x.over,x.fin])).name,.slice C240 s240 t240,.slice C241 s241 t241,.slice C242 s242 t242,.slice C243 s243 t243,.string (normV (andF [x.over])).op,.string (normV (andF [x.over])).name,.slice C120 s120 t120,.slice C121 s121 t121,.slice C122 s122 t122,.slice C123 s123 t123,.string (normV (andF [x.fin])).op,.string (normV (andF [x.fin])).name,.slice C160 s160 t160,.slice C161 s161 t161,.slice C162 s162 t162,.slice C163 s163 t163,.slice C27 s27 t27,.slice C30 s30 t30,.bool false,.slice none 0 0]) Zz Zz Zz Zz Zz Zz Zz Zz (fun gb=>⟨(⟨hle3,Zx⟩),?_⟩))
    refine Ya Zz Zz ?_
    refine Yd (YK T (Hr:=[_,_,_]) (d:=schD x) Zz Zz Zz Zz Zz Zz Zz Zz (Zr _) (hG2.mono hle3) Yfq (.head _) (YbN (x:=schD x) ⟨hR.name,ip.is.mono hle3,hF8,hF24,hF12,hF16,hC27.is,hC30.is,trivial,IsSl.nil⟩) (by show _*632≤_;omega) Zi (fun v9 H9 hO9=>⟨(⟨hle3,Zx⟩),?_⟩))
    obtain ⟨A9,c9,rfl,_,_⟩:=hO9.form
    refine Ya Zz Zz ?_
    refine PoS.qk (⟨hle3,Zx⟩) (Yz Zz ?_)
    refine Po.done ?_
    refine blkN ?_
    refine Yck ?_
    refine Wp.weaken (σ':=[(4,.slice A9 (n5+k+1) c9),(47,.int .i64 k),(46,.int .i64 n6),(45,.slice A6 n6 b6),(1,.pointer (some ⟨g1,0,none⟩))]) ⟨rfl,(hτ 47 Zj).trans rfl,(hτ 46 Zj).trans rfl,(hτ 45 Zj).trans rfl,(hτ 1 Zj).trans rfl,trivial⟩ (List.Sublist.refl _) ?_
    refine zW ?_;intros
    exact YA ⟨k+1,_,H9,by omega,rfl,rfl,hle2.trans hle3,rfl,hO9.of (by rw [List.take_add_one,hx];simp) rfl⟩ Zi Zw Zb
  ·have hk2:n6=k:=by omega
   subst hk2
   rw [Zl (show d.duratives.length≤n6 by omega)] at hG2
   change Grow schemaL _ fz2 _ _ _ (schB d) at hG2
   have lB:(schB d).length=n5+n6:=hG2.len
   generalize hN:n5+n6=N at hG2 lB
   have hleA:=hle.trans hle2
   refine zW ?_;intros
   refine Yk (fun q σ fz3 H'=>∃ (k:Nat) (Hs:HP),k≤N∧q=N - k∧σ=[(88,.int .i64 k),(87,.int .i64 N),(10,.int .i64 ((Ya6 (((schB d).take k).map (YaT K)):Nat):Int)),(4,.slice Au2 N cu2),(1,.pointer (some ⟨g1,0,none⟩))]∧Le fz2 fz3∧H'=(g1,.cells #[.pointer (some ⟨gk,0,none⟩)] 90 (0,0))::Hs∧Grow schemaL 111 fz3 (.slice Au2 N cu2) N Hs (((schB d).take k).map (YaT K)++(schB d).drop k)) ⟨0,Hs2,Z0 _,rfl,rfl,Le.refl _,rfl,hG2.of (by simp) rfl⟩ Zw Zb ?_
   rintro q σ fz3 H' ⟨k,Hs3,hk3,rfl,rfl,hle3,rfl,hG3⟩
   have hmb:=manyS_le K d k
   refine zW ?_;intros
   refine zC (fun c3=>?_) (fun c3=>?_)
   ·obtain ⟨x,hx⟩:=Yg (l:=schB d) (k:=k) Zi
    have hxk:(((schB d).take k).map (YaT K)++(schB d).drop k)[k]?=some x:=by
     rw [List.getElem?_append_right (by rw [List.length_map,List.length_take];omega),List.length_map,List.length_take,List.getElem?_drop,← hx]
     congr 1;omega
    have hps:=Yi6 hS (Zm hx)
    obtain ⟨gb,cap,cur,e8,rfl,hB⟩:=hG3.b Zi
    injection e8 with e81 e82 e83
    subst e81;subst e83
    obtain ⟨cs,hrx,hcx⟩:=YcP hB hxk
    obtain ⟨u0,u1,u2,u3,u4,u5,u6,u7,u8,u9,u10,u11,u12,u13,u14,u15,u16,u17,u18,u19,rfl,hRx⟩:=WC hrx
    obtain ⟨P1,pn,pc,rfl,hPs⟩:=id hRx.params
    have lps:=hPs.len
    have hK3:=hK0.mono (hleA.trans hle3)
    refine zWN ?_;intros
    refine Wp.drawK (Hq:=[_,_]) T.mixed Zj Zj Zb ?_
    refine zW ?_;intros
    refine zG ?_;refine Yo T Zz Zz Zz Zz Zz rfl Zi Zi ?_
    refine zW ?_;intros
    refine zG ?_;refine Yt T 1 Zz Zz Zz Zz (YhE (o:=1) hcx rfl) ?_
    refine Ye ?_
    refine Ye ?_
    refine Ye ?_
    refine Ye ?_
    refine YD ⟨by kernel_rfl,?_⟩
    refine Yj (Yl [] [_,_] Zz Zz Zz (comb_f (most:=4096) hK3 hPs Zi Zh) (fun v8 fz8 H8 hle8 hR8=>⟨(⟨hle8,Zx⟩),?_⟩))
    obtain ⟨rfl,Bc,mc8,dc8,rfl,hSc⟩:=hR8
    have lsc:=hSc.len
    have hcl:(Ycc K x.params 4096).length≤4097:=YcU K 4096 x.params [[]] (by simp)
    refine Ch.qk (⟨hle8,Zx⟩) (Yo T Zz Zz Zz Zz Zz rfl Zi Zi ?_)
    refine Ch.qk (⟨hle8,Zx⟩) (Y2 T Zz Zz Zz Zz Zz Zz ?_)
    have hB8:=Ykn (o:=29) (d':=YaT K x) (v:=.slice Bc mc8 dc8) (hB.mono hle8) hxk hcx Zh (YbN (x:=YaT K x) (let h:=hRx.mono hle8;⟨h.name,h.params,h.start,h.all,h.over,h.fin,h.early,h.late,trivial,hSc.is⟩))
    have e5:(((schB d).take k).map (YaT K)++(schB d).drop k).set k (YaT K x)=((schB d).take (k+1)).map (YaT K)++(schB d).drop (k+1):=by
     rw [List.set_append_right _ _ (by rw [List.length_map,List.length_take];omega),List.length_map,List.length_take,show k - min k (schB d).length=0 by omega]
     obtain ⟨h1,h2⟩:=Zg hx
     rw [List.drop_eq_getElem_cons h1,List.set_cons_zero,List.take_add_one,hx]
     simp
    rw [e5] at hB8
    have hxk8:(((schB d).take (k+1)).map (YaT K)++(schB d).drop (k+1))[k]?=some (YaT K x):=by
     rw [← e5,List.getElem?_set_self (by rw [List.length_append,List.length_map,List.length_take,List.length_drop];omega)]
    obtain ⟨cs8,hr8,hc8⟩:=YcP hB8 hxk8
    have hl29:k*schemaL.size+29<cur.length:=by
     have h1:=hB.size
     have h2:k*schemaL.size+schemaL.size≤cu2*schemaL.size:=by rw [← Nat.succ_mul];exact Nat.mul_le_mul_right _ (by have:=hB.capn;omega)
     have h3:schemaL.size=30:=rfl
     omega
    have hc29:cs8[29]?=some (.slice Bc mc8 dc8):=by
     rw [← hc8,List.getElem?_take_of_lt Zh,List.getElem?_drop,List.getElem?_set_self hl29]
    have hms:Ya6 (((schB d).take (k+1)).map (YaT K))=Ya6 (((schB d).take k).map (YaT K))+mc8:=by
     unfold Ya6
     rw [List.take_add_one,hx,List.map_append,List.map_append,List.sum_append]
     show _+((YaT K x).arguments.length+0)=_
     rw [show (YaT K x).arguments=Ycc K x.params 4096 from rfl,lsc];rfl
    refine Ch.hard0 Zj (YeC T (pre:=[_]) (j:=k*schemaL.size+29) Zz Zz Zz rfl rfl rfl rfl hl29 ?_)
    refine Ch.done ?_
    refine zW ?_;intros
    refine zG ?_;refine Yo T Zz Zz Zz Zz Zz rfl Zi Zi ?_
    refine zW ?_;intros
    refine zG ?_;refine Yt T 1 Zz Zz Zz Zz (YhE (o:=29) (z:=schemaL.size) (j:=k) hc8 hc29) ?_
    refine zW ?_;intros
    exact YA ⟨k+1,_,by omega,rfl,by rw [hms],hle3.trans hle8,rfl,hB8.grow⟩ Zi Zw Zb
   ·have hk4:N=k:=by omega
    subst hk4
    rw [Zl (show (schB d).length≤N by omega)] at hG3 ⊢
    rw [List.drop_eq_nil_of_le (show (schB d).length≤N by omega),List.append_nil] at hG3
    change Grow schemaL _ fz3 _ _ _ (schL K d) at hG3
    rw [show (schB d).map (YaT K)=schL K d from rfl]
    have hmz:Ya6 (schL K d)≤4097*(schB d).length:=Yey K (schB d)
    refine zW ?_;intros
    refine zC (fun c4=>?_) (fun c4=>?_)
    ·have hE:schE K d=5:=by rw [schE,if_pos Zi]
     refine zW ?_;intros
     exact ret2 rfl rfl rfl Zb ⟨rfl,_,by rw [hE];rfl,fun h=>absurd h (by rw [hE];decide),fun _=>rfl⟩
    ·have hno:¬4096<Ya6 (schL K d):=by omega
     first
     | refine Wp.freezeAll (H1:=[_]) (H2:=Hs3) (Zr _) (fun fz4 hle4 hf4=>?_)
     | refine Seq.freezeAll (H1:=[_]) (H2:=Hs3) (Zr _) (fun fz4 hle4 hf4=>?_)
     obtain ⟨A9,c9,e9,hSl⟩:=hG3.sl hle4 hf4 Zi
     injection e9 with e91 e92 e93
     subst e91;subst e93
     have lSl:=hSl.len
     refine zW ?_;intros
     refine Yk (fun q σ fz5 H'=>∃ (k:Nat),k≤N∧q=N - k∧σ=[(116,.int .i64 k),(115,.int .i64 N),(114,.slice Au2 N cu2),(4,.slice Au2 N cu2),(1,.pointer (some ⟨g1,0,none⟩))]∧fz4=fz5∧H'=[(g1,.cells #[.pointer (some ⟨gk,0,none⟩)] 90 (0,0))]∧∀ i,i<k→∀ s,(schL K d)[i]?=some s→¬YfZ K s) ⟨0,Z0 _,rfl,rfl,rfl,rfl,fun i hi=>absurd hi Zi⟩ Zw Zb ?_
     rintro q σ fz5 H' ⟨k,hk5,rfl,rfl,rfl,rfl,hall⟩
     have hK4:=hK0.mono (hleA.trans (hle3.trans hle4))
     refine zW ?_;intros
     refine zC (fun c5=>?_) (fun c5=>?_)
     ·obtain ⟨x,hx⟩:=Yg (l:=schL K d) (k:=k) Zi
      have hxm:=Zm hx
      refine zW ?_;intros
      refine zI hSl hx (fun p5 hp5=>?_)
      refine zL hp5 ?_
      intro cs hcs
      obtain ⟨u0,u1,u2,u3,u4,u5,u6,u7,u8,u9,u10,u11,u12,u13,u14,u15,u16,u17,u18,u19,rfl,hR⟩:=WC hcs
      obtain ⟨B0,m0,d0,rfl,_⟩:=id hR.params
      obtain ⟨B1,m1,d1,rfl,_⟩:=id hR.start.args
      obtain ⟨B2,m2,d2,rfl,_⟩:=id hR.start.params
      obtain ⟨B3,m3,d3,rfl,_⟩:=id hR.start.exprs
      obtain ⟨B4,m4,d4,rfl,_⟩:=id hR.start.kids
      obtain ⟨B5,m5,d5,rfl,_⟩:=id hR.all.args
      obtain ⟨B6,m6,d6,rfl,_⟩:=id hR.all.params
      obtain ⟨B7,m7,d7,rfl,_⟩:=id hR.all.exprs
      obtain ⟨B8,m8,d8,rfl,_⟩:=id hR.all.kids
      obtain ⟨B9,m9,d9,rfl,_⟩:=id hR.over.args
      obtain ⟨B10,m10,d10,rfl,_⟩:=id hR.over.params
      obtain ⟨B11,m11,d11,rfl,_⟩:=id hR.over.exprs
      obtain ⟨B12,m12,d12,rfl,_⟩:=id hR.over.kids
      obtain ⟨B13,m13,d13,rfl,_⟩:=id hR.fin.args
      obtain ⟨B14,m14,d14,rfl,_⟩:=id hR.fin.params
      obtain ⟨B15,m15,d15,rfl,_⟩:=id hR.fin.exprs
      obtain ⟨B16,m16,d16,rfl,_⟩:=id hR.fin.kids
      obtain ⟨B17,m17,d17,rfl,_⟩:=id hR.early
      obtain ⟨B18,m18,d18,rfl,il⟩:=id hR.late
      obtain ⟨B19,m19,d19,rfl,_⟩:=id hR.arguments
      cases hcnt:x.count with
      | false=>
       refine zW ?_;intros
       exact YA ⟨k+1,by omega,rfl,rfl,rfl,rfl,YO hall hx (fun h=>by rw [YfZ,hcnt] at h;exact absurd h.1 Zh)⟩ Zi Zw Zb
      | true=>
       obtain ⟨hs1,hs2⟩:=schL_sh hS hxm hcnt
       refine zW ?_;intros
       ((refine zG ?_);refine Yn (vs:=[.string x.start.op,.string x.start.name,.slice B1 m1 d1,.slice B2 m2 d2,.slice B3 m3 d3,.slice B4 m4 d4]) T 0 Zz Zz Zz Zz Zz Zz ?_)
       refine zc (YkX hK4 hR.start hs1) ?_
       refine zC (fun c6=>?_) (fun c6=>?_)
       ·have hb:YfZ K x:=⟨hcnt,.inl Zi⟩
        have hE:schE K d=5:=by rw [schE,if_neg hno,if_pos ⟨x,hxm,hb⟩]
        refine zW ?_;intros
        exact ret2 rfl rfl rfl Zb ⟨rfl,_,by rw [hE];rfl,fun h=>absurd h (by rw [hE];decide),fun _=>rfl⟩
       ·refine zW ?_;intros
        refine zG ?_;refine Xs Zz Zz ?_
        refine zG ?_;refine Yd1 Zz Zz (fun fz' hle hf=>Yab (p:=fun y=>64<termsM K y.when_) (il.mono hle) (fun y hy cs hcs=>schm1_q (hK4.mono hle) hcs (hs2 y hy) (hf _ (.tail _ (.head _))))) (fun f1=>?_) (fun f1=>?_)
        ·have hb:YfZ K x:=⟨hcnt,.inr (Zt f1)⟩
         have hE:schE K d=5:=by rw [schE,if_neg hno,if_pos ⟨x,hxm,hb⟩]
         refine zW ?_;intros
         exact ret2 rfl rfl rfl Zb ⟨rfl,_,by rw [hE];rfl,fun h=>absurd h (by rw [hE];decide),fun _=>rfl⟩
        ·have hb:¬YfZ K x:=fun h=>by
          rcases h.2 with h | h
          ·omega
          ·exact Zf f1 h
         refine zW ?_;intros
         exact YA ⟨k+1,by omega,rfl,rfl,rfl,rfl,YO hall hx hb⟩ Zi Zw Zb
     ·have hA:∀ i s,(schL K d)[i]?=some s→¬YfZ K s:=fun i s hi=>hall i (by have:=(Zg hi).1;omega) s hi
      have hE:schE K d=0:=by
       rw [schE,if_neg hno,if_neg]
       rintro ⟨s,hs,hb⟩
       obtain ⟨i,hi⟩:=List.getElem?_of_mem hs
       exact hA i s hi hb
      refine zW ?_;intros
      exact ret2 rfl rfl rfl Zb ⟨rfl,_,by rw [hE];rfl,fun _=>hSl.is,fun h=>absurd hE h⟩
end Go.Proofs.YtbnpeechpebmeaaGreatDoor
namespace Go.Lx
open Go.RowKit
def rowL:Lay (Nat × Nat) where
 size:=1
 rep:=fun _ x cs=>cs=[.slice (some ⟨x.1,0,none⟩) x.2 x.2]
 len:=fun h=>by subst h;rfl
 mono:=fun _ h=>h
section
variable {P:Program} {cx:Cx} {r:Operand→Option Value} {fz:FZ} {H:HP} {V:Value→Prop} {dst:Option Nat} {ty:TypeId} {pos:String} {af:Array Edge} {gd:Option (Nat × Bool)}
variable {X:Ty} {t:TypeId} {x:Operand}
theorem Xc (T:Tab P) {p:Addr} {d:Nat × Nat} (hT:T.inf t=some X) (hd:XL X.desc=false) (hx:r x=some (.pointer (some p))) (h:At rowL fz p d) (hV:V (.slice (some ⟨d.1,0,none⟩) d.2 d.2)):DoesQ P cx ⟨dst,.load t x,ty,pos,af,gd⟩ r fz H V:=by
 obtain ⟨v,h1,h2⟩:=h.cell rfl
 injection h1 with h1
 subst h1
 exact W5 T hT hd hx h2 hV
end
theorem row_one:OneC rowL:=by
 intro fz d cs h u hu
 subst h
 simp at hu;subst hu;rfl
end Go.Lx
namespace Go.Proofs.YtbnpeechpebmeaaGreatDoor
open Go.Lx Go.RowKit
attribute [local instance 10] Classical.propDecidable
def rowO (g:Nat) (b:List Bool):Nat × Obj:=(g,.cells (b.map Value.bool).toArray 4 (0,0))
def rowsO (gs:List Nat) (B:List (List Bool)):HP:=List.zipWith rowO gs B
variable {g i:Nat}
theorem Yek {gs:List Nat} {B:List (List Bool)} {b:List Bool} (hg:gs[i]?=some g) (hb:B[i]?=some b):(rowsO gs B)[i]?=some (rowO g b):=by
 unfold rowsO
 rw [List.getElem?_zipWith,hg,hb]
theorem Yla {gs:List Nat} {B:List (List Bool)} (h:gs.length=B.length):(rowsO gs B).length=gs.length:=by
 unfold rowsO;rw [List.length_zipWith];omega
theorem Yg4 {gs:List Nat} {B:List (List Bool)} {b b':List Bool} (hl:gs.length=B.length) (hg:gs[i]?=some g) (hb:B[i]?=some b):
 ∃ pre post,rowsO gs B=pre++rowO g b::post∧rowsO gs (B.set i b')=pre++rowO g b'::post:=by
 obtain ⟨h1,h2⟩:=Zg hg
 obtain ⟨h3,h4⟩:=Zg hb
 have e1:gs=gs.take i++g::gs.drop (i+1):=by rw [← h2,← List.drop_eq_getElem_cons h1,List.take_append_drop]
 have e2:B=B.take i++b::B.drop (i+1):=by rw [← h4,← List.drop_eq_getElem_cons h3,List.take_append_drop]
 have e3:B.set i b'=B.take i++b'::B.drop (i+1):=by rw [List.set_eq_take_append_cons_drop,if_pos h3]
 have hz:∀ c,rowsO (gs.take i++g::gs.drop (i+1)) (B.take i++c::B.drop (i+1))=rowsO (gs.take i) (B.take i)++rowO g c::rowsO (gs.drop (i+1)) (B.drop (i+1)):=fun c=>by
  unfold rowsO
  rw [List.zipWith_append (by rw [List.length_take,List.length_take];omega)];rfl
 refine ⟨rowsO (gs.take i) (B.take i),rowsO (gs.drop (i+1)) (B.drop (i+1)),?_,?_⟩
 ·rw [← hz b,← e1,← e2]
 ·rw [e3,← hz b',← e1]
structure InsR where
 S:List Atom
 b:Bool
 d:Bool
 n:Bool
def envA (s:Schema) (a:List Bs):EnvM:=extE (fun _=>none) s.params a
def WW (K:Kn) (s:Schema) (a:List Bs) (S:List Atom) (b d:Bool):InsR:=
 let E:=envA s a
 let b':=b || holdsM K S E s.start
 let d':=d || (b' && holdsM K S E s.all)
 let r1:=if b'=true then YaS K s.early E S else (S,false)
 let r2:=if d'=true then YaS K s.late E r1.1 else (r1.1,false)
 ⟨r2.1,b',d',r2.2 || (r1.2 || ((!d && d') || (!b && b')))⟩
structure RowS where
 S:List Atom
 bs:List Bool
 ds:List Bool
 n:Bool
def Yj1 (K:Kn) (s:Schema) (st:RowS) (j:Nat) (a:List Bs):RowS:=
 let q:=WW K s a st.S (st.bs[j]?.getD false) (st.ds[j]?.getD false)
 ⟨q.S,st.bs.set j q.b,st.ds.set j q.d,q.n || st.n⟩
def rowN (K:Kn) (s:Schema):Nat→RowS→RowS
 | 0,st=>st
 | k+1,st=>match s.arguments[k]? with
  | some a=>Yj1 K s (rowN K s k st) k a
  | none=>rowN K s k st
structure RndS where
 S:List Atom
 B:List (List Bool)
 D:List (List Bool)
 n:Bool
def stepW (K:Kn) (w:RndS) (i:Nat) (s:Schema):RndS:=
 let r:=rowN K s s.arguments.length ⟨w.S,w.B[i]?.getD [],w.D[i]?.getD [],w.n⟩
 ⟨r.S,w.B.set i r.bs,w.D.set i r.ds,r.n⟩
def rndN (K:Kn) (l:List Schema):Nat→RndS→RndS
 | 0,w=>w
 | i+1,w=>match l[i]? with
  | some s=>stepW K (rndN K l i w) i s
  | none=>rndN K l i w
def Xy (K:Kn) (l:List Schema) (S:List Atom) (B D:List (List Bool)):RndS:=rndN K l l.length ⟨S,B,D,false⟩
theorem YdY (K:Kn) (s:Schema):∀ (k:Nat) (st:RowS),(rowN K s k st).bs.length=st.bs.length∧(rowN K s k st).ds.length=st.ds.length
 | 0,_=>⟨rfl,rfl⟩
 | k+1,st=>by
  have h:=YdY K s k st
  rw [rowN]
  split
  ·exact ⟨by show ((rowN K s k st).bs.set _ _).length=_;rw [List.length_set];exact h.1,by show ((rowN K s k st).ds.set _ _).length=_;rw [List.length_set];exact h.2⟩
  ·exact h
variable {K:Kn}
theorem Ylb {s:Schema} {k:Nat} {st:RowS} {a:List Bs} (h:s.arguments[k]?=some a):rowN K s (k+1) st=Yj1 K s (rowN K s k st) k a:=by rw [rowN,h]
theorem Ylc {l:List Schema} {w:RndS} {s:Schema} (h:l[i]?=some s):rndN K l (i+1) w=stepW K (rndN K l i w) i s:=by rw [rndN,h]
def FitR (l:List Schema) (B:List (List Bool)):Prop:=B.length=l.length∧∀ (i:Nat) (s:Schema) (b:List Bool),l[i]?=some s→B[i]?=some b→b.length=s.arguments.length
theorem FitR.set {l:List Schema} {B:List (List Bool)} (h:FitR l B) {b b':List Bool} (hb:B[i]?=some b) (hl:b'.length=b.length):FitR l (B.set i b'):=by
 refine ⟨by rw [List.length_set];exact h.1,fun j s c hs hc=>?_⟩
 by_cases he:i=j
 ·subst he
  have hlt:=(Zg hb).1
  rw [List.getElem?_set_self hlt] at hc
  injection hc with hc
  subst hc
  rw [hl];exact h.2 i s b hs hb
 ·rw [List.getElem?_set_ne he] at hc
  exact h.2 j s c hs hc
theorem YdZ {K:Kn} {l:List Schema}:∀ (i:Nat) {w:RndS},FitR l w.B→FitR l w.D→FitR l (rndN K l i w).B∧FitR l (rndN K l i w).D
 | 0,_,h1,h2=>⟨h1,h2⟩
 | i+1,w,h1,h2=>by
  obtain ⟨k1,k2⟩:=YdZ (K:=K) i h1 h2
  rw [rndN]
  split
  ·rename_i s hs
   have hlt:i<l.length:=(Zg hs).1
   obtain ⟨b,hb⟩:=Yg (l:=(rndN K l i w).B) (k:=i) (by rw [k1.1];exact hlt)
   obtain ⟨d,hd⟩:=Yg (l:=(rndN K l i w).D) (k:=i) (by rw [k2.1];exact hlt)
   have hrl:=YdY K s s.arguments.length ⟨(rndN K l i w).S,((rndN K l i w).B[i]?).getD [],((rndN K l i w).D[i]?).getD [],(rndN K l i w).n⟩
   exact ⟨k1.set hb (by rw [hrl.1,hb];rfl),k2.set hd (by rw [hrl.2,hd];rfl)⟩
  ·exact ⟨k1,k2⟩
end Go.Proofs.YtbnpeechpebmeaaGreatDoor
namespace Go.Lx
open Go.RowKit
section
variable {P:Program} {cx:Cx} {r:Operand→Option Value} {fz:FZ} {H:HP} {dst:Option Nat} {ty:TypeId} {pos:String} {af:Array Edge} {gd:Option (Nat × Bool)}
variable {X:Ty} {cs:List Value} {g j:Nat} {t:TypeId} {v:Value} {x y:Operand}
theorem YdI (T:Tab P) {t':TypeId} {pre post H2:HP} {K:Value→FZ→HP→Prop} (hT:T.inf t=some X)
 (hx:r x=some (.pointer (some ⟨g,j,none⟩))) (hy:r y=some v) (hH:H=pre++(g,.cells cs.toArray t' (0,0))::post) (hs:X.size=1) (hv:v.cells=#[v]) (h1:v.oneCell'=true) (hj:j<cs.length)
 (hE:pre++(g,.cells (cs.set j v).toArray t' (0,0))::post=H2) (h:K undef fz H2):Does P cx ⟨dst,.store t x y,ty,pos,af,gd⟩ r fz H K:=YeC T hT hx hy hH hs hv h1 hj (by rw [hE];exact h)
end
end Go.Lx
namespace Go.Proofs.YtbnpeechpebmeaaGreatDoor
open Go.Lx Go.RowKit
attribute [local instance 10] Classical.propDecidable
open Go.Proofs.Tryz (prog)
structure SSh (s:Schema):Prop where
 start:HSh s.start
 all:HSh s.all
 early:∀ c∈s.early,CSh c
 late:∀ c∈s.late,CSh c
 args:∀ a∈s.arguments,a.length=s.params.length∧∀ t∈a,PlnS t
theorem extE_P:∀ (l:List (Param × Bs)) {E:EnvM},EnvP E→(∀ z∈l,PlnS z.2)→EnvP (l.foldl (fun E z=>setE E z.1.name z.2) E)
 | [],_,h,_=>h
 | z::l,E,h,hl=>extE_P l (h.set (hl z (by simp))) (fun y hy=>hl y (by simp [hy]))
theorem envA_P {s:Schema} {a:List Bs} (h:∀ t∈a,PlnS t):EnvP (envA s a):=by
 unfold envA extE
 refine extE_P _ (fun x y h=>by cases h) (fun z hz=>h z.2 ?_)
 exact (List.of_mem_zip hz).2
variable {j:Nat}
theorem Wz {bs:List Bool} {b:Bool} (h:bs[j]?=some b):(bs.map Value.bool)[(j:Int).toNat*1]?=some (.bool b):=by
 rw [Int.toNat_natCast,Nat.mul_one,List.getElem?_map,h];rfl
theorem Yjk {bs:List Bool} {b:Bool}:(bs.map Value.bool).set ((j:Int).toNat*1) (.bool b)=(bs.set j b).map Value.bool:=by
 rw [Int.toNat_natCast,Nat.mul_one,List.map_set]
variable {g:Nat}
theorem Yc2 {gB gD:List Nat} {B D:List (List Bool)} {k:Nat} {b:List Bool} {x y:Nat × Obj} (hg:gB[k]?=some g) (hb:B[k]?=some b):(x::y::(rowsO gB B++rowsO gD D))[k+2]?=some (g,.cells (b.map Value.bool).toArray 4 (0,0)):=by
 have h:=Yek hg hb
 have hlt:=(Zg h).1
 rw [List.getElem?_cons_succ,List.getElem?_cons_succ,List.getElem?_append_left hlt]
 exact h
theorem Yh7 {gB gD:List Nat} {B D:List (List Bool)} {k:Nat} {b:List Bool} {x y:Nat × Obj} (hl:gB.length=B.length) (hg:gD[k]?=some g) (hb:D[k]?=some b):(x::y::(rowsO gB B++rowsO gD D))[gB.length+k+2]?=some (g,.cells (b.map Value.bool).toArray 4 (0,0)):=by
 have h:=Yek hg hb
 have hlB:=Yla hl
 rw [List.getElem?_cons_succ,List.getElem?_cons_succ,List.getElem?_append_right Zi,hlB,Nat.add_sub_cancel_left]
 exact h
variable {i:Nat}
theorem Yi5 {α:Type} {l:List α} {a b:α}:(l.set i a).set i b=l.set i b:=by rw [List.set_set]
variable {K:Kn} {fz:FZ}
set_option maxHeartbeats 32000000 in
theorem round_f {gr gk gs:Nat} {gB gD:List Nat} {S:List Atom} {B D:List (List Bool)} {m:List (Bs × Value)} {l:List Schema} {As Ab Ad:Option Addr} {n cS cb cd:Nat}
 (hr:fz gr=some (.cells #[.pointer (some ⟨gk,0,none⟩),.slice As n cS,.map (some gs),.slice Ab n cb,.slice Ad n cd] 101 (0,0))) (hK:KnR fz (.pointer (some ⟨gk,0,none⟩)) K) (hOs:∀ o∈K.os,PlnS o.name) (hSet:SetM fz m S)
 (hl:Sl schemaL fz As n cS l) (hB:Sl rowL fz Ab n cb (gB.zip (l.map fun s=>s.arguments.length))) (hD:Sl rowL fz Ad n cd (gD.zip (l.map fun s=>s.arguments.length))) (lB:gB.length=l.length) (lD:gD.length=l.length) (fB:FitR l B) (fD:FitR l D) (hSh:∀ s∈l,SSh s):
 GFn prog 73 [.pointer (some ⟨gr,0,none⟩)] fz ((gs,mapS m)::(rowsO gB B++rowsO gD D)) (fun r fz' H'=>r=.bool (Xy K l S B D).n∧∃ m',H'=(gs,mapS m')::(rowsO gB (Xy K l S B D).B++rowsO gD (Xy K l S B D).D)∧SetM fz' m' (Xy K l S B D).S):=by
 have ll:=hl.len
 have sn:=hl.short
 generalize hw0:(⟨S,B,D,false⟩:RndS)=w0'
 have e0:w0'.S=S∧w0'.B=B∧w0'.D=D∧w0'.n=false:=by subst hw0;exact ⟨rfl,rfl,rfl,rfl⟩
 have hM:Xy K l S B D=rndN K l l.length w0':=by rw [← hw0];rfl
 refine zF Tryz.func73 Tryz.ntmps73 (fun w0=>?_)
 refine zW ?_;intros
 refine Yk (fun q σ fz' H'=>∃ (k:Nat) (m:List (Bs × Value)),k≤n∧q=n - k∧σ=[(14,.int .i64 k),(13,.int .i64 n),(12,.slice As n cS),(3,.bool (rndN K l k w0').n),(0,.pointer (some ⟨gr,0,none⟩))]∧Le fz fz'∧H'=(gs,mapS m)::(rowsO gB (rndN K l k w0').B++rowsO gD (rndN K l k w0').D)∧SetM fz' m (rndN K l k w0').S)
  ⟨0,m,Z0 _,rfl,by rw [rndN,e0.2.2.2],Le.refl _,by rw [rndN,e0.2.1,e0.2.2.1],by rw [rndN,e0.1];exact hSet⟩ Zw Zb ?_
 rintro q σ fz1 H' ⟨k,m1,hk,rfl,rfl,hle1,rfl,hS1⟩
 have hfit:=YdZ (K:=K) k (w:=w0') (by rw [e0.2.1];exact fB) (by rw [e0.2.2.1];exact fD)
 generalize hw:rndN K l k w0'=w at hS1 hfit
 obtain ⟨fB1,fD1⟩:=hfit
 refine zW ?_;intros
 refine zC (fun c1=>?_) (fun c1=>?_)
 ·obtain ⟨s,hs⟩:=Yg (l:=l) (k:=k) Zi
  have hnx:=Ylc (K:=K) (w:=w0') hs
  rw [hw] at hnx
  have hsh:=hSh s (Zm hs)
  obtain ⟨gb,hgb⟩:=Yg (l:=gB) (k:=k) Zi
  obtain ⟨gd,hgd⟩:=Yg (l:=gD) (k:=k) Zi
  obtain ⟨b0,hb0⟩:=Yg (l:=w.B) (k:=k) (by rw [fB1.1];omega)
  obtain ⟨d0,hd0⟩:=Yg (l:=w.D) (k:=k) (by rw [fD1.1];omega)
  have lb0:=fB1.2 k s b0 hs hb0
  have ld0:=fD1.2 k s d0 hs hd0
  have hkB:=(Zg hb0).1
  have hkD:=(Zg hd0).1
  have eB:(gB.zip (l.map fun s=>s.arguments.length))[k]?=some (gb,s.arguments.length):=by rw [List.getElem?_zip_eq_some];exact ⟨hgb,by rw [List.getElem?_map,hs];rfl⟩
  have eD:(gD.zip (l.map fun s=>s.arguments.length))[k]?=some (gd,s.arguments.length):=by rw [List.getElem?_zip_eq_some];exact ⟨hgd,by rw [List.getElem?_map,hs];rfl⟩
  unfold stepW at hnx
  rw [hb0,hd0] at hnx
  simp only [Option.getD_some] at hnx
  generalize hst0:(⟨w.S,b0,d0,w.n⟩:RowS)=st0 at hnx
  have f0:st0.S=w.S∧st0.bs=b0∧st0.ds=d0∧st0.n=w.n:=by subst hst0;exact ⟨rfl,rfl,rfl,rfl⟩
  refine zW ?_;intros
  refine zI (hl.mono hle1) hs (fun pp1 hp1=>?_)
  refine zL hp1 ?_
  intro cs hcs
  obtain ⟨u0,u1,u2,u3,u4,u5,u6,u7,u8,u9,u10,u11,u12,u13,u14,u15,u16,u17,u18,u19,rfl,hR⟩:=WC hcs
  obtain ⟨P0,p0,q0,rfl,ip⟩:=id hR.params
  obtain ⟨P1,p1,q1,rfl,_⟩:=id hR.start.args
  obtain ⟨P2,p2,q2,rfl,_⟩:=id hR.start.params
  obtain ⟨P3,p3,q3,rfl,_⟩:=id hR.start.exprs
  obtain ⟨P4,p4,q4,rfl,_⟩:=id hR.start.kids
  obtain ⟨P5,p5,q5,rfl,_⟩:=id hR.all.args
  obtain ⟨P6,p6,q6,rfl,_⟩:=id hR.all.params
  obtain ⟨P7,p7,q7,rfl,_⟩:=id hR.all.exprs
  obtain ⟨P8,p8,q8,rfl,_⟩:=id hR.all.kids
  obtain ⟨P9,p9,q9,rfl,_⟩:=id hR.over.args
  obtain ⟨P10,p10,q10,rfl,_⟩:=id hR.over.params
  obtain ⟨P11,p11,q11,rfl,_⟩:=id hR.over.exprs
  obtain ⟨P12,p12,q12,rfl,_⟩:=id hR.over.kids
  obtain ⟨P13,p13,q13,rfl,_⟩:=id hR.fin.args
  obtain ⟨P14,p14,q14,rfl,_⟩:=id hR.fin.params
  obtain ⟨P15,p15,q15,rfl,_⟩:=id hR.fin.exprs
  obtain ⟨P16,p16,q16,rfl,_⟩:=id hR.fin.kids
  obtain ⟨P17,p17,q17,rfl,ie⟩:=id hR.early
  obtain ⟨P18,p18,q18,rfl,il⟩:=id hR.late
  obtain ⟨P19,p19,q19,rfl,iar⟩:=id hR.arguments
  have lar:=iar.len
  have sar:=iar.short
  have lpar:=ip.len
  refine zW ?_;intros
  rename_i g5
  refine Yk (fun q σ fz' H'=>∃ (j:Nat) (m:List (Bs × Value)),j≤p19∧q=p19 - j∧σ=[(22,.int .i64 j),(21,.int .i64 p19),(20,.slice P19 p19 q19),(14,.int .i64 k),(13,.int .i64 n),(12,.slice As n cS),(5,.pointer (some ⟨g5,0,none⟩)),(4,.int .i64 k),(3,.bool (rowN K s j st0).n),(0,.pointer (some ⟨gr,0,none⟩))]∧Le fz1 fz'∧H'=(g5,.cells #[.string s.name,.slice P0 p0 q0,.string s.start.op,.string s.start.name,.slice P1 p1 q1,.slice P2 p2 q2,.slice P3 p3 q3,.slice P4 p4 q4,.string s.all.op,.string s.all.name,.slice P5 p5 q5,.slice P6 p6 q6,.slice P7 p7 q7,.slice P8 p8 q8,.string s.over.op,.string s.over.name,.slice P9 p9 q9,.slice P10 p10 q10,.slice P11 p11 q11,.slice P12 p12 q12,.string s.fin.op,.string s.fin.name,.slice P13 p13 q13,.slice P14 p14 q14,.slice P15 p15 q15,.slice P16 p16 q16,.slice P17 p17 q17,.slice P18 p18 q18,.bool s.count,.slice P19 p19 q19] 111 (0,0))::(gs,mapS m)::(rowsO gB (w.B.set k (rowN K s j st0).bs)++rowsO gD (w.D.set k (rowN K s j st0).ds))∧SetM fz' m (rowN K s j st0).S)
   ⟨0,m1,Z0 _,rfl,by rw [rowN,f0.2.2.2],Le.refl _,by rw [rowN,f0.2.1,f0.2.2.1,X2 hb0,X2 hd0],by rw [rowN,f0.1];exact hS1⟩ Zw Zb ?_
  rintro q σ fz2 H' ⟨j,m2,hj,rfl,rfl,hle2,rfl,hS2⟩
  have hlen:=YdY K s j st0
  generalize hst:rowN K s j st0=st at hS2 hlen
  have hx2:=hle1.trans hle2
  have hr2:=hx2 _ _ hr
  refine zW ?_;intros
  refine zC (fun c2=>?_) (fun c2=>?_)
  ·obtain ⟨a,ha⟩:=Yg (l:=s.arguments) (k:=j) Zi
   have hrn:=Ylb (K:=K) (st:=st0) ha
   rw [hst] at hrn
   obtain ⟨hal,hap⟩:=hsh.args a (Zm ha)
   have lbs:st.bs.length=p19:=by rw [hlen.1,f0.2.1,lb0,lar]
   have lds:st.ds.length=p19:=by rw [hlen.2,f0.2.2.1,ld0,lar]
   obtain ⟨b,hb⟩:=Yg (l:=st.bs) (k:=j) Zi
   obtain ⟨d,hd⟩:=Yg (l:=st.ds) (k:=j) Zi
   refine zW ?_;intros
   refine zI (iar.mono hle2) ha (fun pp2 hp2=>?_)
   ((refine zG ?_);refine Yeq T Zz Zz Zz hp2 (fun Ay ny cy hy2=>?_))
   have ly:=hy2.len
   refine zW ?_;intros
   refine Yb Zz (Yl [] (_::_::(rowsO gB (w.B.set k st.bs)++rowsO gD (w.D.set k st.ds))) Zz Zz Zz (env_f (ip.mono hle2) hy2 Zi (.inl ⟨rfl,fun _=>rfl⟩)) (fun v3 fz3 H3 hle3 hR3=>?_))
   obtain ⟨rfl,hE3⟩:=hR3
   have hE4:EnvR fz3 v3 (envA s a):=by
    rw [Zl Zi] at hE3
    exact hE3
   have hP:=envA_P (s:=s) hap
   have hx3:=hx2.trans hle3
   have hr3:=hx3 _ _ hr
   have hS3:=hS2.mono hle3
   have hK3:=hK.mono hx3
   have hE0:=hE4
   obtain ⟨ge,me,rfl,_,_,_⟩:=hE4
   generalize hq:WW K s a st.S b d=qi
   have hqi:Yj1 K s st j a=⟨qi.S,st.bs.set j qi.b,st.ds.set j qi.d,qi.n || st.n⟩:=by
    unfold Yj1
    rw [hb,hd]
    simp only [Option.getD_some]
    rw [hq]
   rw [hqi] at hrn
   simp only [WW] at hq
   generalize hh1:holdsM K st.S (envA s a) s.start=h1 at hq
   generalize hh2:holdsM K st.S (envA s a) s.all=h2 at hq
   generalize hb':(b || h1)=b' at hq
   generalize hd':(d || (b' && h2))=d' at hq
   generalize hr1:(if b'=true then YaS K s.early (envA s a) st.S else (st.S,false))=r1 at hq
   generalize hr2':(if d'=true then YaS K s.late (envA s a) r1.1 else (r1.1,false))=r2 at hq
   subst hq
   simp only at hrn
   have hBk:(w.B.set k st.bs)[k]?=some st.bs:=List.getElem?_set_self hkB
   have hDk:(w.D.set k st.ds)[k]?=some st.ds:=List.getElem?_set_self hkD
   have hlB1:gB.length=(w.B.set k st.bs).length:=by rw [List.length_set,lB,fB1.1]

   refine zWX ?_;intros
   refine Yp (Wp.mid (fun σ fz' H'=>σ=[(8,.map (some ge)),(6,.int .i64 j),(22,.int .i64 j),(21,.int .i64 p19),(20,.slice P19 p19 q19),(14,.int .i64 k),(13,.int .i64 n),(12,.slice As n cS),(5,.pointer (some ⟨g5,0,none⟩)),(4,.int .i64 k),(3,.bool ((!b && b') || st.n)),(0,.pointer (some ⟨gr,0,none⟩))]∧fz3=fz'∧H'=(g5,.cells #[.string s.name,.slice P0 p0 q0,.string s.start.op,.string s.start.name,.slice P1 p1 q1,.slice P2 p2 q2,.slice P3 p3 q3,.slice P4 p4 q4,.string s.all.op,.string s.all.name,.slice P5 p5 q5,.slice P6 p6 q6,.slice P7 p7 q7,.slice P8 p8 q8,.string s.over.op,.string s.over.name,.slice P9 p9 q9,.slice P10 p10 q10,.slice P11 p11 q11,.slice P12 p12 q12,.string s.fin.op,.string s.fin.name,.slice P13 p13 q13,.slice P14 p14 q14,.slice P15 p15 q15,.slice P16 p16 q16,.slice P17 p17 q17,.slice P18 p18 q18,.bool s.count,.slice P19 p19 q19] 111 (0,0))::(gs,mapS m2)::(rowsO gB (w.B.set k (st.bs.set j b'))++rowsO gD (w.D.set k (st.ds)))) ?_ ?_)
   ·cases b with
    | true=>
     have e7:st.bs.set j b'=st.bs:=by rw [← hb'];exact X2 hb
     rw [show ((!true && b') || st.n)=st.n from by simp,e7]
     refine zW ?_;intros
     refine zI (hB.mono hx3) eB (fun ppx hpx=>?_)
     refine zG ?_;refine Xc T Zz Zz Zz hpx ?_
     refine zW ?_;intros
     refine zG ?_;refine Yo (z:=1) T Zz Zz Zz Zz Zz rfl Zi Zi ?_
     refine zG ?_;refine Yt T (k+2) Zz Zz Zz (Yc2 hgb hBk) (Wz hb) ?_
     refine zW ?_;intros
     exact midN ⟨rfl,rfl,rfl⟩ Zw Zb
    | false=>
     cases h1 with
     | false=>
      have e7:st.bs.set j b'=st.bs:=by rw [← hb'];exact X2 hb
      rw [show ((!false && b') || st.n)=st.n from by rw [← hb'];simp,e7]
      refine zW ?_;intros
      refine zI (hB.mono hx3) eB (fun ppx hpx=>?_)
      refine zG ?_;refine Xc T Zz Zz Zz hpx ?_
      refine zW ?_;intros
      refine zG ?_;refine Yo (z:=1) T Zz Zz Zz Zz Zz rfl Zi Zi ?_
      refine zG ?_;refine Yt T (k+2) Zz Zz Zz (Yc2 hgb hBk) (Wz hb) ?_
      refine zW ?_;intros
      ((refine zG ?_);refine Yn (vs:=[.string s.start.op,.string s.start.name,.slice P1 p1 q1,.slice P2 p2 q2,.slice P3 p3 q3,.slice P4 p4 q4]) T 0 Zz Zz Zz Zz Zz Zz ?_)
      refine zW ?_;intros
      refine zG ?_;refine Wf Zz Zz (fun fz' hle hf=>Ycq _ (Zs _) (hK3.mono hle) hOs (hf (gs,mapS m2) (by simp)) (hS3.mono hle) (hR.start.mono (hle2.trans (hle3.trans hle))) hsh.start (hE0.mono hle) hP) ?_
      rw [hh1]
      refine zW ?_;intros
      exact midN ⟨rfl,rfl,rfl⟩ Zw Zb
     | true=>
      have e8:b'=true:=by rw [← hb'];rfl
      subst e8
      rw [show ((!false && true) || st.n)=true from by simp]
      obtain ⟨pre,post,e1,e2⟩:=Yg4 (b':=st.bs.set j true) hlB1 hgb hBk
      refine zW ?_;intros
      refine zI (hB.mono hx3) eB (fun ppx hpx=>?_)
      refine zG ?_;refine Xc T Zz Zz Zz hpx ?_
      refine zW ?_;intros
      refine zG ?_;refine Yo (z:=1) T Zz Zz Zz Zz Zz rfl Zi Zi ?_
      refine zG ?_;refine Yt T (k+2) Zz Zz Zz (Yc2 hgb hBk) (Wz hb) ?_
      refine zW ?_;intros
      ((refine zG ?_);refine Yn (vs:=[.string s.start.op,.string s.start.name,.slice P1 p1 q1,.slice P2 p2 q2,.slice P3 p3 q3,.slice P4 p4 q4]) T 0 Zz Zz Zz Zz Zz Zz ?_)
      refine zW ?_;intros
      refine zG ?_;refine Wf Zz Zz (fun fz' hle hf=>Ycq _ (Zs _) (hK3.mono hle) hOs (hf (gs,mapS m2) (by simp)) (hS3.mono hle) (hR.start.mono (hle2.trans (hle3.trans hle))) hsh.start (hE0.mono hle) hP) ?_
      rw [hh1]
      refine zW ?_;intros
      refine zI (hB.mono hx3) eB (fun ppx hpx=>?_)
      refine zG ?_;refine Xc T Zz Zz Zz hpx ?_
      refine zW ?_;intros
      refine zG ?_;refine Yo (z:=1) T Zz Zz Zz Zz Zz rfl Zi Zi ?_
      refine YJ (YdI T (pre:=_::_::pre) (cs:=st.bs.map Value.bool) Zz Zz Zz (by rw [e1];simp only [List.append_assoc,List.cons_append];rfl) rfl rfl rfl (by rw [List.length_map,Int.toNat_natCast];omega) (H2:=(g5,.cells #[.string s.name,.slice P0 p0 q0,.string s.start.op,.string s.start.name,.slice P1 p1 q1,.slice P2 p2 q2,.slice P3 p3 q3,.slice P4 p4 q4,.string s.all.op,.string s.all.name,.slice P5 p5 q5,.slice P6 p6 q6,.slice P7 p7 q7,.slice P8 p8 q8,.string s.over.op,.string s.over.name,.slice P9 p9 q9,.slice P10 p10 q10,.slice P11 p11 q11,.slice P12 p12 q12,.string s.fin.op,.string s.fin.name,.slice P13 p13 q13,.slice P14 p14 q14,.slice P15 p15 q15,.slice P16 p16 q16,.slice P17 p17 q17,.slice P18 p18 q18,.bool s.count,.slice P19 p19 q19] 111 (0,0))::(gs,mapS m2)::(rowsO gB (w.B.set k (st.bs.set j true))++rowsO gD (w.D.set k (st.ds)))) (by rw [Yjk,← Yi5 (l:=w.B) (a:=st.bs),e2];simp only [List.append_assoc,List.cons_append];rfl) ?_)
      refine zW ?_;intros
      exact midN ⟨rfl,rfl,rfl⟩ Zw Zb
   ·rintro σ fz4 H' ⟨rfl,rfl,rfl⟩
    have hBk1:(w.B.set k (st.bs.set j b'))[k]?=some (st.bs.set j b'):=List.getElem?_set_self hkB
    have hb1:(st.bs.set j b')[j]?=some b':=List.getElem?_set_self Zi
    have hlB2:gB.length=(w.B.set k (st.bs.set j b')).length:=by rw [List.length_set,lB,fB1.1]
    have hlD2:gD.length=(w.D.set k st.ds).length:=by rw [List.length_set,lD,fD1.1]
    refine Yp (Wp.mid (fun σ fz' H'=>σ=[(8,.map (some ge)),(6,.int .i64 j),(22,.int .i64 j),(21,.int .i64 p19),(20,.slice P19 p19 q19),(14,.int .i64 k),(13,.int .i64 n),(12,.slice As n cS),(5,.pointer (some ⟨g5,0,none⟩)),(4,.int .i64 k),(3,.bool ((!d && d') || ((!b && b') || st.n))),(0,.pointer (some ⟨gr,0,none⟩))]∧fz3=fz'∧H'=(g5,.cells #[.string s.name,.slice P0 p0 q0,.string s.start.op,.string s.start.name,.slice P1 p1 q1,.slice P2 p2 q2,.slice P3 p3 q3,.slice P4 p4 q4,.string s.all.op,.string s.all.name,.slice P5 p5 q5,.slice P6 p6 q6,.slice P7 p7 q7,.slice P8 p8 q8,.string s.over.op,.string s.over.name,.slice P9 p9 q9,.slice P10 p10 q10,.slice P11 p11 q11,.slice P12 p12 q12,.string s.fin.op,.string s.fin.name,.slice P13 p13 q13,.slice P14 p14 q14,.slice P15 p15 q15,.slice P16 p16 q16,.slice P17 p17 q17,.slice P18 p18 q18,.bool s.count,.slice P19 p19 q19] 111 (0,0))::(gs,mapS m2)::(rowsO gB (w.B.set k (st.bs.set j b'))++rowsO gD (w.D.set k (st.ds.set j d')))) ?_ ?_)
    ·cases b' with
     | false=>
      have e7:st.ds.set j d'=st.ds:=by rw [← hd',Bool.false_and,Bool.or_false];exact X2 hd
      rw [show ((!d && d') || ((!b && false) || st.n))=((!b && false) || st.n) from by rw [← hd'];cases d<;>simp,e7]
      refine zW ?_;intros
      refine zI (hB.mono hx3) eB (fun ppx hpx=>?_)
      refine zG ?_;refine Xc T Zz Zz Zz hpx ?_
      refine zW ?_;intros
      refine zG ?_;refine Yo (z:=1) T Zz Zz Zz Zz Zz rfl Zi Zi ?_
      refine zG ?_;refine Yt T (k+2) Zz Zz Zz (Yc2 hgb hBk1) (Wz hb1) ?_
      refine zW ?_;intros
      exact midN ⟨rfl,rfl,rfl⟩ Zw Zb
     | true=>
      generalize hn1:((!b && true) || st.n)=nn1
      cases d with
      | true=>
       have e7:st.ds.set j d'=st.ds:=by rw [← hd',Bool.true_or];exact X2 hd
       rw [show ((!true && d') || nn1)=nn1 from by simp,e7]
       refine zW ?_;intros
       refine zI (hB.mono hx3) eB (fun ppx hpx=>?_)
       refine zG ?_;refine Xc T Zz Zz Zz hpx ?_
       refine zW ?_;intros
       refine zG ?_;refine Yo (z:=1) T Zz Zz Zz Zz Zz rfl Zi Zi ?_
       refine zG ?_;refine Yt T (k+2) Zz Zz Zz (Yc2 hgb hBk1) (Wz hb1) ?_
       refine zW ?_;intros
       refine zI (hD.mono hx3) eD (fun ppx hpx=>?_)
       refine zG ?_;refine Xc T Zz Zz Zz hpx ?_
       refine zW ?_;intros
       refine zG ?_;refine Yo (z:=1) T Zz Zz Zz Zz Zz rfl Zi Zi ?_
       refine zG ?_;refine Yt T (gB.length+k+2) Zz Zz Zz (Yh7 hlB2 hgd hDk) (Wz hd) ?_
       refine zW ?_;intros
       exact midN ⟨rfl,rfl,rfl⟩ Zw Zb
      | false=>
       cases h2 with
       | false=>
        have e7:st.ds.set j d'=st.ds:=by rw [← hd'];exact X2 hd
        rw [show ((!false && d') || nn1)=nn1 from by rw [← hd'];simp,e7]
        refine zW ?_;intros
        refine zI (hB.mono hx3) eB (fun ppx hpx=>?_)
        refine zG ?_;refine Xc T Zz Zz Zz hpx ?_
        refine zW ?_;intros
        refine zG ?_;refine Yo (z:=1) T Zz Zz Zz Zz Zz rfl Zi Zi ?_
        refine zG ?_;refine Yt T (k+2) Zz Zz Zz (Yc2 hgb hBk1) (Wz hb1) ?_
        refine zW ?_;intros
        refine zI (hD.mono hx3) eD (fun ppx hpx=>?_)
        refine zG ?_;refine Xc T Zz Zz Zz hpx ?_
        refine zW ?_;intros
        refine zG ?_;refine Yo (z:=1) T Zz Zz Zz Zz Zz rfl Zi Zi ?_
        refine zG ?_;refine Yt T (gB.length+k+2) Zz Zz Zz (Yh7 hlB2 hgd hDk) (Wz hd) ?_
        refine zW ?_;intros
        ((refine zG ?_);refine Yn (vs:=[.string s.all.op,.string s.all.name,.slice P5 p5 q5,.slice P6 p6 q6,.slice P7 p7 q7,.slice P8 p8 q8]) T 0 Zz Zz Zz Zz Zz Zz ?_)
        refine zW ?_;intros
        refine zG ?_;refine Wf Zz Zz (fun fz' hle hf=>Ycq _ (Zs _) (hK3.mono hle) hOs (hf (gs,mapS m2) (by simp)) (hS3.mono hle) (hR.all.mono (hle2.trans (hle3.trans hle))) hsh.all (hE0.mono hle) hP) ?_
        rw [hh2]
        refine zW ?_;intros
        exact midN ⟨rfl,rfl,rfl⟩ Zw Zb
       | true=>
        have e8:d'=true:=by rw [← hd'];rfl
        subst e8
        rw [show ((!false && true) || nn1)=true from by simp]
        obtain ⟨pre,post,e1,e2⟩:=Yg4 (b':=st.ds.set j true) hlD2 hgd hDk
        refine zW ?_;intros
        refine zI (hB.mono hx3) eB (fun ppx hpx=>?_)
        refine zG ?_;refine Xc T Zz Zz Zz hpx ?_
        refine zW ?_;intros
        refine zG ?_;refine Yo (z:=1) T Zz Zz Zz Zz Zz rfl Zi Zi ?_
        refine zG ?_;refine Yt T (k+2) Zz Zz Zz (Yc2 hgb hBk1) (Wz hb1) ?_
        refine zW ?_;intros
        refine zI (hD.mono hx3) eD (fun ppx hpx=>?_)
        refine zG ?_;refine Xc T Zz Zz Zz hpx ?_
        refine zW ?_;intros
        refine zG ?_;refine Yo (z:=1) T Zz Zz Zz Zz Zz rfl Zi Zi ?_
        refine zG ?_;refine Yt T (gB.length+k+2) Zz Zz Zz (Yh7 hlB2 hgd hDk) (Wz hd) ?_
        refine zW ?_;intros
        ((refine zG ?_);refine Yn (vs:=[.string s.all.op,.string s.all.name,.slice P5 p5 q5,.slice P6 p6 q6,.slice P7 p7 q7,.slice P8 p8 q8]) T 0 Zz Zz Zz Zz Zz Zz ?_)
        refine zW ?_;intros
        refine zG ?_;refine Wf Zz Zz (fun fz' hle hf=>Ycq _ (Zs _) (hK3.mono hle) hOs (hf (gs,mapS m2) (by simp)) (hS3.mono hle) (hR.all.mono (hle2.trans (hle3.trans hle))) hsh.all (hE0.mono hle) hP) ?_
        rw [hh2]
        refine zW ?_;intros
        refine zI (hD.mono hx3) eD (fun ppx hpx=>?_)
        refine zG ?_;refine Xc T Zz Zz Zz hpx ?_
        refine zW ?_;intros
        refine zG ?_;refine Yo (z:=1) T Zz Zz Zz Zz Zz rfl Zi Zi ?_
        refine YJ (YdI T (pre:=_::_::(rowsO gB (w.B.set k (st.bs.set j true))++pre)) (cs:=st.ds.map Value.bool) Zz Zz Zz (by rw [e1];simp only [List.append_assoc,List.cons_append];rfl) rfl rfl rfl (by rw [List.length_map,Int.toNat_natCast];omega) (H2:=(g5,.cells #[.string s.name,.slice P0 p0 q0,.string s.start.op,.string s.start.name,.slice P1 p1 q1,.slice P2 p2 q2,.slice P3 p3 q3,.slice P4 p4 q4,.string s.all.op,.string s.all.name,.slice P5 p5 q5,.slice P6 p6 q6,.slice P7 p7 q7,.slice P8 p8 q8,.string s.over.op,.string s.over.name,.slice P9 p9 q9,.slice P10 p10 q10,.slice P11 p11 q11,.slice P12 p12 q12,.string s.fin.op,.string s.fin.name,.slice P13 p13 q13,.slice P14 p14 q14,.slice P15 p15 q15,.slice P16 p16 q16,.slice P17 p17 q17,.slice P18 p18 q18,.bool s.count,.slice P19 p19 q19] 111 (0,0))::(gs,mapS m2)::(rowsO gB (w.B.set k (st.bs.set j true))++rowsO gD (w.D.set k (st.ds.set j true)))) (by rw [Yjk,← Yi5 (l:=w.D) (a:=st.ds),e2];simp only [List.append_assoc,List.cons_append];rfl) ?_)
        refine zW ?_;intros
        exact midN ⟨rfl,rfl,rfl⟩ Zw Zb
    ·rintro σ fz4 H' ⟨rfl,rfl,rfl⟩
     generalize hn2:((!d && d') || ((!b && b') || st.n))=nn2
     have hfin:(r2.2 || (r1.2 || ((!d && d') || (!b && b'))) || st.n)=(r2.2 || (r1.2 || nn2)):=by rw [← hn2];simp only [Bool.or_assoc]
     rw [hfin] at hrn
     have hDk1:(w.D.set k (st.ds.set j d'))[k]?=some (st.ds.set j d'):=List.getElem?_set_self hkD
     have hd1:(st.ds.set j d')[j]?=some d':=List.getElem?_set_self Zi
     refine Yp (Wp.mid (fun σ fz' H'=>∃ m,σ=[(8,.map (some ge)),(6,.int .i64 j),(22,.int .i64 j),(21,.int .i64 p19),(20,.slice P19 p19 q19),(14,.int .i64 k),(13,.int .i64 n),(12,.slice As n cS),(5,.pointer (some ⟨g5,0,none⟩)),(4,.int .i64 k),(3,.bool (r1.2 || nn2)),(0,.pointer (some ⟨gr,0,none⟩))]∧Le fz3 fz'∧H'=(g5,.cells #[.string s.name,.slice P0 p0 q0,.string s.start.op,.string s.start.name,.slice P1 p1 q1,.slice P2 p2 q2,.slice P3 p3 q3,.slice P4 p4 q4,.string s.all.op,.string s.all.name,.slice P5 p5 q5,.slice P6 p6 q6,.slice P7 p7 q7,.slice P8 p8 q8,.string s.over.op,.string s.over.name,.slice P9 p9 q9,.slice P10 p10 q10,.slice P11 p11 q11,.slice P12 p12 q12,.string s.fin.op,.string s.fin.name,.slice P13 p13 q13,.slice P14 p14 q14,.slice P15 p15 q15,.slice P16 p16 q16,.slice P17 p17 q17,.slice P18 p18 q18,.bool s.count,.slice P19 p19 q19] 111 (0,0))::(gs,mapS m)::(rowsO gB (w.B.set k (st.bs.set j b'))++rowsO gD (w.D.set k (st.ds.set j d')))∧SetM fz' m r1.1) ?_ ?_)
     ·cases b' with
      | false=>
       have e9:r1=(st.S,false):=by rw [← hr1];rfl
       subst e9
       simp only [Bool.false_or]
       refine zW ?_;intros
       refine zI (hB.mono hx3) eB (fun ppx hpx=>?_)
       refine zG ?_;refine Xc T Zz Zz Zz hpx ?_
       refine zW ?_;intros
       refine zG ?_;refine Yo (z:=1) T Zz Zz Zz Zz Zz rfl Zi Zi ?_
       refine zG ?_;refine Yt T (k+2) Zz Zz Zz (Yc2 hgb hBk1) (Wz hb1) ?_
       refine zW ?_;intros
       exact midN ⟨m2,rfl,Le.refl _,rfl,hS3⟩ Zw Zb
      | true=>
       have e9:r1=YaS K s.early (envA s a) st.S:=by rw [← hr1];rfl
       refine zW ?_;intros
       refine zI (hB.mono hx3) eB (fun ppx hpx=>?_)
       refine zG ?_;refine Xc T Zz Zz Zz hpx ?_
       refine zW ?_;intros
       refine zG ?_;refine Yo (z:=1) T Zz Zz Zz Zz Zz rfl Zi Zi ?_
       refine zG ?_;refine Yt T (k+2) Zz Zz Zz (Yc2 hgb hBk1) (Wz hb1) ?_
       refine zW ?_;intros
       refine Yb Zz (Does.perm (H':=(gs,mapS m2)::_::(rowsO gB (w.B.set k (st.bs.set j true))++rowsO gD (w.D.set k (st.ds.set j d')))) (List.Perm.swap _ _ _) (Does.after (Yl [_] (_::(rowsO gB (w.B.set k (st.bs.set j true))++rowsO gD (w.D.set k (st.ds.set j d')))) Zz Zz Zz (adds_f (hx3 _ _ hr) (hK.mono hx3) hOs hS3 (ie.mono (hle2.trans hle3)) hsh.early (hE0.mono (Le.refl _)) hP) (fun v6 fz6 H6 hle6 hR6=>?_))))
       obtain ⟨rfl,m6,rfl,hS6⟩:=hR6
       refine ⟨(g5,.cells #[.string s.name,.slice P0 p0 q0,.string s.start.op,.string s.start.name,.slice P1 p1 q1,.slice P2 p2 q2,.slice P3 p3 q3,.slice P4 p4 q4,.string s.all.op,.string s.all.name,.slice P5 p5 q5,.slice P6 p6 q6,.slice P7 p7 q7,.slice P8 p8 q8,.string s.over.op,.string s.over.name,.slice P9 p9 q9,.slice P10 p10 q10,.slice P11 p11 q11,.slice P12 p12 q12,.string s.fin.op,.string s.fin.name,.slice P13 p13 q13,.slice P14 p14 q14,.slice P15 p15 q15,.slice P16 p16 q16,.slice P17 p17 q17,.slice P18 p18 q18,.bool s.count,.slice P19 p19 q19] 111 (0,0))::(gs,mapS m6)::(rowsO gB (w.B.set k (st.bs.set j true))++rowsO gD (w.D.set k (st.ds.set j d'))),List.Perm.swap _ _ _,?_⟩
       rw [← e9] at hS6
       rw [← e9]
       generalize hr12:r1.2=bb
       cases bb with
       | true=>
        refine zW ?_;intros
        exact midN ⟨m6,rfl,hle6,rfl,hS6⟩ Zw Zb
       | false=>
        simp only [Bool.false_or]
        refine zW ?_;intros
        exact midN ⟨m6,rfl,hle6,rfl,hS6⟩ Zw Zb
     ·rintro σ fz4 H' ⟨m4,rfl,hle4,rfl,hS4⟩
      have hx4:=hx3.trans hle4
      have hr4:=hx4 _ _ hr
      generalize hn3:(r1.2 || nn2)=nn3 at hrn
      cases d' with
      | false=>
       have e9:r2=(r1.1,false):=by rw [← hr2'];rfl
       subst e9
       simp only [Bool.false_or] at hrn
       refine zW ?_;intros
       refine zI (hD.mono hx4) eD (fun ppx hpx=>?_)
       refine zG ?_;refine Xc T Zz Zz Zz hpx ?_
       refine zW ?_;intros
       refine zG ?_;refine Yo (z:=1) T Zz Zz Zz Zz Zz rfl Zi Zi ?_
       refine zG ?_;refine Yt T (gB.length+k+2) Zz Zz Zz (Yh7 hlB2 hgd hDk1) (Wz hd1) ?_
       refine zW ?_;intros
       exact YA ⟨j+1,m4,by omega,rfl,by rw [hrn],hle2.trans (hle3.trans hle4),by rw [hrn],by rw [hrn];exact hS4⟩ Zi Zw Zb
      | true=>
       have e9:r2=YaS K s.late (envA s a) r1.1:=by rw [← hr2'];rfl
       refine zW ?_;intros
       refine zI (hD.mono hx4) eD (fun ppx hpx=>?_)
       refine zG ?_;refine Xc T Zz Zz Zz hpx ?_
       refine zW ?_;intros
       refine zG ?_;refine Yo (z:=1) T Zz Zz Zz Zz Zz rfl Zi Zi ?_
       refine zG ?_;refine Yt T (gB.length+k+2) Zz Zz Zz (Yh7 hlB2 hgd hDk1) (Wz hd1) ?_
       refine zW ?_;intros
       refine Yb Zz (Does.perm (H':=(gs,mapS m4)::_::(rowsO gB (w.B.set k (st.bs.set j b'))++rowsO gD (w.D.set k (st.ds.set j true)))) (List.Perm.swap _ _ _) (Does.after (Yl [_] (_::(rowsO gB (w.B.set k (st.bs.set j b'))++rowsO gD (w.D.set k (st.ds.set j true)))) Zz Zz Zz (adds_f (hx4 _ _ hr) (hK.mono hx4) hOs hS4 (il.mono (hle2.trans (hle3.trans hle4))) hsh.late (hE0.mono hle4) hP) (fun v6 fz6 H6 hle6 hR6=>?_))))
       obtain ⟨rfl,m6,rfl,hS6⟩:=hR6
       refine ⟨(g5,.cells #[.string s.name,.slice P0 p0 q0,.string s.start.op,.string s.start.name,.slice P1 p1 q1,.slice P2 p2 q2,.slice P3 p3 q3,.slice P4 p4 q4,.string s.all.op,.string s.all.name,.slice P5 p5 q5,.slice P6 p6 q6,.slice P7 p7 q7,.slice P8 p8 q8,.string s.over.op,.string s.over.name,.slice P9 p9 q9,.slice P10 p10 q10,.slice P11 p11 q11,.slice P12 p12 q12,.string s.fin.op,.string s.fin.name,.slice P13 p13 q13,.slice P14 p14 q14,.slice P15 p15 q15,.slice P16 p16 q16,.slice P17 p17 q17,.slice P18 p18 q18,.bool s.count,.slice P19 p19 q19] 111 (0,0))::(gs,mapS m6)::(rowsO gB (w.B.set k (st.bs.set j b'))++rowsO gD (w.D.set k (st.ds.set j true))),List.Perm.swap _ _ _,?_⟩
       rw [← e9] at hS6
       rw [← e9]
       generalize hr22:r2.2=bb at hrn
       cases bb with
       | true=>
        simp only [Bool.true_or] at hrn
        refine zW ?_;intros
        exact YA ⟨j+1,m6,by omega,rfl,by rw [hrn],hle2.trans (hle3.trans (hle4.trans hle6)),by rw [hrn],by rw [hrn];exact hS6⟩ Zi Zw Zb
       | false=>
        simp only [Bool.false_or] at hrn
        refine zW ?_;intros
        exact YA ⟨j+1,m6,by omega,rfl,by rw [hrn],hle2.trans (hle3.trans (hle4.trans hle6)),by rw [hrn],by rw [hrn];exact hS6⟩ Zi Zw Zb
  ·have hj2:j=p19:=by omega
   have hfull:rowN K s s.arguments.length st0=st:=by rw [show s.arguments.length=j by omega];exact hst
   rw [hfull] at hnx
   refine zW ?_;intros
   exact YA ⟨k+1,m2,by omega,rfl,by rw [hnx],hle1.trans hle2,by rw [hnx],by rw [hnx];exact hS2⟩ Zi Zw Zb
 ·have hk2:k=n:=by omega
  have hfull:Xy K l S B D=w:=by rw [hM,show l.length=k by omega];exact hw
  refine zW ?_;intros
  exact ret1 rfl rfl Zb ⟨by rw [hfull],m1,by rw [hfull],by rw [hfull];exact hS1⟩
end Go.Proofs.YtbnpeechpebmeaaGreatDoor
