/- The texts PCD, PCG, PCH, PCI, PWt, PCJ, PCK, PCM, PCF, laid together. Conditions: none. -/
import Derived.Test.YtdbfccanbbbjkaaGreatDoorSAH
set_option linter.all false
set_option maxHeartbeats 8000000
noncomputable section
set_option maxRecDepth 20000
open Go.Lx Go.RowKit
attribute [local instance 10] Classical.propDecidable
open Go.Proofs.Tryz (prog)
namespace Go.Proofs.YtdbfccanbbbjkaaGreatDoor
variable {all:List Param} {d:Domain} {fz:FZ} {v vp:Value}
def XW:Bs:=⟨#[112,114,101,100,105,99,97,116,101,32]⟩
def Xx:Bs:=⟨#[102,117,110,99,116,105,111,110,32]⟩
def Ycl:Bs:=⟨#[111,98,106,101,99,116,32]⟩
def Wr:Bs:=⟨#[97,99,116,105,111,110,32]⟩
def Xy:Bs:=⟨#[100,117,114,97,116,105,118,101,32]⟩
def Y5 {α:Type} (E:α->Int):List (Bs × α)->Bs × Int
 | []=>(⟨#[]⟩,0)
 | p::r=>if E p.2=0 then Y5 E r else (p.1,E p.2)
theorem YZ {α β:Type} {E:β->Int} {f:α->Bs} {g:α->β} {r:List (Bs × β)}:∀ {l:List α},(∀ x∈l,E (g x)=0)->Y5 E (l.map (fun x=>(f x,g x))++r)=Y5 E r
 | [],_=>rfl
 | x::l,h=>by
  rw [List.map_cons,List.cons_append,Y5,if_pos (h x (by simp))];exact YZ (fun y hy=>h y (by simp [hy]))
theorem Wy {α β:Type} {E:β->Int} {f:α->Bs} {g:α->β} {r:List (Bs × β)}:∀ {l:List α} {k:Nat} {x:α},l[k]?=some x->(∀ i,i<k->∀ y,l[i]?=some y->E (g y)=0)->E (g x)≠0->Y5 E (l.map (fun x=>(f x,g x))++r)=(f x,E (g x))
 | [],k,x,h,_,_=>by simp at h
 | y::l,0,x,h,_,hx=>by
  simp at h;subst h;rw [List.map_cons,List.cons_append,Y5,if_neg hx]
 | y::l,k+1,x,h,hh,hx=>by
  rw [List.map_cons,List.cons_append,Y5,if_pos (hh 0 Zi y rfl)];exact Wy (k:=k) (by simpa using h) (fun i hi z hz=>hh (i+1) Zi z (by simpa using hz)) hx
def resV (a:Bs × Int):Value:=.tuple #[Zy a.1,errV a.2]
structure NmS (d:Domain) (all:List Param):Prop where
 p:∀ x∈d.predicates,x.name.size<=1000
 f:∀ x∈d.functions,x.name.size<=1000
 o:∀ x∈all,x.name.size<=1000
 a:∀ x∈d.actions,x.name.size<=1000
 u:∀ x∈d.duratives,x.name.size<=1000
def YbG (d:Domain) (all:List Param):List (Bs × List Param):=
 d.predicates.map (fun x=>(XW++x.name,x.params))++(d.functions.map (fun x=>(Xx++x.name,x.params))++(all.map (fun x=>(Ycl++x.name,[x]))++(d.actions.map (fun x=>(Wr++x.name,x.params))++(d.duratives.map (fun x=>(Xy++x.name,x.params))++ []))))
/-- lists, without the objects (ob false) or with them: fv is the check -/
theorem YoY {p:Problem} {vf vg vo:Value} {ob:Bool} {f:FuncId} {first capt:List Value} {E:List Param->Int} (h:CkR fz v d p all vf vp vg vo) (hs:NmS d all)
 (hE:∀ {A:Option Addr} {n c:Nat} {l:List Param} {fz':FZ},Le fz fz'->Sl paramL fz' A n c l->QFn prog f (first++ [Zc A n c]++capt) fz' (errV (E l))):
 QFn prog 119 [v,.func (.func f) first.toArray capt.toArray,Zo ob] fz (resV (Y5 E (YbG d (if ob=true then all else [])))):=by
 obtain ⟨gc,v1,v2,v3,v4,v5,v6,u1,u2,u3,u4,u5,u6,u7,Aa,na,ca,rfl,hc,hD,hP,hall⟩:=h;obtain ⟨⟨A1,n1,b1,rfl,i1⟩,⟨A2,n2,b2,rfl,i2⟩,⟨A3,n3,b3,rfl,i3⟩,⟨A4,n4,b4,rfl,i4⟩,⟨A5,n5,b5,rfl,i5⟩,⟨A6,n6,b6,rfl,i6⟩⟩:=hD.sls;have l3:=i3.len;have l4:=i4.len;have l5:=i5.len;have l6:=i6.len;have la:=hall.len;have s3:=i3.short;have s4:=i4.short;have s5:=i5.short;have s6:=i6.short;have sa:=hall.short;refine qF Tryz.func119 Tryz.ntmps119 (fun w0=>?_);refine zV ?_;refine Wn n3 (fun k=>[(29,Zk k),(28,Zk n3),(27,Zc A3 n3 b3),(0,Zp gc),(1,.func (.func f) first.toArray capt.toArray),(2,Zo ob)]) [] (fun k=>(∀ i,i<k->∀ x,d.predicates[i]?=some x->E x.params=0)) (fun i hi=>absurd hi Zi) ?_;intro k hk hh;refine zV ?_;refine zC ?_ ?_<;>intro c1
 ·obtain ⟨x,hx⟩:=Ye (l:=d.predicates) (k:=k) Zi;have hxs:=hs.p x (Zm hx);refine zV ?_;refine zI i3 hx (fun p1 hp=>?_);refine zL hp ?_;intro cs hcs;obtain ⟨w1,rfl,hR⟩:=Wu hcs;obtain ⟨Ap,np,cp,rfl,ip⟩:=hR.params;refine zV ?_;intros;refine zG ?_;refine Ybn (hE Zd ip) ?_;by_cases hz:E x.params=0
  ·rw [hz,show errV 0=.nilIface from rfl];refine zV ?_;exact Ww ⟨k+1,by omega,rfl,rfl,rfl,rfl,YF hh hx hz⟩ Zi Zw Zb
  rw [YA hz];refine zV ?_;refine zG ?_;refine XU Zz Zz (by show _+_<=_;exact Nat.le_trans (Nat.add_le_add_left hxs _) Zh) ?_;refine zV ?_;exact ret2 rfl rfl rfl Zb (by rw [YbG,Wy (l:=d.predicates) (E:=E) (f:=fun x=>XW++x.name) (g:=fun x=>x.params) hx hh hz];rw [resV,YA hz];rfl)
 have hzp:=fun x (hx:x∈d.predicates)=>(by obtain ⟨i,hi⟩:=List.getElem?_of_mem hx;exact Y6 hh Zi x hx:E x.params=0)
 refine zV ?_;refine Wn n4 (fun k=>[(50,Zk k),(49,Zk n4),(48,Zc A4 n4 b4),(0,Zp gc),(1,.func (.func f) first.toArray capt.toArray),(2,Zo ob)]) [] (fun k=>(∀ i,i<k->∀ x,d.functions[i]?=some x->E x.params=0)) (fun i hi=>absurd hi Zi) ?_;intro k hk hh;refine zV ?_;refine zC ?_ ?_<;>intro c1
 ·obtain ⟨x,hx⟩:=Ye (l:=d.functions) (k:=k) Zi;have hxs:=hs.f x (Zm hx);refine zV ?_;refine zI i4 hx (fun p1 hp=>?_);refine zL hp ?_;intro cs hcs;obtain ⟨w1,rfl,hR⟩:=Xp hcs;obtain ⟨Ap,np,cp,rfl,ip⟩:=hR.params;refine zV ?_;intros;refine zG ?_;refine Ybn (hE Zd ip) ?_;by_cases hz:E x.params=0
  ·rw [hz,show errV 0=.nilIface from rfl];refine zV ?_;exact Ww ⟨k+1,by omega,rfl,rfl,rfl,rfl,YF hh hx hz⟩ Zi Zw Zb
  rw [YA hz];refine zV ?_;refine zG ?_;refine XU Zz Zz (by show _+_<=_;exact Nat.le_trans (Nat.add_le_add_left hxs _) Zh) ?_;refine zV ?_;exact ret2 rfl rfl rfl Zb (by rw [YbG,YZ (l:=d.predicates) (E:=E) (f:=fun x=>XW++x.name) (g:=fun x=>x.params) hzp,Wy (l:=d.functions) (E:=E) (f:=fun x=>Xx++x.name) (g:=fun x=>x.params) hx hh hz];rw [resV,YA hz];rfl)
 have hzf:=fun x (hx:x∈d.functions)=>(by obtain ⟨i,hi⟩:=List.getElem?_of_mem hx;exact Y6 hh Zi x hx:E x.params=0)
 refine zVX ?_;refine YL ?_;refine zVX ?_;refine YL (Y8 (fun σ fz' H'=>σ=[(0,Zp gc),(1,.func (.func f) first.toArray capt.toArray)]/\fz=fz'/\H'=[]/\(∀ r,Y5 E ((if ob=true then all else []).map (fun x=>(Ycl++x.name,[x]))++r)=Y5 E r)) ?_ ?_)
 ·refine zV ?_;refine Yl (fun q σ fz' H'=>∃ k:Nat,k<=na/\q=na - k/\σ=[(70,Zk k),(69,Zk na),(68,Zc Aa na ca),(0,Zp gc),(1,.func (.func f) first.toArray capt.toArray),(2,Zo ob)]/\fz=fz'/\H'=[]/\(∀ i,i<k->∀ x,all[i]?=some x->E [x]=0)/\(ob=false->k=0)) ⟨0,Z0 _,rfl,rfl,rfl,rfl,fun i hi=>absurd hi Zi,fun _=>rfl⟩ Zw Zb ?_;rintro q σ fz' H' ⟨k,hk,rfl,rfl,rfl,rfl,hh,hob⟩;refine zV ?_;refine zC ?_ ?_<;>intro c1
  ·obtain ⟨x,hx⟩:=Ye (l:=all) (k:=k) Zi;have hxs:=hs.o x (Zm hx);refine zV ?_;refine zI hall hx (fun p1 hp=>?_);refine zL hp ?_;intro cs hcs;obtain ⟨rfl,hR⟩:=YK hcs;cases ob with
   | false=>
    refine zV ?_;intros;exact midN ⟨rfl,rfl,rfl,fun r=>rfl⟩ Zw Zb
   | true=>
    refine zV ?_;intros;refine Yc (Yb (cs:=[Zy x.name,Zy x.typ]) (fun gb=>?_));refine zG ?_;refine q_callvU Zz Zz Zz (fun fz' hl hf=>hE hl (Xz (l:=[x]) (ys:=[(x,[Zy x.name,Zy x.typ])]) (hf _ (.head _)) rfl rfl (by simpa using Ygd (hR.mono hl)) rfl (by simp))) ?_;by_cases hz:E [x]=0
    ·rw [hz,show errV 0=.nilIface from rfl];refine zV ?_;exact Ww ⟨k+1,by omega,rfl,rfl,rfl,rfl,YF hh hx hz,fun h0=>by cases h0⟩ Zi Zw Zb
    rw [YA hz];refine zV ?_;refine zG ?_;refine XU Zz Zz (by show _+_<=_;exact Nat.le_trans (Nat.add_le_add_left hxs _) Zh) ?_;refine zV ?_;exact ret2 rfl rfl rfl Zb (by rw [YbG,YZ (l:=d.predicates) (E:=E) (f:=fun x=>XW++x.name) (g:=fun x=>x.params) hzp,YZ (l:=d.functions) (E:=E) (f:=fun x=>Xx++x.name) (g:=fun x=>x.params) hzf,if_pos rfl,Wy (l:=all) (E:=E) (f:=fun x=>Ycl++x.name) (g:=fun x=>[x]) hx hh hz];rw [resV,YA hz];rfl)
  have hzo:∀ x∈all,E [x]=0\/ob=false:=fun x hx=>by
   cases ob with
   | false=>exact .inr rfl
   | true=>obtain ⟨i,hi⟩:=List.getElem?_of_mem hx;exact .inl (Y6 (p:=fun x=>E [x]=0) hh Zi x hx)
  refine zV ?_;exact midN ⟨rfl,rfl,rfl,fun r=>by
   cases ob with
   | false=>rfl
   | true=>exact YZ (l:=all) (E:=E) (f:=fun x=>Ycl++x.name) (g:=fun x=>[x]) (fun x hx=>(hzo x hx).elim (fun h=>h) (fun h=>by cases h))⟩ Zw Zb
 rintro σ fz' H' ⟨rfl,rfl,rfl,hzo⟩;refine zV ?_;refine Wn n5 (fun k=>[(93,Zk k),(92,Zk n5),(91,Zc A5 n5 b5),(0,Zp gc),(1,.func (.func f) first.toArray capt.toArray)]) [] (fun k=>(∀ i,i<k->∀ x,d.actions[i]?=some x->E x.params=0)) (fun i hi=>absurd hi Zi) ?_;intro k hk hh;refine zV ?_;refine zC ?_ ?_<;>intro c1
 ·obtain ⟨x,hx⟩:=Ye (l:=d.actions) (k:=k) Zi;have hxs:=hs.a x (Zm hx);refine zV ?_;refine zI i5 hx (fun p1 hp=>?_);refine zL hp ?_;intro cs hcs;obtain ⟨w1,w2,w3,w4,w5,w6,rfl,hR⟩:=Xg hcs;obtain ⟨Ap,np,cp,rfl,ip⟩:=hR.params;obtain ⟨⟨B0,e0,j0,rfl,_⟩,⟨B1,e1,j1,rfl,_⟩,⟨B2,e2,j2,rfl,_⟩,⟨B3,e3,j3,rfl,_⟩⟩:=hR.pre.sls;obtain ⟨B4,e4,j4,rfl,_⟩:=hR.changes;refine zV ?_;intros;refine zG ?_;refine Ybn (hE Zd ip) ?_;by_cases hz:E x.params=0
  ·rw [hz,show errV 0=.nilIface from rfl];refine zV ?_;exact Ww ⟨k+1,by omega,rfl,rfl,rfl,rfl,YF hh hx hz⟩ Zi Zw Zb
  rw [YA hz];refine zV ?_;refine zG ?_;refine XU Zz Zz (by show _+_<=_;exact Nat.le_trans (Nat.add_le_add_left hxs _) Zh) ?_;refine zV ?_;exact ret2 rfl rfl rfl Zb (by rw [YbG,YZ (l:=d.predicates) (E:=E) (f:=fun x=>XW++x.name) (g:=fun x=>x.params) hzp,YZ (l:=d.functions) (E:=E) (f:=fun x=>Xx++x.name) (g:=fun x=>x.params) hzf,hzo,Wy (l:=d.actions) (E:=E) (f:=fun x=>Wr++x.name) (g:=fun x=>x.params) hx hh hz];rw [resV,YA hz];rfl)
 have hza:=fun x (hx:x∈d.actions)=>(by obtain ⟨i,hi⟩:=List.getElem?_of_mem hx;exact Y6 hh Zi x hx:E x.params=0)
 refine zV ?_;refine Wn n6 (fun k=>[(114,Zk k),(113,Zk n6),(112,Zc A6 n6 b6),(1,.func (.func f) first.toArray capt.toArray)]) [] (fun k=>(∀ i,i<k->∀ x,d.duratives[i]?=some x->E x.params=0)) (fun i hi=>absurd hi Zi) ?_;intro k hk hh;refine zV ?_;refine zC ?_ ?_<;>intro c1
 ·obtain ⟨x,hx⟩:=Ye (l:=d.duratives) (k:=k) Zi;have hxs:=hs.u x (Zm hx);refine zV ?_;refine zI i6 hx (fun p1 hp=>?_);refine zL hp ?_;intro cs hcs;obtain ⟨w0,w1,w2,w3,w4,w5,w6,w7,w8,w9,w10,w11,w12,w13,w14,rfl,hR⟩:=XG hcs;obtain ⟨Ap,np,cp,rfl,ip⟩:=hR.params;obtain ⟨⟨B0,e0,j0,rfl,_⟩,⟨B1,e1,j1,rfl,_⟩,⟨B2,e2,j2,rfl,_⟩,⟨B3,e3,j3,rfl,_⟩⟩:=hR.start.sls;obtain ⟨⟨B4,e4,j4,rfl,_⟩,⟨B5,e5,j5,rfl,_⟩,⟨B6,e6,j6,rfl,_⟩,⟨B7,e7,j7,rfl,_⟩⟩:=hR.over.sls;obtain ⟨⟨B8,e8,j8,rfl,_⟩,⟨B9,e9,j9,rfl,_⟩,⟨B10,e10,j10,rfl,_⟩,⟨B11,e11,j11,rfl,_⟩⟩:=hR.fin.sls;obtain ⟨B12,e12,j12,rfl,_⟩:=hR.atStart;obtain ⟨B13,e13,j13,rfl,_⟩:=hR.atEnd;refine zV ?_;intros;refine zG ?_;refine Ybn (hE Zd ip) ?_;by_cases hz:E x.params=0
  ·rw [hz,show errV 0=.nilIface from rfl];refine zV ?_;exact Ww ⟨k+1,by omega,rfl,rfl,rfl,rfl,YF hh hx hz⟩ Zi Zw Zb
  rw [YA hz];refine zV ?_;refine zG ?_;refine XU Zz Zz (by show _+_<=_;exact Nat.le_trans (Nat.add_le_add_left hxs _) Zh) ?_;refine zV ?_;exact ret2 rfl rfl rfl Zb (by rw [YbG,YZ (l:=d.predicates) (E:=E) (f:=fun x=>XW++x.name) (g:=fun x=>x.params) hzp,YZ (l:=d.functions) (E:=E) (f:=fun x=>Xx++x.name) (g:=fun x=>x.params) hzf,hzo,YZ (l:=d.actions) (E:=E) (f:=fun x=>Wr++x.name) (g:=fun x=>x.params) hza,Wy (l:=d.duratives) (E:=E) (f:=fun x=>Xy++x.name) (g:=fun x=>x.params) hx hh hz];rw [resV,YA hz];rfl)
 have hzu:=fun x (hx:x∈d.duratives)=>(by obtain ⟨i,hi⟩:=List.getElem?_of_mem hx;exact Y6 hh Zi x hx:E x.params=0)
 refine zV ?_;exact ret2 rfl rfl rfl Zb (by rw [YbG,YZ (l:=d.predicates) (E:=E) (f:=fun x=>XW++x.name) (g:=fun x=>x.params) hzp,YZ (l:=d.functions) (E:=E) (f:=fun x=>Xx++x.name) (g:=fun x=>x.params) hzf,hzo,YZ (l:=d.actions) (E:=E) (f:=fun x=>Wr++x.name) (g:=fun x=>x.params) hza,YZ (l:=d.duratives) (E:=E) (f:=fun x=>Xy++x.name) (g:=fun x=>x.params) hzu];rfl)
end Go.Proofs.YtdbfccanbbbjkaaGreatDoor
namespace Go.Lx
variable {α:Type} {A:Option Addr} {c n:Nat} {fz:FZ} {L:Lay α} {l:List α}
theorem Sl.reps (h:Sl L fz A n c l) {x:α} (hx:x∈l):∃ cs,L.rep fz x cs:=by
 obtain ⟨i,hi⟩:=List.getElem?_of_mem hx;have h1:=(Zg hi).1;have h2:=h.len;rcases h.elem with h0 | ⟨ad,_,h3⟩
 ·omega
 obtain ⟨cs,h4,_⟩:=h3 i x hi;exact ⟨cs,h4⟩
end Go.Lx
namespace Go.Proofs.YtdbfccanbbbjkaaGreatDoor
variable {A B:Option Addr} {c n:Nat} {fz fz':FZ} {s:Bs} {all vars:List Param} {d:Domain} {v vp va vk:Value}
theorem YaW {l:List Param} (h:Sl paramL fz A n c l):∀ p∈l,Short p.name/\Short p.typ:=fun p hp=>by
 obtain ⟨cs,hr⟩:=h.reps hp;obtain ⟨_,hR⟩:=YK hr;exact ⟨hR.name,hR.typ⟩
def kQm:Bs:=⟨#[63]⟩
theorem YjC {p:Bs} (hs:Short s) (hp:Short p):QFn prog 267 [Zy s,Zy p] fz (Zo (decide (PreP s p))):=by
 refine qF Tryz.func267 Tryz.ntmps267 (fun w0=>?_);refine vc (YgH hs hp) ?_;exact vR (h:=rfl)
def Yhd:List Param->Bs->Option Bs
 | [],_=>none
 | p::r,t=>match Yhd r t with
  | some u=>some u
  | none=>if p.name=t then some p.typ else none
theorem YeR:∀ {l:List Param} {t:Bs},(∀ p∈l,p.name≠t)->Yhd l t=none
 | [],_,_=>rfl
 | p::r,t,h=>by rw [Yhd,YeR (fun q hq=>h q (by simp [hq]))];exact if_neg (h p (by simp))
theorem Ymp:∀ {l:List Param} {j:Nat} {x:Param} {t:Bs},l[j]?=some x->x.name=t->(∀ i,j<i->∀ y,l[i]?=some y->y.name≠t)->Yhd l t=some x.typ
 | [],j,x,t,h,_,_=>by simp at h
 | p::r,0,x,t,h,hx,hh=>by
  simp at h;subst h;rw [Yhd,YeR (fun q hq=>by obtain ⟨i,hi⟩:=List.getElem?_of_mem hq;exact hh (i+1) Zi q (by simpa using hi))];exact if_pos hx
 | p::r,j+1,x,t,h,hx,hh=>by
  rw [Yhd,Ymp (l:=r) (j:=j) (by simpa using h) hx (fun i hi y hy=>hh (i+1) Zi y (by simpa using hy))]
theorem Yj5:∀ {l:List Param} {t u:Bs},Yhd l t=some u->∃ p∈l,p.typ=u
 | [],_,_,h=>by cases h
 | p::r,t,u,h=>by
  rw [Yhd] at h;cases hr:Yhd r t with
  | some w=>
   rw [hr] at h;injection h with h
   subst h;obtain ⟨q,hq,e⟩:=Yj5 hr;exact ⟨q,by simp [hq],e⟩
  | none=>
   rw [hr] at h;split at h
   ·rename_i h0;cases h0
   split at h
   ·injection h with h;exact ⟨p,by simp,h⟩
   cases h
theorem Yoa:∀ {l:List Param} {t u:Bs},tyF l t=some u->∃ p∈l,p.typ=u
 | [],_,_,h=>by cases h
 | p::r,t,u,h=>by
  rw [tyF] at h;split at h
  ·injection h with h;exact ⟨p,by simp,h⟩
  obtain ⟨q,hq,e⟩:=Yoa h;exact ⟨q,by simp [hq],e⟩
def Yec (all vars:List Param) (t:Bs):Option Bs:=if PreP t kQm then Yhd vars t else tyF all t
def ObjR (fz:FZ) (vo:Value) (all:List Param):Prop:=∃ g m,vo=.map (some g)/\fz g=some (mapS m)/\∀ x,valS m x=(tyF all x).map Value.string
theorem ObjR.mono {vo:Value} (h:ObjR fz vo all) (hle:Le fz fz'):ObjR fz' vo all:=by
 obtain ⟨g,m,h1,h2,h3⟩:=h;exact ⟨g,m,h1,hle _ _ h2,h3⟩
def Ypy (o:Option Bs):Value:=.tuple #[Zy (o.getD ⟨#[]⟩),errV (if o.isSome=true then 0 else 8)]
theorem find_q {p:Problem} {vf vg vo:Value} {t:Bs} (h:CkR fz v d p all vf vp vg vo) (ho:ObjR fz vo all) (h1:Sl paramL fz A n c vars) (ht:Short t):
 QFn prog 238 [v,Zc A n c,Zy t] fz (Ypy (Yec all vars t)):=by
 obtain ⟨gc,v1,v2,v3,v4,v5,v6,u1,u2,u3,u4,u5,u6,u7,Aa,na,ca,rfl,hc,hD,hP,hall⟩:=h;obtain ⟨go,mo,rfl,hgo,hmo⟩:=ho;have l1:=h1.len;have s1:=h1.short;refine qF Tryz.func238 Tryz.ntmps238 (fun w0=>?_);refine vG ?_;refine XL (YjC (p:=kQm) ht (by unfold Short kQm;decide)) (fun f1=>?_) (fun f1=>?_)
 ·have hp:=Zt f1;refine zV ?_;refine Yl (fun q σ fz' H'=>∃ (k:Nat) (z:Int),k<=n/\q=n - k/\z=(n:Int) - 1 - k/\σ=[(10,Zk z),(1,Zc A n c),(2,Zy t)]/\fz=fz'/\H'=[]/\(∀ i,n - 1 - k<i->i<n->∀ x,vars[i]?=some x->x.name≠t)/\(k=n->∀ x∈vars,x.name≠t)) ⟨0,(n:Int) - 1,Z0 _,rfl,by omega,rfl,rfl,rfl,fun i hi h2=>absurd hi Zi,fun h0 x hx=>by rw [List.eq_nil_of_length_eq_zero (l:=vars) Zi] at hx;cases hx⟩ Zw Zb ?_;rintro q σ fz' H' ⟨k,z,hk,rfl,hzk,rfl,rfl,rfl,hh,hz⟩;refine vC ?_ ?_<;>intro c1
  ·obtain ⟨x,hx⟩:=Ye (l:=vars) (k:=n - 1 - k) Zi;refine vI h1 hx (fun p1 hp1=>?_);refine vH hp1.Param_name (fun hn1=>?_);refine vC ?_ ?_<;>intro c2
   ·have e1:Yec all vars t=some x.typ:=by
     rw [Yec,if_pos hp];exact Ymp hx c2 (fun i hi y hy=>hh i hi (by have:=(Zg hy).1;omega) y hy)
    refine vI h1 hx (fun p2 hp2=>?_);refine vH hp2.Param_typ (fun hn2=>?_);exact vS (h:=by rw [e1];rfl)
   refine zV ?_;exact Ww ⟨k+1,z - 1,by omega,rfl,by omega,rfl,rfl,rfl,fun i hi h2 y hy=>by
    by_cases he:i=n - 1 - k
    ·subst he;rw [hx] at hy;injection hy with hy;subst hy;exact c2
    ·exact hh i Zi h2 y hy,fun h0 y hy=>by
    obtain ⟨i,hi⟩:=List.getElem?_of_mem hy;have hin:=(Zg hi).1;by_cases he:i=n - 1 - k
    ·subst he;rw [hx] at hi;injection hi with hi;subst hi;exact c2
    exact hh i Zi Zi y hi⟩ Zi Zw Zb
  have e1:Yec all vars t=none:=by
   rw [Yec,if_pos hp];exact YeR (hz Zi)
  exact vS (h:=by rw [e1];rfl)
 have hp:=Zf f1;have e0:Yec all vars t=tyF all t:=if_neg hp;refine vG ?_;refine YV (v:=Zy ((tyF all t).getD ⟨#[]⟩)) (b:=(tyF all t).isSome) hgo ?_ (hv:=by rw [Yhk,hmo];cases tyF all t<;>rfl) (hb:=by rw [YeT,hmo];cases tyF all t<;>rfl);cases hr:tyF all t with
 | some u=>
  exact vS (h:=by exact (by rw [e0,hr];rfl))
 | none=>
  exact vS (h:=by exact (by rw [e0,hr];rfl))
def fstP (l:List Predicate) (x:Bs):Option Predicate:=l.find? fun p=>decide (p.name=x)
def fstF (l:List Function) (x:Bs):Option Function:=l.find? fun p=>decide (p.name=x)
def PrdR (fz:FZ) (vp:Value) (l:List Predicate):Prop:=∃ g m,vp=.map (some g)/\fz g=some (mapS m)/\∀ x,(fstP l x=none->valS m x=none)/\∀ p,fstP l x=some p->∃ A n c,valS m x=some (Zc A n c)/\Sl paramL fz A n c p.params
def FunR (fz:FZ) (vg:Value) (l:List Function):Prop:=∃ g m,vg=.map (some g)/\fz g=some (mapS m)/\∀ x,(fstF l x=none->valS m x=none)/\∀ f,fstF l x=some f->∃ A n c,valS m x=some (.agg #[Zy f.name,Zc A n c,Zk f.lo,Zk f.hi])/\Sl paramL fz A n c f.params
theorem PrdR.mono {l:List Predicate} (h:PrdR fz v l) (hle:Le fz fz'):PrdR fz' v l:=by
 obtain ⟨g,m,h1,h2,h3⟩:=h;exact ⟨g,m,h1,hle _ _ h2,fun x=>⟨(h3 x).1,fun p hp=>by obtain ⟨A,n,c,h4,h5⟩:=(h3 x).2 p hp;exact ⟨A,n,c,h4,h5.mono hle⟩⟩⟩
theorem FunR.mono {l:List Function} (h:FunR fz v l) (hle:Le fz fz'):FunR fz' v l:=by
 obtain ⟨g,m,h1,h2,h3⟩:=h;exact ⟨g,m,h1,hle _ _ h2,fun x=>⟨(h3 x).1,fun p hp=>by obtain ⟨A,n,c,h4,h5⟩:=(h3 x).2 p hp;exact ⟨A,n,c,h4,h5.mono hle⟩⟩⟩
structure CkG (fz:FZ) (v:Value) (d:Domain) (p:Problem) (all:List Param):Prop where
 ex:∃ vf vp vg vo,CkR fz v d p all vf vp vg vo/\ForR fz vf d.types/\PrdR fz vp d.predicates/\FunR fz vg d.functions/\ObjR fz vo all
 wf:WFT d.types
theorem CkG.mono {p:Problem} (h:CkG fz v d p all) (hle:Le fz fz'):CkG fz' v d p all:=by
 obtain ⟨⟨vf,vp,vg,vo,h1,h2,h3,h4,h5⟩,hw⟩:=h;exact ⟨⟨vf,vp,vg,vo,h1.mono hle,h2.mono hle,h3.mono hle,h4.mono hle,h5.mono hle⟩,hw⟩
def YbV (d:Domain) (all vars:List Param) (z:Bs × Param):Int:=match Yec all vars z.1 with
 | none=>8
 | some t=>if IsT d.types t z.2.typ then 0 else 9
def YlI (d:Domain) (all vars:List Param) (args:List Bs) (ps:List Param):Int:=
 if args.length≠ps.length then 11 else (Y5 (YbV d all vars) ((args.zip ps).map (fun z=>((⟨#[]⟩:Bs),z))++ [])).2
theorem Yg6 {p:Problem} {ps:List Param} {args:List Bs} {C:Option Addr} {n2 c2 n3 c3:Nat} (h:CkG fz v d p all) (h1:Sl paramL fz A n c vars) (h2:Sl strL fz B n2 c2 args) (h3:Sl paramL fz C n3 c3 ps):
 QFn prog 242 [v,Zc A n c,Zc B n2 c2,Zc C n3 c3] fz (errV (YlI d all vars args ps)):=by
 obtain ⟨⟨vf,vp,vg,vo,hck,hF,hPr,hFu,hO⟩,hw⟩:=h;have hck0:=hck;obtain ⟨gc,v1,v2,v3,v4,v5,v6,u1,u2,u3,u4,u5,u6,u7,Aa,na,ca,rfl,hc,hD,hP,hall⟩:=hck;have hF0:=hF;obtain ⟨gf,gm,rfl,hf1,hf2⟩:=hF;have l2:=h2.len;have l3:=h3.len;have s2:=h2.short;have s3:=h3.short;refine qF Tryz.func242 Tryz.ntmps242 (fun w0=>?_);refine vC ?_ ?_<;>intro e0
 ·exact vR (h:=by rw [YlI,if_pos Zi];rfl)
 have e1:YlI d all vars args ps=(Y5 (YbV d all vars) ((args.zip ps).map (fun z=>((⟨#[]⟩:Bs),z))++ [])).2:=if_neg Zi;refine zV ?_;refine Wn n2 (fun k=>[(21,Zk k),(20,Zk n2),(19,Zc B n2 c2),(0,Zp gc),(1,Zc A n c),(3,Zc C n3 c3)]) [] (fun k=>(∀ i,i<k->∀ z,(args.zip ps)[i]?=some z->YbV d all vars z=0)) (fun i hi=>absurd hi Zi) ?_;intro k hk hh;refine vC ?_ ?_<;>intro c1
 ·obtain ⟨x,hx⟩:=Ye (l:=args) (k:=k) Zi;obtain ⟨y,hy⟩:=Ye (l:=ps) (k:=k) Zi;have hz:(args.zip ps)[k]?=some (x,y):=by rw [List.getElem?_zip_eq_some];exact ⟨hx,hy⟩
  refine vI h2 hx (fun p1 hp1=>?_);refine zH hp1 (fun hxs=>?_);refine vc (find_q hck0 hO h1 hxs) ?_;cases hr:Yec all vars x with
  | none=>
   have e2:YbV d all vars (x,y)=8:=by rw [YbV,hr]
   rw [show Ypy none=.tuple #[Ze,.iface 84 (Zk 8)] from rfl];exact vR (h:=by rw [e1,Wy (f:=fun _=>(⟨#[]⟩:Bs)) (g:=fun z=>z) hz hh (by rw [e2];decide),e2];rfl)
  | some t=>
   have ht:Short t:=by
    rw [Yec] at hr;split at hr
    ·obtain ⟨q,hq,rfl⟩:=Yj5 hr;exact (YaW h1 q hq).2
    obtain ⟨q,hq,rfl⟩:=Yoa hr;exact (YaW hall q hq).2
   rw [show Ypy (some t)=.tuple #[Zy t,.nilIface] from rfl];refine vI h3 hy (fun p2 hp2=>?_);refine vH hp2.Param_typ (fun hts=>?_);refine vb (is_q hF0 hw ht) (fun f1=>?_) (fun f1=>?_)
   ·have e2:YbV d all vars (x,y)=0:=by rw [YbV,hr];exact if_pos (Zt f1)
    exact vM (h:=by exact YF hh hz e2)
   have e2:YbV d all vars (x,y)=9:=by rw [YbV,hr];exact if_neg (Zf f1)
   exact vR (h:=by rw [e1,Wy (f:=fun _=>(⟨#[]⟩:Bs)) (g:=fun z=>z) hz hh (by rw [e2];decide),e2];rfl)
 have hA:∀ z∈args.zip ps,YbV d all vars z=0:=fun z hz=>by
  obtain ⟨i,hi⟩:=List.getElem?_of_mem hz;have:=(Zg hi).1;rw [List.length_zip] at this;exact hh i Zi z hi
 exact vR (h:=by rw [e1,YZ (f:=fun _=>(⟨#[]⟩:Bs)) (g:=fun z=>z) hA];rfl)
def atomM (d:Domain) (all vars:List Param) (name:Bs) (args:List Bs):Int:=match fstP d.predicates name with
 | none=>8
 | some p=>YlI d all vars args p.params
def fluM (d:Domain) (all vars:List Param) (name:Bs) (args:List Bs):Int:=match fstF d.functions name with
 | none=>8
 | some f=>YlI d all vars args f.params
theorem YlG {p:Problem} {name:Bs} {args:List Bs} {n2 c2:Nat} (h:CkG fz v d p all) (h1:Sl paramL fz A n c vars) (h2:Sl strL fz B n2 c2 args):
 QFn prog 198 [v,Zc A n c,Zy name,Zc B n2 c2] fz (errV (atomM d all vars name args)):=by
 have h0:=h;obtain ⟨⟨vf,vp,vg,vo,hck,hF,hPr,hFu,hO⟩,hw⟩:=h;obtain ⟨gc,v1,v2,v3,v4,v5,v6,u1,u2,u3,u4,u5,u6,u7,Aa,na,ca,rfl,hc,hD,hP,hall⟩:=hck;obtain ⟨gp,mp,rfl,hgp,hmp⟩:=hPr;refine qF Tryz.func198 Tryz.ntmps198 (fun w0=>?_);refine zV ?_;cases hr:fstP d.predicates name with
 | none=>
  have hv:=(hmp name).1 hr;refine zG ?_;refine YV (v:=Zn) (b:=false) hgp ?_ (hv:=by rw [Yhk,hv];rfl) (hb:=by rw [YeT,hv];rfl);exact vR (h:=by rw [atomM,hr];rfl)
 | some x=>
  obtain ⟨C,n3,c3,hv,h3⟩:=(hmp name).2 x hr;refine zG ?_;refine YV (v:=Zc C n3 c3) (b:=true) hgp ?_ (hv:=by rw [Yhk,hv];rfl) (hb:=by rw [YeT,hv];rfl);refine vc (Yg6 h0 h1 h2 h3) ?_;exact vR (h:=by rw [atomM,hr])
theorem Yg1 {p:Problem} {name:Bs} {args:List Bs} {n2 c2:Nat} (h:CkG fz v d p all) (h1:Sl paramL fz A n c vars) (h2:Sl strL fz B n2 c2 args):
 QFn prog 199 [v,Zc A n c,Zy name,Zc B n2 c2] fz (errV (fluM d all vars name args)):=by
 have h0:=h;obtain ⟨⟨vf,vp,vg,vo,hck,hF,hPr,hFu,hO⟩,hw⟩:=h;obtain ⟨gc,v1,v2,v3,v4,v5,v6,u1,u2,u3,u4,u5,u6,u7,Aa,na,ca,rfl,hc,hD,hP,hall⟩:=hck;obtain ⟨gp,mp,rfl,hgp,hmp⟩:=hFu;refine qF Tryz.func199 Tryz.ntmps199 (fun w0=>?_);refine zV ?_;cases hr:fstF d.functions name with
 | none=>
  have hv:=(hmp name).1 hr;refine zG ?_;refine YV (v:=.agg #[Ze,Zn,Zk 0,Zk 0]) (b:=false) hgp ?_ (hv:=by rw [Yhk,hv];rfl) (hb:=by rw [YeT,hv];rfl);refine zV ?_;intros;exact zR (h:=by rw [fluM,hr];rfl)
 | some x=>
  obtain ⟨C,n3,c3,hv,h3⟩:=(hmp name).2 x hr;refine zG ?_;refine YV (v:=.agg #[Zy x.name,Zc C n3 c3,Zk x.lo,Zk x.hi]) (b:=true) hgp ?_ (hv:=by rw [Yhk,hv];rfl) (hb:=by rw [YeT,hv];rfl);refine zV ?_;intros;refine zc (Yg6 h0 h1 h2 h3) ?_;exact vR (h:=by rw [fluM,hr])
mutual
def exprM (d:Domain) (all vars:List Param):Lx.Expr->Int
 | .mk op name _ args kids=>if op=kFluent then fluM d all vars name args else exprML d all vars kids
def exprML (d:Domain) (all vars:List Param):List Lx.Expr->Int
 | []=>0
 | k::r=>if exprM d all vars k=0 then exprML d all vars r else exprM d all vars k
end
theorem YmF (e:Lx.Expr):exprM d all vars e=if e.op=kFluent then fluM d all vars e.name e.args else exprML d all vars e.kids:=by cases e;rw [exprM];rfl
theorem YgS {d:Domain} {all vars:List Param}:∀ {l:List Lx.Expr} {k:Nat} {x:Lx.Expr},l[k]?=some x->(∀ i,i<k->∀ y,l[i]?=some y->exprM d all vars y=0)->exprM d all vars x≠0->exprML d all vars l=exprM d all vars x
 | [],k,x,h,_,_=>by simp at h
 | y::l,0,x,h,_,hx=>by simp at h;subst h;rw [exprML,if_neg hx]
 | y::l,k+1,x,h,hh,hx=>by
  rw [exprML,if_pos (hh 0 Zi y rfl)];exact YgS (k:=k) (by simpa using h) (fun i hi z hz=>hh (i+1) Zi z (by simpa using hz)) hx
theorem YdI {d:Domain} {all vars:List Param}:∀ {l:List Lx.Expr},(∀ y∈l,exprM d all vars y=0)->exprML d all vars l=0
 | [],_=>by rw [exprML]
 | y::l,h=>by rw [exprML,if_pos (h y (by simp))];exact YdI (fun z hz=>h z (by simp [hz]))
theorem Yp2:∀ (s:Nat) {fz:FZ} {v:Value} {d:Domain} {p:Problem} {all vars:List Param} {e:Lx.Expr} {va vk:Value} {A:Option Addr} {n c:Nat},SizeOf.sizeOf e<=s->CkG fz v d p all->Sl paramL fz A n c vars->ExprR fz e va vk->
 QFn prog 239 [v,Zc A n c,.agg #[Zy e.op,Zy e.name,Zk e.n,va,vk]] fz (errV (exprM d all vars e))
 | 0,_,_,_,_,_,_,e,_,_,_,_,_,hse,_,_,_=>by cases e;simp at hse
 | s+1,fz,v,d,p,all,vars,e,va,vk,A,n,c,hse,h,h1,hR=>by
  have h0:=h;obtain ⟨⟨vf,vp,vg,vo,hck,hF,hPr,hFu,hO⟩,hw⟩:=h;obtain ⟨gc,v1,v2,v3,v4,v5,v6,u1,u2,u3,u4,u5,u6,u7,Aa,na,ca,rfl,hc,hD,hP,hall⟩:=hck;obtain ⟨⟨B,n2,c2,rfl,ia⟩,⟨C,n3,c3,rfl,ik⟩⟩:=hR.sls;have l3:=ik.len;have s3:=ik.short;refine qF Tryz.func239 Tryz.ntmps239 (fun w0=>?_);refine pX (fun g0=>?_);refine vC ?_ ?_<;>intro x1
  ·refine vc (Yg1 h0 h1 ia) ?_;exact vR (h:=by rw [YmF,if_pos (show e.op=kFluent from x1)])
  have e1:exprM d all vars e=exprML d all vars e.kids:=by rw [YmF,if_neg (show ¬e.op=kFluent from x1)]
  refine zV ?_;refine Wn n3 (fun k=>[(23,Zk k),(22,Zk n3),(21,Zc C n3 c3),(0,Zp gc),(1,Zc A n c)]) [] (fun k=>(∀ i,i<k->∀ y,e.kids[i]?=some y->exprM d all vars y=0)) (fun i hi=>absurd hi Zi) ?_;intro k hk hh;refine vC ?_ ?_<;>intro c1
  ·obtain ⟨x,hx⟩:=Ye (l:=e.kids) (k:=k) Zi;have hlt:=Lx.Expr.kids_lt (Zm hx);refine vI ik hx (fun p1 hp1=>?_);refine zL hp1 ?_;intro cs hcs;obtain ⟨wa,wk,rfl,hRx⟩:=YE hcs;obtain ⟨⟨B1,m1,d1,rfl,_⟩,⟨B2,m2,d2,rfl,_⟩⟩:=hRx.sls;refine zV ?_;intros
   ((refine zG ?_);refine Yt (Yp2 s Zi h0 h1 hRx) ?_);by_cases hz:exprM d all vars x=0
   ·rw [hz,show errV 0=.nilIface from rfl];exact vM (h:=by exact YF hh hx hz)
   rw [YA hz];exact vR (h:=by rw [e1,YgS hx hh hz,YA hz])
  have hA:=Y6 hh Zi;exact vR (h:=by rw [e1,YdI hA];rfl)
theorem Yp1 {p:Problem} {e:Lx.Expr} (h:CkG fz v d p all) (h1:Sl paramL fz A n c vars) (hR:ExprR fz e va vk):
 QFn prog 239 [v,Zc A n c,.agg #[Zy e.op,Zy e.name,Zk e.n,va,vk]] fz (errV (exprM d all vars e)):=Yp2 _ (Zs _) h h1 hR
theorem Ybg {l:List Param} (h:Sl paramL fz A n c l) (hn:n<=1000000000):
 GFn prog 53 [Zc A n c] fz [] (fun v fz' H'=>Grow paramL 121 fz' v n H' l):=by
 have l1:=h.len;refine zF Tryz.func53 Tryz.ntmps53 (fun w0=>?_);refine vG ?_;refine W2 (fun eA=>?_) (fun eA=>?_)
 ·subst eA;have hl:l=[]:=by
   rcases h.elem with h0 | ⟨_,h0,_⟩
   ·exact List.eq_nil_of_length_eq_zero Zi
   cases h0
  subst hl;simp at l1;subst l1;refine zV ?_;refine YdV (H':=[]) (H2:=[]) rfl rfl (Zr _) (fun fz3 hle3 _=>Grow.nil _ _ _)
 refine zV ?_;refine Yc (Yau (fun gb=>?_));refine zV ?_;refine Yc (XT T (Hr:=[]) (n:=0) (l:=[]) Zz Zz Zz Zz Zz Zz Zz Zz (Zr _) (Grow.block (ys:=[]) rfl rfl (by intro p hp;cases hp) rfl) Yat h (by show _*32<=_;omega) Zi (fun v' Hs' hO'=>?_));obtain ⟨Av',cv',rfl,_,_⟩:=hO'.form;refine zV ?_;refine YdV (H':=Hs') (H2:=[]) rfl rfl (by simp) (fun fz3 hle3 _=>(hO'.mono hle3).of (by simp) Zi)
end Go.Proofs.YtdbfccanbbbjkaaGreatDoor
namespace Go.Lx
mutual
def eW:Expr->Nat
 | .mk _ _ _ args kids=>1+args.length+eWL kids
def eWL:List Expr->Nat
 | []=>0
 | k::r=>eW k+eWL r
end
mutual
def fW:Formula->Nat
 | .mk _ _ args params exprs kids=>1+args.length+params.length+eWL exprs+fWL kids
def fWL:List Formula->Nat
 | []=>0
 | k::r=>fW k+fWL r
end
theorem YpN (l:List Expr):eWL l=(l.map eW).sum:=by
 induction l with
 | nil=>rfl
 | cons a r ih=>simp [eWL,ih]
theorem fWL_sum (l:List Formula):fWL l=(l.map fW).sum:=by
 induction l with
 | nil=>rfl
 | cons a r ih=>simp [fWL,ih]
def parW (_:Param):Nat:=1
def strW (_:Bs):Nat:=1
def YcJ (a:Atom):Nat:=1+a.args.length
def YbZ (v:Value_):Nat:=1+YcJ v.fluent
def Y2 (c:Change):Nat:=1+c.params.length+fW c.when_+c.args.length+eW c.value
def YjR (p:Predicate):Nat:=1+p.params.length
def funW (p:Function):Nat:=1+p.params.length
def actW (a:Action):Nat:=1+a.params.length+fW a.pre+(a.changes.map Y2).sum
def durW (a:Durative):Nat:=1+a.params.length+fW a.start+fW a.over+fW a.fin+(a.atStart.map Y2).sum+(a.atEnd.map Y2).sum
def domW (d:Domain):Nat:=1+d.types.length+d.constants.length+(d.predicates.map YjR).sum+(d.functions.map funW).sum+(d.actions.map actW).sum+(d.duratives.map durW).sum
def prbW (p:Problem):Nat:=1+p.objects.length+(p.init.map YcJ).sum+(p.values.map YbZ).sum+fW p.goal
theorem Ynx (e:Expr):eW e=1+e.args.length+(e.kids.map eW).sum:=by cases e;rw [eW,YpN];rfl
theorem Ybu (f:Formula):fW f=1+f.args.length+f.params.length+(f.exprs.map eW).sum+(f.kids.map fW).sum:=by cases f;rw [fW,YpN,fWL_sum];rfl
theorem W6 (l:List Param):(l.map parW).sum=l.length:=by
 induction l with
 | nil=>rfl
 | cons a r ih=>simp [parW] at ih ⊢;omega
theorem W5 (l:List Bs):(l.map strW).sum=l.length:=by
 induction l with
 | nil=>rfl
 | cons a r ih=>simp [strW] at ih ⊢;omega
theorem Xb {α:Type} {w:α->Nat}:∀ {l:List α} {x:α},x∈l->w x<=(l.map w).sum
 | [],_,h=>by cases h
 | a::r,x,h=>by
  simp only [List.map_cons,List.sum_cons];rcases List.mem_cons.1 h with rfl | h
  ·omega
  have:=Xb (w:=w) h;omega
theorem XP {α:Type} {w:α->Nat} (h:∀ x,1<=w x):∀ (l:List α),l.length<=(l.map w).sum
 | []=>by simp
 | a::r=>by
  have h1:=h a;have h2:=XP h r;simp only [List.length_cons,List.map_cons,List.sum_cons];omega
theorem Yib {α:Type} {w:α->Nat} {n:α->Nat} {k:Nat} (h:∀ x,n x<=k*w x):∀ (l:List α),(l.map n).sum<=k*(l.map w).sum
 | []=>by simp
 | a::r=>by
  have h1:=h a;have h2:=Yib h r;simp only [List.map_cons,List.sum_cons,Nat.mul_add];omega
theorem YmH (e:Expr):1<=eW e:=by rw [Ynx];omega
theorem YpA (f:Formula):1<=fW f:=by rw [Ybu];omega
theorem YlF (c:Change):1<=Y2 c:=by unfold Y2;omega
theorem YjQ (c:Predicate):1<=YjR c:=by unfold YjR;omega
theorem Ymy (c:Function):1<=funW c:=by unfold funW;omega
theorem actW_pos (c:Action):1<=actW c:=by unfold actW;omega
theorem durW_pos (c:Durative):1<=durW c:=by unfold durW;omega
theorem YkG (c:Atom):1<=YcJ c:=by unfold YcJ;omega
theorem Yhs (c:Value_):1<=YbZ c:=by unfold YbZ;omega
end Go.Lx
namespace Go.Proofs.YtdbfccanbbbjkaaGreatDoor
variable {all vars:List Param} {d:Domain} {A B:Option Addr} {c n:Nat} {fz:FZ} {v va ve vk vp:Value} {ff:FuncId} {cs:List Value}
def YkO (op:Bs):Prop:=op=kForall\/op=kExists
def ownM (d:Domain) (all vars:List Param) (op:Bs) (args:List Bs) (params:List Param):Int:=
 if op=kSame then (if ∀ a∈args,(Yec all vars a).isSome=true then 0 else 8)
 else if YkO op then (if TwP [] (parN params) then 4 else if ExP d.types params then 0 else 3)
 else 0
def varsM (vars:List Param) (op:Bs) (params:List Param):List Param:=if op=kSame then vars else if YkO op then vars++params else vars
mutual
def formM (d:Domain) (all:List Param):List Param->Formula->Int
 | vars,.mk op name args params exprs kids=>
  if op=kAtom then atomM d all vars name args
  else if ownM d all vars op args params≠0 then ownM d all vars op args params
  else if exprML d all (varsM vars op params) exprs≠0 then exprML d all (varsM vars op params) exprs
  else formML d all (varsM vars op params) kids
def formML (d:Domain) (all:List Param):List Param->List Formula->Int
 | _,[]=>0
 | vars,k::r=>if formM d all vars k=0 then formML d all vars r else formM d all vars k
end
theorem YfI (f:Formula):formM d all vars f=if f.op=kAtom then atomM d all vars f.name f.args
 else if ownM d all vars f.op f.args f.params≠0 then ownM d all vars f.op f.args f.params
 else if exprML d all (varsM vars f.op f.params) f.exprs≠0 then exprML d all (varsM vars f.op f.params) f.exprs
 else formML d all (varsM vars f.op f.params) f.kids:=by cases f;rw [formM];rfl
theorem Yki {d:Domain} {all vars:List Param}:∀ {l:List Formula} {k:Nat} {x:Formula},l[k]?=some x->(∀ i,i<k->∀ y,l[i]?=some y->formM d all vars y=0)->formM d all vars x≠0->formML d all vars l=formM d all vars x
 | [],k,x,h,_,_=>by simp at h
 | y::l,0,x,h,_,hx=>by simp at h;subst h;rw [formML,if_neg hx]
 | y::l,k+1,x,h,hh,hx=>by
  rw [formML,if_pos (hh 0 Zi y rfl)];exact Yki (k:=k) (by simpa using h) (fun i hi z hz=>hh (i+1) Zi z (by simpa using hz)) hx
theorem YgL {d:Domain} {all vars:List Param}:∀ {l:List Formula},(∀ y∈l,formM d all vars y=0)->formML d all vars l=0
 | [],_=>by rw [formML]
 | y::l,h=>by rw [formML,if_pos (h y (by simp))];exact YgL (fun z hz=>h z (by simp [hz]))
theorem kids_w {f k:Formula} (h:k∈f.kids):fW k+f.params.length<=fW f:=by
 have:=Xb (w:=fW) h;rw [Ybu f];omega
theorem Yp0:∀ (s:Nat) {fz:FZ} {v:Value} {d:Domain} {p:Problem} {all vars:List Param} {f:Formula} {va vp ve vk:Value} {A:Option Addr} {n c:Nat},SizeOf.sizeOf f<=s->CkG fz v d p all->Sl paramL fz A n c vars->FormulaR fz f va vp ve vk->n+fW f<=1000000000->
 QFn prog 195 [v,Zc A n c,.agg #[Zy f.op,Zy f.name,va,vp,ve,vk]] fz (errV (formM d all vars f))
 | 0,_,_,_,_,_,_,f,_,_,_,_,_,_,_,hse,_,_,_,_=>by cases f;simp at hse
 | s+1,fz,v,d,p,all,vars,f,va,vp,ve,vk,A,n,c,hse,h,h1,hR,hW=>by
  have h0:=h;obtain ⟨⟨vf,vpp,vg,vo,hck,hF,hPr,hFu,hO⟩,hw⟩:=h;have hck0:=hck;obtain ⟨gc,v1,v2,v3,v4,v5,v6,u1,u2,u3,u4,u5,u6,u7,Aa,na,ca,rfl,hc,hD,hP,hall⟩:=hck;obtain ⟨⟨B1,m1,d1,rfl,ia⟩,⟨B2,m2,d2,rfl,ip⟩,⟨B3,m3,d3,rfl,ie⟩,⟨B4,m4,d4,rfl,ik⟩⟩:=hR.sls;have l1:=ia.len;have l2:=ip.len;have l3:=ie.len;have l4:=ik.len;have ln:=h1.len;have s1:=ia.short;have s3:=ie.short;have s4:=ik.short;have hwp:f.params.length<=fW f:=by rw [Ybu];omega
  refine qF Tryz.func195 Tryz.ntmps195 (fun w0=>?_);refine pX (fun g0=>?_);refine zWO ?_;by_cases hat:f.op=kAtom
  ·refine vc (YlG h0 h1 ia) ?_;exact vR (h:=by rw [YfI,if_pos hat])
  have e1:formM d all vars f=if ownM d all vars f.op f.args f.params≠0 then ownM d all vars f.op f.args f.params else if exprML d all (varsM vars f.op f.params) f.exprs≠0 then exprML d all (varsM vars f.op f.params) f.exprs else formML d all (varsM vars f.op f.params) f.kids:=by rw [YfI,if_neg hat]
  refine zVX ?_;refine YL (Y8 (fun σ fz' H'=>∃ (A':Option Addr) (n' c':Nat),σ=[(5,Zp g0),(0,Zp gc),(1,Zc A' n' c')]/\Le fz fz'/\H'=[(g0,Zu #[Zy f.op,Zy f.name,Zc B1 m1 d1,Zc B2 m2 d2,Zc B3 m3 d3,Zc B4 m4 d4] 35)]/\Sl paramL fz' A' n' c' (varsM vars f.op f.params)/\n'<=n+f.params.length/\ownM d all vars f.op f.args f.params=0) ?_ ?_)
  ·refine zV ?_;by_cases hsa:f.op=kSame
   ·have e2:varsM vars f.op f.params=vars:=if_pos hsa;have e3:ownM d all vars f.op f.args f.params=if ∀ a∈f.args,(Yec all vars a).isSome=true then 0 else 8:=if_pos hsa
    refine zV ?_;refine Wn m1 (fun k=>[(35,Zk k),(34,Zk m1),(33,Zc B1 m1 d1),(5,Zp g0),(0,Zp gc),(1,Zc A n c)]) [(g0,Zu #[Zy f.op,Zy f.name,Zc B1 m1 d1,Zc B2 m2 d2,Zc B3 m3 d3,Zc B4 m4 d4] 35)] (fun k=>(∀ i,i<k->∀ x,f.args[i]?=some x->(Yec all vars x).isSome=true)) (fun i hi=>absurd hi Zi) ?_;intro k hk hh;refine vC ?_ ?_<;>intro c1
    ·obtain ⟨x,hx⟩:=Ye (l:=f.args) (k:=k) Zi;refine vI ia hx (fun p1 hp1=>?_);refine zH hp1 (fun hxs=>?_);refine vc (find_q hck0 hO h1 hxs) ?_;cases hr:Yec all vars x with
     | none=>
      have e4:ownM d all vars f.op f.args f.params=8:=by rw [e3,if_neg];intro h9;have:=h9 x (Zm hx);rw [hr] at this;cases this
      rw [show Ypy none=.tuple #[Ze,.iface 84 (Zk 8)] from rfl];exact vR (h:=by rw [e1,if_pos (by rw [e4];decide),e4];rfl)
     | some t=>
      rw [show Ypy (some t)=.tuple #[Zy t,.nilIface] from rfl];exact vM (h:=by exact YF (p:=fun x=>(Yec all vars x).isSome=true) hh hx (by rw [hr];rfl))
    have hA:=Y6 hh Zi;exact vN (h:=by exact ⟨A,n,c,rfl,Zd,rfl,by rw [e2];exact h1,by omega,by rw [e3,if_pos hA]⟩)
   have wf:¬f.op=kSame:=hsa;by_cases hq:YkO f.op
   ·have e2:varsM vars f.op f.params=vars++f.params:=by rw [varsM,if_neg hsa,if_pos hq]
    have e3:ownM d all vars f.op f.args f.params=if TwP [] (parN f.params) then 4 else if ExP d.types f.params then 0 else 3:=by rw [ownM,if_neg hsa,if_pos hq]
    refine zVX ?_;refine YL (Y8 (fun σ fz' H'=>σ=[(50,Zo true),(5,Zp g0),(0,Zp gc),(1,Zc A n c)]/\fz=fz'/\H'=[(g0,Zu #[Zy f.op,Zy f.name,Zc B1 m1 d1,Zc B2 m2 d2,Zc B3 m3 d3,Zc B4 m4 d4] 35)]) ?_ ?_)
    ·rcases hq with w1 | w2
     ·exact vN (h:=by exact ⟨rfl,rfl,rfl⟩)
     have w1:¬f.op=kForall:=by rw [w2];decide
     exact vN (h:=by exact ⟨rfl,rfl,rfl⟩)
    rintro σ fz1 H' ⟨rfl,rfl,rfl⟩;refine vc (Yk0 ip (Sl.nil (A:=none) (c:=0))) ?_;rw [show parN ([]:List Param)=[] from rfl];by_cases ht:TwP [] (parN f.params)
    ·rw [if_pos ht,show errV 4=.iface 84 (Zk 4) from rfl];exact vR (h:=by rw [e1,e3,if_pos ht,if_pos Zh];rfl)
    rw [if_neg ht,show errV 0=.nilIface from rfl];refine vc (Yly hck0 hF ip) ?_;by_cases hx:ExP d.types f.params
    ·rw [if_pos hx,show errV 0=.nilIface from rfl];refine zV ?_;refine Y0 [_] ?_;refine zW ?_;refine Yk ?_;refine zW ?_;refine pU ?_;refine Yf (Yj [] [_] Zz (Ybg h1 Zi) (fun v6 fz6 H6 hle6 hR6=>⟨⟨hle6,Zx⟩,?_⟩));obtain ⟨Av,cv,rfl,_,_⟩:=hR6.form;refine Yf (XT T (Hr:=[_]) Zz Zz Zz Zz Zz Zz Zz Zz Zq hR6 Yat (ip.mono hle6) (by show _*32<=_;omega) Zi (fun v7 H7 hO7=>⟨⟨hle6,Zx⟩,?_⟩));obtain ⟨Aw,cw,rfl,_,_⟩:=hO7.form;refine Ch.qk ⟨hle6,Zx⟩ (YO ?_);refine Ch.done ?_;refine zW ?_;exact midF (H':=[_]) (H2:=H7) (Zr _) (fun fz8 hle8 hf8=>by
      obtain ⟨A8,c8,e8,h8⟩:=hO7.sl hle8 hf8 Zi;injection e8 with e81 e82 e83
      subst e81;subst e83;exact ⟨Aw,_,cw,rfl,hle6.trans hle8,rfl,by rw [e2];exact h8,by omega,by rw [e3,if_neg ht,if_pos hx]⟩) Zw
    rw [if_neg hx,show errV 3=.iface 84 (Zk 3) from rfl];exact vR (h:=by rw [e1,e3,if_neg ht,if_neg hx,if_pos Zh];rfl)
   have w1:¬f.op=kForall:=fun h=>hq (.inl h)
   have w2:¬f.op=kExists:=fun h=>hq (.inr h)
   have e2:varsM vars f.op f.params=vars:=by rw [varsM,if_neg hsa,if_neg hq]
   have e3:ownM d all vars f.op f.args f.params=0:=by rw [ownM,if_neg hsa,if_neg hq]
   exact vN (h:=by exact ⟨A,n,c,rfl,Zd,rfl,by rw [e2];exact h1,by omega,e3⟩)
  rintro σ fz1 H' ⟨A',n',c',rfl,hle,rfl,h1',hn',ho0⟩;have e2:formM d all vars f=if exprML d all (varsM vars f.op f.params) f.exprs≠0 then exprML d all (varsM vars f.op f.params) f.exprs else formML d all (varsM vars f.op f.params) f.kids:=by rw [e1,if_neg (by rw [ho0];decide)]
  generalize hvs:varsM vars f.op f.params=vars' at h1' e2;have h0':=h0.mono hle;have ie':=ie.mono hle;have ik':=ik.mono hle;have hcg:=hle _ _ hc;refine zVX ?_;refine YL (Y8 (fun σ fz' H'=>σ=[(5,Zp g0),(0,Zp gc),(1,Zc A' n' c')]/\fz1=fz'/\H'=[(g0,Zu #[Zy f.op,Zy f.name,Zc B1 m1 d1,Zc B2 m2 d2,Zc B3 m3 d3,Zc B4 m4 d4] 35)]/\exprML d all vars' f.exprs=0) ?_ ?_)
  ·refine zV ?_;refine Yl (fun q σ fz' H'=>∃ k:Nat,k<=m3/\q=m3 - k/\σ=[(74,Zk k),(73,Zk m3),(72,Zc B3 m3 d3),(5,Zp g0),(0,Zp gc),(1,Zc A' n' c')]/\fz1=fz'/\H'=[(g0,Zu #[Zy f.op,Zy f.name,Zc B1 m1 d1,Zc B2 m2 d2,Zc B3 m3 d3,Zc B4 m4 d4] 35)]/\(∀ i,i<k->∀ y,f.exprs[i]?=some y->exprM d all vars' y=0)) ⟨0,Z0 _,rfl,rfl,rfl,rfl,fun i hi=>absurd hi Zi⟩ Zw Zb ?_;rintro q σ fz' H' ⟨k,hk,rfl,rfl,rfl,rfl,hh⟩;refine vC ?_ ?_<;>intro c1
   ·obtain ⟨x,hx⟩:=Ye (l:=f.exprs) (k:=k) Zi;refine vI ie' hx (fun p1 hp1=>?_);refine zL hp1 ?_;intro cs hcs;obtain ⟨wa,wk,rfl,hRx⟩:=YE hcs;obtain ⟨⟨E1,r1,q1,rfl,_⟩,⟨E2,r2,q2,rfl,_⟩⟩:=hRx.sls;refine zV ?_;intros;refine zc (Yp1 h0' h1' hRx) ?_;by_cases hz:exprM d all vars' x=0
    ·rw [hz,show errV 0=.nilIface from rfl];exact vM (h:=by exact YF hh hx hz)
    rw [YA hz];exact vR (h:=by rw [e2,YgS hx hh hz,if_pos hz,YA hz])
   have hA:=Y6 hh Zi;exact vN (h:=by exact ⟨rfl,rfl,rfl,YdI hA⟩)
  rintro σ fz2 H' ⟨rfl,rfl,rfl,hez⟩;have e3:formM d all vars f=formML d all vars' f.kids:=by rw [e2,hez,if_neg Zh]
  refine zV ?_;refine Yl (fun q σ fz' H'=>∃ k:Nat,k<=m4/\q=m4 - k/\σ=[(89,Zk k),(88,Zk m4),(87,Zc B4 m4 d4),(0,Zp gc),(1,Zc A' n' c')]/\fz1=fz'/\H'=[]/\(∀ i,i<k->∀ y,f.kids[i]?=some y->formM d all vars' y=0)) ⟨0,Z0 _,rfl,rfl,rfl,rfl,fun i hi=>absurd hi Zi⟩ Zw Zb ?_;rintro q σ fz' H' ⟨k,hk,rfl,rfl,rfl,rfl,hh⟩;refine vC ?_ ?_<;>intro c1
  ·obtain ⟨x,hx⟩:=Ye (l:=f.kids) (k:=k) Zi;have hlt:=Lx.Formula.kids_lt (Zm hx);have hkw:=kids_w (Zm hx);refine vI ik' hx (fun p1 hp1=>?_);refine zL hp1 ?_;intro cs hcs;obtain ⟨wa,wp,we,wk,rfl,hRx⟩:=Yx hcs;obtain ⟨⟨E1,r1,q1,rfl,_⟩,⟨E2,r2,q2,rfl,_⟩,⟨E3,r3,q3,rfl,_⟩,⟨E4,r4,q4,rfl,_⟩⟩:=hRx.sls;refine zV ?_;intros
   ((refine zG ?_);refine Yt (Yp0 s Zi h0' h1' hRx Zi) ?_);by_cases hz:formM d all vars' x=0
   ·rw [hz,show errV 0=.nilIface from rfl];exact vM (h:=by exact YF hh hx hz)
   rw [YA hz];exact vR (h:=by rw [e3,Yki hx hh hz,YA hz])
  have hA:=Y6 hh Zi;exact vR (h:=by rw [e3,YgL hA];rfl)
theorem Yi5 {p:Problem} {f:Formula} (h:CkG fz v d p all) (h1:Sl paramL fz A n c vars) (hR:FormulaR fz f va vp ve vk) (hW:n+fW f<=1000000000):
 QFn prog 195 [v,Zc A n c,.agg #[Zy f.op,Zy f.name,va,vp,ve,vk]] fz (errV (formM d all vars f)):=Yp0 _ (Zs _) h h1 hR hW
theorem YgB {l:List Lx.Formula} {cap:List Value} {p:Lx.Formula->Prop} [DecidablePred p] (h1:Sl formulaL fz A n c l) (hq:∀ x∈l,∀ cs,formulaL.rep fz x cs->QFn prog ff (.agg cs.toArray::cap) fz (Zo (decide (p x)))):
 QFn prog 209 [Zc A n c,.func (.func ff) #[] cap.toArray] fz (Zk (W4 p l 0)):=by
 refine qF Tryz.func209 Tryz.ntmps209 (fun w0=>?_);have l1:=h1.len;have hm:=h1.short;refine zW ?_;refine Wn n (fun k=>[(8,Zk k),(7,Zk n),(0,Zc A n c),(1,.func (.func ff) #[] cap.toArray)]) [] (fun k=>(∀ i,i<k->∀ x,l[i]?=some x->¬p x)) (fun i hi=>absurd hi Zi) ?_;intro k hk hh;refine wC (fun hlt=>?_) (fun hge=>?_)
 ·refine zW ?_;obtain ⟨x,hx⟩:=Ye (l:=l) (k:=k) Zi;refine zI h1 hx (fun a ha=>?_);refine zL ha ?_;intro cs hcs;refine wG ?_;refine X9 Zz Zz Zz (hq x (Zm hx) cs hcs) (fun c1=>?_) (fun c1=>?_)
  ·exact wR (h:=by rw [XO hh hx c1,Int.zero_add])
  exact wM (h:=by exact YF hh hx c1)
 exact wR (h:=by rw [Xm (Y6 hh Zi)])
theorem XJ {l:List Lx.Formula} {cap:List Value} {p:Lx.Formula->Prop} [DecidablePred p] (h1:Sl formulaL fz A n c l) (hq:∀ x∈l,∀ cs,formulaL.rep fz x cs->QFn prog ff (.agg cs.toArray::cap) fz (Zo (decide (p x)))):
 QFn prog 142 [Zc A n c,.func (.func ff) #[] cap.toArray] fz (Zo (decide (∃ x∈l,p x))):=by
 refine qF Tryz.func142 Tryz.ntmps142 (fun w0=>?_);refine wc (YgB h1 hq) ?_;refine zC ?_ ?_<;>intro c1
 ·exact wR (h:=by exact Yq ((YY (Int.le_refl 0)).1 c1))
 exact wR (h:=by exact Yi (fun h=>c1 ((YY (Int.le_refl 0)).2 h)))
theorem Yhi {l:List Lx.Change} {cap:List Value} {p:Lx.Change->Prop} [DecidablePred p] (h1:Sl changeL fz A n c l) (hq:∀ x∈l,∀ cs,changeL.rep fz x cs->QFn prog ff (.agg cs.toArray::cap) fz (Zo (decide (p x)))):
 QFn prog 132 [Zc A n c,.func (.func ff) #[] cap.toArray] fz (Zk (W4 p l 0)):=by
 refine qF Tryz.func132 Tryz.ntmps132 (fun w0=>?_);have l1:=h1.len;have hm:=h1.short;refine zW ?_;refine Wn n (fun k=>[(8,Zk k),(7,Zk n),(0,Zc A n c),(1,.func (.func ff) #[] cap.toArray)]) [] (fun k=>(∀ i,i<k->∀ x,l[i]?=some x->¬p x)) (fun i hi=>absurd hi Zi) ?_;intro k hk hh;refine wC (fun hlt=>?_) (fun hge=>?_)
 ·refine zW ?_;obtain ⟨x,hx⟩:=Ye (l:=l) (k:=k) Zi;refine zI h1 hx (fun a ha=>?_);refine zL ha ?_;intro cs hcs;refine wG ?_;refine X9 Zz Zz Zz (hq x (Zm hx) cs hcs) (fun c1=>?_) (fun c1=>?_)
  ·exact wR (h:=by rw [XO hh hx c1,Int.zero_add])
  exact wM (h:=by exact YF hh hx c1)
 exact wR (h:=by rw [Xm (Y6 hh Zi)])
theorem YaP {l:List Lx.Change} {cap:List Value} {p:Lx.Change->Prop} [DecidablePred p] (h1:Sl changeL fz A n c l) (hq:∀ x∈l,∀ cs,changeL.rep fz x cs->QFn prog ff (.agg cs.toArray::cap) fz (Zo (decide (p x)))):
 QFn prog 55 [Zc A n c,.func (.func ff) #[] cap.toArray] fz (Zo (decide (∃ x∈l,p x))):=by
 refine qF Tryz.func55 Tryz.ntmps55 (fun w0=>?_);refine wc (Yhi h1 hq) ?_;refine zC ?_ ?_<;>intro c1
 ·exact wR (h:=by exact Yq ((YY (Int.le_refl 0)).1 c1))
 exact wR (h:=by exact Yi (fun h=>c1 ((YY (Int.le_refl 0)).2 h)))
theorem YeU {l:List Lx.Predicate} {cap:List Value} {p:Lx.Predicate->Prop} [DecidablePred p] (h1:Sl predicateL fz A n c l) (hq:∀ x∈l,∀ cs,predicateL.rep fz x cs->QFn prog ff (.agg cs.toArray::cap) fz (Zo (decide (p x)))):
 QFn prog 192 [Zc A n c,.func (.func ff) #[] cap.toArray] fz (Zk (W4 p l 0)):=by
 refine qF Tryz.func192 Tryz.ntmps192 (fun w0=>?_);have l1:=h1.len;have hm:=h1.short;refine zW ?_;refine Wn n (fun k=>[(8,Zk k),(7,Zk n),(0,Zc A n c),(1,.func (.func ff) #[] cap.toArray)]) [] (fun k=>(∀ i,i<k->∀ x,l[i]?=some x->¬p x)) (fun i hi=>absurd hi Zi) ?_;intro k hk hh;refine wC (fun hlt=>?_) (fun hge=>?_)
 ·refine zW ?_;obtain ⟨x,hx⟩:=Ye (l:=l) (k:=k) Zi;refine zI h1 hx (fun a ha=>?_);refine zL ha ?_;intro cs hcs;refine wG ?_;refine X9 Zz Zz Zz (hq x (Zm hx) cs hcs) (fun c1=>?_) (fun c1=>?_)
  ·exact wR (h:=by rw [XO hh hx c1,Int.zero_add])
  exact wM (h:=by exact YF hh hx c1)
 exact wR (h:=by rw [Xm (Y6 hh Zi)])
theorem Ydp {l:List Lx.Predicate} {cap:List Value} {p:Lx.Predicate->Prop} [DecidablePred p] (h1:Sl predicateL fz A n c l) (hq:∀ x∈l,∀ cs,predicateL.rep fz x cs->QFn prog ff (.agg cs.toArray::cap) fz (Zo (decide (p x)))):
 QFn prog 111 [Zc A n c,.func (.func ff) #[] cap.toArray] fz (Zo (decide (∃ x∈l,p x))):=by
 refine qF Tryz.func111 Tryz.ntmps111 (fun w0=>?_);refine wc (YeU h1 hq) ?_;refine zC ?_ ?_<;>intro c1
 ·exact wR (h:=by exact Yq ((YY (Int.le_refl 0)).1 c1))
 exact wR (h:=by exact Yi (fun h=>c1 ((YY (Int.le_refl 0)).2 h)))
theorem YcF {l:List Lx.Function} {cap:List Value} {p:Lx.Function->Prop} [DecidablePred p] (h1:Sl functionL fz A n c l) (hq:∀ x∈l,∀ cs,functionL.rep fz x cs->QFn prog ff (.agg cs.toArray::cap) fz (Zo (decide (p x)))):
 QFn prog 176 [Zc A n c,.func (.func ff) #[] cap.toArray] fz (Zk (W4 p l 0)):=by
 refine qF Tryz.func176 Tryz.ntmps176 (fun w0=>?_);have l1:=h1.len;have hm:=h1.short;refine zW ?_;refine Wn n (fun k=>[(8,Zk k),(7,Zk n),(0,Zc A n c),(1,.func (.func ff) #[] cap.toArray)]) [] (fun k=>(∀ i,i<k->∀ x,l[i]?=some x->¬p x)) (fun i hi=>absurd hi Zi) ?_;intro k hk hh;refine wC (fun hlt=>?_) (fun hge=>?_)
 ·refine zW ?_;obtain ⟨x,hx⟩:=Ye (l:=l) (k:=k) Zi;refine zI h1 hx (fun a ha=>?_);refine zL ha ?_;intro cs hcs;refine wG ?_;refine X9 Zz Zz Zz (hq x (Zm hx) cs hcs) (fun c1=>?_) (fun c1=>?_)
  ·exact wR (h:=by rw [XO hh hx c1,Int.zero_add])
  exact wM (h:=by exact YF hh hx c1)
 exact wR (h:=by rw [Xm (Y6 hh Zi)])
theorem YdL {l:List Lx.Function} {cap:List Value} {p:Lx.Function->Prop} [DecidablePred p] (h1:Sl functionL fz A n c l) (hq:∀ x∈l,∀ cs,functionL.rep fz x cs->QFn prog ff (.agg cs.toArray::cap) fz (Zo (decide (p x)))):
 QFn prog 113 [Zc A n c,.func (.func ff) #[] cap.toArray] fz (Zo (decide (∃ x∈l,p x))):=by
 refine qF Tryz.func113 Tryz.ntmps113 (fun w0=>?_);refine wc (YcF h1 hq) ?_;refine zC ?_ ?_<;>intro c1
 ·exact wR (h:=by exact Yq ((YY (Int.le_refl 0)).1 c1))
 exact wR (h:=by exact Yi (fun h=>c1 ((YY (Int.le_refl 0)).2 h)))
theorem Ydr {l:List Lx.Action} {cap:List Value} {p:Lx.Action->Prop} [DecidablePred p] (h1:Sl actionL fz A n c l) (hq:∀ x∈l,∀ cs,actionL.rep fz x cs->QFn prog ff (.agg cs.toArray::cap) fz (Zo (decide (p x)))):
 QFn prog 133 [Zc A n c,.func (.func ff) #[] cap.toArray] fz (Zk (W4 p l 0)):=by
 refine qF Tryz.func133 Tryz.ntmps133 (fun w0=>?_);have l1:=h1.len;have hm:=h1.short;refine zW ?_;refine Wn n (fun k=>[(8,Zk k),(7,Zk n),(0,Zc A n c),(1,.func (.func ff) #[] cap.toArray)]) [] (fun k=>(∀ i,i<k->∀ x,l[i]?=some x->¬p x)) (fun i hi=>absurd hi Zi) ?_;intro k hk hh;refine wC (fun hlt=>?_) (fun hge=>?_)
 ·refine zW ?_;obtain ⟨x,hx⟩:=Ye (l:=l) (k:=k) Zi;refine zI h1 hx (fun a ha=>?_);refine zL ha ?_;intro cs hcs;refine wG ?_;refine X9 Zz Zz Zz (hq x (Zm hx) cs hcs) (fun c1=>?_) (fun c1=>?_)
  ·exact wR (h:=by rw [XO hh hx c1,Int.zero_add])
  exact wM (h:=by exact YF hh hx c1)
 exact wR (h:=by rw [Xm (Y6 hh Zi)])
theorem Ycb {l:List Lx.Action} {cap:List Value} {p:Lx.Action->Prop} [DecidablePred p] (h1:Sl actionL fz A n c l) (hq:∀ x∈l,∀ cs,actionL.rep fz x cs->QFn prog ff (.agg cs.toArray::cap) fz (Zo (decide (p x)))):
 QFn prog 57 [Zc A n c,.func (.func ff) #[] cap.toArray] fz (Zo (decide (∃ x∈l,p x))):=by
 refine qF Tryz.func57 Tryz.ntmps57 (fun w0=>?_);refine wc (Ydr h1 hq) ?_;refine zC ?_ ?_<;>intro c1
 ·exact wR (h:=by exact Yq ((YY (Int.le_refl 0)).1 c1))
 exact wR (h:=by exact Yi (fun h=>c1 ((YY (Int.le_refl 0)).2 h)))
theorem Yfu {l:List Lx.Durative} {cap:List Value} {p:Lx.Durative->Prop} [DecidablePred p] (h1:Sl durativeL fz A n c l) (hq:∀ x∈l,∀ cs,durativeL.rep fz x cs->QFn prog ff (.agg cs.toArray::cap) fz (Zo (decide (p x)))):
 QFn prog 134 [Zc A n c,.func (.func ff) #[] cap.toArray] fz (Zk (W4 p l 0)):=by
 refine qF Tryz.func134 Tryz.ntmps134 (fun w0=>?_);have l1:=h1.len;have hm:=h1.short;refine zW ?_;refine Wn n (fun k=>[(8,Zk k),(7,Zk n),(0,Zc A n c),(1,.func (.func ff) #[] cap.toArray)]) [] (fun k=>(∀ i,i<k->∀ x,l[i]?=some x->¬p x)) (fun i hi=>absurd hi Zi) ?_;intro k hk hh;refine wC (fun hlt=>?_) (fun hge=>?_)
 ·refine zW ?_;obtain ⟨x,hx⟩:=Ye (l:=l) (k:=k) Zi;refine zI h1 hx (fun a ha=>?_);refine zL ha ?_;intro cs hcs;refine wG ?_;refine X9 Zz Zz Zz (hq x (Zm hx) cs hcs) (fun c1=>?_) (fun c1=>?_)
  ·exact wR (h:=by rw [XO hh hx c1,Int.zero_add])
  exact wM (h:=by exact YF hh hx c1)
 exact wR (h:=by rw [Xm (Y6 hh Zi)])
theorem Ybw {l:List Lx.Durative} {cap:List Value} {p:Lx.Durative->Prop} [DecidablePred p] (h1:Sl durativeL fz A n c l) (hq:∀ x∈l,∀ cs,durativeL.rep fz x cs->QFn prog ff (.agg cs.toArray::cap) fz (Zo (decide (p x)))):
 QFn prog 59 [Zc A n c,.func (.func ff) #[] cap.toArray] fz (Zo (decide (∃ x∈l,p x))):=by
 refine qF Tryz.func59 Tryz.ntmps59 (fun w0=>?_);refine wc (Yfu h1 hq) ?_;refine zC ?_ ?_<;>intro c1
 ·exact wR (h:=by exact Yq ((YY (Int.le_refl 0)).1 c1))
 exact wR (h:=by exact Yi (fun h=>c1 ((YY (Int.le_refl 0)).2 h)))
def LtP (f:Formula):Prop:=f.op=kAtom\/f.op=kSame
mutual
/-- a conjunction of literals -/
def LitP:Formula->Prop
 | .mk op _ _ _ _ kids=>(op=kNot/\∃ k,kids=[k]/\LtP k)\/(op=kAnd/\LitPL kids)\/op=kAtom\/op=kSame
def LitPL:List Formula->Prop
 | []=>True
 | k::r=>LitP k/\LitPL r
end
theorem Yj3:∀ {l:List Formula},LitPL l↔∀ x∈l,LitP x
 | []=>by simp [LitPL]
 | k::r=>by rw [LitPL,Yj3 (l:=r)];simp
theorem Ylk (f:Formula):LitP f↔(f.op=kNot/\∃ k,f.kids=[k]/\LtP k)\/(f.op=kAnd/\∀ x∈f.kids,LitP x)\/LtP f:=by cases f;rw [LitP,Yj3];rfl
theorem litP_not {f:Formula} (h:f.op=kNot):LitP f↔∃ k,f.kids=[k]/\LtP k:=by
 rw [Ylk];constructor
 ·rintro (h1 | h1 | h1)
  ·exact h1.2
  ·rw [h] at h1;exact absurd h1.1 Zh
  unfold LtP at h1;rw [h] at h1;exact absurd h1 Zh
 intro h1;exact .inl ⟨h,h1⟩
theorem Ymo {f:Formula} (h:f.op=kAnd):LitP f↔∀ x∈f.kids,LitP x:=by
 rw [Ylk];constructor
 ·rintro (h1 | h1 | h1)
  ·rw [h] at h1;exact absurd h1.1 Zh
  ·exact h1.2
  unfold LtP at h1;rw [h] at h1;exact absurd h1 Zh
 intro h1;exact .inr (.inl ⟨h,h1⟩)
theorem Ymn {f:Formula} (h1:¬f.op=kNot) (h2:¬f.op=kAnd):LitP f↔LtP f:=by
 rw [Ylk];exact ⟨fun h=>h.elim (fun h=>absurd h.1 h1) (fun h=>h.elim (fun h=>absurd h.1 h2) id),fun h=>.inr (.inr h)⟩
theorem lt1_q {f:Formula} (hR:FormulaR fz f va vp ve vk):
 QFn prog 268 [.agg #[Zy f.op,Zy f.name,va,vp,ve,vk]] fz (Zo (decide (LtP f))):=by
 refine qF Tryz.func268 Tryz.ntmps268 (fun w0=>?_);refine pX (fun g0=>?_);refine vC ?_ ?_<;>intro x1
 ·exact vR (h:=by exact Yq (.inl x1))
 refine vC ?_ ?_<;>intro x2
 ·exact vR (h:=by exact Yq (.inr x2))
 exact vR (h:=by exact Yi (fun h=>h.elim x1 x2))
theorem lit2_q {f:Formula} (h:QFn prog 241 [.agg #[Zy f.op,Zy f.name,va,vp,ve,vk]] fz (Zo (decide (LitP f)))):
 QFn prog 269 [.agg #[Zy f.op,Zy f.name,va,vp,ve,vk]] fz (Zo (decide (¬LitP f))):=by
 refine qF Tryz.func269 Tryz.ntmps269 (fun w0=>?_);refine pX (fun g1=>?_);refine vc h ?_;exact vR (h:=by rw [decide_not])
theorem lit_f:∀ (s:Nat) {fz:FZ} {f:Formula} {va vp ve vk:Value},SizeOf.sizeOf f<=s->FormulaR fz f va vp ve vk->
 QFn prog 241 [.agg #[Zy f.op,Zy f.name,va,vp,ve,vk]] fz (Zo (decide (LitP f)))
 | 0,_,f,_,_,_,_,hse,_=>by cases f;simp at hse
 | s+1,fz,f,va,vp,ve,vk,hse,hR=>by
  have hR0:=hR;obtain ⟨⟨B1,m1,d1,rfl,ia⟩,⟨B2,m2,d2,rfl,ip⟩,⟨B3,m3,d3,rfl,ie⟩,⟨B4,m4,d4,rfl,ik⟩⟩:=hR.sls;have l4:=ik.len;refine qF Tryz.func241 Tryz.ntmps241 (fun w0=>?_);refine pX (fun g0=>?_);refine zWO ?_;by_cases hno:f.op=kNot
  ·have w:=litP_not hno;refine vC ?_ ?_<;>intro x1
   ·have h1:f.kids.length=1:=by omega
    obtain ⟨k,hk⟩:∃ k,f.kids=[k]:=by
     match hkk:f.kids,h1 with
     | [k],_=>exact ⟨k,rfl⟩
    refine vG ?_;refine Ya0 T 0 Zz Zz Zz Zz Zz Zz ik (by first | rfl | omega) (by rw [hk];rfl:f.kids[0]?=some k) (fun p1 hp1=>?_);refine zL hp1 ?_;intro cs hcs;obtain ⟨wa,wp,we,wk,rfl,hRx⟩:=Yx hcs;refine vv (lt1_q hRx) ?_;refine zV ?_
    (exact ret1 rfl rfl Zb (by
     by_cases hl:LtP k
     ·rw [decide_eq_true hl,decide_eq_true (w.2 ⟨k,hk,hl⟩)]
     rw [decide_eq_false hl,decide_eq_false (fun h=>by obtain ⟨k',hk',hl'⟩:=w.1 h;rw [hk] at hk';injection hk' with hk';subst hk';exact hl hl')]))
   exact vR (h:=by exact Yi (fun h=>by obtain ⟨k,hk,_⟩:=w.1 h;rw [hk] at l4;simp at l4;exact x1 Zi))
  by_cases han:f.op=kAnd
  ·have w:=Ymo han;refine zV ?_
   ((refine zG ?_);refine Yt (XJ (cap:=[]) (p:=fun k=>¬LitP k) ik (fun x hx cs hcs=>by
    obtain ⟨wa,wp,we,wk,rfl,hRx⟩:=Yx hcs;exact lit2_q (lit_f s (by have:=Lx.Formula.kids_lt hx;omega) hRx))) ?_)
   refine zV ?_
   (exact ret1 rfl rfl Zb (by
    by_cases hl:∀ x∈f.kids,LitP x
    ·rw [decide_eq_true (w.2 hl),decide_eq_false (fun ⟨x,hx,h0⟩=>h0 (hl x hx))];rfl
    rw [decide_eq_false (fun h=>hl (w.1 h)),decide_eq_true (by simpa using hl)];rfl))
  have w:=Ymn hno han;refine vv (lt1_q hR0) ?_;refine zV ?_
  (exact ret1 rfl rfl Zb (by
   by_cases hl:LtP f
   ·rw [decide_eq_true hl,decide_eq_true (w.2 hl)]
   rw [decide_eq_false hl,decide_eq_false (fun h=>hl (w.1 h))]))
theorem lit_q {f:Formula} (hR:FormulaR fz f va vp ve vk):
 QFn prog 241 [.agg #[Zy f.op,Zy f.name,va,vp,ve,vk]] fz (Zo (decide (LitP f))):=lit_f _ (Zs _) hR
def YaD (d:Domain) (all vars:List Param) (f:Formula):Int:=if LitP f then formM d all vars f else 2
theorem YgY {p:Problem} {f:Formula} (h:CkG fz v d p all) (h1:Sl paramL fz A n c vars) (hR:FormulaR fz f va vp ve vk) (hW:n+fW f<=1000000000):
 QFn prog 197 [v,Zc A n c,.agg #[Zy f.op,Zy f.name,va,vp,ve,vk]] fz (errV (YaD d all vars f)):=by
 refine qF Tryz.func197 Tryz.ntmps197 (fun w0=>?_);refine pX (fun g0=>?_);refine vb (lit_q hR) (fun f1=>?_) (fun f1=>?_)
 ·refine vc (Yi5 h h1 hR hW) ?_;exact vR (h:=by rw [YaD,if_pos (Zt f1)])
 exact vR (h:=by rw [YaD,if_neg (Zf f1)];rfl)
def YhZ (x:Change):Prop:=x.params=[]/\x.when_=Xo
def NumC (x:Change):Prop:=x.kind≠1/\x.kind≠2
def YaQ (d:Domain) (all vars:List Param) (x:Change) (du:Bool):Int:=
 if ¬YhZ x/\(NumC x\/du=true) then 6
 else if TwP (parN vars) (parN x.params) then 4
 else if ¬ExP d.types x.params then 3
 else if formM d all (vars++x.params) x.when_≠0 then formM d all (vars++x.params) x.when_
 else if ¬NumC x then atomM d all (vars++x.params) x.name x.args
 else if fluM d all (vars++x.params) x.name x.args≠0 then fluM d all (vars++x.params) x.name x.args
 else exprM d all (vars++x.params) x.value
theorem YmO {x:Change} {du:Bool} (h1:¬(¬YhZ x/\(NumC x\/du=true))) (h2:¬TwP (parN vars) (parN x.params)) (h3:ExP d.types x.params):
 YaQ d all vars x du=if formM d all (vars++x.params) x.when_≠0 then formM d all (vars++x.params) x.when_
  else if ¬NumC x then atomM d all (vars++x.params) x.name x.args
  else if fluM d all (vars++x.params) x.name x.args≠0 then fluM d all (vars++x.params) x.name x.args
  else exprM d all (vars++x.params) x.value:=by rw [YaQ,if_neg h1,if_neg h2,if_neg (by simpa using h3)]
theorem Yp3 {p:Problem} {x:Change} {du:Bool} (h:CkG fz v d p all) (h1:Sl paramL fz A n c vars) (hRc:changeL.rep fz x cs) (hW:n+Y2 x<=1000000000):
 QFn prog 240 [v,Zc A n c,.agg cs.toArray,Zo du] fz (errV (YaQ d all vars x du)):=by
 have h0:=h;obtain ⟨⟨vf,vpp,vg,vo,hck,hF,hPr,hFu,hO⟩,hw⟩:=h;have hck0:=hck;obtain ⟨gc,w1,w2,w3,w4,w5,w6,u1,u2,u3,u4,u5,u6,u7,Aa,na,ca,rfl,hc,hD,hP,hall⟩:=hck;obtain ⟨v1,v2,v3,v4,v5,v6,v7,v8,rfl,hR⟩:=Xf hRc;obtain ⟨A1,n1,b1,rfl,ip⟩:=hR.params;have hwh:=hR.when_;have hva:=hR.value;obtain ⟨⟨A2,n2,b2,rfl,_⟩,⟨A3,n3,b3,rfl,_⟩,⟨A4,n4,b4,rfl,_⟩,⟨A5,n5,b5,rfl,_⟩⟩:=hR.when_.sls;obtain ⟨A6,n6,b6,rfl,ia⟩:=hR.args;obtain ⟨⟨A7,n7,b7,rfl,_⟩,⟨A8,n8,b8,rfl,_⟩⟩:=hR.value.sls;have l1:=ip.len;have ln:=h1.len;have hWp:n+x.params.length+fW x.when_<=1000000000:=by unfold Y2 at hW;omega
 refine qF Tryz.func240 Tryz.ntmps240 (fun w0=>?_);refine pX (fun g0=>?_);refine zWO ?_;refine YL (Y8 (fun σ fz' H'=>∃ bb:Bool,σ=[(9,Zo bb),(6,Zp g0),(0,Zp gc),(1,Zc A n c),(3,Zo du)]/\fz=fz'/\H'=[(g0,Zu #[Zk x.kind,Zc A1 n1 b1,Zy x.when_.op,Zy x.when_.name,Zc A2 n2 b2,Zc A3 n3 b3,Zc A4 n4 b4,Zc A5 n5 b5,Zy x.name,Zc A6 n6 b6,Zy x.value.op,Zy x.value.name,Zk x.value.n,Zc A7 n7 b7,Zc A8 n8 b8] 95)]/\(bb=true↔YhZ x)) ?_ ?_)
 ·refine vC ?_ ?_<;>intro x1
  ·have hnil:x.params=[]:=List.eq_nil_of_length_eq_zero Zi;refine vG ?_;refine Yg (vs:=[Zy x.when_.op,Zy x.when_.name,Zc A2 n2 b2,Zc A3 n3 b3,Zc A4 n4 b4,Zc A5 n5 b5]) 0 ?_;refine vb (Yf0 hwh Ycn) (fun f1=>?_) (fun f1=>?_)
   ·exact vN (h:=by exact ⟨true,rfl,rfl,rfl,iff_of_true rfl ⟨hnil,Zt f1⟩⟩)
   exact vN (h:=by exact ⟨false,rfl,rfl,rfl,iff_of_false (by simp) (fun h=>Zf f1 h.2)⟩)
  exact vN (h:=by exact ⟨false,rfl,rfl,rfl,iff_of_false (by simp) (fun h=>x1 (by rw [h.1] at l1;simp at l1;omega))⟩)
 rintro σ fz' H' ⟨bb,rfl,rfl,rfl,hbb⟩;refine YL (Y8 (fun σ fz' H'=>∃ nn:Bool,σ=[(10,Zo nn),(9,Zo bb),(6,Zp g0),(0,Zp gc),(1,Zc A n c),(3,Zo du)]/\fz=fz'/\H'=[(g0,Zu #[Zk x.kind,Zc A1 n1 b1,Zy x.when_.op,Zy x.when_.name,Zc A2 n2 b2,Zc A3 n3 b3,Zc A4 n4 b4,Zc A5 n5 b5,Zy x.name,Zc A6 n6 b6,Zy x.value.op,Zy x.value.name,Zk x.value.n,Zc A7 n7 b7,Zc A8 n8 b8] 95)]/\(nn=true↔NumC x)) ?_ ?_)
 ·refine vC ?_ ?_<;>intro x1
  ·refine vC ?_ ?_<;>intro x2
   ·exact vN (h:=by exact ⟨true,rfl,rfl,rfl,iff_of_true rfl ⟨x1,x2⟩⟩)
   exact vN (h:=by exact ⟨false,rfl,rfl,rfl,iff_of_false (by simp) (fun h=>h.2 Zi)⟩)
  exact vN (h:=by exact ⟨false,rfl,rfl,rfl,iff_of_false (by simp) (fun h=>h.1 Zi)⟩)
 rintro σ fz' H' ⟨nn,rfl,rfl,rfl,hnn⟩;by_cases hbad:¬YhZ x/\(NumC x\/du=true)
 ·have e1:YaQ d all vars x du=6:=if_pos hbad;obtain rfl:bb=false:=by cases bb with | false=>rfl | true=>exact absurd (hbb.1 rfl) hbad.1
  cases nn with
  | true=>
   exact vR (h:=by rw [e1];rfl)
  | false=>
   obtain rfl:du=true:=hbad.2.elim (fun h=>by have:=hnn.2 h;cases this) id;exact vR (h:=by rw [e1];rfl)
 refine YL (Y8 (fun σ fz' H'=>σ=[(10,Zo nn),(6,Zp g0),(0,Zp gc),(1,Zc A n c)]/\fz=fz'/\H'=[(g0,Zu #[Zk x.kind,Zc A1 n1 b1,Zy x.when_.op,Zy x.when_.name,Zc A2 n2 b2,Zc A3 n3 b3,Zc A4 n4 b4,Zc A5 n5 b5,Zy x.name,Zc A6 n6 b6,Zy x.value.op,Zy x.value.name,Zk x.value.n,Zc A7 n7 b7,Zc A8 n8 b8] 95)]) ?_ ?_)
 ·cases bb with
  | true=>
   exact vN (h:=by exact ⟨rfl,rfl,rfl⟩)
  | false=>
   have hp:¬YhZ x:=fun h=>by have:=hbb.2 h;cases this
   obtain rfl:nn=false:=by cases nn with | false=>rfl | true=>exact absurd ⟨hp,.inl (hnn.1 rfl)⟩ hbad
   obtain rfl:du=false:=by cases du with | false=>rfl | true=>exact absurd ⟨hp,.inr rfl⟩ hbad
   exact vN (h:=by exact ⟨rfl,rfl,rfl⟩)
 rintro σ fz' H' ⟨rfl,rfl,rfl⟩;refine vc (Yk0 ip h1) ?_;by_cases ht:TwP (parN vars) (parN x.params)
 ·rw [if_pos ht,show errV 4=.iface 84 (Zk 4) from rfl];exact vR (h:=by rw [YaQ,if_neg hbad,if_pos ht];rfl)
 rw [if_neg ht,show errV 0=.nilIface from rfl];refine vc (Yly hck0 hF ip) ?_;by_cases hx:ExP d.types x.params
 ·have e1:=YmO (all:=all) (du:=du) hbad ht hx;rw [if_pos hx,show errV 0=.nilIface from rfl];refine zV ?_;refine Y0 [_] ?_;refine zW ?_;refine Yk ?_;refine zW ?_;refine pU ?_;refine Yf (Yj [] [_] Zz (Ybg h1 Zi) (fun v6 fz6 H6 hle6 hR6=>⟨⟨hle6,Zx⟩,?_⟩));obtain ⟨Av,cv,rfl,_,_⟩:=hR6.form;refine Yf (XT T (Hr:=[_]) Zz Zz Zz Zz Zz Zz Zz Zz Zq hR6 Yat (ip.mono hle6) (by show _*32<=_;omega) Zi (fun v7 H7 hO7=>⟨⟨hle6,Zx⟩,?_⟩));obtain ⟨Aw,cw,rfl,_,_⟩:=hO7.form;refine Ch.qk ⟨hle6,Zx⟩ (YO ?_);refine Ch.done ?_;refine Ydl ?_;refine Wp.freezeAll (H1:=[_]) (H2:=H7) (Zr _) (fun fz8 hle8 hf8=>?_);obtain ⟨A8,c8,e8,h8⟩:=hO7.sl hle8 hf8 Zi;injection e8 with e81 e82 e83
  subst e81;subst e83;have hle:=hle6.trans hle8;have h0':=h0.mono hle;have ia':=ia.mono hle;have hwh':=hwh.mono hle;have hva':=hva.mono hle;have hcg:=hle _ _ hc;refine vG ?_;refine Yg (vs:=[Zy x.when_.op,Zy x.when_.name,Zc A2 n2 b2,Zc A3 n3 b3,Zc A4 n4 b4,Zc A5 n5 b5]) 0 ?_;refine vG ?_;refine Yt (Yi5 h0' h8 hwh' Zi) ?_;by_cases hz:formM d all (vars++x.params) x.when_=0
  ·have e2:=e1;rw [hz,if_neg Zh] at e2;rw [hz,show errV 0=.nilIface from rfl];cases nn with
   | false=>
    have hn:¬NumC x:=fun h=>by have:=hnn.2 h;cases this
    refine vc (YlG h0' h8 ia') ?_;exact vR (h:=by rw [e2,if_pos hn])
   | true=>
    have hn:NumC x:=hnn.1 rfl;refine vc (Yg1 h0' h8 ia') ?_;by_cases hy:fluM d all (vars++x.params) x.name x.args=0
    ·rw [hy,show errV 0=.nilIface from rfl];refine vG ?_;refine Yg (vs:=[Zy x.value.op,Zy x.value.name,Zk x.value.n,Zc A7 n7 b7,Zc A8 n8 b8]) 0 ?_;refine vc (Yp1 h0' h8 hva') ?_;exact vR (h:=by rw [e2,if_neg (by simpa using hn),hy,if_neg Zh])
    rw [YA hy];exact vR (h:=by rw [e2,if_neg (by simpa using hn),if_pos hy,YA hy])
  rw [YA hz];exact vR (h:=by rw [e1,if_pos hz,YA hz])
 rw [if_neg hx,show errV 3=.iface 84 (Zk 3) from rfl];exact vR (h:=by rw [YaQ,if_neg hbad,if_neg ht,if_pos (by simpa using hx)];rfl)
def Yay {α:Type} (E:α->Int):List α->Int
 | []=>0
 | x::r=>if E x=0 then Yay E r else E x
theorem YgP {α:Type} {E:α->Int}:∀ {l:List α} {k:Nat} {x:α},l[k]?=some x->(∀ i,i<k->∀ y,l[i]?=some y->E y=0)->E x≠0->Yay E l=E x
 | [],k,x,h,_,_=>by simp at h
 | y::l,0,x,h,_,hx=>by simp at h;subst h;rw [Yay,if_neg hx]
 | y::l,k+1,x,h,hh,hx=>by
  rw [Yay,if_pos (hh 0 Zi y rfl)];exact YgP (k:=k) (by simpa using h) (fun i hi z hz=>hh (i+1) Zi z (by simpa using hz)) hx
theorem YdH {α:Type} {E:α->Int}:∀ {l:List α},(∀ y∈l,E y=0)->Yay E l=0
 | [],_=>rfl
 | y::l,h=>by rw [Yay,if_pos (h y (by simp))];exact YdH (fun z hz=>h z (by simp [hz]))
def XY (d:Domain) (all vars:List Param) (l:List Change) (du:Bool):Int:=Yay (fun x=>YaQ d all vars x du) l
theorem YhX {p:Problem} {l:List Change} {m b:Nat} {du:Bool} (h:CkG fz v d p all) (h1:Sl paramL fz A n c vars) (h2:Sl changeL fz B m b l) (hW:∀ x∈l,n+Y2 x<=1000000000):
 QFn prog 196 [v,Zc A n c,Zc B m b,Zo du] fz (errV (XY d all vars l du)):=by
 have h0:=h;obtain ⟨⟨vf,vpp,vg,vo,hck,hF,hPr,hFu,hO⟩,hw⟩:=h;obtain ⟨gc,w1,w2,w3,w4,w5,w6,u1,u2,u3,u4,u5,u6,u7,Aa,na,ca,rfl,hc,hD,hP,hall⟩:=hck;have l2:=h2.len;have s2:=h2.short;refine qF Tryz.func196 Tryz.ntmps196 (fun w0=>?_);refine zV ?_;refine Wn m (fun k=>[(14,Zk k),(13,Zk m),(12,Zc B m b),(0,Zp gc),(1,Zc A n c),(3,Zo du)]) [] (fun k=>(∀ i,i<k->∀ y,l[i]?=some y->YaQ d all vars y du=0)) (fun i hi=>absurd hi Zi) ?_;intro k hk hh;refine vC ?_ ?_<;>intro c1
 ·obtain ⟨x,hx⟩:=Ye (l:=l) (k:=k) Zi;refine vI h2 hx (fun p1 hp1=>?_);refine zL hp1 ?_;intro cs hcs;have hcs0:=hcs;obtain ⟨v1,v2,v3,v4,v5,v6,v7,v8,rfl,hR⟩:=Xf hcs;obtain ⟨A1,n1,b1,rfl,_⟩:=hR.params;obtain ⟨⟨A2,n2,b2,rfl,_⟩,⟨A3,n3,b3,rfl,_⟩,⟨A4,n4,b4,rfl,_⟩,⟨A5,n5,b5,rfl,_⟩⟩:=hR.when_.sls;obtain ⟨A6,n6,b6,rfl,_⟩:=hR.args;obtain ⟨⟨A7,n7,b7,rfl,_⟩,⟨A8,n8,b8,rfl,_⟩⟩:=hR.value.sls;refine zV ?_;intros;refine zc (Yp3 h0 h1 hcs0 (hW x (Zm hx))) ?_;by_cases hz:YaQ d all vars x du=0
  ·rw [hz,show errV 0=.nilIface from rfl];exact vM (h:=by exact YF hh hx hz)
  rw [YA hz];exact vR (h:=by rw [XY,YgP (E:=fun x=>YaQ d all vars x du) hx hh hz,YA hz])
 have hA:=Y6 hh Zi;exact vR (h:=by rw [XY,YdH hA];rfl)
def YlE (d:Domain):Bs × Int:=match d.duratives with
 | []=>(⟨#[]⟩,0)
 | _::_=>match d.actions with
  | a::_=>(Wr++a.name,6)
  | []=>match d.functions with
   | f::_=>(Xx++f.name,6)
   | []=>(⟨#[]⟩,0)
theorem get0 {α:Type} {l:List α} (h:0<l.length):∃ x r,l=x::r:=by cases l with
 | nil=>simp at h
 | cons x r=>exact ⟨x,r,rfl⟩
theorem cknd_q {p:Problem} {vf vg vo:Value} (h:CkR fz v d p all vf vp vg vo) (hs:NmS d all):
 QFn prog 123 [v] fz (resV (YlE d)):=by
 obtain ⟨gc,v1,v2,v3,v4,v5,v6,u1,u2,u3,u4,u5,u6,u7,Aa,na,ca,rfl,hc,hD,hP,hall⟩:=h;obtain ⟨⟨A1,n1,b1,rfl,i1⟩,⟨A2,n2,b2,rfl,i2⟩,⟨A3,n3,b3,rfl,i3⟩,⟨A4,n4,b4,rfl,i4⟩,⟨A5,n5,b5,rfl,i5⟩,⟨A6,n6,b6,rfl,i6⟩⟩:=hD.sls;have l3:=i3.len;have l4:=i4.len;have l5:=i5.len;have l6:=i6.len;have la:=hall.len;have s3:=i3.short;have s4:=i4.short;have s5:=i5.short;have s6:=i6.short;have sa:=hall.short;refine qF Tryz.func123 Tryz.ntmps123 (fun w0=>?_);refine vC ?_ ?_<;>intro c1
 ·have h0:d.duratives=[]:=List.eq_nil_of_length_eq_zero Zi;exact vS (h:=by exact (by rw [YlE,h0];rfl))
 obtain ⟨u,r,h0⟩:=get0 (l:=d.duratives) Zi;refine vC ?_ ?_<;>intro c2
 ·obtain ⟨x,r2,h2⟩:=get0 (l:=d.actions) Zi;have hxs:=hs.a x (by rw [h2];simp);have hx:d.actions[0]?=some x:=by rw [h2];rfl
  refine vI i5 hx (fun p1 hp=>?_);refine vH hp.Action_name (fun hxn=>?_);refine zG ?_;refine XU Zz Zz (by show _+_<=_;exact Nat.le_trans (Nat.add_le_add_left hxs _) Zh) ?_;exact vS (h:=by exact (by rw [YlE,h0,h2];rfl))
 have h2:d.actions=[]:=List.eq_nil_of_length_eq_zero Zi;refine vC ?_ ?_<;>intro c3
 ·obtain ⟨x,r3,h3⟩:=get0 (l:=d.functions) Zi;have hxs:=hs.f x (by rw [h3];simp);have hx:d.functions[0]?=some x:=by rw [h3];rfl
  refine vI i4 hx (fun p1 hp=>?_);refine vH hp.Function_name (fun hxn=>?_);refine zG ?_;refine XU Zz Zz (by show _+_<=_;exact Nat.le_trans (Nat.add_le_add_left hxs _) Zh) ?_;exact vS (h:=by exact (by rw [YlE,h0,h2,h3];rfl))
 have h3:d.functions=[]:=List.eq_nil_of_length_eq_zero Zi;exact vS (h:=by exact (by rw [YlE,h0,h2,h3];rfl))
def codeF (f:Function):Int:=if f.hi<f.lo then 7 else if 64<=f.hi - f.lo then 5 else 0
def Yi1 (a:Action):Int:=if 1048576<a.cost then 1 else 0
def Yho (a:Durative):Int:=if a.duration<1\/62<a.duration then 1 else 0
def numsL (d:Domain):List (Bs × Int):=
 d.functions.map (fun x=>(Xx++x.name,codeF x))++(d.actions.map (fun x=>(Wr++x.name,Yi1 x))++(d.duratives.map (fun x=>(Xy++x.name,Yho x))++ []))
theorem YoN {p:Problem} {vf vg vo:Value} (h:CkR fz v d p all vf vp vg vo) (hs:NmS d all) (hn:∀ f∈d.functions,Yeq f.lo/\Yeq f.hi):
 QFn prog 124 [v] fz (resV (Y5 (fun n=>n) (numsL d))):=by
 obtain ⟨gc,v1,v2,v3,v4,v5,v6,u1,u2,u3,u4,u5,u6,u7,Aa,na,ca,rfl,hc,hD,hP,hall⟩:=h;obtain ⟨⟨A1,n1,b1,rfl,i1⟩,⟨A2,n2,b2,rfl,i2⟩,⟨A3,n3,b3,rfl,i3⟩,⟨A4,n4,b4,rfl,i4⟩,⟨A5,n5,b5,rfl,i5⟩,⟨A6,n6,b6,rfl,i6⟩⟩:=hD.sls;have l3:=i3.len;have l4:=i4.len;have l5:=i5.len;have l6:=i6.len;have la:=hall.len;have s3:=i3.short;have s4:=i4.short;have s5:=i5.short;have s6:=i6.short;have sa:=hall.short;refine qF Tryz.func124 Tryz.ntmps124 (fun w0=>?_);refine zV ?_;refine Wn n4 (fun k=>[(16,Zk k),(15,Zk n4),(14,Zc A4 n4 b4),(0,Zp gc)]) [] (fun k=>(∀ i,i<k->∀ x,d.functions[i]?=some x->codeF x=0)) (fun i hi=>absurd hi Zi) ?_;intro k hk hh;refine vC ?_ ?_<;>intro c1
 ·obtain ⟨x,hx⟩:=Ye (l:=d.functions) (k:=k) Zi;have hxm:=Zm hx;have hxs:=hs.f x hxm;refine vI i4 hx (fun p1 hp=>?_);refine zL hp ?_;intro cs hcs;obtain ⟨w1,rfl,hR⟩:=Xp hcs;obtain ⟨Ap,np,cp,rfl,ip⟩:=hR.params;have hnx:=hn x hxm;obtain ⟨hn1,hn2⟩:=hnx;unfold Yeq at hn1 hn2;refine zV ?_;intros;refine zC ?_ ?_<;>intro e1
  ·have e1:=e1;have hz:codeF x=7:=if_pos e1;refine vG ?_;refine XU Zz Zz (by show _+_<=_;exact Nat.le_trans (Nat.add_le_add_left hxs _) Zh) ?_;exact vS (h:=by exact (by rw [numsL,Wy (l:=d.functions) (E:=fun n=>n) (f:=fun x=>Xx++x.name) (g:=codeF) hx hh (by rw [hz];decide),hz];rfl))
  refine vC ?_ ?_<;>intro e2
  ·have e2:=e2;have hz:codeF x=5:=by rw [codeF,if_neg e1,if_pos e2]
   refine vG ?_;refine XU Zz Zz (by show _+_<=_;exact Nat.le_trans (Nat.add_le_add_left hxs _) Zh) ?_;exact vS (h:=by exact (by rw [numsL,Wy (l:=d.functions) (E:=fun n=>n) (f:=fun x=>Xx++x.name) (g:=codeF) hx hh (by rw [hz];decide),hz];rfl))
  have e2:=e2;have hz:codeF x=0:=by rw [codeF,if_neg e1,if_neg e2]
  exact vM (h:=by exact YF hh hx hz)
 have hzf:=fun x (hx:x∈d.functions)=>(by obtain ⟨i,hi⟩:=List.getElem?_of_mem hx;exact Y6 hh Zi x hx:codeF x=0)
 refine zV ?_;refine Wn n5 (fun k=>[(48,Zk k),(47,Zk n5),(46,Zc A5 n5 b5),(0,Zp gc)]) [] (fun k=>(∀ i,i<k->∀ x,d.actions[i]?=some x->Yi1 x=0)) (fun i hi=>absurd hi Zi) ?_;intro k hk hh;refine vC ?_ ?_<;>intro c1
 ·obtain ⟨x,hx⟩:=Ye (l:=d.actions) (k:=k) Zi;have hxm:=Zm hx;have hxs:=hs.a x hxm;refine vI i5 hx (fun p1 hp=>?_);refine zL hp ?_;intro cs hcs;obtain ⟨w1,w2,w3,w4,w5,w6,rfl,hR⟩:=Xg hcs;obtain ⟨Ap,np,cp,rfl,ip⟩:=hR.params;obtain ⟨⟨B0,e0,j0,rfl,_⟩,⟨B1,e1,j1,rfl,_⟩,⟨B2,e2,j2,rfl,_⟩,⟨B3,e3,j3,rfl,_⟩⟩:=hR.pre.sls;obtain ⟨B4,e4,j4,rfl,_⟩:=hR.changes;refine zV ?_;intros;refine zC ?_ ?_<;>intro e1
  ·have e1:=e1;have hz:Yi1 x=1:=if_pos e1;refine vG ?_;refine XU Zz Zz (by show _+_<=_;exact Nat.le_trans (Nat.add_le_add_left hxs _) Zh) ?_;exact vS (h:=by exact (by rw [numsL,YZ (l:=d.functions) (E:=fun n=>n) (f:=fun x=>Xx++x.name) (g:=codeF) hzf,Wy (l:=d.actions) (E:=fun n=>n) (f:=fun x=>Wr++x.name) (g:=Yi1) hx hh (by rw [hz];decide),hz];rfl))
  have e1:=e1;have hz:Yi1 x=0:=if_neg e1;exact vM (h:=by exact YF hh hx hz)
 have hza:=fun x (hx:x∈d.actions)=>(by obtain ⟨i,hi⟩:=List.getElem?_of_mem hx;exact Y6 hh Zi x hx:Yi1 x=0)
 refine zV ?_;refine Wn n6 (fun k=>[(66,Zk k),(65,Zk n6),(64,Zc A6 n6 b6)]) [] (fun k=>(∀ i,i<k->∀ x,d.duratives[i]?=some x->Yho x=0)) (fun i hi=>absurd hi Zi) ?_;intro k hk hh;refine vC ?_ ?_<;>intro c1
 ·obtain ⟨x,hx⟩:=Ye (l:=d.duratives) (k:=k) Zi;have hxm:=Zm hx;have hxs:=hs.u x hxm;refine vI i6 hx (fun p1 hp=>?_);refine zL hp ?_;intro cs hcs;obtain ⟨w0,w1,w2,w3,w4,w5,w6,w7,w8,w9,w10,w11,w12,w13,w14,rfl,hR⟩:=XG hcs;obtain ⟨Ap,np,cp,rfl,ip⟩:=hR.params;obtain ⟨⟨B0,e0,j0,rfl,_⟩,⟨B1,e1,j1,rfl,_⟩,⟨B2,e2,j2,rfl,_⟩,⟨B3,e3,j3,rfl,_⟩⟩:=hR.start.sls;obtain ⟨⟨B4,e4,j4,rfl,_⟩,⟨B5,e5,j5,rfl,_⟩,⟨B6,e6,j6,rfl,_⟩,⟨B7,e7,j7,rfl,_⟩⟩:=hR.over.sls;obtain ⟨⟨B8,e8,j8,rfl,_⟩,⟨B9,e9,j9,rfl,_⟩,⟨B10,e10,j10,rfl,_⟩,⟨B11,e11,j11,rfl,_⟩⟩:=hR.fin.sls;obtain ⟨B12,e12,j12,rfl,_⟩:=hR.atStart;obtain ⟨B13,e13,j13,rfl,_⟩:=hR.atEnd;refine zV ?_;intros;refine zC ?_ ?_<;>intro e1
  ·have e1:=e1;have hz:Yho x=1:=if_pos (.inl e1);refine vG ?_;refine XU Zz Zz (by show _+_<=_;exact Nat.le_trans (Nat.add_le_add_left hxs _) Zh) ?_;exact vS (h:=by exact (by rw [numsL,YZ (l:=d.functions) (E:=fun n=>n) (f:=fun x=>Xx++x.name) (g:=codeF) hzf,YZ (l:=d.actions) (E:=fun n=>n) (f:=fun x=>Wr++x.name) (g:=Yi1) hza,Wy (l:=d.duratives) (E:=fun n=>n) (f:=fun x=>Xy++x.name) (g:=Yho) hx hh (by rw [hz];decide),hz];rfl))
  refine vC ?_ ?_<;>intro e2
  ·have e2:=e2;have hz:Yho x=1:=if_pos (.inr e2);refine vG ?_;refine XU Zz Zz (by show _+_<=_;exact Nat.le_trans (Nat.add_le_add_left hxs _) Zh) ?_;exact vS (h:=by exact (by rw [numsL,YZ (l:=d.functions) (E:=fun n=>n) (f:=fun x=>Xx++x.name) (g:=codeF) hzf,YZ (l:=d.actions) (E:=fun n=>n) (f:=fun x=>Wr++x.name) (g:=Yi1) hza,Wy (l:=d.duratives) (E:=fun n=>n) (f:=fun x=>Xy++x.name) (g:=Yho) hx hh (by rw [hz];decide),hz];rfl))
  have e2:=e2;have hz:Yho x=0:=if_neg (fun h=>h.elim e1 e2);exact vM (h:=by exact YF hh hx hz)
 have hzu:=fun x (hx:x∈d.duratives)=>(by obtain ⟨i,hi⟩:=List.getElem?_of_mem hx;exact Y6 hh Zi x hx:Yho x=0)
 exact vS (h:=by exact (by rw [numsL,YZ (l:=d.functions) (E:=fun n=>n) (f:=fun x=>Xx++x.name) (g:=codeF) hzf,YZ (l:=d.actions) (E:=fun n=>n) (f:=fun x=>Wr++x.name) (g:=Yi1) hza,YZ (l:=d.duratives) (E:=fun n=>n) (f:=fun x=>Xy++x.name) (g:=Yho) hzu];rfl))
end Go.Proofs.YtdbfccanbbbjkaaGreatDoor
