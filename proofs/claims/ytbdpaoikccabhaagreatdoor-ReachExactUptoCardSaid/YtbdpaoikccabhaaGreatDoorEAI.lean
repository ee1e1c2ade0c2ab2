/- The texts PCD, PCG, PCH, PCI, PWt, PCJ, PCK, PCM, PCF, laid together. Conditions: none. -/
import Derived.Test.YtbdpaoikccabhaaGreatDoorEAH
set_option linter.all false
set_option maxHeartbeats 8000000
noncomputable section
set_option maxRecDepth 20000
open Go.Lx Go.RowKit
attribute [local instance 10] Classical.propDecidable
open Go.Proofs.Tryz (prog)
namespace Go.Proofs.YtbdpaoikccabhaaGreatDoor
variable {all:List Param} {d:Domain} {fz:FZ} {v vp:Value}
def XY:Bs:=⟨#[112,114,101,100,105,99,97,116,101,32]⟩
def XA:Bs:=⟨#[102,117,110,99,116,105,111,110,32]⟩
def Ycn:Bs:=⟨#[111,98,106,101,99,116,32]⟩
def Ww:Bs:=⟨#[97,99,116,105,111,110,32]⟩
def XB:Bs:=⟨#[100,117,114,97,116,105,118,101,32]⟩
def Y9 {α:Type} (E:α->Int):List (Bs × α)->Bs × Int
 | []=>(⟨#[]⟩,0)
 | p::r=>if E p.2=0 then Y9 E r else (p.1,E p.2)
theorem Y3 {α β:Type} {E:β->Int} {f:α->Bs} {g:α->β} {r:List (Bs × β)}:∀ {l:List α},(∀ x∈l,E (g x)=0)->Y9 E (l.map (fun x=>(f x,g x))++r)=Y9 E r
 | [],_=>rfl
 | x::l,h=>by
  rw [List.map_cons,List.cons_append,Y9,if_pos (h x (by simp))];exact Y3 (fun y hy=>h y (by simp [hy]))
theorem WC {α β:Type} {E:β->Int} {f:α->Bs} {g:α->β} {r:List (Bs × β)}:∀ {l:List α} {k:Nat} {x:α},l[k]?=some x->(∀ i,i<k->∀ y,l[i]?=some y->E (g y)=0)->E (g x)≠0->Y9 E (l.map (fun x=>(f x,g x))++r)=(f x,E (g x))
 | [],k,x,h,_,_=>by simp at h
 | y::l,0,x,h,_,hx=>by
  simp at h;subst h;rw [List.map_cons,List.cons_append,Y9,if_neg hx]
 | y::l,k+1,x,h,hh,hx=>by
  rw [List.map_cons,List.cons_append,Y9,if_pos (hh 0 Zi y rfl)];exact WC (k:=k) (by simpa using h) (fun i hi z hz=>hh (i+1) Zi z (by simpa using hz)) hx
def resV (a:Bs × Int):Value:=.tuple #[Zy a.1,errV a.2]
structure NmS (d:Domain) (all:List Param):Prop where
 p:∀ x∈d.predicates,x.name.size<=1000
 f:∀ x∈d.functions,x.name.size<=1000
 o:∀ x∈all,x.name.size<=1000
 a:∀ x∈d.actions,x.name.size<=1000
 u:∀ x∈d.duratives,x.name.size<=1000
def YbE (d:Domain) (all:List Param):List (Bs × List Param):=
 d.predicates.map (fun x=>(XY++x.name,x.params))++(d.functions.map (fun x=>(XA++x.name,x.params))++(all.map (fun x=>(Ycn++x.name,[x]))++(d.actions.map (fun x=>(Ww++x.name,x.params))++(d.duratives.map (fun x=>(XB++x.name,x.params))++ []))))
/-- lists, without the objects (ob false) or with them: fv is the check -/
theorem Ypk {p:Problem} {vf vg vo:Value} {ob:Bool} {f:FuncId} {first capt:List Value} {E:List Param->Int} (h:CkR fz v d p all vf vp vg vo) (hs:NmS d all)
 (hE:∀ {A:Option Addr} {n c:Nat} {l:List Param} {fz':FZ},Le fz fz'->Sl paramL fz' A n c l->QFn prog f (first++ [Zc A n c]++capt) fz' (errV (E l))):
 QFn prog 141 [v,.func (.func f) first.toArray capt.toArray,Zo ob] fz (resV (Y9 E (YbE d (if ob=true then all else [])))):=by
 obtain ⟨gc,v1,v2,v3,v4,v5,v6,u1,u2,u3,u4,u5,u6,u7,Aa,na,ca,rfl,hc,hD,hP,hall⟩:=h;obtain ⟨⟨A1,n1,b1,rfl,i1⟩,⟨A2,n2,b2,rfl,i2⟩,⟨A3,n3,b3,rfl,i3⟩,⟨A4,n4,b4,rfl,i4⟩,⟨A5,n5,b5,rfl,i5⟩,⟨A6,n6,b6,rfl,i6⟩⟩:=hD.sls;have l3:=i3.len;have l4:=i4.len;have l5:=i5.len;have l6:=i6.len;have la:=hall.len;have s3:=i3.short;have s4:=i4.short;have s5:=i5.short;have s6:=i6.short;have sa:=hall.short;refine qF Tryz.func141 Tryz.ntmps141 (fun w0=>?_);refine zV ?_;refine WD n3 (fun k=>[(29,Zk k),(28,Zk n3),(27,Zc A3 n3 b3),(0,Zp gc),(1,.func (.func f) first.toArray capt.toArray),(2,Zo ob)]) [] (fun k=>(∀ i,i<k->∀ x,d.predicates[i]?=some x->E x.params=0)) (fun i hi=>absurd hi Zi) ?_;intro k hk hh;refine zV ?_;refine zC ?_ ?_<;>intro c1
 ·obtain ⟨x,hx⟩:=Yf (l:=d.predicates) (k:=k) Zi;have hxs:=hs.p x (Zm hx);refine zV ?_;refine zI i3 hx (fun p1 hp=>?_);refine zL hp ?_;intro cs hcs;obtain ⟨w1,rfl,hR⟩:=Wz hcs;obtain ⟨Ap,np,cp,rfl,ip⟩:=hR.params;refine zV ?_;intros;refine zG ?_;refine Ybn (hE Zd ip) ?_;by_cases hz:E x.params=0
  ·rw [hz,show errV 0=.nilIface from rfl];refine zV ?_;exact Ws ⟨k+1,by omega,rfl,rfl,rfl,rfl,YH hh hx hz⟩ Zi Zw Zb
  rw [YD hz];refine zV ?_;refine zG ?_;refine XX Zz Zz (by show _+_<=_;exact Nat.le_trans (Nat.add_le_add_left hxs _) Zh) ?_;refine zV ?_;exact ret2 rfl rfl rfl Zb (by rw [YbE,WC (l:=d.predicates) (E:=E) (f:=fun x=>XY++x.name) (g:=fun x=>x.params) hx hh hz];rw [resV,YD hz];rfl)
 have hzp:=fun x (hx:x∈d.predicates)=>(by obtain ⟨i,hi⟩:=List.getElem?_of_mem hx;exact Xc hh Zi x hx:E x.params=0)
 refine zV ?_;refine WD n4 (fun k=>[(50,Zk k),(49,Zk n4),(48,Zc A4 n4 b4),(0,Zp gc),(1,.func (.func f) first.toArray capt.toArray),(2,Zo ob)]) [] (fun k=>(∀ i,i<k->∀ x,d.functions[i]?=some x->E x.params=0)) (fun i hi=>absurd hi Zi) ?_;intro k hk hh;refine zV ?_;refine zC ?_ ?_<;>intro c1
 ·obtain ⟨x,hx⟩:=Yf (l:=d.functions) (k:=k) Zi;have hxs:=hs.f x (Zm hx);refine zV ?_;refine zI i4 hx (fun p1 hp=>?_);refine zL hp ?_;intro cs hcs;obtain ⟨w1,rfl,hR⟩:=Xt hcs;obtain ⟨Ap,np,cp,rfl,ip⟩:=hR.params;refine zV ?_;intros;refine zG ?_;refine Ybn (hE Zd ip) ?_;by_cases hz:E x.params=0
  ·rw [hz,show errV 0=.nilIface from rfl];refine zV ?_;exact Ws ⟨k+1,by omega,rfl,rfl,rfl,rfl,YH hh hx hz⟩ Zi Zw Zb
  rw [YD hz];refine zV ?_;refine zG ?_;refine XX Zz Zz (by show _+_<=_;exact Nat.le_trans (Nat.add_le_add_left hxs _) Zh) ?_;refine zV ?_;exact ret2 rfl rfl rfl Zb (by rw [YbE,Y3 (l:=d.predicates) (E:=E) (f:=fun x=>XY++x.name) (g:=fun x=>x.params) hzp,WC (l:=d.functions) (E:=E) (f:=fun x=>XA++x.name) (g:=fun x=>x.params) hx hh hz];rw [resV,YD hz];rfl)
 have hzf:=fun x (hx:x∈d.functions)=>(by obtain ⟨i,hi⟩:=List.getElem?_of_mem hx;exact Xc hh Zi x hx:E x.params=0)
 refine zVX ?_;refine YN ?_;refine zVX ?_;refine YN (Xe (fun σ fz' H'=>σ=[(0,Zp gc),(1,.func (.func f) first.toArray capt.toArray)]/\fz=fz'/\H'=[]/\(∀ r,Y9 E ((if ob=true then all else []).map (fun x=>(Ycn++x.name,[x]))++r)=Y9 E r)) ?_ ?_)
 ·refine zV ?_;refine Yn (fun q σ fz' H'=>∃ k:Nat,k<=na/\q=na - k/\σ=[(70,Zk k),(69,Zk na),(68,Zc Aa na ca),(0,Zp gc),(1,.func (.func f) first.toArray capt.toArray),(2,Zo ob)]/\fz=fz'/\H'=[]/\(∀ i,i<k->∀ x,all[i]?=some x->E [x]=0)/\(ob=false->k=0)) ⟨0,Z0 _,rfl,rfl,rfl,rfl,fun i hi=>absurd hi Zi,fun _=>rfl⟩ Zw Zb ?_;rintro q σ fz' H' ⟨k,hk,rfl,rfl,rfl,rfl,hh,hob⟩;refine zV ?_;refine zC ?_ ?_<;>intro c1
  ·obtain ⟨x,hx⟩:=Yf (l:=all) (k:=k) Zi;have hxs:=hs.o x (Zm hx);refine zV ?_;refine zI hall hx (fun p1 hp=>?_);refine zL hp ?_;intro cs hcs;obtain ⟨rfl,hR⟩:=YM hcs;cases ob with
   | false=>
    refine zV ?_;intros;exact midN ⟨rfl,rfl,rfl,fun r=>rfl⟩ Zw Zb
   | true=>
    refine zV ?_;intros;refine Yd (Yc (cs:=[Zy x.name,Zy x.typ]) (fun gb=>?_));refine zG ?_;refine q_callvU Zz Zz Zz (fun fz' hl hf=>hE hl (XC (l:=[x]) (ys:=[(x,[Zy x.name,Zy x.typ])]) (hf _ (.head _)) rfl rfl (by simpa using Ygq (hR.mono hl)) rfl (by simp))) ?_;by_cases hz:E [x]=0
    ·rw [hz,show errV 0=.nilIface from rfl];refine zV ?_;exact Ws ⟨k+1,by omega,rfl,rfl,rfl,rfl,YH hh hx hz,fun h0=>by cases h0⟩ Zi Zw Zb
    rw [YD hz];refine zV ?_;refine zG ?_;refine XX Zz Zz (by show _+_<=_;exact Nat.le_trans (Nat.add_le_add_left hxs _) Zh) ?_;refine zV ?_;exact ret2 rfl rfl rfl Zb (by rw [YbE,Y3 (l:=d.predicates) (E:=E) (f:=fun x=>XY++x.name) (g:=fun x=>x.params) hzp,Y3 (l:=d.functions) (E:=E) (f:=fun x=>XA++x.name) (g:=fun x=>x.params) hzf,if_pos rfl,WC (l:=all) (E:=E) (f:=fun x=>Ycn++x.name) (g:=fun x=>[x]) hx hh hz];rw [resV,YD hz];rfl)
  have hzo:∀ x∈all,E [x]=0\/ob=false:=fun x hx=>by
   cases ob with
   | false=>exact .inr rfl
   | true=>obtain ⟨i,hi⟩:=List.getElem?_of_mem hx;exact .inl (Xc (p:=fun x=>E [x]=0) hh Zi x hx)
  refine zV ?_;exact midN ⟨rfl,rfl,rfl,fun r=>by
   cases ob with
   | false=>rfl
   | true=>exact Y3 (l:=all) (E:=E) (f:=fun x=>Ycn++x.name) (g:=fun x=>[x]) (fun x hx=>(hzo x hx).elim (fun h=>h) (fun h=>by cases h))⟩ Zw Zb
 rintro σ fz' H' ⟨rfl,rfl,rfl,hzo⟩;refine zV ?_;refine WD n5 (fun k=>[(93,Zk k),(92,Zk n5),(91,Zc A5 n5 b5),(0,Zp gc),(1,.func (.func f) first.toArray capt.toArray)]) [] (fun k=>(∀ i,i<k->∀ x,d.actions[i]?=some x->E x.params=0)) (fun i hi=>absurd hi Zi) ?_;intro k hk hh;refine zV ?_;refine zC ?_ ?_<;>intro c1
 ·obtain ⟨x,hx⟩:=Yf (l:=d.actions) (k:=k) Zi;have hxs:=hs.a x (Zm hx);refine zV ?_;refine zI i5 hx (fun p1 hp=>?_);refine zL hp ?_;intro cs hcs;obtain ⟨w1,w2,w3,w4,w5,w6,rfl,hR⟩:=Xd hcs;obtain ⟨Ap,np,cp,rfl,ip⟩:=hR.params;obtain ⟨⟨B0,e0,j0,rfl,_⟩,⟨B1,e1,j1,rfl,_⟩,⟨B2,e2,j2,rfl,_⟩,⟨B3,e3,j3,rfl,_⟩⟩:=hR.pre.sls;obtain ⟨B4,e4,j4,rfl,_⟩:=hR.changes;refine zV ?_;intros;refine zG ?_;refine Ybn (hE Zd ip) ?_;by_cases hz:E x.params=0
  ·rw [hz,show errV 0=.nilIface from rfl];refine zV ?_;exact Ws ⟨k+1,by omega,rfl,rfl,rfl,rfl,YH hh hx hz⟩ Zi Zw Zb
  rw [YD hz];refine zV ?_;refine zG ?_;refine XX Zz Zz (by show _+_<=_;exact Nat.le_trans (Nat.add_le_add_left hxs _) Zh) ?_;refine zV ?_;exact ret2 rfl rfl rfl Zb (by rw [YbE,Y3 (l:=d.predicates) (E:=E) (f:=fun x=>XY++x.name) (g:=fun x=>x.params) hzp,Y3 (l:=d.functions) (E:=E) (f:=fun x=>XA++x.name) (g:=fun x=>x.params) hzf,hzo,WC (l:=d.actions) (E:=E) (f:=fun x=>Ww++x.name) (g:=fun x=>x.params) hx hh hz];rw [resV,YD hz];rfl)
 have hza:=fun x (hx:x∈d.actions)=>(by obtain ⟨i,hi⟩:=List.getElem?_of_mem hx;exact Xc hh Zi x hx:E x.params=0)
 refine zV ?_;refine WD n6 (fun k=>[(114,Zk k),(113,Zk n6),(112,Zc A6 n6 b6),(1,.func (.func f) first.toArray capt.toArray)]) [] (fun k=>(∀ i,i<k->∀ x,d.duratives[i]?=some x->E x.params=0)) (fun i hi=>absurd hi Zi) ?_;intro k hk hh;refine zV ?_;refine zC ?_ ?_<;>intro c1
 ·obtain ⟨x,hx⟩:=Yf (l:=d.duratives) (k:=k) Zi;have hxs:=hs.u x (Zm hx);refine zV ?_;refine zI i6 hx (fun p1 hp=>?_);refine zL hp ?_;intro cs hcs;obtain ⟨w0,w1,w2,w3,w4,w5,w6,w7,w8,w9,w10,w11,w12,w13,w14,rfl,hR⟩:=XJ hcs;obtain ⟨Ap,np,cp,rfl,ip⟩:=hR.params;obtain ⟨⟨B0,e0,j0,rfl,_⟩,⟨B1,e1,j1,rfl,_⟩,⟨B2,e2,j2,rfl,_⟩,⟨B3,e3,j3,rfl,_⟩⟩:=hR.start.sls;obtain ⟨⟨B4,e4,j4,rfl,_⟩,⟨B5,e5,j5,rfl,_⟩,⟨B6,e6,j6,rfl,_⟩,⟨B7,e7,j7,rfl,_⟩⟩:=hR.over.sls;obtain ⟨⟨B8,e8,j8,rfl,_⟩,⟨B9,e9,j9,rfl,_⟩,⟨B10,e10,j10,rfl,_⟩,⟨B11,e11,j11,rfl,_⟩⟩:=hR.fin.sls;obtain ⟨B12,e12,j12,rfl,_⟩:=hR.atStart;obtain ⟨B13,e13,j13,rfl,_⟩:=hR.atEnd;refine zV ?_;intros;refine zG ?_;refine Ybn (hE Zd ip) ?_;by_cases hz:E x.params=0
  ·rw [hz,show errV 0=.nilIface from rfl];refine zV ?_;exact Ws ⟨k+1,by omega,rfl,rfl,rfl,rfl,YH hh hx hz⟩ Zi Zw Zb
  rw [YD hz];refine zV ?_;refine zG ?_;refine XX Zz Zz (by show _+_<=_;exact Nat.le_trans (Nat.add_le_add_left hxs _) Zh) ?_;refine zV ?_;exact ret2 rfl rfl rfl Zb (by rw [YbE,Y3 (l:=d.predicates) (E:=E) (f:=fun x=>XY++x.name) (g:=fun x=>x.params) hzp,Y3 (l:=d.functions) (E:=E) (f:=fun x=>XA++x.name) (g:=fun x=>x.params) hzf,hzo,Y3 (l:=d.actions) (E:=E) (f:=fun x=>Ww++x.name) (g:=fun x=>x.params) hza,WC (l:=d.duratives) (E:=E) (f:=fun x=>XB++x.name) (g:=fun x=>x.params) hx hh hz];rw [resV,YD hz];rfl)
 have hzu:=fun x (hx:x∈d.duratives)=>(by obtain ⟨i,hi⟩:=List.getElem?_of_mem hx;exact Xc hh Zi x hx:E x.params=0)
 refine zV ?_;exact ret2 rfl rfl rfl Zb (by rw [YbE,Y3 (l:=d.predicates) (E:=E) (f:=fun x=>XY++x.name) (g:=fun x=>x.params) hzp,Y3 (l:=d.functions) (E:=E) (f:=fun x=>XA++x.name) (g:=fun x=>x.params) hzf,hzo,Y3 (l:=d.actions) (E:=E) (f:=fun x=>Ww++x.name) (g:=fun x=>x.params) hza,Y3 (l:=d.duratives) (E:=E) (f:=fun x=>XB++x.name) (g:=fun x=>x.params) hzu];rfl)
end Go.Proofs.YtbdpaoikccabhaaGreatDoor
namespace Go.Lx
variable {α:Type} {A:Option Addr} {c n:Nat} {fz:FZ} {L:Lay α} {l:List α}
theorem Sl.reps (h:Sl L fz A n c l) {x:α} (hx:x∈l):∃ cs,L.rep fz x cs:=by
 obtain ⟨i,hi⟩:=List.getElem?_of_mem hx;have h1:=(Zg hi).1;have h2:=h.len;rcases h.elem with h0 | ⟨ad,_,h3⟩
 ·omega
 obtain ⟨cs,h4,_⟩:=h3 i x hi;exact ⟨cs,h4⟩
end Go.Lx
namespace Go.Proofs.YtbdpaoikccabhaaGreatDoor
variable {A B:Option Addr} {c n:Nat} {fz fz':FZ} {s:Bs} {all vars:List Param} {d:Domain} {v vp va vk:Value}
theorem YaV {l:List Param} (h:Sl paramL fz A n c l):∀ p∈l,Short p.name/\Short p.typ:=fun p hp=>by
 obtain ⟨cs,hr⟩:=h.reps hp;obtain ⟨_,hR⟩:=YM hr;exact ⟨hR.name,hR.typ⟩
def kQm:Bs:=⟨#[63]⟩
theorem YjL {p:Bs} (hs:Short s) (hp:Short p):QFn prog 265 [Zy s,Zy p] fz (Zo (decide (PreP s p))):=by
 refine qF Tryz.func265 Tryz.ntmps265 (fun w0=>?_);refine vc (YgQ hs hp) ?_;exact vR (h:=rfl)
def Yhn:List Param->Bs->Option Bs
 | [],_=>none
 | p::r,t=>match Yhn r t with
  | some u=>some u
  | none=>if p.name=t then some p.typ else none
theorem Ye3:∀ {l:List Param} {t:Bs},(∀ p∈l,p.name≠t)->Yhn l t=none
 | [],_,_=>rfl
 | p::r,t,h=>by rw [Yhn,Ye3 (fun q hq=>h q (by simp [hq]))];exact if_neg (h p (by simp))
theorem YmD:∀ {l:List Param} {j:Nat} {x:Param} {t:Bs},l[j]?=some x->x.name=t->(∀ i,j<i->∀ y,l[i]?=some y->y.name≠t)->Yhn l t=some x.typ
 | [],j,x,t,h,_,_=>by simp at h
 | p::r,0,x,t,h,hx,hh=>by
  simp at h;subst h;rw [Yhn,Ye3 (fun q hq=>by obtain ⟨i,hi⟩:=List.getElem?_of_mem hq;exact hh (i+1) Zi q (by simpa using hi))];exact if_pos hx
 | p::r,j+1,x,t,h,hx,hh=>by
  rw [Yhn,YmD (l:=r) (j:=j) (by simpa using h) hx (fun i hi y hy=>hh (i+1) Zi y (by simpa using hy))]
theorem Yke:∀ {l:List Param} {t u:Bs},Yhn l t=some u->∃ p∈l,p.typ=u
 | [],_,_,h=>by cases h
 | p::r,t,u,h=>by
  rw [Yhn] at h;cases hr:Yhn r t with
  | some w=>
   rw [hr] at h;injection h with h
   subst h;obtain ⟨q,hq,e⟩:=Yke hr;exact ⟨q,by simp [hq],e⟩
  | none=>
   rw [hr] at h;split at h
   ·rename_i h0;cases h0
   split at h
   ·injection h with h;exact ⟨p,by simp,h⟩
   cases h
theorem You:∀ {l:List Param} {t u:Bs},tyF l t=some u->∃ p∈l,p.typ=u
 | [],_,_,h=>by cases h
 | p::r,t,u,h=>by
  rw [tyF] at h;split at h
  ·injection h with h;exact ⟨p,by simp,h⟩
  obtain ⟨q,hq,e⟩:=You h;exact ⟨q,by simp [hq],e⟩
def Yeq (all vars:List Param) (t:Bs):Option Bs:=if PreP t kQm then Yhn vars t else tyF all t
def ObjR (fz:FZ) (vo:Value) (all:List Param):Prop:=∃ g m,vo=.map (some g)/\fz g=some (mapS m)/\∀ x,valS m x=(tyF all x).map Value.string
theorem ObjR.mono {vo:Value} (h:ObjR fz vo all) (hle:Le fz fz'):ObjR fz' vo all:=by
 obtain ⟨g,m,h1,h2,h3⟩:=h;exact ⟨g,m,h1,hle _ _ h2,h3⟩
def YpT (o:Option Bs):Value:=.tuple #[Zy (o.getD ⟨#[]⟩),errV (if o.isSome=true then 0 else 8)]
theorem find_q {p:Problem} {vf vg vo:Value} {t:Bs} (h:CkR fz v d p all vf vp vg vo) (ho:ObjR fz vo all) (h1:Sl paramL fz A n c vars) (ht:Short t):
 QFn prog 247 [v,Zc A n c,Zy t] fz (YpT (Yeq all vars t)):=by
 obtain ⟨gc,v1,v2,v3,v4,v5,v6,u1,u2,u3,u4,u5,u6,u7,Aa,na,ca,rfl,hc,hD,hP,hall⟩:=h;obtain ⟨go,mo,rfl,hgo,hmo⟩:=ho;have l1:=h1.len;have s1:=h1.short;refine qF Tryz.func247 Tryz.ntmps247 (fun w0=>?_);refine vG ?_;refine XS (YjL (p:=kQm) ht (by unfold Short kQm;decide)) (fun f1=>?_) (fun f1=>?_)
 ·have hp:=Zt f1;refine zV ?_;refine Yn (fun q σ fz' H'=>∃ (k:Nat) (z:Int),k<=n/\q=n - k/\z=(n:Int) - 1 - k/\σ=[(10,Zk z),(1,Zc A n c),(2,Zy t)]/\fz=fz'/\H'=[]/\(∀ i,n - 1 - k<i->i<n->∀ x,vars[i]?=some x->x.name≠t)/\(k=n->∀ x∈vars,x.name≠t)) ⟨0,(n:Int) - 1,Z0 _,rfl,by omega,rfl,rfl,rfl,fun i hi h2=>absurd hi Zi,fun h0 x hx=>by rw [List.eq_nil_of_length_eq_zero (l:=vars) Zi] at hx;cases hx⟩ Zw Zb ?_;rintro q σ fz' H' ⟨k,z,hk,rfl,hzk,rfl,rfl,rfl,hh,hz⟩;refine vC ?_ ?_<;>intro c1
  ·obtain ⟨x,hx⟩:=Yf (l:=vars) (k:=n - 1 - k) Zi;refine vI h1 hx (fun p1 hp1=>?_);refine vH hp1.Param_name (fun hn1=>?_);refine vC ?_ ?_<;>intro c2
   ·have e1:Yeq all vars t=some x.typ:=by
     rw [Yeq,if_pos hp];exact YmD hx c2 (fun i hi y hy=>hh i hi (by have:=(Zg hy).1;omega) y hy)
    refine vI h1 hx (fun p2 hp2=>?_);refine vH hp2.Param_typ (fun hn2=>?_);exact vS (h:=by rw [e1];rfl)
   refine zV ?_;exact Ws ⟨k+1,z - 1,by omega,rfl,by omega,rfl,rfl,rfl,fun i hi h2 y hy=>by
    by_cases he:i=n - 1 - k
    ·subst he;rw [hx] at hy;injection hy with hy;subst hy;exact c2
    ·exact hh i Zi h2 y hy,fun h0 y hy=>by
    obtain ⟨i,hi⟩:=List.getElem?_of_mem hy;have hin:=(Zg hi).1;by_cases he:i=n - 1 - k
    ·subst he;rw [hx] at hi;injection hi with hi;subst hi;exact c2
    exact hh i Zi Zi y hi⟩ Zi Zw Zb
  have e1:Yeq all vars t=none:=by
   rw [Yeq,if_pos hp];exact Ye3 (hz Zi)
  exact vS (h:=by rw [e1];rfl)
 have hp:=Zf f1;have e0:Yeq all vars t=tyF all t:=if_neg hp;refine vG ?_;refine YY (v:=Zy ((tyF all t).getD ⟨#[]⟩)) (b:=(tyF all t).isSome) hgo ?_ (hv:=by rw [Yht,hmo];cases tyF all t<;>rfl) (hb:=by rw [Ye5,hmo];cases tyF all t<;>rfl);cases hr:tyF all t with
 | some u=>
  exact vS (h:=by exact (by rw [e0,hr];rfl))
 | none=>
  exact vS (h:=by exact (by rw [e0,hr];rfl))
def fstP (l:List Predicate) (x:Bs):Option Predicate:=l.find? fun p=>decide (p.name=x)
def fstF (l:List Function) (x:Bs):Option Function:=l.find? fun p=>decide (p.name=x)
def PrdR (fz:FZ) (vp:Value) (l:List Predicate):Prop:=∃ g m,vp=.map (some g)/\fz g=some (mapS m)/\∀ x,(fstP l x=none->valS m x=none)/\∀ p,fstP l x=some p->∃ A n c,valS m x=some (Zc A n c)/\Sl paramL fz A n c p.params
def FunR (fz:FZ) (vg:Value) (l:List Function):Prop:=∃ g m,vg=.map (some g)/\fz g=some (mapS m)/\∀ x,(fstF l x=none->valS m x=none)/\∀ f,fstF l x=some f->∃ A n c,valS m x=some (.agg #[Zy f.name,Zc A n c,Zk f.lo,Zk f.hi])/\Sl paramL fz A n c f.params
theorem PrdR.mono {l:List Predicate} (h:PrdR fz v l) (hle:Le fz fz'):PrdR fz' v l:=by
 obtain ⟨g,m,h1,h2,h3⟩:=h;exact ⟨g,m,h1,hle _ _ h2,fun x=>⟨(h3 x).1,fun p hp=>by obtain ⟨A,n,c,h4,h5⟩:=(h3 x).2 p hp;exact ⟨A,n,c,h4,h5.mono hle⟩⟩⟩
theorem FunR.mono {l:List Function} (h:FunR fz v l) (hle:Le fz fz'):FunR fz' v l:=by
 obtain ⟨g,m,h1,h2,h3⟩:=h;exact ⟨g,m,h1,hle _ _ h2,fun x=>⟨(h3 x).1,fun p hp=>by obtain ⟨A,n,c,h4,h5⟩:=(h3 x).2 p hp;exact ⟨A,n,c,h4,h5.mono hle⟩⟩⟩
structure CkG (fz:FZ) (v:Value) (d:Domain) (p:Problem) (all:List Param):Prop where
 ex:∃ vf vp vg vo,CkR fz v d p all vf vp vg vo/\ForR fz vf d.types/\PrdR fz vp d.predicates/\FunR fz vg d.functions/\ObjR fz vo all
 wf:WFT d.types
theorem CkG.mono {p:Problem} (h:CkG fz v d p all) (hle:Le fz fz'):CkG fz' v d p all:=by
 obtain ⟨⟨vf,vp,vg,vo,h1,h2,h3,h4,h5⟩,hw⟩:=h;exact ⟨⟨vf,vp,vg,vo,h1.mono hle,h2.mono hle,h3.mono hle,h4.mono hle,h5.mono hle⟩,hw⟩
def YbV (d:Domain) (all vars:List Param) (z:Bs × Param):Int:=match Yeq all vars z.1 with
 | none=>8
 | some t=>if IsT d.types t z.2.typ then 0 else 9
def YlS (d:Domain) (all vars:List Param) (args:List Bs) (ps:List Param):Int:=
 if args.length≠ps.length then 11 else (Y9 (YbV d all vars) ((args.zip ps).map (fun z=>((⟨#[]⟩:Bs),z))++ [])).2
theorem Yhe {p:Problem} {ps:List Param} {args:List Bs} {C:Option Addr} {n2 c2 n3 c3:Nat} (h:CkG fz v d p all) (h1:Sl paramL fz A n c vars) (h2:Sl strL fz B n2 c2 args) (h3:Sl paramL fz C n3 c3 ps):
 QFn prog 251 [v,Zc A n c,Zc B n2 c2,Zc C n3 c3] fz (errV (YlS d all vars args ps)):=by
 obtain ⟨⟨vf,vp,vg,vo,hck,hF,hPr,hFu,hO⟩,hw⟩:=h;have hck0:=hck;obtain ⟨gc,v1,v2,v3,v4,v5,v6,u1,u2,u3,u4,u5,u6,u7,Aa,na,ca,rfl,hc,hD,hP,hall⟩:=hck;have hF0:=hF;obtain ⟨gf,gm,rfl,hf1,hf2⟩:=hF;have l2:=h2.len;have l3:=h3.len;have s2:=h2.short;have s3:=h3.short;refine qF Tryz.func251 Tryz.ntmps251 (fun w0=>?_);refine vC ?_ ?_<;>intro e0
 ·exact vR (h:=by rw [YlS,if_pos Zi];rfl)
 have e1:YlS d all vars args ps=(Y9 (YbV d all vars) ((args.zip ps).map (fun z=>((⟨#[]⟩:Bs),z))++ [])).2:=if_neg Zi;refine zV ?_;refine WD n2 (fun k=>[(21,Zk k),(20,Zk n2),(19,Zc B n2 c2),(0,Zp gc),(1,Zc A n c),(3,Zc C n3 c3)]) [] (fun k=>(∀ i,i<k->∀ z,(args.zip ps)[i]?=some z->YbV d all vars z=0)) (fun i hi=>absurd hi Zi) ?_;intro k hk hh;refine vC ?_ ?_<;>intro c1
 ·obtain ⟨x,hx⟩:=Yf (l:=args) (k:=k) Zi;obtain ⟨y,hy⟩:=Yf (l:=ps) (k:=k) Zi;have hz:(args.zip ps)[k]?=some (x,y):=by rw [List.getElem?_zip_eq_some];exact ⟨hx,hy⟩
  refine vI h2 hx (fun p1 hp1=>?_);refine zH hp1 (fun hxs=>?_);refine vc (find_q hck0 hO h1 hxs) ?_;cases hr:Yeq all vars x with
  | none=>
   have e2:YbV d all vars (x,y)=8:=by rw [YbV,hr]
   rw [show YpT none=.tuple #[Ze,.iface 88 (Zk 8)] from rfl];exact vR (h:=by rw [e1,WC (f:=fun _=>(⟨#[]⟩:Bs)) (g:=fun z=>z) hz hh (by rw [e2];decide),e2];rfl)
  | some t=>
   have ht:Short t:=by
    rw [Yeq] at hr;split at hr
    ·obtain ⟨q,hq,rfl⟩:=Yke hr;exact (YaV h1 q hq).2
    obtain ⟨q,hq,rfl⟩:=You hr;exact (YaV hall q hq).2
   rw [show YpT (some t)=.tuple #[Zy t,.nilIface] from rfl];refine vI h3 hy (fun p2 hp2=>?_);refine vH hp2.Param_typ (fun hts=>?_);refine vb (is_q hF0 hw ht) (fun f1=>?_) (fun f1=>?_)
   ·have e2:YbV d all vars (x,y)=0:=by rw [YbV,hr];exact if_pos (Zt f1)
    exact vM (h:=by exact YH hh hz e2)
   have e2:YbV d all vars (x,y)=9:=by rw [YbV,hr];exact if_neg (Zf f1)
   exact vR (h:=by rw [e1,WC (f:=fun _=>(⟨#[]⟩:Bs)) (g:=fun z=>z) hz hh (by rw [e2];decide),e2];rfl)
 have hA:∀ z∈args.zip ps,YbV d all vars z=0:=fun z hz=>by
  obtain ⟨i,hi⟩:=List.getElem?_of_mem hz;have:=(Zg hi).1;rw [List.length_zip] at this;exact hh i Zi z hi
 exact vR (h:=by rw [e1,Y3 (f:=fun _=>(⟨#[]⟩:Bs)) (g:=fun z=>z) hA];rfl)
def atomM (d:Domain) (all vars:List Param) (name:Bs) (args:List Bs):Int:=match fstP d.predicates name with
 | none=>8
 | some p=>YlS d all vars args p.params
def fluM (d:Domain) (all vars:List Param) (name:Bs) (args:List Bs):Int:=match fstF d.functions name with
 | none=>8
 | some f=>YlS d all vars args f.params
theorem YlQ {p:Problem} {name:Bs} {args:List Bs} {n2 c2:Nat} (h:CkG fz v d p all) (h1:Sl paramL fz A n c vars) (h2:Sl strL fz B n2 c2 args):
 QFn prog 209 [v,Zc A n c,Zy name,Zc B n2 c2] fz (errV (atomM d all vars name args)):=by
 have h0:=h;obtain ⟨⟨vf,vp,vg,vo,hck,hF,hPr,hFu,hO⟩,hw⟩:=h;obtain ⟨gc,v1,v2,v3,v4,v5,v6,u1,u2,u3,u4,u5,u6,u7,Aa,na,ca,rfl,hc,hD,hP,hall⟩:=hck;obtain ⟨gp,mp,rfl,hgp,hmp⟩:=hPr;refine qF Tryz.func209 Tryz.ntmps209 (fun w0=>?_);refine zV ?_;cases hr:fstP d.predicates name with
 | none=>
  have hv:=(hmp name).1 hr;refine zG ?_;refine YY (v:=Zn) (b:=false) hgp ?_ (hv:=by rw [Yht,hv];rfl) (hb:=by rw [Ye5,hv];rfl);exact vR (h:=by rw [atomM,hr];rfl)
 | some x=>
  obtain ⟨C,n3,c3,hv,h3⟩:=(hmp name).2 x hr;refine zG ?_;refine YY (v:=Zc C n3 c3) (b:=true) hgp ?_ (hv:=by rw [Yht,hv];rfl) (hb:=by rw [Ye5,hv];rfl);refine vc (Yhe h0 h1 h2 h3) ?_;exact vR (h:=by rw [atomM,hr])
theorem Yhb {p:Problem} {name:Bs} {args:List Bs} {n2 c2:Nat} (h:CkG fz v d p all) (h1:Sl paramL fz A n c vars) (h2:Sl strL fz B n2 c2 args):
 QFn prog 210 [v,Zc A n c,Zy name,Zc B n2 c2] fz (errV (fluM d all vars name args)):=by
 have h0:=h;obtain ⟨⟨vf,vp,vg,vo,hck,hF,hPr,hFu,hO⟩,hw⟩:=h;obtain ⟨gc,v1,v2,v3,v4,v5,v6,u1,u2,u3,u4,u5,u6,u7,Aa,na,ca,rfl,hc,hD,hP,hall⟩:=hck;obtain ⟨gp,mp,rfl,hgp,hmp⟩:=hFu;refine qF Tryz.func210 Tryz.ntmps210 (fun w0=>?_);refine zV ?_;cases hr:fstF d.functions name with
 | none=>
  have hv:=(hmp name).1 hr;refine zG ?_;refine YY (v:=.agg #[Ze,Zn,Zk 0,Zk 0]) (b:=false) hgp ?_ (hv:=by rw [Yht,hv];rfl) (hb:=by rw [Ye5,hv];rfl);refine zV ?_;intros;exact zR (h:=by rw [fluM,hr];rfl)
 | some x=>
  obtain ⟨C,n3,c3,hv,h3⟩:=(hmp name).2 x hr;refine zG ?_;refine YY (v:=.agg #[Zy x.name,Zc C n3 c3,Zk x.lo,Zk x.hi]) (b:=true) hgp ?_ (hv:=by rw [Yht,hv];rfl) (hb:=by rw [Ye5,hv];rfl);refine zV ?_;intros;refine zc (Yhe h0 h1 h2 h3) ?_;exact vR (h:=by rw [fluM,hr])
mutual
def exprM (d:Domain) (all vars:List Param):Lx.Expr->Int
 | .mk op name _ args kids=>if op=kFluent then fluM d all vars name args else exprML d all vars kids
def exprML (d:Domain) (all vars:List Param):List Lx.Expr->Int
 | []=>0
 | k::r=>if exprM d all vars k=0 then exprML d all vars r else exprM d all vars k
end
theorem YmS (e:Lx.Expr):exprM d all vars e=if e.op=kFluent then fluM d all vars e.name e.args else exprML d all vars e.kids:=by cases e;rw [exprM];rfl
theorem Yg2 {d:Domain} {all vars:List Param}:∀ {l:List Lx.Expr} {k:Nat} {x:Lx.Expr},l[k]?=some x->(∀ i,i<k->∀ y,l[i]?=some y->exprM d all vars y=0)->exprM d all vars x≠0->exprML d all vars l=exprM d all vars x
 | [],k,x,h,_,_=>by simp at h
 | y::l,0,x,h,_,hx=>by simp at h;subst h;rw [exprML,if_neg hx]
 | y::l,k+1,x,h,hh,hx=>by
  rw [exprML,if_pos (hh 0 Zi y rfl)];exact Yg2 (k:=k) (by simpa using h) (fun i hi z hz=>hh (i+1) Zi z (by simpa using hz)) hx
theorem YdR {d:Domain} {all vars:List Param}:∀ {l:List Lx.Expr},(∀ y∈l,exprM d all vars y=0)->exprML d all vars l=0
 | [],_=>by rw [exprML]
 | y::l,h=>by rw [exprML,if_pos (h y (by simp))];exact YdR (fun z hz=>h z (by simp [hz]))
theorem Yqo:∀ (s:Nat) {fz:FZ} {v:Value} {d:Domain} {p:Problem} {all vars:List Param} {e:Lx.Expr} {va vk:Value} {A:Option Addr} {n c:Nat},SizeOf.sizeOf e<=s->CkG fz v d p all->Sl paramL fz A n c vars->ExprR fz e va vk->
 QFn prog 248 [v,Zc A n c,.agg #[Zy e.op,Zy e.name,Zk e.n,va,vk]] fz (errV (exprM d all vars e))
 | 0,_,_,_,_,_,_,e,_,_,_,_,_,hse,_,_,_=>by cases e;simp at hse
 | s+1,fz,v,d,p,all,vars,e,va,vk,A,n,c,hse,h,h1,hR=>by
  have h0:=h;obtain ⟨⟨vf,vp,vg,vo,hck,hF,hPr,hFu,hO⟩,hw⟩:=h;obtain ⟨gc,v1,v2,v3,v4,v5,v6,u1,u2,u3,u4,u5,u6,u7,Aa,na,ca,rfl,hc,hD,hP,hall⟩:=hck;obtain ⟨⟨B,n2,c2,rfl,ia⟩,⟨C,n3,c3,rfl,ik⟩⟩:=hR.sls;have l3:=ik.len;have s3:=ik.short;refine qF Tryz.func248 Tryz.ntmps248 (fun w0=>?_);refine pX (fun g0=>?_);refine vC ?_ ?_<;>intro x1
  ·refine vc (Yhb h0 h1 ia) ?_;exact vR (h:=by rw [YmS,if_pos (show e.op=kFluent from x1)])
  have e1:exprM d all vars e=exprML d all vars e.kids:=by rw [YmS,if_neg (show ¬e.op=kFluent from x1)]
  refine zV ?_;refine WD n3 (fun k=>[(23,Zk k),(22,Zk n3),(21,Zc C n3 c3),(0,Zp gc),(1,Zc A n c)]) [] (fun k=>(∀ i,i<k->∀ y,e.kids[i]?=some y->exprM d all vars y=0)) (fun i hi=>absurd hi Zi) ?_;intro k hk hh;refine vC ?_ ?_<;>intro c1
  ·obtain ⟨x,hx⟩:=Yf (l:=e.kids) (k:=k) Zi;have hlt:=Lx.Expr.kids_lt (Zm hx);refine vI ik hx (fun p1 hp1=>?_);refine zL hp1 ?_;intro cs hcs;obtain ⟨wa,wk,rfl,hRx⟩:=YF hcs;obtain ⟨⟨B1,m1,d1,rfl,_⟩,⟨B2,m2,d2,rfl,_⟩⟩:=hRx.sls;refine zV ?_;intros
   ((refine zG ?_);refine Yt (Yqo s Zi h0 h1 hRx) ?_);by_cases hz:exprM d all vars x=0
   ·rw [hz,show errV 0=.nilIface from rfl];exact vM (h:=by exact YH hh hx hz)
   rw [YD hz];exact vR (h:=by rw [e1,Yg2 hx hh hz,YD hz])
  have hA:=Xc hh Zi;exact vR (h:=by rw [e1,YdR hA];rfl)
theorem Yqn {p:Problem} {e:Lx.Expr} (h:CkG fz v d p all) (h1:Sl paramL fz A n c vars) (hR:ExprR fz e va vk):
 QFn prog 248 [v,Zc A n c,.agg #[Zy e.op,Zy e.name,Zk e.n,va,vk]] fz (errV (exprM d all vars e)):=Yqo _ (Zs _) h h1 hR
theorem Ybg {l:List Param} (h:Sl paramL fz A n c l) (hn:n<=1000000000):
 GFn prog 68 [Zc A n c] fz [] (fun v fz' H'=>Grow paramL 86 fz' v n H' l):=by
 have l1:=h.len;refine zF Tryz.func68 Tryz.ntmps68 (fun w0=>?_);refine vG ?_;refine WZ (fun eA=>?_) (fun eA=>?_)
 ·subst eA;have hl:l=[]:=by
   rcases h.elem with h0 | ⟨_,h0,_⟩
   ·exact List.eq_nil_of_length_eq_zero Zi
   cases h0
  subst hl;simp at l1;subst l1;refine zV ?_;refine Yd5 (H':=[]) (H2:=[]) rfl rfl (Zr _) (fun fz3 hle3 _=>Grow.nil _ _ _)
 refine zV ?_;refine Yd (Yas (fun gb=>?_));refine zV ?_;refine Yd (XW T (Hr:=[]) (n:=0) (l:=[]) Zz Zz Zz Zz Zz Zz Zz Zz (Zr _) (Grow.block (ys:=[]) rfl rfl (by intro p hp;cases hp) rfl) Yaq h (by show _*32<=_;omega) Zi (fun v' Hs' hO'=>?_));obtain ⟨Av',cv',rfl,_,_⟩:=hO'.form;refine zV ?_;refine Yd5 (H':=Hs') (H2:=[]) rfl rfl (by simp) (fun fz3 hle3 _=>(hO'.mono hle3).of (by simp) Zi)
end Go.Proofs.YtbdpaoikccabhaaGreatDoor
namespace Go.Lx
mutual
def eW:Expr->Nat
 | .mk _ _ _ args kids=>1+args.length+eWL kids
def eWL:List Expr->Nat
 | []=>0
 | k::r=>eW k+eWL r
end
mutual
def fW:Formula->Nat
 | .mk _ _ args params exprs kids=>1+args.length+params.length+eWL exprs+fWL kids
def fWL:List Formula->Nat
 | []=>0
 | k::r=>fW k+fWL r
end
theorem Yp8 (l:List Expr):eWL l=(l.map eW).sum:=by
 induction l with
 | nil=>rfl
 | cons a r ih=>simp [eWL,ih]
theorem fWL_sum (l:List Formula):fWL l=(l.map fW).sum:=by
 induction l with
 | nil=>rfl
 | cons a r ih=>simp [fWL,ih]
def parW (_:Param):Nat:=1
def strW (_:Bs):Nat:=1
def YcN (a:Atom):Nat:=1+a.args.length
def Yb0 (v:Value_):Nat:=1+YcN v.fluent
def Y7 (c:Change):Nat:=1+c.params.length+fW c.when_+c.args.length+eW c.value
def YjY (p:Predicate):Nat:=1+p.params.length
def funW (p:Function):Nat:=1+p.params.length
def actW (a:Action):Nat:=1+a.params.length+fW a.pre+(a.changes.map Y7).sum
def durW (a:Durative):Nat:=1+a.params.length+fW a.start+fW a.over+fW a.fin+(a.atStart.map Y7).sum+(a.atEnd.map Y7).sum
def domW (d:Domain):Nat:=1+d.types.length+d.constants.length+(d.predicates.map YjY).sum+(d.functions.map funW).sum+(d.actions.map actW).sum+(d.duratives.map durW).sum
def prbW (p:Problem):Nat:=1+p.objects.length+(p.init.map YcN).sum+(p.values.map Yb0).sum+fW p.goal
theorem YnN (e:Expr):eW e=1+e.args.length+(e.kids.map eW).sum:=by cases e;rw [eW,Yp8];rfl
theorem Ybu (f:Formula):fW f=1+f.args.length+f.params.length+(f.exprs.map eW).sum+(f.kids.map fW).sum:=by cases f;rw [fW,Yp8,fWL_sum];rfl
theorem W4 (l:List Param):(l.map parW).sum=l.length:=by
 induction l with
 | nil=>rfl
 | cons a r ih=>simp [parW] at ih ⊢;omega
theorem W3 (l:List Bs):(l.map strW).sum=l.length:=by
 induction l with
 | nil=>rfl
 | cons a r ih=>simp [strW] at ih ⊢;omega
theorem Xg {α:Type} {w:α->Nat}:∀ {l:List α} {x:α},x∈l->w x<=(l.map w).sum
 | [],_,h=>by cases h
 | a::r,x,h=>by
  simp only [List.map_cons,List.sum_cons];rcases List.mem_cons.1 h with rfl | h
  ·omega
  have:=Xg (w:=w) h;omega
theorem XR {α:Type} {w:α->Nat} (h:∀ x,1<=w x):∀ (l:List α),l.length<=(l.map w).sum
 | []=>by simp
 | a::r=>by
  have h1:=h a;have h2:=XR h r;simp only [List.length_cons,List.map_cons,List.sum_cons];omega
theorem Yin {α:Type} {w:α->Nat} {n:α->Nat} {k:Nat} (h:∀ x,n x<=k*w x):∀ (l:List α),(l.map n).sum<=k*(l.map w).sum
 | []=>by simp
 | a::r=>by
  have h1:=h a;have h2:=Yin h r;simp only [List.map_cons,List.sum_cons,Nat.mul_add];omega
theorem YmU (e:Expr):1<=eW e:=by rw [YnN];omega
theorem YpV (f:Formula):1<=fW f:=by rw [Ybu];omega
theorem YlP (c:Change):1<=Y7 c:=by unfold Y7;omega
theorem YjX (c:Predicate):1<=YjY c:=by unfold YjY;omega
theorem YmM (c:Function):1<=funW c:=by unfold funW;omega
theorem actW_pos (c:Action):1<=actW c:=by unfold actW;omega
theorem durW_pos (c:Durative):1<=durW c:=by unfold durW;omega
theorem YkP (c:Atom):1<=YcN c:=by unfold YcN;omega
theorem YhA (c:Value_):1<=Yb0 c:=by unfold Yb0;omega
end Go.Lx
namespace Go.Proofs.YtbdpaoikccabhaaGreatDoor
variable {all vars:List Param} {d:Domain} {A B:Option Addr} {c n:Nat} {fz:FZ} {v va ve vk vp:Value} {ff:FuncId} {cs:List Value}
def YkW (op:Bs):Prop:=op=kForall\/op=kExists
def ownM (d:Domain) (all vars:List Param) (op:Bs) (args:List Bs) (params:List Param):Int:=
 if op=kSame then (if ∀ a∈args,(Yeq all vars a).isSome=true then 0 else 8)
 else if YkW op then (if TwP [] (parN params) then 4 else if ExP d.types params then 0 else 3)
 else 0
def varsM (vars:List Param) (op:Bs) (params:List Param):List Param:=if op=kSame then vars else if YkW op then vars++params else vars
mutual
def formM (d:Domain) (all:List Param):List Param->Formula->Int
 | vars,.mk op name args params exprs kids=>
  if op=kAtom then atomM d all vars name args
  else if ownM d all vars op args params≠0 then ownM d all vars op args params
  else if exprML d all (varsM vars op params) exprs≠0 then exprML d all (varsM vars op params) exprs
  else formML d all (varsM vars op params) kids
def formML (d:Domain) (all:List Param):List Param->List Formula->Int
 | _,[]=>0
 | vars,k::r=>if formM d all vars k=0 then formML d all vars r else formM d all vars k
end
theorem YfZ (f:Formula):formM d all vars f=if f.op=kAtom then atomM d all vars f.name f.args
 else if ownM d all vars f.op f.args f.params≠0 then ownM d all vars f.op f.args f.params
 else if exprML d all (varsM vars f.op f.params) f.exprs≠0 then exprML d all (varsM vars f.op f.params) f.exprs
 else formML d all (varsM vars f.op f.params) f.kids:=by cases f;rw [formM];rfl
theorem Yks {d:Domain} {all vars:List Param}:∀ {l:List Formula} {k:Nat} {x:Formula},l[k]?=some x->(∀ i,i<k->∀ y,l[i]?=some y->formM d all vars y=0)->formM d all vars x≠0->formML d all vars l=formM d all vars x
 | [],k,x,h,_,_=>by simp at h
 | y::l,0,x,h,_,hx=>by simp at h;subst h;rw [formML,if_neg hx]
 | y::l,k+1,x,h,hh,hx=>by
  rw [formML,if_pos (hh 0 Zi y rfl)];exact Yks (k:=k) (by simpa using h) (fun i hi z hz=>hh (i+1) Zi z (by simpa using hz)) hx
theorem YgU {d:Domain} {all vars:List Param}:∀ {l:List Formula},(∀ y∈l,formM d all vars y=0)->formML d all vars l=0
 | [],_=>by rw [formML]
 | y::l,h=>by rw [formML,if_pos (h y (by simp))];exact YgU (fun z hz=>h z (by simp [hz]))
theorem kids_w {f k:Formula} (h:k∈f.kids):fW k+f.params.length<=fW f:=by
 have:=Xg (w:=fW) h;rw [Ybu f];omega
theorem Yqm:∀ (s:Nat) {fz:FZ} {v:Value} {d:Domain} {p:Problem} {all vars:List Param} {f:Formula} {va vp ve vk:Value} {A:Option Addr} {n c:Nat},SizeOf.sizeOf f<=s->CkG fz v d p all->Sl paramL fz A n c vars->FormulaR fz f va vp ve vk->n+fW f<=1000000000->
 QFn prog 206 [v,Zc A n c,.agg #[Zy f.op,Zy f.name,va,vp,ve,vk]] fz (errV (formM d all vars f))
 | 0,_,_,_,_,_,_,f,_,_,_,_,_,_,_,hse,_,_,_,_=>by cases f;simp at hse
 | s+1,fz,v,d,p,all,vars,f,va,vp,ve,vk,A,n,c,hse,h,h1,hR,hW=>by
  have h0:=h;obtain ⟨⟨vf,vpp,vg,vo,hck,hF,hPr,hFu,hO⟩,hw⟩:=h;have hck0:=hck;obtain ⟨gc,v1,v2,v3,v4,v5,v6,u1,u2,u3,u4,u5,u6,u7,Aa,na,ca,rfl,hc,hD,hP,hall⟩:=hck;obtain ⟨⟨B1,m1,d1,rfl,ia⟩,⟨B2,m2,d2,rfl,ip⟩,⟨B3,m3,d3,rfl,ie⟩,⟨B4,m4,d4,rfl,ik⟩⟩:=hR.sls;have l1:=ia.len;have l2:=ip.len;have l3:=ie.len;have l4:=ik.len;have ln:=h1.len;have s1:=ia.short;have s3:=ie.short;have s4:=ik.short;have hwp:f.params.length<=fW f:=by rw [Ybu];omega
  refine qF Tryz.func206 Tryz.ntmps206 (fun w0=>?_);refine pX (fun g0=>?_);refine zWO ?_;by_cases hat:f.op=kAtom
  ·refine vc (YlQ h0 h1 ia) ?_;exact vR (h:=by rw [YfZ,if_pos hat])
  have e1:formM d all vars f=if ownM d all vars f.op f.args f.params≠0 then ownM d all vars f.op f.args f.params else if exprML d all (varsM vars f.op f.params) f.exprs≠0 then exprML d all (varsM vars f.op f.params) f.exprs else formML d all (varsM vars f.op f.params) f.kids:=by rw [YfZ,if_neg hat]
  refine zVX ?_;refine YN (Xe (fun σ fz' H'=>∃ (A':Option Addr) (n' c':Nat),σ=[(5,Zp g0),(0,Zp gc),(1,Zc A' n' c')]/\Le fz fz'/\H'=[(g0,Zu #[Zy f.op,Zy f.name,Zc B1 m1 d1,Zc B2 m2 d2,Zc B3 m3 d3,Zc B4 m4 d4] 35)]/\Sl paramL fz' A' n' c' (varsM vars f.op f.params)/\n'<=n+f.params.length/\ownM d all vars f.op f.args f.params=0) ?_ ?_)
  ·refine zV ?_;by_cases hsa:f.op=kSame
   ·have e2:varsM vars f.op f.params=vars:=if_pos hsa;have e3:ownM d all vars f.op f.args f.params=if ∀ a∈f.args,(Yeq all vars a).isSome=true then 0 else 8:=if_pos hsa
    refine zV ?_;refine WD m1 (fun k=>[(35,Zk k),(34,Zk m1),(33,Zc B1 m1 d1),(5,Zp g0),(0,Zp gc),(1,Zc A n c)]) [(g0,Zu #[Zy f.op,Zy f.name,Zc B1 m1 d1,Zc B2 m2 d2,Zc B3 m3 d3,Zc B4 m4 d4] 35)] (fun k=>(∀ i,i<k->∀ x,f.args[i]?=some x->(Yeq all vars x).isSome=true)) (fun i hi=>absurd hi Zi) ?_;intro k hk hh;refine vC ?_ ?_<;>intro c1
    ·obtain ⟨x,hx⟩:=Yf (l:=f.args) (k:=k) Zi;refine vI ia hx (fun p1 hp1=>?_);refine zH hp1 (fun hxs=>?_);refine vc (find_q hck0 hO h1 hxs) ?_;cases hr:Yeq all vars x with
     | none=>
      have e4:ownM d all vars f.op f.args f.params=8:=by rw [e3,if_neg];intro h9;have:=h9 x (Zm hx);rw [hr] at this;cases this
      rw [show YpT none=.tuple #[Ze,.iface 88 (Zk 8)] from rfl];exact vR (h:=by rw [e1,if_pos (by rw [e4];decide),e4];rfl)
     | some t=>
      rw [show YpT (some t)=.tuple #[Zy t,.nilIface] from rfl];exact vM (h:=by exact YH (p:=fun x=>(Yeq all vars x).isSome=true) hh hx (by rw [hr];rfl))
    have hA:=Xc hh Zi;exact vN (h:=by exact ⟨A,n,c,rfl,Zd,rfl,by rw [e2];exact h1,by omega,by rw [e3,if_pos hA]⟩)
   have wf:¬f.op=kSame:=hsa;by_cases hq:YkW f.op
   ·have e2:varsM vars f.op f.params=vars++f.params:=by rw [varsM,if_neg hsa,if_pos hq]
    have e3:ownM d all vars f.op f.args f.params=if TwP [] (parN f.params) then 4 else if ExP d.types f.params then 0 else 3:=by rw [ownM,if_neg hsa,if_pos hq]
    refine zVX ?_;refine YN (Xe (fun σ fz' H'=>σ=[(50,Zo true),(5,Zp g0),(0,Zp gc),(1,Zc A n c)]/\fz=fz'/\H'=[(g0,Zu #[Zy f.op,Zy f.name,Zc B1 m1 d1,Zc B2 m2 d2,Zc B3 m3 d3,Zc B4 m4 d4] 35)]) ?_ ?_)
    ·rcases hq with w1 | w2
     ·exact vN (h:=by exact ⟨rfl,rfl,rfl⟩)
     have w1:¬f.op=kForall:=by rw [w2];decide
     exact vN (h:=by exact ⟨rfl,rfl,rfl⟩)
    rintro σ fz1 H' ⟨rfl,rfl,rfl⟩;refine vc (Yk9 ip (Sl.nil (A:=none) (c:=0))) ?_;rw [show parN ([]:List Param)=[] from rfl];by_cases ht:TwP [] (parN f.params)
    ·rw [if_pos ht,show errV 4=.iface 88 (Zk 4) from rfl];exact vR (h:=by rw [e1,e3,if_pos ht,if_pos Zh];rfl)
    rw [if_neg ht,show errV 0=.nilIface from rfl];refine vc (YlH hck0 hF ip) ?_;by_cases hx:ExP d.types f.params
    ·rw [if_pos hx,show errV 0=.nilIface from rfl];refine zV ?_;refine Y6 [_] ?_;refine zW ?_;refine Yl ?_;refine zW ?_;refine pU ?_;refine Yg (Yk [] [_] Zz (Ybg h1 Zi) (fun v6 fz6 H6 hle6 hR6=>⟨⟨hle6,Zx⟩,?_⟩));obtain ⟨Av,cv,rfl,_,_⟩:=hR6.form;refine Yg (XW T (Hr:=[_]) Zz Zz Zz Zz Zz Zz Zz Zz Zq hR6 Yaq (ip.mono hle6) (by show _*32<=_;omega) Zi (fun v7 H7 hO7=>⟨⟨hle6,Zx⟩,?_⟩));obtain ⟨Aw,cw,rfl,_,_⟩:=hO7.form;refine Ch.qk ⟨hle6,Zx⟩ (YR ?_);refine Ch.done ?_;refine zW ?_;exact midF (H':=[_]) (H2:=H7) (Zr _) (fun fz8 hle8 hf8=>by
      obtain ⟨A8,c8,e8,h8⟩:=hO7.sl hle8 hf8 Zi;injection e8 with e81 e82 e83
      subst e81;subst e83;exact ⟨Aw,_,cw,rfl,hle6.trans hle8,rfl,by rw [e2];exact h8,by omega,by rw [e3,if_neg ht,if_pos hx]⟩) Zw
    rw [if_neg hx,show errV 3=.iface 88 (Zk 3) from rfl];exact vR (h:=by rw [e1,e3,if_neg ht,if_neg hx,if_pos Zh];rfl)
   have w1:¬f.op=kForall:=fun h=>hq (.inl h)
   have w2:¬f.op=kExists:=fun h=>hq (.inr h)
   have e2:varsM vars f.op f.params=vars:=by rw [varsM,if_neg hsa,if_neg hq]
   have e3:ownM d all vars f.op f.args f.params=0:=by rw [ownM,if_neg hsa,if_neg hq]
   exact vN (h:=by exact ⟨A,n,c,rfl,Zd,rfl,by rw [e2];exact h1,by omega,e3⟩)
  rintro σ fz1 H' ⟨A',n',c',rfl,hle,rfl,h1',hn',ho0⟩;have e2:formM d all vars f=if exprML d all (varsM vars f.op f.params) f.exprs≠0 then exprML d all (varsM vars f.op f.params) f.exprs else formML d all (varsM vars f.op f.params) f.kids:=by rw [e1,if_neg (by rw [ho0];decide)]
  generalize hvs:varsM vars f.op f.params=vars' at h1' e2;have h0':=h0.mono hle;have ie':=ie.mono hle;have ik':=ik.mono hle;have hcg:=hle _ _ hc;refine zVX ?_;refine YN (Xe (fun σ fz' H'=>σ=[(5,Zp g0),(0,Zp gc),(1,Zc A' n' c')]/\fz1=fz'/\H'=[(g0,Zu #[Zy f.op,Zy f.name,Zc B1 m1 d1,Zc B2 m2 d2,Zc B3 m3 d3,Zc B4 m4 d4] 35)]/\exprML d all vars' f.exprs=0) ?_ ?_)
  ·refine zV ?_;refine Yn (fun q σ fz' H'=>∃ k:Nat,k<=m3/\q=m3 - k/\σ=[(74,Zk k),(73,Zk m3),(72,Zc B3 m3 d3),(5,Zp g0),(0,Zp gc),(1,Zc A' n' c')]/\fz1=fz'/\H'=[(g0,Zu #[Zy f.op,Zy f.name,Zc B1 m1 d1,Zc B2 m2 d2,Zc B3 m3 d3,Zc B4 m4 d4] 35)]/\(∀ i,i<k->∀ y,f.exprs[i]?=some y->exprM d all vars' y=0)) ⟨0,Z0 _,rfl,rfl,rfl,rfl,fun i hi=>absurd hi Zi⟩ Zw Zb ?_;rintro q σ fz' H' ⟨k,hk,rfl,rfl,rfl,rfl,hh⟩;refine vC ?_ ?_<;>intro c1
   ·obtain ⟨x,hx⟩:=Yf (l:=f.exprs) (k:=k) Zi;refine vI ie' hx (fun p1 hp1=>?_);refine zL hp1 ?_;intro cs hcs;obtain ⟨wa,wk,rfl,hRx⟩:=YF hcs;obtain ⟨⟨E1,r1,q1,rfl,_⟩,⟨E2,r2,q2,rfl,_⟩⟩:=hRx.sls;refine zV ?_;intros;refine zc (Yqn h0' h1' hRx) ?_;by_cases hz:exprM d all vars' x=0
    ·rw [hz,show errV 0=.nilIface from rfl];exact vM (h:=by exact YH hh hx hz)
    rw [YD hz];exact vR (h:=by rw [e2,Yg2 hx hh hz,if_pos hz,YD hz])
   have hA:=Xc hh Zi;exact vN (h:=by exact ⟨rfl,rfl,rfl,YdR hA⟩)
  rintro σ fz2 H' ⟨rfl,rfl,rfl,hez⟩;have e3:formM d all vars f=formML d all vars' f.kids:=by rw [e2,hez,if_neg Zh]
  refine zV ?_;refine Yn (fun q σ fz' H'=>∃ k:Nat,k<=m4/\q=m4 - k/\σ=[(89,Zk k),(88,Zk m4),(87,Zc B4 m4 d4),(0,Zp gc),(1,Zc A' n' c')]/\fz1=fz'/\H'=[]/\(∀ i,i<k->∀ y,f.kids[i]?=some y->formM d all vars' y=0)) ⟨0,Z0 _,rfl,rfl,rfl,rfl,fun i hi=>absurd hi Zi⟩ Zw Zb ?_;rintro q σ fz' H' ⟨k,hk,rfl,rfl,rfl,rfl,hh⟩;refine vC ?_ ?_<;>intro c1
  ·obtain ⟨x,hx⟩:=Yf (l:=f.kids) (k:=k) Zi;have hlt:=Lx.Formula.kids_lt (Zm hx);have hkw:=kids_w (Zm hx);refine vI ik' hx (fun p1 hp1=>?_);refine zL hp1 ?_;intro cs hcs;obtain ⟨wa,wp,we,wk,rfl,hRx⟩:=Yu hcs;obtain ⟨⟨E1,r1,q1,rfl,_⟩,⟨E2,r2,q2,rfl,_⟩,⟨E3,r3,q3,rfl,_⟩,⟨E4,r4,q4,rfl,_⟩⟩:=hRx.sls;refine zV ?_;intros
   ((refine zG ?_);refine Yt (Yqm s Zi h0' h1' hRx Zi) ?_);by_cases hz:formM d all vars' x=0
   ·rw [hz,show errV 0=.nilIface from rfl];exact vM (h:=by exact YH hh hx hz)
   rw [YD hz];exact vR (h:=by rw [e3,Yks hx hh hz,YD hz])
  have hA:=Xc hh Zi;exact vR (h:=by rw [e3,YgU hA];rfl)
theorem Yjj {p:Problem} {f:Formula} (h:CkG fz v d p all) (h1:Sl paramL fz A n c vars) (hR:FormulaR fz f va vp ve vk) (hW:n+fW f<=1000000000):
 QFn prog 206 [v,Zc A n c,.agg #[Zy f.op,Zy f.name,va,vp,ve,vk]] fz (errV (formM d all vars f)):=Yqm _ (Zs _) h h1 hR hW
theorem YgL {l:List Lx.Formula} {cap:List Value} {p:Lx.Formula->Prop} [DecidablePred p] (h1:Sl formulaL fz A n c l) (hq:∀ x∈l,∀ cs,formulaL.rep fz x cs->QFn prog ff (.agg cs.toArray::cap) fz (Zo (decide (p x)))):
 QFn prog 185 [Zc A n c,.func (.func ff) #[] cap.toArray] fz (Zk (W2 p l 0)):=by
 refine qF Tryz.func185 Tryz.ntmps185 (fun w0=>?_);have l1:=h1.len;have hm:=h1.short;refine zW ?_;refine WD n (fun k=>[(8,Zk k),(7,Zk n),(0,Zc A n c),(1,.func (.func ff) #[] cap.toArray)]) [] (fun k=>(∀ i,i<k->∀ x,l[i]?=some x->¬p x)) (fun i hi=>absurd hi Zi) ?_;intro k hk hh;refine wC (fun hlt=>?_) (fun hge=>?_)
 ·refine zW ?_;obtain ⟨x,hx⟩:=Yf (l:=l) (k:=k) Zi;refine zI h1 hx (fun a ha=>?_);refine zL ha ?_;intro cs hcs;refine wG ?_;refine Wb Zz Zz Zz (hq x (Zm hx) cs hcs) (fun c1=>?_) (fun c1=>?_)
  ·exact wR (h:=by rw [XQ hh hx c1,Int.zero_add])
  exact wM (h:=by exact YH hh hx c1)
 exact wR (h:=by rw [Xo (Xc hh Zi)])
theorem XL {l:List Lx.Formula} {cap:List Value} {p:Lx.Formula->Prop} [DecidablePred p] (h1:Sl formulaL fz A n c l) (hq:∀ x∈l,∀ cs,formulaL.rep fz x cs->QFn prog ff (.agg cs.toArray::cap) fz (Zo (decide (p x)))):
 QFn prog 99 [Zc A n c,.func (.func ff) #[] cap.toArray] fz (Zo (decide (∃ x∈l,p x))):=by
 refine qF Tryz.func99 Tryz.ntmps99 (fun w0=>?_);refine wc (YgL h1 hq) ?_;refine zC ?_ ?_<;>intro c1
 ·exact wR (h:=by exact Ys ((Y1 (Int.le_refl 0)).1 c1))
 exact wR (h:=by exact Yj (fun h=>c1 ((Y1 (Int.le_refl 0)).2 h)))
theorem Yhr {l:List Lx.Change} {cap:List Value} {p:Lx.Change->Prop} [DecidablePred p] (h1:Sl changeL fz A n c l) (hq:∀ x∈l,∀ cs,changeL.rep fz x cs->QFn prog ff (.agg cs.toArray::cap) fz (Zo (decide (p x)))):
 QFn prog 173 [Zc A n c,.func (.func ff) #[] cap.toArray] fz (Zk (W2 p l 0)):=by
 refine qF Tryz.func173 Tryz.ntmps173 (fun w0=>?_);have l1:=h1.len;have hm:=h1.short;refine zW ?_;refine WD n (fun k=>[(8,Zk k),(7,Zk n),(0,Zc A n c),(1,.func (.func ff) #[] cap.toArray)]) [] (fun k=>(∀ i,i<k->∀ x,l[i]?=some x->¬p x)) (fun i hi=>absurd hi Zi) ?_;intro k hk hh;refine wC (fun hlt=>?_) (fun hge=>?_)
 ·refine zW ?_;obtain ⟨x,hx⟩:=Yf (l:=l) (k:=k) Zi;refine zI h1 hx (fun a ha=>?_);refine zL ha ?_;intro cs hcs;refine wG ?_;refine Wb Zz Zz Zz (hq x (Zm hx) cs hcs) (fun c1=>?_) (fun c1=>?_)
  ·exact wR (h:=by rw [XQ hh hx c1,Int.zero_add])
  exact wM (h:=by exact YH hh hx c1)
 exact wR (h:=by rw [Xo (Xc hh Zi)])
theorem YaN {l:List Lx.Change} {cap:List Value} {p:Lx.Change->Prop} [DecidablePred p] (h1:Sl changeL fz A n c l) (hq:∀ x∈l,∀ cs,changeL.rep fz x cs->QFn prog ff (.agg cs.toArray::cap) fz (Zo (decide (p x)))):
 QFn prog 78 [Zc A n c,.func (.func ff) #[] cap.toArray] fz (Zo (decide (∃ x∈l,p x))):=by
 refine qF Tryz.func78 Tryz.ntmps78 (fun w0=>?_);refine wc (Yhr h1 hq) ?_;refine zC ?_ ?_<;>intro c1
 ·exact wR (h:=by exact Ys ((Y1 (Int.le_refl 0)).1 c1))
 exact wR (h:=by exact Yj (fun h=>c1 ((Y1 (Int.le_refl 0)).2 h)))
theorem Ye6 {l:List Lx.Predicate} {cap:List Value} {p:Lx.Predicate->Prop} [DecidablePred p] (h1:Sl predicateL fz A n c l) (hq:∀ x∈l,∀ cs,predicateL.rep fz x cs->QFn prog ff (.agg cs.toArray::cap) fz (Zo (decide (p x)))):
 QFn prog 203 [Zc A n c,.func (.func ff) #[] cap.toArray] fz (Zk (W2 p l 0)):=by
 refine qF Tryz.func203 Tryz.ntmps203 (fun w0=>?_);have l1:=h1.len;have hm:=h1.short;refine zW ?_;refine WD n (fun k=>[(8,Zk k),(7,Zk n),(0,Zc A n c),(1,.func (.func ff) #[] cap.toArray)]) [] (fun k=>(∀ i,i<k->∀ x,l[i]?=some x->¬p x)) (fun i hi=>absurd hi Zi) ?_;intro k hk hh;refine wC (fun hlt=>?_) (fun hge=>?_)
 ·refine zW ?_;obtain ⟨x,hx⟩:=Yf (l:=l) (k:=k) Zi;refine zI h1 hx (fun a ha=>?_);refine zL ha ?_;intro cs hcs;refine wG ?_;refine Wb Zz Zz Zz (hq x (Zm hx) cs hcs) (fun c1=>?_) (fun c1=>?_)
  ·exact wR (h:=by rw [XQ hh hx c1,Int.zero_add])
  exact wM (h:=by exact YH hh hx c1)
 exact wR (h:=by rw [Xo (Xc hh Zi)])
theorem Ydx {l:List Lx.Predicate} {cap:List Value} {p:Lx.Predicate->Prop} [DecidablePred p] (h1:Sl predicateL fz A n c l) (hq:∀ x∈l,∀ cs,predicateL.rep fz x cs->QFn prog ff (.agg cs.toArray::cap) fz (Zo (decide (p x)))):
 QFn prog 133 [Zc A n c,.func (.func ff) #[] cap.toArray] fz (Zo (decide (∃ x∈l,p x))):=by
 refine qF Tryz.func133 Tryz.ntmps133 (fun w0=>?_);refine wc (Ye6 h1 hq) ?_;refine zC ?_ ?_<;>intro c1
 ·exact wR (h:=by exact Ys ((Y1 (Int.le_refl 0)).1 c1))
 exact wR (h:=by exact Yj (fun h=>c1 ((Y1 (Int.le_refl 0)).2 h)))
theorem YcJ {l:List Lx.Function} {cap:List Value} {p:Lx.Function->Prop} [DecidablePred p] (h1:Sl functionL fz A n c l) (hq:∀ x∈l,∀ cs,functionL.rep fz x cs->QFn prog ff (.agg cs.toArray::cap) fz (Zo (decide (p x)))):
 QFn prog 112 [Zc A n c,.func (.func ff) #[] cap.toArray] fz (Zk (W2 p l 0)):=by
 refine qF Tryz.func112 Tryz.ntmps112 (fun w0=>?_);have l1:=h1.len;have hm:=h1.short;refine zW ?_;refine WD n (fun k=>[(8,Zk k),(7,Zk n),(0,Zc A n c),(1,.func (.func ff) #[] cap.toArray)]) [] (fun k=>(∀ i,i<k->∀ x,l[i]?=some x->¬p x)) (fun i hi=>absurd hi Zi) ?_;intro k hk hh;refine wC (fun hlt=>?_) (fun hge=>?_)
 ·refine zW ?_;obtain ⟨x,hx⟩:=Yf (l:=l) (k:=k) Zi;refine zI h1 hx (fun a ha=>?_);refine zL ha ?_;intro cs hcs;refine wG ?_;refine Wb Zz Zz Zz (hq x (Zm hx) cs hcs) (fun c1=>?_) (fun c1=>?_)
  ·exact wR (h:=by rw [XQ hh hx c1,Int.zero_add])
  exact wM (h:=by exact YH hh hx c1)
 exact wR (h:=by rw [Xo (Xc hh Zi)])
theorem YdU {l:List Lx.Function} {cap:List Value} {p:Lx.Function->Prop} [DecidablePred p] (h1:Sl functionL fz A n c l) (hq:∀ x∈l,∀ cs,functionL.rep fz x cs->QFn prog ff (.agg cs.toArray::cap) fz (Zo (decide (p x)))):
 QFn prog 135 [Zc A n c,.func (.func ff) #[] cap.toArray] fz (Zo (decide (∃ x∈l,p x))):=by
 refine qF Tryz.func135 Tryz.ntmps135 (fun w0=>?_);refine wc (YcJ h1 hq) ?_;refine zC ?_ ?_<;>intro c1
 ·exact wR (h:=by exact Ys ((Y1 (Int.le_refl 0)).1 c1))
 exact wR (h:=by exact Yj (fun h=>c1 ((Y1 (Int.le_refl 0)).2 h)))
theorem YdA {l:List Lx.Action} {cap:List Value} {p:Lx.Action->Prop} [DecidablePred p] (h1:Sl actionL fz A n c l) (hq:∀ x∈l,∀ cs,actionL.rep fz x cs->QFn prog ff (.agg cs.toArray::cap) fz (Zo (decide (p x)))):
 QFn prog 95 [Zc A n c,.func (.func ff) #[] cap.toArray] fz (Zk (W2 p l 0)):=by
 refine qF Tryz.func95 Tryz.ntmps95 (fun w0=>?_);have l1:=h1.len;have hm:=h1.short;refine zW ?_;refine WD n (fun k=>[(8,Zk k),(7,Zk n),(0,Zc A n c),(1,.func (.func ff) #[] cap.toArray)]) [] (fun k=>(∀ i,i<k->∀ x,l[i]?=some x->¬p x)) (fun i hi=>absurd hi Zi) ?_;intro k hk hh;refine wC (fun hlt=>?_) (fun hge=>?_)
 ·refine zW ?_;obtain ⟨x,hx⟩:=Yf (l:=l) (k:=k) Zi;refine zI h1 hx (fun a ha=>?_);refine zL ha ?_;intro cs hcs;refine wG ?_;refine Wb Zz Zz Zz (hq x (Zm hx) cs hcs) (fun c1=>?_) (fun c1=>?_)
  ·exact wR (h:=by rw [XQ hh hx c1,Int.zero_add])
  exact wM (h:=by exact YH hh hx c1)
 exact wR (h:=by rw [Xo (Xc hh Zi)])
theorem Ycb {l:List Lx.Action} {cap:List Value} {p:Lx.Action->Prop} [DecidablePred p] (h1:Sl actionL fz A n c l) (hq:∀ x∈l,∀ cs,actionL.rep fz x cs->QFn prog ff (.agg cs.toArray::cap) fz (Zo (decide (p x)))):
 QFn prog 80 [Zc A n c,.func (.func ff) #[] cap.toArray] fz (Zo (decide (∃ x∈l,p x))):=by
 refine qF Tryz.func80 Tryz.ntmps80 (fun w0=>?_);refine wc (YdA h1 hq) ?_;refine zC ?_ ?_<;>intro c1
 ·exact wR (h:=by exact Ys ((Y1 (Int.le_refl 0)).1 c1))
 exact wR (h:=by exact Yj (fun h=>c1 ((Y1 (Int.le_refl 0)).2 h)))
theorem YfM {l:List Lx.Durative} {cap:List Value} {p:Lx.Durative->Prop} [DecidablePred p] (h1:Sl durativeL fz A n c l) (hq:∀ x∈l,∀ cs,durativeL.rep fz x cs->QFn prog ff (.agg cs.toArray::cap) fz (Zo (decide (p x)))):
 QFn prog 174 [Zc A n c,.func (.func ff) #[] cap.toArray] fz (Zk (W2 p l 0)):=by
 refine qF Tryz.func174 Tryz.ntmps174 (fun w0=>?_);have l1:=h1.len;have hm:=h1.short;refine zW ?_;refine WD n (fun k=>[(8,Zk k),(7,Zk n),(0,Zc A n c),(1,.func (.func ff) #[] cap.toArray)]) [] (fun k=>(∀ i,i<k->∀ x,l[i]?=some x->¬p x)) (fun i hi=>absurd hi Zi) ?_;intro k hk hh;refine wC (fun hlt=>?_) (fun hge=>?_)
 ·refine zW ?_;obtain ⟨x,hx⟩:=Yf (l:=l) (k:=k) Zi;refine zI h1 hx (fun a ha=>?_);refine zL ha ?_;intro cs hcs;refine wG ?_;refine Wb Zz Zz Zz (hq x (Zm hx) cs hcs) (fun c1=>?_) (fun c1=>?_)
  ·exact wR (h:=by rw [XQ hh hx c1,Int.zero_add])
  exact wM (h:=by exact YH hh hx c1)
 exact wR (h:=by rw [Xo (Xc hh Zi)])
theorem Ybw {l:List Lx.Durative} {cap:List Value} {p:Lx.Durative->Prop} [DecidablePred p] (h1:Sl durativeL fz A n c l) (hq:∀ x∈l,∀ cs,durativeL.rep fz x cs->QFn prog ff (.agg cs.toArray::cap) fz (Zo (decide (p x)))):
 QFn prog 82 [Zc A n c,.func (.func ff) #[] cap.toArray] fz (Zo (decide (∃ x∈l,p x))):=by
 refine qF Tryz.func82 Tryz.ntmps82 (fun w0=>?_);refine wc (YfM h1 hq) ?_;refine zC ?_ ?_<;>intro c1
 ·exact wR (h:=by exact Ys ((Y1 (Int.le_refl 0)).1 c1))
 exact wR (h:=by exact Yj (fun h=>c1 ((Y1 (Int.le_refl 0)).2 h)))
def LtP (f:Formula):Prop:=f.op=kAtom\/f.op=kSame
mutual
/-- a conjunction of literals -/
def LitP:Formula->Prop
 | .mk op _ _ _ _ kids=>(op=kNot/\∃ k,kids=[k]/\LtP k)\/(op=kAnd/\LitPL kids)\/op=kAtom\/op=kSame
def LitPL:List Formula->Prop
 | []=>True
 | k::r=>LitP k/\LitPL r
end
theorem Ykc:∀ {l:List Formula},LitPL l↔∀ x∈l,LitP x
 | []=>by simp [LitPL]
 | k::r=>by rw [LitPL,Ykc (l:=r)];simp
theorem Ylv (f:Formula):LitP f↔(f.op=kNot/\∃ k,f.kids=[k]/\LtP k)\/(f.op=kAnd/\∀ x∈f.kids,LitP x)\/LtP f:=by cases f;rw [LitP,Ykc];rfl
theorem litP_not {f:Formula} (h:f.op=kNot):LitP f↔∃ k,f.kids=[k]/\LtP k:=by
 rw [Ylv];constructor
 ·rintro (h1 | h1 | h1)
  ·exact h1.2
  ·rw [h] at h1;exact absurd h1.1 Zh
  unfold LtP at h1;rw [h] at h1;exact absurd h1 Zh
 intro h1;exact .inl ⟨h,h1⟩
theorem YmC {f:Formula} (h:f.op=kAnd):LitP f↔∀ x∈f.kids,LitP x:=by
 rw [Ylv];constructor
 ·rintro (h1 | h1 | h1)
  ·rw [h] at h1;exact absurd h1.1 Zh
  ·exact h1.2
  unfold LtP at h1;rw [h] at h1;exact absurd h1 Zh
 intro h1;exact .inr (.inl ⟨h,h1⟩)
theorem YmB {f:Formula} (h1:¬f.op=kNot) (h2:¬f.op=kAnd):LitP f↔LtP f:=by
 rw [Ylv];exact ⟨fun h=>h.elim (fun h=>absurd h.1 h1) (fun h=>h.elim (fun h=>absurd h.1 h2) id),fun h=>.inr (.inr h)⟩
theorem lt1_q {f:Formula} (hR:FormulaR fz f va vp ve vk):
 QFn prog 266 [.agg #[Zy f.op,Zy f.name,va,vp,ve,vk]] fz (Zo (decide (LtP f))):=by
 refine qF Tryz.func266 Tryz.ntmps266 (fun w0=>?_);refine pX (fun g0=>?_);refine vC ?_ ?_<;>intro x1
 ·exact vR (h:=by exact Ys (.inl x1))
 refine vC ?_ ?_<;>intro x2
 ·exact vR (h:=by exact Ys (.inr x2))
 exact vR (h:=by exact Yj (fun h=>h.elim x1 x2))
theorem lit2_q {f:Formula} (h:QFn prog 250 [.agg #[Zy f.op,Zy f.name,va,vp,ve,vk]] fz (Zo (decide (LitP f)))):
 QFn prog 267 [.agg #[Zy f.op,Zy f.name,va,vp,ve,vk]] fz (Zo (decide (¬LitP f))):=by
 refine qF Tryz.func267 Tryz.ntmps267 (fun w0=>?_);refine pX (fun g1=>?_);refine vc h ?_;exact vR (h:=by rw [decide_not])
theorem lit_f:∀ (s:Nat) {fz:FZ} {f:Formula} {va vp ve vk:Value},SizeOf.sizeOf f<=s->FormulaR fz f va vp ve vk->
 QFn prog 250 [.agg #[Zy f.op,Zy f.name,va,vp,ve,vk]] fz (Zo (decide (LitP f)))
 | 0,_,f,_,_,_,_,hse,_=>by cases f;simp at hse
 | s+1,fz,f,va,vp,ve,vk,hse,hR=>by
  have hR0:=hR;obtain ⟨⟨B1,m1,d1,rfl,ia⟩,⟨B2,m2,d2,rfl,ip⟩,⟨B3,m3,d3,rfl,ie⟩,⟨B4,m4,d4,rfl,ik⟩⟩:=hR.sls;have l4:=ik.len;refine qF Tryz.func250 Tryz.ntmps250 (fun w0=>?_);refine pX (fun g0=>?_);refine zWO ?_;by_cases hno:f.op=kNot
  ·have w:=litP_not hno;refine vC ?_ ?_<;>intro x1
   ·have h1:f.kids.length=1:=by omega
    obtain ⟨k,hk⟩:∃ k,f.kids=[k]:=by
     match hkk:f.kids,h1 with
     | [k],_=>exact ⟨k,rfl⟩
    refine vG ?_;refine Ya0 T 0 Zz Zz Zz Zz Zz Zz ik (by first | rfl | omega) (by rw [hk];rfl:f.kids[0]?=some k) (fun p1 hp1=>?_);refine zL hp1 ?_;intro cs hcs;obtain ⟨wa,wp,we,wk,rfl,hRx⟩:=Yu hcs;refine vv (lt1_q hRx) ?_;refine zV ?_
    (exact ret1 rfl rfl Zb (by
     by_cases hl:LtP k
     ·rw [decide_eq_true hl,decide_eq_true (w.2 ⟨k,hk,hl⟩)]
     rw [decide_eq_false hl,decide_eq_false (fun h=>by obtain ⟨k',hk',hl'⟩:=w.1 h;rw [hk] at hk';injection hk' with hk';subst hk';exact hl hl')]))
   exact vR (h:=by exact Yj (fun h=>by obtain ⟨k,hk,_⟩:=w.1 h;rw [hk] at l4;simp at l4;exact x1 Zi))
  by_cases han:f.op=kAnd
  ·have w:=YmC han;refine zV ?_
   ((refine zG ?_);refine Yt (XL (cap:=[]) (p:=fun k=>¬LitP k) ik (fun x hx cs hcs=>by
    obtain ⟨wa,wp,we,wk,rfl,hRx⟩:=Yu hcs;exact lit2_q (lit_f s (by have:=Lx.Formula.kids_lt hx;omega) hRx))) ?_)
   refine zV ?_
   (exact ret1 rfl rfl Zb (by
    by_cases hl:∀ x∈f.kids,LitP x
    ·rw [decide_eq_true (w.2 hl),decide_eq_false (fun ⟨x,hx,h0⟩=>h0 (hl x hx))];rfl
    rw [decide_eq_false (fun h=>hl (w.1 h)),decide_eq_true (by simpa using hl)];rfl))
  have w:=YmB hno han;refine vv (lt1_q hR0) ?_;refine zV ?_
  (exact ret1 rfl rfl Zb (by
   by_cases hl:LtP f
   ·rw [decide_eq_true hl,decide_eq_true (w.2 hl)]
   rw [decide_eq_false hl,decide_eq_false (fun h=>hl (w.1 h))]))
theorem lit_q {f:Formula} (hR:FormulaR fz f va vp ve vk):
 QFn prog 250 [.agg #[Zy f.op,Zy f.name,va,vp,ve,vk]] fz (Zo (decide (LitP f))):=lit_f _ (Zs _) hR
def YaB (d:Domain) (all vars:List Param) (f:Formula):Int:=if LitP f then formM d all vars f else 2
theorem Yg8 {p:Problem} {f:Formula} (h:CkG fz v d p all) (h1:Sl paramL fz A n c vars) (hR:FormulaR fz f va vp ve vk) (hW:n+fW f<=1000000000):
 QFn prog 208 [v,Zc A n c,.agg #[Zy f.op,Zy f.name,va,vp,ve,vk]] fz (errV (YaB d all vars f)):=by
 refine qF Tryz.func208 Tryz.ntmps208 (fun w0=>?_);refine pX (fun g0=>?_);refine vb (lit_q hR) (fun f1=>?_) (fun f1=>?_)
 ·refine vc (Yjj h h1 hR hW) ?_;exact vR (h:=by rw [YaB,if_pos (Zt f1)])
 exact vR (h:=by rw [YaB,if_neg (Zf f1)];rfl)
def Yib (x:Change):Prop:=x.params=[]/\x.when_=Xs
def NumC (x:Change):Prop:=x.kind≠1/\x.kind≠2
def YaO (d:Domain) (all vars:List Param) (x:Change) (du:Bool):Int:=
 if ¬Yib x/\(NumC x\/du=true) then 6
 else if TwP (parN vars) (parN x.params) then 4
 else if ¬ExP d.types x.params then 3
 else if formM d all (vars++x.params) x.when_≠0 then formM d all (vars++x.params) x.when_
 else if ¬NumC x then atomM d all (vars++x.params) x.name x.args
 else if fluM d all (vars++x.params) x.name x.args≠0 then fluM d all (vars++x.params) x.name x.args
 else exprM d all (vars++x.params) x.value
theorem Ym0 {x:Change} {du:Bool} (h1:¬(¬Yib x/\(NumC x\/du=true))) (h2:¬TwP (parN vars) (parN x.params)) (h3:ExP d.types x.params):
 YaO d all vars x du=if formM d all (vars++x.params) x.when_≠0 then formM d all (vars++x.params) x.when_
  else if ¬NumC x then atomM d all (vars++x.params) x.name x.args
  else if fluM d all (vars++x.params) x.name x.args≠0 then fluM d all (vars++x.params) x.name x.args
  else exprM d all (vars++x.params) x.value:=by rw [YaO,if_neg h1,if_neg h2,if_neg (by simpa using h3)]
theorem Yqp {p:Problem} {x:Change} {du:Bool} (h:CkG fz v d p all) (h1:Sl paramL fz A n c vars) (hRc:changeL.rep fz x cs) (hW:n+Y7 x<=1000000000):
 QFn prog 249 [v,Zc A n c,.agg cs.toArray,Zo du] fz (errV (YaO d all vars x du)):=by
 have h0:=h;obtain ⟨⟨vf,vpp,vg,vo,hck,hF,hPr,hFu,hO⟩,hw⟩:=h;have hck0:=hck;obtain ⟨gc,w1,w2,w3,w4,w5,w6,u1,u2,u3,u4,u5,u6,u7,Aa,na,ca,rfl,hc,hD,hP,hall⟩:=hck;obtain ⟨v1,v2,v3,v4,v5,v6,v7,v8,rfl,hR⟩:=Xb hRc;obtain ⟨A1,n1,b1,rfl,ip⟩:=hR.params;have hwh:=hR.when_;have hva:=hR.value;obtain ⟨⟨A2,n2,b2,rfl,_⟩,⟨A3,n3,b3,rfl,_⟩,⟨A4,n4,b4,rfl,_⟩,⟨A5,n5,b5,rfl,_⟩⟩:=hR.when_.sls;obtain ⟨A6,n6,b6,rfl,ia⟩:=hR.args;obtain ⟨⟨A7,n7,b7,rfl,_⟩,⟨A8,n8,b8,rfl,_⟩⟩:=hR.value.sls;have l1:=ip.len;have ln:=h1.len;have hWp:n+x.params.length+fW x.when_<=1000000000:=by unfold Y7 at hW;omega
 refine qF Tryz.func249 Tryz.ntmps249 (fun w0=>?_);refine pX (fun g0=>?_);refine zWO ?_;refine YN (Xe (fun σ fz' H'=>∃ bb:Bool,σ=[(9,Zo bb),(6,Zp g0),(0,Zp gc),(1,Zc A n c),(3,Zo du)]/\fz=fz'/\H'=[(g0,Zu #[Zk x.kind,Zc A1 n1 b1,Zy x.when_.op,Zy x.when_.name,Zc A2 n2 b2,Zc A3 n3 b3,Zc A4 n4 b4,Zc A5 n5 b5,Zy x.name,Zc A6 n6 b6,Zy x.value.op,Zy x.value.name,Zk x.value.n,Zc A7 n7 b7,Zc A8 n8 b8] 71)]/\(bb=true↔Yib x)) ?_ ?_)
 ·refine vC ?_ ?_<;>intro x1
  ·have hnil:x.params=[]:=List.eq_nil_of_length_eq_zero Zi;refine vG ?_;refine Yh (vs:=[Zy x.when_.op,Zy x.when_.name,Zc A2 n2 b2,Zc A3 n3 b3,Zc A4 n4 b4,Zc A5 n5 b5]) 0 ?_;refine vb (Ygh hwh Ycp) (fun f1=>?_) (fun f1=>?_)
   ·exact vN (h:=by exact ⟨true,rfl,rfl,rfl,iff_of_true rfl ⟨hnil,Zt f1⟩⟩)
   exact vN (h:=by exact ⟨false,rfl,rfl,rfl,iff_of_false (by simp) (fun h=>Zf f1 h.2)⟩)
  exact vN (h:=by exact ⟨false,rfl,rfl,rfl,iff_of_false (by simp) (fun h=>x1 (by rw [h.1] at l1;simp at l1;omega))⟩)
 rintro σ fz' H' ⟨bb,rfl,rfl,rfl,hbb⟩;refine YN (Xe (fun σ fz' H'=>∃ nn:Bool,σ=[(10,Zo nn),(9,Zo bb),(6,Zp g0),(0,Zp gc),(1,Zc A n c),(3,Zo du)]/\fz=fz'/\H'=[(g0,Zu #[Zk x.kind,Zc A1 n1 b1,Zy x.when_.op,Zy x.when_.name,Zc A2 n2 b2,Zc A3 n3 b3,Zc A4 n4 b4,Zc A5 n5 b5,Zy x.name,Zc A6 n6 b6,Zy x.value.op,Zy x.value.name,Zk x.value.n,Zc A7 n7 b7,Zc A8 n8 b8] 71)]/\(nn=true↔NumC x)) ?_ ?_)
 ·refine vC ?_ ?_<;>intro x1
  ·refine vC ?_ ?_<;>intro x2
   ·exact vN (h:=by exact ⟨true,rfl,rfl,rfl,iff_of_true rfl ⟨x1,x2⟩⟩)
   exact vN (h:=by exact ⟨false,rfl,rfl,rfl,iff_of_false (by simp) (fun h=>h.2 Zi)⟩)
  exact vN (h:=by exact ⟨false,rfl,rfl,rfl,iff_of_false (by simp) (fun h=>h.1 Zi)⟩)
 rintro σ fz' H' ⟨nn,rfl,rfl,rfl,hnn⟩;by_cases hbad:¬Yib x/\(NumC x\/du=true)
 ·have e1:YaO d all vars x du=6:=if_pos hbad;obtain rfl:bb=false:=by cases bb with | false=>rfl | true=>exact absurd (hbb.1 rfl) hbad.1
  cases nn with
  | true=>
   exact vR (h:=by rw [e1];rfl)
  | false=>
   obtain rfl:du=true:=hbad.2.elim (fun h=>by have:=hnn.2 h;cases this) id;exact vR (h:=by rw [e1];rfl)
 refine YN (Xe (fun σ fz' H'=>σ=[(10,Zo nn),(6,Zp g0),(0,Zp gc),(1,Zc A n c)]/\fz=fz'/\H'=[(g0,Zu #[Zk x.kind,Zc A1 n1 b1,Zy x.when_.op,Zy x.when_.name,Zc A2 n2 b2,Zc A3 n3 b3,Zc A4 n4 b4,Zc A5 n5 b5,Zy x.name,Zc A6 n6 b6,Zy x.value.op,Zy x.value.name,Zk x.value.n,Zc A7 n7 b7,Zc A8 n8 b8] 71)]) ?_ ?_)
 ·cases bb with
  | true=>
   exact vN (h:=by exact ⟨rfl,rfl,rfl⟩)
  | false=>
   have hp:¬Yib x:=fun h=>by have:=hbb.2 h;cases this
   obtain rfl:nn=false:=by cases nn with | false=>rfl | true=>exact absurd ⟨hp,.inl (hnn.1 rfl)⟩ hbad
   obtain rfl:du=false:=by cases du with | false=>rfl | true=>exact absurd ⟨hp,.inr rfl⟩ hbad
   exact vN (h:=by exact ⟨rfl,rfl,rfl⟩)
 rintro σ fz' H' ⟨rfl,rfl,rfl⟩;refine vc (Yk9 ip h1) ?_;by_cases ht:TwP (parN vars) (parN x.params)
 ·rw [if_pos ht,show errV 4=.iface 88 (Zk 4) from rfl];exact vR (h:=by rw [YaO,if_neg hbad,if_pos ht];rfl)
 rw [if_neg ht,show errV 0=.nilIface from rfl];refine vc (YlH hck0 hF ip) ?_;by_cases hx:ExP d.types x.params
 ·have e1:=Ym0 (all:=all) (du:=du) hbad ht hx;rw [if_pos hx,show errV 0=.nilIface from rfl];refine zV ?_;refine Y6 [_] ?_;refine zW ?_;refine Yl ?_;refine zW ?_;refine pU ?_;refine Yg (Yk [] [_] Zz (Ybg h1 Zi) (fun v6 fz6 H6 hle6 hR6=>⟨⟨hle6,Zx⟩,?_⟩));obtain ⟨Av,cv,rfl,_,_⟩:=hR6.form;refine Yg (XW T (Hr:=[_]) Zz Zz Zz Zz Zz Zz Zz Zz Zq hR6 Yaq (ip.mono hle6) (by show _*32<=_;omega) Zi (fun v7 H7 hO7=>⟨⟨hle6,Zx⟩,?_⟩));obtain ⟨Aw,cw,rfl,_,_⟩:=hO7.form;refine Ch.qk ⟨hle6,Zx⟩ (YR ?_);refine Ch.done ?_;refine Ydt ?_;refine Wp.freezeAll (H1:=[_]) (H2:=H7) (Zr _) (fun fz8 hle8 hf8=>?_);obtain ⟨A8,c8,e8,h8⟩:=hO7.sl hle8 hf8 Zi;injection e8 with e81 e82 e83
  subst e81;subst e83;have hle:=hle6.trans hle8;have h0':=h0.mono hle;have ia':=ia.mono hle;have hwh':=hwh.mono hle;have hva':=hva.mono hle;have hcg:=hle _ _ hc;refine vG ?_;refine Yh (vs:=[Zy x.when_.op,Zy x.when_.name,Zc A2 n2 b2,Zc A3 n3 b3,Zc A4 n4 b4,Zc A5 n5 b5]) 0 ?_;refine vG ?_;refine Yt (Yjj h0' h8 hwh' Zi) ?_;by_cases hz:formM d all (vars++x.params) x.when_=0
  ·have e2:=e1;rw [hz,if_neg Zh] at e2;rw [hz,show errV 0=.nilIface from rfl];cases nn with
   | false=>
    have hn:¬NumC x:=fun h=>by have:=hnn.2 h;cases this
    refine vc (YlQ h0' h8 ia') ?_;exact vR (h:=by rw [e2,if_pos hn])
   | true=>
    have hn:NumC x:=hnn.1 rfl;refine vc (Yhb h0' h8 ia') ?_;by_cases hy:fluM d all (vars++x.params) x.name x.args=0
    ·rw [hy,show errV 0=.nilIface from rfl];refine vG ?_;refine Yh (vs:=[Zy x.value.op,Zy x.value.name,Zk x.value.n,Zc A7 n7 b7,Zc A8 n8 b8]) 0 ?_;refine vc (Yqn h0' h8 hva') ?_;exact vR (h:=by rw [e2,if_neg (by simpa using hn),hy,if_neg Zh])
    rw [YD hy];exact vR (h:=by rw [e2,if_neg (by simpa using hn),if_pos hy,YD hy])
  rw [YD hz];exact vR (h:=by rw [e1,if_pos hz,YD hz])
 rw [if_neg hx,show errV 3=.iface 88 (Zk 3) from rfl];exact vR (h:=by rw [YaO,if_neg hbad,if_neg ht,if_pos (by simpa using hx)];rfl)
def Yav {α:Type} (E:α->Int):List α->Int
 | []=>0
 | x::r=>if E x=0 then Yav E r else E x
theorem YgZ {α:Type} {E:α->Int}:∀ {l:List α} {k:Nat} {x:α},l[k]?=some x->(∀ i,i<k->∀ y,l[i]?=some y->E y=0)->E x≠0->Yav E l=E x
 | [],k,x,h,_,_=>by simp at h
 | y::l,0,x,h,_,hx=>by simp at h;subst h;rw [Yav,if_neg hx]
 | y::l,k+1,x,h,hh,hx=>by
  rw [Yav,if_pos (hh 0 Zi y rfl)];exact YgZ (k:=k) (by simpa using h) (fun i hi z hz=>hh (i+1) Zi z (by simpa using hz)) hx
theorem YdQ {α:Type} {E:α->Int}:∀ {l:List α},(∀ y∈l,E y=0)->Yav E l=0
 | [],_=>rfl
 | y::l,h=>by rw [Yav,if_pos (h y (by simp))];exact YdQ (fun z hz=>h z (by simp [hz]))
def X9 (d:Domain) (all vars:List Param) (l:List Change) (du:Bool):Int:=Yav (fun x=>YaO d all vars x du) l
theorem Yh7 {p:Problem} {l:List Change} {m b:Nat} {du:Bool} (h:CkG fz v d p all) (h1:Sl paramL fz A n c vars) (h2:Sl changeL fz B m b l) (hW:∀ x∈l,n+Y7 x<=1000000000):
 QFn prog 207 [v,Zc A n c,Zc B m b,Zo du] fz (errV (X9 d all vars l du)):=by
 have h0:=h;obtain ⟨⟨vf,vpp,vg,vo,hck,hF,hPr,hFu,hO⟩,hw⟩:=h;obtain ⟨gc,w1,w2,w3,w4,w5,w6,u1,u2,u3,u4,u5,u6,u7,Aa,na,ca,rfl,hc,hD,hP,hall⟩:=hck;have l2:=h2.len;have s2:=h2.short;refine qF Tryz.func207 Tryz.ntmps207 (fun w0=>?_);refine zV ?_;refine WD m (fun k=>[(14,Zk k),(13,Zk m),(12,Zc B m b),(0,Zp gc),(1,Zc A n c),(3,Zo du)]) [] (fun k=>(∀ i,i<k->∀ y,l[i]?=some y->YaO d all vars y du=0)) (fun i hi=>absurd hi Zi) ?_;intro k hk hh;refine vC ?_ ?_<;>intro c1
 ·obtain ⟨x,hx⟩:=Yf (l:=l) (k:=k) Zi;refine vI h2 hx (fun p1 hp1=>?_);refine zL hp1 ?_;intro cs hcs;have hcs0:=hcs;obtain ⟨v1,v2,v3,v4,v5,v6,v7,v8,rfl,hR⟩:=Xb hcs;obtain ⟨A1,n1,b1,rfl,_⟩:=hR.params;obtain ⟨⟨A2,n2,b2,rfl,_⟩,⟨A3,n3,b3,rfl,_⟩,⟨A4,n4,b4,rfl,_⟩,⟨A5,n5,b5,rfl,_⟩⟩:=hR.when_.sls;obtain ⟨A6,n6,b6,rfl,_⟩:=hR.args;obtain ⟨⟨A7,n7,b7,rfl,_⟩,⟨A8,n8,b8,rfl,_⟩⟩:=hR.value.sls;refine zV ?_;intros;refine zc (Yqp h0 h1 hcs0 (hW x (Zm hx))) ?_;by_cases hz:YaO d all vars x du=0
  ·rw [hz,show errV 0=.nilIface from rfl];exact vM (h:=by exact YH hh hx hz)
  rw [YD hz];exact vR (h:=by rw [X9,YgZ (E:=fun x=>YaO d all vars x du) hx hh hz,YD hz])
 have hA:=Xc hh Zi;exact vR (h:=by rw [X9,YdQ hA];rfl)
def YlO (d:Domain):Bs × Int:=match d.duratives with
 | []=>(⟨#[]⟩,0)
 | _::_=>match d.actions with
  | a::_=>(Ww++a.name,6)
  | []=>match d.functions with
   | f::_=>(XA++f.name,6)
   | []=>(⟨#[]⟩,0)
theorem get0 {α:Type} {l:List α} (h:0<l.length):∃ x r,l=x::r:=by cases l with
 | nil=>simp at h
 | cons x r=>exact ⟨x,r,rfl⟩
theorem cknd_q {p:Problem} {vf vg vo:Value} (h:CkR fz v d p all vf vp vg vo) (hs:NmS d all):
 QFn prog 145 [v] fz (resV (YlO d)):=by
 obtain ⟨gc,v1,v2,v3,v4,v5,v6,u1,u2,u3,u4,u5,u6,u7,Aa,na,ca,rfl,hc,hD,hP,hall⟩:=h;obtain ⟨⟨A1,n1,b1,rfl,i1⟩,⟨A2,n2,b2,rfl,i2⟩,⟨A3,n3,b3,rfl,i3⟩,⟨A4,n4,b4,rfl,i4⟩,⟨A5,n5,b5,rfl,i5⟩,⟨A6,n6,b6,rfl,i6⟩⟩:=hD.sls;have l3:=i3.len;have l4:=i4.len;have l5:=i5.len;have l6:=i6.len;have la:=hall.len;have s3:=i3.short;have s4:=i4.short;have s5:=i5.short;have s6:=i6.short;have sa:=hall.short;refine qF Tryz.func145 Tryz.ntmps145 (fun w0=>?_);refine vC ?_ ?_<;>intro c1
 ·have h0:d.duratives=[]:=List.eq_nil_of_length_eq_zero Zi;exact vS (h:=by exact (by rw [YlO,h0];rfl))
 obtain ⟨u,r,h0⟩:=get0 (l:=d.duratives) Zi;refine vC ?_ ?_<;>intro c2
 ·obtain ⟨x,r2,h2⟩:=get0 (l:=d.actions) Zi;have hxs:=hs.a x (by rw [h2];simp);have hx:d.actions[0]?=some x:=by rw [h2];rfl
  refine vI i5 hx (fun p1 hp=>?_);refine vH hp.Action_name (fun hxn=>?_);refine zG ?_;refine XX Zz Zz (by show _+_<=_;exact Nat.le_trans (Nat.add_le_add_left hxs _) Zh) ?_;exact vS (h:=by exact (by rw [YlO,h0,h2];rfl))
 have h2:d.actions=[]:=List.eq_nil_of_length_eq_zero Zi;refine vC ?_ ?_<;>intro c3
 ·obtain ⟨x,r3,h3⟩:=get0 (l:=d.functions) Zi;have hxs:=hs.f x (by rw [h3];simp);have hx:d.functions[0]?=some x:=by rw [h3];rfl
  refine vI i4 hx (fun p1 hp=>?_);refine vH hp.Function_name (fun hxn=>?_);refine zG ?_;refine XX Zz Zz (by show _+_<=_;exact Nat.le_trans (Nat.add_le_add_left hxs _) Zh) ?_;exact vS (h:=by exact (by rw [YlO,h0,h2,h3];rfl))
 have h3:d.functions=[]:=List.eq_nil_of_length_eq_zero Zi;exact vS (h:=by exact (by rw [YlO,h0,h2,h3];rfl))
def codeF (f:Function):Int:=if f.hi<f.lo then 7 else if 64<=f.hi - f.lo then 5 else 0
def Yjf (a:Action):Int:=if 1048576<a.cost then 1 else 0
def Yhx (a:Durative):Int:=if a.duration<1\/62<a.duration then 1 else 0
def numsL (d:Domain):List (Bs × Int):=
 d.functions.map (fun x=>(XA++x.name,codeF x))++(d.actions.map (fun x=>(Ww++x.name,Yjf x))++(d.duratives.map (fun x=>(XB++x.name,Yhx x))++ []))
theorem Yo7 {p:Problem} {vf vg vo:Value} (h:CkR fz v d p all vf vp vg vo) (hs:NmS d all) (hn:∀ f∈d.functions,YeC f.lo/\YeC f.hi):
 QFn prog 146 [v] fz (resV (Y9 (fun n=>n) (numsL d))):=by
 obtain ⟨gc,v1,v2,v3,v4,v5,v6,u1,u2,u3,u4,u5,u6,u7,Aa,na,ca,rfl,hc,hD,hP,hall⟩:=h;obtain ⟨⟨A1,n1,b1,rfl,i1⟩,⟨A2,n2,b2,rfl,i2⟩,⟨A3,n3,b3,rfl,i3⟩,⟨A4,n4,b4,rfl,i4⟩,⟨A5,n5,b5,rfl,i5⟩,⟨A6,n6,b6,rfl,i6⟩⟩:=hD.sls;have l3:=i3.len;have l4:=i4.len;have l5:=i5.len;have l6:=i6.len;have la:=hall.len;have s3:=i3.short;have s4:=i4.short;have s5:=i5.short;have s6:=i6.short;have sa:=hall.short;refine qF Tryz.func146 Tryz.ntmps146 (fun w0=>?_);refine zV ?_;refine WD n4 (fun k=>[(16,Zk k),(15,Zk n4),(14,Zc A4 n4 b4),(0,Zp gc)]) [] (fun k=>(∀ i,i<k->∀ x,d.functions[i]?=some x->codeF x=0)) (fun i hi=>absurd hi Zi) ?_;intro k hk hh;refine vC ?_ ?_<;>intro c1
 ·obtain ⟨x,hx⟩:=Yf (l:=d.functions) (k:=k) Zi;have hxm:=Zm hx;have hxs:=hs.f x hxm;refine vI i4 hx (fun p1 hp=>?_);refine zL hp ?_;intro cs hcs;obtain ⟨w1,rfl,hR⟩:=Xt hcs;obtain ⟨Ap,np,cp,rfl,ip⟩:=hR.params;have hnx:=hn x hxm;obtain ⟨hn1,hn2⟩:=hnx;unfold YeC at hn1 hn2;refine zV ?_;intros;refine zC ?_ ?_<;>intro e1
  ·have e1:=e1;have hz:codeF x=7:=if_pos e1;refine vG ?_;refine XX Zz Zz (by show _+_<=_;exact Nat.le_trans (Nat.add_le_add_left hxs _) Zh) ?_;exact vS (h:=by exact (by rw [numsL,WC (l:=d.functions) (E:=fun n=>n) (f:=fun x=>XA++x.name) (g:=codeF) hx hh (by rw [hz];decide),hz];rfl))
  refine vC ?_ ?_<;>intro e2
  ·have e2:=e2;have hz:codeF x=5:=by rw [codeF,if_neg e1,if_pos e2]
   refine vG ?_;refine XX Zz Zz (by show _+_<=_;exact Nat.le_trans (Nat.add_le_add_left hxs _) Zh) ?_;exact vS (h:=by exact (by rw [numsL,WC (l:=d.functions) (E:=fun n=>n) (f:=fun x=>XA++x.name) (g:=codeF) hx hh (by rw [hz];decide),hz];rfl))
  have e2:=e2;have hz:codeF x=0:=by rw [codeF,if_neg e1,if_neg e2]
  exact vM (h:=by exact YH hh hx hz)
 have hzf:=fun x (hx:x∈d.functions)=>(by obtain ⟨i,hi⟩:=List.getElem?_of_mem hx;exact Xc hh Zi x hx:codeF x=0)
 refine zV ?_;refine WD n5 (fun k=>[(48,Zk k),(47,Zk n5),(46,Zc A5 n5 b5),(0,Zp gc)]) [] (fun k=>(∀ i,i<k->∀ x,d.actions[i]?=some x->Yjf x=0)) (fun i hi=>absurd hi Zi) ?_;intro k hk hh;refine vC ?_ ?_<;>intro c1
 ·obtain ⟨x,hx⟩:=Yf (l:=d.actions) (k:=k) Zi;have hxm:=Zm hx;have hxs:=hs.a x hxm;refine vI i5 hx (fun p1 hp=>?_);refine zL hp ?_;intro cs hcs;obtain ⟨w1,w2,w3,w4,w5,w6,rfl,hR⟩:=Xd hcs;obtain ⟨Ap,np,cp,rfl,ip⟩:=hR.params;obtain ⟨⟨B0,e0,j0,rfl,_⟩,⟨B1,e1,j1,rfl,_⟩,⟨B2,e2,j2,rfl,_⟩,⟨B3,e3,j3,rfl,_⟩⟩:=hR.pre.sls;obtain ⟨B4,e4,j4,rfl,_⟩:=hR.changes;refine zV ?_;intros;refine zC ?_ ?_<;>intro e1
  ·have e1:=e1;have hz:Yjf x=1:=if_pos e1;refine vG ?_;refine XX Zz Zz (by show _+_<=_;exact Nat.le_trans (Nat.add_le_add_left hxs _) Zh) ?_;exact vS (h:=by exact (by rw [numsL,Y3 (l:=d.functions) (E:=fun n=>n) (f:=fun x=>XA++x.name) (g:=codeF) hzf,WC (l:=d.actions) (E:=fun n=>n) (f:=fun x=>Ww++x.name) (g:=Yjf) hx hh (by rw [hz];decide),hz];rfl))
  have e1:=e1;have hz:Yjf x=0:=if_neg e1;exact vM (h:=by exact YH hh hx hz)
 have hza:=fun x (hx:x∈d.actions)=>(by obtain ⟨i,hi⟩:=List.getElem?_of_mem hx;exact Xc hh Zi x hx:Yjf x=0)
 refine zV ?_;refine WD n6 (fun k=>[(66,Zk k),(65,Zk n6),(64,Zc A6 n6 b6)]) [] (fun k=>(∀ i,i<k->∀ x,d.duratives[i]?=some x->Yhx x=0)) (fun i hi=>absurd hi Zi) ?_;intro k hk hh;refine vC ?_ ?_<;>intro c1
 ·obtain ⟨x,hx⟩:=Yf (l:=d.duratives) (k:=k) Zi;have hxm:=Zm hx;have hxs:=hs.u x hxm;refine vI i6 hx (fun p1 hp=>?_);refine zL hp ?_;intro cs hcs;obtain ⟨w0,w1,w2,w3,w4,w5,w6,w7,w8,w9,w10,w11,w12,w13,w14,rfl,hR⟩:=XJ hcs;obtain ⟨Ap,np,cp,rfl,ip⟩:=hR.params;obtain ⟨⟨B0,e0,j0,rfl,_⟩,⟨B1,e1,j1,rfl,_⟩,⟨B2,e2,j2,rfl,_⟩,⟨B3,e3,j3,rfl,_⟩⟩:=hR.start.sls;obtain ⟨⟨B4,e4,j4,rfl,_⟩,⟨B5,e5,j5,rfl,_⟩,⟨B6,e6,j6,rfl,_⟩,⟨B7,e7,j7,rfl,_⟩⟩:=hR.over.sls;obtain ⟨⟨B8,e8,j8,rfl,_⟩,⟨B9,e9,j9,rfl,_⟩,⟨B10,e10,j10,rfl,_⟩,⟨B11,e11,j11,rfl,_⟩⟩:=hR.fin.sls;obtain ⟨B12,e12,j12,rfl,_⟩:=hR.atStart;obtain ⟨B13,e13,j13,rfl,_⟩:=hR.atEnd;refine zV ?_;intros;refine zC ?_ ?_<;>intro e1
  ·have e1:=e1;have hz:Yhx x=1:=if_pos (.inl e1);refine vG ?_;refine XX Zz Zz (by show _+_<=_;exact Nat.le_trans (Nat.add_le_add_left hxs _) Zh) ?_;exact vS (h:=by exact (by rw [numsL,Y3 (l:=d.functions) (E:=fun n=>n) (f:=fun x=>XA++x.name) (g:=codeF) hzf,Y3 (l:=d.actions) (E:=fun n=>n) (f:=fun x=>Ww++x.name) (g:=Yjf) hza,WC (l:=d.duratives) (E:=fun n=>n) (f:=fun x=>XB++x.name) (g:=Yhx) hx hh (by rw [hz];decide),hz];rfl))
  refine vC ?_ ?_<;>intro e2
  ·have e2:=e2;have hz:Yhx x=1:=if_pos (.inr e2);refine vG ?_;refine XX Zz Zz (by show _+_<=_;exact Nat.le_trans (Nat.add_le_add_left hxs _) Zh) ?_;exact vS (h:=by exact (by rw [numsL,Y3 (l:=d.functions) (E:=fun n=>n) (f:=fun x=>XA++x.name) (g:=codeF) hzf,Y3 (l:=d.actions) (E:=fun n=>n) (f:=fun x=>Ww++x.name) (g:=Yjf) hza,WC (l:=d.duratives) (E:=fun n=>n) (f:=fun x=>XB++x.name) (g:=Yhx) hx hh (by rw [hz];decide),hz];rfl))
  have e2:=e2;have hz:Yhx x=0:=if_neg (fun h=>h.elim e1 e2);exact vM (h:=by exact YH hh hx hz)
 have hzu:=fun x (hx:x∈d.duratives)=>(by obtain ⟨i,hi⟩:=List.getElem?_of_mem hx;exact Xc hh Zi x hx:Yhx x=0)
 exact vS (h:=by exact (by rw [numsL,Y3 (l:=d.functions) (E:=fun n=>n) (f:=fun x=>XA++x.name) (g:=codeF) hzf,Y3 (l:=d.actions) (E:=fun n=>n) (f:=fun x=>Ww++x.name) (g:=Yjf) hza,Y3 (l:=d.duratives) (E:=fun n=>n) (f:=fun x=>XB++x.name) (g:=Yhx) hzu];rfl))
end Go.Proofs.YtbdpaoikccabhaaGreatDoor
