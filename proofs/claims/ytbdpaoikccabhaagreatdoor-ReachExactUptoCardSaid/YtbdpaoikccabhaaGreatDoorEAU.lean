/- The texts UQ, UR, US, UT, UV, PSize, laid together. Conditions: none. -/
import Derived.Test.YtbdpaoikccabhaaGreatDoorEAT
set_option linter.all false
set_option maxHeartbeats 16000000
noncomputable section
set_option maxRecDepth 20000
namespace Go.Lx
open Go.RowKit
variable {α:Type} {fz:FZ} {g j n:Nat} {L:Lay α} {l:List α}
theorem GrowB.setc {e:Nat} {cap o:Nat} {cur:List Value} {d d':α} {v:Value} (h:GrowB L e fz g n cap cur l) (hj:l[j]?=some d) (ho:o<L.size) (hr:∀ cs,L.rep fz d cs->L.rep fz d' (cs.set o v)):GrowB L e fz g n cap (cur.set (j*L.size+o) v) (l.set j d'):=by
 obtain ⟨xs,h1,h2,h3⟩:=h.pairs;have hjl:j<l.length:=(Zg hj).1;have hxl:xs.length=l.length:=by rw [<- h1,List.length_map]
 obtain ⟨p,hp⟩:∃ p,xs[j]?=some p:=⟨xs[j]'Zi,List.getElem?_eq_getElem Zi⟩;have hpd:p.1=d:=by rw [<- h1,List.getElem?_map,hp] at hj;simpa using hj
 have hpm:p∈xs:=Zm hp;have hz:∀ q∈xs,q.2.length=L.size:=fun q hq=>L.len (h2 q hq)
 have hpr:=h2 p hpm;rw [hpd] at hpr;have f1:=Yen (d:=p) (hz p hpm) (i:=j) hz Zi;have f2:=Yen (d:=(d',p.2.set o v)) (by rw [List.length_set];exact hz p hpm) (i:=j) hz Zi;have hs:xs.set j p=xs:=by
  refine List.ext_getElem? fun i=>?_
  rw [List.getElem?_set];split
  ·rename_i e;subst e;rw [hp];split
   ·rfl
   omega
  rfl
 rw [hs] at f1;have hfl:(xs.flatMap Prod.snd).length=n*L.size:=by rw [YaQ (fun p hp=>L.len (h2 p hp)),hxl,h.len]
 have hjn:j*L.size+L.size<=n*L.size:=by rw [<- Nat.succ_mul];exact Nat.mul_le_mul_right _ (by have:=h.len;omega)
 have ht:((xs.flatMap Prod.snd).take (j*L.size)).length=j*L.size:=by rw [List.length_take];omega
 refine ⟨⟨xs.set j (d',p.2.set o v),by rw [List.map_set,h1],fun q hq=>?_,?_⟩,by rw [List.length_set];exact h.len,h.capn,h.max,by rw [List.length_set];exact h.size⟩
 ·rcases List.mem_or_eq_of_mem_set hq with hq | rfl
  ·exact h2 q hq
  exact hr _ hpr
 rw [List.take_set,h3,<- f2]
 conv=>lhs;rw [<- f1]
 rw [List.append_assoc,List.set_append_right _ _ Zi,ht,Nat.add_sub_cancel_left,List.set_append_left _ _ (by rw [hz p hpm];exact ho),List.append_assoc]
end Go.Lx
namespace Go.Proofs.YtbdpaoikccabhaaGreatDoor
open Go.Lx Go.RowKit
attribute [local instance 10] Classical.propDecidable
open Go.Proofs.Tryz (prog)
variable {α β:Type} {cs:List Value} {fz:FZ} {A B:Option Addr} {g n k i:Nat} {t:TypeId} {M:Mn} {W:Wd} {va u1 u2 u3 u4 u5 u6 u7 v1 v2 v3 v4 v5 v6 vk ve vp:Value} {d:Domain} {l:List α}
theorem Ycc {x:Change} (h:changeL.rep fz x cs):∃ A0 n0 c0 A1 n1 c1 A2 n2 c2 A3 n3 c3 A4 n4 c4 A5 n5 c5 A6 n6 c6 A7 n7 c7,cs=[Zk x.kind,Zc A0 n0 c0,Zy x.when_.op,Zy x.when_.name,Zc A1 n1 c1,Zc A2 n2 c2,Zc A3 n3 c3,Zc A4 n4 c4,Zy x.name,Zc A5 n5 c5,Zy x.value.op,Zy x.value.name,Zk x.value.n,Zc A6 n6 c6,Zc A7 n7 c7]/\
 ChangeR fz x (Zc A0 n0 c0) (Zc A1 n1 c1) (Zc A2 n2 c2) (Zc A3 n3 c3) (Zc A4 n4 c4) (Zc A5 n5 c5) (Zc A6 n6 c6) (Zc A7 n7 c7):=by
 obtain ⟨u0,u1,u2,u3,u4,u5,u6,u7,rfl,hR⟩:=Xb h;obtain ⟨A0,n0,c0,rfl,_⟩:=id hR.params;obtain ⟨⟨A1,n1,c1,rfl,_⟩,⟨A2,n2,c2,rfl,_⟩,⟨A3,n3,c3,rfl,_⟩,⟨A4,n4,c4,rfl,_⟩⟩:=id hR.when_.sls;obtain ⟨A5,n5,c5,rfl,_⟩:=id hR.args;obtain ⟨⟨A6,n6,c6,rfl,_⟩,⟨A7,n7,c7,rfl,_⟩⟩:=id hR.value.sls;exact ⟨_,_,_,_,_,_,_,_,_,_,_,_,_,_,_,_,_,_,_,_,_,_,_,_,rfl,hR⟩
theorem Ybh {x:Action} (h:actionL.rep fz x cs):∃ A0 n0 c0 A1 n1 c1 A2 n2 c2 A3 n3 c3 A4 n4 c4 A5 n5 c5,cs=[Zy x.name,Zc A0 n0 c0,Zk x.cost,Zy x.pre.op,Zy x.pre.name,Zc A1 n1 c1,Zc A2 n2 c2,Zc A3 n3 c3,Zc A4 n4 c4,Zc A5 n5 c5]/\
 ActionR fz x (Zc A0 n0 c0) (Zc A1 n1 c1) (Zc A2 n2 c2) (Zc A3 n3 c3) (Zc A4 n4 c4) (Zc A5 n5 c5):=by
 obtain ⟨u0,u1,u2,u3,u4,u5,rfl,hR⟩:=Xd h;obtain ⟨A0,n0,c0,rfl,_⟩:=id hR.params;obtain ⟨⟨A1,n1,c1,rfl,_⟩,⟨A2,n2,c2,rfl,_⟩,⟨A3,n3,c3,rfl,_⟩,⟨A4,n4,c4,rfl,_⟩⟩:=id hR.pre.sls;obtain ⟨A5,n5,c5,rfl,_⟩:=id hR.changes;exact ⟨_,_,_,_,_,_,_,_,_,_,_,_,_,_,_,_,_,_,rfl,hR⟩
def numC (c:Change):Prop:=c.kind=3\/c.kind=4\/c.kind=5
def numL (cs:List Change):List Change:=cs.filter fun c=>decide (numC c)
theorem Yni {x:Change} (h:changeL.rep fz x cs):QFn prog 107 [.agg cs.toArray] fz (Zo (decide (numC x))):=by
 obtain ⟨A0,n0,c0,A1,n1,c1,A2,n2,c2,A3,n3,c3,A4,n4,c4,A5,n5,c5,A6,n6,c6,A7,n7,c7,rfl,hR⟩:=Ycc h;refine qF Tryz.func107 Tryz.ntmps107 (fun w0=>?_);refine pX (fun g1=>?_);refine wC ?_ ?_<;>intro e1
 ·exact wR (h:=by exact Ys (.inl e1))
 refine wC ?_ ?_<;>intro e2
 ·exact wR (h:=by exact Ys (.inr (.inl e2)))
 refine wC ?_ ?_<;>intro e3
 ·exact wR (h:=by exact Ys (.inr (.inr e3)))
 exact wR (h:=by exact Yj (by unfold numC;omega))
theorem Yoe {a:Atom} {x:Value_} {c:Nat} (ha:AtomR fz a (Zc A n c)) (hg:fz g=some (Zu #[Zy a.name,Zc A n c] t)) (hcs:valueL.rep fz x cs):
 QFn prog 108 (.agg cs.toArray:: [Zp g]) fz (Zo (decide (x.fluent=a))):=by
 obtain ⟨va,rfl,hx⟩:=XM hcs;have hx1:=hx.fluent;obtain ⟨B,m,d,rfl,ib⟩:=hx.fluent.args;refine qF Tryz.func108 Tryz.ntmps108 (fun w0=>?_);refine pX (fun g9=>?_);refine wG ?_;refine Yh (vs:=[Zy x.fluent.name,Zc B m d]) 0 ?_;refine wc (Ybc hx1 ha) ?_;exact wR (h:=rfl)
theorem Yod {x:Function} {ds:List Value} {c:Change} (hg:fz g=some (Zu ds.toArray t)) (hd:changeL.rep fz c ds) (hcs:functionL.rep fz x cs):
 QFn prog 113 (.agg cs.toArray:: [Zp g]) fz (Zo (decide (x.name=c.name))):=by
 obtain ⟨va,rfl,hx⟩:=Xt hcs;obtain ⟨B,m,d,rfl,ib⟩:=id hx.params;obtain ⟨A0,n0,c0,A1,n1,c1,A2,n2,c2,A3,n3,c3,A4,n4,c4,A5,n5,c5,A6,n6,c6,A7,n7,c7,rfl,hR⟩:=Ycc hd;refine qF Tryz.func113 Tryz.ntmps113 (fun w0=>?_);refine pX (fun g9=>?_);refine wC ?_ ?_<;>intro c1
 ·exact wR (h:=by exact Ys c1)
 exact wR (h:=by exact Yj c1)
theorem Ymf {n:Int}:QFn prog 111 [Zk n,Zo false] fz (optV none):=by
 refine qF Tryz.func111 Tryz.ntmps111 (fun w0=>?_);exact wS (h:=rfl)
def cfl (ns bs:List Bs) (c:Change):Atom:=⟨c.name,c.args.map (valN ns bs)⟩
def Ydu (W:Wd) (ns bs:List Bs) (c:Change):Option Int:=match valW W (bE ns bs c.value) with
 | none=>none
 | some v=>if c.kind=3 then some v else match fluW W.values (cfl ns bs c) with
  | none=>none
  | some o=>smallM (some (o+if c.kind=5 then -v else v))
def fitV (d:Domain) (W:Wd) (ns bs:List Bs) (c:Change):Option Int:=match Ydu W ns bs c with
 | none=>none
 | some v=>match d.functions.find? (fun f=>decide (f.name=c.name)) with
  | none=>none
  | some f=>if v<f.lo\/f.hi<v then none else some v
def ValC (d:Domain) (W:Wd) (ns bs:List Bs) (cs:List Change):Prop:=((numL cs).map (cfl ns bs)).Nodup/\∀ c∈numL cs,(fitV d W ns bs c).isSome=true
def valC (d:Domain) (W:Wd) (ns bs:List Bs) (cs:List Change):List Value_:=(numL cs).map fun c=>⟨cfl ns bs c,(fitV d W ns bs c).getD 0⟩
theorem YfV {cs:List Change} {x:Change} (hx:cs[k]?=some x) (h:numC x):numL (cs.take (k+1))=numL (cs.take k)++ [x]:=by
 unfold numL;rw [List.take_add_one,hx,List.filter_append];simp [h]
theorem Ylr {cs:List Change} {x:Change} (hx:cs[k]?=some x) (h:¬numC x):numL (cs.take (k+1))=numL (cs.take k):=by
 unfold numL;rw [List.take_add_one,hx,List.filter_append];simp [h]
theorem Yms (cs:List Change):(numL cs).length<=cs.length:=List.length_filter_le _ _
structure ChgC (c:Change):Prop where
 args:c.args.length<=1000000000
 w:eW c.value<=1000000000
 sh:numC c->VSh c.value
theorem Yn4:∀ (cs:List Value) (j:Nat) (v:Value),j<cs.length->wrL cs j [v]=some (cs.set j v)
 | [],j,v,h=>by simp at h
 | c::cs,0,v,_=>by rw [wrL];cases cs<;>rfl
 | c::cs,j+1,v,h=>by rw [wrL,Yn4 cs j v (by simpa using h)];rfl
theorem set_map2 {f z:α->β} {x:α} (hx:l[k]?=some x):((l.take k).map f++(l.drop k).map z).set k (f x)=(l.take (k+1)).map f++(l.drop (k+1)).map z:=by
 have hk:k<l.length:=(Zg hx).1;have h1:((l.take k).map f).length=k:=by rw [List.length_map,List.length_take];omega
 have h2:l[k]=x:=by rw [List.getElem?_eq_getElem hk] at hx;exact Option.some.inj hx
 rw [List.set_append_right _ _ Zi,h1,Nat.sub_self,List.drop_eq_getElem_cons hk,List.map_cons,List.set_cons_zero,List.take_add_one,hx];simp
theorem get_map2 {f z:α->β} {x:α} (hx:l[k]?=some x):((l.take k).map f++(l.drop k).map z)[k]?=some (z x):=by
 have hk:k<l.length:=(Zg hx).1;have h1:((l.take k).map f).length=k:=by rw [List.length_map,List.length_take];omega
 rw [List.getElem?_append_right Zi,h1,Nat.sub_self,List.getElem?_map,List.getElem?_drop,Nat.add_zero,hx];rfl
theorem values_f {v vw:Value} {a:Action} {as_:List Bs} {m d:Nat} (hM:MnR fz v M) (hW:WdR fz W vw) (ha:actionL.rep fz a cs) (hB:Sl strL fz B m d as_) (hl:a.params.length<=as_.length) (h6:a.params.length<=1000000) (hC:∀ c∈a.changes,ChgC c) (hn:a.changes.length<=1000000):
 GFn prog 57 [v,vw,.agg cs.toArray,Zc B m d] fz [] (fun r fz' H'=>∃ v e,r=.tuple #[v,errV e]/\(e≠0->¬ValC M.d W (a.params.map (·.name)) as_ a.changes/\H'=[])/\(e=0->ValC M.d W (a.params.map (·.name)) as_ a.changes/\∃ n,Grow valueL 117 fz' v n H' (valC M.d W (a.params.map (·.name)) as_ a.changes))):=by
 have hM0:=hM;obtain ⟨⟨g,v1,v2,v3,v4,v5,v6,a7,a8,a9,a10,a11,a12,a13,a14,a15,a16,a17,vf,A,n,c,rfl,hg,hD,hF,hO⟩,hw,hm⟩:=hM;have hW0:=hW;obtain ⟨Wa,wn,wc,Wv,wm,wd,rfl,hWA,hWV⟩:=hW;obtain ⟨A0,n0,c0,A1,n1,c1,A2,n2,c2,A3,n3,c3,A4,n4,c4,A5,n5,c5,rfl,hR⟩:=Ybh ha;obtain ⟨_,_,_,e0,i0⟩:=id hR.params;cases e0;obtain ⟨_,_,_,e5,i5⟩:=id hR.changes;cases e5;obtain ⟨F1,f1,f2,rfl,iF⟩:=hD.functions;have lb:=hB.len;have sb:=hB.short;have l0:=i0.len;have l5:=i5.len;have s5:=i5.short;have lF:=iF.len;have sF:=iF.short;generalize hns:a.params.map (·.name)=ns;have lns:ns.length=a.params.length:=by rw [<- hns,List.length_map]
 refine zF Tryz.func57 Tryz.ntmps57 (fun w0=>?_);refine pX (fun g5=>?_);refine pY (fun g6=>?_)
 first
 | refine Wp.freezeAll (H1:=[]) (H2:=[_,_]) (Zr _) (fun fz0 hle0 hf0=>?_)
 | refine Seq.freezeAll (H1:=[]) (H2:=[_,_]) (Zr _) (fun fz0 hle0 hf0=>?_)
 have hg6:=hf0 _ (.head _);have hg5:=hf0 _ (.tail _ (.head _));have hg0:=hle0 _ _ hg;refine wK (q:=Yiq (i0.mono hle0) Zi) (h:=fun r4 fz4 H4 hle4 hR4=>?_);obtain ⟨rfl,N,nn,nc,rfl,iN⟩:=hR4;rw [hns] at iN;have hle04:=hle0.trans hle4;have hg6:=hle4 _ _ hg6;have hg5:=hle4 _ _ hg5;have hg0:=hle4 _ _ hg0;have lN:=iN.len;refine zW ?_;refine Yn (fun q σ fz' H'=>∃ (k:Nat) (vo vc:Value) (mo:Nat) (Ho Hc:HP),k<=n5/\q=n5 - k/\σ=[(29,Zk k),(28,Zk n5),(27,Zc A5 n5 c5),(12,vc),(11,vo),(10,Zc N nn nc),(5,Zp g5),(0,Zp g),(3,Zc B m d)]/\Le fz4 fz'/\H'=Ho++Hc/\mo<=k/\
  Grow valueL 117 fz' vo mo Ho ((numL (a.changes.take k)).map fun c=>⟨cfl ns as_ c,0⟩)/\Grow changeL 71 fz' vc mo Hc (numL (a.changes.take k))/\((numL (a.changes.take k)).map (cfl ns as_)).Nodup)
  ⟨0,_,_,0,[],[],Z0 _,rfl,rfl,Zd,rfl,Zs _,Grow.nil _ _ _,Grow.nil _ _ _,List.nodup_nil⟩ Zw Zb ?_
 rintro q σ fz1 H' ⟨k,vo,vc,mo,Ho,Hc,hk,rfl,rfl,hle1,rfl,hmo,hGo,hGc,hnd⟩;obtain ⟨Ao,co,rfl,_,_⟩:=hGo.form;obtain ⟨Ac,cc,rfl,_,_⟩:=hGc.form;have hle41:=hle04.trans hle1;refine wC ?_ ?_<;>intro e1
 ·obtain ⟨x,hx⟩:=Yf (l:=a.changes) (k:=k) Zi;have hxm:=Zm hx;have hxC:=hC x hxm;refine wI (i5.mono hle41) hx (fun p8 hp8=>?_);refine zL hp8 ?_;intro ds hds;have hds0:=hds;obtain ⟨X0,x0,y0,X1,x1,y1,X2,x2,y2,X3,x3,y3,X4,x4,y4,X5,x5,y5,X6,x6,y6,X7,x7,y7,rfl,hXR⟩:=Ycc hds;obtain ⟨_,_,_,e0,j5⟩:=id hXR.args;cases e0;refine zW ?_;intros;rename_i g14;refine zb (Yni hds0) (fun e2=>?_) (fun e2=>?_);rotate_left 1
  ·have e2:=Zf e2;exact wP (h:=by exact ⟨k+1,_,_,mo,Ho,Hc,by omega,rfl,rfl,hle1,rfl,by omega,by rw [Ylr hx e2];exact hGo,by rw [Ylr hx e2];exact hGc,by rw [Ylr hx e2];exact hnd⟩)
  have e2:=Zt e2;have lx5:=j5.len;have iN':=iN.mono hle1;have hB':=hB.mono (hle04.trans hle1);have hlN:ns.length<=as_.length:=by omega
  refine zWN ?_
  first | refine Xe (fun σ fz' H'=>∃ (g15:Nat) (Bf:Option Addr) (cf:Nat),σ=[(15,Zp g15),(14,Zp g14),(29,Zk k),(28,Zk n5),(27,Zc A5 n5 c5),(12,Zc Ac mo cc),(11,Zc Ao mo co),(10,Zc N nn nc),(5,Zp g5),(0,Zp g),(3,Zc B m d)]/\Le fz1 fz'/\H'=(g15,Zu #[Zy x.name,Zc Bf x5 cf] 59)::(g14,Zu #[Zk x.kind,Zc X0 x0 y0,Zy x.when_.op,Zy x.when_.name,Zc X1 x1 y1,Zc X2 x2 y2,Zc X3 x3 y3,Zc X4 x4 y4,Zy x.name,Zc X5 x5 y5,Zy x.value.op,Zy x.value.name,Zk x.value.n,Zc X6 x6 y6,Zc X7 x7 y7] 71)::(Ho++Hc)/\Sl strL fz' Bf x5 cf (x.args.map (valN ns as_))) ?_ ?_ | refine YN (Xe (fun σ fz' H'=>∃ (g15:Nat) (Bf:Option Addr) (cf:Nat),σ=[(15,Zp g15),(14,Zp g14),(29,Zk k),(28,Zk n5),(27,Zc A5 n5 c5),(12,Zc Ac mo cc),(11,Zc Ao mo co),(10,Zc N nn nc),(5,Zp g5),(0,Zp g),(3,Zc B m d)]/\Le fz1 fz'/\H'=(g15,Zu #[Zy x.name,Zc Bf x5 cf] 59)::(g14,Zu #[Zk x.kind,Zc X0 x0 y0,Zy x.when_.op,Zy x.when_.name,Zc X1 x1 y1,Zc X2 x2 y2,Zc X3 x3 y3,Zc X4 x4 y4,Zy x.name,Zc X5 x5 y5,Zy x.value.op,Zy x.value.name,Zk x.value.n,Zc X6 x6 y6,Zc X7 x7 y7] 71)::(Ho++Hc)/\Sl strL fz' Bf x5 cf (x.args.map (valN ns as_))) ?_ ?_)
  ·refine Yay [] [_] ?_;refine zW ?_;refine pT ?_;refine YB ?_ ?_
   ·refine Ye (Yk [] (_::(Ho++Hc)) Zz (Yh8 j5 (by have:=hxC.args;omega) iN' hB' hlN) (fun v6 fz6 H6 hle6 hR6=>⟨⟨hle6,Zx⟩,?_⟩));obtain ⟨rfl,Bf,cf,rfl,hSf⟩:=hR6;refine YB ?_ ?_
    ·refine PoS.qk ⟨hle6,Zx⟩ (XH ?_);refine Yb ?_;refine Ye (YU (fun g15=>⟨⟨hle6,Zx⟩,?_⟩));refine Yb ?_;refine PoS.hard0 (Yy ?_);refine Po.done ?_;exact wN (h:=by exact ⟨g15,Bf,cf,rfl,hle6,rfl,hSf⟩)
    refine Ye (YU (fun g15=>⟨⟨hle6,Zx⟩,?_⟩));refine Yb ?_;refine PoS.qk ⟨hle6,Zx⟩ (XH ?_);refine Yb ?_;refine PoS.hard0 (Yy ?_);refine Po.done ?_;exact wN (h:=by exact ⟨g15,Bf,cf,rfl,hle6,rfl,hSf⟩)
   refine Ye (YU (fun g15=>⟨⟨Zd,Zx⟩,?_⟩));refine Yb ?_;refine Ye (Yk [] (_::_::(Ho++Hc)) Zz (Yh8 j5 (by have:=hxC.args;omega) iN' hB' hlN) (fun v6 fz6 H6 hle6 hR6=>⟨⟨hle6,Zx⟩,?_⟩));obtain ⟨rfl,Bf,cf,rfl,hSf⟩:=hR6;refine Yb ?_;refine PoS.qk ⟨hle6,Zx⟩ (XH ?_);refine Yb ?_;refine PoS.hard0 (Yy ?_);refine Po.done ?_;exact wN (h:=by exact ⟨g15,Bf,cf,rfl,hle6,rfl,hSf⟩)
  rintro σ fz2 H' ⟨g15,Bf,cf,rfl,hle2,rfl,hSf⟩;have hRf:AtomR fz2 (cfl ns as_ x) (Zc Bf x5 cf):=⟨hXR.name,hSf.is⟩;have hGo2:=hGo.mono hle2;have hGc2:=hGc.mono hle2;refine wG ?_;refine Y0 ?_;refine zG ?_;refine Ycu (b:=decide (∃ y∈(numL (a.changes.take k)).map fun c=>(⟨cfl ns as_ c,0⟩:Value_),y.fluent=cfl ns as_ x)) (fun fz' hle hf=>?_) (fun f1=>?_) (fun f1=>?_)
  ·obtain ⟨A',c',e,hs⟩:=hGo2.sl hle (fun p hp=>hf p (by simp [hp])) Zi;injection e with e1 e2 e3
   subst e1 e3;exact YcK (cap:=[Zp g15]) (p:=fun y=>y.fluent=cfl ns as_ x) hs (fun y _ cs hcs=>Yoe (hRf.mono hle) (hf _ (.head _)) hcs)
  ·have f1:=Zt f1;refine zW ?_;refine ret2 rfl rfl rfl (List.nil_sublist _) ⟨_,15,rfl,fun _=>⟨fun h=>?_,rfl⟩,Za⟩;have hs:((numL (a.changes.take (k+1))).map (cfl ns as_)).Nodup:=List.Nodup.sublist (((List.take_sublist (k+1) a.changes).filter _).map _) h.1;rw [YfV hx e2,List.map_append,List.nodup_append] at hs;obtain ⟨y,hy,hye⟩:=f1;obtain ⟨c',hc',rfl⟩:=List.mem_map.1 hy;exact hs.2.2 _ (List.mem_map_of_mem hc') _ (List.mem_singleton.2 rfl) hye
  have f1:=Zf f1;have hnO:((numL (a.changes.take k)).map fun c=>(⟨cfl ns as_ c,0⟩:Value_))++ [⟨cfl ns as_ x,0⟩]=(numL (a.changes.take (k+1))).map fun c=>⟨cfl ns as_ c,0⟩:=by rw [YfV hx e2,List.map_append];rfl
  have hnC:=(YfV hx e2).symm;have hnN:((numL (a.changes.take (k+1))).map (cfl ns as_)).Nodup:=by
   rw [YfV hx e2,List.map_append,List.nodup_append];refine ⟨hnd,by simp,fun u hu w hw e=>?_⟩;obtain ⟨c',hc',rfl⟩:=List.mem_map.1 hu;rw [List.map_singleton,List.mem_singleton] at hw;subst hw;exact f1 ⟨_,List.mem_map_of_mem hc',e⟩
  have hds2:=changeL.mono hle2 hds0;refine zWN ?_;refine Yay [] [_,_] ?_;refine zW ?_;refine Yx (Yx ?_);refine zW ?_;refine pT ?_;refine YB ?_ ?_
  ·refine Ye (Yc (cs:=[Zy x.name,Zc Bf x5 cf,Zk 0]) (fun g3=>⟨⟨Zd,Zx⟩,?_⟩));refine YB ?_ ?_
   ·refine Ye (YG (Hr:=_::_::_::Hc) (d:=⟨cfl ns as_ x,0⟩) (((List.perm_append_comm.cons _).cons _).cons _) hGo2 YbZ (.head _) (Ybi (x:=⟨cfl ns as_ x,0⟩) ⟨hRf,XP⟩) (fun vo' Ho' hGo'=>⟨⟨Zd,Zx⟩,?_⟩));obtain ⟨Ao',co',rfl,_,_⟩:=hGo'.form;refine Yb ?_;refine Ye (Yc (cs:=[Zk x.kind,Zc X0 x0 y0,Zy x.when_.op,Zy x.when_.name,Zc X1 x1 y1,Zc X2 x2 y2,Zc X3 x3 y3,Zc X4 x4 y4,Zy x.name,Zc X5 x5 y5,Zy x.value.op,Zy x.value.name,Zk x.value.n,Zc X6 x6 y6,Zc X7 x7 y7]) (fun g7=>⟨⟨Zd,Zx⟩,?_⟩));refine Yb ?_;refine Ye (YG (Hr:=_::_::_::_::Ho') (d:=x) ((((List.perm_append_comm.cons _).cons _).cons _).cons _) hGc2 Ydr (.head _) hds2 (fun vc' Hc' hGc'=>⟨⟨Zd,Zx⟩,?_⟩));obtain ⟨Ac',cc',rfl,_,_⟩:=hGc'.form;refine pA ?_;refine pD ?_;exact wP (h:=by exact ⟨k+1,_,_,mo+1,Ho',Hc',by omega,rfl,rfl,hle1.trans hle2,rfl,by omega,hnO ▸ hGo',hnC ▸ hGc',hnN⟩)
   refine Ye (Yc (cs:=[Zk x.kind,Zc X0 x0 y0,Zy x.when_.op,Zy x.when_.name,Zc X1 x1 y1,Zc X2 x2 y2,Zc X3 x3 y3,Zc X4 x4 y4,Zy x.name,Zc X5 x5 y5,Zy x.value.op,Zy x.value.name,Zk x.value.n,Zc X6 x6 y6,Zc X7 x7 y7]) (fun g7=>⟨⟨Zd,Zx⟩,?_⟩));refine Yb ?_;refine Ye (YG (Hr:=_::_::_::_::Hc) (d:=⟨cfl ns as_ x,0⟩) ((((List.perm_append_comm.cons _).cons _).cons _).cons _) hGo2 YbZ (.tail _ (.head _)) (Ybi (x:=⟨cfl ns as_ x,0⟩) ⟨hRf,XP⟩) (fun vo' Ho' hGo'=>⟨⟨Zd,Zx⟩,?_⟩));obtain ⟨Ao',co',rfl,_,_⟩:=hGo'.form;refine Yb ?_;refine Ye (YG (Hr:=_::_::_::_::Ho') (d:=x) ((((List.perm_append_comm.cons _).cons _).cons _).cons _) hGc2 Ydr (.head _) hds2 (fun vc' Hc' hGc'=>⟨⟨Zd,Zx⟩,?_⟩));obtain ⟨Ac',cc',rfl,_,_⟩:=hGc'.form;refine pA ?_;refine pD ?_;exact wP (h:=by exact ⟨k+1,_,_,mo+1,Ho',Hc',by omega,rfl,rfl,hle1.trans hle2,rfl,by omega,hnO ▸ hGo',hnC ▸ hGc',hnN⟩)
  refine Ye (Yc (cs:=[Zk x.kind,Zc X0 x0 y0,Zy x.when_.op,Zy x.when_.name,Zc X1 x1 y1,Zc X2 x2 y2,Zc X3 x3 y3,Zc X4 x4 y4,Zy x.name,Zc X5 x5 y5,Zy x.value.op,Zy x.value.name,Zk x.value.n,Zc X6 x6 y6,Zc X7 x7 y7]) (fun g7=>⟨⟨Zd,Zx⟩,?_⟩));refine Yb ?_;refine Ye (Yc (cs:=[Zy x.name,Zc Bf x5 cf,Zk 0]) (fun g3=>⟨⟨Zd,Zx⟩,?_⟩));refine Yb ?_;refine Ye (YG (Hr:=_::_::_::_::Hc) (d:=⟨cfl ns as_ x,0⟩) ((((List.perm_append_comm.cons _).cons _).cons _).cons _) hGo2 YbZ (.head _) (Ybi (x:=⟨cfl ns as_ x,0⟩) ⟨hRf,XP⟩) (fun vo' Ho' hGo'=>⟨⟨Zd,Zx⟩,?_⟩));obtain ⟨Ao',co',rfl,_,_⟩:=hGo'.form;refine Yb ?_;refine Ye (YG (Hr:=_::_::_::_::Ho') (d:=x) ((((List.perm_append_comm.cons _).cons _).cons _).cons _) hGc2 Ydr (.tail _ (.head _)) hds2 (fun vc' Hc' hGc'=>⟨⟨Zd,Zx⟩,?_⟩));obtain ⟨Ac',cc',rfl,_,_⟩:=hGc'.form;refine pA ?_;refine pD ?_;exact wP (h:=by exact ⟨k+1,_,_,mo+1,Ho',Hc',by omega,rfl,rfl,hle1.trans hle2,rfl,by omega,hnO ▸ hGo',hnC ▸ hGc',hnN⟩)
 have hkn:n5=k:=by omega
 subst hkn;rw [show a.changes.take n5=a.changes from Zl Zi] at hGo hGc hnd;have lL:=hGc.len;have lsL:=Yms a.changes;have hmem:∀ c∈numL a.changes,c∈a.changes/\numC c:=fun c hc=>⟨(List.mem_filter.1 hc).1,Zt (List.mem_filter.1 hc).2⟩
 have hval:valC M.d W ns as_ a.changes=(numL a.changes).map fun c=>⟨cfl ns as_ c,(fitV M.d W ns as_ c).getD 0⟩:=rfl
 have hvc:∀ {P:Prop},(P->∃ c∈numL a.changes,fitV M.d W ns as_ c=none)->P->¬ValC M.d W ns as_ a.changes:=fun h hp hv=>by
  obtain ⟨c,hc,he⟩:=h hp;have:=hv.2 c hc;rw [he] at this;cases this
 have hvy:(∀ c∈numL a.changes,(fitV M.d W ns as_ c).isSome=true)->ValC M.d W ns as_ a.changes:=fun h=>⟨hnd,h⟩
 rw [hval];generalize ValC M.d W ns as_ a.changes=PV at*;generalize numL a.changes=L at*
 first
 | refine Wp.freezeAll (H1:=Ho) (H2:=Hc) (Zr _) (fun fz2 hle2 hf2=>?_)
 | refine Seq.freezeAll (H1:=Ho) (H2:=Hc) (Zr _) (fun fz2 hle2 hf2=>?_)
 obtain ⟨B2,d2,e2,iL⟩:=hGc.sl hle2 hf2 Zi;injection e2 with e21 e22 e23
 subst e21;subst e23;have hle42:=hle1.trans hle2;refine zW ?_;refine Yn (fun q σ fz' H'=>∃ (k:Nat) (Hk:HP),k<=mo/\q=mo - k/\σ=[(60,Zk k),(59,Zk mo),(58,Zc Ac mo cc),(11,Zc Ao mo co),(10,Zc N nn nc),(5,Zp g5),(0,Zp g),(3,Zc B m d)]/\Le fz2 fz'/\H'=Hk/\
  Grow valueL 117 fz' (Zc Ao mo co) mo Hk ((L.take k).map (fun c=>(⟨cfl ns as_ c,(fitV M.d W ns as_ c).getD 0⟩:Value_))++(L.drop k).map (fun c=>(⟨cfl ns as_ c,0⟩:Value_)))/\(∀ c∈L.take k,(fitV M.d W ns as_ c).isSome=true))
  ⟨0,Ho,Z0 _,rfl,rfl,Zd,rfl,by simpa using hGo.mono hle2,by simp⟩ Zw Zb ?_
 rintro q σ fz3 H' ⟨k,Hk,hk,rfl,rfl,hle3,rfl,hGk,hall⟩;have hle43:=hle42.trans hle3;refine wC ?_ ?_<;>intro e3
 ·obtain ⟨x,hx⟩:=Yf (l:=L) (k:=k) Zi;have hxL:=Zm hx;obtain ⟨hxa,hxn⟩:=hmem x hxL;have hxC:=hC x hxa;have hset:=set_map2 (f:=fun c=>(⟨cfl ns as_ c,(fitV M.d W ns as_ c).getD 0⟩:Value_)) (z:=fun c=>(⟨cfl ns as_ c,0⟩:Value_)) hx;have hget:=get_map2 (f:=fun c=>(⟨cfl ns as_ c,(fitV M.d W ns as_ c).getD 0⟩:Value_)) (z:=fun c=>(⟨cfl ns as_ c,0⟩:Value_)) hx;obtain ⟨gb,cap,cur,e6,rfl,hb⟩:=hGk.b Zi;injection e6 with e61 e62 e63
  subst e61 e63;obtain ⟨row,hrow,hcur⟩:=YbH hb hget;obtain ⟨va,rfl,hRv⟩:=XM hrow;obtain ⟨V1,q1,r1,rfl,iv1⟩:=id hRv.fluent.args;refine wI (iL.mono hle3) hx (fun p8 hp8=>?_);refine zL hp8 ?_;intro ds hds;have hds0:=hds;obtain ⟨X0,x0,y0,X1,x1,y1,X2,x2,y2,X3,x3,y3,X4,x4,y4,X5,x5,y5,X6,x6,y6,X7,x7,y7,rfl,hXR⟩:=Ycc hds;have hN:Yak=1099511627776:=rfl;refine zWN ?_;intros;rename_i g17;have hle03:=hle04.trans hle43;have iN':=iN.mono hle43;have hB':=hB.mono hle03;have hlN:ns.length<=as_.length:=by omega
  have hg5':=hle43 _ _ hg5;have hg0':=hle43 _ _ hg0
  first | refine Xe (fun σ fz' H'=>σ=[(19,Zo (valW W (bE ns as_ x.value)).isSome),(18,Zk ((valW W (bE ns as_ x.value)).getD 0)),(17,Zp g17),(16,Zk k),(60,Zk k),(59,Zk mo),(58,Zc Ac mo cc),(11,Zv gb mo co),(10,Zc N nn nc),(5,Zp g5),(0,Zp g),(3,Zc B m d)]/\Le fz3 fz'/\H'=(g17,Zu #[Zk x.kind,Zc X0 x0 y0,Zy x.when_.op,Zy x.when_.name,Zc X1 x1 y1,Zc X2 x2 y2,Zc X3 x3 y3,Zc X4 x4 y4,Zy x.name,Zc X5 x5 y5,Zy x.value.op,Zy x.value.name,Zk x.value.n,Zc X6 x6 y6,Zc X7 x7 y7] 71):: [(gb,Zu cur.toArray 117)]) ?_ ?_ | refine YN (Xe (fun σ fz' H'=>σ=[(19,Zo (valW W (bE ns as_ x.value)).isSome),(18,Zk ((valW W (bE ns as_ x.value)).getD 0)),(17,Zp g17),(16,Zk k),(60,Zk k),(59,Zk mo),(58,Zc Ac mo cc),(11,Zv gb mo co),(10,Zc N nn nc),(5,Zp g5),(0,Zp g),(3,Zc B m d)]/\Le fz3 fz'/\H'=(g17,Zu #[Zk x.kind,Zc X0 x0 y0,Zy x.when_.op,Zy x.when_.name,Zc X1 x1 y1,Zc X2 x2 y2,Zc X3 x3 y3,Zc X4 x4 y4,Zy x.name,Zc X5 x5 y5,Zy x.value.op,Zy x.value.name,Zk x.value.n,Zc X6 x6 y6,Zc X7 x7 y7] 71):: [(gb,Zu cur.toArray 117)]) ?_ ?_)
  ·refine Yay [] [_,_] ?_;refine wG ?_;refine Yh (vs:=[Zy x.value.op,Zy x.value.name,Zk x.value.n,Zc X6 x6 y6,Zc X7 x7 y7]) 0 ?_;refine zW ?_;refine pT ?_;refine Yb ?_;refine Ye (Yk [] [_,_] Zz (Yjl _ (Zs _) hXR.value iN' hB' hlN hxC.w) (fun v6 fz6 H6 hle6 hR6=>⟨⟨hle6,Zx⟩,?_⟩));obtain ⟨rfl,wa6,wk6,rfl,hR6⟩:=hR6;refine Yb ?_;refine PoS.qk ⟨hle6,Zx⟩ (Yt (YdX _ (Zs _) (hW0.mono (hle03.trans hle6)) hR6 (Yob _ (Zs _) (hxC.sh hxn))) ?_);unfold optV;refine Yb ?_;refine PoS.qk ⟨hle6,Zx⟩ (Wo ?_);refine YB ?_ ?_
   ·refine PoS.qk ⟨hle6,Zx⟩ (Yq ?_);refine YB ?_ ?_
    ·refine PoS.qk ⟨hle6,Zx⟩ (Yq ?_);refine pA ?_;refine pD ?_;exact wN (h:=by exact ⟨rfl,hle6,rfl⟩)
    refine PoS.hard (DoesQ.does (YR ?_));refine Yb ?_;refine PoS.hard (DoesQ.does (Yq ?_));refine pD ?_;exact wN (h:=by exact ⟨rfl,hle6,rfl⟩)
   refine PoS.qk ⟨hle6,Zx⟩ (Yq ?_);refine Yb ?_;refine PoS.qk ⟨hle6,Zx⟩ (Yq ?_);refine pA ?_;refine pD ?_;exact wN (h:=by exact ⟨rfl,hle6,rfl⟩)
  rintro σ fz4 H' ⟨rfl,hle4,rfl⟩
  first | refine Xe (fun σ fz' H'=>σ=[(19,Zo (Ydu W ns as_ x).isSome),(18,Zk ((Ydu W ns as_ x).getD 0)),(17,Zp g17),(16,Zk k),(60,Zk k),(59,Zk mo),(58,Zc Ac mo cc),(11,Zv gb mo co),(10,Zc N nn nc),(5,Zp g5),(0,Zp g),(3,Zc B m d)]/\Le fz3 fz'/\H'=(g17,Zu #[Zk x.kind,Zc X0 x0 y0,Zy x.when_.op,Zy x.when_.name,Zc X1 x1 y1,Zc X2 x2 y2,Zc X3 x3 y3,Zc X4 x4 y4,Zy x.name,Zc X5 x5 y5,Zy x.value.op,Zy x.value.name,Zk x.value.n,Zc X6 x6 y6,Zc X7 x7 y7] 71):: [(gb,Zu cur.toArray 117)]) ?_ ?_ | refine YN (Xe (fun σ fz' H'=>σ=[(19,Zo (Ydu W ns as_ x).isSome),(18,Zk ((Ydu W ns as_ x).getD 0)),(17,Zp g17),(16,Zk k),(60,Zk k),(59,Zk mo),(58,Zc Ac mo cc),(11,Zv gb mo co),(10,Zc N nn nc),(5,Zp g5),(0,Zp g),(3,Zc B m d)]/\Le fz3 fz'/\H'=(g17,Zu #[Zk x.kind,Zc X0 x0 y0,Zy x.when_.op,Zy x.when_.name,Zc X1 x1 y1,Zc X2 x2 y2,Zc X3 x3 y3,Zc X4 x4 y4,Zy x.name,Zc X5 x5 y5,Zy x.value.op,Zy x.value.name,Zk x.value.n,Zc X6 x6 y6,Zc X7 x7 y7] 71):: [(gb,Zu cur.toArray 117)]) ?_ ?_)
  ·cases hv:valW W (bE ns as_ x.value) with
   | none=>
    have hn:Ydu W ns as_ x=none:=by unfold Ydu;rw [hv]
    rw [hn];simp only [Option.isSome_none,Option.getD_none];exact wN (h:=by exact ⟨rfl,hle4,rfl⟩)
   | some w=>
    have hwi:=Yk5 hv;simp only [Option.isSome_some,Option.getD_some];refine wC ?_ ?_<;>intro c1;rotate_left 1
    ·have hn:Ydu W ns as_ x=some w:=by unfold Ydu;rw [hv];exact if_pos Zi
     rw [hn];exact wN (h:=by exact ⟨rfl,hle4,rfl⟩)
    have hn:Ydu W ns as_ x=match fluW W.values (cfl ns as_ x) with
     | none=>none
     | some o=>smallM (some (o+if x.kind=5 then -w else w)):=by unfold Ydu;rw [hv];exact if_neg Zi
    have hRv4:=hRv.fluent.mono hle4;have hg5'':=hle4 _ _ hg5';have hcur2:(cur.drop ((k:Int).toNat*3+0)).take 2=[Zy (cfl ns as_ x).name,Zc V1 q1 r1]:=by
     have e:((cur.drop (k*3)).take 3).take 2=[Zy (cfl ns as_ x).name,Zc V1 q1 r1]:=by rw [show (cur.drop (k*3)).take 3=[Zy (cfl ns as_ x).name,Zc V1 q1 r1,Zk 0] from hcur];rfl
     rw [List.take_take] at e;exact e
    refine zWN ?_
    first | refine Xe (fun σ fz' H'=>σ=[(21,Zo (fluW W.values (cfl ns as_ x)).isSome),(20,Zk ((fluW W.values (cfl ns as_ x)).getD 0)),(19,Zo true),(18,Zk w),(17,Zp g17),(16,Zk k),(60,Zk k),(59,Zk mo),(58,Zc Ac mo cc),(11,Zv gb mo co),(10,Zc N nn nc),(5,Zp g5),(0,Zp g),(3,Zc B m d)]/\Le fz4 fz'/\H'=(g17,Zu #[Zk x.kind,Zc X0 x0 y0,Zy x.when_.op,Zy x.when_.name,Zc X1 x1 y1,Zc X2 x2 y2,Zc X3 x3 y3,Zc X4 x4 y4,Zy x.name,Zc X5 x5 y5,Zy x.value.op,Zy x.value.name,Zk x.value.n,Zc X6 x6 y6,Zc X7 x7 y7] 71):: [(gb,Zu cur.toArray 117)]) ?_ ?_ | refine YN (Xe (fun σ fz' H'=>σ=[(21,Zo (fluW W.values (cfl ns as_ x)).isSome),(20,Zk ((fluW W.values (cfl ns as_ x)).getD 0)),(19,Zo true),(18,Zk w),(17,Zp g17),(16,Zk k),(60,Zk k),(59,Zk mo),(58,Zc Ac mo cc),(11,Zv gb mo co),(10,Zc N nn nc),(5,Zp g5),(0,Zp g),(3,Zc B m d)]/\Le fz4 fz'/\H'=(g17,Zu #[Zk x.kind,Zc X0 x0 y0,Zy x.when_.op,Zy x.when_.name,Zc X1 x1 y1,Zc X2 x2 y2,Zc X3 x3 y3,Zc X4 x4 y4,Zy x.name,Zc X5 x5 y5,Zy x.value.op,Zy x.value.name,Zk x.value.n,Zc X6 x6 y6,Zc X7 x7 y7] 71):: [(gb,Zu cur.toArray 117)]) ?_ ?_)
    ·refine Yay [] [_,_] ?_;refine wG ?_;refine Yo rfl ?_;refine wG ?_;refine Yh (vs:=[Zy (cfl ns as_ x).name,Zc V1 q1 r1]) 1 ?_ (hv:=hcur2);refine zW ?_;refine pT ?_;refine Yb ?_;refine PoS.qk ⟨Zd,Zx⟩ (Yt (Yjx (hW0.mono (hle03.trans hle4)) hRv4) ?_);unfold optV;refine Yb ?_;refine PoS.qk ⟨Zd,Zx⟩ (Wo ?_);refine YB ?_ ?_
     ·refine PoS.qk ⟨Zd,Zx⟩ (Yq ?_);refine YB ?_ ?_
      ·refine PoS.qk ⟨Zd,Zx⟩ (Yq ?_);refine pA ?_;refine pD ?_;exact wN (h:=by exact ⟨rfl,Zd,rfl⟩)
      refine PoS.hard (DoesQ.does (YR ?_));refine Yb ?_;refine PoS.hard (DoesQ.does (Yq ?_));refine pD ?_;exact wN (h:=by exact ⟨rfl,Zd,rfl⟩)
     refine PoS.qk ⟨Zd,Zx⟩ (Yq ?_);refine Yb ?_;refine PoS.qk ⟨Zd,Zx⟩ (Yq ?_);refine pA ?_;refine pD ?_;exact wN (h:=by exact ⟨rfl,Zd,rfl⟩)
    rintro σ fz5 H' ⟨rfl,hle5,rfl⟩;have hM5:∀ {o:Int},fluW W.values (cfl ns as_ x)=some o-> -Yak<=o/\o<=Yak:=fun h=>by
     unfold fluW at h;split at h
     ·exact YcR h
     cases h
    have hle45:=hle4.trans hle5;cases hf:fluW W.values (cfl ns as_ x) with
    | none=>
     rw [hf] at hn;rw [hn];simp only [Option.isSome_none,Option.getD_none];refine wC ?_ ?_<;>intro c2
     ·refine wG ?_;refine qg_neg Zz (Xr Zi) ?_;refine zW ?_;refine zc Ymf ?_;unfold optV;exact wN (h:=by exact ⟨rfl,hle45,rfl⟩)
     refine zW ?_;refine zc Ymf ?_;unfold optV;exact wN (h:=by exact ⟨rfl,hle45,rfl⟩)
    | some o=>
     rw [hf] at hn;have ho:=hM5 hf;simp only [Option.isSome_some,Option.getD_some];refine wC ?_ ?_<;>intro c2
     ·rw [hn,if_pos (show x.kind=5 from c2)];refine wG ?_;refine qg_neg Zz (Xr Zi) ?_;refine zW ?_;refine zc (YdH (o:=some (o+ -w)) rfl rfl) ?_;unfold optV;exact wN (h:=by exact ⟨rfl,hle45,rfl⟩)
     rw [hn,if_neg (show ¬x.kind=5 from c2)];refine zW ?_;refine zc (YdH (o:=some (o+w)) rfl rfl) ?_;unfold optV;exact wN (h:=by exact ⟨rfl,hle45,rfl⟩)
  rintro σ fz5 H' ⟨rfl,hle5,rfl⟩;have hle35:=hle03.trans hle5;have hg0'':=hle5 _ _ hg0';have hbad:fitV M.d W ns as_ x=none->¬PV:=fun h=>hvc (fun _=>⟨x,hxL,h⟩) trivial
  have hfo:fitV M.d W ns as_ x=match Ydu W ns as_ x with
   | none=>none
   | some v=>match M.d.functions.find? (fun f=>decide (f.name=x.name)) with
    | none=>none
    | some f=>if v<f.lo\/f.hi<v then none else some v:=rfl
  refine wG ?_;refine Y0 ?_;refine zG ?_;refine WF (fun fz' hle hf=>YcJ (cap:=[Zp g17]) (p:=fun f=>f.name=x.name) (iF.mono (hle35.trans hle)) (fun f _ cs hcs=>Yod (hf _ (.head _)) (changeL.mono (hle5.trans hle) hds0) hcs)) ?_;have hfr:∀ {o:Option Int},Ydu W ns as_ x=o->True:=fun _=>trivial
  rcases Yf0 (p:=fun f:Function=>f.name=x.name) M.d.functions with hno | ⟨i,f,hf1,hf2,hf3⟩
  ·rw [Xo hno];rw [YpS (fun i _ y hy=>decide_eq_false (hno y (Zm hy)))] at hfo;have hz:fitV M.d W ns as_ x=none:=by rw [hfo];cases Ydu W ns as_ x<;>rfl
   cases hq:Ydu W ns as_ x with
   | none=>
    simp only [Option.isSome_none,Option.getD_none];refine zW ?_;exact ret2 rfl rfl rfl (List.nil_sublist _) ⟨_,14,rfl,fun _=>⟨hbad hz,rfl⟩,Za⟩
   | some w=>
    simp only [Option.isSome_some,Option.getD_some];refine wC ?_ ?_<;>intro c0
    ·refine zW ?_;exact ret2 rfl rfl rfl (List.nil_sublist _) ⟨_,14,rfl,fun _=>⟨hbad hz,rfl⟩,Za⟩
    exact absurd Zh c0
  rw [XQ hf1 hf2 hf3,Int.zero_add];rw [YlF (fun i hi y hy=>decide_eq_false (hf1 i hi y hy)) hf2 (decide_eq_true hf3)] at hfo;have hil:=(Zg hf2).1;cases hq:Ydu W ns as_ x with
  | none=>
   have hz:fitV M.d W ns as_ x=none:=by rw [hfo,hq]
   simp only [Option.isSome_none,Option.getD_none];refine zW ?_;exact ret2 rfl rfl rfl (List.nil_sublist _) ⟨_,14,rfl,fun _=>⟨hbad hz,rfl⟩,Za⟩
  | some w=>
   rw [hq] at hfo;have hfo:fitV M.d W ns as_ x=if w<f.lo\/f.hi<w then none else some w:=hfo
   simp only [Option.isSome_some,Option.getD_some];refine wC ?_ ?_<;>intro c0
   ·exact absurd c0 Zi
   refine wI (iF.mono hle35) hf2 (fun p7 hp7=>?_);refine wG ?_;refine Ydj T Zz Zz Zz hp7.Function_lo (fun il=>?_);refine wC ?_ ?_<;>intro c3
   ·refine zW ?_;exact ret2 rfl rfl rfl (List.nil_sublist _) ⟨_,14,rfl,fun _=>⟨hbad (by rw [hfo,if_pos (.inl c3)]),rfl⟩,Za⟩
   refine wI (iF.mono hle35) hf2 (fun p6 hp6=>?_);refine wG ?_;refine Ydj T Zz Zz Zz hp6.Function_hi (fun ih=>?_);refine wC ?_ ?_<;>intro c4
   ·refine zW ?_;exact ret2 rfl rfl rfl (List.nil_sublist _) ⟨_,14,rfl,fun _=>⟨hbad (by rw [hfo,if_pos (.inr Zi)]),rfl⟩,Za⟩
   have hgd:fitV M.d W ns as_ x=some w:=by rw [hfo,if_neg Zi]
   have hb5:=hb.mono hle5;have hwi:I64 w:=by unfold I64 at*;omega
   rw [show (fitV M.d W ns as_ x).getD 0=w from by rw [hgd];rfl] at hset;have hb6:=hb5.setc (o:=2) (v:=Zk w) (d':=⟨cfl ns as_ x,w⟩) hget Zh (fun cs hcs=>by
    obtain ⟨va,rfl,hR⟩:=XM hcs;exact Ybi (x:=⟨cfl ns as_ x,w⟩) ⟨hR.fluent,hwi⟩)
   rw [hset] at hb6;have hlen:=hb.size;have hcp:=hb.capn;have hz3:valueL.size=3:=rfl;rw [hz3] at hlen;have hst:=Yn4 cur ((k:Int).toNat*3+2) (Zk w) Zi;refine wG ?_;refine Yo rfl ?_;refine zW ?_;refine YI (YX ?_ (hc:=hst));refine zW ?_;exact Ws ⟨k+1,_,by omega,rfl,rfl,hle3.trans hle5,rfl,hb6.grow,fun c hc=>by
    rw [List.take_add_one,hx] at hc;rcases List.mem_append.1 hc with hc | hc
    ·exact hall c hc
    simp at hc;subst hc;rw [hgd];rfl⟩ Zi Zw Zb
 have hkm:mo=k:=by omega
 subst hkm;rw [Zl Zi] at hGk hall;rw [List.drop_eq_nil_of_le Zi,List.map_nil,List.append_nil] at hGk;exact wS (h:=by exact ⟨_,0,rfl,fun h=>absurd rfl h,fun _=>⟨hvy hall,mo,hGk⟩⟩)
structure FmC (f:Formula):Prop where
 w:fW f<=100000000
 sh:WSh (normV f)
 nw:fW (normV f)<=900000000
structure ActC (a:Action):Prop where
 params:a.params.length<=1000000
 many:a.changes.length<=1000000
 pre:FmC a.pre
 c:∀ c∈a.changes,ChgC c
def nmA (a:Action):List Bs:=a.params.map (·.name)
structure AppOk (M:Mn) (W:Wd) (s:StepM) (a:Action):Prop where
 typ:TypOk M s a
 pre:holdsW M W (nmA a) s.2 (normV a.pre)=true
 val:ValC M.d W (nmA a) s.2 a.changes
theorem TypOk.mem {s:StepM} {a:Action} (h:TypOk M s a):a∈M.d.actions:=by
 obtain ⟨k,h1,_⟩:=h.fd;exact Zm h1
theorem appl_f {v vw:Value} {s:StepM} (hM:MnR fz v M) (hW:WdR fz W vw) (hs:YfG.rep fz s [Zk 0,Zy s.1,va]) (hA:∀ a∈M.d.actions,ActC a) (hn:s.2.length<=1000000):
 GFn prog 23 [v,vw,.agg #[Zk 0,Zy s.1,va]] fz [] (fun r fz' H'=>∃ cs l e a,r=.tuple #[.agg (List.toArray cs),l,errV e]/\actionL.rep fz' a cs/\(e≠0->(∀ a,¬AppOk M W s a)/\H'=[])/\(e=0->AppOk M W s a/\∃ n,Grow valueL 117 fz' l n H' (valC M.d W (nmA a) s.2 a.changes))):=by
 have hM0:=hM;have hW0:=hW;have hs0:=hs;obtain ⟨Wa,wn,wc,Wv,wm,wd,rfl,hWA,hWV⟩:=hW;obtain ⟨⟨g,v1,v2,v3,v4,v5,v6,a7,a8,a9,a10,a11,a12,a13,a14,a15,a16,a17,vf,A,n,c,rfl,hg,hD,hF,hO⟩,hw,hm⟩:=hM;obtain ⟨va',he,hsn,hsa⟩:=hs;simp at he;subst he;obtain ⟨B,m,d,rfl,ia⟩:=hsa;have lb:=ia.len;have sb:=ia.short;refine zF Tryz.func23 Tryz.ntmps23 (fun w0=>?_);refine pX (fun g4=>?_);refine pY (fun g5=>?_);refine zW ?_;intros;rename_i g6;refine Yd (Yk [] [_,_,_] Zz (typed_f hM0 hs0) (fun v4 fz4 H4 hle4 hR4=>?_));obtain ⟨rfl,cs,e,a,rfl,ha,hok,hno⟩:=hR4;have ha0:=ha;obtain ⟨A0,n0,c0,A1,n1,c1,A2,n2,c2,A3,n3,c3,A4,n4,c4,A5,n5,c5,rfl,hR⟩:=Ybh ha;obtain ⟨_,_,_,e0,i0⟩:=id hR.params;cases e0;have l0:=i0.len;have hg4:=hle4 _ _ hg;by_cases hc:e=0;rotate_left 1
 ·rw [YD hc];refine zW ?_;intros;exact Ybk T (vs:=[.agg #[Zy a.name,Zc A0 n0 c0,Zk a.cost,Zy a.pre.op,Zy a.pre.name,Zc A1 n1 c1,Zc A2 n2 c2,Zc A3 n3 c3,Zc A4 n4 c4,Zc A5 n5 c5],Zn,.iface 88 (Zk e)]) ⟨⟨_,_,1,_,_,_,rfl,rfl,rfl,rfl,rfl,rfl⟩,rfl,rfl,trivial⟩ (fun fz3 hle3 hf3=>⟨_,_,e,a,by rw [YD hc],actionL.mono hle3 ha0,fun _=>⟨fun b hb=>hno hc b hb.typ,rfl⟩,fun h=>absurd h hc⟩)
 subst hc;have hto:=hok rfl;have hac:=hA a hto.mem;have hap:=hac.params;have hlt:=hto.len;rw [show errV 0=.nilIface from rfl];refine zWN ?_;intros;rename_i g9;refine Y6 [_,_,_,_] ?_;refine zW ?_;intros
 ((refine zG ?_);refine Yh (vs:=[Zy a.pre.op,Zy a.pre.name,Zc A1 n1 c1,Zc A2 n2 c2,Zc A3 n3 c3,Zc A4 n4 c4]) 0 ?_);refine Yl ?_;refine zW ?_;intros;refine Yl ?_;refine zW ?_;intros;refine pU ?_;refine Yg (Yk [] [_,_,_,_] Zz (YeD hR.pre hac.pre.w) (fun v6 fz6 H6 hle6 hR6=>⟨⟨hle6,Zx⟩,?_⟩));obtain ⟨rfl,x1,x2,x3,x4,rfl,hN6⟩:=hR6;refine Yg (Yk [] [_,_,_,_] Zz (Yiq (i0.mono hle6) Zi) (fun v7 fz7 H7 hle7 hR7=>⟨⟨hle6.trans hle7,Zx⟩,?_⟩));obtain ⟨rfl,N7,n7,c7,rfl,iN⟩:=hR7;have lN:=iN.len;rw [List.length_map] at lN;have hle47:=hle4.trans (hle6.trans hle7);have hnw:=hac.pre.nw;refine Ch.qk ⟨hle6.trans hle7,Zx⟩ (XS (Yig _ (Zs _) (hM0.mono hle47) (hW0.mono hle47) (hN6.mono hle7) iN (ia.mono hle47) (by rw [List.length_map];omega) Zi Zi hac.pre.sh) (fun f1=>?_) (fun f1=>?_))
 ·refine Ch.qk ⟨hle6.trans hle7,Zx⟩ (Ynp Zz ?_);refine Ch.done ?_;refine zW ?_;intros;refine Yd (Yk [] [_,_,_,_] Zz (values_f (hM0.mono hle47) (hW0.mono hle47) (actionL.mono (hle6.trans hle7) ha0) (ia.mono hle47) Zi hap hac.c hac.many) (fun v8 fz8 H8 hle8 hR8=>?_));obtain ⟨vl,e8,rfl,hbad,hgood⟩:=hR8;refine Seq.perm (H':=[_,_,_,_]++H8) Zq ?_;by_cases hc8:e8=0
  ·subst hc8;obtain ⟨hv8,n8,hG8⟩:=hgood rfl;rw [show errV 0=.nilIface from rfl];obtain ⟨A8,c8,rfl,_,_⟩:=hG8.form;refine zW ?_;intros;exact retN T (vs:=[.agg #[Zy a.name,Zc A0 n0 c0,Zk a.cost,Zy a.pre.op,Zy a.pre.name,Zc A1 n1 c1,Zc A2 n2 c2,Zc A3 n3 c3,Zc A4 n4 c4,Zc A5 n5 c5],Zc A8 n8 c8,.nilIface]) ⟨⟨_,_,1,_,_,_,rfl,rfl,rfl,rfl,rfl,rfl⟩,rfl,rfl,trivial⟩ Zb ⟨_,_,0,a,rfl,actionL.mono ((hle6.trans hle7).trans hle8) ha0,fun h=>absurd rfl h,fun _=>⟨⟨hto,f1,hv8⟩,n8,hG8⟩⟩
  obtain ⟨hv8,rfl⟩:=hbad hc8;rw [YD hc8];refine zW ?_;intros;exact Ybk T (vs:=[.agg #[Zy a.name,Zc A0 n0 c0,Zk a.cost,Zy a.pre.op,Zy a.pre.name,Zc A1 n1 c1,Zc A2 n2 c2,Zc A3 n3 c3,Zc A4 n4 c4,Zc A5 n5 c5],vl,.iface 88 (Zk e8)]) ⟨⟨_,_,1,_,_,_,rfl,rfl,rfl,rfl,rfl,rfl⟩,rfl,rfl,trivial⟩ (fun fz3 hle3 hf3=>⟨_,_,e8,a,by rw [YD hc8],actionL.mono (((hle6.trans hle7).trans hle8).trans hle3) ha0,fun _=>⟨(fun b hb=>by
   have e:=hb.typ.one hto;subst e;exact hv8 hb.val),rfl⟩,fun h=>absurd h hc8⟩)
 refine Ch.qk ⟨hle6.trans hle7,Zx⟩ (Ynp Zz ?_);refine Ch.done ?_;refine zW ?_;intros;exact Ybk T (vs:=[.agg #[Zy a.name,Zc A0 n0 c0,Zk a.cost,Zy a.pre.op,Zy a.pre.name,Zc A1 n1 c1,Zc A2 n2 c2,Zc A3 n3 c3,Zc A4 n4 c4,Zc A5 n5 c5],Zn,.iface 88 (Zk 12)]) ⟨⟨_,_,1,_,_,_,rfl,rfl,rfl,rfl,rfl,rfl⟩,rfl,rfl,trivial⟩ (fun fz3 hle3 hf3=>⟨_,_,12,a,rfl,actionL.mono ((hle6.trans hle7).trans hle3) ha0,fun _=>⟨(fun b hb=>by
  have e:=hb.typ.one hto;subst e;have:=hb.pre;unfold nmA at this;rw [f1] at this;cases this),rfl⟩,Za⟩)
theorem snames_g {ps:List Param} {c:Nat} (h:Sl paramL fz A n c ps) (hn:n<=1000000):
 GFn prog 56 [Zc A n c] fz [] (fun r fz' H'=>Grow strL 9 fz' r n H' (ps.map (·.name))):=by
 have lp:=h.len;have sp:=h.short;refine zF Tryz.func56 Tryz.ntmps56 (fun w0=>?_);refine zW ?_;refine Yn (fun q σ fz' H'=>∃ (k:Nat) (vo:Value) (Ho:HP),k<=n/\q=n - k/\σ=[(8,Zk k),(7,Zk n),(6,Zc A n c),(3,vo)]/\fz=fz'/\H'=Ho/\Grow strL 9 fz vo k Ho ((ps.take k).map (·.name))) ⟨0,_,[],Z0 _,rfl,rfl,rfl,rfl,Grow.nil _ _ _⟩ Zw Zb ?_;rintro q σ fz' H' ⟨k,vo,Ho,hk,rfl,rfl,rfl,rfl,hG⟩;obtain ⟨Ao,co,rfl,_,_⟩:=hG.form;refine wC ?_ ?_<;>intro c1
 ·obtain ⟨x,hx⟩:=Yf (l:=ps) (k:=k) Zi;refine wI h hx (fun p hp=>?_);refine zL hp ?_;intro cs hcs;obtain ⟨rfl,hR⟩:=YM hcs;refine zW ?_;intros;refine Yd (Yc (cs:=[Zy x.name]) (fun gc=>?_));refine Yd (YG (Hr:=[_,_]) (d:=x.name) (Zr _) hG WY (.head _) ⟨rfl,hR.name⟩ (fun v' Hs' hO'=>?_));obtain ⟨Av',cv',rfl,_,_⟩:=hO'.form;exact wP (h:=by exact ⟨k+1,_,Hs',by omega,rfl,rfl,rfl,rfl,hO'.of (by rw [List.take_add_one,hx];simp) rfl⟩)
 have hk1:n=k:=by omega
 subst hk1;rw [show ps.take n=ps from Zl Zi] at hG;exact wR (h:=by exact hG)
def nmC (a:Action) (c:Change):List Bs:=c.params.map (·.name)++nmA a
def YfN (M:Mn) (W:Wd) (a:Action) (as_:List Bs) (c:Change) (ls:List (List Bs)):List Atom:=
 (ls.filter fun l=>holdsW M W (nmC a c) (l++as_) (normV c.when_)).map fun l=>⟨c.name,c.args.map (valN (nmC a c) (l++as_))⟩
def Yfd (M:Mn) (W:Wd) (a:Action) (as_:List Bs) (k:Int) (c:Change):List Atom:=if c.kind=k then YfN M W a as_ c (tupM M c.params) else []
def fireM (M:Mn) (W:Wd) (a:Action) (as_:List Bs) (k:Int):List Atom:=a.changes.flatMap (Yfd M W a as_ k)
theorem YpR {a:Action} {as_:List Bs} {c:Change} {ls:List (List Bs)}:(YfN M W a as_ c ls).length<=ls.length:=by
 unfold YfN;rw [List.length_map];exact List.length_filter_le _ _
theorem YpP {a:Action} {as_:List Bs} {k:Int} {l:List Change} {c:Change} (h:l[i]?=some c):(l.take (i+1)).flatMap (Yfd M W a as_ k)=(l.take i).flatMap (Yfd M W a as_ k)++Yfd M W a as_ k c:=by
 rw [List.take_add_one,h,List.flatMap_append];simp
theorem YnM {a:Action} {as_:List Bs} {c:Change} {ls:List (List Bs)} {l:List Bs} (h:ls[i]?=some l):YfN M W a as_ c (ls.take (i+1))=YfN M W a as_ c (ls.take i)++if holdsW M W (nmC a c) (l++as_) (normV c.when_)=true then [⟨c.name,c.args.map (valN (nmC a c) (l++as_))⟩] else []:=by
 unfold YfN;rw [List.take_add_one,h,List.filter_append,List.map_append];by_cases hh:holdsW M W (nmC a c) (l++as_) (normV c.when_)=true<;>simp [hh]
theorem YjC {ps l:_} (h:l∈tupM M ps):l.length=ps.length:=by
 unfold tupM at h;split at h
 ·cases h
 have:=Ygc M ps [[]] 0 (by simp) l h;omega
theorem Yik (hm:M.os.length<=6) {ps:List Param} (h:ps.length<=3):(tupM M ps).length<=216:=by
 unfold tupM;split
 ·exact Z0 _
 exact Yma hm h
structure FirC (c:Change):Prop where
 p:c.params.length<=3
 w:FmC c.when_
 a:c.args.length<=1000000000
theorem YpO {v vw:Value} {a:Action} {as_:List Bs} {m d:Nat} {kd:Int} (hM:MnR fz v M) (hW:WdR fz W vw) (ha:actionL.rep fz a cs) (hB:Sl strL fz B m d as_) (hl:a.params.length<=as_.length) (h6:as_.length<=1000000) (hC:∀ c∈a.changes,FirC c) (hn:a.changes.length<=1000000):
 GFn prog 24 [v,vw,.agg cs.toArray,Zc B m d,Zk kd] fz [] (fun r fz' H'=>∃ n,n<=216000000/\Grow atomL 59 fz' r n H' (fireM M W a as_ kd)):=by
 have hM0:=hM;have hmany:=hM.many;obtain ⟨⟨g,v1,v2,v3,v4,v5,v6,a7,a8,a9,a10,a11,a12,a13,a14,a15,a16,a17,vf,A,n,c,rfl,hg,hD,hF,hO⟩,hw,hm⟩:=hM;have hW0:=hW;obtain ⟨Wa,wn,wc,Wv,wm,wd,rfl,hWA,hWV⟩:=hW;obtain ⟨A0,n0,c0,A1,n1,c1,A2,n2,c2,A3,n3,c3,A4,n4,c4,A5,n5,c5,rfl,hR⟩:=Ybh ha;obtain ⟨_,_,_,e0,i0⟩:=id hR.params;cases e0;obtain ⟨_,_,_,e5,i5⟩:=id hR.changes;cases e5;have lb:=hB.len;have l0:=i0.len;have l5:=i5.len;have s5:=i5.short;have lnA:(nmA a).length=a.params.length:=by unfold nmA;rw [List.length_map]
 refine zF Tryz.func24 Tryz.ntmps24 (fun w0=>?_);refine pX (fun g6=>?_);refine pY (fun g7=>?_)
 first
 | refine Wp.freezeAll (H1:=[]) (H2:=[_,_]) (Zr _) (fun fz0 hle0 hf0=>?_)
 | refine Seq.freezeAll (H1:=[]) (H2:=[_,_]) (Zr _) (fun fz0 hle0 hf0=>?_)
 have hg7:=hf0 _ (.head _);have hg6:=hf0 _ (.tail _ (.head _));refine zW ?_;refine Yn (fun q σ fz' H'=>∃ (k:Nat) (vo:Value) (mo:Nat) (Ho:HP),k<=n5/\q=n5 - k/\σ=[(22,Zk k),(21,Zk n5),(20,Zc A5 n5 c5),(11,vo),(7,Zp g7),(6,Zp g6),(0,Zp g),(3,Zc B m d),(4,Zk kd)]/\Le fz0 fz'/\H'=Ho/\mo<=k*216/\
  Grow atomL 59 fz' vo mo Ho ((a.changes.take k).flatMap (Yfd M W a as_ kd)))
  ⟨0,_,0,[],Z0 _,rfl,rfl,Zd,rfl,by omega,Grow.nil _ _ _⟩ Zw Zb ?_
 rintro q σ fz1 Ho ⟨k,vo,mo,_,hk,rfl,rfl,hle1,rfl,hmo,hGo⟩;obtain ⟨Ao,co,rfl,_,_⟩:=hGo.form;have hle01:=hle0.trans hle1;refine wC ?_ ?_<;>intro e1;rotate_left 1
 ·have hkn:n5=k:=by omega
  subst hkn;rw [show a.changes.take n5=a.changes from Zl Zi] at hGo;exact wR (h:=by exact ⟨mo,by omega,hGo⟩)
 obtain ⟨x,hx⟩:=Yf (l:=a.changes) (k:=k) Zi;have hxm:=Zm hx;have hxC:=hC x hxm;have hnx:=YpP (M:=M) (W:=W) (a:=a) (as_:=as_) (k:=kd) hx;refine wI (i5.mono hle01) hx (fun p8 hp8=>?_);refine zL hp8 ?_;intro ds hds;have hds0:=hds;obtain ⟨X0,x0,y0,X1,x1,y1,X2,x2,y2,X3,x3,y3,X4,x4,y4,X5,x5,y5,X6,x6,y6,X7,x7,y7,rfl,hXR⟩:=Ycc hds;obtain ⟨_,_,_,e0,j0⟩:=id hXR.params;cases e0;obtain ⟨_,_,_,e0,j5⟩:=id hXR.args;cases e0;have k0:=j0.len;have k5:=j5.len;refine zW ?_;intros;rename_i g13;refine zC ?_ ?_<;>intro e2
 ·have hz:Yfd M W a as_ kd x=[]:=if_neg e2;exact wP (h:=by exact ⟨k+1,_,mo,Ho,by omega,rfl,rfl,hle1,rfl,by omega,by rw [hnx,hz,List.append_nil];exact hGo⟩)
 have hz:Yfd M W a as_ kd x=YfN M W a as_ x (tupM M x.params):=if_pos Zi;refine zW ?_
 first
 | refine Wp.freezeAll (H1:=Ho) (H2:=[_]) (List.perm_append_singleton _ _).symm (fun fz2 hle2 hf2=>?_)
 | refine Seq.freezeAll (H1:=Ho) (H2:=[_]) (List.perm_append_singleton _ _).symm (fun fz2 hle2 hf2=>?_)
 have hg13:=hf2 _ (.head _);refine wG ?_;refine WV (vs:=[Zy x.when_.op,Zy x.when_.name,Zc X1 x1 y1,Zc X2 x2 y2,Zc X3 x3 y3,Zc X4 x4 y4]) hg13 ?_;refine Yd (Yk [] Ho Zz (YeD (hXR.when_.mono hle2) hxC.w.w) (fun v4 fz4 H4 hle4 hR4=>?_));obtain ⟨rfl,w1,w2,w3,w4,rfl,hN4⟩:=hR4;have hN4':=hN4;obtain ⟨⟨N1,r1,q1,rfl,_⟩,⟨N2,r2,q2,rfl,_⟩,⟨N3,r3,q3,rfl,_⟩,⟨N4,r4,q4,rfl,_⟩⟩:=hN4.sls;refine zW ?_;intros;rename_i g14
 first
 | refine Wp.freezeAll (H1:=Ho) (H2:=[_]) (List.perm_append_singleton _ _).symm (fun fz5 hle5 hf5=>?_)
 | refine Seq.freezeAll (H1:=Ho) (H2:=[_]) (List.perm_append_singleton _ _).symm (fun fz5 hle5 hf5=>?_)
 have hg14:=hf5 _ (.head _);have hle25:=hle4.trans hle5;have hg13':=hle25 _ _ hg13;have hle15:=hle2.trans hle25;have hle05:=hle01.trans hle15;refine zW ?_;refine Yd (Yk [] Ho Zz (Yl9 (hM0.mono hle05) (j0.mono hle15) (by have:=hxC.p;omega)) (fun v6 fz6 H6 hle6 hR6=>?_));obtain ⟨rfl,T6,t6,s6,rfl,iT⟩:=hR6;have lT:=iT.len;have hTl:=Yik (ps:=x.params) hmany hxC.p;have hle56:=hle15.trans hle6;rw [List.nil_append];refine zW ?_;refine Yn (fun q σ fz' H'=>∃ (j:Nat) (vo:Value) (mj:Nat),j<=t6/\q=t6 - j/\σ=[(38,Zk j),(37,Zk t6),(36,Zc T6 t6 s6),(14,Zp g14),(13,Zp g13),(22,Zk k),(21,Zk n5),(20,Zc A5 n5 c5),(11,vo),(7,Zp g7),(6,Zp g6),(0,Zp g),(3,Zc B m d),(4,Zk kd)]/\Le fz6 fz'/\mj<=mo+j/\
  Grow atomL 59 fz' vo mj H' ((a.changes.take k).flatMap (Yfd M W a as_ kd)++YfN M W a as_ x ((tupM M x.params).take j)))
  ⟨0,_,mo,Z0 _,rfl,rfl,Zd,by omega,(hGo.mono (hle15.trans hle6)).of (by rw [List.take_zero];exact (List.append_nil _).symm) rfl⟩ Zw Zb ?_
 rintro q σ fz7 H7 ⟨j,vj,mj,hj,rfl,rfl,hle7,hmj,hGj⟩;obtain ⟨Aj,cj,rfl,_,_⟩:=hGj.form;have hle17:=hle56.trans hle7;have hle07:=hle01.trans hle17;have hle27:=(hle25.trans hle6).trans hle7;refine wC ?_ ?_<;>intro e3
 ·obtain ⟨l,hl'⟩:=Yf (l:=tupM M x.params) (k:=j) Zi;have hll:=YjC (Zm hl');have hfn:=YnM (M:=M) (W:=W) (a:=a) (as_:=as_) (c:=x) hl';have hg13'':=(hle6.trans hle7) _ _ hg13';have hg14':=(hle6.trans hle7) _ _ hg14;have hg7':=(hle1.trans hle17) _ _ hg7;have hg6':=(hle1.trans hle17) _ _ hg6;refine wI (iT.mono hle7) hl' (fun p9 hp9=>?_)
  ((refine zG ?_);refine Wy hp9 (fun S9 m9 d9 hsl=>?_));have l9:=hsl.len;refine zWN ?_;refine Y6 [] ?_;refine zW ?_;refine Yl ?_;refine zW ?_;refine Yl (Yl ?_);refine zW ?_;refine Yl ?_;refine zW ?_;refine pU ?_;refine Yg (Yk [] H7 Zz (snames_g (j0.mono (hle2.trans hle27)) (by have:=hxC.p;omega)) (fun v8 fz8 H8 hle8 hR8=>⟨⟨hle8,by intro p hp;cases hp⟩,?_⟩));obtain ⟨A8,c8,rfl,_,_⟩:=hR8.form;refine Yg (Yk [] (H8++H7) Zz (Yiq (i0.mono (hle07.trans hle8)) Zi) (fun v9 fz9 H9 hle9 hR9=>⟨⟨hle8.trans hle9,by intro p hp;cases hp⟩,?_⟩));obtain ⟨rfl,A9,n9,c9,rfl,i9⟩:=hR9;have l9':=i9.len;rw [List.length_map] at l9';refine Yg (XW T (Hr:=H7) Zz Zz Zz Zz Zz Zz Zz Zz (show (H8++H7).Perm (H7++H8) from Zq) (hR8.mono hle9) WY i9 (by show _*16<=_;have:=hxC.p;omega) (by have:=hxC.p;omega) (fun v10 H10 hO10=>⟨⟨hle8.trans hle9,by intro p hp;cases hp⟩,?_⟩));obtain ⟨A10,c10,rfl,_,_⟩:=hO10.form;refine Yg (Yk [] (H7++H10) Zz (YbI (hsl.mono (hle8.trans hle9)) (by have:=hxC.p;omega)) (fun v11 fz11 H11 hle11 hR11=>⟨⟨(hle8.trans hle9).trans hle11,by intro p hp;cases hp⟩,?_⟩));obtain ⟨A11,c11,rfl,_,_⟩:=hR11.form;have hle711:=(hle8.trans hle9).trans hle11;refine Yg (XW T (Hr:=H7++H10) Zz Zz Zz Zz Zz Zz Zz Zz Zq hR11 WY (hB.mono (hle07.trans hle711)) (by show _*16<=_;have:=hxC.p;omega) (by have:=hxC.p;omega) (fun v12 H12 hO12=>⟨⟨hle711,by intro p hp;cases hp⟩,?_⟩));obtain ⟨A12,c12,rfl,_,_⟩:=hO12.form;refine Ch.qk ⟨hle711,by intro p hp;cases hp⟩ (YR ?_);refine Ch.qk ⟨hle711,by intro p hp;cases hp⟩ (YR ?_);refine Ch.done ?_;refine Ydt ?_
  first
  | refine Wp.freezeAll (H1:=H7) (H2:=H10++H12) (List.Perm.of_eq (List.append_assoc _ _ _)) (fun fz13 hle13 hf13=>?_)
  | refine Seq.freezeAll (H1:=H7) (H2:=H10++H12) (List.Perm.of_eq (List.append_assoc _ _ _)) (fun fz13 hle13 hf13=>?_)
  obtain ⟨B10,d10,e10,iN⟩:=(hO10.mono hle11).sl hle13 (fun p hp=>hf13 p (by simp [hp])) (by have:=hxC.p;omega);injection e10 with e101 e102 e103
  subst e101;subst e103;obtain ⟨B12,d12,e12,iX⟩:=hO12.sl hle13 (fun p hp=>hf13 p (by simp [hp])) (by have:=hxC.p;omega);injection e12 with e121 e122 e123
  subst e121;subst e123;have hnm:x.params.map (·.name)++a.params.map (·.name)=nmC a x:=rfl;rw [hnm] at iN;have hle713:=hle711.trans hle13;have hle013:=hle07.trans hle713;have hlN:(nmC a x).length<=(l++as_).length:=by unfold nmC;rw [List.length_append,List.length_append,List.length_map,lnA];omega
  have hp3:=hxC.p;have hnw:=hxC.w.nw;have hg13b:=hle713 _ _ hg13'';have hg14b:=hle713 _ _ hg14';have hg7b:=hle713 _ _ hg7';have hg6b:=hle713 _ _ hg6';have hNf:=hN4'.mono ((((hle5.trans hle6).trans hle7)).trans hle713);refine wG ?_;refine XS (Yig _ (Zs _) (hM0.mono hle013) (hW0.mono hle013) hNf iN iX hlN Zi Zi hxC.w.sh) (fun f1=>?_) (fun f1=>?_);rotate_left 1
  ·have hfn':YfN M W a as_ x ((tupM M x.params).take (j+1))=YfN M W a as_ x ((tupM M x.params).take j):=by rw [hfn,f1];simp
   exact wP (h:=by exact ⟨j+1,_,mj,by omega,rfl,rfl,hle7.trans hle713,by omega,by rw [hfn'];exact hGj.mono hle713⟩)
  have hfn':YfN M W a as_ x ((tupM M x.params).take (j+1))=YfN M W a as_ x ((tupM M x.params).take j)++ [⟨x.name,x.args.map (valN (nmC a x) (l++as_))⟩]:=by rw [hfn,f1];simp
  refine zWN ?_;refine Y6 [] ?_;refine zW ?_;refine pU ?_;refine Yg (Yk [] H7 Zz (Yh8 (j5.mono ((hle2.trans hle27).trans hle713)) (by have:=hxC.a;omega) iN iX hlN) (fun v14 fz14 H14 hle14 hR14=>⟨⟨hle14,by intro p hp;cases hp⟩,?_⟩));obtain ⟨rfl,A14,c14,rfl,i14⟩:=hR14;refine Ch.qk ⟨hle14,by intro p hp;cases hp⟩ (XH ?_);refine Yg (Yc (cs:=[Zy x.name,Zc A14 x5 c14]) (fun gb=>⟨⟨hle14,by intro p hp;cases hp⟩,?_⟩));refine Yg (YG (Hr:=[_]) (d:=⟨x.name,x.args.map (valN (nmC a x) (l++as_))⟩) (Zr _) (hGj.mono (hle713.trans hle14)) YbK (.head _) (Ycg (x:=⟨x.name,x.args.map (valN (nmC a x) (l++as_))⟩) ⟨hXR.name,i14.is⟩) (fun v15 H15 hO15=>⟨⟨hle14,by intro p hp;cases hp⟩,?_⟩));obtain ⟨A15,c15,rfl,_,_⟩:=hO15.form;refine Ch.qk ⟨hle14,by intro p hp;cases hp⟩ (YR ?_);refine Ch.done ?_;exact wP (h:=by exact ⟨j+1,_,mj+1,by omega,rfl,rfl,hle7.trans (hle713.trans hle14),by omega,by rw [hfn',<- List.append_assoc];exact hO15⟩)
 have hjt:t6=j:=by omega
 subst hjt;rw [show (tupM M x.params).take t6=tupM M x.params from Zl Zi] at hGj;exact wP (h:=by exact ⟨k+1,_,mj,H7,by omega,rfl,rfl,hle1.trans (hle15.trans (hle6.trans hle7)),rfl,by omega,by rw [hnx,hz];exact hGj⟩)
structure WB (n:Nat) (W:Wd):Prop where
 na:W.atoms.length<=n
 nv:W.values.length<=n
 a:∀ a∈W.atoms,a.args.length<=1000000000
 v:∀ v∈W.values,v.fluent.args.length<=1000000000
structure ActF (a:Action):Prop where
 c:ActC a
 f:∀ c∈a.changes,FirC c
 many:a.changes.length<=10
structure StepW (M:Mn) (W:Wd) (s:StepM) (a:Action) (W':Wd):Prop where
 mem:∀ x,x∈W'.atoms↔(x∈W.atoms/\x ∉ fireM M W a s.2 2)\/x∈fireM M W a s.2 1
 srt:∃ l,SortedBy cmpA l/\W'.atoms=cptM l
 nv:W'.values.length<=(numL a.changes).length+W.values.length
theorem YpQ (hm:M.os.length<=6) {a:Action} {as_:List Bs} {k:Int} (hf:∀ c∈a.changes,FirC c) (hn:a.changes.length<=10):(fireM M W a as_ k).length<=2160:=by
 have h:=YlD (f:=Yfd M W a as_ k) (b:=216) (l:=a.changes) (fun c hc=>by
  unfold Yfd;split
  ·exact Nat.le_trans YpR (Yik hm (hf c hc).p)
  exact Z0 _)
 unfold fireM;exact Nat.le_trans h Zi
theorem YnL {a:Action} {as_:List Bs} {k:Int} (hf:∀ c∈a.changes,FirC c):∀ x∈fireM M W a as_ k,x.args.length<=1000000000:=fun x hx=>by
 obtain ⟨c,hc,h⟩:=List.mem_flatMap.1 hx;unfold Yfd at h;split at h
 ·obtain ⟨l,_,rfl⟩:=List.mem_map.1 h;rw [List.length_map];exact (hf c hc).a
 cases h
theorem Yqu {p:Problem} {vw:Value} {s:StepM} {nb:Nat} (hM:MaxF fz) (hD:DomainR fz d v1 v2 v3 v4 v5 v6) (hP:ProblemR fz p u1 u2 u3 u4 u5 u6 u7) (hS:ChkS d p) (h6:(objsM d p).length<=6) (hc:(Y4 d p).2=0) (hA:∀ a∈d.actions,ActF a)
 (hW:WdR fz W vw) (hs:YfG.rep fz s [Zk 0,Zy s.1,va]) (hn:s.2.length<=1000000) (hWB:WB nb W) (hnb:nb<=1900000):
 GFn prog 10 [ZD d v1 v2 v3 v4 v5 v6,ZP p u1 u2 u3 u4 u5 u6 u7,vw,.agg #[Zk 0,Zy s.1,va]] fz [] (fun r fz' H'=>H'=[]/\∃ v e W',r=.tuple #[v,errV e]/\WdR fz' W' v/\(e=0↔∃ a,AppOk (mnM d p) W s a)/\(e=0->WB (nb+3000) W'/\∃ a,AppOk (mnM d p) W s a/\StepW (mnM d p) W s a W')):=by
 have hD0:=hD;have hP0:=hP;have hW0:=hW;have hs0:=hs;obtain ⟨Wa,wn,wc,Wv,wm,wd,rfl,hWA,hWV⟩:=hW;obtain ⟨va',he,hsn,hsa⟩:=hs;simp at he;subst he;obtain ⟨B,m,d',rfl,ia⟩:=hsa;have lW:=hWA.len;have lV:=hWV.len;have ls:=ia.len;have b1:=hWB.na;have b2:=hWB.nv;obtain ⟨⟨A1,n1,b1',rfl,i1⟩,⟨A2,n2,b2',rfl,i2⟩,⟨A3,n3,b3,rfl,i3⟩,⟨A4,n4,b4,rfl,i4⟩,⟨A5,n5,b5,rfl,i5⟩,⟨A6,n6,b6,rfl,i6⟩⟩:=hD.sls;obtain ⟨⟨B1,m1,d1,rfl,j1⟩,⟨B2,m2,d2,rfl,j2⟩,⟨B3,m3,d3,rfl,j3⟩⟩:=hP.sls;obtain ⟨⟨B4,m4,d4,rfl,_⟩,⟨B5,m5,d5,rfl,_⟩,⟨B6,m6,d6,rfl,_⟩,⟨B7,m7,d7,rfl,_⟩⟩:=hP.goal.sls;refine zF Tryz.func10 Tryz.ntmps10 (fun w0=>?_);refine pX (fun g4=>?_);refine pY (fun g5=>?_);refine pY (fun g6=>?_);refine pY (fun g7=>?_);refine zWO ?_;intros;rename_i g8;refine Wp.freezeAll (H1:=[_]) (H2:=[_,_,_,_]) (Zr _) (fun fz0 hle0 hf0=>?_);have hg7:=hf0 _ (.head _);have hg6:=hf0 _ (.tail _ (.head _));have hg5:=hf0 _ (.tail _ (.tail _ (.head _)));have hg4:=hf0 _ (.tail _ (.tail _ (.tail _ (.head _))));refine vK (q:=Ylt (hM.mono hle0) (hD0.mono hle0) (hP0.mono hle0) hS h6) (h:=fun r7 fz7 H7 hle7 hR7=>?_);obtain ⟨rfl,vm,rfl,hMn⟩:=hR7;have hmn:=hMn hc;rw [hc,show errV 0=.nilIface from rfl];have hle07:=hle0.trans hle7;have hg7:=hle7 _ _ hg7;have hg6:=hle7 _ _ hg6;refine zV ?_;refine Yd (Yk [] [_] Zz (appl_f hmn (hW0.mono hle07) (YfG.mono hle07 hs0) (fun a ha=>(hA a ha).c) hn) (fun v8 fz8 H8 hle8 hR8=>?_));obtain ⟨cs,l,e,a,rfl,ha,hbad,hgood⟩:=hR8;refine Seq.perm (H':=[_]++H8) Zq ?_;by_cases h0:e=0;rotate_left 1
 ·rw [YD h0];obtain ⟨hno,rfl⟩:=hbad h0;obtain ⟨X0,x0,y0,X1,x1,y1,X2,x2,y2,X3,x3,y3,X4,x4,y4,X5,x5,y5,rfl,hR⟩:=Ybh ha;refine zV ?_;intros;exact Ybk T (vs:=[.agg #[Zn,Zn],.iface 88 (Zk e)]) ⟨⟨_,_,1,_,_,_,rfl,rfl,rfl,rfl,rfl,rfl⟩,rfl,trivial⟩ (fun fz3 hle3 hf3=>⟨rfl,_,e,⟨[],[]⟩,by rw [YD h0],⟨_,_,_,_,_,_,rfl,Sl.nil,Sl.nil⟩,⟨fun h=>absurd h h0,fun ⟨b,hb⟩=>absurd hb (hno b)⟩,fun h=>absurd h h0⟩)
 subst h0;obtain ⟨hok,nv,hGv⟩:=hgood rfl;rw [show errV 0=.nilIface from rfl];have ha0:=ha;obtain ⟨X0,x0,y0,X1,x1,y1,X2,x2,y2,X3,x3,y3,X4,x4,y4,X5,x5,y5,rfl,hR⟩:=Ybh ha;obtain ⟨Av,cv,rfl,_,_⟩:=hGv.form;have hac:=hA a hok.typ.mem;have hlt:=hok.typ.len;have hmany:=hmn.many;have hle08:=hle07.trans hle8;have hg7:=hle8 _ _ hg7;have hg6:=hle8 _ _ hg6;refine zV ?_;intros;rename_i g12;refine Yd (Yk [] (_::_::H8) Zz (YpO (hmn.mono hle8) (hW0.mono hle08) ha0 (ia.mono hle08) Zi hn hac.f (by have:=hac.many;omega)) (fun v9 fz9 H9 hle9 hR9=>?_));obtain ⟨n9,hn9,hG9⟩:=hR9;obtain ⟨A9,c9,rfl,_,_⟩:=hG9.form;refine Seq.freezeAll (H1:=_::_::H8) (H2:=H9) Zq (fun fz10 hle10 hf10=>?_);obtain ⟨B10,d10,e10,iG⟩:=hG9.sl hle10 hf10 Zi;injection e10 with w1 w2 w3
 subst w1;subst w3;have hgone:WdR fz10 ⟨fireM (mnM d p) W a s.2 2,[]⟩ (.agg #[Zc A9 n9 c9,Zn]):=⟨_,_,_,_,_,_,rfl,iG,Sl.nil⟩;have hle810:=hle9.trans hle10;have hle010:=hle08.trans hle810;have hg7:=hle810 _ _ hg7;have hg6:=hle810 _ _ hg6;generalize hgl:fireM (mnM d p) W a s.2 2=gl at*;refine zV ?_;intros;rename_i g14 g15;refine Yn (fun q σ fz' H'=>∃ (k:Nat) (vo:Value) (mo:Nat) (Ho:HP),k<=wn/\q=wn - k/\σ=[(50,Zk k),(49,Zk wn),(48,Zc Wa wn wc),(15,Zp g15),(14,Zp g14),(13,Zc Av nv cv),(12,Zp g12),(10,vm),(8,Zp g8),(7,Zp g7),(6,Zp g6)]/\fz10=fz'/\
  H'=(g15,Zu #[vo,Zn] 41)::(g14,Zu #[Zc A9 n9 c9,Zn] 41)::(g12,Zu #[Zy a.name,Zc X0 x0 y0,Zk a.cost,Zy a.pre.op,Zy a.pre.name,Zc X1 x1 y1,Zc X2 x2 y2,Zc X3 x3 y3,Zc X4 x4 y4,Zc X5 x5 y5] 67)::(g8,Zu #[Zn,Zn] 41)::(H8++Ho)/\mo<=k/\Grow atomL 59 fz' vo mo Ho ((W.atoms.take k).filter fun x=>decide (x ∉ gl)))
  ⟨0,_,0,[],Z0 _,rfl,rfl,rfl,by rw [List.append_nil],Zs _,Grow.nil _ _ _⟩ Zw Zb ?_
 rintro q σ fz1 H' ⟨k,vo,mo,Ho,hk,rfl,rfl,rfl,rfl,hmo,hGo⟩;obtain ⟨Ao,co,rfl,_,_⟩:=hGo.form;refine vC ?_ ?_<;>intro e1
 ·obtain ⟨x,hx⟩:=Yf (l:=W.atoms) (k:=k) Zi;have hxm:=Zm hx;refine vI (hWA.mono hle010) hx (fun p1 hp1=>?_);refine zL hp1 ?_;intro ds hds;obtain ⟨vx,rfl,hRx⟩:=Xy hds;have hRx0:=hRx;obtain ⟨E1,r1,q1,rfl,_⟩:=hRx.args;refine zV ?_;intros;rename_i g17;refine zb (wis_q hgone hRx0) (fun f1=>?_) (fun f1=>?_)
  ·have f1:=Zt f1;exact vP (h:=by exact ⟨k+1,_,mo,Ho,by omega,rfl,rfl,rfl,rfl,by omega,hGo.of (by rw [List.take_add_one,hx,List.filter_append];simp [f1]) rfl⟩)
  have f1:=Zf f1;refine zV ?_;refine Yd (Yc (cs:=[Zy x.name,Zc E1 r1 q1]) (fun gb=>?_));refine Yd (YG (Hr:=_::_::_::_::_::_::H8) (d:=x) (Zr _) hGo YbK (.head _) (Ycg hRx) (fun v' Hs' hO'=>?_));obtain ⟨Av',cv',rfl,_,_⟩:=hO'.form;exact vP (h:=by exact ⟨k+1,_,mo+1,Hs',by omega,rfl,rfl,rfl,rfl,by omega,hO'.of (by rw [List.take_add_one,hx,List.filter_append];simp [f1]) rfl⟩)
 have hkn:wn=k:=by omega
 subst hkn;rw [show W.atoms.take wn=W.atoms from Zl Zi] at hGo;have hFl:=YpQ (M:=mnM d p) (W:=W) (a:=a) (as_:=s.2) (k:=1) hmany hac.f hac.many;have hcm:=hac.many;refine zWN ?_;refine Y6 [_,_,_,_] ?_;refine zW ?_;refine Yl (Yl ?_);refine zW ?_;refine pU ?_;refine Yg (Does.post (Yk [] (_::_::_::_::(H8++Ho)) Zz (YpO (hmn.mono (hle8.trans hle810)) (hW0.mono hle010) (actionL.mono hle810 ha0) (ia.mono hle010) Zi hn hac.f Zi) (fun v6 fz6' H6 hle6' hR6=>⟨(_::_::_::_::(H8++Ho)),H6,Zq,fun fz6 hle6'' hf6=>?_⟩)));obtain ⟨n6,hn6,hG6⟩:=hR6;obtain ⟨B6',d6',rfl,iF⟩:=hG6.sl hle6'' hf6 Zi;have hle6:=hle6'.trans hle6'';have lF:=iF.len;refine ⟨⟨hle6,Zx⟩,?_⟩;refine Yg (XW T (Hr:=_::_::_::_::H8) Zz Zz Zz Zz Zz Zz Zz Zz (Zr _) (hGo.mono hle6) YbK iF (by show _*40<=_;omega) Zi (fun v10 H10 hO10=>⟨⟨hle6,Zx⟩,?_⟩));obtain ⟨A10,c10,rfl,_,_⟩:=hO10.form;refine Ch.hard0 (Yy ?_);refine Ch.done ?_;have hg6:=hle6 _ _ hg6;have hle06:=hle010.trans hle6;have hlv:nv=(numL a.changes).length:=by have:=hGv.len;unfold valC at this;rw [List.length_map] at this;exact this.symm
 have hlc:=Yms a.changes;refine zV ?_;refine Yd (XW T (Hr:=_::_::_::_::H10) Zz Zz Zz Zz Zz Zz Zz Zz ((((List.perm_append_comm.cons _).cons _).cons _).cons _) (hGv.mono (hle810.trans hle6)) YbZ (hWV.mono hle06) (by show _*48<=_;omega) Zi (fun v11 H11 hO11=>?_));obtain ⟨A11,c11,rfl,_,_⟩:=hO11.form;refine zV ?_;refine Seq.freezeAll (H1:=[_,_,_,_]) (H2:=H10++H11) (Zr _) (fun fz12 hle12 hf12=>?_);obtain ⟨B12,d12,e12,iA⟩:=hO10.sl hle12 (fun p hp=>hf12 p (by simp [hp])) Zi;injection e12 with w1 w2 w3
 subst w1;subst w3;obtain ⟨B13,d13,e13,iV⟩:=hO11.sl hle12 (fun p hp=>hf12 p (by simp [hp])) Zi;injection e13 with w1 w2 w3
 subst w1;subst w3;have hfl:((W.atoms).filter fun x=>decide (x ∉ gl)).length<=W.atoms.length:=List.length_filter_le _ _;have hvl:(valC (mnM d p).d W (nmA a) s.2 a.changes).length=(numL a.changes).length:=by unfold valC;rw [List.length_map]
 have hva:∀ v∈valC (mnM d p).d W (nmA a) s.2 a.changes,v.fluent.args.length<=1000000000:=fun v hv=>by
  obtain ⟨c,hc,rfl⟩:=List.mem_map.1 hv;show (c.args.map _).length<=_;rw [List.length_map];exact (hac.c.c c (List.mem_filter.1 hc).1).args
 have hfa:=YnL (M:=mnM d p) (W:=W) (a:=a) (as_:=s.2) (k:=1) hac.f;have hwm:WdSm ⟨(W.atoms.filter fun x=>decide (x ∉ gl))++fireM (mnM d p) W a s.2 1,valC (mnM d p).d W (nmA a) s.2 a.changes++W.values⟩:=
  {na:=by rw [List.length_append];omega
   nv:=by rw [List.length_append];omega
   a:=fun y hy=>by
    rcases List.mem_append.1 hy with hy | hy
    ·exact hWB.a y (List.mem_filter.1 hy).1
    exact hfa y hy
   v:=fun y hy=>by
    rcases List.mem_append.1 hy with hy | hy
    ·exact hva y hy
    exact hWB.v y hy}
 refine Yd (Yk [] [_,_,_,_] Zz (Yn5 ⟨_,_,_,_,_,_,rfl,iA,iV⟩ hwm) (fun v13 fz13 H13 hle13 hR13=>?_));obtain ⟨rfl,W',hW',⟨lw,hp1,hs1,he1⟩,hp2⟩:=hR13;have hW0':=hW';obtain ⟨C1,k1,q1,C2,k2,q2,rfl,_,_⟩:=hW';refine zV ?_;refine Ybk T (vs:=[.agg #[Zc C1 k1 q1,Zc C2 k2 q2],.nilIface]) ⟨⟨_,_,3,_,_,_,rfl,rfl,rfl,rfl,rfl,rfl⟩,rfl,trivial⟩ (fun fz14 hle14 hf14=>⟨rfl,_,0,W',rfl,hW0'.mono hle14,⟨fun _=>⟨a,hok⟩,fun _=>rfl⟩,fun _=>⟨?_,a,hok,⟨fun x=>?_,⟨lw,hs1,he1⟩,?_⟩⟩⟩)
 ·have hd:=Yf2 (valC (mnM d p).d W (nmA a) s.2 a.changes++W.values) [];have hcl:=Yjd lw lw.length;have hpl:=hp1.length_eq;rw [List.length_append] at hpl;exact
   {na:=by rw [he1];show (cpt lw lw.length).length<=_;omega
    nv:=by
     rw [hp2.length_eq];have h2:(dedV (valC (mnM d p).d W (nmA a) s.2 a.changes++W.values)).length<=0+(valC (mnM d p).d W (nmA a) s.2 a.changes++W.values).length:=hd.2;rw [List.length_append] at h2;show (dedV (valC (mnM d p).d W (nmA a) s.2 a.changes++W.values)).length<=_;omega
    a:=fun y hy=>by
     rw [he1,Yf3,hp1.mem_iff] at hy;exact hwm.a y hy
    v:=fun y hy=>by
     rw [hp2.mem_iff] at hy;rcases hd.1 y hy with h | h
     ·cases h
     exact hwm.v y h}
 ·rw [he1,Yf3,hp1.mem_iff,List.mem_append,List.mem_filter,<- hgl];simp
 have hd:(dedV (valC (mnM d p).d W (nmA a) s.2 a.changes++W.values)).length<=0+(valC (mnM d p).d W (nmA a) s.2 a.changes++W.values).length:=(Yf2 (valC (mnM d p).d W (nmA a) s.2 a.changes++W.values) []).2;rw [List.length_append] at hd;rw [hp2.length_eq];show (dedV (valC (mnM d p).d W (nmA a) s.2 a.changes++W.values)).length<=_;omega
theorem Yil {w:α->Nat}:((l.take k).map w).sum<=(l.map w).sum:=by
 conv=>rhs;rw [<- List.take_append_drop k l]
 rw [List.map_append,List.sum_append];omega
theorem Yim {w:α->Nat} {x:α} (hx:l[k]?=some x):((l.take (k+1)).map w).sum=((l.take k).map w).sum+w x:=by
 rw [List.take_add_one,hx];simp
mutual
theorem ecount_le:∀ e:Lx.Expr,ecount e<=eW e
 | .mk a b c args kids=>by have:=ecountL_le kids;rw [ecount,eW];omega
theorem ecountL_le:∀ l:List Lx.Expr,ecountL l<=eWL l
 | []=>by simp [ecountL]
 | x::r=>by have h1:=ecount_le x;have h2:=ecountL_le r;rw [ecountL,eWL];omega
end
mutual
theorem fcount_le:∀ f:Formula,fcount f<=fW f
 | .mk a b c d exprs kids=>by have h1:=ecountL_le exprs;have h2:=fcountL_le kids;rw [fcount,fW];omega
theorem fcountL_le:∀ l:List Formula,fcountL l<=fWL l
 | []=>by simp [fcountL]
 | x::r=>by have h1:=fcount_le x;have h2:=fcountL_le r;rw [fcountL,fWL];omega
end
theorem YoH:∀ (s:Nat) {fz:FZ} {e:Lx.Expr} {va vk:Value},SizeOf.sizeOf e<=s->ExprR fz e va vk->ecount e<=1000000000000->
 QFn prog 62 [.agg #[Zy e.op,Zy e.name,Zk e.n,va,vk]] fz (Zk (ecount e))
 | 0,_,e,_,_,hs,_,_=>by cases e;simp at hs
 | s+1,fz,e,va,vk,hs,h,hc=>by
  obtain ⟨⟨A,n,ca,rfl,ha⟩,⟨B,m,cb,rfl,hk⟩⟩:=h.sls;refine GFn.quiet ?_;have lk:=hk.len;have sk:=hk.short;have ec:=Yc8 e;refine zF Tryz.func62 Tryz.ntmps62 (fun w0=>?_);refine pX (fun g0=>?_);refine zW ?_;refine Yn (fun q σ fz' H'=>∃ (k:Nat) (c:Int),k<=m/\q=m - k/\σ=[(4,Zk k),(3,Zk c),(1,Zp g0)]/\fz=fz'/\H'=[(g0,Zu #[Zy e.op,Zy e.name,Zk e.n,Zc A n ca,Zc B m cb] 69)]/\c=((1+ecountL (e.kids.take k):Nat):Int)) ⟨0,_,Z0 _,rfl,rfl,rfl,rfl,rfl⟩ Zw Zb ?_;rintro q σ fz' H' ⟨k,c,hkm,rfl,rfl,rfl,rfl,hh⟩;refine wC ?_ ?_<;>intro c1
  ·obtain ⟨x,hx⟩:=Yf (l:=e.kids) (k:=k) Zi;have hxm:=Zm hx;have hlt:=Lx.Expr.kids_lt hxm;have hst:=Yda hx;have htk:=Yc9 (l:=e.kids) (k:=k+1);refine wI hk hx (fun p1 hp1=>?_);refine zL hp1 ?_;intro cs hcs;obtain ⟨wa,wk,rfl,hRx⟩:=YF hcs;refine wG ?_;refine Yt (YoH s Zi hRx Zi) ?_;exact wP (h:=by exact ⟨k+1,c+(ecount x:Nat),by omega,rfl,rfl,rfl,rfl,by omega⟩)
  rw [Zl Zi] at hh;exact wR (h:=by rw [hh,ec])
theorem YoG {e:Lx.Expr} (h:ExprR fz e va vk) (hc:ecount e<=1000000000000):
 QFn prog 62 [.agg #[Zy e.op,Zy e.name,Zk e.n,va,vk]] fz (Zk (ecount e)):=YoH _ (Zs _) h hc
theorem size_f:∀ (s:Nat) {fz:FZ} {f:Formula} {va vp ve vk:Value},SizeOf.sizeOf f<=s->FormulaR fz f va vp ve vk->fcount f<=1000000000000->
 QFn prog 29 [.agg #[Zy f.op,Zy f.name,va,vp,ve,vk]] fz (Zk (fcount f))
 | 0,_,e,_,_,_,_,hs,_,_=>by cases e;simp at hs
 | s+1,fz,f,va,vp,ve,vk,hs,h,hc=>by
  obtain ⟨⟨A,n,ca,rfl,ha⟩,⟨B,m,cb,rfl,hp⟩,⟨C,r,cr,rfl,he⟩,⟨D,q0,cq,rfl,hk⟩⟩:=h.sls;refine GFn.quiet ?_;have lk:=hk.len;have sk:=hk.short;have le:=he.len;have se:=he.short;have ec:=Yer f;refine zF Tryz.func29 Tryz.ntmps29 (fun w0=>?_);refine pX (fun g0=>?_);refine zW ?_;refine Yn (fun q σ fz' H'=>∃ (k:Nat) (c:Int),k<=r/\q=r - k/\σ=[(4,Zk k),(3,Zk c),(1,Zp g0)]/\fz=fz'/\H'=[(g0,Zu #[Zy f.op,Zy f.name,Zc A n ca,Zc B m cb,Zc C r cr,Zc D q0 cq] 35)]/\c=((1+ecountL (f.exprs.take k):Nat):Int)) ⟨0,_,Z0 _,rfl,rfl,rfl,rfl,rfl⟩ Zw Zb ?_;rintro q σ fz' H' ⟨k,c,hkm,rfl,rfl,rfl,rfl,hh⟩;refine wC ?_ ?_<;>intro c1
  ·obtain ⟨x,hx⟩:=Yf (l:=f.exprs) (k:=k) Zi;have hxm:=Zm hx;have hst:=Yda hx;have htk:=Yc9 (l:=f.exprs) (k:=k+1);refine wI he hx (fun p1 hp1=>?_);refine zL hp1 ?_;intro cs hcs;obtain ⟨wa,wk,rfl,hRx⟩:=YF hcs;refine wG ?_;refine Yt (YoG hRx Zi) ?_;exact wP (h:=by exact ⟨k+1,c+(ecount x:Nat),by omega,rfl,rfl,rfl,rfl,by omega⟩)
  rw [Zl Zi] at hh;refine zW ?_;refine Yn (fun q σ fz' H'=>∃ (k:Nat) (c:Int),k<=q0/\q=q0 - k/\σ=[(5,Zk k),(3,Zk c),(1,Zp g0)]/\fz=fz'/\H'=[(g0,Zu #[Zy f.op,Zy f.name,Zc A n ca,Zc B m cb,Zc C r cr,Zc D q0 cq] 35)]/\c=((1+ecountL f.exprs+fcountL (f.kids.take k):Nat):Int)) ⟨0,c,Z0 _,rfl,rfl,rfl,rfl,by rw [hh];simp [fcountL]⟩ Zw Zb ?_;rintro q σ fz' H' ⟨k,c,hkm,rfl,rfl,rfl,rfl,hh⟩;refine wC ?_ ?_<;>intro c2
  ·obtain ⟨x,hx⟩:=Yf (l:=f.kids) (k:=k) Zi;have hxm:=Zm hx;have hlt:=Formula.kids_lt hxm;have hst:=YfC hx;have htk:=YfB (l:=f.kids) (k:=k+1);refine wI hk hx (fun p1 hp1=>?_);refine zL hp1 ?_;intro cs hcs;obtain ⟨w1,w2,w3,w4,rfl,hRx⟩:=Yu hcs;refine wG ?_;refine Yt (size_f s Zi hRx Zi) ?_;exact wP (h:=by exact ⟨k+1,c+(fcount x:Nat),by omega,rfl,rfl,rfl,rfl,by omega⟩)
  rw [Zl Zi] at hh;exact wR (h:=by rw [hh,ec])
theorem YdY {f:Formula} (h:FormulaR fz f va vp ve vk) (hc:fcount f<=1000000000000):
 QFn prog 29 [.agg #[Zy f.op,Zy f.name,va,vp,ve,vk]] fz (Zk (fcount f)):=size_f _ (Zs _) h hc
def hvC (c:Change):Nat:=1+c.params.length+c.args.length+fcount c.when_+ecount c.value
def YbF (l:List Change):Nat:=(l.map hvC).sum
theorem hvC_le (c:Change):hvC c<=1*Y7 c:=by
 have h1:=fcount_le c.when_;have h2:=ecount_le c.value;unfold hvC Y7;omega
theorem YgO (l:List Change):YbF l<=(l.map Y7).sum:=by
 have:=Yin hvC_le l;unfold YbF;omega
theorem Ylz {ca:Nat} {l:List Change} (h1:Sl changeL fz A n ca l) (hc:YbF l<=1000000000000):
 QFn prog 61 [Zc A n ca] fz (Zk (YbF l)):=by
 refine GFn.quiet ?_;have l1:=h1.len;have s1:=h1.short;refine zF Tryz.func61 Tryz.ntmps61 (fun w0=>?_);refine zW ?_;refine Yn (fun q σ fz' H'=>∃ (k:Nat) (c:Int),k<=n/\q=n - k/\σ=[(4,Zk k),(3,Zk c),(0,Zc A n ca)]/\fz=fz'/\H'=[]/\c=((((l.take k).map hvC).sum:Nat):Int)) ⟨0,_,Z0 _,rfl,rfl,rfl,rfl,rfl⟩ Zw Zb ?_;rintro q σ fz' H' ⟨k,c,hkm,rfl,rfl,rfl,rfl,hh⟩;refine wC ?_ ?_<;>intro c1
 ·obtain ⟨x,hx⟩:=Yf (l:=l) (k:=k) Zi;have hst:=Yim (w:=hvC) hx;have htk:=Yil (w:=hvC) (l:=l) (k:=k+1);unfold YbF at hc;have hvx:hvC x=1+x.params.length+x.args.length+fcount x.when_+ecount x.value:=rfl;refine wI h1 hx (fun p1 hp1=>?_);refine wG ?_;refine Wy hp1.Change_params (fun P1 pn1 pc1 ip=>?_);have lp:=ip.len;refine wI h1 hx (fun p2 hp2=>?_);refine wG ?_;refine Wy hp2.Change_args (fun P2 pn2 pc2 ia=>?_);have la:=ia.len;refine wI h1 hx (fun p3 hp3=>?_);refine wL hp3.Change_when_ ?_;intro cs3 hcs3;obtain ⟨w1,w2,w3,w4,rfl,hR3⟩:=Yu hcs3
  ((refine zG ?_);refine Yt (YdY hR3 Zi) ?_);refine wI h1 hx (fun p4 hp4=>?_);refine wL hp4.Change_value ?_;intro cs4 hcs4;obtain ⟨u1,u2,rfl,hR4⟩:=YF hcs4
  ((refine zG ?_);refine Yt (YoG hR4 Zi) ?_);exact wP (h:=by exact ⟨k+1,c+(1+pn1+pn2+(fcount x.when_:Nat)+(ecount x.value:Nat)),by omega,rfl,rfl,rfl,rfl,by omega⟩)
 rw [Zl Zi] at hh;exact wR (h:=by rw [hh];rfl)
def laA (a:Action):Nat:=1+fcount a.pre+YbF a.changes
def laU (a:Durative):Nat:=1+fcount a.start+fcount a.over+fcount a.fin+YbF a.atStart+YbF a.atEnd
def Ykf (d:Domain) (p:Problem):Nat:=d.types.length+d.constants.length+d.predicates.length+d.functions.length+p.objects.length+p.init.length+p.values.length+fcount p.goal+(d.actions.map laA).sum+(d.duratives.map laU).sum
theorem laA_le (a:Action):laA a<=1*actW a:=by
 have h1:=fcount_le a.pre;have h2:=YgO a.changes;unfold laA actW;omega
theorem laU_le (a:Durative):laU a<=1*durW a:=by
 have h1:=fcount_le a.start;have h2:=fcount_le a.over;have h3:=fcount_le a.fin;have h4:=YgO a.atStart;have h5:=YgO a.atEnd;unfold laU durW;omega
theorem Ypn (d:Domain) (p:Problem):Ykf d p<=domW d+prbW p:=by
 have h1:=Yin laA_le d.actions;have h2:=Yin laU_le d.duratives;have h3:=fcount_le p.goal;have h4:=XR YjX d.predicates;have h5:=XR YmM d.functions;have h6:=XR YkP p.init;have h7:=XR YhA p.values;unfold Ykf domW prbW;omega
theorem YnC {p:Problem} (h:DomainR fz d v1 v2 v3 v4 v5 v6) (hp:ProblemR fz p u1 u2 u3 u4 u5 u6 u7) (hn:Ykf d p<=1000000000000:=by omega):
 QFn prog 27 [ZD d v1 v2 v3 v4 v5 v6,ZP p u1 u2 u3 u4 u5 u6 u7] fz (Zo (decide (2000<Ykf d p))):=by
 obtain ⟨A1,n1,b1,rfl,i1⟩:=h.types;have l1:=i1.len;obtain ⟨A2,n2,b2,rfl,i2⟩:=h.constants;have l2:=i2.len;obtain ⟨A3,n3,b3,rfl,i3⟩:=h.predicates;have l3:=i3.len;obtain ⟨A4,n4,b4,rfl,i4⟩:=h.functions;have l4:=i4.len;obtain ⟨A5,n5,b5,rfl,i5⟩:=h.actions;have l5:=i5.len;obtain ⟨A6,n6,b6,rfl,i6⟩:=h.duratives;have l6:=i6.len;have s5:=i5.short;have s6:=i6.short;obtain ⟨C1,m1,e1,rfl,j1⟩:=hp.objects;have k1:=j1.len;obtain ⟨C2,m2,e2,rfl,j2⟩:=hp.init;have k2:=j2.len;obtain ⟨C3,m3,e3,rfl,j3⟩:=hp.values;have k3:=j3.len;have hg:=hp.goal;obtain ⟨⟨U1,w1,z1,rfl,_⟩,⟨U2,w2,z2,rfl,_⟩,⟨U3,w3,z3,rfl,_⟩,⟨U4,w4,z4,rfl,_⟩⟩:=hp.goal.sls;refine GFn.quiet ?_;have hnn:Ykf d p=d.types.length+d.constants.length+d.predicates.length+d.functions.length+p.objects.length+p.init.length+p.values.length+fcount p.goal+(d.actions.map laA).sum+(d.duratives.map laU).sum:=rfl;refine zF Tryz.func27 Tryz.ntmps27 (fun w0=>?_);refine pX (fun g0=>?_);refine pY (fun g1=>?_);refine wG ?_;refine Yh (vs:=[Zy p.goal.op,Zy p.goal.name,Zc U1 w1 z1,Zc U2 w2 z2,Zc U3 w3 z3,Zc U4 w4 z4]) 0 ?_
 ((refine zG ?_);refine Yt (YdY hg Zi) ?_);refine zW ?_;refine Yn (fun q σ fz' H'=>∃ (k:Nat) (c:Int),k<=n5/\q=n5 - k/\σ=[(6,Zk k),(5,Zk c),(2,Zp g0)]/\fz=fz'/\H'=[(g0,Zu #[Zy d.name,Zc A1 n1 b1,Zc A2 n2 b2,Zc A3 n3 b3,Zc A4 n4 b4,Zc A5 n5 b5,Zc A6 n6 b6] 28)]/\c=((n1+n2+n3+n4+m1+m2+m3+fcount p.goal+((d.actions.take k).map laA).sum:Nat):Int)) ⟨0,(n1:Int)+n2+n3+n4+m1+m2+m3+(fcount p.goal:Nat),Z0 _,rfl,rfl,rfl,rfl,by simp⟩ Zw (List.Sublist.cons _ (List.Sublist.refl _)) ?_;rintro q σ fz' H' ⟨k,c,hkm,rfl,rfl,rfl,rfl,hh⟩;refine wC ?_ ?_<;>intro c1
 ·obtain ⟨x,hx⟩:=Yf (l:=d.actions) (k:=k) Zi;have hst:=Yim (w:=laA) hx;have htk:=Yil (w:=laA) (l:=d.actions) (k:=k+1);have hvx:laA x=1+fcount x.pre+YbF x.changes:=rfl;refine wI i5 hx (fun pp1 hp1=>?_);refine wL hp1.Action_pre ?_;intro cs1 hcs1;obtain ⟨s1,s2,s3,s4,rfl,hR1⟩:=Yu hcs1
  ((refine zG ?_);refine Yt (YdY hR1 Zi) ?_);refine wI i5 hx (fun pp2 hp2=>?_);refine wG ?_;refine Wy hp2.Action_changes (fun P2 pn2 pc2 ic=>?_)
  ((refine zG ?_);refine Yt (Ylz ic Zi) ?_);exact wP (h:=by exact ⟨k+1,c+(1+(fcount x.pre:Nat)+(YbF x.changes:Nat)),by omega,rfl,rfl,rfl,rfl,by omega⟩)
 rw [Zl Zi] at hh;refine zW ?_;refine Yn (fun q σ fz' H'=>∃ (k:Nat) (c:Int),k<=n6/\q=n6 - k/\σ=[(7,Zk k),(5,Zk c),(2,Zp g0)]/\fz=fz'/\H'=[(g0,Zu #[Zy d.name,Zc A1 n1 b1,Zc A2 n2 b2,Zc A3 n3 b3,Zc A4 n4 b4,Zc A5 n5 b5,Zc A6 n6 b6] 28)]/\c=((n1+n2+n3+n4+m1+m2+m3+fcount p.goal+(d.actions.map laA).sum+((d.duratives.take k).map laU).sum:Nat):Int)) ⟨0,c,Z0 _,rfl,rfl,rfl,rfl,by rw [hh];simp⟩ Zw Zb ?_;rintro q σ fz' H' ⟨k,c,hkm,rfl,rfl,rfl,rfl,hh⟩;refine wC ?_ ?_<;>intro c2
 ·obtain ⟨x,hx⟩:=Yf (l:=d.duratives) (k:=k) Zi;have hst:=Yim (w:=laU) hx;have htk:=Yil (w:=laU) (l:=d.duratives) (k:=k+1);have hvx:laU x=1+fcount x.start+fcount x.over+fcount x.fin+YbF x.atStart+YbF x.atEnd:=rfl;refine wI i6 hx (fun pp1 hp1=>?_);refine zL hp1 ?_;intro cs1 hcs1;obtain ⟨r0,r1,r2,r3,r4,r5,r6,r7,r8,r9,r10,r11,r12,r13,r14,rfl,hR⟩:=XJ hcs1;obtain ⟨P,p1,q1,rfl,ip⟩:=hR.params;have hS1:=hR.start;have hS2:=hR.over;have hS3:=hR.fin;obtain ⟨⟨V1,a1,y1,rfl,_⟩,⟨V2,a2,y2,rfl,_⟩,⟨V3,a3,y3,rfl,_⟩,⟨V4,a4,y4,rfl,_⟩⟩:=hR.start.sls;obtain ⟨⟨V5,a5,y5,rfl,_⟩,⟨V6,a6,y6,rfl,_⟩,⟨V7,a7,y7,rfl,_⟩,⟨V8,a8,y8,rfl,_⟩⟩:=hR.over.sls;obtain ⟨⟨V9,a9,y9,rfl,_⟩,⟨V10,a10,y10,rfl,_⟩,⟨V11,a11,y11,rfl,_⟩,⟨V12,a12,y12,rfl,_⟩⟩:=hR.fin.sls;obtain ⟨V13,a13,y13,rfl,ia⟩:=hR.atStart;obtain ⟨V14,a14,y14,rfl,ie⟩:=hR.atEnd;refine zW ?_;intros
  ((refine zG ?_);refine Yh (vs:=[Zy x.start.op,Zy x.start.name,Zc V1 a1 y1,Zc V2 a2 y2,Zc V3 a3 y3,Zc V4 a4 y4]) 0 ?_);refine wG ?_;refine Yt (YdY hS1 Zi) ?_;refine wG ?_;refine Yh (vs:=[Zy x.over.op,Zy x.over.name,Zc V5 a5 y5,Zc V6 a6 y6,Zc V7 a7 y7,Zc V8 a8 y8]) 0 ?_;refine wG ?_;refine Yt (YdY hS2 Zi) ?_;refine wG ?_;refine Yh (vs:=[Zy x.fin.op,Zy x.fin.name,Zc V9 a9 y9,Zc V10 a10 y10,Zc V11 a11 y11,Zc V12 a12 y12]) 0 ?_;refine wG ?_;refine Yt (YdY hS3 Zi) ?_;refine wG ?_;refine Yt (Ylz ia Zi) ?_;refine wG ?_;refine Yt (Ylz ie Zi) ?_;exact wP (h:=by exact ⟨k+1,c+(1+(fcount x.start:Nat)+(fcount x.over:Nat)+(fcount x.fin:Nat)+(YbF x.atStart:Nat)+(YbF x.atEnd:Nat)),by omega,rfl,rfl,rfl,rfl,by omega⟩)
 rw [Zl Zi] at hh;refine wC ?_ ?_<;>intro c3
 ·exact wR (h:=by exact Ys Zi)
 exact wR (h:=by exact Yj Zi)
end Go.Proofs.YtbdpaoikccabhaaGreatDoor
