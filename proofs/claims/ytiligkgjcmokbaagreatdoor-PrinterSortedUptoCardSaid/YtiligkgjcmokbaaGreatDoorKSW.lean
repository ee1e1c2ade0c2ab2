/- The texts RV, RW, RX, YA, YB, YC, laid together. Conditions: none. -/
import Derived.Test.YtiligkgjcmokbaaGreatDoorKSV
set_option linter.all false
set_option maxHeartbeats 16000000
noncomputable section
set_option maxRecDepth 20000
namespace Go.Proofs.YtiligkgjcmokbaaGreatDoor
open Go.Lx Go.RowKit
attribute [local instance 10] Classical.propDecidable
open Go.Proofs.Tryz (prog)
variable {α:Type} {fz fz':FZ} {g k n:Nat} {H:HP} {d:Domain} {vk:Value} {b:Bool} {s:Bs} {A:Option Addr}
def Yc7:Bs:=⟨#[58,114,101,113,117,105,114,101,109,101,110,116,115]⟩
theorem pred_one:OneC predicateL:=by
 intro fz d cs h u hu;obtain ⟨v1,rfl,hR⟩:=Xo h;obtain ⟨A1,n1,c1,rfl,_⟩:=hR.params;simp at hu;rcases hu with rfl | rfl<;>rfl
theorem func_one:OneC functionL:=by
 intro fz d cs h u hu;obtain ⟨v1,rfl,hR⟩:=YW h;obtain ⟨A1,n1,c1,rfl,_⟩:=hR.params;simp at hu;rcases hu with rfl | rfl | rfl | rfl<;>rfl
theorem act_one:OneC actionL:=by
 intro fz d cs h u hu;obtain ⟨v1,v2,v3,v4,v5,v6,rfl,hR⟩:=Xh h;obtain ⟨A1,n1,c1,rfl,_⟩:=hR.params;obtain ⟨⟨A2,n2,c2,rfl,_⟩,⟨A3,n3,c3,rfl,_⟩,⟨A4,n4,c4,rfl,_⟩,⟨A5,n5,c5,rfl,_⟩⟩:=hR.pre.sls;obtain ⟨A6,n6,c6,rfl,_⟩:=hR.changes;simp at hu;rcases hu with rfl | rfl | rfl | rfl | rfl | rfl | rfl | rfl | rfl | rfl<;>rfl
theorem dur_one:OneC durativeL:=by
 intro fz d cs h u hu;obtain ⟨v1,v2,v3,v4,v5,v6,v7,v8,v9,v10,v11,v12,v13,v14,v15,rfl,hR⟩:=YZ h;obtain ⟨A1,n1,c1,rfl,_⟩:=hR.params;obtain ⟨⟨A2,n2,c2,rfl,_⟩,⟨A3,n3,c3,rfl,_⟩,⟨A4,n4,c4,rfl,_⟩,⟨A5,n5,c5,rfl,_⟩⟩:=hR.start.sls;obtain ⟨⟨A6,n6,c6,rfl,_⟩,⟨A7,n7,c7,rfl,_⟩,⟨A8,n8,c8,rfl,_⟩,⟨A9,n9,c9,rfl,_⟩⟩:=hR.over.sls;obtain ⟨⟨B1,m1,d1,rfl,_⟩,⟨B2,m2,d2,rfl,_⟩,⟨B3,m3,d3,rfl,_⟩,⟨B4,m4,d4,rfl,_⟩⟩:=hR.fin.sls;obtain ⟨B5,m5,d5,rfl,_⟩:=hR.atStart;obtain ⟨B6,m6,d6,rfl,_⟩:=hR.atEnd;simp at hu;rcases hu with rfl | rfl | rfl | rfl | rfl | rfl | rfl | rfl | rfl | rfl | rfl | rfl | rfl | rfl | rfl | rfl | rfl | rfl | rfl | rfl | rfl | rfl | rfl<;>rfl
def DomS (fz:FZ) (g:Nat) (d:Domain) (H:HP):Prop:=
 ∃ v1 v2 vp vf va vd Hp Hf Ha Hd,H.Perm ((g,Zu #[Zy d.name,v1,v2,vp,vf,va,vd] 28)::(Hp++(Hf++(Ha++Hd))))/\Short d.name/\IsSl paramL fz v1 d.types/\IsSl paramL fz v2 d.constants/\
  Grow predicateL 61 fz vp d.predicates.length Hp d.predicates/\Grow functionL 63 fz vf d.functions.length Hf d.functions/\Grow actionL 52 fz va d.actions.length Ha d.actions/\Grow durativeL 55 fz vd d.duratives.length Hd d.duratives
def secB (d:Domain) (w:Bs) (r:List Sexpr) (x:Sexpr):Except Int Domain:=
 if w=Yc7 then .ok d
 else if w=Ybz then (match parM false r [] [] with | .error c=>.error c | .ok l=>.ok {d with types:=l})
 else if w=XZ then (match parM false r [] [] with | .error c=>.error c | .ok l=>.ok {d with constants:=l})
 else if w=XN then (match mapE YlQ r with | .error c=>.error c | .ok l=>.ok {d with predicates:=d.predicates++l})
 else if w=XY then (match mapE funM r with | .error c=>.error c | .ok l=>.ok {d with functions:=d.functions++l})
 else if w=Yad then (match actM x with | .error c=>.error c | .ok a=>.ok {d with actions:=d.actions++ [a]})
 else if w=XO then (match durM x with | .error c=>.error c | .ok a=>.ok {d with duratives:=d.duratives++ [a]})
 else .error 2
def SecR (g:Nat) (m:Except Int Domain) (v:Value) (fz:FZ) (H:HP):Prop:=match m with
 | .error c=>v=errV c/\c≠0/\H=[]
 | .ok d=>v=.nilIface/\DomS fz g d H
theorem YcQ {m:Except Int Domain} {c:Int} (h:m=.error c) (hc:c≠0):SecR g m (.iface 89 (Zk c)) fz []:=by rw [h];exact ⟨(Yg hc).symm,hc,rfl⟩
section
variable {α:Type} {a b c d:List α}
theorem pm_f:(a++(b++(c++d))).Perm ((a++(c++d))++b):=by
 rw [List.append_assoc];exact List.Perm.append_left a Zq
theorem pm_a:(a++(b++(c++d))).Perm ((a++(b++d))++c):=by
 rw [List.append_assoc,List.append_assoc];exact List.Perm.append_left a (List.Perm.append_left b Zq)
theorem pm_d:(a++(b++(c++d))).Perm ((a++(b++c))++d):=by
 rw [List.append_assoc,List.append_assoc]
end
theorem Yo6 {x:Sexpr} {w:Bs} {r:List Sexpr} (hh:XP x=some (w,r)) (hs:XSm x) (hD:DomS fz g d H) (hR:YT fz x vk)
 (b1:d.predicates.length+r.length<=100000000) (b2:d.functions.length+r.length<=100000000) (b3:d.actions.length<=100000000) (b4:d.duratives.length<=100000000):
 GFn prog 120 [Zp g,.agg #[Zk x.kind,Zk x.value,Zk x.line,Zk x.column,Zy x.text,vk]] fz H (fun v fz' H'=>Le fz fz'/\SecR g (secB d w r x) v fz' H'):=by
 obtain ⟨v1,v2,vp,vf,va,vd,Hp,Hf,Ha,Hd,hperm,hnm,ht,hcn,hgp,hgf,hga,hgd⟩:=hD;obtain ⟨y0,hk,rfl,hk3,hk1⟩:=XW hh;have hrs:=WU hs hh;have hRx:=hR;obtain ⟨A,n,c,rfl,ik⟩:=hR.kids;have hl:=ik.len;rw [hk,List.length_cons] at hl;have hk0:x.kids[0]?=some y0:=by rw [hk];rfl
 obtain ⟨Xp,xp,rfl,_,_⟩:=hgp.form;obtain ⟨Xf,xf,rfl,_,_⟩:=hgf.form;obtain ⟨Xa,xa,rfl,_,_⟩:=hga.form;obtain ⟨Xd,xd,rfl,_,_⟩:=hgd.form;obtain ⟨T1,t1,z1,rfl,it1⟩:=ht;obtain ⟨T2,t2,z2,rfl,it2⟩:=hcn;generalize hM:secB d y0.text r x=M;unfold secB at hM;refine zF Tryz.func120 Tryz.ntmps120 (fun w0=>?_);refine Wp.perm hperm.symm ?_;refine zW ?_;intros;rename_i g3;refine zG ?_;refine Xy (j:=1) ik (fun A' hA'=>?_);rw [hk,List.drop_one,List.tail_cons] at hA';have hrl:=hA'.len;refine wI ik hk0 (fun p hp=>?_);refine wH hp.Sexpr_text (fun hst=>?_);refine wC ?_ ?_<;>intro c0
 ·rw [if_pos (show y0.text=Yc7 from c0)] at hM;subst hM;refine zW ?_;exact ret1 (H':=(g,_)::(Hp++(Hf++(Ha++Hd)))) rfl rfl Zb ⟨Zd,rfl,_,_,_,_,_,_,Hp,Hf,Ha,Hd,Zr _,hnm,⟨_,_,_,rfl,it1⟩,⟨_,_,_,rfl,it2⟩,hgp,hgf,hga,hgd⟩
 rw [if_neg (show ¬y0.text=Yc7 from c0)] at hM;refine wC ?_ ?_<;>intro c1
 ·rw [if_pos (show y0.text=Ybz from c1)] at hM;refine wK (q:=Ybn (b:=false) hA') (h:=fun r5 fz5 H5 hle5 hR5=>?_);obtain ⟨rfl,hR5⟩:=hR5;rw [List.nil_append];cases hps:parM false r [] [] with
  | error c=>
   rw [hps] at hM hR5;obtain ⟨rfl,hc⟩:=hR5;subst hM;rw [Yg hc];refine wI (ik.mono hle5) hk0 (fun p2 hp2=>?_);refine wH hp2.Sexpr_text (fun hst2=>?_);exact wR (h:=by exact ⟨hle5,YcQ rfl hc⟩)
  | ok l=>
   rw [hps] at hM hR5;obtain ⟨A5,n5,c5,rfl,il⟩:=hR5;subst hM;refine wI (ik.mono hle5) hk0 (fun p2 hp2=>?_);refine wH hp2.Sexpr_text (fun hst2=>?_);refine zW ?_;exact ret1 (H':=(g,_)::(Hp++(Hf++(Ha++Hd)))) rfl rfl Zb ⟨hle5,rfl,_,_,_,_,_,_,Hp,Hf,Ha,Hd,Zr _,hnm,⟨_,_,_,rfl,il⟩,⟨_,_,_,rfl,it2.mono hle5⟩,hgp.mono hle5,hgf.mono hle5,hga.mono hle5,hgd.mono hle5⟩
 rw [if_neg (show ¬y0.text=Ybz from c1)] at hM;refine wC ?_ ?_<;>intro c2
 ·rw [if_pos (show y0.text=XZ from c2)] at hM;refine wK (q:=Ybn (b:=false) hA') (h:=fun r5 fz5 H5 hle5 hR5=>?_);obtain ⟨rfl,hR5⟩:=hR5;rw [List.nil_append];cases hps:parM false r [] [] with
  | error c=>
   rw [hps] at hM hR5;obtain ⟨rfl,hc⟩:=hR5;subst hM;rw [Yg hc];refine wI (ik.mono hle5) hk0 (fun p2 hp2=>?_);refine wH hp2.Sexpr_text (fun hst2=>?_);exact wR (h:=by exact ⟨hle5,YcQ rfl hc⟩)
  | ok l=>
   rw [hps] at hM hR5;obtain ⟨A5,n5,c5,rfl,il⟩:=hR5;subst hM;refine wI (ik.mono hle5) hk0 (fun p2 hp2=>?_);refine wH hp2.Sexpr_text (fun hst2=>?_);refine zW ?_;exact ret1 (H':=(g,_)::(Hp++(Hf++(Ha++Hd)))) rfl rfl Zb ⟨hle5,rfl,_,_,_,_,_,_,Hp,Hf,Ha,Hd,Zr _,hnm,⟨_,_,_,rfl,it1.mono hle5⟩,⟨_,_,_,rfl,il⟩,hgp.mono hle5,hgf.mono hle5,hga.mono hle5,hgd.mono hle5⟩
 rw [if_neg (show ¬y0.text=XZ from c2)] at hM;refine wC ?_ ?_<;>intro c3
 ·rw [if_pos (show y0.text=XN from c3)] at hM;refine Seq.perm (List.Perm.cons _ (List.Perm.cons _ Zq.symm)) ?_;generalize hReq:Hf++(Ha++Hd)=R;have hRR:∀ Hs:HP,(R++Hs).Perm (Hs++(Hf++(Ha++Hd))):=fun Hs=>by rw [<- hReq];exact Zq.symm
  refine zW ?_;refine Yi (fun q σ fz' H'=>∃ (k:Nat) (v:Value) (Hs:HP) (out:List Predicate),k<=n - 1/\q=n - 1 - k/\σ=[(57,Zk k),(56,Zk (n - 1:Nat)),(55,Zc A' (n - 1) (c - 1)),(0,Zp g)]/\Le fz fz'/\H'=(g,Zu #[Zy d.name,Zc T1 t1 z1,Zc T2 t2 z2,v,Zc Xf d.functions.length xf,Zc Xa d.actions.length xa,Zc Xd d.duratives.length xd] 28)::(R++Hs)/\Grow predicateL 61 fz' v (d.predicates.length+k) Hs (d.predicates++out)/\mapE YlQ r=exA out (mapE YlQ (r.drop k))) ⟨0,_,_,[],Z0 _,rfl,rfl,Zd,rfl,by rw [List.append_nil];exact hgp,by rw [YdL];rfl⟩ Zw Zb ?_;rintro q σ fz' H' ⟨k,v,Hs,out,hkn,rfl,rfl,hle,rfl,hG,hT⟩;obtain ⟨Av,cv,rfl,_,_⟩:=hG.form;refine wC ?_ ?_<;>intro e1
  ·obtain ⟨z,hz⟩:=Ye (l:=r) (k:=k) Zi;refine wI (hA'.mono hle) hz (fun p2 hp2=>?_);refine zL hp2 ?_;intro cs hcs;obtain ⟨vz,rfl,hRz⟩:=Yf hcs;have hRz':=hRz;obtain ⟨Az,nz,cz,rfl,iz⟩:=hRz.kids;refine zW ?_;intros;rename_i g9;refine wK (q:=YlO (Ww hs hh (Zm hz)) hRz') (h:=fun r5 fz5 H5 hle5 hR5=>?_);obtain ⟨rfl,y,cs5,hy5,hR5⟩:=hR5;rw [List.nil_append];have hy5':=hy5;obtain ⟨x1,rfl,hY⟩:=Xo hy5';obtain ⟨E1,e1,q1,rfl,_⟩:=hY.params;cases hx:YlQ z with
   | error c=>
    rw [hx] at hR5;obtain ⟨rfl,hc⟩:=hR5;have hm:=Ygs hz hT hx;rw [hm] at hM;subst hM;rw [Yg hc];refine zW ?_;intros;exact wR (h:=by exact ⟨hle.trans hle5,YcQ rfl hc⟩)
   | ok y2=>
    rw [hx] at hR5;obtain ⟨rfl,rfl⟩:=hR5;have hm:=Yjb hz hT hx;have hG:=hG.mono hle5;refine zWN ?_;intros;rename_i g10;refine WP [8,9] [_,_,_] ?_;refine zW ?_;refine Yn (Yn ?_);refine PK.p Zz (fun fz'=>by first | exact XC rfl | exact YU Zz rfl | exact Yt rfl | exact W4 Zz Zz (YQ Zi) rfl | exact Yw rfl) ?_;refine PK.p Zz (fun fz'=>by first | exact XC rfl | exact YU Zz rfl | exact Yt rfl | exact W4 Zz Zz (YQ Zi) rfl | exact Yw rfl) ?_;refine pT ?_;refine Yh ?_;refine Yd (Yb (cs:=[Zy y2.name,Zc E1 e1 q1]) (fun gb=>⟨⟨Zd,Zx⟩,?_⟩));refine Yh ?_;refine Yd (YN (d:=y2) (cs:=[Zy y2.name,Zc E1 e1 q1]) (Hr:=(gb,_)::(g10,_)::(g9,_)::(g,_)::R) (Zr _) hG pred_one (.head _) hy5 (fun v' Hs' hG'=>⟨⟨Zd,Zx⟩,?_⟩));obtain ⟨Av',cv',rfl,_,_⟩:=hG'.form;refine Yh ?_;refine PoS.hard0 (WS ?_);refine Po.done ?_;refine zW ?_;exact Wj (H':=(g,_)::(R++Hs')) ⟨k+1,_,Hs',out++ [y2],by omega,rfl,rfl,hle.trans hle5,rfl,hG'.of (by rw [List.append_assoc]) Zi,hm⟩ Zi Zw Zb
  have hm:=Ygt hT;rw [hm] at hM;subst hM;refine zW ?_;have hlen:=hG.len;rw [<- hlen] at hG ⊢;exact ret1 (H':=(g,_)::(R++Hs)) rfl rfl Zb ⟨hle,rfl,_,_,_,_,_,_,Hs,Hf,Ha,Hd,List.Perm.cons _ (hRR Hs),hnm,⟨_,_,_,rfl,it1.mono hle⟩,⟨_,_,_,rfl,it2.mono hle⟩,hG,hgf.mono hle,hga.mono hle,hgd.mono hle⟩
 rw [if_neg (show ¬y0.text=XN from c3)] at hM;refine wC ?_ ?_<;>intro c4
 ·rw [if_pos (show y0.text=XY from c4)] at hM;refine Seq.perm (List.Perm.cons _ (List.Perm.cons _ (pm_f).symm)) ?_;generalize hReq:Hp++(Ha++Hd)=R;have hRR:∀ Hs:HP,(R++Hs).Perm (Hp++(Hs++(Ha++Hd))):=fun Hs=>by rw [<- hReq];exact (pm_f).symm
  refine zW ?_;refine Yi (fun q σ fz' H'=>∃ (k:Nat) (v:Value) (Hs:HP) (out:List Function),k<=n - 1/\q=n - 1 - k/\σ=[(84,Zk k),(83,Zk (n - 1:Nat)),(82,Zc A' (n - 1) (c - 1)),(0,Zp g)]/\Le fz fz'/\H'=(g,Zu #[Zy d.name,Zc T1 t1 z1,Zc T2 t2 z2,Zc Xp d.predicates.length xp,v,Zc Xa d.actions.length xa,Zc Xd d.duratives.length xd] 28)::(R++Hs)/\Grow functionL 63 fz' v (d.functions.length+k) Hs (d.functions++out)/\mapE funM r=exA out (mapE funM (r.drop k))) ⟨0,_,_,[],Z0 _,rfl,rfl,Zd,rfl,by rw [List.append_nil];exact hgf,by rw [YdL];rfl⟩ Zw Zb ?_;rintro q σ fz' H' ⟨k,v,Hs,out,hkn,rfl,rfl,hle,rfl,hG,hT⟩;obtain ⟨Av,cv,rfl,_,_⟩:=hG.form;refine wC ?_ ?_<;>intro e1
  ·obtain ⟨z,hz⟩:=Ye (l:=r) (k:=k) Zi;refine wI (hA'.mono hle) hz (fun p2 hp2=>?_);refine zL hp2 ?_;intro cs hcs;obtain ⟨vz,rfl,hRz⟩:=Yf hcs;have hRz':=hRz;obtain ⟨Az,nz,cz,rfl,iz⟩:=hRz.kids;refine zW ?_;intros;rename_i g9;refine wK (q:=Yn9 (Ww hs hh (Zm hz)) hRz') (h:=fun r5 fz5 H5 hle5 hR5=>?_);obtain ⟨rfl,y,cs5,hy5,hR5⟩:=hR5;rw [List.nil_append];have hy5':=hy5;obtain ⟨x1,rfl,hY⟩:=YW hy5';obtain ⟨E1,e1,q1,rfl,_⟩:=hY.params;cases hx:funM z with
   | error c=>
    rw [hx] at hR5;obtain ⟨rfl,hc⟩:=hR5;have hm:=Ygs hz hT hx;rw [hm] at hM;subst hM;rw [Yg hc];refine zW ?_;intros;exact wR (h:=by exact ⟨hle.trans hle5,YcQ rfl hc⟩)
   | ok y2=>
    rw [hx] at hR5;obtain ⟨rfl,rfl⟩:=hR5;have hm:=Yjb hz hT hx;have hG:=hG.mono hle5;refine zWN ?_;intros;rename_i g10;refine WP [8,9] [_,_,_] ?_;refine zW ?_;refine Yn (Yn ?_);refine PK.p Zz (fun fz'=>by first | exact XC rfl | exact YU Zz rfl | exact Yt rfl | exact W4 Zz Zz (YQ Zi) rfl | exact Yw rfl) ?_;refine PK.p Zz (fun fz'=>by first | exact XC rfl | exact YU Zz rfl | exact Yt rfl | exact W4 Zz Zz (YQ Zi) rfl | exact Yw rfl) ?_;refine pT ?_;refine Yh ?_;refine Yd (Yb (cs:=[Zy y2.name,Zc E1 e1 q1,Zk y2.lo,Zk y2.hi]) (fun gb=>⟨⟨Zd,Zx⟩,?_⟩));refine Yh ?_;refine Yd (YN (d:=y2) (cs:=[Zy y2.name,Zc E1 e1 q1,Zk y2.lo,Zk y2.hi]) (Hr:=(gb,_)::(g10,_)::(g9,_)::(g,_)::R) (Zr _) hG func_one (.head _) hy5 (fun v' Hs' hG'=>⟨⟨Zd,Zx⟩,?_⟩));obtain ⟨Av',cv',rfl,_,_⟩:=hG'.form;refine Yh ?_;refine PoS.hard0 (WS ?_);refine Po.done ?_;refine zW ?_;exact Wj (H':=(g,_)::(R++Hs')) ⟨k+1,_,Hs',out++ [y2],by omega,rfl,rfl,hle.trans hle5,rfl,hG'.of (by rw [List.append_assoc]) Zi,hm⟩ Zi Zw Zb
  have hm:=Ygt hT;rw [hm] at hM;subst hM;refine zW ?_;have hlen:=hG.len;rw [<- hlen] at hG ⊢;exact ret1 (H':=(g,_)::(R++Hs)) rfl rfl Zb ⟨hle,rfl,_,_,_,_,_,_,Hp,Hs,Ha,Hd,List.Perm.cons _ (hRR Hs),hnm,⟨_,_,_,rfl,it1.mono hle⟩,⟨_,_,_,rfl,it2.mono hle⟩,hgp.mono hle,hG,hga.mono hle,hgd.mono hle⟩
 rw [if_neg (show ¬y0.text=XY from c4)] at hM;refine wC ?_ ?_<;>intro c5
 ·rw [if_pos (show y0.text=Yad from c5)] at hM;refine Seq.perm (List.Perm.cons _ (List.Perm.cons _ (pm_a).symm)) ?_;generalize hReq:Hp++(Hf++Hd)=R;have hRR:∀ Hs:HP,(R++Hs).Perm (Hp++(Hf++(Hs++Hd))):=fun Hs=>by rw [<- hReq];exact (pm_a).symm
  refine wK (q:=action_f hs hRx) (h:=fun r5 fz5 H5 hle5 hR5=>?_);obtain ⟨rfl,y,cs5,hy5,hR5⟩:=hR5;rw [List.nil_append];have hy5':=hy5;obtain ⟨x1,x2,x3,x4,x5,x6,rfl,hY⟩:=Xh hy5';obtain ⟨E1,e1,q1,rfl,_⟩:=hY.params;obtain ⟨⟨E2,e2,q2,rfl,_⟩,⟨E3,e3,q3,rfl,_⟩,⟨E4,e4,q4,rfl,_⟩,⟨E5,e5,q5,rfl,_⟩⟩:=hY.pre.sls;obtain ⟨E6,e6,q6,rfl,_⟩:=hY.changes;have hG:=hga.mono hle5;obtain ⟨ev,rfl,hev⟩:∃ ev,r5=.tuple #[.agg (List.toArray [Zy y.name,Zc E1 e1 q1,Zk y.cost,Zy y.pre.op,Zy y.pre.name,Zc E2 e2 q2,Zc E3 e3 q3,Zc E4 e4 q4,Zc E5 e5 q5,Zc E6 e6 q6]),ev]/\(match actM x with | .error c=>ev=errV c/\c≠0 | .ok b=>b=y/\ev=.nilIface):=by
   cases hx:actM x with
   | error c=>rw [hx] at hR5;exact ⟨_,hR5.1,rfl,hR5.2⟩
   | ok b=>rw [hx] at hR5;exact ⟨_,hR5.2,hR5.1,rfl⟩
  refine zWN ?_;intros;rename_i g16;refine WP [8,9] [_,_,_] ?_;refine zW ?_;refine Yn (Yn ?_);refine PK.p Zz (fun fz'=>by first | exact XC rfl | exact YU Zz rfl | exact Yt rfl | exact W4 Zz Zz (YQ Zi) rfl | exact Yw rfl) ?_;refine PK.p Zz (fun fz'=>by first | exact XC rfl | exact YU Zz rfl | exact Yt rfl | exact W4 Zz Zz (YQ Zi) rfl | exact Yw rfl) ?_;refine pT ?_;refine Yh ?_;refine Yd (Yb (cs:=[Zy y.name,Zc E1 e1 q1,Zk y.cost,Zy y.pre.op,Zy y.pre.name,Zc E2 e2 q2,Zc E3 e3 q3,Zc E4 e4 q4,Zc E5 e5 q5,Zc E6 e6 q6]) (fun gb=>⟨⟨Zd,Zx⟩,?_⟩));refine Yh ?_;refine Yd (YN (d:=y) (cs:=[Zy y.name,Zc E1 e1 q1,Zk y.cost,Zy y.pre.op,Zy y.pre.name,Zc E2 e2 q2,Zc E3 e3 q3,Zc E4 e4 q4,Zc E5 e5 q5,Zc E6 e6 q6]) (Hr:=(gb,_)::(g16,_)::(g3,_)::(g,_)::R) (Zr _) hG act_one (.head _) hy5 (fun v' Hs' hG'=>⟨⟨Zd,Zx⟩,?_⟩));obtain ⟨Av',cv',rfl,_,_⟩:=hG'.form;refine Yh ?_;refine PoS.hard0 (WS ?_);refine Po.done ?_;refine zW ?_;cases hx:actM x with
  | error c=>
   rw [hx] at hev hM;obtain ⟨rfl,hc⟩:=hev;subst hM;exact wR (h:=by exact ⟨hle5,by rw [Yg hc];exact YcQ rfl hc⟩)
  | ok b=>
   rw [hx] at hev hM;obtain ⟨rfl,rfl⟩:=hev;subst hM;have hlen:=hG'.len;rw [<- hlen] at hG' ⊢;exact ret1 (H':=(g,_)::(R++Hs')) rfl rfl Zb ⟨hle5,rfl,_,_,_,_,_,_,Hp,Hf,Hs',Hd,List.Perm.cons _ (hRR Hs'),hnm,⟨_,_,_,rfl,it1.mono hle5⟩,⟨_,_,_,rfl,it2.mono hle5⟩,hgp.mono hle5,hgf.mono hle5,hG',hgd.mono hle5⟩
 rw [if_neg (show ¬y0.text=Yad from c5)] at hM;refine wC ?_ ?_<;>intro c6
 ·rw [if_pos (show y0.text=XO from c6)] at hM;refine Seq.perm (List.Perm.cons _ (List.Perm.cons _ (pm_d).symm)) ?_;generalize hReq:Hp++(Hf++Ha)=R;have hRR:∀ Hs:HP,(R++Hs).Perm (Hp++(Hf++(Ha++Hs))):=fun Hs=>by rw [<- hReq];exact (pm_d).symm
  refine wK (q:=Yof hs hRx) (h:=fun r5 fz5 H5 hle5 hR5=>?_);obtain ⟨rfl,y,cs5,hy5,hR5⟩:=hR5;rw [List.nil_append];have hy5':=hy5;obtain ⟨x1,x2,x3,x4,x5,x6,x7,x8,x9,x10,x11,x12,x13,x14,x15,rfl,hY⟩:=YZ hy5';obtain ⟨E1,e1,q1,rfl,_⟩:=hY.params;obtain ⟨⟨E2,e2,q2,rfl,_⟩,⟨E3,e3,q3,rfl,_⟩,⟨E4,e4,q4,rfl,_⟩,⟨E5,e5,q5,rfl,_⟩⟩:=hY.start.sls;obtain ⟨⟨E6,e6,q6,rfl,_⟩,⟨E7,e7,q7,rfl,_⟩,⟨E8,e8,q8,rfl,_⟩,⟨E9,e9,q9,rfl,_⟩⟩:=hY.over.sls;obtain ⟨⟨E10,e10,q10,rfl,_⟩,⟨E11,e11,q11,rfl,_⟩,⟨E12,e12,q12,rfl,_⟩,⟨E13,e13,q13,rfl,_⟩⟩:=hY.fin.sls;obtain ⟨E14,e14,q14,rfl,_⟩:=hY.atStart;obtain ⟨E15,e15,q15,rfl,_⟩:=hY.atEnd;have hG:=hgd.mono hle5;obtain ⟨ev,rfl,hev⟩:∃ ev,r5=.tuple #[.agg (List.toArray [Zy y.name,Zc E1 e1 q1,Zk y.duration,Zy y.start.op,Zy y.start.name,Zc E2 e2 q2,Zc E3 e3 q3,Zc E4 e4 q4,Zc E5 e5 q5,Zy y.over.op,Zy y.over.name,Zc E6 e6 q6,Zc E7 e7 q7,Zc E8 e8 q8,Zc E9 e9 q9,Zy y.fin.op,Zy y.fin.name,Zc E10 e10 q10,Zc E11 e11 q11,Zc E12 e12 q12,Zc E13 e13 q13,Zc E14 e14 q14,Zc E15 e15 q15]),ev]/\(match durM x with | .error c=>ev=errV c/\c≠0 | .ok b=>b=y/\ev=.nilIface):=by
   cases hx:durM x with
   | error c=>rw [hx] at hR5;exact ⟨_,hR5.1,rfl,hR5.2⟩
   | ok b=>rw [hx] at hR5;exact ⟨_,hR5.2,hR5.1,rfl⟩
  refine zWN ?_;intros;rename_i g16;refine WP [8,9] [_,_,_] ?_;refine zW ?_;refine Yn (Yn ?_);refine PK.p Zz (fun fz'=>by first | exact XC rfl | exact YU Zz rfl | exact Yt rfl | exact W4 Zz Zz (YQ Zi) rfl | exact Yw rfl) ?_;refine PK.p Zz (fun fz'=>by first | exact XC rfl | exact YU Zz rfl | exact Yt rfl | exact W4 Zz Zz (YQ Zi) rfl | exact Yw rfl) ?_;refine pT ?_;refine Yh ?_;refine Yd (Yb (cs:=[Zy y.name,Zc E1 e1 q1,Zk y.duration,Zy y.start.op,Zy y.start.name,Zc E2 e2 q2,Zc E3 e3 q3,Zc E4 e4 q4,Zc E5 e5 q5,Zy y.over.op,Zy y.over.name,Zc E6 e6 q6,Zc E7 e7 q7,Zc E8 e8 q8,Zc E9 e9 q9,Zy y.fin.op,Zy y.fin.name,Zc E10 e10 q10,Zc E11 e11 q11,Zc E12 e12 q12,Zc E13 e13 q13,Zc E14 e14 q14,Zc E15 e15 q15]) (fun gb=>⟨⟨Zd,Zx⟩,?_⟩));refine Yh ?_;refine Yd (YN (d:=y) (cs:=[Zy y.name,Zc E1 e1 q1,Zk y.duration,Zy y.start.op,Zy y.start.name,Zc E2 e2 q2,Zc E3 e3 q3,Zc E4 e4 q4,Zc E5 e5 q5,Zy y.over.op,Zy y.over.name,Zc E6 e6 q6,Zc E7 e7 q7,Zc E8 e8 q8,Zc E9 e9 q9,Zy y.fin.op,Zy y.fin.name,Zc E10 e10 q10,Zc E11 e11 q11,Zc E12 e12 q12,Zc E13 e13 q13,Zc E14 e14 q14,Zc E15 e15 q15]) (Hr:=(gb,_)::(g16,_)::(g3,_)::(g,_)::R) (Zr _) hG dur_one (.head _) hy5 (fun v' Hs' hG'=>⟨⟨Zd,Zx⟩,?_⟩));obtain ⟨Av',cv',rfl,_,_⟩:=hG'.form;refine Yh ?_;refine PoS.hard0 (WS ?_);refine Po.done ?_;refine zW ?_;cases hx:durM x with
  | error c=>
   rw [hx] at hev hM;obtain ⟨rfl,hc⟩:=hev;subst hM;exact wR (h:=by exact ⟨hle5,by rw [Yg hc];exact YcQ rfl hc⟩)
  | ok b=>
   rw [hx] at hev hM;obtain ⟨rfl,rfl⟩:=hev;subst hM;have hlen:=hG'.len;rw [<- hlen] at hG' ⊢;exact ret1 (H':=(g,_)::(R++Hs')) rfl rfl Zb ⟨hle5,rfl,_,_,_,_,_,_,Hp,Hf,Ha,Hs',List.Perm.cons _ (hRR Hs'),hnm,⟨_,_,_,rfl,it1.mono hle5⟩,⟨_,_,_,rfl,it2.mono hle5⟩,hgp.mono hle5,hgf.mono hle5,hga.mono hle5,hG'⟩
 rw [if_neg (show ¬y0.text=XO from c6)] at hM;exact wR (h:=by exact ⟨Zd,YcQ hM.symm Zh⟩)
def titM (x:Sexpr):Except Int Bs:=match XP x with
 | none=>.error 2
 | some (w,r)=>match r with
  | [y]=>if w=Wo/\y.kind=1 then (if Xc y.text then .ok y.text else .error 8) else .error 2
  | _=>.error 2
theorem title_q {x:Sexpr} (h:YT fz x vk):QFn prog 118 [.agg #[Zk x.kind,Zk x.value,Zk x.line,Zk x.column,Zy x.text,vk]] fz (strV (titM x)):=by
 have hbeg:=Ydh h;have hM:titM x=match XP x with
 | none=>.error 2
 | some (w,r)=>match r with
  | [y]=>if w=Wo/\y.kind=1 then (if Xc y.text then .ok y.text else .error 8) else .error 2
  | _=>.error 2:=rfl
 obtain ⟨A,n,c,rfl,ik⟩:=h.kids;have hl:=ik.len;refine qF Tryz.func118 Tryz.ntmps118 (fun w0=>?_);refine zW ?_;intros;cases hh:XP x with
 | none=>
  rw [hh] at hM hbeg;rw [hM];refine zc hbeg ?_;exact wS (h:=rfl)
 | some wr=>
  obtain ⟨w,r⟩:=wr;rw [hh] at hM hbeg;simp only at hM;obtain ⟨y,hk,rfl,hk3,hk1⟩:=XW hh;have hk0:x.kids[0]?=some y:=by rw [hk];rfl
  rw [hk,List.length_cons] at hl;refine zc hbeg ?_;refine wC ?_ ?_<;>intro c1
  ·have hM2:titM x=.error 2:=by
    rw [hM];split
    ·simp at hl;omega
    rfl
   rw [hM2];exact wS (h:=rfl)
  obtain ⟨u,rfl⟩:∃ u,r=[u]:=by
   have h3:r.length=1:=by omega
   match r,h3 with
   | [u],_=>exact ⟨u,rfl⟩
  simp only at hM;have hu:x.kids[1]?=some u:=by rw [hk];rfl
  refine wI ik hk0 (fun p hp=>?_);refine wH hp.Sexpr_text (fun hst=>?_);refine wC ?_ ?_<;>intro c2
  ·rw [if_neg (fun h=>c2 h.1)] at hM;rw [hM];exact wS (h:=rfl)
  refine wI ik hu (fun p2 hp2=>?_);refine zL hp2 ?_;intro cs hcs;obtain ⟨vu,rfl,hRu⟩:=Yf hcs;refine zb YeY (fun f1=>?_) (fun f1=>?_)
  ·rw [if_pos ⟨show y.text=Wo from c2,Zt f1⟩] at hM;refine wI ik hu (fun p3 hp3=>?_);refine wH hp3.Sexpr_text (fun hst3=>?_);refine wb (WN hst3) (fun f2=>?_) (fun f2=>?_)
   ·rw [if_pos (Zt f2)] at hM;rw [hM];refine wI ik hu (fun p4 hp4=>?_);refine wH hp4.Sexpr_text (fun hst4=>?_);exact wS (h:=rfl)
   rw [if_neg (Zf f2)] at hM;rw [hM];exact wS (h:=rfl)
  rw [if_neg (fun h=>Zf f1 h.2)] at hM;rw [hM];exact wS (h:=rfl)
theorem Yfx {l:List Sexpr} {ps:List Param} (h:parM b l [] []=.ok ps):ps.length<=l.length:=by
 have:=Yfw h;simpa using this
theorem Yqu {v:Sexpr} {l:List Param} (hs:XSm v) (h:Yhw v=.ok l):l.length<=1000000:=by
 unfold Yhw at h;split at h
 ·have h1:v.kids.length<=1000000:=(Xe.1 hs).1;have:=Yfx h;omega
 cases h
theorem YkZ {α:Type} {S:α->Bs->Sexpr->Except Int α} {p:α->Prop}:∀ {l:List (Bs × Sexpr)} {a b:α},(∀ a w v b,(w,v)∈l->p a->S a w v=.ok b->p b)->p a->YfI S a l=.ok b->p b
 | [],a,b,_,ha,h=>by rw [YfI] at h;injection h with h;exact h ▸ ha
 | q::r,a,b,hS,ha,h=>by
  rw [YfI] at h;split at h
  ·cases h
  rename_i c hc;exact YkZ (fun a w v b hm=>hS a w v b (List.mem_cons_of_mem _ hm)) (hS a q.1 q.2 c (by simp) ha hc) h
theorem Yns {S:α->Bs->Sexpr->Except Int α} {p:α->Prop} {kw:List Bs} {a b:α} {x:Sexpr} (hs:XSm x) (hS:∀ a w v b,XSm v->p a->S a w v=.ok b->p b) (ha:p a) (h:finS S kw a x=.ok b):p b:=by
 unfold finS at h;split at h
 ·cases h
 rename_i c hc;split at h
 ·injection h with h
  subst h;exact YkZ (fun a w v b hm=>hS a w v b ((Xe.1 hs).2 _ (List.mem_of_mem_drop (Yi0 hm)))) ha hc
 cases h
theorem YdU:FSm XV:=WV.2 ⟨⟨by show 0<=_;omega,by show 0<=_;omega,by show 0<=_;omega⟩,fun e he=>(by cases he),fun k hk=>by cases hk⟩
theorem setA_sm {a b:Action} {w:Bs} {v:Sexpr} (hs:XSm v) (ha:actSm a) (h:setA a w v=.ok b):actSm b:=by
 obtain ⟨h1,h2,h3⟩:=ha;rw [Yo4] at h;split at h
 ·split at h
  ·cases h
  rename_i l hl;injection h with h;subst h
  exact ⟨Nat.le_trans (Yqu hs hl) Zh,h2,h3⟩
 split at h
 ·split at h
  ·cases h
  split at h
  ·cases h
  injection h with h;subst h;exact ⟨h1,h2,h3⟩
 split at h
 ·split at h
  ·cases h
  rename_i f hf;injection h with h;subst h
  exact ⟨h1,YcA hf,h3⟩
 split at h
 ·cases h
 rename_i l hl;injection h with h;subst h
 exact ⟨h1,h2,Yeo hl⟩
theorem actM_sm {x:Sexpr} {a:Action} (hs:XSm x) (h:actM x=.ok a):actSm a:=by
 unfold actM at h;split at h
 ·cases h
 exact Yns hs (fun a w v b hv ha hb=>setA_sm hv ha hb) ⟨by show 0<=_;omega,YdU,by show 0<=_;omega,by intro c hc;cases hc⟩ h
theorem setD_sm {a b:Durative} {w:Bs} {v:Sexpr} (hs:XSm v) (ha:durSm a) (h:setD a w v=.ok b):durSm b:=by
 obtain ⟨h1,h2,h3,h4,h5,h6⟩:=ha;rw [Yo3] at h;split at h
 ·split at h
  ·cases h
  rename_i l hl;injection h with h;subst h
  exact ⟨Nat.le_trans (Yqu hs hl) Zh,h2,h3,h4,h5,h6⟩
 split at h
 ·split at h
  ·cases h
  injection h with h;subst h;exact ⟨h1,h2,h3,h4,h5,h6⟩
 split at h
 ·split at h
  ·cases h
  rename_i f hf;injection h with h;subst h
  exact ⟨h1,YcA hf,h3,h4,h5,h6⟩
 split at h
 ·split at h
  ·cases h
  rename_i f hf;injection h with h;subst h
  exact ⟨h1,h2,YcA hf,h4,h5,h6⟩
 split at h
 ·split at h
  ·cases h
  rename_i f hf;injection h with h;subst h
  exact ⟨h1,h2,h3,YcA hf,h5,h6⟩
 split at h
 ·split at h
  ·cases h
  rename_i l hl;injection h with h;subst h
  exact ⟨h1,h2,h3,h4,Yeo hl,h6⟩
 split at h
 ·cases h
 rename_i l hl;injection h with h;subst h
 exact ⟨h1,h2,h3,h4,h5,Yeo hl⟩
theorem durM_sm {x:Sexpr} {a:Durative} (hs:XSm x) (h:durM x=.ok a):durSm a:=by
 unfold durM at h;split at h
 ·cases h
 exact Yns hs (fun a w v b hv ha hb=>setD_sm hv ha hb) ⟨by show 0<=_;omega,YdU,YdU,YdU,⟨by show 0<=_;omega,by intro c hc;cases hc⟩,by show 0<=_;omega,by intro c hc;cases hc⟩ h
structure DomT (k:Nat) (d:Domain):Prop where
 t:d.types.length<=1000000
 c:d.constants.length<=1000000
 p:d.predicates.length<=k*4096
 pp:∀ p∈d.predicates,p.params.length<=1000000
 f:d.functions.length<=k*4096
 fp:∀ p∈d.functions,p.params.length<=1000000
 a:d.actions.length<=k
 ac:∀ a∈d.actions,actSm a
 u:d.duratives.length<=k
 us:∀ a∈d.duratives,durSm a
theorem DomT.step {d':Domain} {w:Bs} {r:List Sexpr} {x:Sexpr} (h:DomT k d) (hs:XSm x) (hr:∀ y∈r,XSm y) (hl:r.length<=4096) (e:secB d w r x=.ok d'):DomT (k+1) d':=by
 have h1:k*4096+4096=(k+1)*4096:=(Nat.succ_mul _ _).symm;obtain ⟨t,c,p,pp,f,fp,a,ac,u,us⟩:=h;have cat:∀ {α:Type} {q:α->Prop} {l m:List α},(∀ x∈l,q x)->(∀ x∈m,q x)->∀ x∈l++m,q x:=fun h1 h2 x hx=>by
  rcases List.mem_append.1 hx with hx | hx
  ·exact h1 x hx
  exact h2 x hx
 unfold secB at e;split at e
 ·injection e with e;subst e;exact ⟨t,c,by omega,pp,by omega,fp,by omega,ac,by omega,us⟩
 split at e
 ·split at e
  ·cases e
  rename_i l hl2;have:=Yfx hl2;injection e with e;subst e;exact ⟨by show l.length<=_;omega,c,by show d.predicates.length<=_;omega,pp,by show d.functions.length<=_;omega,fp,by show d.actions.length<=_;omega,ac,by show d.duratives.length<=_;omega,us⟩
 split at e
 ·split at e
  ·cases e
  rename_i l hl2;have:=Yfx hl2;injection e with e;subst e;exact ⟨t,by show l.length<=_;omega,by show d.predicates.length<=_;omega,pp,by show d.functions.length<=_;omega,fp,by show d.actions.length<=_;omega,ac,by show d.duratives.length<=_;omega,us⟩
 split at e
 ·split at e
  ·cases e
  rename_i l hl2;obtain ⟨h2,h3⟩:=Yd2 hl2;injection e with e;subst e
  refine ⟨t,c,by show (d.predicates++l).length<=_;rw [List.length_append];omega,cat pp (fun y hy=>?_),by show d.functions.length<=_;omega,fp,by show d.actions.length<=_;omega,ac,by show d.duratives.length<=_;omega,us⟩;obtain ⟨z,h4,h5⟩:=h3 y hy;unfold YlQ at h5;split at h5
  ·cases h5
  rename_i w' r' hh;have:=WU (hr z h4) hh;split at h5
  ·split at h5
   ·cases h5
   rename_i l' hl';have:=Yfx hl';injection h5 with h5;subst h5
   show l'.length<=_;omega
  cases h5
 split at e
 ·split at e
  ·cases e
  rename_i l hl2;obtain ⟨h2,h3⟩:=Yd2 hl2;injection e with e;subst e
  refine ⟨t,c,by show d.predicates.length<=_;omega,pp,by show (d.functions++l).length<=_;rw [List.length_append];omega,cat fp (fun y hy=>?_),by show d.actions.length<=_;omega,ac,by show d.duratives.length<=_;omega,us⟩;obtain ⟨z,h4,h5⟩:=h3 y hy;unfold funM at h5;split at h5
  ·cases h5
  rename_i w' r' hh;have:=WU (hr z h4) hh;split at h5
  ·unfold funB at h5;split at h5
   ·split at h5
    ·split at h5
     ·cases h5
     rename_i l' hl';have:=Yfx hl';rw [List.length_take] at this;injection h5 with h5;subst h5
     show l'.length<=_;omega
    cases h5
   cases h5
  cases h5
 split at e
 ·split at e
  ·cases e
  rename_i y hy;injection e with e;subst e
  exact ⟨t,c,by show d.predicates.length<=_;omega,pp,by show d.functions.length<=_;omega,fp,by show (d.actions++ [y]).length<=_;rw [List.length_append];exact Nat.add_le_add_right a 1,cat ac (by intro z hz;simp at hz;subst hz;exact actM_sm hs hy),by show d.duratives.length<=_;omega,us⟩
 split at e
 ·split at e
  ·cases e
  rename_i y hy;injection e with e;subst e
  exact ⟨t,c,by show d.predicates.length<=_;omega,pp,by show d.functions.length<=_;omega,fp,by show d.actions.length<=_;omega,ac,by show (d.duratives++ [y]).length<=_;rw [List.length_append];exact Nat.add_le_add_right u 1,cat us (by intro z hz;simp at hz;subst hz;exact durM_sm hs hy)⟩
 cases e
theorem DomT.sm (h:DomT k d) (hk:k<=5000):DomSm d:=by
 obtain ⟨t,c,p,pp,f,fp,a,ac,u,us⟩:=h;have:k*4096<=5000*4096:=Nat.mul_le_mul_right _ hk;exact ⟨by omega,by omega,by omega,fun x hx=>Nat.le_trans (pp x hx) Zh,by omega,fun x hx=>Nat.le_trans (fp x hx) Zh,by omega,ac,by omega,us⟩
def YkK:List Bs:=[Ybz,XZ,XN,XY]
def secL:List Bs->Domain->List Sexpr->Except Int Domain
 | _,d,[]=>.ok d
 | s,d,x::r=>match XP x with
  | none=>.error 2
  | some (w,t)=>if w∈YkK/\w∈s then .error 4 else match secB d w t x with
   | .error c=>.error c
   | .ok d'=>secL (if w∈YkK then s++ [w] else s) d' r
def dPar (x:Sexpr):Except Int Domain:=match XP x with
 | none=>.error 2
 | some (w,r)=>if w=Xg then (match r with
  | []=>.error 2
  | y::r'=>match titM y with
   | .error c=>.error c
   | .ok nm=>secL [] ⟨nm,[],[],[],[],[],[]⟩ r') else .error 2
def Ydk (x:Sexpr):Except Int Domain:=if XVal x then (match dPar x with
 | .error c=>.error c
 | .ok d=>if Ycq d/\XVal (domX d) then .ok d else .error 5) else .error 2
def zeroD:Domain:=⟨⟨#[]⟩,[],[],[],[],[],[]⟩
theorem YaD:YfO.rep fz zeroD [Ze,Zn,Zn,Zn,Zn,Zn,Zn]:=YdP (x:=zeroD) ⟨Wc,IsSl.nil,IsSl.nil,IsSl.nil,IsSl.nil,IsSl.nil,IsSl.nil⟩
theorem DomS.new {nm:Bs} (h:Short nm):DomS fz g ⟨nm,[],[],[],[],[],[]⟩ [(g,Zu #[Zy nm,Zn,Zn,Zn,Zn,Zn,Zn] 28)]:=
 ⟨_,_,_,_,_,_,[],[],[],[],Zr _,h,IsSl.nil,IsSl.nil,Grow.nil _ _ _,Grow.nil _ _ _,Grow.nil _ _ _,Grow.nil _ _ _⟩
theorem DomS.mono (h:DomS fz g d H) (hle:Le fz fz'):DomS fz' g d H:=by
 obtain ⟨v1,v2,vp,vf,va,vd,Hp,Hf,Ha,Hd,hperm,hdn,ht1,ht2,hgp,hgf,hga,hgd⟩:=h;exact ⟨v1,v2,vp,vf,va,vd,Hp,Hf,Ha,Hd,hperm,hdn,ht1.mono hle,ht2.mono hle,hgp.mono hle,hgf.mono hle,hga.mono hle,hgd.mono hle⟩
theorem titM_err {x:Sexpr} {c:Int} (h:titM x=.error c):c≠0:=by
 unfold titM at h;split at h
 ·injection h with h;omega
 split at h
 ·split at h
  ·split at h
   ·cases h
   injection h with h;omega
  injection h with h;omega
 injection h with h;omega
theorem titM_ok {x:Sexpr} (h:titM x=.ok s) (hR:YT fz x vk):Short s:=by
 unfold titM at h;split at h
 ·cases h
 split at h
 ·split at h
  ·split at h
   ·rename_i hn;injection h with h
    subst h;have:=hn.2.2.1;unfold Short;omega
   cases h
  cases h
 cases h
theorem Yd8 {α:Type} {L:Lay α} {e:Nat} {fz fz':FZ} {v:Value} {Hs:HP} {l:List α} (hg:Grow L e fz v l.length Hs l) (hle:Le fz fz') (hf:∀ p∈Hs,fz' p.1=some p.2) (hn:l.length<=140737488355328):IsSl L fz' v l:=by
 obtain ⟨A1,c1,hv,h⟩:=hg.sl hle hf hn;exact ⟨_,_,_,hv,h⟩
theorem dParse_f {x:Sexpr} (hR:YT fz x vk):
 GFn prog 49 [.agg #[Zk x.kind,Zk x.value,Zk x.line,Zk x.column,Zy x.text,vk]] fz [] (fun r fz' H'=>H'=[]/\ResL YfO fz' (Ydk x) r):=by
 have hRx:=hR;have hbeg:=Ydh hR;obtain ⟨A,n,c,rfl,ik⟩:=hR.kids;have hl:=ik.len;have hM:Ydk x=if XVal x then (match dPar x with
 | .error c=>.error c
 | .ok d=>if Ycq d/\XVal (domX d) then .ok d else .error 5) else .error 2:=rfl
 have hP:dPar x=match XP x with
 | none=>.error 2
 | some (w,r)=>if w=Xg then (match r with
  | []=>.error 2
  | y::r'=>match titM y with
   | .error c=>.error c
   | .ok nm=>secL [] ⟨nm,[],[],[],[],[],[]⟩ r') else .error 2:=rfl
 refine zF Tryz.func49 Tryz.ntmps49 (fun w0=>?_);refine zW ?_;intros;refine zb (Yat hRx) (fun f1=>?_) (fun f1=>?_)
 ·have hv:=Zt f1;have hcx:=hv.2.2;have hsx:=hv.sm;rw [if_pos hv] at hM;have bad4:dPar x=.error 4->Ydk x=.error 4:=fun e=>by rw [hM,e]
  have bad:dPar x=.error 2->Ydk x=.error 2:=fun e=>by rw [hM,e]
  refine zW ?_;cases hh:XP x with
  | none=>
   rw [hh] at hbeg hP;refine zc hbeg ?_;refine zW ?_;exact YS T (vs:=[.agg #[Ze,Zn,Zn,Zn,Zn,Zn,Zn],.iface 89 (Zk 2)]) ⟨⟨_,_,0,_,_,_,rfl,rfl,rfl,rfl,rfl,rfl⟩,rfl,trivial⟩ (fun fz3 hle3 hf3=>⟨rfl,YA (bad hP) Zh YaD⟩)
  | some wr=>
   obtain ⟨w,r⟩:=wr;rw [hh] at hbeg hP;simp only at hP;obtain ⟨y0,hk,rfl,hk3,hk1⟩:=XW hh;have hk0:x.kids[0]?=some y0:=by rw [hk];rfl
   rw [hk,List.length_cons] at hl;have hcx2:=Xj x;rw [hk,xcountL] at hcx2;refine zc hbeg ?_;refine wI ik hk0 (fun p hp=>?_);refine wH hp.Sexpr_text (fun hst=>?_);refine wC ?_ ?_<;>intro c2
   ·rw [if_neg (show ¬y0.text=Xg from c2)] at hP;refine zW ?_;exact YS T (vs:=[.agg #[Ze,Zn,Zn,Zn,Zn,Zn,Zn],.iface 89 (Zk 2)]) ⟨⟨_,_,0,_,_,_,rfl,rfl,rfl,rfl,rfl,rfl⟩,rfl,trivial⟩ (fun fz3 hle3 hf3=>⟨rfl,YA (bad hP) Zh YaD⟩)
   rw [if_pos (show y0.text=Xg from c2)] at hP;refine wC ?_ ?_<;>intro c3
   ·have hr0:r=[]:=List.eq_nil_of_length_eq_zero Zi;rw [hr0] at hP;refine zW ?_;exact YS T (vs:=[.agg #[Ze,Zn,Zn,Zn,Zn,Zn,Zn],.iface 89 (Zk 2)]) ⟨⟨_,_,0,_,_,_,rfl,rfl,rfl,rfl,rfl,rfl⟩,rfl,trivial⟩ (fun fz3 hle3 hf3=>⟨rfl,YA (bad hP) Zh YaD⟩)
   obtain ⟨u,r',rfl⟩:∃ u r',r=u::r':=by
    cases r with
    | nil=>simp at hl;omega
    | cons u r'=>exact ⟨u,r',rfl⟩
   simp only at hP;have hu:x.kids[1]?=some u:=by rw [hk];rfl
   rw [xcountL] at hcx2;refine zW ?_;intros;refine zI ik hu (fun p2 hp2=>?_);refine zL hp2 ?_;intro cs hcs;obtain ⟨vu,rfl,hRu⟩:=Yf hcs;have htit:=title_q hRu;cases ht:titM u with
   | error c'=>
    rw [ht] at hP htit;have hc:=titM_err ht;refine zc htit ?_;unfold strV;refine zW ?_;exact YS T (vs:=[.agg #[Ze,Zn,Zn,Zn,Zn,Zn,Zn],.iface 89 (Zk c')]) ⟨⟨_,_,1,_,_,_,rfl,rfl,rfl,rfl,rfl,rfl⟩,rfl,trivial⟩ (fun fz3 hle3 hf3=>⟨rfl,YA (by rw [hM,hP]) hc YaD⟩)
   | ok nm=>
    rw [ht] at hP htit;have hnm:=titM_ok ht hRu;simp only at hP;refine zc htit ?_;unfold strV;refine zW ?_;refine Ya (Ybp (fun gm=>?_));refine wG ?_;refine Xy (j:=2) ik (fun A' hA'=>?_);rw [hk,List.drop_succ_cons,List.drop_succ_cons,List.drop_zero] at hA';have hrl:=hA'.len;have hrc:=Wt (l:=r');refine zW ?_;rename_i g1 g2 g4;refine Wp.perm (List.Perm.cons _ (List.Perm.swap _ _ _)) ?_;refine Yi (fun q σ fz' H'=>∃ (k:Nat) (d:Domain) (HD:HP) (ms:List (Bs × Value)) (seen:List Bs),k<=n - 2/\q=n - 2 - k/\σ=[(55,Zk k),(54,Zk (n - 2:Nat)),(53,Zc A' (n - 2) (c - 2)),(6,.map (some gm)),(4,Zp g4),(2,Zp g2)]/\Le fz fz'/\H'=(gm,mapS ms)::(g2,Zu #[Ze,Zn,Zn,Zn,Zn,Zn,Zn] 28)::HD/\DomS fz' g4 d HD/\Ydp ms seen/\DomT k d/\dPar x=secL seen d (r'.drop k)) ⟨0,_,_,[],[],Z0 _,rfl,rfl,Zd,rfl,DomS.new hnm,Ydp.nil,⟨by show 0<=_;omega,by show 0<=_;omega,by show 0<=_;omega,by simp,by show 0<=_;omega,by simp,by show 0<=_;omega,by simp,by show 0<=_;omega,by simp⟩,hP⟩ Zw Zb ?_;rintro q σ fz' H' ⟨k,d,HD,ms,seen,hkn,rfl,rfl,hle,rfl,hD,hS,hT,hF⟩;refine wC ?_ ?_<;>intro c4
    ·obtain ⟨z,hz⟩:=Ye (l:=r') (k:=k) Zi;have hzm:=Zm hz;have hcz:=Wg hzm;have hsz:XSm z:=(Xe.1 hsx).2 z (by rw [hk];simp [hzm]);rw [Ycn hz,secL] at hF;refine wI (hA'.mono hle) hz (fun p3 hp3=>?_);refine zL hp3 ?_;intro cs3 hcs3;obtain ⟨vz,rfl,hRz⟩:=Yf hcs3;have hRz':=hRz;have hbz:=Ydh hRz;obtain ⟨Az,nz,cz,rfl,iz⟩:=hRz.kids;refine zW ?_;intros;rename_i g8;cases hhz:XP z with
     | none=>
      rw [hhz] at hF hbz;refine zc hbz ?_;refine zW ?_;exact YS T (vs:=[.agg #[Ze,Zn,Zn,Zn,Zn,Zn,Zn],.iface 89 (Zk 2)]) ⟨⟨_,_,2,_,_,_,rfl,rfl,rfl,rfl,rfl,rfl⟩,rfl,trivial⟩ (fun fz3 hle3 hf3=>⟨rfl,YA (bad hF) Zh YaD⟩)
     | some wt=>
      obtain ⟨w,t⟩:=wt;rw [hhz] at hF hbz;simp only at hF;obtain ⟨y1,hk5,rfl,hk6,hk7⟩:=XW hhz;have hk8:z.kids[0]?=some y1:=by rw [hk5];rfl
      have htl:t.length<=4096:=by
       have h1:=Xj z;have h2:=Wt (l:=z.kids);rw [hk5,List.length_cons] at h2;rw [hk5] at h1;omega
      refine zc hbz ?_;refine zWX ?_;refine Yr ?_;refine zWX ?_;refine zI iz hk8 (fun p4 hp4=>?_);refine zWX ?_;refine zH hp4.Sexpr_text (fun hst4=>?_);refine zWX ?_;refine Yr (YY (fun σ fz5 H'=>∃ ms2:List (Bs × Value),σ=[(55,Zk k),(54,Zk (n - 2:Nat)),(53,Zc A' (n - 2) (c - 2)),(8,Zp g8),(6,.map (some gm)),(4,Zp g4),(2,Zp g2)]/\Le fz' fz5/\H'=(g8,Zu #[Zk z.kind,Zk z.value,Zk z.line,Zk z.column,Zy z.text,Zc Az nz cz] 86)::(gm,mapS ms2)::(g2,Zu #[Ze,Zn,Zn,Zn,Zn,Zn,Zn] 28)::HD/\Ydp ms2 (if y1.text∈YkK then seen++ [y1.text] else seen)/\¬(y1.text∈YkK/\y1.text∈seen)) ?_ ?_)
      ·refine zW ?_;refine Ya (Yb (cs:=[Zy Ybz,Zy XZ,Zy XN,Zy XY]) (fun gb=>?_))
       first | refine Wp.freeze Zz (fun fz2 hle2 hg2=>?_) | refine Seq.freeze Zz (fun fz2 hle2 hg2=>?_)
       have hkw:Sl strL fz2 (some ⟨gb,0,none⟩) 4 4 YkK:=Wb (ys:=[(Ybz,[Zy Ybz]),(XZ,[Zy XZ]),(XN,[Zy XN]),(XY,[Zy XY])]) hg2 rfl rfl (by intro p hp;simp only [List.mem_cons,List.not_mem_nil,_root_.or_false] at hp;rcases hp with rfl | rfl | rfl | rfl<;>exact ⟨rfl,by show _<=_;decide⟩) rfl Zh;refine wb (Yew (x:=y1.text) hkw) (fun f2=>?_) (fun f2=>?_)
       ·have hin:=Zt f2;refine wG ?_;refine Ybe 1 hS.get ?_;refine zW ?_;by_cases hm:y1.text∈seen
        ·rw [if_pos ⟨hin,hm⟩] at hF;rw [decide_eq_true hm];refine zW ?_;exact YS T (vs:=[.agg #[Ze,Zn,Zn,Zn,Zn,Zn,Zn],.iface 89 (Zk 4)]) ⟨⟨_,_,2,_,_,_,rfl,rfl,rfl,rfl,rfl,rfl⟩,rfl,trivial⟩ (fun fz3 hle3 hf3=>⟨rfl,YA (bad4 hF) Zh YaD⟩)
        rw [decide_eq_false hm];refine zW ?_;refine Yz (Wz (pre:=[_]) (Zr _) ?_);exact wN (h:=by exact ⟨_,rfl,hle2,rfl,by rw [if_pos hin];exact hS.add y1.text,fun h=>hm h.2⟩)
       have hin:=Zf f2;exact wN (h:=by exact ⟨ms,rfl,hle2,rfl,by rw [if_neg hin];exact hS,fun h=>hin h.1⟩)
      rintro σ fz5 H' ⟨ms2,rfl,hle5,rfl,hS2,hnd⟩;rw [if_neg hnd] at hF;refine zW ?_;refine Ya (Does.perm (Zq (l₁:=HD) (l₂:=[(g8,_),(gm,_),(g2,_)])) (Ym HD [(g8,_),(gm,_),(g2,_)] Zz (Yo6 hhz hsz (hD.mono hle5) (hRz'.mono hle5) (by have:=hT.p;have:k*4096<=4096*4096:=Nat.mul_le_mul_right _ Zi;omega) (by have:=hT.f;have:k*4096<=4096*4096:=Nat.mul_le_mul_right _ Zi;omega) (by have:=hT.a;omega) (by have:=hT.u;omega)) (fun v6 fz6 H6 hle6 hR6=>?_)));obtain ⟨_,hR6⟩:=hR6;cases hx:secB d y1.text t z with
      | error c'=>
       rw [hx] at hR6 hF;obtain ⟨rfl,hc,rfl⟩:=hR6;rw [Yg hc,List.nil_append];refine zW ?_;exact YS T (vs:=[.agg #[Ze,Zn,Zn,Zn,Zn,Zn,Zn],.iface 89 (Zk c')]) ⟨⟨_,_,2,_,_,_,rfl,rfl,rfl,rfl,rfl,rfl⟩,rfl,trivial⟩ (fun fz3 hle3 hf3=>⟨rfl,YA (by rw [hM,hF]) hc YaD⟩)
      | ok d2=>
       rw [hx] at hR6 hF;obtain ⟨rfl,hD6⟩:=hR6;refine Seq.perm (H':=[(g8,_),(gm,_),(g2,_)]++H6) Zq ?_;have hT2:=hT.step hsz (fun y hy=>Ww hsz hhz hy) htl hx;refine zW ?_;exact Wj (H':=(gm,_)::(g2,_)::H6) ⟨k+1,d2,H6,ms2,_,by omega,rfl,rfl,hle.trans (hle5.trans hle6),rfl,hD6,hS2,hT2,hF⟩ Zi Zw Zb
    rw [List.drop_eq_nil_of_le Zi,secL] at hF;have hsm:=hT.sm Zi;rw [hF] at hM;simp only at hM;obtain ⟨v1,v2,vp,vf,va,vd,Hp,Hf,Ha,Hd,hperm,hdn,ht1,ht2,hgp,hgf,hga,hgd⟩:=hD;refine Seq.freezeAll (H1:=[(gm,_),(g2,_),(g4,_)]) (H2:=Hp++(Hf++(Ha++Hd))) (List.Perm.cons _ (List.Perm.cons _ hperm)) (fun fz5 hle5 hf5=>?_);have hDR:DomainR fz5 d v1 v2 vp vf va vd:=⟨hdn,ht1.mono hle5,ht2.mono hle5,
     Yd8 hgp hle5 (fun p hp=>hf5 p (by simp [hp])) (by have:=hsm.predicates;omega),Yd8 hgf hle5 (fun p hp=>hf5 p (by simp [hp])) (by have:=hsm.functions;omega),
     Yd8 hga hle5 (fun p hp=>hf5 p (by simp [hp])) (by have:=hsm.actions;omega),Yd8 hgd hle5 (fun p hp=>hf5 p (by simp [hp])) (by have:=hsm.duratives;omega)⟩
    have hDR':=hDR;obtain ⟨⟨T1,t1,z1,rfl,_⟩,⟨T2,t2,z2,rfl,_⟩,⟨T3,t3,z3,rfl,_⟩,⟨T4,t4,z4,rfl,_⟩,⟨T5,t5,z5,rfl,_⟩,⟨T6,t6,z6,rfl,_⟩⟩:=hDR.sls;refine wK (q:=Yjz hDR' hsm) (h:=fun r6 fz6 H6 hle6 hR6=>?_);obtain ⟨rfl,u6,y6,rfl,⟨cs6,rfl,hr6⟩,hy6⟩:=hR6;obtain ⟨vk6,rfl,hX6⟩:=Yf hr6;obtain ⟨A6,n6,c6,rfl,_⟩:=hX6.kids;by_cases hOk:Ycq d/\XVal (domX d)
    ·rw [if_pos hOk] at hM ⊢;rw [show errV 0=.nilIface from rfl];refine zW ?_;intros;exact YS T (vs:=[ZD d (Zc T1 t1 z1) (Zc T2 t2 z2) (Zc T3 t3 z3) (Zc T4 t4 z4) (Zc T5 t5 z5) (Zc T6 t6 z6),.nilIface]) ⟨⟨_,_,2,_,_,_,rfl,rfl,rfl,rfl,rfl,rfl⟩,rfl,trivial⟩ (fun fz3 hle3 hf3=>⟨rfl,XQ hM (YdP (hDR'.mono (hle6.trans hle3)))⟩)
    rw [if_neg hOk] at hM ⊢;rw [Yg Zh];refine zW ?_;intros;exact YS T (vs:=[.agg #[Ze,Zn,Zn,Zn,Zn,Zn,Zn],.iface 89 (Zk 5)]) ⟨⟨_,_,2,_,_,_,rfl,rfl,rfl,rfl,rfl,rfl⟩,rfl,trivial⟩ (fun fz3 hle3 hf3=>⟨rfl,YA (hM) Zh YaD⟩)
 rw [if_neg (Zf f1)] at hM;refine zW ?_;exact YS T (vs:=[.agg #[Ze,Zn,Zn,Zn,Zn,Zn,Zn],.iface 89 (Zk 2)]) ⟨⟨_,_,0,_,_,_,rfl,rfl,rfl,rfl,rfl,rfl⟩,rfl,trivial⟩ (fun fz3 hle3 hf3=>⟨rfl,YA hM Zh YaD⟩)
def nmdM (want:Bs) (x:Sexpr):Except Int Bs:=match XP x with
 | none=>.error 2
 | some (w,r)=>match r with
  | [y]=>if w=want/\y.kind=1 then (if Xc y.text then .ok y.text else .error 8) else .error 2
  | _=>.error 2
theorem Ym8 {x:Sexpr} {c:Int} {want:Bs} (h:nmdM want x=.error c):c≠0:=by
 unfold nmdM at h;split at h
 ·injection h with h;omega
 split at h
 ·split at h
  ·split at h
   ·cases h
   injection h with h;omega
  injection h with h;omega
 injection h with h;omega
theorem YpB {x:Sexpr} {want:Bs} (h:nmdM want x=.ok s):Short s:=by
 unfold nmdM at h;split at h
 ·cases h
 split at h
 ·split at h
  ·split at h
   ·rename_i hn;injection h with h
    subst h;have:=hn.2.2.1;unfold Short;omega
   cases h
  cases h
 cases h
theorem YpD {x:Sexpr} {want:Bs} (h:YT fz x vk):QFn prog 185 [.agg #[Zk x.kind,Zk x.value,Zk x.line,Zk x.column,Zy x.text,vk],Zy want] fz (strV (nmdM want x)):=by
 have hM:nmdM want x=match XP x with
 | none=>.error 2
 | some (w,r)=>match r with
  | [y]=>if w=want/\y.kind=1 then (if Xc y.text then .ok y.text else .error 8) else .error 2
  | _=>.error 2:=rfl
 have hRx:=h;obtain ⟨A,n,c,rfl,ik⟩:=h.kids;refine qF Tryz.func185 Tryz.ntmps185 (fun w0=>?_);refine zW ?_;intros;refine wK (q:=YgV hRx) (h:=fun r1 fz1 H1 hle1 hR1=>?_);obtain ⟨rfl,rfl,hR1⟩:=hR1;unfold YeB at hR1;cases hh:XP x with
 | none=>
  rw [hh] at hM hR1;subst hR1;rw [hM];exact wS (h:=rfl)
 | some wr=>
  obtain ⟨w,r⟩:=wr;rw [hh] at hM hR1;obtain ⟨A',n',c',rfl,ir,hw⟩:=hR1;simp only at hM;have hrl:=ir.len;refine wC ?_ ?_<;>intro c2
  ·have hM2:nmdM want x=.error 2:=by
    rw [hM];split
    ·rw [if_neg (fun h=>c2 h.1)]
    rfl
   rw [hM2];exact wS (h:=rfl)
  refine wC ?_ ?_<;>intro c3
  ·have hM2:nmdM want x=.error 2:=by
    rw [hM];split
    ·simp at hrl;omega
    rfl
   rw [hM2];exact wS (h:=rfl)
  obtain ⟨y,rfl⟩:∃ y,r=[y]:=by
   have h3:r.length=1:=by omega
   match r,h3 with
   | [y],_=>exact ⟨y,rfl⟩
  simp only at hM;have hy: [y][0]?=some y:=rfl;refine wI ir hy (fun p hp=>?_);refine wG ?_;refine Xz T Zz Zz Zz hp.Sexpr_kind (fun i1=>?_);refine zC ?_ ?_<;>intro c4
  ·rw [if_neg (fun h=>c4 h.2)] at hM;rw [hM];exact wS (h:=rfl)
  rw [if_pos ⟨c2,c4⟩] at hM;refine wI ir hy (fun p2 hp2=>?_);refine wH hp2.Sexpr_text (fun hst=>?_);refine wb (WN hst) (fun f1=>?_) (fun f1=>?_)
  ·rw [if_pos (Zt f1)] at hM;rw [hM];refine wI ir hy (fun p3 hp3=>?_);refine wH hp3.Sexpr_text (fun hst3=>?_);exact wS (h:=rfl)
  rw [if_neg (Zf f1)] at hM;rw [hM];exact wS (h:=rfl)
def Ygj:List Sexpr->Except Int (List Bs)
 | []=>.ok []
 | x::r=>if x.kind≠1 then .error 2 else if ¬Xc x.text then .error 8 else exA [x.text] (Ygj r)
def patM (w:Bs) (r:List Sexpr):Except Int Atom:=if Xc w then (match Ygj r with
 | .error c=>.error c
 | .ok a=>.ok ⟨w,a⟩) else .error 8
def zeroAt:Atom:=⟨⟨#[]⟩,[]⟩
theorem Yfd:atomL.rep fz zeroAt [Ze,Zn]:=YbQ (x:=zeroAt) ⟨Wc,IsSl.nil⟩
theorem YnH:∀ {l:List Sexpr} {a:List Bs},Ygj l=.ok a->a.length=l.length
 | [],a,h=>by rw [Ygj] at h;injection h with h;subst h;rfl
 | x::r,a,h=>by
  rw [Ygj] at h;split at h
  ·cases h
  split at h
  ·cases h
  obtain ⟨b,h1,rfl⟩:=Yk6 h;rw [List.length_append,YnH h1,List.length_cons,List.length_cons,List.length_nil];omega
theorem Ypp {c:Nat} {r:List Sexpr} {w:Bs} (hw:Short w) (h:Sl YE fz A n c r) (hn:n<=1000000):
 GFn prog 288 [Zy w,Zc A n c] fz [] (fun v fz' H'=>H'=[]/\ResL atomL fz' (patM w r) v):=by
 have hM:patM w r=if Xc w then (match Ygj r with
 | .error c=>.error c
 | .ok a=>.ok ⟨w,a⟩) else .error 8:=rfl
 have hl:=h.len;refine zF Tryz.func288 Tryz.ntmps288 (fun w0=>?_);refine zW ?_;intros;refine zb (WN hw) (fun f1=>?_) (fun f1=>?_)
 ·rw [if_pos (Zt f1)] at hM;refine zW ?_;intros;rename_i g4 g6;refine Yi (fun q σ fz' H'=>∃ (k:Nat) (v:Value) (Hs:HP) (out:List Bs),k<=n/\q=n - k/\σ=[(18,Zk k),(17,Zk n),(16,Zc A n c),(6,Zp g6),(4,Zp g4)]/\fz=fz'/\H'=(g6,Zu #[Zy w,v] 77)::(g4,Zu #[Ze,Zn] 77)::Hs/\Grow strL 9 fz v k Hs out/\Ygj r=exA out (Ygj (r.drop k))) ⟨0,_,[],[],Z0 _,rfl,rfl,rfl,rfl,Grow.nil _ _ _,by rw [YdL];rfl⟩ Zw Zb ?_;rintro q σ fz' H' ⟨k,v,Hs,out,hk,rfl,rfl,rfl,rfl,hG,hT⟩;obtain ⟨Av,cv,rfl,_,_⟩:=hG.form;refine wC ?_ ?_<;>intro c1
  ·obtain ⟨z,hz⟩:=Ye (l:=r) (k:=k) Zi;rw [Ycn hz,Ygj] at hT;refine wI h hz (fun p2 hp2=>?_);refine zL hp2 ?_;intro cs hcs;obtain ⟨vz,rfl,hRz⟩:=Yf hcs;obtain ⟨Az,nz,cz,rfl,iz⟩:=hRz.kids;refine zW ?_;intros;rename_i g8;refine zC ?_ ?_<;>intro c2
   ·rw [if_pos c2] at hT;rw [show Ygj r=.error 2 from hT] at hM;refine zW ?_;exact YS T (vs:=[.agg #[Ze,Zn],.iface 89 (Zk 2)]) ⟨⟨_,_,2,_,_,_,rfl,rfl,rfl,rfl,rfl,rfl⟩,rfl,trivial⟩ (fun fz3 hle3 hf3=>⟨rfl,YA hM Zh Yfd⟩)
   rw [if_neg (Classical.not_not.2 c2)] at hT;refine wb (WN hRz.text) (fun f2=>?_) (fun f2=>?_)
   ·rw [if_neg (Classical.not_not.2 (Zt f2)),Yhn] at hT;refine zW ?_;refine Ya (Yb (cs:=[Zy z.text]) (fun gb=>?_));refine Ya (YN (d:=z.text) (cs:=[Zy z.text]) (Hr:=[(gb,_),(g8,_),(g6,_),(g4,_)]) (Zr _) hG YdW (.head _) ⟨rfl,hRz.text⟩ (fun v' Hs' hG'=>?_));obtain ⟨Av',cv',rfl,_,_⟩:=hG'.form;refine zW ?_;exact Wj (H':=(g6,_)::(g4,_)::Hs') ⟨k+1,_,Hs',out++ [z.text],by omega,rfl,rfl,rfl,rfl,hG',hT⟩ Zi Zw Zb
   rw [if_pos (Zf f2)] at hT;rw [show Ygj r=.error 8 from hT] at hM;refine zW ?_;exact YS T (vs:=[.agg #[Ze,Zn],.iface 89 (Zk 8)]) ⟨⟨_,_,2,_,_,_,rfl,rfl,rfl,rfl,rfl,rfl⟩,rfl,trivial⟩ (fun fz3 hle3 hf3=>⟨rfl,YA hM Zh Yfd⟩)
  rw [List.drop_eq_nil_of_le Zi,Ygj,exA,List.append_nil] at hT;rw [hT] at hM;refine zW ?_;refine YS T (vs:=[.agg #[Zy w,Zc Av k cv],.nilIface]) ⟨⟨_,_,1,_,_,_,rfl,rfl,rfl,rfl,rfl,rfl⟩,rfl,trivial⟩ (fun fz3 hle3 hf3=>⟨rfl,XQ hM (YbQ (x:=⟨w,out⟩) ⟨hw,?_⟩)⟩);obtain ⟨A1,c1',hv1,hS1⟩:=hG.sl hle3 (fun p hp=>hf3 p (List.mem_cons_of_mem _ (List.mem_cons_of_mem _ hp))) Zi;exact ⟨_,_,_,hv1,hS1⟩
 rw [if_neg (Zf f1)] at hM;refine zW ?_;exact YS T (vs:=[.agg #[Ze,Zn],.iface 89 (Zk 8)]) ⟨⟨_,_,0,_,_,_,rfl,rfl,rfl,rfl,rfl,rfl⟩,rfl,trivial⟩ (fun fz3 hle3 hf3=>⟨rfl,YA hM Zh Yfd⟩)
theorem at_one:OneC atomL:=by
 intro fz d cs h u hu;obtain ⟨v1,rfl,hR⟩:=XA h;obtain ⟨A1,n1,c1,rfl,_⟩:=hR.args;simp at hu;rcases hu with rfl | rfl<;>rfl
theorem val_one:OneC valueL:=by
 intro fz d cs h u hu;obtain ⟨v1,rfl,hR⟩:=Yam h;obtain ⟨A1,n1,c1,rfl,_⟩:=hR.fluent.args;simp at hu;rcases hu with rfl | rfl | rfl<;>rfl
def PrbS (fz:FZ) (g:Nat) (p:Problem) (H:HP):Prop:=
 ∃ vo vi vv a1 a2 a3 a4 Hi Hv,H.Perm ((g,Zu #[Zy p.name,Zy p.domain,vo,vi,vv,Zy p.goal.op,Zy p.goal.name,a1,a2,a3,a4] 37)::(Hi++Hv))/\Short p.name/\Short p.domain/\IsSl paramL fz vo p.objects/\
  Grow atomL 77 fz vi p.init.length Hi p.init/\Grow valueL 80 fz vv p.values.length Hv p.values/\FormulaR fz p.goal a1 a2 a3 a4
def ElmR (g:Nat) (m:Except Int Problem) (v:Value) (fz:FZ) (H:HP):Prop:=match m with
 | .error c=>v=errV c/\c≠0/\∃ p,PrbS fz g p H/\p.init.length<=200000000/\p.values.length<=200000000
 | .ok p=>v=.nilIface/\PrbS fz g p H
theorem Ybi {m:Except Int Problem} {c:Int} {p:Problem} (h:m=.error c) (hc:c≠0) (hp:PrbS fz g p H) (b1:p.init.length<=200000000) (b2:p.values.length<=200000000):ElmR g m (.iface 89 (Zk c)) fz H:=by rw [h];exact ⟨(Yg hc).symm,hc,p,hp,b1,b2⟩
def elmB (p:Problem) (w:Bs) (r:List Sexpr):Except Int Problem:=if w=kEq then (match r with
 | [y,z]=>if z.kind=2 then (match XP y with
  | none=>.error 2
  | some (nm,l)=>match patM nm l with
   | .error c=>.error c
   | .ok a=>.ok {p with values:=p.values++ [⟨a,z.value⟩]}) else .error 2
 | _=>.error 2) else (match patM w r with
 | .error c=>.error c
 | .ok a=>.ok {p with init:=p.init++ [a]})
def elmM (p:Problem) (x:Sexpr):Except Int Problem:=match XP x with
 | none=>.error 2
 | some (w,r)=>elmB p w r
theorem Yqn {p:Problem} {x:Sexpr} (hs:XSm x) (hD:PrbS fz g p H) (hR:YT fz x vk) (b1:p.init.length<=100000000) (b2:p.values.length<=100000000):
 GFn prog 247 [Zp g,.agg #[Zk x.kind,Zk x.value,Zk x.line,Zk x.column,Zy x.text,vk]] fz H (fun v fz' H'=>Le fz fz'/\ElmR g (elmM p x) v fz' H'):=by
 obtain ⟨vo,vi,vv,a1,a2,a3,a4,Hi,Hv,hperm,hn1,hn2,ho,hgi,hgv,hgo⟩:=hD;have hRx:=hR;obtain ⟨A,n,c,rfl,ik⟩:=hR.kids;have hl:=ik.len;obtain ⟨Xi,xi,rfl,_,_⟩:=hgi.form;obtain ⟨Xv,xv,rfl,_,_⟩:=hgv.form;generalize hM:elmM p x=M;unfold elmM at hM;have keep:∀ fz',Le fz fz'->PrbS fz' g p ((g,Zu #[Zy p.name,Zy p.domain,vo,Zc Xi p.init.length xi,Zc Xv p.values.length xv,Zy p.goal.op,Zy p.goal.name,a1,a2,a3,a4] 37)::(Hi++Hv)):=fun fz' hle=>⟨vo,_,_,a1,a2,a3,a4,Hi,Hv,Zr _,hn1,hn2,ho.mono hle,hgi.mono hle,hgv.mono hle,hgo.mono hle⟩
 refine zF Tryz.func247 Tryz.ntmps247 (fun w0=>?_);refine Wp.perm hperm.symm ?_;refine zW ?_;intros;rename_i g3;refine wK (q:=YgV hRx) (h:=fun r1 fz1 H1 hle1 hR1=>?_);obtain ⟨rfl,rfl,hR1⟩:=hR1;unfold YeB at hR1;rw [List.nil_append];cases hh:XP x with
 | none=>
  rw [hh] at hM hR1;subst hR1;subst hM;refine zW ?_;exact ret1 (H':=(g,_)::(Hi++Hv)) rfl rfl Zb ⟨Zd,Ybi rfl Zh (keep _ Zd) Zi Zi⟩
 | some wr=>
  obtain ⟨w,r⟩:=wr;rw [hh] at hM hR1;obtain ⟨A',n',c',rfl,ir,hw⟩:=hR1;simp only at hM;unfold elmB at hM;have hrl:=ir.len;have hrs:=WU hs hh;refine wC ?_ ?_<;>intro c2
  ·rw [if_neg (show ¬w=kEq from c2)] at hM;refine wK (q:=Ypp hw ir Zi) (h:=fun r5 fz5 H5 hle5 hR5=>?_);obtain ⟨rfl,y,cs5,hy5,hR5⟩:=hR5;rw [List.nil_append];obtain ⟨x1,rfl,hY⟩:=XA hy5;obtain ⟨E1,e1,q1,rfl,_⟩:=hY.args;cases hx:patM w r with
   | error c=>
    rw [hx] at hM hR5;obtain ⟨rfl,hc⟩:=hR5;subst hM;rw [Yg hc];refine zW ?_;intros;exact ret1 (H':=(g,_)::(Hi++Hv)) rfl rfl Zb ⟨hle5,Ybi rfl hc (keep _ hle5) Zi Zi⟩
   | ok y2=>
    rw [hx] at hM hR5;obtain ⟨rfl,rfl⟩:=hR5;subst hM;have hG:=hgi.mono hle5;refine zWN ?_;intros;rename_i g8;refine Wp.perm (List.Perm.cons _ (List.Perm.cons _ (List.Perm.cons _ (Zq (l₁:=Hv) (l₂:=Hi))))) ?_;refine WP [8,9] [_,_,_] ?_;refine zW ?_;refine Yn (Yn ?_);refine PK.p Zz (fun fz'=>by first | exact XC rfl | exact YU Zz rfl | exact Yt rfl | exact W4 Zz Zz (YQ Zi) rfl | exact Yw rfl) ?_;refine PK.p Zz (fun fz'=>by first | exact XC rfl | exact YU Zz rfl | exact Yt rfl | exact W4 Zz Zz (YQ Zi) rfl | exact Yw rfl) ?_;refine pT ?_;refine Yh ?_;refine Yd (Yb (cs:=[Zy y2.name,Zc E1 e1 q1]) (fun gb=>⟨⟨Zd,Zx⟩,?_⟩));refine Yh ?_;refine Yd (YN (d:=y2) (cs:=[Zy y2.name,Zc E1 e1 q1]) (Hr:=(gb,_)::(g8,_)::(g3,_)::(g,_)::Hv) (Zr _) hG at_one (.head _) hy5 (fun v' Hs' hG'=>⟨⟨Zd,Zx⟩,?_⟩));obtain ⟨Av',cv',rfl,_,_⟩:=hG'.form;refine Yh ?_;refine PoS.hard0 (WS ?_);refine Po.done ?_;refine zW ?_;have hlen:=hG'.len;rw [<- hlen] at hG' ⊢;exact ret1 (H':=(g,_)::(Hv++Hs')) rfl rfl Zb ⟨hle5,rfl,vo,_,_,a1,a2,a3,a4,Hs',Hv,List.Perm.cons _ Zq,hn1,hn2,ho.mono hle5,hG',hgv.mono hle5,hgo.mono hle5⟩
  rw [if_pos (show w=kEq from c2)] at hM;refine wC ?_ ?_<;>intro c3
  ·have hM2:M=.error 2:=by
    rw [<- hM];split
    ·simp at hrl;omega
    rfl
   refine zW ?_;exact ret1 (H':=(g,_)::(Hi++Hv)) rfl rfl Zb ⟨Zd,Ybi hM2 Zh (keep _ Zd) Zi Zi⟩
  obtain ⟨y,z,rfl⟩:∃ y z,r=[y,z]:=by
   have h3:r.length=2:=by omega
   match r,h3 with
   | [y,z],_=>exact ⟨y,z,rfl⟩
  simp only at hM;have hy: [y,z][0]?=some y:=rfl;have hz: [y,z][1]?=some z:=rfl;have hsy:=Ww hs hh (y:=y) (by simp);refine wI ir hz (fun p1 hp1=>?_);refine wG ?_;refine Xz T Zz Zz Zz hp1.Sexpr_kind (fun i1=>?_);refine zC ?_ ?_<;>intro c4
  ·rw [if_neg c4] at hM;refine zW ?_;exact ret1 (H':=(g,_)::(Hi++Hv)) rfl rfl Zb ⟨Zd,Ybi hM.symm Zh (keep _ Zd) Zi Zi⟩
  rw [if_pos c4] at hM;refine wI ir hy (fun p2 hp2=>?_);refine zL hp2 ?_;intro cs2 hcs2;obtain ⟨vy,rfl,hRy⟩:=Yf hcs2;refine wK (q:=YgV hRy) (h:=fun r6 fz6 H6 hle6 hR6=>?_);obtain ⟨rfl,rfl,hR6⟩:=hR6;unfold YeB at hR6;rw [List.nil_append];cases hhy:XP y with
  | none=>
   rw [hhy] at hM hR6;subst hR6;refine zW ?_;exact ret1 (H':=(g,_)::(Hi++Hv)) rfl rfl Zb ⟨Zd,Ybi hM.symm Zh (keep _ Zd) Zi Zi⟩
  | some nl=>
   obtain ⟨nm,l⟩:=nl;rw [hhy] at hM hR6;obtain ⟨A7,n7,c7,rfl,il,hnm⟩:=hR6;simp only at hM;have hll:=il.len;have hls:=WU hsy hhy;refine wK (q:=Ypp hnm il Zi) (h:=fun r5 fz5 H5 hle5 hR5=>?_);obtain ⟨rfl,y2,cs5,hy5,hR5⟩:=hR5;rw [List.nil_append];obtain ⟨x1,rfl,hY⟩:=XA hy5;have hY':=hY;obtain ⟨E1,e1,q1,rfl,_⟩:=hY.args;cases hx:patM nm l with
   | error c=>
    rw [hx] at hM hR5;obtain ⟨rfl,hc⟩:=hR5;rw [Yg hc];refine zW ?_;intros;exact ret1 (H':=(g,_)::(Hi++Hv)) rfl rfl Zb ⟨hle5,Ybi hM.symm hc (keep _ hle5) Zi Zi⟩
   | ok y3=>
    rw [hx] at hM hR5;obtain ⟨rfl,rfl⟩:=hR5;subst hM;have hG:=hgv.mono hle5;refine zWN ?_;intros;rename_i g12;refine WP [13,14] [_,_,_] ?_;refine wI (ir.mono hle5) hz (fun p8 hp8=>?_);refine wG ?_;refine Xz T Zz Zz Zz hp8.Sexpr_value (fun i8=>?_);refine zW ?_;refine Yn (Yn ?_);refine PK.p Zz (fun fz'=>by first | exact XC rfl | exact YU Zz rfl | exact Yt rfl | exact W4 Zz Zz (YQ Zi) rfl | exact Yw rfl) ?_;refine PK.p Zz (fun fz'=>by first | exact XC rfl | exact YU Zz rfl | exact Yt rfl | exact W4 Zz Zz (YQ Zi) rfl | exact Yw rfl) ?_;refine pT ?_;refine Yh ?_;refine Yd (Yb (cs:=[Zy y3.name,Zc E1 e1 q1,Zk z.value]) (fun gb=>⟨⟨Zd,Zx⟩,?_⟩));refine Yh ?_;refine Yd (YN (d:=⟨y3,z.value⟩) (cs:=[Zy y3.name,Zc E1 e1 q1,Zk z.value]) (Hr:=(gb,_)::(g12,_)::(g3,_)::(g,_)::Hi) (Zr _) hG val_one (.head _) (YgE (x:=⟨y3,z.value⟩) ⟨hY',i8⟩) (fun v' Hs' hG'=>⟨⟨Zd,Zx⟩,?_⟩));obtain ⟨Av',cv',rfl,_,_⟩:=hG'.form;refine Yh ?_;refine PoS.hard0 (WS ?_);refine Po.done ?_;refine zW ?_;have hlen:=hG'.len;rw [<- hlen] at hG' ⊢;exact ret1 (H':=(g,_)::(Hi++Hs')) rfl rfl Zb ⟨hle5,rfl,vo,_,_,a1,a2,a3,a4,Hi,Hs',Zr _,hn1,hn2,ho.mono hle5,hgi.mono hle5,hG',hgo.mono hle5⟩
def YkY {α:Type} (S:α->Sexpr->Except Int α):α->List Sexpr->Except Int α
 | a,[]=>.ok a
 | a,x::r=>match S a x with
  | .error c=>.error c
  | .ok b=>YkY S b r
def YlM (p:Problem) (w:Bs) (r:List Sexpr):Except Int Problem:=
 if w=Wu then (match parM false r [] [] with | .error c=>.error c | .ok l=>.ok {p with objects:=l})
 else if w=YdI then YkY elmM p r
 else match r with
  | [y]=>(match YaF y with | .error c=>.error c | .ok f=>.ok {p with goal:=f})
  | _=>.error 2
theorem Yqm {p p':Problem} {x:Sexpr} (h:elmM p x=.ok p'):p'.init.length<=p.init.length+1/\p'.values.length<=p.values.length+1:=by
 unfold elmM at h;split at h
 ·cases h
 unfold elmB at h;split at h
 ·split at h
  ·split at h
   ·split at h
    ·cases h
    split at h
    ·cases h
    injection h with h;subst h;exact ⟨Nat.le_succ _,by show (p.values++_).length<=_;rw [List.length_append];exact Zs _⟩
   cases h
  cases h
 split at h
 ·cases h
 injection h with h;subst h;exact ⟨by show (p.init++_).length<=_;rw [List.length_append];exact Zs _,Nat.le_succ _⟩
theorem Yn0 {p:Problem} {c:Nat} {r:List Sexpr} {w:Bs} (hs:∀ y∈r,XSm y) (hD:PrbS fz g p H) (ir:Sl YE fz A n c r) (hn:n<=1000000) (b1:p.init.length+n<=100000000) (b2:p.values.length+n<=100000000):
 GFn prog 186 [Zp g,Zy w,Zc A n c] fz H (fun v fz' H'=>Le fz fz'/\ElmR g (YlM p w r) v fz' H'):=by
 generalize hM:YlM p w r=M;unfold YlM at hM;have hrl:=ir.len;refine zF Tryz.func186 Tryz.ntmps186 (fun w0=>?_);refine wC ?_ ?_<;>intro c1
 ·rw [if_pos (show w=Wu from c1)] at hM;obtain ⟨vo,vi,vv,a1,a2,a3,a4,Hi,Hv,hperm,hn1,hn2,ho,hgi,hgv,hgo⟩:=hD;refine Seq.perm hperm.symm ?_;refine wK (q:=Ybn (b:=false) ir) (h:=fun r5 fz5 H5 hle5 hR5=>?_);obtain ⟨rfl,hR5⟩:=hR5;rw [List.nil_append];cases hps:parM false r [] [] with
  | error c=>
   rw [hps] at hM hR5;obtain ⟨rfl,hc⟩:=hR5;rw [Yg hc];refine zW ?_;exact ret1 (H':=(g,_)::(Hi++Hv)) rfl rfl Zb ⟨hle5,Ybi (p:={p with objects:=[]}) hM.symm hc ⟨_,vi,vv,a1,a2,a3,a4,Hi,Hv,Zr _,hn1,hn2,IsSl.nil,hgi.mono hle5,hgv.mono hle5,hgo.mono hle5⟩ (by show p.init.length<=_;omega) (by show p.values.length<=_;omega)⟩
  | ok l=>
   rw [hps] at hM hR5;obtain ⟨A5,n5,c5,rfl,il⟩:=hR5;subst hM;refine zW ?_;exact ret1 (H':=(g,_)::(Hi++Hv)) rfl rfl Zb ⟨hle5,rfl,_,vi,vv,a1,a2,a3,a4,Hi,Hv,Zr _,hn1,hn2,⟨_,_,_,rfl,il⟩,hgi.mono hle5,hgv.mono hle5,hgo.mono hle5⟩
 rw [if_neg (show ¬w=Wu from c1)] at hM;refine wC ?_ ?_<;>intro c2
 ·rw [if_pos (show w=YdI from c2)] at hM;refine zW ?_;refine Yi (fun q σ fz' H'=>∃ (k:Nat) (p2:Problem),k<=n/\q=n - k/\σ=[(40,Zk k),(39,Zk n),(38,Zc A n c),(7,.nilIface),(0,Zp g)]/\Le fz fz'/\PrbS fz' g p2 H'/\p2.init.length<=p.init.length+k/\p2.values.length<=p.values.length+k/\M=YkY elmM p2 (r.drop k)) ⟨0,p,Z0 _,rfl,rfl,Zd,hD,Zs _,Zs _,hM.symm⟩ Zw (List.Sublist.refl _) ?_;rintro q σ fz' H' ⟨k,p2,hk,rfl,rfl,hle,hD2,hl1,hl2,hF⟩;refine wC ?_ ?_<;>intro c3
  ·obtain ⟨z,hz⟩:=Ye (l:=r) (k:=k) Zi;have hsz:=hs z (Zm hz);rw [Ycn hz,YkY] at hF;refine wI (ir.mono hle) hz (fun p1 hp1=>?_);refine zL hp1 ?_;intro cs hcs;obtain ⟨vz,rfl,hRz⟩:=Yf hcs;have hRz':=hRz;obtain ⟨Az,nz,cz,rfl,iz⟩:=hRz.kids;refine zW ?_;intros;rename_i g9;refine Ya (Does.perm (Zq (l₁:=H') (l₂:=[(g9,_)])) (Ym H' [(g9,_)] Zz (Yqn hsz hD2 hRz' Zi Zi) (fun v6 fz6 H6 hle6 hR6=>?_)));obtain ⟨_,hR6⟩:=hR6;refine Seq.perm (H':=[(g9,_)]++H6) Zq ?_;cases hx:elmM p2 z with
   | error c'=>
    rw [hx] at hR6 hF;obtain ⟨rfl,hc,p3,hp3,hb3,hb4⟩:=hR6;rw [Yg hc];refine zW ?_;exact ret1 (H':=H6) rfl rfl (List.Sublist.cons _ (List.Sublist.refl _)) ⟨hle.trans hle6,Ybi hF hc hp3 hb3 hb4⟩
   | ok d2=>
    rw [hx] at hR6 hF;obtain ⟨rfl,hD6⟩:=hR6;have hel:=Yqm hx;refine zW ?_;exact Wj (H':=H6) ⟨k+1,d2,by omega,rfl,rfl,hle.trans hle6,hD6,by omega,by omega,hF⟩ Zi Zw (List.Sublist.cons _ (List.Sublist.refl _))
  rw [List.drop_eq_nil_of_le Zi,YkY] at hF;refine zW ?_;exact ret1 (H':=H') rfl rfl (List.Sublist.refl _) ⟨hle,by rw [hF];exact ⟨rfl,hD2⟩⟩
 rw [if_neg (show ¬w=YdI from c2)] at hM;refine wC ?_ ?_<;>intro c3
 ·have hM2:M=.error 2:=by
   rw [<- hM];split
   ·simp at hrl;omega
   rfl
  refine zW ?_;exact ret1 (H':=H) rfl rfl (List.Sublist.refl _) ⟨Zd,Ybi hM2 Zh hD Zi Zi⟩
 obtain ⟨y,rfl⟩:∃ y,r=[y]:=by
  have h3:r.length=1:=by omega
  match r,h3 with
  | [y],_=>exact ⟨y,rfl⟩
 simp only at hM;have hy: [y][0]?=some y:=rfl;obtain ⟨vo,vi,vv,a1,a2,a3,a4,Hi,Hv,hperm,hn1,hn2,ho,hgi,hgv,hgo⟩:=hD;refine Seq.perm hperm.symm ?_;refine wI ir hy (fun p1 hp1=>?_);refine zL hp1 ?_;intro cs hcs;obtain ⟨vy,rfl,hRy⟩:=Yf hcs;refine wK (q:=Yd4 hRy) (h:=fun r5 fz5 H5 hle5 hR5=>?_);obtain ⟨rfl,f5,cs5,hr5,hR5⟩:=hR5;rw [List.nil_append];obtain ⟨y1,y2,y3,y4,rfl,hE5⟩:=Yv hr5;have hE6:=hE5;obtain ⟨⟨B1,m1,d1,rfl,_⟩,⟨B2,m2,d2,rfl,_⟩,⟨B3,m3,d3,rfl,_⟩,⟨B4,m4,d4,rfl,_⟩⟩:=hE5.sls;cases hx:YaF y with
 | error c=>
  rw [hx] at hM hR5;obtain ⟨rfl,hc⟩:=hR5;rw [Yg hc];refine zW ?_;exact ret1 (H':=(g,_)::(Hi++Hv)) rfl rfl Zb ⟨hle5,Ybi (p:={p with goal:=f5}) hM.symm hc ⟨_,vi,vv,_,_,_,_,Hi,Hv,Zr _,hn1,hn2,ho.mono hle5,hgi.mono hle5,hgv.mono hle5,hE6⟩ (by show p.init.length<=_;omega) (by show p.values.length<=_;omega)⟩
 | ok f=>
  rw [hx] at hM hR5;obtain ⟨rfl,rfl⟩:=hR5;subst hM;refine zW ?_;exact ret1 (H':=(g,_)::(Hi++Hv)) rfl rfl Zb ⟨hle5,rfl,_,vi,vv,_,_,_,_,Hi,Hv,Zr _,hn1,hn2,ho.mono hle5,hgi.mono hle5,hgv.mono hle5,hE6⟩
end Go.Proofs.YtiligkgjcmokbaaGreatDoor
