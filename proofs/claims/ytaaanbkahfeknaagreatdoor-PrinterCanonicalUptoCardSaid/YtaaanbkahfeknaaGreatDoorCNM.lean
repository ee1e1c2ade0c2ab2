/- The texts NY, PNum, QNum, Rcm, QLw, NZ, NI, NK, YS, YT, laid together. Conditions: none. -/
import Derived.Test.YtaaanbkahfeknaaGreatDoorCNL
set_option linter.all false
set_option maxHeartbeats 16000000
set_option maxRecDepth 20000
open Go.Lx Go.RowKit
attribute [local instance 10] Classical.propDecidable
open Go.Proofs.Tryz (prog)
namespace Go.Proofs.YtaaanbkahfeknaaGreatDoor
variable {d:Domain} {fz:FZ} {v1 v2 v3 v4 v5 v6:Value}
theorem rcanon_f (hD:DomainR fz d v1 v2 v3 v4 v5 v6) (s1:d.types.length<=1000000) (s2:d.constants.length<=1000000) (s3:d.predicates.length<=1000000) (s4:d.functions.length<=1000000) (s5:d.actions.length<=1000000) (s6:d.duratives.length<=1000000):
 GFn prog 8 [ZD d v1 v2 v3 v4 v5 v6] fz [] (fun r fz' H'=>H'=[]/\∃ u1 u2 u3 u4 u5 u6,r=ZD d u1 u2 u3 u4 u5 u6/\DomainR fz' (canD d) u1 u2 u3 u4 u5 u6):=by
 obtain ⟨⟨A1,n1,c1,rfl,i1⟩,⟨A2,n2,c2,rfl,i2⟩,⟨A3,n3,c3,rfl,i3⟩,⟨A4,n4,c4,rfl,i4⟩,⟨A5,n5,c5,rfl,i5⟩,⟨A6,n6,c6,rfl,i6⟩⟩:=hD.sls;have l1:=i1.len;have l2:=i2.len;have l3:=i3.len;have l4:=i4.len;have l5:=i5.len;have l6:=i6.len;subst l1 l2 l3 l4 l5 l6;refine zF Tryz.func8 Tryz.ntmps8 (fun w0=>?_);refine pX (fun g1=>?_);refine Yc (YV (fun g2=>?_));refine zWX ?_;intros;refine Yy (Xu (fun σ fz' H'=>∃ (g3:Nat) (B1 B2:Option Addr) (b1 b2:Nat),σ=[(3,Zp g3),(2,Zp g2),(1,Zp g1)]/\Le fz fz'/\H'=[(g3,Zu #[Zy d.name,Zc B1 d.types.length b1,Zc B2 d.constants.length b2,Zn,Zn,Zn,Zn] 28),(g2,Zu #[Ze,Zn,Zn,Zn,Zn,Zn,Zn] 28),(g1,Zu #[Zy d.name,Zc A1 d.types.length c1,Zc A2 d.constants.length c2,Zc A3 d.predicates.length c3,Zc A4 d.functions.length c4,Zc A5 d.actions.length c5,Zc A6 d.duratives.length c6] 28)]/\Sl paramL fz' B1 d.types.length b1 (srtC (byC Param.name) d.types)/\Sl paramL fz' B2 d.constants.length b2 (srtC (byC Param.name) d.constants)) ?_ ?_)
 ·refine zWN ?_;intros;refine Wi [] [_,_] ?_;refine zW ?_;intros;refine Ya6 ?_;refine zW ?_;intros;refine pT ?_
  repeat' first
   | refine Po.done ?_
   | (refine Yp ?_)
   | (refine Ycl ?_ ?_)
   | (refine YH (i:=4) (Ym [] _ Zz (Ydi i1 s1) (fun v6 fz6 H6 hle6 hR6=>⟨⟨hle6,Zkx⟩,?_⟩));obtain ⟨rfl,B1,b1,rfl,j1⟩:=hR6)
   | (refine YH (i:=7) (Ym [] _ Zz (Ydi (i2.mono hle6) s2) (fun v7 fz7 H7 hle7 hR7=>⟨⟨hle6.trans hle7,Zkx⟩,?_⟩));obtain ⟨rfl,B2,b2,rfl,j2⟩:=hR7)
   | refine PoS.qk ⟨hle6.trans hle7,Zkx⟩ (Yak ?_)
   | refine YH (i:=9) (YV (fun g3=>⟨⟨Zd,Zkx⟩,?_⟩))
   | refine YH (i:=9) (YV (fun g3=>⟨⟨hle6,Zkx⟩,?_⟩))
   | refine YH (i:=9) (YV (fun g3=>⟨⟨hle6.trans hle7,Zkx⟩,?_⟩))
   | refine PoS.hard0 (YG ?_)
  all_goals
   exact midN ⟨g3,_,_,_,_,rfl,hle6.trans hle7,rfl,j1.mono hle7,j2⟩ Zw (List.Sublist.refl _)
 rintro σ fz0 H' ⟨g3,B1,B2,b1,b2,rfl,hz,rfl,j1,j2⟩;refine zW ?_;intros;have i_:=i3.mono hz;refine Yd (fun q σ fz' H'=>∃ (k:Nat) (v:Value) (Hq:HP),k<=d.predicates.length/\q=d.predicates.length - k/\σ=[(5,Zk k),(4,v),(3,Zp g3),(2,Zp g2),(1,Zp g1)]/\fz0=fz'/\H'=(g3,Zu #[Zy d.name,Zc B1 d.types.length b1,Zc B2 d.constants.length b2,Zn,Zn,Zn,Zn] 28)::(g2,Zu #[Ze,Zn,Zn,Zn,Zn,Zn,Zn] 28)::(g1,Zu #[Zy d.name,Zc A1 d.types.length c1,Zc A2 d.constants.length c2,Zc A3 d.predicates.length c3,Zc A4 d.functions.length c4,Zc A5 d.actions.length c5,Zc A6 d.duratives.length c6] 28)::Hq/\Grow strL 9 fz' v k Hq ((d.predicates.take k).map Predicate.name)) ⟨0,_,[],Z0 _,rfl,rfl,rfl,rfl,Grow.nil _ _ _⟩ Zw Zb ?_;rintro q σ fz' H' ⟨k,v,Hq,hk,rfl,rfl,rfl,rfl,hG⟩;obtain ⟨B,b,rfl,_,_⟩:=hG.form;refine zW ?_;intros;refine zC ?_ ?_<;>intro cq
 ·obtain ⟨x,hx⟩:=Yq (l:=d.predicates) (k:=k) Zi;refine zW ?_;intros;refine zI i_ hx (fun p1 hp1=>?_);refine zW ?_;intros;refine zH hp1.Predicate_name (fun hxs=>?_);refine zW ?_;intros;refine Yc (Yv (cs:=[Zy x.name]) (fun gb=>?_));refine Yc (Y3 (L:=strL) (Hr:=[_,_,_,_]) (d:=x.name) (Zr _) hG Yb0 (.head _) ⟨rfl,hxs⟩ (fun v5 H5 hO5=>?_));obtain ⟨Aq,cq5,rfl,_,_⟩:=hO5.form;refine zW ?_;intros;exact YJ ⟨k+1,_,H5,by omega,rfl,rfl,rfl,rfl,hO5.of (by rw [List.take_add_one,hx,List.map_append];rfl) rfl⟩ Zi Zw ((List.Sublist.refl _).cons _)
 obtain rfl:k=d.predicates.length:=by omega
 rw [Zl (Zs _)] at hG;refine zW ?_;intros;refine Seq.freezeAll (H1:=[_,_,_]) (H2:=Hq) (Zr _) (fun fz1 hle1 hf1=>?_);obtain ⟨B',b',e1,hS⟩:=hG.sl hle1 hf1 Zi;injection e1 with e11 e12 e13
 subst e11;subst e13;refine Yc (Ym [] [_,_,_] Zz (Ydp hS s3) (fun v4 fz4 H4 hle4 hR4=>?_));obtain ⟨rfl,E,e,rfl,hI⟩:=hR4;have lI:=hI.len;have i_:=i_.mono (hle1.trans hle4);refine zW ?_;intros;refine Yd (fun q σ fz' H'=>∃ (k:Nat) (v:Value) (Hq:HP),k<=d.predicates.length/\q=d.predicates.length - k/\σ=[(7,Zk k),(6,Zc E d.predicates.length e),(3,Zp g3),(2,Zp g2),(1,Zp g1)]/\fz4=fz'/\H'=(g3,Zu #[Zy d.name,Zc B1 d.types.length b1,Zc B2 d.constants.length b2,v,Zn,Zn,Zn] 28)::(g2,Zu #[Ze,Zn,Zn,Zn,Zn,Zn,Zn] 28)::(g1,Zu #[Zy d.name,Zc A1 d.types.length c1,Zc A2 d.constants.length c2,Zc A3 d.predicates.length c3,Zc A4 d.functions.length c4,Zc A5 d.actions.length c5,Zc A6 d.duratives.length c6] 28)::Hq/\Grow predicateL 59 fz' v k Hq ((srtC (byC Predicate.name) d.predicates).take k)) ⟨0,_,[],Z0 _,rfl,rfl,rfl,rfl,Grow.nil _ _ _⟩ Zw Zb ?_;rintro q σ fz' H' ⟨k,v,Hq,hk,rfl,rfl,rfl,rfl,hG⟩;obtain ⟨B3,b3,rfl,_,_⟩:=hG.form;refine zW ?_;intros;refine zC ?_ ?_<;>intro cq
 ·obtain ⟨z,hz⟩:=Yq (l:=srtC (byI (d.predicates.map Predicate.name)) (Xr d.predicates.length)) (k:=k) Zi;obtain ⟨m,x,rfl,hx,hsx⟩:=Ydo hz;refine zWN ?_;intros;refine Yab [_,_,_] ?_;refine zW ?_;intros;refine zI hI hz (fun p1 hp1=>?_)
  ((refine zG ?_);refine XL T Zz Zz Zz hp1 (fun iz=>?_));refine zW ?_;intros;refine zI i_ hx (fun p2 hp2=>?_);refine zL hp2 ?_;intro cs hcs;obtain ⟨X0,x0,y0,rfl,hR⟩:=Wx hcs;refine zW ?_;intros;refine Yu (Yu ?_);refine zW ?_;intros;refine pU ?_;refine Yt (Yv (cs:=[Zy x.name,Zc X0 x0 y0]) (fun gb=>⟨⟨Zd,Zx⟩,?_⟩));refine Yt (Y3 (Hr:=[_,_,_,_]) (d:=x) (Zr _) hG YW (.head _) (Ya1 hR) (fun v10 H10 hO10=>⟨⟨Zd,Zx⟩,?_⟩));obtain ⟨A10,c10,rfl,_,_⟩:=hO10.form;refine Ch.hard0 (Xd ?_);refine Ch.done ?_;refine zW ?_;intros;exact YJ ⟨k+1,_,H10,by omega,rfl,rfl,rfl,rfl,hO10.of (by rw [List.take_add_one,hsx];rfl) rfl⟩ Zi Zw ((List.Sublist.refl _).cons _)
 obtain rfl:k=d.predicates.length:=by omega
 rw [Zl (by rw [Xb];exact Zs _)] at hG;refine zW ?_;intros
 first
  | refine Wp.freezeAll (H1:=[_,_,_]) (H2:=Hq) (Zr _) (fun fz10 hle9 hf9=>?_)
  | refine Seq.freezeAll (H1:=[_,_,_]) (H2:=Hq) (Zr _) (fun fz10 hle9 hf9=>?_)
 obtain ⟨B',b',e9,j3⟩:=hG.sl hle9 hf9 Zi;injection e9 with e91 e92 e93
 subst e91;subst e93;have hz':=hle1.trans (hle4.trans hle9);have j1:=j1.mono hz';have j2:=j2.mono hz';have hz:=hz.trans hz';clear hz' hle1 hle4 hle9 hf1 hf9 hG hS hI e12 e92 lI i_;refine zW ?_;intros;have i_:=i4.mono hz;refine Yd (fun q σ fz' H'=>∃ (k:Nat) (v:Value) (Hq:HP),k<=d.functions.length/\q=d.functions.length - k/\σ=[(8,Zk k),(4,v),(3,Zp g3),(2,Zp g2),(1,Zp g1)]/\fz10=fz'/\H'=(g3,Zu #[Zy d.name,Zc B1 d.types.length b1,Zc B2 d.constants.length b2,Zc B3 d.predicates.length b3,Zn,Zn,Zn] 28)::(g2,Zu #[Ze,Zn,Zn,Zn,Zn,Zn,Zn] 28)::(g1,Zu #[Zy d.name,Zc A1 d.types.length c1,Zc A2 d.constants.length c2,Zc A3 d.predicates.length c3,Zc A4 d.functions.length c4,Zc A5 d.actions.length c5,Zc A6 d.duratives.length c6] 28)::Hq/\Grow strL 9 fz' v k Hq ((d.functions.take k).map Function.name)) ⟨0,_,[],Z0 _,rfl,rfl,rfl,rfl,Grow.nil _ _ _⟩ Zw Zb ?_;rintro q σ fz' H' ⟨k,v,Hq,hk,rfl,rfl,rfl,rfl,hG⟩;obtain ⟨B,b,rfl,_,_⟩:=hG.form;refine zW ?_;intros;refine zC ?_ ?_<;>intro cq
 ·obtain ⟨x,hx⟩:=Yq (l:=d.functions) (k:=k) Zi;refine zW ?_;intros;refine zI i_ hx (fun p1 hp1=>?_);refine zW ?_;intros;refine zH hp1.Function_name (fun hxs=>?_);refine zW ?_;intros;refine Yc (Yv (cs:=[Zy x.name]) (fun gb=>?_));refine Yc (Y3 (L:=strL) (Hr:=[_,_,_,_]) (d:=x.name) (Zr _) hG Yb0 (.head _) ⟨rfl,hxs⟩ (fun v5 H5 hO5=>?_));obtain ⟨Aq,cq5,rfl,_,_⟩:=hO5.form;refine zW ?_;intros;exact YJ ⟨k+1,_,H5,by omega,rfl,rfl,rfl,rfl,hO5.of (by rw [List.take_add_one,hx,List.map_append];rfl) rfl⟩ Zi Zw ((List.Sublist.refl _).cons _)
 obtain rfl:k=d.functions.length:=by omega
 rw [Zl (Zs _)] at hG;refine zW ?_;intros;refine Seq.freezeAll (H1:=[_,_,_]) (H2:=Hq) (Zr _) (fun fz1 hle1 hf1=>?_);obtain ⟨B',b',e1,hS⟩:=hG.sl hle1 hf1 Zi;injection e1 with e11 e12 e13
 subst e11;subst e13;refine Yc (Ym [] [_,_,_] Zz (Ydp hS s4) (fun v4 fz4 H4 hle4 hR4=>?_));obtain ⟨rfl,E,e,rfl,hI⟩:=hR4;have lI:=hI.len;have i_:=i_.mono (hle1.trans hle4);refine zW ?_;intros;refine Yd (fun q σ fz' H'=>∃ (k:Nat) (v:Value) (Hq:HP),k<=d.functions.length/\q=d.functions.length - k/\σ=[(9,Zk k),(6,Zc E d.functions.length e),(3,Zp g3),(2,Zp g2),(1,Zp g1)]/\fz4=fz'/\H'=(g3,Zu #[Zy d.name,Zc B1 d.types.length b1,Zc B2 d.constants.length b2,Zc B3 d.predicates.length b3,v,Zn,Zn] 28)::(g2,Zu #[Ze,Zn,Zn,Zn,Zn,Zn,Zn] 28)::(g1,Zu #[Zy d.name,Zc A1 d.types.length c1,Zc A2 d.constants.length c2,Zc A3 d.predicates.length c3,Zc A4 d.functions.length c4,Zc A5 d.actions.length c5,Zc A6 d.duratives.length c6] 28)::Hq/\Grow functionL 61 fz' v k Hq ((srtC (byC Function.name) d.functions).take k)) ⟨0,_,[],Z0 _,rfl,rfl,rfl,rfl,Grow.nil _ _ _⟩ Zw Zb ?_;rintro q σ fz' H' ⟨k,v,Hq,hk,rfl,rfl,rfl,rfl,hG⟩;obtain ⟨B4,b4,rfl,_,_⟩:=hG.form;refine zW ?_;intros;refine zC ?_ ?_<;>intro cq
 ·obtain ⟨z,hz⟩:=Yq (l:=srtC (byI (d.functions.map Function.name)) (Xr d.functions.length)) (k:=k) Zi;obtain ⟨m,x,rfl,hx,hsx⟩:=Ydo hz;refine zWN ?_;intros;refine Yab [_,_,_] ?_;refine zW ?_;intros;refine zI hI hz (fun p1 hp1=>?_)
  ((refine zG ?_);refine XL T Zz Zz Zz hp1 (fun iz=>?_));refine zW ?_;intros;refine zI i_ hx (fun p2 hp2=>?_);refine zL hp2 ?_;intro cs hcs;obtain ⟨X0,x0,y0,rfl,hR⟩:=WP hcs;refine zW ?_;intros;refine Yu (Yu ?_);refine zW ?_;intros;refine pU ?_;refine Yt (Yv (cs:=[Zy x.name,Zc X0 x0 y0,Zk x.lo,Zk x.hi]) (fun gb=>⟨⟨Zd,Zx⟩,?_⟩));refine Yt (Y3 (Hr:=[_,_,_,_]) (d:=x) (Zr _) hG Y6 (.head _) (Ybk hR) (fun v10 H10 hO10=>⟨⟨Zd,Zx⟩,?_⟩));obtain ⟨A10,c10,rfl,_,_⟩:=hO10.form;refine Ch.hard0 (Xd ?_);refine Ch.done ?_;refine zW ?_;intros;exact YJ ⟨k+1,_,H10,by omega,rfl,rfl,rfl,rfl,hO10.of (by rw [List.take_add_one,hsx];rfl) rfl⟩ Zi Zw ((List.Sublist.refl _).cons _)
 obtain rfl:k=d.functions.length:=by omega
 rw [Zl (by rw [Xb];exact Zs _)] at hG;refine zW ?_;intros
 first
  | refine Wp.freezeAll (H1:=[_,_,_]) (H2:=Hq) (Zr _) (fun fz20 hle9 hf9=>?_)
  | refine Seq.freezeAll (H1:=[_,_,_]) (H2:=Hq) (Zr _) (fun fz20 hle9 hf9=>?_)
 obtain ⟨B',b',e9,j4⟩:=hG.sl hle9 hf9 Zi;injection e9 with e91 e92 e93
 subst e91;subst e93;have hz':=hle1.trans (hle4.trans hle9);have j1:=j1.mono hz';have j2:=j2.mono hz';have j3:=j3.mono hz';have hz:=hz.trans hz';clear hz' hle1 hle4 hle9 hf1 hf9 hG hS hI e12 e92 lI i_;refine zW ?_;intros;have i_:=i5.mono hz;refine Yd (fun q σ fz' H'=>∃ (k:Nat) (v:Value) (Hq:HP),k<=d.actions.length/\q=d.actions.length - k/\σ=[(10,Zk k),(4,v),(3,Zp g3),(2,Zp g2),(1,Zp g1)]/\fz20=fz'/\H'=(g3,Zu #[Zy d.name,Zc B1 d.types.length b1,Zc B2 d.constants.length b2,Zc B3 d.predicates.length b3,Zc B4 d.functions.length b4,Zn,Zn] 28)::(g2,Zu #[Ze,Zn,Zn,Zn,Zn,Zn,Zn] 28)::(g1,Zu #[Zy d.name,Zc A1 d.types.length c1,Zc A2 d.constants.length c2,Zc A3 d.predicates.length c3,Zc A4 d.functions.length c4,Zc A5 d.actions.length c5,Zc A6 d.duratives.length c6] 28)::Hq/\Grow strL 9 fz' v k Hq ((d.actions.take k).map Action.name)) ⟨0,_,[],Z0 _,rfl,rfl,rfl,rfl,Grow.nil _ _ _⟩ Zw Zb ?_;rintro q σ fz' H' ⟨k,v,Hq,hk,rfl,rfl,rfl,rfl,hG⟩;obtain ⟨B,b,rfl,_,_⟩:=hG.form;refine zW ?_;intros;refine zC ?_ ?_<;>intro cq
 ·obtain ⟨x,hx⟩:=Yq (l:=d.actions) (k:=k) Zi;refine zW ?_;intros;refine zI i_ hx (fun p1 hp1=>?_);refine zW ?_;intros;refine zH hp1.Action_name (fun hxs=>?_);refine zW ?_;intros;refine Yc (Yv (cs:=[Zy x.name]) (fun gb=>?_));refine Yc (Y3 (L:=strL) (Hr:=[_,_,_,_]) (d:=x.name) (Zr _) hG Yb0 (.head _) ⟨rfl,hxs⟩ (fun v5 H5 hO5=>?_));obtain ⟨Aq,cq5,rfl,_,_⟩:=hO5.form;refine zW ?_;intros;exact YJ ⟨k+1,_,H5,by omega,rfl,rfl,rfl,rfl,hO5.of (by rw [List.take_add_one,hx,List.map_append];rfl) rfl⟩ Zi Zw ((List.Sublist.refl _).cons _)
 obtain rfl:k=d.actions.length:=by omega
 rw [Zl (Zs _)] at hG;refine zW ?_;intros;refine Seq.freezeAll (H1:=[_,_,_]) (H2:=Hq) (Zr _) (fun fz1 hle1 hf1=>?_);obtain ⟨B',b',e1,hS⟩:=hG.sl hle1 hf1 Zi;injection e1 with e11 e12 e13
 subst e11;subst e13;refine Yc (Ym [] [_,_,_] Zz (Ydp hS s5) (fun v4 fz4 H4 hle4 hR4=>?_));obtain ⟨rfl,E,e,rfl,hI⟩:=hR4;have lI:=hI.len;have i_:=i_.mono (hle1.trans hle4);refine zW ?_;intros;refine Yd (fun q σ fz' H'=>∃ (k:Nat) (v:Value) (Hq:HP),k<=d.actions.length/\q=d.actions.length - k/\σ=[(11,Zk k),(6,Zc E d.actions.length e),(3,Zp g3),(2,Zp g2),(1,Zp g1)]/\fz4=fz'/\H'=(g3,Zu #[Zy d.name,Zc B1 d.types.length b1,Zc B2 d.constants.length b2,Zc B3 d.predicates.length b3,Zc B4 d.functions.length b4,v,Zn] 28)::(g2,Zu #[Ze,Zn,Zn,Zn,Zn,Zn,Zn] 28)::(g1,Zu #[Zy d.name,Zc A1 d.types.length c1,Zc A2 d.constants.length c2,Zc A3 d.predicates.length c3,Zc A4 d.functions.length c4,Zc A5 d.actions.length c5,Zc A6 d.duratives.length c6] 28)::Hq/\Grow actionL 47 fz' v k Hq ((srtC (byC Action.name) d.actions).take k)) ⟨0,_,[],Z0 _,rfl,rfl,rfl,rfl,Grow.nil _ _ _⟩ Zw Zb ?_;rintro q σ fz' H' ⟨k,v,Hq,hk,rfl,rfl,rfl,rfl,hG⟩;obtain ⟨B5,b5,rfl,_,_⟩:=hG.form;refine zW ?_;intros;refine zC ?_ ?_<;>intro cq
 ·obtain ⟨z,hz⟩:=Yq (l:=srtC (byI (d.actions.map Action.name)) (Xr d.actions.length)) (k:=k) Zi;obtain ⟨m,x,rfl,hx,hsx⟩:=Ydo hz;refine zWN ?_;intros;refine Yab [_,_,_] ?_;refine zW ?_;intros;refine zI hI hz (fun p1 hp1=>?_)
  ((refine zG ?_);refine XL T Zz Zz Zz hp1 (fun iz=>?_));refine zW ?_;intros;refine zI i_ hx (fun p2 hp2=>?_);refine zL hp2 ?_;intro cs hcs;obtain ⟨X0,x0,y0,X1,x1,y1,X2,x2,y2,X3,x3,y3,X4,x4,y4,X5,x5,y5,rfl,hR⟩:=YaP hcs;refine zW ?_;intros;refine Yu (Yu ?_);refine zW ?_;intros;refine pU ?_;refine Yt (Yv (cs:=[Zy x.name,Zc X0 x0 y0,Zk x.cost,Zy x.pre.op,Zy x.pre.name,Zc X1 x1 y1,Zc X2 x2 y2,Zc X3 x3 y3,Zc X4 x4 y4,Zc X5 x5 y5]) (fun gb=>⟨⟨Zd,Zx⟩,?_⟩));refine Yt (Y3 (Hr:=[_,_,_,_]) (d:=x) (Zr _) hG Xw (.head _) (YcE hR) (fun v10 H10 hO10=>⟨⟨Zd,Zx⟩,?_⟩));obtain ⟨A10,c10,rfl,_,_⟩:=hO10.form;refine Ch.hard0 (Xd ?_);refine Ch.done ?_;refine zW ?_;intros;exact YJ ⟨k+1,_,H10,by omega,rfl,rfl,rfl,rfl,hO10.of (by rw [List.take_add_one,hsx];rfl) rfl⟩ Zi Zw ((List.Sublist.refl _).cons _)
 obtain rfl:k=d.actions.length:=by omega
 rw [Zl (by rw [Xb];exact Zs _)] at hG;refine zW ?_;intros
 first
  | refine Wp.freezeAll (H1:=[_,_,_]) (H2:=Hq) (Zr _) (fun fz30 hle9 hf9=>?_)
  | refine Seq.freezeAll (H1:=[_,_,_]) (H2:=Hq) (Zr _) (fun fz30 hle9 hf9=>?_)
 obtain ⟨B',b',e9,j5⟩:=hG.sl hle9 hf9 Zi;injection e9 with e91 e92 e93
 subst e91;subst e93;have hz':=hle1.trans (hle4.trans hle9);have j1:=j1.mono hz';have j2:=j2.mono hz';have j3:=j3.mono hz';have j4:=j4.mono hz';have hz:=hz.trans hz';clear hz' hle1 hle4 hle9 hf1 hf9 hG hS hI e12 e92 lI i_;refine zW ?_;intros;have i_:=i6.mono hz;refine Yd (fun q σ fz' H'=>∃ (k:Nat) (v:Value) (Hq:HP),k<=d.duratives.length/\q=d.duratives.length - k/\σ=[(12,Zk k),(4,v),(3,Zp g3),(2,Zp g2),(1,Zp g1)]/\fz30=fz'/\H'=(g3,Zu #[Zy d.name,Zc B1 d.types.length b1,Zc B2 d.constants.length b2,Zc B3 d.predicates.length b3,Zc B4 d.functions.length b4,Zc B5 d.actions.length b5,Zn] 28)::(g2,Zu #[Ze,Zn,Zn,Zn,Zn,Zn,Zn] 28)::(g1,Zu #[Zy d.name,Zc A1 d.types.length c1,Zc A2 d.constants.length c2,Zc A3 d.predicates.length c3,Zc A4 d.functions.length c4,Zc A5 d.actions.length c5,Zc A6 d.duratives.length c6] 28)::Hq/\Grow strL 9 fz' v k Hq ((d.duratives.take k).map Durative.name)) ⟨0,_,[],Z0 _,rfl,rfl,rfl,rfl,Grow.nil _ _ _⟩ Zw Zb ?_;rintro q σ fz' H' ⟨k,v,Hq,hk,rfl,rfl,rfl,rfl,hG⟩;obtain ⟨B,b,rfl,_,_⟩:=hG.form;refine zW ?_;intros;refine zC ?_ ?_<;>intro cq
 ·obtain ⟨x,hx⟩:=Yq (l:=d.duratives) (k:=k) Zi;refine zW ?_;intros;refine zI i_ hx (fun p1 hp1=>?_);refine zW ?_;intros;refine zH hp1.Durative_name (fun hxs=>?_);refine zW ?_;intros;refine Yc (Yv (cs:=[Zy x.name]) (fun gb=>?_));refine Yc (Y3 (L:=strL) (Hr:=[_,_,_,_]) (d:=x.name) (Zr _) hG Yb0 (.head _) ⟨rfl,hxs⟩ (fun v5 H5 hO5=>?_));obtain ⟨Aq,cq5,rfl,_,_⟩:=hO5.form;refine zW ?_;intros;exact YJ ⟨k+1,_,H5,by omega,rfl,rfl,rfl,rfl,hO5.of (by rw [List.take_add_one,hx,List.map_append];rfl) rfl⟩ Zi Zw ((List.Sublist.refl _).cons _)
 obtain rfl:k=d.duratives.length:=by omega
 rw [Zl (Zs _)] at hG;refine zW ?_;intros;refine Seq.freezeAll (H1:=[_,_,_]) (H2:=Hq) (Zr _) (fun fz1 hle1 hf1=>?_);obtain ⟨B',b',e1,hS⟩:=hG.sl hle1 hf1 Zi;injection e1 with e11 e12 e13
 subst e11;subst e13;refine Yc (Ym [] [_,_,_] Zz (Ydp hS s6) (fun v4 fz4 H4 hle4 hR4=>?_));obtain ⟨rfl,E,e,rfl,hI⟩:=hR4;have lI:=hI.len;have i_:=i_.mono (hle1.trans hle4);refine zW ?_;intros;refine Yd (fun q σ fz' H'=>∃ (k:Nat) (v:Value) (Hq:HP),k<=d.duratives.length/\q=d.duratives.length - k/\σ=[(13,Zk k),(6,Zc E d.duratives.length e),(3,Zp g3),(2,Zp g2),(1,Zp g1)]/\fz4=fz'/\H'=(g3,Zu #[Zy d.name,Zc B1 d.types.length b1,Zc B2 d.constants.length b2,Zc B3 d.predicates.length b3,Zc B4 d.functions.length b4,Zc B5 d.actions.length b5,v] 28)::(g2,Zu #[Ze,Zn,Zn,Zn,Zn,Zn,Zn] 28)::(g1,Zu #[Zy d.name,Zc A1 d.types.length c1,Zc A2 d.constants.length c2,Zc A3 d.predicates.length c3,Zc A4 d.functions.length c4,Zc A5 d.actions.length c5,Zc A6 d.duratives.length c6] 28)::Hq/\Grow durativeL 50 fz' v k Hq ((srtC (byC Durative.name) d.duratives).take k)) ⟨0,_,[],Z0 _,rfl,rfl,rfl,rfl,Grow.nil _ _ _⟩ Zw Zb ?_;rintro q σ fz' H' ⟨k,v,Hq,hk,rfl,rfl,rfl,rfl,hG⟩;obtain ⟨B6,b6,rfl,_,_⟩:=hG.form;refine zW ?_;intros;refine zC ?_ ?_<;>intro cq
 ·obtain ⟨z,hz⟩:=Yq (l:=srtC (byI (d.duratives.map Durative.name)) (Xr d.duratives.length)) (k:=k) Zi;obtain ⟨m,x,rfl,hx,hsx⟩:=Ydo hz;refine zWN ?_;intros;refine Yab [_,_,_] ?_;refine zW ?_;intros;refine zI hI hz (fun p1 hp1=>?_)
  ((refine zG ?_);refine XL T Zz Zz Zz hp1 (fun iz=>?_));refine zW ?_;intros;refine zI i_ hx (fun p2 hp2=>?_);refine zL hp2 ?_;intro cs hcs;obtain ⟨X0,x0,y0,X1,x1,y1,X2,x2,y2,X3,x3,y3,X4,x4,y4,X5,x5,y5,X6,x6,y6,X7,x7,y7,X8,x8,y8,X9,x9,y9,X10,x10,y10,X11,x11,y11,X12,x12,y12,X13,x13,y13,X14,x14,y14,rfl,hR⟩:=WT hcs;refine zW ?_;intros;refine Yu (Yu ?_);refine zW ?_;intros;refine pU ?_;refine Yt (Yv (cs:=[Zy x.name,Zc X0 x0 y0,Zk x.duration,Zy x.start.op,Zy x.start.name,Zc X1 x1 y1,Zc X2 x2 y2,Zc X3 x3 y3,Zc X4 x4 y4,Zy x.over.op,Zy x.over.name,Zc X5 x5 y5,Zc X6 x6 y6,Zc X7 x7 y7,Zc X8 x8 y8,Zy x.fin.op,Zy x.fin.name,Zc X9 x9 y9,Zc X10 x10 y10,Zc X11 x11 y11,Zc X12 x12 y12,Zc X13 x13 y13,Zc X14 x14 y14]) (fun gb=>⟨⟨Zd,Zx⟩,?_⟩));refine Yt (Y3 (Hr:=[_,_,_,_]) (d:=x) (Zr _) hG Y7 (.head _) (Ybl hR) (fun v10 H10 hO10=>⟨⟨Zd,Zx⟩,?_⟩));obtain ⟨A10,c10,rfl,_,_⟩:=hO10.form;refine Ch.hard0 (Xd ?_);refine Ch.done ?_;refine zW ?_;intros;exact YJ ⟨k+1,_,H10,by omega,rfl,rfl,rfl,rfl,hO10.of (by rw [List.take_add_one,hsx];rfl) rfl⟩ Zi Zw ((List.Sublist.refl _).cons _)
 obtain rfl:k=d.duratives.length:=by omega
 rw [Zl (by rw [Xb];exact Zs _)] at hG;refine zW ?_;intros;refine W4 (i:=1) rfl (fun fz28 hle28 hf28=>?_);obtain ⟨B',b',e9,j6⟩:=hG.sl hle28 (fun p hp=>hf28 p (by simp [hp])) Zi;injection e9 with e91 e92 e93
 subst e91;subst e93;have hz':=hle1.trans (hle4.trans hle28);exact ⟨rfl,_,_,_,_,_,_,rfl,⟨hD.name,(j1.mono hz').is,(j2.mono hz').is,(j3.mono hz').is,(j4.mono hz').is,(j5.mono hz').is,j6.is⟩⟩
end Go.Proofs.YtaaanbkahfeknaaGreatDoor
namespace Go.Proofs.YtaaanbkahfeknaaGreatDoor
end Go.Proofs.YtaaanbkahfeknaaGreatDoor
namespace Go.Proofs.YtaaanbkahfeknaaGreatDoor
variable {a:Atom} {fz:FZ} {va vb u1 u2 u3 u4 u5 u6 u7 vk v1 v2 v3 v4 w1 w2 w3 v5 v6 v7:Value} {A B:Option Addr} {c n k:Nat} {p:Problem}
def cmpT:List Bs->List Bs->Int
 | [],l=> -(l.length:Int)
 | x::xs,[]=>((x::xs).length:Int)
 | x::xs,y::ys=>if ltB x y=true then -1 else if x=y then cmpT xs ys else 1
noncomputable def cmpR (a b:Atom):Int:=if a.name=b.name then cmpT a.args b.args else if ltB a.name b.name=true then -1 else 1
theorem YgA (a:Bs):ltB a a=false:=by
 cases h:ltB a a with
 | false=>rfl
 | true=>
  have:∀ l:List UInt8,Op.bytesLess l l=false:=fun l=>by
   induction l with
   | nil=>rfl
   | cons x r ih=>simp [Op.bytesLess,ih]
  unfold ltB at h;rw [this] at h;cases h
theorem Yf5:∀ (l l':List Bs),cmpT l l'=0↔l=l'
 | [],[]=>by simp [cmpT]
 | [],_::_=>by simp [cmpT];omega
 | _::_,[]=>by simp [cmpT];omega
 | x::xs,y::ys=>by
  rw [cmpT];by_cases h:x=y
  ·subst h;rw [if_neg (by rw [YgA];decide),if_pos rfl,Yf5 xs ys];simp
  rw [if_neg h];constructor
  ·intro h1;split at h1<;>simp at h1
  intro h1;exact absurd (List.cons.inj h1).1 h
theorem YdK (a b:Atom):cmpR a b=0↔a=b:=by
 unfold cmpR;by_cases h:a.name=b.name
 ·rw [if_pos h,Yf5];cases a;cases b;simp at h ⊢;simp [h]
 rw [if_neg h];constructor
 ·intro h1;split at h1<;>simp at h1
 intro h1;exact absurd (by rw [h1]) h
theorem Yhj {b:Atom} (ha:AtomR fz a va) (hb:AtomR fz b vb):QFn prog 66 [.agg #[Zy a.name,va],.agg #[Zy b.name,vb]] fz (Zk (cmpR a b)):=by
 obtain ⟨A,n,c,rfl,ia⟩:=ha.args;obtain ⟨B,m,d,rfl,ib⟩:=hb.args;have la:=ia.len;have lb:=ib.len;have sa:=ia.short;have sb:=ib.short;refine qF Tryz.func66 Tryz.ntmps66 (fun w0=>?_);refine pX (fun g0=>?_);refine pY (fun g1=>?_);refine wC ?_ ?_<;>intro c1
 ·refine wG ?_;refine Yb4 (fun h1=>?_) (fun h1=>?_)
  ·exact wR (h:=by rw [cmpR,if_neg c1,if_pos h1])
  exact wR (h:=by rw [cmpR,if_neg c1,if_neg (by rw [h1];decide)])
 have hv:cmpR a b=cmpT a.args b.args:=by rw [cmpR,if_pos c1]
 refine zW ?_;refine YjK n (fun k=>[(5,Zk k),(3,Zp g1),(2,Zp g0)]) [(g1,Zu #[Zy b.name,Zc B m d] 83),(g0,Zu #[Zy a.name,Zc A n c] 83)] (fun k=>k<=m/\cmpT (a.args.drop k) (b.args.drop k)=cmpT a.args b.args) ⟨Z0 _,rfl⟩ ?_;intro k hk hh;obtain ⟨hkm,hcm⟩:=hh;refine wC ?_ ?_<;>intro c2
 ·obtain ⟨x,hx⟩:=Yq (l:=a.args) (k:=k) Zi;have ex:a.args.drop k=x::a.args.drop (k+1):=by
   obtain ⟨h1,h2⟩:=Zg hx;rw [<- h2];exact List.drop_eq_getElem_cons h1
  refine wC ?_ ?_<;>intro c3
  ·obtain ⟨y,hy⟩:=Yq (l:=b.args) (k:=k) Zi;have ey:b.args.drop k=y::b.args.drop (k+1):=by
    obtain ⟨h1,h2⟩:=Zg hy;rw [<- h2];exact List.drop_eq_getElem_cons h1
   rw [ex,ey] at hcm;refine wI ia hx (fun p1 hp1=>?_);refine zH hp1 (fun hs1=>?_);refine wI ib hy (fun p2 hp2=>?_);refine zH hp2 (fun hs2=>?_);refine wG ?_;refine Yb4 (fun h1=>?_) (fun h1=>?_)
   ·exact wR (h:=by rw [hv,<- hcm,cmpT,if_pos h1])
   refine wI ia hx (fun p3 hp3=>?_);refine zH hp3 (fun hs3=>?_);refine wI ib hy (fun p4 hp4=>?_);refine zH hp4 (fun hs4=>?_);refine wG ?_;refine Yb5 (fun h2 h3=>?_) (fun h2=>?_)
   ·exact wR (h:=by rw [hv,<- hcm,cmpT,if_neg (by rw [h1];decide),if_neg h3])
   have h3:x=y:=h2.resolve_left (by rw [h1];decide);refine zW ?_;refine YJ ⟨k+1,by omega,rfl,rfl,rfl,rfl,by omega,?_⟩ Zi Zw Zb;rw [<- hcm,cmpT,if_neg (by rw [h1];decide),if_pos h3]
  have ey:b.args.drop k=[]:=List.drop_eq_nil_of_le Zi;have hkm2:k=m:=by omega
  rw [ex,ey,cmpT,<- ex,List.length_drop] at hcm;exact wR (h:=by rw [hv,<- hcm];exact congrArg (Value.int .i64) Zi)
 have hk2:k=n:=by omega
 subst hk2;rw [List.drop_eq_nil_of_le Zi,cmpT,List.length_drop] at hcm;exact wR (h:=by rw [hv,<- hcm];exact congrArg (Value.int .i64) Zi)
theorem rhas_q {l:List Atom} (hl:Sl atomL fz A n c l) (ha:AtomR fz a va):QFn prog 118 [Zc A n c,.agg #[Zy a.name,va]] fz (Zo (decide (a∈l))):=by
 obtain ⟨B,m,d,rfl,ia⟩:=ha.args;have l1:=hl.len;have s1:=hl.short;refine qF Tryz.func118 Tryz.ntmps118 (fun w0=>?_);refine pX (fun g0=>?_);refine zW ?_;refine YjK n (fun k=>[(5,Zk k),(3,Zp g0),(0,Zc A n c)]) [(g0,Zu #[Zy a.name,Zc B m d] 83)] (fun k=>a ∉ l.take k) (by simp) ?_;intro k hk hh;refine wC ?_ ?_<;>intro c1
 ·obtain ⟨x,hx⟩:=Yq (l:=l) (k:=k) Zi;refine wI hl hx (fun p1 hp1=>?_);refine zL hp1 ?_;intro cs hcs;obtain ⟨vx,rfl,hR⟩:=YN hcs;refine wc (Yhj hR ha) ?_;refine wC ?_ ?_<;>intro c2
  ·have e:x=a:=(YdK _ _).1 c2;exact wR (h:=by exact W9 (e ▸ Zm hx))
  refine zW ?_;refine YJ ⟨k+1,by omega,rfl,rfl,rfl,rfl,?_⟩ Zi Zw Zb;rw [List.take_add_one,hx];intro h;rcases List.mem_append.1 h with h | h
  ·exact hh h
  simp at h;subst h;exact c2 ((YdK _ _).2 rfl)
 rw [Zl Zi] at hh;exact wR (h:=by exact Xf hh)
theorem YhO:∀ l r:List Bs,(cmpT l r<0↔cmpL l r<0)/\(0<cmpT l r↔0<cmpL l r)
 | [],[]=>by rw [cmpT,cmpL];simp
 | [],y::ys=>by rw [cmpT,cmpL,List.length_cons];omega
 | x::xs,[]=>by rw [cmpT,cmpL,List.length_cons];omega
 | x::xs,y::ys=>by
  rw [cmpT,cmpL];unfold cmpS;by_cases h:ltB x y=true
  ·simp [h]
  by_cases e:x=y
  ·simp [h,e,YgA,YhO xs ys]
  simp [h,e]
theorem Yc0 (a b:Atom):(cmpR a b<0↔cmpA a b<0)/\(0<cmpR a b↔0<cmpA a b):=by
 unfold cmpR cmpA cmpS;by_cases e:a.name=b.name
 ·simp [e,YgA,YhO a.args b.args]
 by_cases h:ltB a.name b.name=true
 ·simp [h,e]
 simp [h,e]
theorem Yi7 {l:List Value_} (hN:Sl valueL fz A n c l) (hn:n<=1000000):
 GFn prog 43 [Zc A n c] fz [] (fun r fz' H'=>H'=[]/\∃ B b,r=Zc B n b/\Sl valueL fz' B n b (srtC byV l)):=by
 have ln:=hN.len;have sh:=hN.short;have hw:SWk (ltC byV):=ordA.swk Value_.fluent;refine zF Tryz.func43 Tryz.ntmps43 (fun w0=>?_);refine zW ?_;intros;refine Yd (fun q σ fz' H'=>∃ (k:Nat) (B:Option Addr) (b:Nat),k<=n/\q=n - k/\σ=[(4,Zk k),(3,Zc B k b),(0,Zc A n c)]/\Le fz fz'/\H'=[]/\Sl valueL fz' B k b (srtC byV (l.take k))) ⟨0,none,0,Z0 _,rfl,rfl,Zd,rfl,Sl.nil⟩ Zw Zb ?_;rintro q σ fz1 H' ⟨k,B,b,hk,rfl,rfl,hle1,rfl,hS⟩;have hN:=hN.mono hle1;have lS:=hS.len;have sS:=hS.short;have cS:=hS.cap;refine zW ?_;intros;refine zC ?_ ?_<;>intro c1
 ·obtain ⟨x,hx⟩:=Yq (l:=l) (k:=k) Zi;have hxk:l.take (k+1)=l.take k++ [x]:=by rw [List.take_add_one,hx];rfl
  refine zWX ?_;intros;refine Yy ?_;refine zWX ?_;intros;refine Yy ?_;refine zWX ?_;intros;refine Yy (Xu (fun σ fz' H'=>∃ s1 s2:List Value_,srtC byV (l.take k)=s1++s2/\(∀ y,s2[0]?=some y->byV x y<0)/\(∀ z s,s1=s++ [z]->¬byV x z<0)/\σ=[(5,Zk s1.length),(4,Zk k),(3,Zc B k b),(0,Zc A n c)]/\fz1=fz'/\H'=[]) ?_ ?_)
  ·refine zW ?_;intros;refine Yd (fun q σ fz' H'=>∃ (z:Int) (s1 s2:List Value_),z=s1.length/\srtC byV (l.take k)=s1++s2/\(∀ y,s2[0]?=some y->byV x y<0)/\q=s1.length/\σ=[(5,Zk z),(4,Zk k),(3,Zc B k b),(0,Zc A n c)]/\fz1=fz'/\H'=[]) ⟨k,srtC byV (l.take k),[],by rw [lS],(List.append_nil _).symm,by simp,rfl,rfl,rfl,rfl⟩ Zw Zb ?_;rintro q σ fz' H' ⟨_,s1,s2,rfl,hs,h1,rfl,rfl,rfl,rfl⟩;rcases List.eq_nil_or_concat s1 with rfl | ⟨s,z,rfl⟩
   ·refine zW ?_;intros;refine zC ?_ ?_<;>intro c2
    ·exact absurd c2 (by simp)
    refine zW ?_;intros;exact wN (h:=by exact ⟨[],s2,hs,h1,fun z s h=>by simp at h,rfl,rfl,rfl⟩)
   rw [List.concat_eq_append] at*;have ls:(s++ [z]).length=s.length+1:=by simp
   have lS2:=congrArg List.length hs;rw [lS,List.length_append,ls] at lS2;simp only [ls];have hzs:(srtC byV (l.take k))[s.length]?=some z:=by rw [hs,List.append_assoc];exact Xi rfl
   refine zW ?_;intros;refine zC ?_ ?_<;>intro c2;rotate_left 1
   ·exact absurd c2 Zi
   refine zW ?_;intros;refine zI hS hzs (fun p1 hp1=>?_);refine zW ?_;intros;refine zL hp1.Value__fluent ?_;intro cs hcs;obtain ⟨vz,rfl,hRz⟩:=YN hcs;refine zW ?_;intros;refine zI hN hx (fun p2 hp2=>?_);refine zW ?_;intros;refine zL hp2.Value__fluent ?_;intro cs hcs;obtain ⟨vx,rfl,hRx⟩:=YN hcs;refine zW ?_;intros;refine zc (Yhj hRz hRx) ?_;refine zW ?_;intros;refine zC ?_ ?_<;>intro c3
   ·have hlt:byV x z<0:=(ordA.anti _ _).2 ((Yc0 _ _).2.1 c3);refine zW ?_;intros;exact wP (h:=by exact ⟨((s.length+1:Nat):Int) - 1,s,z::s2,by omega,by rw [hs,List.append_assoc];rfl,fun y hy=>by injection hy with hy;subst hy;exact hlt,rfl,rfl,rfl,rfl⟩)
   have hnlt:¬byV x z<0:=fun h=>c3 ((Yc0 _ _).2.2 ((ordA.anti _ _).1 h))
   refine zW ?_;intros;exact midN ⟨s++ [z],s2,hs,h1,fun z' s' h=>by
    obtain ⟨_,h⟩:=List.append_inj' h rfl;injection h with h
    subst h;exact hnlt,by rw [ls],rfl,rfl⟩ Zw Zb
  rintro σ fz' H' ⟨s1,s2,hs,h1,h2,rfl,rfl,rfl⟩;have hsort:=WA hw hs h1 h2;rw [<- hxk] at hsort;have lS2:=congrArg List.length hs;rw [lS,List.length_append] at lS2;have e1:(srtC byV (l.take k)).take s1.length=s1:=by rw [hs];exact List.take_left' rfl
  have e2:(srtC byV (l.take k)).drop s1.length=s2:=by rw [hs];exact List.drop_left' rfl
  have hC:=Ykw hS (k:=s1.length) Zi;rw [e1] at hC;refine zW ?_;intros;refine zG ?_;refine q_cutN (j:=s1.length) ?_;refine zW ?_;intros;refine Yc (W8 T (Hr:=[]) (n:=0) (l:=[]) Zz Zz Zz Zz Zz Zz Zz Zz (Zr _) (Grow.nil _ _ _) Xs hC (by show _*48<=_;omega) Zi (fun v4 H4 hO4=>?_));obtain ⟨A4,c4,rfl,_,_⟩:=hO4.form;refine zW ?_;intros;refine zI hN hx (fun p2 hp2=>?_);refine zL hp2 ?_;intro cs hcs;obtain ⟨X0,x0,y0,rfl,hR⟩:=Ya8 hcs;refine zW ?_;intros;refine Yc (Yv (cs:=[Zy x.fluent.name,Zc X0 x0 y0,Zk x.n]) (fun gb=>?_));refine Yc (Y3 (Hr:=[_]) (d:=x) (Zr _) hO4 Xs (.head _) (Yc4 hR) (fun v5 H5 hO5=>?_));obtain ⟨A5,c5,rfl,_,_⟩:=hO5.form;refine zW ?_;intros;refine zG ?_;refine WB (L:=valueL) (j:=s1.length) hS (fun A6 hD=>?_);rw [e2] at hD;refine zW ?_;intros;refine Yc (W8 T (Hr:=[_]) Zz Zz Zz Zz Zz Zz Zz Zz (Zr _) hO5 Xs hD (by show _*48<=_;omega) Zi (fun v7 H7 hO7=>?_));obtain ⟨A7,c7,rfl,_,_⟩:=hO7.form;refine Seq.freezeAll (H1:=[_]) (H2:=H7) (Zr _) (fun fz9 hle9 hf9=>?_);obtain ⟨A9,c9,e9,hS9⟩:=(hO7.of (show _=srtC byV (l.take (k+1)) by rw [hsort];simp) (show _=k+1 by omega)).sl hle9 hf9 Zi;injection e9 with e91 e92 e93
  subst e91;subst e93;rw [e92];refine zW ?_;intros;exact wP (h:=by exact ⟨k+1,A7,c7,by omega,rfl,rfl,hle1.trans hle9,rfl,hS9⟩)
 obtain rfl:n=k:=by omega
 refine zW ?_;intros;rw [Zl Zi] at hS;exact wR (h:=by exact ⟨rfl,B,b,rfl,hS⟩)
theorem Yed {l:List Atom}:Yfl l↔l.Pairwise fun a b=>¬cmpA b a<0:=by
 constructor
 ·intro h;exact List.pairwise_iff_getElem.2 fun i j hi hj hij=>h i j _ _ hij (List.getElem?_eq_getElem hi) (List.getElem?_eq_getElem hj)
 intro h i j a b hij ha hb;obtain ⟨hi,rfl⟩:=Zg ha;obtain ⟨hj,rfl⟩:=Zg hb;exact List.pairwise_iff_getElem.1 h i j hi hj hij
theorem YhN {l:List Atom} (h:CptS l) (ha:a ∉ l) (h1:∀ i x,i<k->l[i]?=some x->cmpA x a<0) (h2:∀ x,l[k]?=some x->¬cmpA x a<0):CptS (l.take k++a::l.drop k):=by
 have w:SWk (ltC fun x y=>cmpA x y):=ordA.swk id;have hp:(a::l).Perm (l.take k++a::l.drop k):=by
  have:=List.perm_middle (a:=a) (l₁:=l.take k) (l₂:=l.drop k);rw [List.take_append_drop] at this;exact this.symm
 refine ⟨hp.nodup_iff.1 (List.nodup_cons.2 ⟨ha,h.1⟩),Yed.2 ?_⟩;have hl:=Yed.1 h.2;rw [<- List.take_append_drop k l] at hl;obtain ⟨p1,p2,p3⟩:=List.pairwise_append.1 hl;have q1:∀ x∈l.take k,¬cmpA a x<0:=fun x hx=>by
  obtain ⟨i,hi⟩:=List.getElem?_of_mem hx;have hik:i<k:=by
   have:=(Zg hi).1;rw [List.length_take] at this;omega
  rw [List.getElem?_take_of_lt hik] at hi;exact w.as_ _ _ (h1 i x hik hi)
 have q2:∀ y∈l.drop k,¬cmpA y a<0:=fun y hy=>by
  obtain ⟨j,hj⟩:=List.getElem?_of_mem hy;rw [List.getElem?_drop] at hj;rcases Nat.eq_zero_or_pos j with rfl | hpos
  ·exact h2 y hj
  obtain ⟨z,hz⟩:=Yq (l:=l) (k:=k) (by have:=(Zg hj).1;omega);exact w.nt _ _ _ (h2 z hz) (h.2 k (k+j) z y Zi hz hj)
 refine List.pairwise_append.2 ⟨p1,List.pairwise_cons.2 ⟨q2,p2⟩,fun x hx y hy=>?_⟩;rcases List.mem_cons.1 hy with rfl | hy
 ·exact q1 x hx
 exact p3 x hx y hy
theorem put_mem {l:List Atom} {x:Atom}:x∈l.take k++a::l.drop k↔x∈l\/x=a:=by
 rw [List.mem_append,List.mem_cons]
 conv=>rhs;rw [<- List.take_append_drop k l,List.mem_append]
 constructor
 ·rintro (h | h | h)
  ·exact .inl (.inl h)
  ·exact .inr h
  exact .inl (.inr h)
 rintro ((h | h) | h)
 ·exact .inl h
 ·exact .inr (.inr h)
 exact .inr (.inl h)
theorem atAdd_f {l:List Atom} (hN:Sl atomL fz A n c l) (hn:n<=1000000) (ha:AtomR fz a va) (hC:CptS l):
 GFn prog 76 [Zc A n c,.agg #[Zy a.name,va]] fz [] (fun r fz' H'=>H'=[]/\∃ B m b l',r=Zc B m b/\Sl atomL fz' B m b l'/\m<=n+1/\CptS l'/\∀ x,x∈l'↔x∈l\/x=a):=by
 obtain ⟨X,x0,y0,rfl,ia⟩:=id ha.args;have ln:=hN.len;have cN:=hN.cap;subst ln;refine zF Tryz.func76 Tryz.ntmps76 (fun w0=>?_);refine pX (fun g0=>?_);refine zW ?_;intros;refine zb (rhas_q hN ha) (fun f1=>?_) (fun f1=>?_)
 ·refine zW ?_;intros;exact ret1 rfl rfl (List.nil_sublist _) ⟨rfl,A,_,c,l,rfl,hN,by omega,hC,fun x=>⟨.inl,fun h=>h.elim id fun h=>h ▸ Zt f1⟩⟩
 have hna:=Zf f1;refine zW ?_;intros;refine Yd (fun q σ fz' H'=>∃ (k:Nat) (v:Value) (Hq:HP),k<=l.length/\q=l.length - k/\σ=[(6,Zk k),(5,v),(3,Zp g0),(0,Zc A l.length c)]/\fz=fz'/\H'=(g0,Zu #[Zy a.name,Zc X x0 y0] 83)::Hq/\Grow atomL 83 fz' v k Hq (l.take k)/\∀ i x,i<k->l[i]?=some x->cmpA x a<0) ⟨0,_,[],Z0 _,rfl,rfl,rfl,rfl,Grow.nil _ _ _,fun i x h=>absurd h Zi⟩ Zw Zb ?_;rintro q σ fz' H' ⟨k,v,Hq,hk,rfl,rfl,rfl,rfl,hG,h1⟩;obtain ⟨B,b,rfl,_,_⟩:=hG.form;refine zW ?_;intros;refine zC ?_ ?_<;>intro c1
 ·obtain ⟨x,hx⟩:=Yq (l:=l) (k:=k) Zi;refine zW ?_;intros;refine zI hN hx (fun p1 hp1=>?_);refine zL hp1 ?_;intro cs hcs;obtain ⟨vx,rfl,hRx⟩:=YN hcs;refine zW ?_;intros;refine zc (Yhj hRx ha) ?_;refine zW ?_;intros;refine zC ?_ ?_<;>intro c2
  ·have h1':∀ i y,i<k+1->l[i]?=some y->cmpA y a<0:=fun i y hi hy=>by
    by_cases e:i=k
    ·subst e;rw [hx] at hy;injection hy with hy;subst hy;exact (Yc0 _ _).1.1 c2
    exact h1 i y Zi hy
   refine zW ?_;intros;refine zI hN hx (fun p1 hp1=>?_);refine zL hp1 ?_;intro cs hcs;obtain ⟨vy,rfl,hRy⟩:=YN hcs;obtain ⟨Y,z0,t0,rfl,_⟩:=id hRy.args;refine zW ?_;intros;refine Yc (Yv (cs:=[Zy x.name,Zc Y z0 t0]) (fun gb=>?_));refine Yc (Y3 (Hr:=[_,_]) (d:=x) (Zr _) hG YaF (.head _) (Ww hRy) (fun v5 H5 hO5=>?_));obtain ⟨A5,c5,rfl,_,_⟩:=hO5.form;refine zW ?_;intros;exact YJ ⟨k+1,_,H5,by omega,rfl,rfl,rfl,rfl,hO5.of (by rw [List.take_add_one,hx];rfl) rfl,h1'⟩ Zi Zw ((List.Sublist.refl _).cons _)
  have h2:∀ y,l[k]?=some y->¬cmpA y a<0:=fun y hy h=>by
   rw [hx] at hy;injection hy with hy;subst hy;exact c2 ((Yc0 _ _).1.2 h)
  refine zW ?_;intros;refine Yc (Yv (cs:=[Zy a.name,Zc X x0 y0]) (fun gb=>?_));refine Yc (Y3 (Hr:=[_,_]) (d:=a) (Zr _) hG YaF (.head _) (Ww ha) (fun v5 H5 hO5=>?_));obtain ⟨A5,c5,rfl,_,_⟩:=hO5.form;refine zW ?_;intros;refine zG ?_;refine WB (L:=atomL) (j:=k) hN (fun A6 hD=>?_);refine zW ?_;intros;refine Yc (W8 T (Hr:=[_,_]) Zz Zz Zz Zz Zz Zz Zz Zz (Zr _) hO5 YaF hD (by show _*40<=_;omega) Zi (fun v7 H7 hO7=>?_));obtain ⟨A7,c7,rfl,_,_⟩:=hO7.form;refine Seq.freezeAll (H1:=[_,_]) (H2:=H7) (Zr _) (fun fz9 hle9 hf9=>?_);obtain ⟨A9,c9,e9,hS9⟩:=hO7.sl hle9 hf9 Zi;injection e9 with e91 e92 e93
  subst e91;subst e93;refine zW ?_;intros;refine ret1 rfl rfl (List.nil_sublist _) ⟨rfl,_,_,_,_,rfl,hS9,by omega,?_,?_⟩
  ·rw [List.append_assoc];exact YhN hC hna h1 h2
  intro x;rw [List.append_assoc];exact put_mem
 have h2:∀ y,l[k]?=some y->¬cmpA y a<0:=fun y hy _=>by
  have:=(Zg hy).1;omega
 refine zW ?_;intros;refine Yc (Yv (cs:=[Zy a.name,Zc X x0 y0]) (fun gb=>?_));refine Yc (Y3 (Hr:=[_,_]) (d:=a) (Zr _) hG YaF (.head _) (Ww ha) (fun v5 H5 hO5=>?_));obtain ⟨A5,c5,rfl,_,_⟩:=hO5.form;refine zW ?_;intros;refine zG ?_;refine WB (L:=atomL) (j:=k) hN (fun A6 hD=>?_);refine zW ?_;intros;refine Yc (W8 T (Hr:=[_,_]) Zz Zz Zz Zz Zz Zz Zz Zz (Zr _) hO5 YaF hD (by show _*40<=_;omega) Zi (fun v7 H7 hO7=>?_));obtain ⟨A7,c7,rfl,_,_⟩:=hO7.form;refine Seq.freezeAll (H1:=[_,_]) (H2:=H7) (Zr _) (fun fz9 hle9 hf9=>?_);obtain ⟨A9,c9,e9,hS9⟩:=hO7.sl hle9 hf9 Zi;injection e9 with e91 e92 e93
 subst e91;subst e93;refine zW ?_;intros;refine ret1 rfl rfl (List.nil_sublist _) ⟨rfl,_,_,_,_,rfl,hS9,by omega,?_,?_⟩
 ·rw [List.append_assoc];exact YhN hC hna h1 h2
 intro x;rw [List.append_assoc];exact put_mem
theorem atInit_f (hP:ProblemR fz p u1 u2 u3 u4 u5 u6 u7) (hn:p.init.length<=1000000):
 GFn prog 42 [ZP p u1 u2 u3 u4 u5 u6 u7] fz []
  (fun r fz' H'=>H'=[]/\∃ B m b l,r=Zc B m b/\Sl atomL fz' B m b l/\CptS l/\∀ a,a∈l↔a∈p.init):=by
 obtain ⟨⟨B1,m1,d1,rfl,_⟩,⟨B2,n,d2,rfl,j2⟩,⟨B3,m3,d3,rfl,_⟩⟩:=id hP.sls;obtain ⟨⟨B4,m4,d4,rfl,_⟩,⟨B5,m5,d5,rfl,_⟩,⟨B6,m6,d6,rfl,_⟩,⟨B7,m7,d7,rfl,_⟩⟩:=id hP.goal.sls;have l2:=j2.len;refine zF Tryz.func42 Tryz.ntmps42 (fun w0=>?_);refine pX (fun g1=>?_);refine zW ?_;intros;refine Yd (fun q σ fz' H'=>∃ (k:Nat) (B:Option Addr) (m b:Nat) (l:List Atom),k<=n/\q=n - k/\σ=[(4,Zk k),(3,Zc B m b),(1,Zp g1)]/\Le fz fz'/\H'=[(g1,Zu #[Zy p.name,Zy p.domain,Zc B1 m1 d1,Zc B2 n d2,Zc B3 m3 d3,Zy p.goal.op,Zy p.goal.name,Zc B4 m4 d4,Zc B5 m5 d5,Zc B6 m6 d6,Zc B7 m7 d7] 37)]/\Sl atomL fz' B m b l/\m<=k/\CptS l/\∀ a,a∈l↔a∈p.init.take k) ⟨0,none,0,0,[],Z0 _,rfl,rfl,Zd,rfl,Sl.nil,Zs _,⟨List.nodup_nil,fun i j a b _ h=>by simp at h⟩,fun a=>by simp⟩ Zw Zb ?_;rintro q σ fz2 H' ⟨k,B,m,b,l,hk,rfl,rfl,hle2,rfl,hS,hm,hC,hM⟩;refine zW ?_;intros;refine zC ?_ ?_<;>intro f1
 ·obtain ⟨x,hx⟩:=Yq (l:=p.init) (k:=k) Zi;refine zW ?_;intros;refine zI (j2.mono hle2) hx (fun p1 hp1=>?_);refine zL hp1 ?_;intro cs hcs;obtain ⟨vx,rfl,hR⟩:=YN hcs;refine zW ?_;intros;refine Yc (Ym [] [_] Zz (atAdd_f hS Zi hR hC) (fun v4 fz4 H4 hle4 hR4=>?_));obtain ⟨rfl,B',m',b',l',rfl,hS',hm',hC',hM'⟩:=hR4;refine zW ?_;intros;exact YJ ⟨k+1,B',m',b',l',by omega,rfl,rfl,hle2.trans hle4,rfl,hS',by omega,hC',fun a=>by
   rw [hM',hM,List.take_add_one,hx,List.mem_append];simp⟩ Zi Zw Zb
 obtain rfl:k=n:=by omega
 rw [Zl Zi] at hM;refine zW ?_;intros;exact ret1 rfl rfl (List.nil_sublist _) ⟨rfl,B,m,b,l,rfl,hS,hC,hM⟩
theorem Yjj (hP:ProblemR fz p u1 u2 u3 u4 u5 u6 u7) (s1:p.objects.length<=1000000) (s2:p.init.length<=1000000) (s3:p.values.length<=1000000):
 GFn prog 11 [ZP p u1 u2 u3 u4 u5 u6 u7] fz []
  (fun r fz' H'=>H'=[]/\∃ l w1 w2 w3 w4 w5 w6 w7,r=ZP p w1 w2 w3 w4 w5 w6 w7/\CptS l/\(∀ a,a∈l↔a∈p.init)/\ProblemR fz' ⟨p.name,p.domain,srtC (byC Param.name) p.objects,l,srtC byV p.values,p.goal⟩ w1 w2 w3 w4 w5 w6 w7):=by
 have hP0:=hP;obtain ⟨⟨B1,m1,d1,rfl,j1⟩,⟨B2,m2,d2,rfl,j2⟩,⟨B3,m3,d3,rfl,j3⟩⟩:=id hP.sls;obtain ⟨⟨B4,m4,d4,rfl,_⟩,⟨B5,m5,d5,rfl,_⟩,⟨B6,m6,d6,rfl,_⟩,⟨B7,m7,d7,rfl,_⟩⟩:=id hP.goal.sls;have l1:=j1.len;have l3:=j3.len;refine zF Tryz.func11 Tryz.ntmps11 (fun w0=>?_);refine pX (fun g1=>?_);refine Yc (YV (fun g2=>?_));refine zWN ?_;intros;refine Yab [_,_] ?_;refine zW ?_;intros;refine Yu ?_;refine zW ?_;intros;refine Yu ?_;refine zW ?_;intros;refine Yu ?_;refine zW ?_;intros
 ((refine zG ?_);refine Ya (vs:=[Zy p.goal.op,Zy p.goal.name,Zc B4 m4 d4,Zc B5 m5 d5,Zc B6 m6 d6,Zc B7 m7 d7]) 1 ?_);refine pU ?_;refine Yt (Ym [] [_,_] Zz (Ydi j1 Zi) (fun v6 fz6 H6 hle6 hR6=>⟨⟨hle6,Zx⟩,?_⟩));obtain ⟨rfl,C1,c1,rfl,k1⟩:=hR6;refine Yt (Ym [] [_,_] Zz (atInit_f (hP0.mono hle6) s2) (fun v7 fz7 H7 hle7 hR7=>⟨⟨hle6.trans hle7,Zx⟩,?_⟩));obtain ⟨rfl,C2,m,c2,l,rfl,k2,hC,hM⟩:=hR7;refine Yt (Ym [] [_,_] Zz (Yi7 (j3.mono (hle6.trans hle7)) Zi) (fun v8 fz8 H8 hle8 hR8=>⟨⟨hle6.trans (hle7.trans hle8),Zx⟩,?_⟩));obtain ⟨rfl,C3,c3,rfl,k3⟩:=hR8;refine Ch.qk ⟨hle6.trans (hle7.trans hle8),Zx⟩ (Yak ?_);refine Ch.hard0 (YG ?_);refine Ch.done ?_;refine zW ?_;intros;refine W4 (i:=0) rfl (fun fz9 hle9 hf9=>?_);have z8:=hle8.trans hle9;have z7:=hle7.trans z8;exact ⟨rfl,l,_,_,_,_,_,_,_,rfl,hC,hM,⟨hP0.name,hP0.domain,(k1.mono z7).is,(k2.mono z8).is,(k3.mono hle9).is,hP0.goal.mono (hle6.trans z7)⟩⟩
theorem Yko {m d:Nat} {l:List Bs} (h1:Sl strL fz A n c l) (h2:Sl strL fz B m d l):QFn prog 67 [Zc A n c,Zc B m d] fz (Zo true):=by
 have k1:=h1.len;have k2:=h2.len;have k3:=h1.short;subst k1 k2;refine qF Tryz.func67 Tryz.ntmps67 (fun w0=>?_);refine zW ?_
 (((refine zC (fun c1=>?_) (fun c1=>?_));(exact absurd rfl c1);(refine zW ?_)));refine Yd (fun q σ fz' H'=>∃ k:Nat,k<=l.length/\q=l.length - k/\σ=[(5,Zk k),(0,Zc A l.length c),(1,Zc B l.length d)]/\fz=fz'/\H'=[]) ⟨0,Z0 _,rfl,rfl,rfl,rfl⟩ Zw Zb ?_;rintro q σ fz' H' ⟨k,hk,rfl,rfl,rfl,rfl⟩;refine wC ?_ ?_<;>intro c2
 ·obtain ⟨x,hx⟩:=Yq (l:=l) (k:=k) Zi;refine wI h1 hx (fun a ha=>?_);refine zH ha (fun sx=>?_);refine wI h2 hx (fun b hb=>?_);refine zH hb (fun sy=>?_);refine zW ?_
  (((refine zC (fun e1=>?_) (fun e1=>?_));(exact absurd rfl e1);(refine zW ?_)));exact wP (h:=by exact ⟨k+1,by omega,rfl,rfl,rfl,rfl⟩)
 exact wR (h:=rfl)
theorem etexts9 {m d:Nat} {l:List Bs} (h1:Sl strL fz A n c l) (h2:Sl strL fz B m d l):QFn prog 99 [Zc A n c,Zc B m d] fz (Zo true):=by
 have k1:=h1.len;have k2:=h2.len;have k3:=h1.short;subst k1 k2;refine qF Tryz.func99 Tryz.ntmps99 (fun w0=>?_);refine zW ?_
 (((refine zC (fun c1=>?_) (fun c1=>?_));(exact absurd rfl c1);(refine zW ?_)));refine Yd (fun q σ fz' H'=>∃ k:Nat,k<=l.length/\q=l.length - k/\σ=[(5,Zk k),(0,Zc A l.length c),(1,Zc B l.length d)]/\fz=fz'/\H'=[]) ⟨0,Z0 _,rfl,rfl,rfl,rfl⟩ Zw Zb ?_;rintro q σ fz' H' ⟨k,hk,rfl,rfl,rfl,rfl⟩;refine wC ?_ ?_<;>intro c2
 ·obtain ⟨x,hx⟩:=Yq (l:=l) (k:=k) Zi;refine wI h1 hx (fun a ha=>?_);refine zH ha (fun sx=>?_);refine wI h2 hx (fun b hb=>?_);refine zH hb (fun sy=>?_);refine zW ?_
  (((refine zC (fun e1=>?_) (fun e1=>?_));(exact absurd rfl e1);(refine zW ?_)));exact wP (h:=by exact ⟨k+1,by omega,rfl,rfl,rfl,rfl⟩)
 exact wR (h:=rfl)
theorem Ye5 {m d:Nat} {l:List Param} (h1:Sl paramL fz A n c l) (h2:Sl paramL fz B m d l):QFn prog 16 [Zc A n c,Zc B m d] fz (Zo true):=by
 have k1:=h1.len;have k2:=h2.len;have k3:=h1.short;subst k1 k2;refine qF Tryz.func16 Tryz.ntmps16 (fun w0=>?_);refine zW ?_
 (((refine zC (fun c1=>?_) (fun c1=>?_));(exact absurd rfl c1);(refine zW ?_)));refine Yd (fun q σ fz' H'=>∃ k:Nat,k<=l.length/\q=l.length - k/\σ=[(5,Zk k),(0,Zc A l.length c),(1,Zc B l.length d)]/\fz=fz'/\H'=[]) ⟨0,Z0 _,rfl,rfl,rfl,rfl⟩ Zw Zb ?_;rintro q σ fz' H' ⟨k,hk,rfl,rfl,rfl,rfl⟩;refine wC ?_ ?_<;>intro c2
 ·obtain ⟨x,hx⟩:=Yq (l:=l) (k:=k) Zi;refine wI h1 hx (fun ha0 ha=>?_)
  ((refine zL ha ?_;intro cs1 hcs1;obtain ⟨rfl,hR1⟩:=XD hcs1));refine wI h2 hx (fun hb0 hb=>?_)
  ((refine zL hb ?_;intro cs2 hcs2;obtain ⟨rfl,hR2⟩:=XD hcs2));refine zW ?_
  (((refine zG ?_);refine Ygp Zz Zz (fun e1=>?_) (fun e1=>?_)))
  ·exact absurd rfl e1
  exact wP (h:=by exact ⟨k+1,by omega,rfl,rfl,rfl,rfl⟩)
 exact wR (h:=rfl)
theorem Ykr:∀ (s:Nat) {fz:FZ} {a:Lx.Expr} {va vk wa wk:Value},SizeOf.sizeOf a<=s->ExprR fz a va vk->ExprR fz a wa wk->
 QFn prog 68 [.agg #[Zy a.op,Zy a.name,Zk a.n,va,vk],.agg #[Zy a.op,Zy a.name,Zk a.n,wa,wk]] fz (Zo true)
 | 0,_,e,_,_,_,_,hs,_,_=>by cases e;simp at hs
 | s+1,fz,a,va,vk,wa,wk,hs,hR1,hR2=>by
  refine GFn.quiet ?_
  ((obtain ⟨A1,n1,c1',rfl,ia1⟩:=hR1.args;obtain ⟨A2,n2,c2',rfl,ik1⟩:=hR1.kids))
  ((obtain ⟨A3,n3,c3',rfl,ia2⟩:=hR2.args;obtain ⟨A4,n4,c4',rfl,ik2⟩:=hR2.kids));have k1:=ik1.len;have k2:=ik2.len;have k3:=ik1.short;subst k1 k2;refine zF Tryz.func68 Tryz.ntmps68 (fun w0=>?_);refine pX (fun g0=>?_);refine pY (fun g1=>?_);refine zW ?_
  (((refine zC (fun e1=>?_) (fun e1=>?_));(exact absurd rfl e1);(refine zW ?_)))
  (((refine zC (fun e2=>?_) (fun e2=>?_));(exact absurd rfl e2);(refine zW ?_)))
  (((refine zC (fun e3=>?_) (fun e3=>?_));(exact absurd rfl e3);(refine zW ?_)));refine zc (Yko ia1 ia2) ?_;refine zW ?_
  (((refine zC (fun e4=>?_) (fun e4=>?_));(exact absurd rfl e4);(refine zW ?_)));refine Yd (fun q σ fz' H'=>∃ k:Nat,k<=a.kids.length/\q=a.kids.length - k/\σ=[(5,Zk k),(3,Zp g1),(2,Zp g0)]/\fz=fz'/\H'=[(g1,Zu #[Zy a.op,Zy a.name,Zk a.n,Zc A3 n3 c3',Zc A4 a.kids.length c4'] 93),(g0,Zu #[Zy a.op,Zy a.name,Zk a.n,Zc A1 n1 c1',Zc A2 a.kids.length c2'] 93)]) ⟨0,Z0 _,rfl,rfl,rfl,rfl⟩ Zw Zb ?_;rintro q σ fz' H' ⟨k,hk,rfl,rfl,rfl,rfl⟩;refine wC ?_ ?_<;>intro c2
  ·obtain ⟨x,hx⟩:=Yq (l:=a.kids) (k:=k) Zi;have hlt:=Lx.Expr.kids_lt (Zm hx);refine wI ik1 hx (fun p hp=>?_);refine zL hp ?_;intro cs1 hcs1;obtain ⟨u1,u2,rfl,h3⟩:=Xe hcs1;refine wI ik2 hx (fun p2 hp2=>?_);refine zL hp2 ?_;intro cs2 hcs2;obtain ⟨w1,w2,rfl,h4⟩:=Xe hcs2;refine wG ?_;refine Xn (Ykr s Zi h3 h4) ?_;exact wP (h:=by exact ⟨k+1,by omega,rfl,rfl,rfl,rfl⟩)
  exact wR (h:=rfl)
theorem eexpr {a:Lx.Expr} {wa wk:Value} (h1:ExprR fz a va vk) (h2:ExprR fz a wa wk):
 QFn prog 68 [.agg #[Zy a.op,Zy a.name,Zk a.n,va,vk],.agg #[Zy a.op,Zy a.name,Zk a.n,wa,wk]] fz (Zo true):=Ykr _ (Zs _) h1 h2
theorem Ykq:∀ (s:Nat) {fz:FZ} {a:Formula} {v1 v2 v3 v4 w1 w2 w3 w4:Value},SizeOf.sizeOf a<=s->FormulaR fz a v1 v2 v3 v4->FormulaR fz a w1 w2 w3 w4->
 QFn prog 36 [.agg #[Zy a.op,Zy a.name,v1,v2,v3,v4],.agg #[Zy a.op,Zy a.name,w1,w2,w3,w4]] fz (Zo true)
 | 0,_,e,_,_,_,_,_,_,_,_,hs,_,_=>by cases e;simp at hs
 | s+1,fz,a,v1,v2,v3,v4,w1,w2,w3,w4,hs,hR1,hR2=>by
  refine GFn.quiet ?_
  ((obtain ⟨A1,n1,c1',rfl,ia1⟩:=hR1.args;obtain ⟨A2,n2,c2',rfl,ip1⟩:=hR1.params;obtain ⟨A3,n3,c3',rfl,ie1⟩:=hR1.exprs;obtain ⟨A4,n4,c4',rfl,ik1⟩:=hR1.kids))
  ((obtain ⟨A5,n5,c5',rfl,ia2⟩:=hR2.args;obtain ⟨A6,n6,c6',rfl,ip2⟩:=hR2.params;obtain ⟨A7,n7,c7',rfl,ie2⟩:=hR2.exprs;obtain ⟨A8,n8,c8',rfl,ik2⟩:=hR2.kids));have k1:=ie1.len;have k2:=ie2.len;have k3:=ie1.short;subst k1 k2;have k4:=ik1.len;have k5:=ik2.len;have k6:=ik1.short;subst k4 k5;refine zF Tryz.func36 Tryz.ntmps36 (fun w0=>?_);refine pX (fun g0=>?_);refine pY (fun g1=>?_);refine zW ?_
  (((refine zC (fun e1=>?_) (fun e1=>?_));(exact absurd rfl e1);(refine zW ?_)))
  (((refine zC (fun e2=>?_) (fun e2=>?_));(exact absurd rfl e2);(refine zW ?_)));refine zc (Yko ia1 ia2) ?_;refine wc (Ye5 ip1 ip2) ?_;refine zW ?_
  (((refine zC (fun e4=>?_) (fun e4=>?_));(exact absurd rfl e4);(refine zW ?_)))
  (((refine zC (fun e5=>?_) (fun e5=>?_));(exact absurd rfl e5);(refine zW ?_)));refine Yd (fun q σ fz' H'=>∃ k:Nat,k<=a.exprs.length/\q=a.exprs.length - k/\σ=[(5,Zk k),(3,Zp g1),(2,Zp g0)]/\fz=fz'/\H'=[(g1,Zu #[Zy a.op,Zy a.name,Zc A5 n5 c5',Zc A6 n6 c6',Zc A7 a.exprs.length c7',Zc A8 a.kids.length c8'] 35),(g0,Zu #[Zy a.op,Zy a.name,Zc A1 n1 c1',Zc A2 n2 c2',Zc A3 a.exprs.length c3',Zc A4 a.kids.length c4'] 35)]) ⟨0,Z0 _,rfl,rfl,rfl,rfl⟩ Zw Zb ?_;rintro q σ fz' H' ⟨k,hk,rfl,rfl,rfl,rfl⟩;refine wC ?_ ?_<;>intro c2
  ·obtain ⟨x,hx⟩:=Yq (l:=a.exprs) (k:=k) Zi;refine wI ie1 hx (fun p hp=>?_);refine zL hp ?_;intro cs1 hcs1;obtain ⟨u1,u2,rfl,h3⟩:=Xe hcs1;refine wI ie2 hx (fun p2 hp2=>?_);refine zL hp2 ?_;intro cs2 hcs2;obtain ⟨y1,y2,rfl,h4⟩:=Xe hcs2;refine wc (eexpr h3 h4) ?_;exact wP (h:=by exact ⟨k+1,by omega,rfl,rfl,rfl,rfl⟩)
  refine zW ?_;refine Yd (fun q σ fz' H'=>∃ k:Nat,k<=a.kids.length/\q=a.kids.length - k/\σ=[(6,Zk k),(3,Zp g1),(2,Zp g0)]/\fz=fz'/\H'=[(g1,Zu #[Zy a.op,Zy a.name,Zc A5 n5 c5',Zc A6 n6 c6',Zc A7 a.exprs.length c7',Zc A8 a.kids.length c8'] 35),(g0,Zu #[Zy a.op,Zy a.name,Zc A1 n1 c1',Zc A2 n2 c2',Zc A3 a.exprs.length c3',Zc A4 a.kids.length c4'] 35)]) ⟨0,Z0 _,rfl,rfl,rfl,rfl⟩ Zw Zb ?_;rintro q σ fz' H' ⟨k,hk,rfl,rfl,rfl,rfl⟩;refine wC ?_ ?_<;>intro c3
  ·obtain ⟨x,hx⟩:=Yq (l:=a.kids) (k:=k) Zi;have hlt:=Formula.kids_lt (Zm hx);refine wI ik1 hx (fun p hp=>?_);refine zL hp ?_;intro cs1 hcs1;obtain ⟨u1,u2,u3,u4,rfl,h3⟩:=YI hcs1;refine wI ik2 hx (fun p2 hp2=>?_);refine zL hp2 ?_;intro cs2 hcs2;obtain ⟨y1,y2,y3,y4,rfl,h4⟩:=YI hcs2;refine wG ?_;refine Xn (Ykq s Zi h3 h4) ?_;exact wP (h:=by exact ⟨k+1,by omega,rfl,rfl,rfl,rfl⟩)
  exact wR (h:=rfl)
theorem Yiy {a:Formula} {w4:Value} (h1:FormulaR fz a v1 v2 v3 v4) (h2:FormulaR fz a w1 w2 w3 w4):
 QFn prog 36 [.agg #[Zy a.op,Zy a.name,v1,v2,v3,v4],.agg #[Zy a.op,Zy a.name,w1,w2,w3,w4]] fz (Zo true):=Ykq _ (Zs _) h1 h2
theorem Ye6 {m d:Nat} {l:List Change} (h1:Sl changeL fz A n c l) (h2:Sl changeL fz B m d l):QFn prog 51 [Zc A n c,Zc B m d] fz (Zo true):=by
 have k1:=h1.len;have k2:=h2.len;have k3:=h1.short;subst k1 k2;refine qF Tryz.func51 Tryz.ntmps51 (fun w0=>?_);refine zW ?_
 (((refine zC (fun c1=>?_) (fun c1=>?_));(exact absurd rfl c1);(refine zW ?_)));refine Yd (fun q σ fz' H'=>∃ k:Nat,k<=l.length/\q=l.length - k/\σ=[(5,Zk k),(0,Zc A l.length c),(1,Zc B l.length d)]/\fz=fz'/\H'=[]) ⟨0,Z0 _,rfl,rfl,rfl,rfl⟩ Zw Zb ?_;rintro q σ fz' H' ⟨k,hk,rfl,rfl,rfl,rfl⟩;refine wC ?_ ?_<;>intro c2
 ·obtain ⟨x,hx⟩:=Yq (l:=l) (k:=k) Zi;have hx':=hx;refine zWN ?_;refine Xu (fun σ fz' H'=>∃ g6 g7 ca cb,σ=[(5,Zk k),(7,Zp g7),(6,Zp g6),(0,Zc A l.length c),(1,Zc B l.length d)]/\fz=fz'/\H'=[(g7,Zu (List.toArray cb) 95),(g6,Zu (List.toArray ca) 95)]/\changeL.rep fz x ca/\changeL.rep fz x cb) ?_ ?_
  ·refine Wi [] [] ?_;refine wI h1 hx (fun p1 hp1=>?_);refine zL hp1 ?_;intro cs1 hr1;have hr1':=hr1;obtain ⟨au1,au2,au3,au4,au5,au6,au7,au8,rfl,ahC⟩:=Y8 hr1;have ahW:=ahC.when_;have ahV:=ahC.value;obtain ⟨aC1,ao1,aq1,rfl,ai1⟩:=ahC.params;obtain ⟨⟨aC2,ao2,aq2,rfl,ai2⟩,⟨aC3,ao3,aq3,rfl,ai3⟩,⟨aC4,ao4,aq4,rfl,ai4⟩,⟨aC5,ao5,aq5,rfl,ai5⟩⟩:=ahC.when_.sls;obtain ⟨aC6,ao6,aq6,rfl,ai6⟩:=ahC.args;obtain ⟨⟨aC7,ao7,aq7,rfl,ai7⟩,⟨aC8,ao8,aq8,rfl,ai8⟩⟩:=ahC.value.sls;refine wI h2 hx (fun p2 hp2=>?_);refine zL hp2 ?_;intro cs2 hr2;have hr2':=hr2;obtain ⟨bu1,bu2,bu3,bu4,bu5,bu6,bu7,bu8,rfl,bhC⟩:=Y8 hr2;have bhW:=bhC.when_;have bhV:=bhC.value;obtain ⟨bC1,bo1,bq1,rfl,bi1⟩:=bhC.params;obtain ⟨⟨bC2,bo2,bq2,rfl,bi2⟩,⟨bC3,bo3,bq3,rfl,bi3⟩,⟨bC4,bo4,bq4,rfl,bi4⟩,⟨bC5,bo5,bq5,rfl,bi5⟩⟩:=bhC.when_.sls;obtain ⟨bC6,bo6,bq6,rfl,bi6⟩:=bhC.args;obtain ⟨⟨bC7,bo7,bq7,rfl,bi7⟩,⟨bC8,bo8,bq8,rfl,bi8⟩⟩:=bhC.value.sls;refine zW ?_;refine pT ?_;refine Ycl ?_ ?_
   ·refine YH (YV (fun g6=>⟨⟨Zd,by intro p hp;cases hp⟩,?_⟩));refine Yp ?_;refine YH (YV (fun g7=>⟨⟨Zd,by intro p hp;cases hp⟩,?_⟩));refine Yp ?_;refine PoS.soft0 (Xd ⟨⟨Zd,by intro p hp;cases hp⟩,?_⟩);refine Yp ?_;refine PoS.soft0 (YG ⟨⟨Zd,by intro p hp;cases hp⟩,?_⟩);refine Po.done ?_;exact wN (h:=by exact ⟨g6,g7,_,_,rfl,rfl,rfl,hr1',hr2'⟩)
   refine YH (YV (fun g7=>⟨⟨Zd,by intro p hp;cases hp⟩,?_⟩));refine Yp ?_;refine YH (YV (fun g6=>⟨⟨Zd,by intro p hp;cases hp⟩,?_⟩));refine Yp ?_;refine PoS.soft0 (YG ⟨⟨Zd,by intro p hp;cases hp⟩,?_⟩);refine Yp ?_;refine PoS.soft0 (Xd ⟨⟨Zd,by intro p hp;cases hp⟩,?_⟩);refine Po.done ?_;refine zW ?_;exact midP (H1:=[(g7,_),(g6,_)]) (List.Perm.swap _ _ _) ⟨g6,g7,_,_,rfl,rfl,rfl,hr1',hr2'⟩ Zw Zb
  rintro σ fz' H' ⟨g6,g7,ca,cb,rfl,rfl,rfl,hr1,hr2⟩;obtain ⟨au1,au2,au3,au4,au5,au6,au7,au8,rfl,ahC⟩:=Y8 hr1;have ahW:=ahC.when_;have ahV:=ahC.value;obtain ⟨aC1,ao1,aq1,rfl,ai1⟩:=ahC.params;obtain ⟨⟨aC2,ao2,aq2,rfl,ai2⟩,⟨aC3,ao3,aq3,rfl,ai3⟩,⟨aC4,ao4,aq4,rfl,ai4⟩,⟨aC5,ao5,aq5,rfl,ai5⟩⟩:=ahC.when_.sls;obtain ⟨aC6,ao6,aq6,rfl,ai6⟩:=ahC.args;obtain ⟨⟨aC7,ao7,aq7,rfl,ai7⟩,⟨aC8,ao8,aq8,rfl,ai8⟩⟩:=ahC.value.sls;obtain ⟨bu1,bu2,bu3,bu4,bu5,bu6,bu7,bu8,rfl,bhC⟩:=Y8 hr2;have bhW:=bhC.when_;have bhV:=bhC.value;obtain ⟨bC1,bo1,bq1,rfl,bi1⟩:=bhC.params;obtain ⟨⟨bC2,bo2,bq2,rfl,bi2⟩,⟨bC3,bo3,bq3,rfl,bi3⟩,⟨bC4,bo4,bq4,rfl,bi4⟩,⟨bC5,bo5,bq5,rfl,bi5⟩⟩:=bhC.when_.sls;obtain ⟨bC6,bo6,bq6,rfl,bi6⟩:=bhC.args;obtain ⟨⟨bC7,bo7,bq7,rfl,bi7⟩,⟨bC8,bo8,bq8,rfl,bi8⟩⟩:=bhC.value.sls;refine zW ?_
  (((refine zC (fun e1=>?_) (fun e1=>?_));(exact absurd rfl e1);(refine zW ?_)))
  (((refine zC (fun e2=>?_) (fun e2=>?_));(exact absurd rfl e2);(refine zW ?_)));refine zc (etexts9 ai6 bi6) ?_;refine wc (Ye5 ai1 bi1) ?_;refine wG ?_;refine Ya (vs:=[Zy x.when_.op,Zy x.when_.name,Zc aC2 ao2 aq2,Zc aC3 ao3 aq3,Zc aC4 ao4 aq4,Zc aC5 ao5 aq5]) 1 ?_;refine wG ?_;refine Ya (vs:=[Zy x.when_.op,Zy x.when_.name,Zc bC2 bo2 bq2,Zc bC3 bo3 bq3,Zc bC4 bo4 bq4,Zc bC5 bo5 bq5]) 0 ?_;refine zc (Yiy ahW bhW) ?_;refine wG ?_;refine Ya (vs:=[Zy x.value.op,Zy x.value.name,Zk x.value.n,Zc aC7 ao7 aq7,Zc aC8 ao8 aq8]) 1 ?_;refine wG ?_;refine Ya (vs:=[Zy x.value.op,Zy x.value.name,Zk x.value.n,Zc bC7 bo7 bq7,Zc bC8 bo8 bq8]) 0 ?_;refine zc (eexpr ahV bhV) ?_;exact wP (h:=by exact ⟨k+1,by omega,rfl,rfl,rfl,rfl⟩)
 exact wR (h:=rfl)
theorem eaction {x:Action} {w4 w5 w6:Value} (h1:ActionR fz x v1 v2 v3 v4 v5 v6) (h2:ActionR fz x w1 w2 w3 w4 w5 w6):
 QFn prog 17 [.agg #[Zy x.name,v1,Zk x.cost,Zy x.pre.op,Zy x.pre.name,v2,v3,v4,v5,v6],.agg #[Zy x.name,w1,Zk x.cost,Zy x.pre.op,Zy x.pre.name,w2,w3,w4,w5,w6]] fz (Zo true):=by
 have p1:=h1.pre;have p2:=h2.pre;refine GFn.quiet ?_;obtain ⟨aC0,ao0,aq0,rfl,ai0⟩:=h1.params;obtain ⟨⟨aC1,ao1,aq1,rfl,ai1⟩,⟨aC2,ao2,aq2,rfl,ai2⟩,⟨aC3,ao3,aq3,rfl,ai3⟩,⟨aC4,ao4,aq4,rfl,ai4⟩⟩:=h1.pre.sls;obtain ⟨aC5,ao5,aq5,rfl,ai5⟩:=h1.changes;obtain ⟨bC0,bo0,bq0,rfl,bi0⟩:=h2.params;obtain ⟨⟨bC1,bo1,bq1,rfl,bi1⟩,⟨bC2,bo2,bq2,rfl,bi2⟩,⟨bC3,bo3,bq3,rfl,bi3⟩,⟨bC4,bo4,bq4,rfl,bi4⟩⟩:=h2.pre.sls;obtain ⟨bC5,bo5,bq5,rfl,bi5⟩:=h2.changes;refine zF Tryz.func17 Tryz.ntmps17 (fun w0=>?_);refine pX (fun g0=>?_);refine pY (fun g1=>?_);refine zW ?_
 (((refine zC (fun e1=>?_) (fun e1=>?_));rotate_left 1;(exact absurd rfl e1);(refine zW ?_)))
 (((refine zC (fun e2=>?_) (fun e2=>?_));rotate_left 1;(exact absurd rfl e2);(refine zW ?_)));refine zc (Ye5 ai0 bi0) ?_;refine wG ?_;refine Ya (vs:=[Zy x.pre.op,Zy x.pre.name,Zc aC1 ao1 aq1,Zc aC2 ao2 aq2,Zc aC3 ao3 aq3,Zc aC4 ao4 aq4]) 1 ?_;refine wG ?_;refine Ya (vs:=[Zy x.pre.op,Zy x.pre.name,Zc bC1 bo1 bq1,Zc bC2 bo2 bq2,Zc bC3 bo3 bq3,Zc bC4 bo4 bq4]) 0 ?_;refine zc (Yiy p1 p2) ?_;refine wc (Ye6 ai5 bi5) ?_;exact wR (h:=rfl)
theorem Yks {x:Durative} {v8 v9 v10 v11 v12 v13 v14 v15 w4 w5 w6 w7 w8 w9 w10 w11 w12 w13 w14 w15:Value} (h1:DurativeR fz x v1 v2 v3 v4 v5 v6 v7 v8 v9 v10 v11 v12 v13 v14 v15) (h2:DurativeR fz x w1 w2 w3 w4 w5 w6 w7 w8 w9 w10 w11 w12 w13 w14 w15):
 QFn prog 18 [.agg #[Zy x.name,v1,Zk x.duration,Zy x.start.op,Zy x.start.name,v2,v3,v4,v5,Zy x.over.op,Zy x.over.name,v6,v7,v8,v9,Zy x.fin.op,Zy x.fin.name,v10,v11,v12,v13,v14,v15],.agg #[Zy x.name,w1,Zk x.duration,Zy x.start.op,Zy x.start.name,w2,w3,w4,w5,Zy x.over.op,Zy x.over.name,w6,w7,w8,w9,Zy x.fin.op,Zy x.fin.name,w10,w11,w12,w13,w14,w15]] fz (Zo true):=by
 have p1:=h1.start;have p2:=h2.start;have p3:=h1.over;have p4:=h2.over;have p5:=h1.fin;have p6:=h2.fin;refine GFn.quiet ?_;obtain ⟨aC0,ao0,aq0,rfl,ai0⟩:=h1.params;obtain ⟨⟨aC1,ao1,aq1,rfl,ai1⟩,⟨aC2,ao2,aq2,rfl,ai2⟩,⟨aC3,ao3,aq3,rfl,ai3⟩,⟨aC4,ao4,aq4,rfl,ai4⟩⟩:=h1.start.sls;obtain ⟨⟨aC5,ao5,aq5,rfl,ai5⟩,⟨aC6,ao6,aq6,rfl,ai6⟩,⟨aC7,ao7,aq7,rfl,ai7⟩,⟨aC8,ao8,aq8,rfl,ai8⟩⟩:=h1.over.sls;obtain ⟨⟨aC9,ao9,aq9,rfl,ai9⟩,⟨aC10,ao10,aq10,rfl,ai10⟩,⟨aC11,ao11,aq11,rfl,ai11⟩,⟨aC12,ao12,aq12,rfl,ai12⟩⟩:=h1.fin.sls;obtain ⟨aC13,ao13,aq13,rfl,ai13⟩:=h1.atStart;obtain ⟨aC14,ao14,aq14,rfl,ai14⟩:=h1.atEnd;obtain ⟨bC0,bo0,bq0,rfl,bi0⟩:=h2.params;obtain ⟨⟨bC1,bo1,bq1,rfl,bi1⟩,⟨bC2,bo2,bq2,rfl,bi2⟩,⟨bC3,bo3,bq3,rfl,bi3⟩,⟨bC4,bo4,bq4,rfl,bi4⟩⟩:=h2.start.sls;obtain ⟨⟨bC5,bo5,bq5,rfl,bi5⟩,⟨bC6,bo6,bq6,rfl,bi6⟩,⟨bC7,bo7,bq7,rfl,bi7⟩,⟨bC8,bo8,bq8,rfl,bi8⟩⟩:=h2.over.sls;obtain ⟨⟨bC9,bo9,bq9,rfl,bi9⟩,⟨bC10,bo10,bq10,rfl,bi10⟩,⟨bC11,bo11,bq11,rfl,bi11⟩,⟨bC12,bo12,bq12,rfl,bi12⟩⟩:=h2.fin.sls;obtain ⟨bC13,bo13,bq13,rfl,bi13⟩:=h2.atStart;obtain ⟨bC14,bo14,bq14,rfl,bi14⟩:=h2.atEnd;refine zF Tryz.func18 Tryz.ntmps18 (fun w0=>?_);refine pX (fun g0=>?_);refine pY (fun g1=>?_);refine zW ?_
 (((refine zC (fun e1=>?_) (fun e1=>?_));(exact absurd rfl e1);(refine zW ?_)))
 (((refine zC (fun e2=>?_) (fun e2=>?_));(exact absurd rfl e2);(refine zW ?_)));refine zc (Ye5 ai0 bi0) ?_;refine wc (Ye6 ai13 bi13) ?_;refine wc (Ye6 ai14 bi14) ?_;refine wG ?_;refine Ya (vs:=[Zy x.start.op,Zy x.start.name,Zc aC1 ao1 aq1,Zc aC2 ao2 aq2,Zc aC3 ao3 aq3,Zc aC4 ao4 aq4]) 1 ?_;refine wG ?_;refine Ya (vs:=[Zy x.start.op,Zy x.start.name,Zc bC1 bo1 bq1,Zc bC2 bo2 bq2,Zc bC3 bo3 bq3,Zc bC4 bo4 bq4]) 0 ?_;refine zc (Yiy p1 p2) ?_;refine wG ?_;refine Ya (vs:=[Zy x.over.op,Zy x.over.name,Zc aC5 ao5 aq5,Zc aC6 ao6 aq6,Zc aC7 ao7 aq7,Zc aC8 ao8 aq8]) 1 ?_;refine wG ?_;refine Ya (vs:=[Zy x.over.op,Zy x.over.name,Zc bC5 bo5 bq5,Zc bC6 bo6 bq6,Zc bC7 bo7 bq7,Zc bC8 bo8 bq8]) 0 ?_;refine zc (Yiy p3 p4) ?_;refine wG ?_;refine Ya (vs:=[Zy x.fin.op,Zy x.fin.name,Zc aC9 ao9 aq9,Zc aC10 ao10 aq10,Zc aC11 ao11 aq11,Zc aC12 ao12 aq12]) 1 ?_;refine wG ?_;refine Ya (vs:=[Zy x.fin.op,Zy x.fin.name,Zc bC9 bo9 bq9,Zc bC10 bo10 bq10,Zc bC11 bo11 bq11,Zc bC12 bo12 bq12]) 0 ?_;refine zc (Yiy p5 p6) ?_;exact wR (h:=rfl)
theorem edomain {x:Domain} {w4 w5 w6:Value} (h1:DomainR fz x v1 v2 v3 v4 v5 v6) (h2:DomainR fz x w1 w2 w3 w4 w5 w6):
 QFn prog 6 [ZD x v1 v2 v3 v4 v5 v6,ZD x w1 w2 w3 w4 w5 w6] fz (Zo true):=by
 refine GFn.quiet ?_;obtain ⟨⟨aC0,ao0,aq0,rfl,ai0⟩,⟨aC1,ao1,aq1,rfl,ai1⟩,⟨aC2,ao2,aq2,rfl,ai2⟩,⟨aC3,ao3,aq3,rfl,ai3⟩,⟨aC4,ao4,aq4,rfl,ai4⟩,⟨aC5,ao5,aq5,rfl,ai5⟩⟩:=h1.sls;obtain ⟨⟨bC0,bo0,bq0,rfl,bi0⟩,⟨bC1,bo1,bq1,rfl,bi1⟩,⟨bC2,bo2,bq2,rfl,bi2⟩,⟨bC3,bo3,bq3,rfl,bi3⟩,⟨bC4,bo4,bq4,rfl,bi4⟩,⟨bC5,bo5,bq5,rfl,bi5⟩⟩:=h2.sls;have ka2:=ai2.len;have kb2:=bi2.len;have ks2:=ai2.short;subst ka2 kb2;have ka3:=ai3.len;have kb3:=bi3.len;have ks3:=ai3.short;subst ka3 kb3;have ka4:=ai4.len;have kb4:=bi4.len;have ks4:=ai4.short;subst ka4 kb4;have ka5:=ai5.len;have kb5:=bi5.len;have ks5:=ai5.short;subst ka5 kb5;refine zF Tryz.func6 Tryz.ntmps6 (fun w0=>?_);refine pX (fun g0=>?_);refine pY (fun g1=>?_);refine zW ?_
 (((refine zC (fun e1=>?_) (fun e1=>?_));(exact absurd rfl e1);(refine zW ?_)));refine zc (Ye5 ai0 bi0) ?_;refine wc (Ye5 ai1 bi1) ?_;refine zW ?_
 (((refine zC (fun e2=>?_) (fun e2=>?_));(exact absurd rfl e2);(refine zW ?_)))
 (((refine zC (fun e3=>?_) (fun e3=>?_));(exact absurd rfl e3);(refine zW ?_)))
 (((refine zC (fun e4=>?_) (fun e4=>?_));(exact absurd rfl e4);(refine zW ?_)))
 (((refine zC (fun e5=>?_) (fun e5=>?_));(exact absurd rfl e5);(refine zW ?_)));refine Yd (fun q σ fz' H'=>∃ k:Nat,k<=x.predicates.length/\q=x.predicates.length - k/\σ=[(5,Zk k),(3,Zp g1),(2,Zp g0)]/\fz=fz'/\H'=[(g1,Zu #[Zy x.name,Zc bC0 bo0 bq0,Zc bC1 bo1 bq1,Zc bC2 x.predicates.length bq2,Zc bC3 x.functions.length bq3,Zc bC4 x.actions.length bq4,Zc bC5 x.duratives.length bq5] 28),(g0,Zu #[Zy x.name,Zc aC0 ao0 aq0,Zc aC1 ao1 aq1,Zc aC2 x.predicates.length aq2,Zc aC3 x.functions.length aq3,Zc aC4 x.actions.length aq4,Zc aC5 x.duratives.length aq5] 28)]) ⟨0,Z0 _,rfl,rfl,rfl,rfl⟩ Zw Zb ?_;rintro q σ fz' H' ⟨k,hk,rfl,rfl,rfl,rfl⟩;refine wC ?_ ?_<;>intro c2
 ·obtain ⟨y,hy⟩:=Yq (l:=x.predicates) (k:=k) Zi;refine wI ai2 hy (fun p1 hp1=>?_);refine wH hp1.Predicate_name (fun s1=>?_);refine wI bi2 hy (fun p2 hp2=>?_);refine wH hp2.Predicate_name (fun s2=>?_);refine zW ?_
  (((refine zC (fun n1=>?_) (fun n1=>?_));(exact absurd rfl n1);(refine zW ?_)));refine zI ai2 hy (fun p3 hp3=>?_);refine wG ?_;refine YaY hp3.Predicate_params (fun P1 m1 z1 j1=>?_);refine wI bi2 hy (fun p4 hp4=>?_);refine wG ?_;refine YaY hp4.Predicate_params (fun P2 m2 z2 j2=>?_);refine zc (Ye5 j1 j2) ?_;exact wP (h:=by exact ⟨k+1,by omega,rfl,rfl,rfl,rfl⟩)
 refine zW ?_;refine Yd (fun q σ fz' H'=>∃ k:Nat,k<=x.functions.length/\q=x.functions.length - k/\σ=[(6,Zk k),(3,Zp g1),(2,Zp g0)]/\fz=fz'/\H'=[(g1,Zu #[Zy x.name,Zc bC0 bo0 bq0,Zc bC1 bo1 bq1,Zc bC2 x.predicates.length bq2,Zc bC3 x.functions.length bq3,Zc bC4 x.actions.length bq4,Zc bC5 x.duratives.length bq5] 28),(g0,Zu #[Zy x.name,Zc aC0 ao0 aq0,Zc aC1 ao1 aq1,Zc aC2 x.predicates.length aq2,Zc aC3 x.functions.length aq3,Zc aC4 x.actions.length aq4,Zc aC5 x.duratives.length aq5] 28)]) ⟨0,Z0 _,rfl,rfl,rfl,rfl⟩ Zw Zb ?_;rintro q σ fz' H' ⟨k,hk,rfl,rfl,rfl,rfl⟩;refine wC ?_ ?_<;>intro c2
 ·obtain ⟨y,hy⟩:=Yq (l:=x.functions) (k:=k) Zi;refine zWN ?_;refine Xu (fun σ fz' H'=>∃ g6 g7 ca cb,σ=[(6,Zk k),(8,Zp g7),(7,Zp g6),(3,Zp g1),(2,Zp g0)]/\fz=fz'/\H'=(g7,Zu (List.toArray cb) 61)::(g6,Zu (List.toArray ca) 61):: [(g1,Zu #[Zy x.name,Zc bC0 bo0 bq0,Zc bC1 bo1 bq1,Zc bC2 x.predicates.length bq2,Zc bC3 x.functions.length bq3,Zc bC4 x.actions.length bq4,Zc bC5 x.duratives.length bq5] 28),(g0,Zu #[Zy x.name,Zc aC0 ao0 aq0,Zc aC1 ao1 aq1,Zc aC2 x.predicates.length aq2,Zc aC3 x.functions.length aq3,Zc aC4 x.actions.length aq4,Zc aC5 x.duratives.length aq5] 28)]/\functionL.rep fz y ca/\functionL.rep fz y cb) ?_ ?_
  ·refine Wi [] [_,_] ?_;refine wI ai3 hy (fun p1 hp1=>?_);refine zL hp1 ?_;intro cs1 hr1;have hr1':=hr1;obtain ⟨x1,rfl,hY1⟩:=Xh hr1;obtain ⟨F1,f1,y1,rfl,_⟩:=hY1.params;refine wI bi3 hy (fun p2 hp2=>?_);refine zL hp2 ?_;intro cs2 hr2;have hr2':=hr2;obtain ⟨x2,rfl,hY2⟩:=Xh hr2;obtain ⟨F2,f2,y2,rfl,_⟩:=hY2.params;refine zW ?_;refine pT ?_;refine Ycl ?_ ?_
   ·refine YH (YV (fun g6=>⟨⟨Zd,Zx⟩,?_⟩));refine Yp ?_;refine YH (YV (fun g7=>⟨⟨Zd,Zx⟩,?_⟩));refine Yp ?_;refine PoS.soft0 (Xd ⟨⟨Zd,Zx⟩,?_⟩);refine Yp ?_;refine PoS.soft0 (YG ⟨⟨Zd,Zx⟩,?_⟩);refine Po.done ?_;exact wN (h:=by exact ⟨g6,g7,_,_,rfl,rfl,rfl,hr1',hr2'⟩)
   refine YH (YV (fun g7=>⟨⟨Zd,Zx⟩,?_⟩));refine Yp ?_;refine YH (YV (fun g6=>⟨⟨Zd,Zx⟩,?_⟩));refine Yp ?_;refine PoS.soft0 (YG ⟨⟨Zd,Zx⟩,?_⟩);refine Yp ?_;refine PoS.soft0 (Xd ⟨⟨Zd,Zx⟩,?_⟩);refine Po.done ?_;refine zW ?_;exact midP (H1:=(g7,_)::(g6,_):: [_,_]) (List.Perm.swap _ _ _) ⟨g6,g7,_,_,rfl,rfl,rfl,hr1',hr2'⟩ Zw Zb
  rintro σ fz' H' ⟨g6,g7,ca,cb,rfl,rfl,rfl,hr1,hr2⟩;obtain ⟨x1,rfl,hY1⟩:=Xh hr1;obtain ⟨F1,f1,y1,rfl,j1⟩:=hY1.params;obtain ⟨x2,rfl,hY2⟩:=Xh hr2;obtain ⟨F2,f2,y2,rfl,j2⟩:=hY2.params;refine zW ?_
  (((refine zC (fun n1=>?_) (fun n1=>?_));(exact absurd rfl n1);(refine zW ?_)))
  (((refine zC (fun n2=>?_) (fun n2=>?_));(exact absurd rfl n2);(refine zW ?_)))
  (((refine zC (fun n3=>?_) (fun n3=>?_));(exact absurd rfl n3);(refine zW ?_)));refine zc (Ye5 j1 j2) ?_;exact wP (h:=by exact ⟨k+1,by omega,rfl,rfl,rfl,rfl⟩)
 refine zW ?_;refine Yd (fun q σ fz' H'=>∃ k:Nat,k<=x.actions.length/\q=x.actions.length - k/\σ=[(9,Zk k),(3,Zp g1),(2,Zp g0)]/\fz=fz'/\H'=[(g1,Zu #[Zy x.name,Zc bC0 bo0 bq0,Zc bC1 bo1 bq1,Zc bC2 x.predicates.length bq2,Zc bC3 x.functions.length bq3,Zc bC4 x.actions.length bq4,Zc bC5 x.duratives.length bq5] 28),(g0,Zu #[Zy x.name,Zc aC0 ao0 aq0,Zc aC1 ao1 aq1,Zc aC2 x.predicates.length aq2,Zc aC3 x.functions.length aq3,Zc aC4 x.actions.length aq4,Zc aC5 x.duratives.length aq5] 28)]) ⟨0,Z0 _,rfl,rfl,rfl,rfl⟩ Zw Zb ?_;rintro q σ fz' H' ⟨k,hk,rfl,rfl,rfl,rfl⟩;refine wC ?_ ?_<;>intro c2
 ·obtain ⟨y,hy⟩:=Yq (l:=x.actions) (k:=k) Zi;refine wI ai4 hy (fun p1 hp1=>?_);refine zL hp1 ?_;intro cs1 hr1;obtain ⟨y1,y2,y3,y4,y5,y6,rfl,hY1⟩:=XF hr1;refine wI bi4 hy (fun p2 hp2=>?_);refine zL hp2 ?_;intro cs2 hr2;obtain ⟨z1,z2,z3,z4,z5,z6,rfl,hY2⟩:=XF hr2;refine wc (eaction hY1 hY2) ?_;exact wP (h:=by exact ⟨k+1,by omega,rfl,rfl,rfl,rfl⟩)
 refine zW ?_;refine Yd (fun q σ fz' H'=>∃ k:Nat,k<=x.duratives.length/\q=x.duratives.length - k/\σ=[(10,Zk k),(3,Zp g1),(2,Zp g0)]/\fz=fz'/\H'=[(g1,Zu #[Zy x.name,Zc bC0 bo0 bq0,Zc bC1 bo1 bq1,Zc bC2 x.predicates.length bq2,Zc bC3 x.functions.length bq3,Zc bC4 x.actions.length bq4,Zc bC5 x.duratives.length bq5] 28),(g0,Zu #[Zy x.name,Zc aC0 ao0 aq0,Zc aC1 ao1 aq1,Zc aC2 x.predicates.length aq2,Zc aC3 x.functions.length aq3,Zc aC4 x.actions.length aq4,Zc aC5 x.duratives.length aq5] 28)]) ⟨0,Z0 _,rfl,rfl,rfl,rfl⟩ Zw Zb ?_;rintro q σ fz' H' ⟨k,hk,rfl,rfl,rfl,rfl⟩;refine wC ?_ ?_<;>intro c2
 ·obtain ⟨y,hy⟩:=Yq (l:=x.duratives) (k:=k) Zi;refine wI ai5 hy (fun p1 hp1=>?_);refine zL hp1 ?_;intro cs1 hr1;obtain ⟨y1,y2,y3,y4,y5,y6,y7,y8,y9,y10,y11,y12,y13,y14,y15,rfl,hY1⟩:=Xy hr1;refine wI bi5 hy (fun p2 hp2=>?_);refine zL hp2 ?_;intro cs2 hr2;obtain ⟨z1,z2,z3,z4,z5,z6,z7,z8,z9,z10,z11,z12,z13,z14,z15,rfl,hY2⟩:=Xy hr2;refine wc (Yks hY1 hY2) ?_;exact wP (h:=by exact ⟨k+1,by omega,rfl,rfl,rfl,rfl⟩)
 exact wR (h:=rfl)
theorem ecmp (ha:AtomR fz a va) (hb:AtomR fz a vb):QFn prog 66 [.agg #[Zy a.name,va],.agg #[Zy a.name,vb]] fz (Zk 0):=by
 have:=Yhj ha hb;rw [(YdK a a).2 rfl] at this;exact this
theorem eatoms {m d:Nat} {l:List Atom} (h1:Sl atomL fz A n c l) (h2:Sl atomL fz B m d l):QFn prog 34 [Zc A n c,Zc B m d] fz (Zo true):=by
 have k1:=h1.len;have k2:=h2.len;have k3:=h1.short;subst k1 k2;refine qF Tryz.func34 Tryz.ntmps34 (fun w0=>?_);refine zW ?_
 (((refine zC (fun c1=>?_) (fun c1=>?_));(exact absurd rfl c1);(refine zW ?_)));refine Yd (fun q σ fz' H'=>∃ k:Nat,k<=l.length/\q=l.length - k/\σ=[(5,Zk k),(0,Zc A l.length c),(1,Zc B l.length d)]/\fz=fz'/\H'=[]) ⟨0,Z0 _,rfl,rfl,rfl,rfl⟩ Zw Zb ?_;rintro q σ fz' H' ⟨k,hk,rfl,rfl,rfl,rfl⟩;refine wC ?_ ?_<;>intro c2
 ·obtain ⟨x,hx⟩:=Yq (l:=l) (k:=k) Zi;refine wI h1 hx (fun p1 hp1=>?_);refine zL hp1 ?_;intro cs1 hr1;obtain ⟨v1,rfl,hY1⟩:=YN hr1;refine wI h2 hx (fun p2 hp2=>?_);refine zL hp2 ?_;intro cs2 hr2;obtain ⟨v2,rfl,hY2⟩:=YN hr2;refine wc (ecmp hY1 hY2) ?_;refine zW ?_
  (((refine zC (fun n1=>?_) (fun n1=>?_));(exact absurd rfl n1);(refine zW ?_)));exact wP (h:=by exact ⟨k+1,by omega,rfl,rfl,rfl,rfl⟩)
 exact wR (h:=rfl)
theorem evalues {m d:Nat} {l:List Value_} (h1:Sl valueL fz A n c l) (h2:Sl valueL fz B m d l):QFn prog 35 [Zc A n c,Zc B m d] fz (Zo true):=by
 have k1:=h1.len;have k2:=h2.len;have k3:=h1.short;subst k1 k2;refine qF Tryz.func35 Tryz.ntmps35 (fun w0=>?_);refine zW ?_
 (((refine zC (fun c1=>?_) (fun c1=>?_));(exact absurd rfl c1);(refine zW ?_)));refine Yd (fun q σ fz' H'=>∃ k:Nat,k<=l.length/\q=l.length - k/\σ=[(5,Zk k),(0,Zc A l.length c),(1,Zc B l.length d)]/\fz=fz'/\H'=[]) ⟨0,Z0 _,rfl,rfl,rfl,rfl⟩ Zw Zb ?_;rintro q σ fz' H' ⟨k,hk,rfl,rfl,rfl,rfl⟩;refine wC ?_ ?_<;>intro c2
 ·obtain ⟨x,hx⟩:=Yq (l:=l) (k:=k) Zi;refine wI h1 hx (fun p1 hp1=>?_);refine wG ?_;refine XL T Zz Zz Zz hp1.Value__n (fun i1=>?_);refine wI h2 hx (fun p2 hp2=>?_);refine wG ?_;refine XL T Zz Zz Zz hp2.Value__n (fun i2=>?_);refine zW ?_
  (((refine zC (fun n1=>?_) (fun n1=>?_));(exact absurd rfl n1);(refine zW ?_)));refine zI h1 hx (fun p3 hp3=>?_);refine wL hp3.Value__fluent ?_;intro cs1 hr1;obtain ⟨v1,rfl,hY1⟩:=YN hr1;refine wI h2 hx (fun p4 hp4=>?_);refine wL hp4.Value__fluent ?_;intro cs2 hr2;obtain ⟨v2,rfl,hY2⟩:=YN hr2;refine wc (ecmp hY1 hY2) ?_;refine zW ?_
  (((refine zC (fun n2=>?_) (fun n2=>?_));(exact absurd rfl n2);(refine zW ?_)));exact wP (h:=by exact ⟨k+1,by omega,rfl,rfl,rfl,rfl⟩)
 exact wR (h:=rfl)
theorem eproblem {x:Problem} {w4 w5 w6 w7:Value} (h1:ProblemR fz x v1 v2 v3 v4 v5 v6 v7) (h2:ProblemR fz x w1 w2 w3 w4 w5 w6 w7):
 QFn prog 9 [ZP x v1 v2 v3 v4 v5 v6 v7,ZP x w1 w2 w3 w4 w5 w6 w7] fz (Zo true):=by
 have p1:=h1.goal;have p2:=h2.goal;refine GFn.quiet ?_;obtain ⟨⟨aC0,ao0,aq0,rfl,ai0⟩,⟨aC1,ao1,aq1,rfl,ai1⟩,⟨aC2,ao2,aq2,rfl,ai2⟩⟩:=h1.sls;obtain ⟨⟨aC3,ao3,aq3,rfl,ai3⟩,⟨aC4,ao4,aq4,rfl,ai4⟩,⟨aC5,ao5,aq5,rfl,ai5⟩,⟨aC6,ao6,aq6,rfl,ai6⟩⟩:=h1.goal.sls;obtain ⟨⟨bC0,bo0,bq0,rfl,bi0⟩,⟨bC1,bo1,bq1,rfl,bi1⟩,⟨bC2,bo2,bq2,rfl,bi2⟩⟩:=h2.sls;obtain ⟨⟨bC3,bo3,bq3,rfl,bi3⟩,⟨bC4,bo4,bq4,rfl,bi4⟩,⟨bC5,bo5,bq5,rfl,bi5⟩,⟨bC6,bo6,bq6,rfl,bi6⟩⟩:=h2.goal.sls;refine zF Tryz.func9 Tryz.ntmps9 (fun w0=>?_);refine pX (fun g0=>?_);refine pY (fun g1=>?_);refine zW ?_
 (((refine zC (fun e1=>?_) (fun e1=>?_));rotate_left 1;(exact absurd rfl e1);(refine zW ?_)))
 (((refine zC (fun e2=>?_) (fun e2=>?_));rotate_left 1;(exact absurd rfl e2);(refine zW ?_)));refine zc (Ye5 ai0 bi0) ?_;refine wc (eatoms ai1 bi1) ?_;refine wc (evalues ai2 bi2) ?_;refine wG ?_;refine Ya (vs:=[Zy x.goal.op,Zy x.goal.name,Zc aC3 ao3 aq3,Zc aC4 ao4 aq4,Zc aC5 ao5 aq5,Zc aC6 ao6 aq6]) 1 ?_;refine wG ?_;refine Ya (vs:=[Zy x.goal.op,Zy x.goal.name,Zc bC3 bo3 bq3,Zc bC4 bo4 bq4,Zc bC5 bo5 bq5,Zc bC6 bo6 bq6]) 0 ?_;refine zc (Yiy p1 p2) ?_;exact wR (h:=rfl)
end Go.Proofs.YtaaanbkahfeknaaGreatDoor
