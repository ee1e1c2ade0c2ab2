/- The texts NM, NP, NR, NT, UO, NU, NV, NW, NX, laid together. Conditions: none. -/
import Derived.Test.YtaaanbkahfeknaaGreatDoorCNK
set_option linter.all false
set_option maxHeartbeats 16000000
set_option maxRecDepth 20000
open Go.Lx Go.RowKit
attribute [local instance 10] Classical.propDecidable
open Go.Proofs.Tryz (prog)
namespace Go.Proofs.YtaaanbkahfeknaaGreatDoor
variable {α:Type} {fz:FZ} {A:Option Addr} {n:Nat}
theorem Ykz {a:Atom} {va:Value} (hR:AtomR fz a va) (hW:a.args.length<=1000000000):
 GFn prog 38 [.agg #[Zy a.name,va]] fz [] (fun r fz' H'=>H'=[]/\∃ va',r=.agg #[Zy a.name,va']/\AtomR fz' a va'):=by
 obtain ⟨A,n,c,rfl,ia⟩:=hR.args;have l1:=ia.len;refine zF Tryz.func38 Tryz.ntmps38 (fun w0=>?_);refine zWN ?_;intros;rename_i g1 g2;refine Yab [_,_] ?_;refine zW ?_;intros;refine pU ?_;refine Yt (Ym [] [_,_] Zz (YbR ia Zi) (fun v5 fz5 H5 hle5 hR5=>⟨⟨hle5,Zx⟩,?_⟩));obtain ⟨A5,c5,rfl,_,_⟩:=hR5.form;refine Ch.qk ⟨hle5,Zx⟩ (Yak ?_);refine Ch.hard0 (Does.perm Zq (YG ?_));refine Ch.done ?_;refine zW ?_;intros;refine W4 (i:=0) rfl (fun fz6 hle6 hf6=>?_);obtain ⟨A6,c6,e6,h6⟩:=hR5.sl hle6 (fun p hp=>hf6 p (by simp [hp])) Zi;injection e6 with e61 e62 e63
 subst e61;subst e63;exact ⟨rfl,_,rfl,⟨hR.name,h6.is⟩⟩
theorem cloneC_q {c:Nat} {l:List Change} (h:Sl changeL fz A n c l) (hn:n<=100000000):
 GFn prog 60 [Zc A n c] fz [] (fun v fz' H'=>Grow changeL 95 fz' v n H' l):=by
 have l1:=h.len;refine zF Tryz.func60 Tryz.ntmps60 (fun w0=>?_);refine zV ?_;intros;refine zG ?_;refine XU (fun eA=>?_) (fun eA=>?_)
 ·subst eA;have hl:l=[]:=by
   rcases h.elem with h0 | ⟨_,h0,_⟩
   ·exact List.eq_nil_of_length_eq_zero Zi
   cases h0
  subst hl;simp at l1;subst l1;refine zV ?_;intros;refine Ydj (H':=[]) (H2:=[]) rfl rfl (Zr _) (fun fz3 hle3 _=>Grow.nil _ _ _)
 refine zV ?_;intros;refine Yc (Wm (fun gb=>?_));refine zV ?_;intros;refine Yc (W8 T (Hr:=[]) (n:=0) (l:=[]) Zz Zz Zz Zz Zz Zz Zz Zz (Zr _) (Grow.block (ys:=[]) rfl rfl (by intro p hp;cases hp) rfl) Yek h (by show _*288<=_;omega) Zi (fun v' Hs' hO'=>?_));obtain ⟨Av',cv',rfl,_,_⟩:=hO'.form;refine zV ?_;intros;refine Ydj (H':=Hs') (H2:=[]) rfl rfl (by simp) (fun fz3 hle3 _=>(hO'.mono hle3).of (by simp) Zi)
theorem YgS {c:Nat} {l:List Change} (h:Sl changeL fz A n c l) (hn:n<=100000000) (hW:∀ x∈l,x.params.length<=1000000000/\fW x.when_<=1000000000/\x.args.length<=1000000000/\eW x.value<=1000000000):
 GFn prog 22 [Zc A n c] fz [] (fun v fz' H'=>Grow changeL 95 fz' v n H' l):=by
 have l1:=h.len;refine zF Tryz.func22 Tryz.ntmps22 (fun w0=>?_);refine zW ?_;intros;refine Yc (Ym [] [] Zz (cloneC_q h hn) (fun v1 fz1 H1 hle1 hR1=>?_));rw [List.append_nil];obtain ⟨B,d,rfl,_,_⟩:=hR1.form;refine zW ?_;intros;refine Yd (fun q σ fz' H'=>∃ (k:Nat),k<=n/\q=n - k/\σ=[(10,Zk k),(9,Zk n),(8,Zc B n d),(3,Zc B n d)]/\Le fz1 fz'/\Grow changeL 95 fz' (Zc B n d) n H' l) ⟨0,Z0 _,rfl,rfl,Zd,hR1⟩ Zw (List.Sublist.refl _) ?_;rintro q σ fz2 H' ⟨k,hk,rfl,rfl,hle2,hG⟩;refine zW ?_;intros;refine zC ?_ ?_<;>intro c1
 ·obtain ⟨x,hx⟩:=Yq (l:=l) (k:=k) Zi;obtain ⟨w1,w2,w3,w4⟩:=hW x (Zm hx);obtain ⟨gk,cap,cur,e8,rfl,hB⟩:=hG.b Zi;injection e8 with e81 e82 e83
  subst e81;subst e83;obtain ⟨cs,hrx,hcx⟩:=Yl hB hx;obtain ⟨A0,n0,c0,A1,n1,c1,A2,n2,c2,A3,n3,c3,A4,n4,c4,A5,n5,c5,A6,n6,c6,A7,n7,c7,rfl,hR⟩:=YgW hrx;obtain ⟨_,_,_,e0,i0⟩:=id hR.params;injection e0 with e01 e02 e03
  subst e01;subst e02;subst e03;obtain ⟨_,_,_,e5,i5⟩:=id hR.args;injection e5 with e51 e52 e53
  subst e51;subst e52;subst e53;have l0:=i0.len;have l5:=i5.len;refine zW ?_;intros;refine zG ?_;refine Yb rfl ?_;refine zG ?_;refine Ya (vs:=[Zk x.kind,Zc A0 n0 c0,Zy x.when_.op,Zy x.when_.name,Zc A1 n1 c1,Zc A2 n2 c2,Zc A3 n3 c3,Zc A4 n4 c4,Zy x.name,Zc A5 n5 c5,Zy x.value.op,Zy x.value.name,Zk x.value.n,Zc A6 n6 c6,Zc A7 n7 c7]) 0 ?_ (hv:=hcx);refine zWN ?_;intros;rename_i g5;refine Yab [_,_] ?_;refine zW ?_;intros;refine Yu ?_;refine zW ?_;intros
  ((refine zG ?_);refine Ya (vs:=[Zy x.when_.op,Zy x.when_.name,Zc A1 n1 c1,Zc A2 n2 c2,Zc A3 n3 c3,Zc A4 n4 c4]) 0 ?_);refine Yu ?_;refine zW ?_;intros;refine Yu ?_;refine zW ?_;intros
  ((refine zG ?_);refine Ya (vs:=[Zy x.value.op,Zy x.value.name,Zk x.value.n,Zc A6 n6 c6,Zc A7 n7 c7]) 0 ?_);refine Yu ?_;refine zW ?_;intros;refine pU ?_;refine Yt (Ym [] [_,_] Zz (Wf i0 Zi) (fun v5 fz5 H5 hle5 hR5=>⟨⟨hle5,Zx⟩,?_⟩));obtain ⟨A8,c8,rfl,_,_⟩:=hR5.form;refine Yt (Ym [] (H5++ [_,_]) Zz (Ybu _ (Zs _) (hR.when_.mono hle5) w2) (fun v6 fz6 H6 hle6 hR6=>⟨⟨hle5.trans hle6,Zx⟩,?_⟩));obtain ⟨rfl,wa,wp,we,wk,rfl,hR6⟩:=hR6;refine Yt (Ym [] (H5++ [_,_]) Zz (YbR (i5.mono (hle5.trans hle6)) Zi) (fun v7 fz7 H7 hle7 hR7=>⟨⟨hle5.trans (hle6.trans hle7),Zx⟩,?_⟩));obtain ⟨A9,c9,rfl,_,_⟩:=hR7.form;have hx7:=hle5.trans (hle6.trans hle7);refine Yt (Ym [] (H7++(H5++ [_,_])) Zz (YgQ _ (Zs _) (hR.value.mono hx7) w4) (fun v8 fz8 H8 hle8 hR8=>⟨⟨hx7.trans hle8,Zx⟩,?_⟩));obtain ⟨rfl,va,vk,rfl,hR8⟩:=hR8;obtain ⟨⟨D1,m1,d1,rfl,_⟩,⟨D2,m2,d2,rfl,_⟩,⟨D3,m3,d3,rfl,_⟩,⟨D4,m4,d4,rfl,_⟩⟩:=id hR6.sls;obtain ⟨⟨D5,m5,d5,rfl,_⟩,⟨D6,m6,d6,rfl,_⟩⟩:=id hR8.sls;refine Ch.hard0 (Does.perm perm2 (YG ?_));refine Ch.hard Zj (DoesQ.does (Ye ?_));refine Ch.hard0 (YG ?_);refine Ch.hard Zj (DoesQ.does (Ye ?_));refine Ch.hard0 (YG ?_);refine Ch.hard Zj (DoesQ.does (Ye ?_));refine Ch.hard0 (YG ?_);refine Ch.done ?_;refine Yc7 ?_;refine Wp.freezeAll (H1:=[_,_]) (H2:=H7++H5) (Zr _) (fun fz9 hle9 hf9=>?_);obtain ⟨A8',c8',e8,i8⟩:=hR5.sl (hle6.trans (hle7.trans (hle8.trans hle9))) (fun p hp=>hf9 p (by simp [hp])) Zi;injection e8 with e81 e82 e83
  subst e81;subst e83;obtain ⟨A9',c9',e9,i9⟩:=hR7.sl (hle8.trans hle9) (fun p hp=>hf9 p (by simp [hp])) Zi;injection e9 with e91 e92 e93
  subst e91;subst e93;have hx9:=hx7.trans (hle8.trans hle9);refine zW ?_;intros;refine zG ?_;refine Yb rfl ?_;refine Yx (Yk (pre:=[_]) (L:=changeL) (j:=k) rfl rfl Yek (Yf7 ({hR with params:=i8.is,when_:=hR6.mono (hle7.trans (hle8.trans hle9)),args:=i9.is,value:=hR8.mono hle9}:ChangeR fz9 x _ _ _ _ _ _ _ _)) (hB.mono hx9) (fun cur1 hB1=>?_));refine zW ?_;intros;exact wP (h:=by exact ⟨k+1,by omega,rfl,rfl,hle2.trans hx9,hB1.grow.of (YbF hx) rfl⟩)
 refine zW ?_;intros;obtain rfl:k=n:=by omega
 exact ret1 rfl rfl (List.Sublist.refl _) hG
theorem Yc8 (f:α->Bs):SWk (ltC (byC f)):=ordS.swk f
theorem Yiu {c:Nat}:GFn prog 53 [Zc A n c] fz [] (fun r fz' H'=>fz=fz'/\∃ g,r=.func (.func 102) #[] #[Zp g]/\H'=[(g,Zu #[Zc A n c] 22)]):=by
 refine zF Tryz.func53 Tryz.ntmps53 (fun w0=>?_);refine pX (fun g1=>?_);refine zW ?_;intros;refine zG ?_;refine Ygn ?_;refine zW ?_;intros;exact ret1 rfl rfl (List.Sublist.refl _) ⟨rfl,g1,rfl,rfl⟩
theorem YeQ {c:Nat} {l:List Param} (h:Sl paramL fz A n c l) (hn:n<=1000000000):
 GFn prog 19 [Zc A n c] fz [] (fun r fz' H'=>Grow paramL 110 fz' r n H' (srtC (byC Param.name) l)):=by
 refine zF Tryz.func19 Tryz.ntmps19 (fun w0=>?_);refine zW ?_;intros;refine Yc (Ym [] [] Zz Yiu (fun v4 fz4 H4 hle4 hR4=>?_));obtain ⟨rfl,g,rfl,rfl⟩:=hR4;refine Seq.freezeAll (H1:=[]) (H2:=[_]) (Zr _) (fun fz5 hle5 hf5=>?_);refine Yc (Ym [] [] Zz (Yi2 (hf5 _ (.head _)) (h.mono hle5) hn byNPa_q (Yc8 _)) (fun v6 fz6 H6 hle6 hR6=>?_));obtain ⟨rfl,hG⟩:=hR6;rw [List.append_nil];refine zW ?_;intros;exact ret1 rfl rfl (List.Sublist.refl _) hG
end Go.Proofs.YtaaanbkahfeknaaGreatDoor
namespace Go.Lx
variable {H:HP} {fz:FZ}
theorem YbX {P:Program} {cx:Cx} {r:Operand->Option Value} {o:Oper} {H1 H2:HP} {K:Value->FZ->HP->Prop} (hp:H.Perm (H1++H2)) (h:∀ fz',Le fz fz'->(∀ p∈H2,fz' p.1=some p.2)->Does P cx o r fz' H1 K):Does P cx o r fz H K:=
 Does.of fun ρ w hr hi=>by
  obtain ⟨fz',a,b,c⟩:=YX H2 fz H1 (hi.perm hp.symm);exact (h fz' a b).run ρ w hr c
end Go.Lx
namespace Go.Proofs.YtaaanbkahfeknaaGreatDoor
variable {d:Domain} {fz:FZ} {v1 v2 v3 v4 v5 v6 vb u1 u2 u3 u4 u5 u6 u7:Value} {n:Nat} {Hs:HP}
theorem p3a {H7 H6:HP} {a b c:Nat × Obj}:(a::b::c::(H7++H6)).Perm (a::(H7++(H6++ [b,c]))):=perm2.cons _
theorem p3b {H7 H6:HP} {a b c:Nat × Obj}:(a::b::c::(H7++H6)).Perm (H7++(a::(H6++ [b,c]))):=p3a.trans List.perm_middle.symm
theorem p3c {H7 H6:HP} {a b c:Nat × Obj}:(a::b::c::(H7++H6)).Perm (H7++(H6++ [a,b,c])):=by
 rw [show H7++(H6++ [a,b,c])=(H7++H6)++ [a,b,c] from by simp [List.append_assoc]];exact Zq (l₁:=[a,b,c])
structure CanSm (d:Domain):Prop where
 t:d.types.length<=1000000
 c:d.constants.length<=1000000
 p:d.predicates.length<=1000000
 f:d.functions.length<=1000000
 a:d.actions.length<=1000000
 u:d.duratives.length<=1000000
 pp:∀ x∈d.predicates,x.params.length<=100000000
 fp:∀ x∈d.functions,x.params.length<=100000000
 ap:∀ x∈d.actions,x.params.length<=100000000/\fW x.pre<=1000000000/\x.changes.length<=1000000/\∀ y∈x.changes,y.params.length<=1000000000/\fW y.when_<=1000000000/\y.args.length<=1000000000/\eW y.value<=1000000000
 up:∀ x∈d.duratives,x.params.length<=100000000/\fW x.start<=1000000000/\fW x.over<=1000000000/\fW x.fin<=1000000000/\x.atStart.length<=1000000/\x.atEnd.length<=1000000/\(∀ y∈x.atStart,y.params.length<=1000000000/\fW y.when_<=1000000000/\y.args.length<=1000000000/\eW y.value<=1000000000)/\∀ y∈x.atEnd,y.params.length<=1000000000/\fW y.when_<=1000000000/\y.args.length<=1000000000/\eW y.value<=1000000000
def canD (d:Domain):Domain:=⟨d.name,srtC (byC Param.name) d.types,srtC (byC Param.name) d.constants,srtC (byC Predicate.name) d.predicates,srtC (byC Function.name) d.functions,srtC (byC Action.name) d.actions,srtC (byC Durative.name) d.duratives⟩
theorem canon_f (hD:DomainR fz d v1 v2 v3 v4 v5 v6) (hS:CanSm d):
 GFn prog 7 [ZD d v1 v2 v3 v4 v5 v6] fz [] (fun r fz' H'=>H'=[]/\∃ u1 u2 u3 u4 u5 u6,r=ZD d u1 u2 u3 u4 u5 u6/\DomainR fz' (canD d) u1 u2 u3 u4 u5 u6):=by
 obtain ⟨⟨A1,n1,c1,rfl,i1⟩,⟨A2,n2,c2,rfl,i2⟩,⟨A3,n3,c3,rfl,i3⟩,⟨A4,n4,c4,rfl,i4⟩,⟨A5,n5,c5,rfl,i5⟩,⟨A6,n6,c6,rfl,i6⟩⟩:=hD.sls;have l1:=i1.len;have l2:=i2.len;have l3:=i3.len;have l4:=i4.len;have l5:=i5.len;have l6:=i6.len;have s1:=hS.t;have s2:=hS.c;have s3:=hS.p;have s4:=hS.f;have s5:=hS.a;have s6:=hS.u;refine zF Tryz.func7 Tryz.ntmps7 (fun w0=>?_);refine pX (fun g1=>?_);refine Yc (YV (fun g2=>?_));refine zWX ?_;intros;refine Yy (Xu (fun σ fz' H'=>∃ (g3:Nat) (B1 B2:Option Addr) (b1 b2:Nat),σ=[(3,Zp g3),(2,Zp g2),(1,Zp g1)]/\Le fz fz'/\
  H'=[(g3,Zu #[Zy d.name,Zc B1 n1 b1,Zc B2 n2 b2,Zn,Zn,Zn,Zn] 28),(g2,Zu #[Ze,Zn,Zn,Zn,Zn,Zn,Zn] 28),(g1,Zu #[Zy d.name,Zc A1 n1 c1,Zc A2 n2 c2,Zc A3 n3 c3,Zc A4 n4 c4,Zc A5 n5 c5,Zc A6 n6 c6] 28)]/\
  Sl paramL fz' B1 n1 b1 (srtC (byC Param.name) d.types)/\Sl paramL fz' B2 n2 b2 (srtC (byC Param.name) d.constants)) ?_ ?_)
 ·refine zWN ?_;intros;refine Wi [] [_,_] ?_;refine zW ?_;intros;refine Ya6 ?_;refine zW ?_;intros;refine pT ?_
  repeat' first
   | refine Po.done ?_
   | (refine Yp ?_)
   | (refine Ycl ?_ ?_)
   | (refine YH (i:=4) (Ym [] _ Zz (YeQ i1 Zi) (fun v6 fz6 H6 hle6 hR6=>⟨⟨hle6,Zkx⟩,?_⟩));obtain ⟨B1,b1,rfl,_,_⟩:=hR6.form)
   | (refine YH (i:=7) (Ym [] _ Zz (YeQ (i2.mono hle6) Zi) (fun v7 fz7 H7 hle7 hR7=>⟨⟨hle6.trans hle7,Zkx⟩,?_⟩));obtain ⟨B2,b2,rfl,_,_⟩:=hR7.form)
   | refine PoS.qk ⟨hle6.trans hle7,Zkx⟩ (Yak ?_)
   | refine YH (i:=9) (YV (fun g3=>⟨⟨Zd,Zkx⟩,?_⟩))
   | refine YH (i:=9) (YV (fun g3=>⟨⟨hle6,Zkx⟩,?_⟩))
   | refine YH (i:=9) (YV (fun g3=>⟨⟨hle6.trans hle7,Zkx⟩,?_⟩))
   | refine PoS.hard0 (Does.perm p3a (YG ?_))
   | refine PoS.hard0 (Does.perm p3b (YG ?_))
   | refine PoS.hard0 (Does.perm p3c (YG ?_))
  all_goals
   refine midF (σ':=[(3,Zp g3),(2,Zp g2),(1,Zp g1)]) (H':=[_,_,_]) (Zr _) (fun fz8 hle8 hf8=>?_) Zw;obtain ⟨B1',b1',e1,j1⟩:=hR6.sl (hle7.trans hle8) (fun p hp=>hf8 p (by simp [hp])) Zi;injection e1 with e11 e12 e13
   subst e11;subst e13;obtain ⟨B2',b2',e2,j2⟩:=hR7.sl hle8 (fun p hp=>hf8 p (by simp [hp])) Zi;injection e2 with e21 e22 e23
   subst e21;subst e23;exact ⟨g3,_,_,_,_,rfl,hle6.trans (hle7.trans hle8),rfl,j1,j2⟩
 rintro σ fz1 H' ⟨g3,B1,B2,b1,b2,rfl,hle1,rfl,j1,j2⟩;refine zW ?_;intros;refine Yd (fun q σ fz' H'=>∃ (k:Nat) (v:Value) (Hp:HP),k<=n3/\q=n3 - k/\σ=[(24,Zk k),(23,Zk n3),(22,Zc A3 n3 c3),(3,Zp g3),(2,Zp g2),(1,Zp g1)]/\Le fz1 fz'/\
  H'=(g3,Zu #[Zy d.name,Zc B1 n1 b1,Zc B2 n2 b2,v,Zn,Zn,Zn] 28)::(g2,Zu #[Ze,Zn,Zn,Zn,Zn,Zn,Zn] 28)::(g1,Zu #[Zy d.name,Zc A1 n1 c1,Zc A2 n2 c2,Zc A3 n3 c3,Zc A4 n4 c4,Zc A5 n5 c5,Zc A6 n6 c6] 28)::Hp/\Grow predicateL 59 fz' v k Hp (d.predicates.take k)) ⟨0,_,[],Z0 _,rfl,rfl,Zd,rfl,Grow.nil _ _ _⟩ Zw Zb ?_
 rintro q σ fz2 H' ⟨k,v,Hp,hk,rfl,rfl,hle2,rfl,hG⟩;obtain ⟨B3,b3,rfl,_,_⟩:=hG.form;refine zW ?_;intros;refine zC ?_ ?_<;>intro f1
 ·obtain ⟨x,hx⟩:=Yq (l:=d.predicates) (k:=k) Zi;have w1:=hS.pp x (Zm hx);refine zW ?_;intros;refine zI (i3.mono (hle1.trans hle2)) hx (fun p1 hp1=>?_);refine zL hp1 ?_;intro cs hcs;obtain ⟨X0,x0,y0,rfl,hR⟩:=Wx hcs;obtain ⟨_,_,_,e0,ix⟩:=id hR.params;injection e0 with e01 e02 e03
  subst e01;subst e02;subst e03;have l0:=ix.len;refine zWN ?_;intros;rename_i g5;refine Yab [_,_] ?_;refine zW ?_;intros;refine Yu (Yu (Yu (Yu ?_)));refine zW ?_;intros;refine pU ?_;refine Yt (Ym [] (_::_::_::_::Hp) Zz (Wf ix Zi) (fun v8 fz8 H8 hle8 hR8=>⟨⟨hle8,Zx⟩,?_⟩));obtain ⟨A8,c8,rfl,_,_⟩:=hR8.form;refine Ch.qk ⟨hle8,Zx⟩ (Yak ?_);refine Yt (YbX (H1:=_::_::_::_::Hp) (H2:=H8) Zq (fun fz9 hle9 hf9=>?_));obtain ⟨A9,c9,e9,i9⟩:=hR8.sl hle9 hf9 Zi;injection e9 with e91 e92 e93
  subst e91;subst e93;refine Yv (cs:=[Zy x.name,Zc A8 x0 c8]) (fun gb=>⟨⟨hle8.trans hle9,Zx⟩,?_⟩);refine Yt (Y3 (Hr:=[_,_,_,_,_]) (d:=x) (Zr _) (hG.mono (hle8.trans hle9)) YW (.head _) (Ya1 ⟨hR.name,i9.is⟩) (fun v10 H10 hO10=>⟨⟨hle8.trans hle9,Zx⟩,?_⟩));obtain ⟨A10,c10,rfl,_,_⟩:=hO10.form;refine Ch.hard0 (WN ?_);refine Ch.done ?_;refine zW ?_;intros;exact YJ ⟨k+1,_,H10,by omega,rfl,rfl,hle2.trans (hle8.trans hle9),rfl,hO10.of (by rw [List.take_add_one,hx];rfl) rfl⟩ Zi Zw ((List.Sublist.refl _).cons _ |>.cons _)
 obtain rfl:n3=k:=by omega
 rw [Zl Zi] at hG;refine zW ?_;intros;refine Yd (fun q σ fz' H'=>∃ (k:Nat) (v:Value) (Hq:HP),k<=n4/\q=n4 - k/\σ=[(43,Zk k),(42,Zk n4),(41,Zc A4 n4 c4),(3,Zp g3),(2,Zp g2),(1,Zp g1)]/\Le fz2 fz'/\
  H'=(g3,Zu #[Zy d.name,Zc B1 n1 b1,Zc B2 n2 b2,Zc B3 n3 b3,v,Zn,Zn] 28)::(g2,Zu #[Ze,Zn,Zn,Zn,Zn,Zn,Zn] 28)::(g1,Zu #[Zy d.name,Zc A1 n1 c1,Zc A2 n2 c2,Zc A3 n3 c3,Zc A4 n4 c4,Zc A5 n5 c5,Zc A6 n6 c6] 28)::(Hp++Hq)/\Grow functionL 61 fz' v k Hq (d.functions.take k)) ⟨0,_,[],Z0 _,rfl,rfl,Zd,by rw [List.append_nil],Grow.nil _ _ _⟩ Zw (List.Sublist.refl _) ?_
 rintro q σ fz3 H' ⟨k,v,Hq4,hk,rfl,rfl,hle3,rfl,hG4⟩;obtain ⟨B4,b4,rfl,_,_⟩:=hG4.form;refine zW ?_;intros;refine zC ?_ ?_<;>intro f1
 ·obtain ⟨x,hx⟩:=Yq (l:=d.functions) (k:=k) Zi;have w1:=hS.fp x (Zm hx);refine zW ?_;intros;refine zI (i4.mono (hle1.trans (hle2.trans hle3))) hx (fun p1 hp1=>?_);refine zL hp1 ?_;intro cs hcs;obtain ⟨X0,x0,y0,rfl,hR⟩:=WP hcs;obtain ⟨_,_,_,e0,ix⟩:=id hR.params;injection e0 with e01 e02 e03
  subst e01;subst e02;subst e03;have l0:=ix.len;refine zW ?_;intros;rename_i g5;refine Yc (Ym [] (_::_::_::_::(Hp++Hq4)) Zz (Wf ix Zi) (fun v8 fz8 H8 hle8 hR8=>?_));obtain ⟨A8,c8,rfl,_,_⟩:=hR8.form;refine Seq.freezeAll (H1:=_::_::_::_::(Hp++Hq4)) (H2:=H8) Zq (fun fz9 hle9 hf9=>?_);obtain ⟨A9,c9,e9,i9⟩:=hR8.sl hle9 hf9 Zi;injection e9 with e91 e92 e93
  subst e91;subst e93;refine zW ?_;intros;refine Yc (Yv (cs:=[Zy x.name,Zc A8 x0 c8,Zk x.lo,Zk x.hi]) (fun gb=>?_));refine Yc (Y3 (Hr:=_::_::_::_::_::Hp) (d:=x) (Zr _) (hG4.mono (hle8.trans hle9)) Y6 (.head _) (Ybk ⟨hR.name,i9.is,hR.lo,hR.hi⟩) (fun v10 H10 hO10=>?_));obtain ⟨A10,c10,rfl,_,_⟩:=hO10.form;refine zW ?_;intros;exact YJ ⟨k+1,_,H10,by omega,rfl,rfl,hle3.trans (hle8.trans hle9),rfl,hO10.of (by rw [List.take_add_one,hx];rfl) rfl⟩ Zi Zw ((List.Sublist.refl _).cons _ |>.cons _)
 obtain rfl:n4=k:=by omega
 rw [Zl Zi] at hG4;refine zW ?_;intros;refine Yd (fun q σ fz' H'=>∃ (k:Nat) (v:Value) (Hq:HP),k<=n5/\q=n5 - k/\σ=[(61,Zk k),(60,Zk n5),(59,Zc A5 n5 c5),(3,Zp g3),(2,Zp g2),(1,Zp g1)]/\Le fz3 fz'/\
  H'=(g3,Zu #[Zy d.name,Zc B1 n1 b1,Zc B2 n2 b2,Zc B3 n3 b3,Zc B4 n4 b4,v,Zn] 28)::(g2,Zu #[Ze,Zn,Zn,Zn,Zn,Zn,Zn] 28)::(g1,Zu #[Zy d.name,Zc A1 n1 c1,Zc A2 n2 c2,Zc A3 n3 c3,Zc A4 n4 c4,Zc A5 n5 c5,Zc A6 n6 c6] 28)::((Hp++Hq4)++Hq)/\Grow actionL 47 fz' v k Hq (d.actions.take k)) ⟨0,_,[],Z0 _,rfl,rfl,Zd,by rw [List.append_nil],Grow.nil _ _ _⟩ Zw (List.Sublist.refl _) ?_
 rintro q σ fz4 H' ⟨k,v,Hq5,hk,rfl,rfl,hle4,rfl,hG5⟩;obtain ⟨B5,b5,rfl,_,_⟩:=hG5.form;refine zW ?_;intros;refine zC ?_ ?_<;>intro f1
 ·obtain ⟨x,hx⟩:=Yq (l:=d.actions) (k:=k) Zi;obtain ⟨w1,w2,w3,w4⟩:=hS.ap x (Zm hx);refine zW ?_;intros;refine zI (i5.mono (hle1.trans (hle2.trans (hle3.trans hle4)))) hx (fun p1 hp1=>?_);refine zL hp1 ?_;intro cs hcs;obtain ⟨X0,x0,y0,X1,x1,y1,X2,x2,y2,X3,x3,y3,X4,x4,y4,X5,x5,y5,rfl,hR⟩:=YaP hcs;obtain ⟨_,_,_,e0,ix⟩:=id hR.params;injection e0 with e01 e02 e03
  subst e01;subst e02;subst e03;obtain ⟨_,_,_,e5,iy⟩:=id hR.changes;injection e5 with e51 e52 e53
  subst e51;subst e52;subst e53;have l0:=ix.len;have l5':=iy.len;refine zWN ?_;intros;rename_i g5;refine Yab [_,_] ?_;refine zW ?_;intros;refine Yu ?_;refine zW ?_;intros
  ((refine zG ?_);refine Ya (vs:=[Zy x.pre.op,Zy x.pre.name,Zc X1 x1 y1,Zc X2 x2 y2,Zc X3 x3 y3,Zc X4 x4 y4]) 0 ?_);refine Yu ?_;refine zW ?_;intros;refine Yu ?_;refine zW ?_;intros;refine pU ?_;refine Yt (Ym [] (_::_::_::_::(Hp++Hq4++Hq5)) Zz (Wf ix Zi) (fun v8 fz8 H8 hle8 hR8=>⟨⟨hle8,Zx⟩,?_⟩));obtain ⟨A8,c8,rfl,_,_⟩:=hR8.form;refine Yt (Ym [] (H8++_::_::_::_::(Hp++Hq4++Hq5)) Zz (Ybu _ (Zs _) (hR.pre.mono hle8) w2) (fun v9 fz9 H9 hle9 hR9=>⟨⟨hle8.trans hle9,Zx⟩,?_⟩));obtain ⟨rfl,wa,wp,we,wk,rfl,hR9⟩:=hR9;obtain ⟨⟨D1,m1,d1,rfl,_⟩,⟨D2,m2,d2,rfl,_⟩,⟨D3,m3,d3,rfl,_⟩,⟨D4,m4,d4,rfl,_⟩⟩:=id hR9.sls;refine Yt (Ym [] (H8++_::_::_::_::(Hp++Hq4++Hq5)) Zz (YgS (iy.mono (hle8.trans hle9)) Zi w4) (fun v10 fz10 H10 hle10 hR10=>⟨⟨hle8.trans (hle9.trans hle10),Zx⟩,?_⟩));obtain ⟨A9,c9,rfl,_,_⟩:=hR10.form;refine Ch.hard0 (YbX (H1:=_::_::_::_::(Hp++Hq4++Hq5)) (H2:=H10++H8) (by rw [<- List.append_assoc];exact Zq) (fun fz11 hle11 hf11=>?_));obtain ⟨A8',c8',e8,i8⟩:=hR8.sl (hle9.trans (hle10.trans hle11)) (fun p hp=>hf11 p (by simp [hp])) Zi;injection e8 with e81 e82 e83
  subst e81;subst e83;obtain ⟨A9',c9',e9,i9⟩:=hR10.sl hle11 (fun p hp=>hf11 p (by simp [hp])) Zi;injection e9 with e91 e92 e93
  subst e91;subst e93;refine YG ?_;refine Ch.hard Zj (DoesQ.does (Ye ?_));refine Ch.hard0 (YG ?_);refine Ch.hard Zj (DoesQ.does (Ye ?_));refine Ch.hard0 (YG ?_);refine Ch.done ?_;have hx11:=hle8.trans (hle9.trans (hle10.trans hle11));refine zW ?_;intros;refine Yc (Yv (cs:=[Zy x.name,Zc A8 x0 c8,Zk x.cost,Zy x.pre.op,Zy x.pre.name,Zc D1 m1 d1,Zc D2 m2 d2,Zc D3 m3 d3,Zc D4 m4 d4,Zc A9 x5 c9]) (fun gb=>?_));refine Yc (Y3 (Hr:=_::_::_::_::_::(Hp++Hq4)) (d:=x) (Zr _) (hG5.mono hx11) Xw (.head _) (YcE ({hR with params:=i8.is,pre:=hR9.mono (hle10.trans hle11),changes:=i9.is}:ActionR fz11 x _ _ _ _ _ _)) (fun v12 H12 hO12=>?_));obtain ⟨A12,c12,rfl,_,_⟩:=hO12.form;refine zW ?_;intros;exact YJ ⟨k+1,_,H12,by omega,rfl,rfl,hle4.trans hx11,rfl,hO12.of (by rw [List.take_add_one,hx];rfl) rfl⟩ Zi Zw ((List.Sublist.refl _).cons _ |>.cons _)
 obtain rfl:n5=k:=by omega
 rw [Zl Zi] at hG5;refine zW ?_;intros;refine Yd (fun q σ fz' H'=>∃ (k:Nat) (v:Value) (Hq:HP),k<=n6/\q=n6 - k/\σ=[(87,Zk k),(86,Zk n6),(85,Zc A6 n6 c6),(3,Zp g3),(2,Zp g2)]/\Le fz4 fz'/\
  H'=(g3,Zu #[Zy d.name,Zc B1 n1 b1,Zc B2 n2 b2,Zc B3 n3 b3,Zc B4 n4 b4,Zc B5 n5 b5,v] 28)::(g2,Zu #[Ze,Zn,Zn,Zn,Zn,Zn,Zn] 28)::(g1,Zu #[Zy d.name,Zc A1 n1 c1,Zc A2 n2 c2,Zc A3 n3 c3,Zc A4 n4 c4,Zc A5 n5 c5,Zc A6 n6 c6] 28)::((Hp++Hq4++Hq5)++Hq)/\Grow durativeL 50 fz' v k Hq (d.duratives.take k)) ⟨0,_,[],Z0 _,rfl,rfl,Zd,by rw [List.append_nil],Grow.nil _ _ _⟩ Zw (List.Sublist.refl _) ?_
 rintro q σ fz5 H' ⟨k,v,Hq6,hk,rfl,rfl,hle5,rfl,hG6⟩;obtain ⟨B6,b6,rfl,_,_⟩:=hG6.form;refine zW ?_;intros;refine zC ?_ ?_<;>intro f1
 ·obtain ⟨x,hx⟩:=Yq (l:=d.duratives) (k:=k) Zi;obtain ⟨w1,w2,w3,w4,w5,w6,w7,w8⟩:=hS.up x (Zm hx);refine zW ?_;intros;refine zI (i6.mono (hle1.trans (hle2.trans (hle3.trans (hle4.trans hle5))))) hx (fun p1 hp1=>?_);refine zL hp1 ?_;intro cs hcs;obtain ⟨X0,x0,y0,X1,x1,y1,X2,x2,y2,X3,x3,y3,X4,x4,y4,X5,x5,y5,X6,x6,y6,X7,x7,y7,X8,x8,y8,X9,x9,y9,X10,x10,y10,X11,x11,y11,X12,x12,y12,X13,x13,y13,X14,x14,y14,rfl,hR⟩:=WT hcs;obtain ⟨_,_,_,e0,ix⟩:=id hR.params;injection e0 with e01 e02 e03
  subst e01;subst e02;subst e03;obtain ⟨_,_,_,e5,iy⟩:=id hR.atStart;injection e5 with e51 e52 e53
  subst e51;subst e52;subst e53;obtain ⟨_,_,_,e6,iz⟩:=id hR.atEnd;injection e6 with e61 e62 e63
  subst e61;subst e62;subst e63;have l0:=ix.len;have l13:=iy.len;have l14:=iz.len;refine zWN ?_;intros;rename_i g5;refine Yab [_,_] ?_;refine zW ?_;intros;refine Yu ?_;refine zW ?_;intros
  ((refine zG ?_);refine Ya (vs:=[Zy x.start.op,Zy x.start.name,Zc X1 x1 y1,Zc X2 x2 y2,Zc X3 x3 y3,Zc X4 x4 y4]) 0 ?_);refine Yu ?_;refine zW ?_;intros
  ((refine zG ?_);refine Ya (vs:=[Zy x.over.op,Zy x.over.name,Zc X5 x5 y5,Zc X6 x6 y6,Zc X7 x7 y7,Zc X8 x8 y8]) 0 ?_);refine Yu ?_;refine zW ?_;intros
  ((refine zG ?_);refine Ya (vs:=[Zy x.fin.op,Zy x.fin.name,Zc X9 x9 y9,Zc X10 x10 y10,Zc X11 x11 y11,Zc X12 x12 y12]) 0 ?_);refine Yu ?_;refine zW ?_;intros;refine pU ?_;refine Yt (Ym [] (_::_::_::_::(Hp++Hq4++Hq5++Hq6)) Zz (Wf ix Zi) (fun v8 fz8 H8 hle8 hR8=>⟨⟨hle8,Zx⟩,?_⟩));obtain ⟨A8,c8,rfl,_,_⟩:=hR8.form;refine Yt (Ym [] (H8++_::_::_::_::(Hp++Hq4++Hq5++Hq6)) Zz (Ybu _ (Zs _) (hR.start.mono hle8) w2) (fun v9 fz9 H9 hle9 hR9=>⟨⟨hle8.trans hle9,Zx⟩,?_⟩));obtain ⟨rfl,wSa,wSp,wSe,wSk,rfl,hR9⟩:=hR9;obtain ⟨⟨S1,mS1,eS1,rfl,_⟩,⟨S2,mS2,eS2,rfl,_⟩,⟨S3,mS3,eS3,rfl,_⟩,⟨S4,mS4,eS4,rfl,_⟩⟩:=id hR9.sls;refine Yt (Ym [] (H8++_::_::_::_::(Hp++Hq4++Hq5++Hq6)) Zz (Ybu _ (Zs _) (hR.over.mono (hle8.trans hle9)) w3) (fun v10 fz10 H10 hle10 hR10=>⟨⟨hle8.trans (hle9.trans hle10),Zx⟩,?_⟩));obtain ⟨rfl,wOa,wOp,wOe,wOk,rfl,hR10⟩:=hR10;obtain ⟨⟨O1,mO1,eO1,rfl,_⟩,⟨O2,mO2,eO2,rfl,_⟩,⟨O3,mO3,eO3,rfl,_⟩,⟨O4,mO4,eO4,rfl,_⟩⟩:=id hR10.sls;have hx10:=hle8.trans (hle9.trans hle10);refine Yt (Ym [] (H8++_::_::_::_::(Hp++Hq4++Hq5++Hq6)) Zz (Ybu _ (Zs _) (hR.fin.mono hx10) w4) (fun v11 fz11 H11 hle11 hR11=>⟨⟨hx10.trans hle11,Zx⟩,?_⟩));obtain ⟨rfl,wEa,wEp,wEe,wEk,rfl,hR11⟩:=hR11;obtain ⟨⟨E1,mE1,eE1,rfl,_⟩,⟨E2,mE2,eE2,rfl,_⟩,⟨E3,mE3,eE3,rfl,_⟩,⟨E4,mE4,eE4,rfl,_⟩⟩:=id hR11.sls;refine Ch.hard0 (YbX (H1:=_::_::_::_::(Hp++Hq4++Hq5++Hq6)) (H2:=H8) (Zq (l₁:=H8) (l₂:=_::_::_::_::(Hp++Hq4++Hq5++Hq6))) (fun fz12 hle12 hf12=>?_));obtain ⟨A8',c8',e8,i8⟩:=hR8.sl (hle9.trans (hle10.trans (hle11.trans hle12))) hf12 Zi;injection e8 with e81 e82 e83
  subst e81;subst e83;refine YG ?_;refine Ch.hard Zj (DoesQ.does (Ye ?_));refine Ch.hard0 (YG ?_);refine Ch.hard Zj (DoesQ.does (Ye ?_));refine Ch.hard0 (YG ?_);refine Ch.hard Zj (DoesQ.does (Ye ?_));refine Ch.hard0 (YG ?_);refine Ch.done ?_;have hx12:=hx10.trans (hle11.trans hle12);refine zWN ?_;intros;refine Yab [_,_] ?_;refine zW ?_;intros;refine Yu ?_;refine zW ?_;intros;refine Yu ?_;refine zW ?_;intros;refine pU ?_;refine Yt (Ym [] (_::_::_::_::(Hp++Hq4++Hq5++Hq6)) Zz (YgS (iy.mono hx12) Zi w7) (fun v13 fz13 H13 hle13 hR13=>⟨⟨hle13,Zx⟩,?_⟩));obtain ⟨A13,c13,rfl,_,_⟩:=hR13.form;refine Yt (Ym [] (H13++_::_::_::_::(Hp++Hq4++Hq5++Hq6)) Zz (YgS (iz.mono (hx12.trans hle13)) Zi w8) (fun v14 fz14 H14 hle14 hR14=>⟨⟨hle13.trans hle14,Zx⟩,?_⟩));obtain ⟨A14,c14,rfl,_,_⟩:=hR14.form;refine Ch.hard0 (YbX (H1:=_::_::_::_::(Hp++Hq4++Hq5++Hq6)) (H2:=H14++H13) (by rw [<- List.append_assoc];exact Zq) (fun fz15 hle15 hf15=>?_));obtain ⟨A13',c13',e13,i13⟩:=hR13.sl (hle14.trans hle15) (fun p hp=>hf15 p (by simp [hp])) Zi;injection e13 with e131 e132 e133
  subst e131;subst e133;obtain ⟨A14',c14',e14,i14⟩:=hR14.sl hle15 (fun p hp=>hf15 p (by simp [hp])) Zi;injection e14 with e141 e142 e143
  subst e141;subst e143;refine YG ?_;refine Ch.hard Zj (DoesQ.does (Ye ?_));refine Ch.hard0 (YG ?_);refine Ch.done ?_;have hy15:=hle13.trans (hle14.trans hle15);have hx15:=hx12.trans hy15;refine zW ?_;intros;refine Yc (Yv (cs:=[Zy x.name,Zc A8 x0 c8,Zk x.duration,Zy x.start.op,Zy x.start.name,Zc S1 mS1 eS1,Zc S2 mS2 eS2,Zc S3 mS3 eS3,Zc S4 mS4 eS4,Zy x.over.op,Zy x.over.name,Zc O1 mO1 eO1,Zc O2 mO2 eO2,Zc O3 mO3 eO3,Zc O4 mO4 eO4,Zy x.fin.op,Zy x.fin.name,Zc E1 mE1 eE1,Zc E2 mE2 eE2,Zc E3 mE3 eE3,Zc E4 mE4 eE4,Zc A13 x13 c13,Zc A14 x14 c14]) (fun gb=>?_));refine Yc (Y3 (Hr:=_::_::_::_::_::(Hp++Hq4++Hq5)) (d:=x) (Zr _) (hG6.mono hx15) Y7 (.head _) (Ybl ({hR with params:=(i8.mono hy15).is,start:=hR9.mono (hle10.trans (hle11.trans (hle12.trans hy15))),over:=hR10.mono (hle11.trans (hle12.trans hy15)),fin:=hR11.mono (hle12.trans hy15),atStart:=i13.is,atEnd:=i14.is}:DurativeR fz15 x _ _ _ _ _ _ _ _ _ _ _ _ _ _ _)) (fun v16 H16 hO16=>?_));obtain ⟨A16,c16,rfl,_,_⟩:=hO16.form;refine zW ?_;intros;exact YJ ⟨k+1,_,H16,by omega,rfl,rfl,hle5.trans hx15,rfl,hO16.of (by rw [List.take_add_one,hx];rfl) rfl⟩ Zi Zw ((List.Sublist.refl _).cons _ |>.cons _)
 obtain rfl:n6=k:=by omega
 rw [Zl Zi] at hG6;have hG':=hG.mono (hle3.trans (hle4.trans hle5));have hG4':=hG4.mono (hle4.trans hle5);have hG5':=hG5.mono hle5;refine zW ?_;intros;refine Yc (Does.perm (H':=Hp++(_::_::_::(Hq4++Hq5++Hq6))) (by simp only [List.append_assoc];exact List.perm_append_comm_assoc Hp [_,_,_] _) (Ym Hp _ rfl (sortsPr hG' byNPr_q (Yc8 _) Zi) (fun v20 fz20 H20 hle20 hR20=>?_)));obtain ⟨rfl,hG20⟩:=hR20;refine Seq.freezeAll (H1:=_::_::_::(Hq4++Hq5++Hq6)) (H2:=H20) Zq (fun fz21 hle21 hf21=>?_);obtain ⟨B3',b3',e3,k3⟩:=hG20.sl hle21 hf21 Zi;injection e3 with e31 e32 e33
 subst e31;subst e33;refine zW ?_;intros;refine Yc (Does.perm (H':=Hq4++(_::_::_::(Hq5++Hq6))) (by simp only [List.append_assoc];exact List.perm_append_comm_assoc Hq4 [_,_,_] _) (Ym Hq4 _ rfl (sortsFu (hG4'.mono hle21) byNFu_q (Yc8 _) Zi) (fun v22 fz22 H22 hle22 hR22=>?_)));obtain ⟨rfl,hG22⟩:=hR22;refine Seq.freezeAll (H1:=_::_::_::(Hq5++Hq6)) (H2:=H22) Zq (fun fz23 hle23 hf23=>?_);obtain ⟨B4',b4',e4,k4⟩:=hG22.sl hle23 hf23 Zi;injection e4 with e41 e42 e43
 subst e41;subst e43;refine zW ?_;intros;refine Yc (Does.perm (H':=Hq5++(_::_::_::Hq6)) (List.perm_append_comm_assoc Hq5 [_,_,_] _) (Ym Hq5 _ rfl (sortsAc (hG5'.mono (hle21.trans hle23)) byNAc_q (Yc8 _) Zi) (fun v24 fz24 H24 hle24 hR24=>?_)));obtain ⟨rfl,hG24⟩:=hR24;refine Seq.freezeAll (H1:=_::_::_::Hq6) (H2:=H24) Zq (fun fz25 hle25 hf25=>?_);obtain ⟨B5',b5',e5,k5⟩:=hG24.sl hle25 hf25 Zi;injection e5 with e51 e52 e53
 subst e51;subst e53;refine zW ?_;intros;refine Yc (Does.perm (H':=Hq6++ [_,_,_]) (Zq (l₁:=Hq6)) (Ym Hq6 _ rfl (sortsDu (hG6.mono (hle21.trans (hle23.trans hle25))) byNDu_q (Yc8 _) Zi) (fun v26 fz26 H26 hle26 hR26=>?_)));obtain ⟨rfl,hG26⟩:=hR26;refine Seq.freezeAll (H1:=[_,_,_]) (H2:=H26) Zq (fun fz27 hle27 hf27=>?_);obtain ⟨B6',b6',e6,k6⟩:=hG26.sl hle27 hf27 Zi;injection e6 with e61 e62 e63
 subst e61;subst e63;refine zW ?_;intros;refine W4 (i:=1) rfl (fun fz28 hle28 hf28=>?_);have z0:=hle23.trans (hle25.trans (hle27.trans hle28));have z1:=hle2.trans (hle3.trans (hle4.trans (hle5.trans (hle21.trans z0))));exact ⟨rfl,_,_,_,_,_,_,rfl,⟨hD.name,(j1.mono z1).is,(j2.mono z1).is,(k3.mono z0).is,(k4.mono (hle25.trans (hle27.trans hle28))).is,(k5.mono (hle27.trans hle28)).is,(k6.mono hle28).is⟩⟩
theorem Yjt {a b:Atom} {va:Value} (ha:AtomR fz a va) (hb:AtomR fz b vb):
 QFn prog 72 [.agg #[Zy a.name,va],.agg #[Zy b.name,vb]] fz (Zo (decide (a=b))):=by
 obtain ⟨A,n,c,rfl,ia⟩:=ha.args;obtain ⟨B,m,d,rfl,ib⟩:=hb.args;refine qF Tryz.func72 Tryz.ntmps72 (fun w0=>?_);refine pX (fun g0=>?_);refine pY (fun g1=>?_);refine zW ?_;intros;refine zC ?_ ?_<;>intro e1
 ·refine zW ?_;intros;refine zb (equalS_q ia ib) (fun f1=>?_) (fun f1=>?_)
  ·refine zW ?_;intros;exact wR (h:=by exact W9 (atom_eta e1 (Zt f1)))
  refine zW ?_;intros;exact wR (h:=by exact Xf (fun h=>Zf f1 (by rw [h])))
 refine zW ?_;intros;exact wR (h:=by exact Xf (fun h=>e1 (by rw [h])))
theorem Yis {g cap:Nat} {cur:List Value} {l:List Atom} {t:TypeId} (hB:GrowB atomL t fz g n cap cur l) (hn:0<n) (hn2:n<=2000000):
 GFn prog 71 [Zv g n cap,.func (.func 72) #[] #[]] fz [(g,Zu cur.toArray t)]
  (fun r fz' H'=>fz=fz'/\∃ m cur',r=Zv g m cap/\H'=[(g,Zu (List.toArray cur') t)]/\GrowB atomL t fz g m cap cur' (cptM l)):=by
 have hl:=hB.len;have hcn:=hB.capn;have hcs:=hB.size;have hmax:=hB.max;unfold maxLen at hmax;have hz:atomL.size=2:=rfl
 -- an atom of the row,as1 it lies there
 have look:∀ {cur':List Value} {l':List Atom} {m i:Nat} {a:Atom},GrowB atomL t fz g m cap cur' l'->l'[i]?=some a->∃ A n c,AtomR fz a (Zc A n c)/\∀ {j:Nat},j=i*2->(cur'.drop j).take 2=[Zy a.name,Zc A n c]:=by
  intro cur' l' m i a hb ha;obtain ⟨cs,hr,hc⟩:=Yl hb ha;obtain ⟨va,rfl,hR⟩:=YN hr;obtain ⟨A,n,c,rfl,_⟩:=id hR.args;exact ⟨A,n,c,hR,fun hj=>by subst hj;exact hc⟩
 refine zF Tryz.func71 Tryz.ntmps71 (fun w0=>?_);refine zW ?_;intros;refine zC ?_ ?_<;>intro c1
 ·have h1:n=1:=by omega
  obtain ⟨x,hx⟩:=Yq (l:=l) (k:=0) Zi;have hcp:cptM l=l:=by
   unfold cptM;rw [hl,h1,Yfa hx (.inl rfl),cpt]
   match l,hl,hx with
   | [y],_,hx=>simpa using hx.symm
   | [],hl,_=>simp at hl;omega
   | _::_::_,hl,_=>simp at hl;omega
  refine zW ?_;intros;exact wR (h:=by exact ⟨rfl,n,cur,rfl,rfl,by rw [hcp];exact hB⟩)
 refine zW ?_;intros;refine Yd (fun q σ fz' H'=>∃ k:Nat,1<=k/\k<=n/\q=n - k/\σ=[(5,Zk k),(0,Zv g n cap),(1,.func (.func 72) #[] #[])]/\fz=fz'/\H'=[(g,Zu cur.toArray t)]/\cpt l k=l.take k) ⟨1,Zs _,by omega,rfl,rfl,rfl,rfl,?_⟩ Zw Zb ?_
 ·obtain ⟨x,hx⟩:=Yq (l:=l) (k:=0) Zi;rw [Yfa hx (.inl rfl),cpt,List.take_add_one,hx];rfl
 rintro q σ fz' H' ⟨k,hk1,hk,rfl,rfl,rfl,rfl,hcp⟩;refine zW ?_;intros;refine zC ?_ ?_<;>intro c2
 ·obtain ⟨x,hx⟩:=Yq (l:=l) (k:=k) Zi;obtain ⟨y,hy⟩:=Yq (l:=l) (k:=k - 1) Zi;obtain ⟨Ax,nx,cx,hRx,hcx⟩:=look hB hx;obtain ⟨Ay,ny,cy,hRy,hcy⟩:=look hB hy;refine zW ?_;intros;refine zG ?_;refine Yb rfl ?_;refine zG ?_;refine Ya (vs:=[Zy x.name,Zc Ax nx cx]) 0 ?_ (hv:=hcx (j:=(k:Int).toNat*2) Zi);refine zW ?_;intros;refine zG ?_;refine Yb rfl ?_;refine zG ?_;refine Ya (vs:=[Zy y.name,Zc Ay ny cy]) 0 ?_ (hv:=hcy (j:=((k:Int) - 1).toNat*2) Zi);refine zW ?_;intros
  ((refine zG ?_);refine Yhm Zz Zz Zz (Yjt hRx hRy) (fun f1=>?_) (fun f1=>?_))
  ·have exy:x=y:=f1;subst exy;have hcp1:cpt l (k+1)=l.take k:=by rw [YhM Zi hx hy,hcp]
   refine zW ?_;intros;refine zG ?_;refine Ycu (z:=2) rfl ?_;refine zW ?_;intros;refine Yd (fun q σ fz' H'=>∃ (j m:Nat) (cur1:List Value),1<=j/\k+j<=n/\q=n - (k+j)/\m<k+j/\σ=[(7,Zk j),(6,Zc (some ⟨g,k*2,none⟩) (n - k) (cap - k)),(5,Zk m),(0,Zv g n cap),(1,.func (.func 72) #[] #[])]/\fz=fz'/\H'=[(g,Zu cur1.toArray t)]/\(cpt l (k+j)).length=m/\GrowB atomL t fz g n cap cur1 (cpt l (k+j)++l.drop m)) ⟨1,k,cur,Zs _,by omega,rfl,by omega,rfl,rfl,rfl,by rw [hcp1,List.length_take];omega,by rw [hcp1,List.take_append_drop];exact hB⟩ Zw Zb ?_;rintro q σ fz' H' ⟨j,m,cur1,hj1,hj,rfl,hm,rfl,rfl,rfl,hcl,hB1⟩;have hat:∀ i,m<=i->(cpt l (k+j)++l.drop m)[i]?=l[i]?:=fun i hi=>by
    rw [List.getElem?_append_right Zi,hcl,List.getElem?_drop,show m+(i - m)=i by omega]
   have hs1:=hB1.size;refine zW ?_;intros;refine zC ?_ ?_<;>intro c3
   ·obtain ⟨u,hu⟩:=Yq (l:=l) (k:=k+j) Zi;obtain ⟨v,hv⟩:=Yq (l:=l) (k:=k+j - 1) Zi;obtain ⟨Au,nu,cu,hRu,hcu⟩:=look hB1 ((hat (k+j) Zi).trans hu);obtain ⟨Av,nv,cv,hRv,hcv⟩:=look hB1 ((hat (k+j - 1) Zi).trans hv);refine zW ?_;intros;refine zG ?_;refine Ya0 rfl ?_;refine zG ?_;refine Ya (vs:=[Zy u.name,Zc Au nu cu]) 0 ?_ (hv:=hcu (j:=(k+(j:Int).toNat)*2) Zi);refine zW ?_;intros;refine zG ?_;refine Ya0 rfl ?_;refine zG ?_;refine Ya (vs:=[Zy v.name,Zc Av nv cv]) 0 ?_ (hv:=hcv (j:=(k+((j:Int) - 1).toNat)*2) Zi);refine zW ?_;intros
    ((refine zG ?_);refine Yhm Zz Zz Zz (Yjt hRu hRv) (fun f2=>?_) (fun f2=>?_))
    ·have euv:u=v:=f2;subst euv;have hc2:cpt l (k+j+1)=cpt l (k+j):=YhM Zi hu hv;refine zW ?_;intros;exact wP (h:=by exact ⟨j+1,m,cur1,by omega,by omega,rfl,by omega,rfl,rfl,rfl,by rw [<- Nat.add_assoc,hc2];exact hcl,by rw [<- Nat.add_assoc,hc2];exact hB1⟩)
    have euv:¬u=v:=f2;have hc2:cpt l (k+j+1)=cpt l (k+j)++ [u]:=Yfa hu (.inr (by rw [hv];intro h;injection h with h;exact euv h.symm));have hset:(cpt l (k+j)++l.drop m).set m u=cpt l (k+j)++ [u]++l.drop (m+1):=by
     rw [List.set_append_right _ _ Zi,hcl,Nat.sub_self,List.drop_eq_getElem_cons Zi,List.set_cons_zero];simp
    refine zW ?_;intros;refine zG ?_;refine Ya0 rfl ?_;refine zG ?_;refine Ya (vs:=[Zy u.name,Zc Au nu cu]) 0 ?_ (hv:=hcu (j:=(k+(j:Int).toNat)*2) Zi);refine zW ?_;intros;refine zG ?_;refine Yb rfl ?_;refine Yx (Yk (pre:=[]) (L:=atomL) (j:=m) rfl rfl YhT (Ww hRu) hB1 (fun cur2 hB2=>?_));refine zW ?_;intros;exact wP (h:=by exact ⟨j+1,m+1,cur2,by omega,by omega,rfl,by omega,rfl,rfl,rfl,by rw [<- Nat.add_assoc,hc2,List.length_append,hcl];rfl,by rw [<- Nat.add_assoc,hc2,<- hset];exact hB2⟩)
   have hkj:k+j=n:=by omega
   refine zW ?_;intros;refine zG ?_;refine Ycu (z:=2) rfl ?_;refine Yx (k_clear T (pre:=[]) (z:=2) Zz Zz Zz rfl rfl Zi Zz Zi rfl (by rw [hs1,hz];omega) (fun cur3 hl3 ht3=>?_));refine zW ?_;intros;refine zG ?_;refine Yjl T Zz Zz Zz Zz Zz Zi ?_;refine zW ?_;intros;rw [hkj] at hcl hB1;exact wR (h:=by exact ⟨rfl,m,cur3,rfl,rfl,by unfold cptM;rw [hl];exact hB1.cut hcl hl3 ht3⟩)
  have exy:¬x=y:=f1;refine zW ?_;intros;exact wP (h:=by exact ⟨k+1,by omega,by omega,rfl,rfl,rfl,rfl,by rw [Yfa hx (.inr (by rw [hy];intro h;injection h with h;exact exy h.symm)),hcp,List.take_add_one,hx];rfl⟩)
 have hk2:n=k:=by omega
 subst hk2;refine zW ?_;intros;exact wR (h:=by exact ⟨rfl,n,cur,rfl,rfl,by unfold cptM;rw [hl,hcp,Zl Zi];exact hB⟩)
section
variable [Dr]
theorem Yir {fz:FZ} {a b:Atom} {va vb:Value} (ha:AtomR fz a va) (hb:AtomR fz b vb):GFn prog 70 [.agg #[Zy a.name,va],.agg #[Zy b.name,vb]] fz [] (fun r fz' H'=>H'=[]/\r=Zk (cmpA a b)):=by
 obtain ⟨A,n,c,rfl,ia⟩:=ha.args;obtain ⟨B,m,d,rfl,ib⟩:=hb.args;refine zF Tryz.func70 Tryz.ntmps70 (fun w0=>?_);refine pX (fun g0=>?_);refine pY (fun g1=>?_);refine zWN ?_;intros;refine Yab [_,_] ?_;refine zW ?_;intros;refine zc (cmpS_q (a:=a.name) (b:=b.name)) ?_;refine zW ?_;intros;refine zc (cmpL_q ia ib) ?_;refine pU ?_;refine Yt (Yv (cs:=[Zk (cmpS a.name b.name),Zk (cmpL a.args b.args)]) (fun gb=>⟨⟨Zd,Zx⟩,?_⟩));refine Yt (Ym [_] [_,_] Zz (or_f (YgT _ _) (YgU _ _) ⟨Zs _,by decide⟩) (fun v2 fz2 H2 hle2 hR2=>?_));obtain ⟨rfl,rfl⟩:=hR2;refine ⟨⟨hle2,Zx⟩,?_⟩;refine Ch.q (XM ⟨⟨hle2,Zx⟩,?_⟩);refine Ch.done ?_;refine zW ?_;intros;exact ret1F rfl rfl (fun fz3 hle3 hf3=>⟨rfl,rfl⟩)
end
theorem psort_f {g cap:Nat} {cur:List Value} {l:List Atom} {t:TypeId} (hB:GrowB atomL t fz g n cap cur l) (hn:0<n) (hn2:n<=2000000):
 GFn prog 69 [Zv g n cap,.func (.func 70) #[] #[]] fz [(g,Zu cur.toArray t)]
  (fun r fz' H'=>r=.tuple #[]/\fz=fz'/\∃ cur' l',H'=[(g,Zu (List.toArray cur') t)]/\GrowB atomL t fz g n cap cur' l'/\l'.Perm l/\Yfk cmpA l'):=
 sortG YbV rfl ⟨_,Tryz.func69,by decide,by decide⟩ YhT (z:=2) rfl Zh
  (fun W=>(Go.Lx.run_isAgg T (t:=83) rfl W).trans rfl) (fun W=>(Go.Lx.run_sizeOf T (t:=83) rfl W).trans rfl) (fun f=>ordA.swo f)
  (enters_of Tryz.func70 Zj rfl) (fun ha hb=>by
   obtain ⟨va,rfl,hA⟩:=YN ha;obtain ⟨vb,rfl,hB⟩:=YN hb;exact @Yir drT _ _ _ _ _ hA hB) hB hn hn2
theorem YfU {f:FuncId} {args:List Value} {v:Value} {R:Value->FZ->HP->Prop} (h:QFn prog f args fz v) (hc:XY prog f) (hR:R v fz []):GFn prog f args fz [] R:=
 GFn.of hc fun w hw=>(h.out w hw).mono fun e w' ⟨he,hf⟩=>⟨v,fz,[],he,hR,⟨fun b o hb=>by
  have h1:=hw.keep b o hb;rw [hf.block b (lt_of_heap h1) (by simp)];exact h1,by simp,by simp⟩,hf,⟨fun _ _ h=>h,fun _ _ _=>rfl,by simp⟩⟩
def GrowZ {α:Type} (L:Lay α) (e:Nat) (fz:FZ) (v:Value) (n:Nat) (Hs:HP) (l:List α):Prop:=(n=0->v=Zn/\Hs=[])/\Grow L e fz v n Hs l
def CptS (l:List Atom):Prop:=l.Nodup/\Yfl l
theorem Yf4 {l:List Atom} (h:Yfl l):∀ i,(cpt l i).Nodup
 | 0=>List.nodup_nil
 | i+1=>by
  have ih:=Yf4 h i;rw [cpt];split
  ·exact ih
  rename_i x hx;split
  ·exact ih
  rename_i hc;refine List.nodup_append.2 ⟨ih,by simp,fun y hy z hz e=>?_⟩;simp at hz;subst hz;subst e;obtain ⟨j,hj⟩:=List.getElem?_of_mem ((YgP i).1 hy);have hji:j<i:=by
   have:=(Zg hj).1;rw [List.length_take] at this;omega
  rw [List.getElem?_take_of_lt hji] at hj;have hlt:=(Zg hx).1;obtain ⟨w,hw⟩:=Yq (l:=l) (k:=i - 1) Zi;have h1:=h (i - 1) i w y Zi hw hx;have h2:¬cmpA w y<0:=by
   by_cases e:j=i - 1
   ·subst e;rw [hj] at hw;injection hw with hw;subst hw;exact h1
   exact h j (i - 1) y w Zi hj hw
  have h3:¬0<cmpA w y:=fun h3=>h1 ((ordA.anti y w).2 h3)
  have e:=ordA.eq0 w y Zi;subst e;exact hc ⟨by omega,hw⟩
theorem cptS_of {l0:List Atom} (h:Yfl l0):CptS (cptM l0):=by
 refine ⟨Yf4 h _,?_⟩;have hs:(cptM l0).Sublist l0:=by have:=Ykx l0 l0.length;rwa [List.take_length] at this
 have hp:l0.Pairwise (fun a b=>¬cmpA b a<0):=List.pairwise_iff_getElem.2 fun i j hi hj hij=>h i j _ _ hij (List.getElem?_eq_getElem hi) (List.getElem?_eq_getElem hj)
 intro i j a b hij ha hb;obtain ⟨hi,rfl⟩:=Zg ha;obtain ⟨hj,rfl⟩:=Zg hb;exact List.pairwise_iff_getElem.1 (hp.sublist hs) i j hi hj hij
theorem CptS.eq {l r:List Atom} (hl:CptS l) (hr:CptS r) (h:∀ a,a∈l↔a∈r):l=r:=by
 have hp:l.Perm r:=(List.perm_ext_iff_of_nodup hl.1 hr.1).2 h;refine hp.eq_of_pairwise (le:=fun a b=>¬cmpA b a<0) (fun a b _ _ h1 h2=>?_) (List.pairwise_iff_getElem.2 fun i j hi hj hij=>hl.2 i j _ _ hij (List.getElem?_eq_getElem hi) (List.getElem?_eq_getElem hj)) (List.pairwise_iff_getElem.2 fun i j hi hj hij=>hr.2 i j _ _ hij (List.getElem?_eq_getElem hi) (List.getElem?_eq_getElem hj));have h3:¬0<cmpA b a:=fun h3=>h2 ((ordA.anti a b).2 h3)
 exact (ordA.eq0 b a Zi).symm
theorem psortA_f {v:Value} {l:List Atom} (h:GrowZ atomL 83 fz v n Hs l) (hn2:n<=2000000):
 GFn prog 69 [v,.func (.func 70) #[] #[]] fz Hs (fun r fz' H'=>r=.tuple #[]/\fz=fz'/\∃ l',GrowZ atomL 83 fz v n H' l'/\l'.Perm l/\Yfk cmpA l'):=by
 rcases Nat.eq_zero_or_pos n with h0 | hp
 ·obtain ⟨rfl,rfl⟩:=h.1 h0;have hl:l=[]:=List.eq_nil_of_length_eq_zero (by rw [h.2.len];exact h0);subst hl;exact YfU sort0A_q ⟨_,Tryz.func69,by decide,by decide⟩ ⟨rfl,rfl,[],h,Zr _,fun i j a b _ ha=>by simp at ha⟩
 obtain ⟨g,cap,cur,rfl,rfl,hb⟩:=h.2.b hp;exact (psort_f hb hp hn2).mono fun r fz' H' ⟨h1,h2,cur',l',h3,h4,h5,h6⟩=>⟨h1,h2,l',⟨fun h=>absurd h Zi,h3 ▸ h4.grow⟩,h5,h6⟩
theorem Ygt {v:Value} {l:List Atom} (h:GrowZ atomL 83 fz v n Hs l) (hn2:n<=2000000):
 GFn prog 71 [v,.func (.func 72) #[] #[]] fz Hs (fun r fz' H'=>fz=fz'/\∃ m,m<=n/\Grow atomL 83 fz r m H' (cptM l)):=by
 rcases Nat.eq_zero_or_pos n with h0 | hp
 ·obtain ⟨rfl,rfl⟩:=h.1 h0;have hl:l=[]:=List.eq_nil_of_length_eq_zero (by rw [h.2.len];exact h0);subst hl;exact YfU Yiz ⟨_,Tryz.func71,by decide,by decide⟩ ⟨rfl,0,by omega,Grow.nil _ _ _⟩
 obtain ⟨g,cap,cur,rfl,rfl,hb⟩:=h.2.b hp;have hbl:=hb.len;exact (Yis hb hp hn2).mono fun r fz' H' ⟨h1,m,cur',h2,h3,h4⟩=>⟨h1,m,by rw [<- h4.len,<- hbl];have:=Yky l l.length;exact this,by rw [h2,h3];exact h4.grow⟩
theorem pinit_f {p:Problem} (hP:ProblemR fz p u1 u2 u3 u4 u5 u6 u7) (hn:p.init.length<=1000000) (hW:∀ a∈p.init,a.args.length<=1000000000):
 GFn prog 37 [ZP p u1 u2 u3 u4 u5 u6 u7] fz []
  (fun r fz' H'=>∃ m l,m<=1000000/\Grow atomL 83 fz' r m H' l/\CptS l/\∀ a,a∈l↔a∈p.init):=by
 obtain ⟨⟨B1,m1,d1,rfl,_⟩,⟨B2,n,d2,rfl,j2⟩,⟨B3,m3,d3,rfl,_⟩⟩:=id hP.sls;obtain ⟨⟨B4,m4,d4,rfl,_⟩,⟨B5,m5,d5,rfl,_⟩,⟨B6,m6,d6,rfl,_⟩,⟨B7,m7,d7,rfl,_⟩⟩:=id hP.goal.sls;have l2:=j2.len;refine zF Tryz.func37 Tryz.ntmps37 (fun w0=>?_);refine pX (fun g1=>?_);refine zW ?_;intros;refine Yd (fun q σ fz' H'=>∃ (k:Nat) (v:Value),k<=n/\q=n - k/\σ=[(9,Zk k),(8,Zk n),(7,Zc B2 n d2),(3,v)]/\Le fz fz'/\GrowZ atomL 83 fz' v k H' (p.init.take k)) ⟨0,_,Z0 _,rfl,rfl,Zd,⟨fun _=>⟨rfl,rfl⟩,Grow.nil _ _ _⟩⟩ Zw Zb ?_;rintro q σ fz2 Hk ⟨k,v,hk,rfl,rfl,hle2,hz,hG⟩;obtain ⟨Av,cv,rfl,_,_⟩:=hG.form;refine zW ?_;intros;refine zC ?_ ?_<;>intro f1
 ·obtain ⟨x,hx⟩:=Yq (l:=p.init) (k:=k) Zi;have w1:=hW x (Zm hx);refine zW ?_;intros;refine zI (j2.mono hle2) hx (fun p1 hp1=>?_);refine zL hp1 ?_;intro cs hcs;obtain ⟨vx,rfl,hR⟩:=YN hcs;obtain ⟨E1,r1,q1,rfl,ix⟩:=id hR.args;have l0:=ix.len;refine zWN ?_;intros;rename_i g5;refine Yab [_] ?_;refine zW ?_;intros;refine pU ?_;refine Yt (Ym [] (_::Hk) Zz (YbR ix Zi) (fun v8 fz8 H8 hle8 hR8=>⟨⟨hle8,Zx⟩,?_⟩));obtain ⟨A8,c8,rfl,_,_⟩:=hR8.form;refine Ch.qk ⟨hle8,Zx⟩ (Yak ?_);refine Yt (YbX (H1:=_::Hk) (H2:=H8) Zq (fun fz9 hle9 hf9=>?_));obtain ⟨A9,c9,e9,i9⟩:=hR8.sl hle9 hf9 Zi;injection e9 with e91 e92 e93
  subst e91;subst e93;refine Yv (cs:=[Zy x.name,Zc A8 r1 c8]) (fun gb=>⟨⟨hle8.trans hle9,Zx⟩,?_⟩);refine Yt (Y3 (Hr:=[_,_]) (d:=x) (Zr _) (hG.mono (hle8.trans hle9)) YaF (.head _) (Ww ⟨hR.name,i9.is⟩) (fun v10 H10 hO10=>⟨⟨hle8.trans hle9,Zx⟩,?_⟩));obtain ⟨A10,c10,rfl,_,_⟩:=hO10.form;refine Ch.qk ⟨hle8.trans hle9,Zx⟩ (XM ?_);refine Ch.done ?_;refine zW ?_;intros;exact YJ ⟨k+1,_,by omega,rfl,rfl,hle2.trans (hle8.trans hle9),⟨fun h=>absurd h Zi,hO10.of (by rw [List.take_add_one,hx];rfl) rfl⟩⟩ Zi Zw ((List.Sublist.refl _).cons _ |>.cons _)
 obtain rfl:n=k:=by omega
 rw [Zl Zi] at hG;refine zW ?_;intros;refine Yc (Ym Hk [] (List.append_nil _).symm (psortA_f ⟨hz,hG⟩ Zi) (fun v3 fz3 H3 hle3 hR3=>?_));obtain ⟨rfl,rfl,l',hG3,hp3,hs3⟩:=hR3;rw [List.append_nil];refine zW ?_;intros;refine Yc (Ym H3 [] (List.append_nil _).symm (Ygt hG3 Zi) (fun v4 fz4 H4 hle4 hR4=>?_));obtain ⟨rfl,m,hm,hG4⟩:=hR4;rw [List.append_nil];refine zW ?_;intros;exact ret1 rfl rfl (List.Sublist.refl _) ⟨m,_,by omega,hG4,cptS_of hs3,fun a=>by rw [cptM_mem];exact hp3.mem_iff⟩
theorem prcmp_f {a b:Atom} {va:Value} (ha:AtomR fz a va) (hb:AtomR fz b vb):GFn prog 41 [.agg #[Zy a.name,va],.agg #[Zy b.name,vb]] fz [] (fun r fz' H'=>H'=[]/\r=Zk (cmpA a b)):=by
 obtain ⟨A,n,c,rfl,ia⟩:=ha.args;obtain ⟨B,m,d,rfl,ib⟩:=hb.args;refine zF Tryz.func41 Tryz.ntmps41 (fun w0=>?_);refine pX (fun g0=>?_);refine pY (fun g1=>?_);refine zWN ?_;intros;refine Yab [_,_] ?_;refine zW ?_;intros;refine zc Yeg ?_;refine zW ?_;intros;refine zc (cmpL_q ia ib) ?_;refine pU ?_;refine Yt (Yv (cs:=[Zk (cmpS a.name b.name),Zk (cmpL a.args b.args)]) (fun gb=>⟨⟨Zd,Zx⟩,?_⟩));refine Yt (Ym [_] [_,_] Zz (or_f (YgT _ _) (YgU _ _) ⟨Zs _,by decide⟩) (fun v2 fz2 H2 hle2 hR2=>?_));obtain ⟨rfl,rfl⟩:=hR2;refine ⟨⟨hle2,Zx⟩,?_⟩;refine Ch.q (XM ⟨⟨hle2,Zx⟩,?_⟩);refine Ch.done ?_;refine zW ?_;intros;exact ret1F rfl rfl (fun fz3 hle3 hf3=>⟨rfl,rfl⟩)
abbrev byV:Value_->Value_->Int:=fun x y=>cmpA x.fluent y.fluent
theorem byNVa_q:CmpQ valueL 40 fz byV:=by
 intro x y cs ds hx hy;obtain ⟨A,n,c,rfl,hA⟩:=Ya8 hx;obtain ⟨B,m,d,rfl,hB⟩:=Ya8 hy;have hA1:=hA.fluent;have hB1:=hB.fluent;refine qF Tryz.func40 Tryz.ntmps40 (fun w0=>?_);refine pX (fun g0=>?_);refine pY (fun g1=>?_);refine zW ?_;intros;refine zG ?_;refine YaZ (vs:=[Zy x.fluent.name,Zc A n c]) 1 ?_;refine zW ?_;intros;refine zG ?_;refine YaZ (vs:=[Zy y.fluent.name,Zc B m d]) 0 ?_;refine zW ?_;intros;refine Yc (Ym [] [_,_] Zz (prcmp_f hA1 hB1) (fun v2 fz2 H2 hle2 hR2=>?_));obtain ⟨rfl,rfl⟩:=hR2;refine zW ?_;intros;exact zR (h:=rfl)
structure CanSp (p:Problem):Prop where
 o:p.objects.length<=1000000
 i:p.init.length<=1000000
 v:p.values.length<=1000000
 ia:∀ a∈p.init,a.args.length<=1000000000
 va:∀ x∈p.values,x.fluent.args.length<=1000000000
 g:fW p.goal<=1000000000
theorem canonP_f {p:Problem} (hP:ProblemR fz p u1 u2 u3 u4 u5 u6 u7) (hS:CanSp p):
 GFn prog 10 [ZP p u1 u2 u3 u4 u5 u6 u7] fz []
  (fun r fz' H'=>H'=[]/\∃ l w1 w2 w3 w4 w5 w6 w7,r=ZP p w1 w2 w3 w4 w5 w6 w7/\CptS l/\(∀ a,a∈l↔a∈p.init)/\ProblemR fz' ⟨p.name,p.domain,srtC (byC Param.name) p.objects,l,srtC byV p.values,p.goal⟩ w1 w2 w3 w4 w5 w6 w7):=by
 have hP0:=hP;obtain ⟨⟨B1,m1,d1,rfl,j1⟩,⟨B2,m2,d2,rfl,j2⟩,⟨B3,m3,d3,rfl,j3⟩⟩:=id hP.sls;obtain ⟨⟨B4,m4,d4,rfl,_⟩,⟨B5,m5,d5,rfl,_⟩,⟨B6,m6,d6,rfl,_⟩,⟨B7,m7,d7,rfl,_⟩⟩:=id hP.goal.sls;have l1:=j1.len;have l3:=j3.len;have s1:=hS.o;have s3:=hS.v;refine zF Tryz.func10 Tryz.ntmps10 (fun w0=>?_);refine pX (fun g1=>?_);refine Yc (YV (fun g2=>?_));refine zWX ?_;intros;refine Yy (Xu (fun σ fz' H'=>∃ (g3:Nat) (C1 C4 C5 C6 C7:Option Addr) (c1 n4 c4 n5 c5 n6 c6 n7 c7:Nat),σ=[(3,Zp g3),(2,Zp g2),(1,Zp g1)]/\Le fz fz'/\
  H'=[(g3,Zu #[Zy p.name,Zy p.domain,Zc C1 m1 c1,Zn,Zn,Zy p.goal.op,Zy p.goal.name,Zc C4 n4 c4,Zc C5 n5 c5,Zc C6 n6 c6,Zc C7 n7 c7] 37),(g2,Zu #[Ze,Ze,Zn,Zn,Zn,Ze,Ze,Zn,Zn,Zn,Zn] 37),(g1,Zu #[Zy p.name,Zy p.domain,Zc B1 m1 d1,Zc B2 m2 d2,Zc B3 m3 d3,Zy p.goal.op,Zy p.goal.name,Zc B4 m4 d4,Zc B5 m5 d5,Zc B6 m6 d6,Zc B7 m7 d7] 37)]/\
  Sl paramL fz' C1 m1 c1 (srtC (byC Param.name) p.objects)/\FormulaR fz' p.goal (Zc C4 n4 c4) (Zc C5 n5 c5) (Zc C6 n6 c6) (Zc C7 n7 c7)) ?_ ?_)
 ·refine zWN ?_;intros;refine Wi [] [_,_] ?_;refine zW ?_;intros;refine Ya6 ?_;refine zW ?_;intros
  ((refine zG ?_);refine Ya (vs:=[Zy p.goal.op,Zy p.goal.name,Zc B4 m4 d4,Zc B5 m5 d5,Zc B6 m6 d6,Zc B7 m7 d7]) 1 ?_);refine pT ?_
  repeat' first
   | refine Po.done ?_
   | (refine Yp ?_)
   | (refine Ycl ?_ ?_)
   | (refine YH (i:=6) (Ym [] _ Zz (YeQ j1 Zi) (fun v6 fz6 H6 hle6 hR6=>⟨⟨hle6,Zkx⟩,?_⟩));obtain ⟨C1,c1,rfl,_,_⟩:=hR6.form)
   | (refine YH (i:=9) (Ym [] _ Zz (Ybu _ (Zs _) (hP0.goal.mono hle6) hS.g) (fun v7 fz7 H7 hle7 hR7=>⟨⟨hle6.trans hle7,Zkx⟩,?_⟩));obtain ⟨rfl,wa,wp,we,wk,rfl,hR7⟩:=hR7;obtain ⟨C4,n4,c4,rfl,_⟩:=id hR7.args;obtain ⟨C5,n5,c5,rfl,_⟩:=id hR7.params;obtain ⟨C6,n6,c6,rfl,_⟩:=id hR7.exprs;obtain ⟨C7,n7,c7,rfl,_⟩:=id hR7.kids)
   | refine PoS.qk ⟨hle6.trans hle7,Zkx⟩ (Yak ?_)
   | refine YH (i:=11) (YV (fun g3=>⟨⟨Zd,Zkx⟩,?_⟩))
   | refine YH (i:=11) (YV (fun g3=>⟨⟨hle6,Zkx⟩,?_⟩))
   | refine YH (i:=11) (YV (fun g3=>⟨⟨hle6.trans hle7,Zkx⟩,?_⟩))
   | refine PoS.hard0 (Does.perm (H':=_::_::_::H6) ((Zq (l₁:=[_,_])).cons _) (YG ?_))
   | refine PoS.hard0 (Does.perm (H':=_::_::_::H6) (Zq (l₁:=[_,_,_])) (YG ?_))
  all_goals
   refine midF (σ':=[(3,Zp g3),(2,Zp g2),(1,Zp g1)]) (H':=[_,_,_]) (Zr _) (fun fz8 hle8 hf8=>?_) Zw;obtain ⟨C1',c1',e1,k1⟩:=hR6.sl (hle7.trans hle8) hf8 Zi;injection e1 with e11 e12 e13
   subst e11;subst e13;exact ⟨g3,_,_,_,_,_,_,_,_,_,_,_,_,_,_,rfl,hle6.trans (hle7.trans hle8),rfl,k1,hR7.mono hle8⟩
 rintro σ fz1 H' ⟨g3,C1,C4,C5,C6,C7,c1,n4,c4,n5,c5,n6,c6,n7,c7,rfl,hle1,rfl,k1,kG⟩;refine zW ?_;intros;refine Yc (Ym [] [_,_,_] Zz (pinit_f (hP0.mono hle1) hS.i hS.ia) (fun v20 fz20 H20 hle20 hR20=>?_));obtain ⟨mI,lI,hmI,hGI,hCI,hIm⟩:=hR20;obtain ⟨AI,cI,rfl,_,_⟩:=hGI.form;refine Seq.freezeAll (H1:=[_,_,_]) (H2:=H20) Zq (fun fz21 hle21 hf21=>?_);obtain ⟨AI',cI',eI,iI⟩:=hGI.sl hle21 hf21 Zi;injection eI with eI1 eI2 eI3
 subst eI1;subst eI3;have lI':=iI.len;refine zW ?_;intros;refine Yd (fun q σ fz' H'=>∃ (k:Nat) (v:Value) (Hp:HP),k<=mI/\q=mI - k/\σ=[(22,Zk k),(21,Zk mI),(20,Zc AI mI cI),(3,Zp g3),(2,Zp g2),(1,Zp g1)]/\Le fz21 fz'/\
  H'=(g3,Zu #[Zy p.name,Zy p.domain,Zc C1 m1 c1,v,Zn,Zy p.goal.op,Zy p.goal.name,Zc C4 n4 c4,Zc C5 n5 c5,Zc C6 n6 c6,Zc C7 n7 c7] 37)::(g2,Zu #[Ze,Ze,Zn,Zn,Zn,Ze,Ze,Zn,Zn,Zn,Zn] 37)::(g1,Zu #[Zy p.name,Zy p.domain,Zc B1 m1 d1,Zc B2 m2 d2,Zc B3 m3 d3,Zy p.goal.op,Zy p.goal.name,Zc B4 m4 d4,Zc B5 m5 d5,Zc B6 m6 d6,Zc B7 m7 d7] 37)::Hp/\Grow atomL 83 fz' v k Hp (lI.take k)) ⟨0,_,[],Z0 _,rfl,rfl,Zd,rfl,Grow.nil _ _ _⟩ Zw Zb ?_
 rintro q σ fz2 H' ⟨k,v,Hp,hk,rfl,rfl,hle2,rfl,hG⟩;obtain ⟨Av,cv,rfl,_,_⟩:=hG.form;refine zW ?_;intros;refine zC ?_ ?_<;>intro f1
 ·obtain ⟨x,hx⟩:=Yq (l:=lI) (k:=k) Zi;have w1:=hS.ia x ((hIm x).1 (Zm hx));refine zW ?_;intros;refine zI (iI.mono hle2) hx (fun p1 hp1=>?_);refine zL hp1 ?_;intro cs hcs;obtain ⟨vx,rfl,hR⟩:=YN hcs;obtain ⟨E1,r1,q1,rfl,_⟩:=id hR.args;refine zWN ?_;intros;rename_i g5;refine Yab [_,_] ?_;refine zW ?_;intros;refine Yu (Yu (Yu ?_));refine zW ?_;intros;refine pU ?_;refine Yt (Ym [] (_::_::_::_::Hp) Zz (Ykz hR w1) (fun v8 fz8 H8 hle8 hR8=>⟨⟨hle8,Zx⟩,?_⟩));obtain ⟨rfl,va8,rfl,hR8⟩:=hR8;obtain ⟨E8,r8,q8,rfl,_⟩:=id hR8.args;refine Yt (Yv (cs:=[Zy x.name,Zc E8 r8 q8]) (fun gb=>⟨⟨hle8,Zx⟩,?_⟩));refine Yt (Y3 (Hr:=[_,_,_,_,_]) (d:=x) (Zr _) (hG.mono hle8) YaF (.head _) (Ww hR8) (fun v10 H10 hO10=>⟨⟨hle8,Zx⟩,?_⟩));obtain ⟨A10,c10,rfl,_,_⟩:=hO10.form;refine Ch.hard0 (WN ?_);refine Ch.done ?_;refine zW ?_;intros;exact YJ ⟨k+1,_,H10,by omega,rfl,rfl,hle2.trans hle8,rfl,hO10.of (by rw [List.take_add_one,hx];rfl) rfl⟩ Zi Zw ((List.Sublist.refl _).cons _ |>.cons _)
 obtain rfl:mI=k:=by omega
 rw [Zl Zi] at hG;refine zW ?_;intros;refine Yd (fun q σ fz' H'=>∃ (k:Nat) (v:Value) (Hq:HP),k<=m3/\q=m3 - k/\σ=[(37,Zk k),(36,Zk m3),(35,Zc B3 m3 d3),(3,Zp g3),(2,Zp g2)]/\Le fz2 fz'/\
  H'=(g3,Zu #[Zy p.name,Zy p.domain,Zc C1 m1 c1,Zc Av mI cv,v,Zy p.goal.op,Zy p.goal.name,Zc C4 n4 c4,Zc C5 n5 c5,Zc C6 n6 c6,Zc C7 n7 c7] 37)::(g2,Zu #[Ze,Ze,Zn,Zn,Zn,Ze,Ze,Zn,Zn,Zn,Zn] 37)::(g1,Zu #[Zy p.name,Zy p.domain,Zc B1 m1 d1,Zc B2 m2 d2,Zc B3 m3 d3,Zy p.goal.op,Zy p.goal.name,Zc B4 m4 d4,Zc B5 m5 d5,Zc B6 m6 d6,Zc B7 m7 d7] 37)::(Hp++Hq)/\Grow valueL 86 fz' v k Hq (p.values.take k)) ⟨0,_,[],Z0 _,rfl,rfl,Zd,by rw [List.append_nil],Grow.nil _ _ _⟩ Zw (List.Sublist.refl _) ?_
 rintro q σ fz3 H' ⟨k,v,Hq,hk,rfl,rfl,hle3,rfl,hG3⟩;obtain ⟨Aw,cw,rfl,_,_⟩:=hG3.form;have hx03:=hle1.trans (hle20.trans (hle21.trans (hle2.trans hle3)));refine zW ?_;intros;refine zC ?_ ?_<;>intro f2
 ·obtain ⟨x,hx⟩:=Yq (l:=p.values) (k:=k) Zi;have w1:=hS.va x (Zm hx);refine zW ?_;intros;refine zI (j3.mono hx03) hx (fun p1 hp1=>?_);refine zL hp1 ?_;intro cs hcs;obtain ⟨E1,r1,q1,rfl,hR⟩:=Ya8 hcs;have hRf:=hR.fluent;refine zWN ?_;intros;rename_i g5;refine Yab [_,_] ?_;refine zW ?_;intros
  ((refine zG ?_);refine Ya (vs:=[Zy x.fluent.name,Zc E1 r1 q1]) 0 ?_);refine Yu ?_;refine zW ?_;intros;refine Yu (Yu (Yu ?_));refine zW ?_;intros;refine pU ?_;refine Yt (Ym [] (_::_::_::_::(Hp++Hq)) Zz (Ykz hRf w1) (fun v8 fz8 H8 hle8 hR8=>⟨⟨hle8,Zx⟩,?_⟩));obtain ⟨rfl,va8,rfl,hR8⟩:=hR8;obtain ⟨E8,r8,q8,rfl,_⟩:=id hR8.args;refine Ch.qk ⟨hle8,Zx⟩ (Yak ?_);refine Yt (Yv (cs:=[Zy x.fluent.name,Zc E8 r8 q8,Zk x.n]) (fun gb=>⟨⟨hle8,Zx⟩,?_⟩));refine Yt (Y3 (Hr:=_::_::_::_::_::Hp) (d:=x) (Zr _) (hG3.mono hle8) Xs (.head _) (Yc4 ⟨hR8,hR.n⟩) (fun v10 H10 hO10=>⟨⟨hle8,Zx⟩,?_⟩));obtain ⟨A10,c10,rfl,_,_⟩:=hO10.form;refine Ch.hard0 (WN ?_);refine Ch.done ?_;refine zW ?_;intros;exact YJ ⟨k+1,_,H10,by omega,rfl,rfl,hle3.trans hle8,rfl,hO10.of (by rw [List.take_add_one,hx];rfl) rfl⟩ Zi Zw ((List.Sublist.refl _).cons _ |>.cons _)
 obtain rfl:m3=k:=by omega
 rw [Zl Zi] at hG3;refine zW ?_;intros;refine Seq.freezeAll (H1:=_::_::_::Hq) (H2:=Hp) (((List.perm_append_comm.cons _).cons _).cons _) (fun fz4 hle4 hf4=>?_);obtain ⟨Av',cv',e4,iA⟩:=hG.sl (hle3.trans hle4) hf4 Zi;injection e4 with e41 e42 e43
 subst e41;subst e43;refine Yc (Does.perm (H':=Hq++ [_,_,_]) (Zq (l₁:=Hq)) (Ym Hq _ rfl (sortsVa (hG3.mono hle4) byNVa_q (ordA.swk _) Zi) (fun v26 fz26 H26 hle26 hR26=>?_)));obtain ⟨rfl,hG26⟩:=hR26;refine Seq.freezeAll (H1:=[_,_,_]) (H2:=H26) Zq (fun fz27 hle27 hf27=>?_);obtain ⟨B6',b6',e6,k6⟩:=hG26.sl hle27 hf27 Zi;injection e6 with e61 e62 e63
 subst e61;subst e63;refine zW ?_;intros;refine W4 (i:=1) rfl (fun fz28 hle28 hf28=>?_);have z0:=hle27.trans hle28;have z1:=hle20.trans (hle21.trans (hle2.trans (hle3.trans (hle4.trans z0))));exact ⟨rfl,lI,_,_,_,_,_,_,_,rfl,hCI,hIm,⟨hP.name,hP.domain,(k1.mono z1).is,(iA.mono z0).is,(k6.mono hle28).is,kG.mono z1⟩⟩
end Go.Proofs.YtaaanbkahfeknaaGreatDoor
namespace Go.Lx
variable {α β:Type} {l:List α}
theorem Ygv:OneC intL:=by
 intro fz d cs h u hu;obtain ⟨rfl,_⟩:=h;simp at hu;subst hu;rfl
theorem Yhe {cmp:α->α->Int} {z:α}:z∈srtC cmp l↔z∈l:=by
 have:∀ (l s:List α),z∈l.foldl (fun s x=>YL (ltC cmp) s [x]) s↔z∈s\/z∈l:=fun l=>by
  induction l with
  | nil=>simp
  | cons x l ih=>intro s;rw [List.foldl_cons,ih,Yat,List.mem_singleton,List.mem_cons,or_assoc]
 rw [show srtC cmp l=l.foldl (fun s x=>YL (ltC cmp) s [x]) [] from rfl,this];simp
theorem Yb8 {α β:Type} {cmp:β->β->Int} (f:α->β):∀ l r:List α,(YL (ltC fun x y=>cmp (f x) (f y)) l r).map f=YL (ltC cmp) (l.map f) (r.map f)
 | [],r=>by rw [YK];exact (YK _).symm
 | x::l,[]=>by rw [YT];exact (YT _).symm
 | x::l,y::r=>by
  rw [List.map_cons,List.map_cons,Yw,Yw];by_cases h:cmp (f y) (f x)<0
  ·rw [if_pos (show ltC (fun x y=>cmp (f x) (f y)) y x from h),if_pos (show ltC cmp (f y) (f x) from h),List.map_cons,Yb8 f (x::l) r];rfl
  rw [if_neg (show ¬ltC (fun x y=>cmp (f x) (f y)) y x from h),if_neg (show ¬ltC cmp (f y) (f x) from h),List.map_cons,Yb8 f l (y::r)];rfl
theorem Yhf {cmp:β->β->Int} (f:α->β) (l:List α):(srtC (fun x y=>cmp (f x) (f y)) l).map f=srtC cmp (l.map f):=by
 have:∀ (l s:List α),(l.foldl (fun s x=>YL (ltC fun x y=>cmp (f x) (f y)) s [x]) s).map f=(l.map f).foldl (fun s x=>YL (ltC cmp) s [x]) (s.map f):=fun l=>by
  induction l with
  | nil=>intro s;rfl
  | cons x l ih=>intro s;rw [List.foldl_cons,ih,List.map_cons,List.foldl_cons,Yb8];rfl
 exact this l []
end Go.Lx
namespace Go.Proofs.YtaaanbkahfeknaaGreatDoor
variable {α:Type} {A:Option Addr} {fz:FZ} {k n:Nat} {L:Lay α} {l:List α}
section
variable {P:Program} {cx:Cx} {r:Operand->Option Value} {fz:FZ} {H:HP} {V:Value->Prop} {dst:Option Nat} {ty:TypeId} {pos:String} {af:Array Edge} {gd:Option (Nat × Bool)}
theorem q_cutN {t e:TypeId} {x i:Operand} {X Y:Ty} {A:Option Addr} {n c j:Nat}
 (h:V (.slice A j c)) (T:Tab P:=by exact T) (hT:T.inf t=some X:=by exact rfl) (hd:X.desc=.slice e:=by exact rfl) (hY:T.inf e=some Y:=by exact rfl) (hx:r x=some (.slice A n c):=by exact rfl) (hi:r i=some (Zk j):=by exact rfl) (hj:j<=c:=by omega):DoesQ P cx ⟨dst,.slice t x none (some i) none,ty,pos,af,gd⟩ r fz H V:=
  Yo (fun ρ w hr=>by
   have hu:=run_underlying (und_plain T hT hd rfl) w;have hs:=Lx.run_sizeOf T hY w;simp [execOp,hr _ _ hx,hr _ _ hi,Instr.sliceAt,Instr.slice,Instr.sliceBounds,Instr.sliceBound,asIntOf,hu,hs,hj];intro _;cases A<;>simp [Addr.add]) h
end
theorem Ykw {c:Nat} {xs:List α} (h:Sl L fz A n c xs) (hk:k<=n):Sl L fz A k c (xs.take k):=by
 have:=h.len;have:=h.cap;have:=h.short;refine ⟨by simp;omega,by omega,h.max,by omega,?_⟩;rcases h.elem with h0 | ⟨ad,h1,h2⟩
 ·exact .inl Zi
 refine .inr ⟨ad,h1,fun i d hd=>h2 i d ?_⟩;rw [List.getElem?_take] at hd;split at hd
 ·exact hd
 cases hd
def Xr (n:Nat):List Int:=(List.range n).map Int.ofNat
theorem Ygm (n:Nat):Xr (n+1)=Xr n++ [(n:Int)]:=by unfold Xr;rw [List.range_succ,List.map_append];rfl
theorem Yeh {z:Int}:z∈Xr n↔0<=z/\z<n:=by
 unfold Xr;rw [List.mem_map];constructor
 ·rintro ⟨m,h1,rfl⟩;rw [List.mem_range] at h1;exact ⟨Int.natCast_nonneg _,by show (m:Int)<n;omega⟩
 rintro ⟨h1,h2⟩;exact ⟨z.toNat,List.mem_range.2 Zi,Int.toNat_of_nonneg h1⟩
def nmI (names:List Bs) (z:Int):Bs:=(names[z.toNat]?).getD ⟨#[]⟩
abbrev byI (names:List Bs):Int->Int->Int:=fun x y=>cmpS (nmI names x) (nmI names y)
theorem YjF {u v:Bs} (h:ltB u v=false) (hn:u≠v):cmpS v u<0:=by
 rw [ordS.anti];rcases Int.lt_trichotomy (cmpS u v) 0 with k | k | k
 ·unfold cmpS at k;rw [if_neg (by rw [h];decide),if_neg hn] at k;exact absurd k Zh
 ·exact absurd (ordS.eq0 _ _ k) hn
 exact k
theorem ltB_not {u v:Bs} (h:ltB u v=true\/u=v):¬cmpS v u<0:=by
 rcases h with h | h
 ·intro k;have k1:=(ordS.anti v u).1 k;unfold cmpS at k1;rw [if_pos h] at k1;exact absurd k1 Zh
 subst h;rw [ordS.refl];decide
theorem Ydp {c:Nat} {names:List Bs} (hN:Sl strL fz A n c names) (hn:n<=1000000):
 GFn prog 33 [Zc A n c] fz [] (fun r fz' H'=>H'=[]/\∃ B b,r=Zc B n b/\Sl intL fz' B n b (srtC (byI names) (Xr n))):=by
 have ln:=hN.len;have sh:=hN.short;have hw:SWk (ltC (byI names)):=ordS.swk (nmI names);refine zF Tryz.func33 Tryz.ntmps33 (fun w0=>?_);refine zW ?_;intros;refine Yd (fun q σ fz' H'=>∃ (k:Nat) (B:Option Addr) (b:Nat),k<=n/\q=n - k/\σ=[(4,Zk k),(3,Zc B k b),(0,Zc A n c)]/\Le fz fz'/\H'=[]/\Sl intL fz' B k b (srtC (byI names) (Xr k))) ⟨0,none,0,Z0 _,rfl,rfl,Zd,rfl,Sl.nil⟩ Zw Zb ?_;rintro q σ fz1 H' ⟨k,B,b,hk,rfl,rfl,hle1,rfl,hS⟩;have hN:=hN.mono hle1;have lS:=hS.len;have sS:=hS.short;have cS:=hS.cap;refine zW ?_;intros;refine zC ?_ ?_<;>intro c1
 ·obtain ⟨x,hx⟩:=Yq (l:=names) (k:=k) Zi;have hnx:nmI names k=x:=by unfold nmI;rw [Int.toNat_natCast,hx];rfl
  refine zWX ?_;intros;refine Yy ?_;refine zWX ?_;intros;refine Yy ?_;refine zWX ?_;intros;refine Yy (Xu (fun σ fz' H'=>∃ s1 s2:List Int,srtC (byI names) (Xr k)=s1++s2/\(∀ y,s2[0]?=some y->byI names k y<0)/\(∀ z s,s1=s++ [z]->¬byI names k z<0)/\σ=[(5,Zk s1.length),(4,Zk k),(3,Zc B k b),(0,Zc A n c)]/\fz1=fz'/\H'=[]) ?_ ?_)
  ·refine zW ?_;intros;refine Yd (fun q σ fz' H'=>∃ (z:Int) (s1 s2:List Int),z=s1.length/\srtC (byI names) (Xr k)=s1++s2/\(∀ y,s2[0]?=some y->byI names k y<0)/\q=s1.length/\σ=[(5,Zk z),(4,Zk k),(3,Zc B k b),(0,Zc A n c)]/\fz1=fz'/\H'=[]) ⟨k,srtC (byI names) (Xr k),[],by rw [lS],(List.append_nil _).symm,by simp,rfl,rfl,rfl,rfl⟩ Zw Zb ?_;rintro q σ fz' H' ⟨_,s1,s2,rfl,hs,h1,rfl,rfl,rfl,rfl⟩;rcases List.eq_nil_or_concat s1 with rfl | ⟨s,z,rfl⟩
   ·refine zW ?_;intros;refine zC ?_ ?_<;>intro c2
    ·exact absurd c2 (by simp)
    refine zW ?_;intros;exact wN (h:=by exact ⟨[],s2,hs,h1,fun z s h=>by simp at h,rfl,rfl,rfl⟩)
   rw [List.concat_eq_append] at*;have ls:(s++ [z]).length=s.length+1:=by simp
   have lS2:=congrArg List.length hs;rw [lS,List.length_append,ls] at lS2;simp only [ls];have hzm:z∈Xr k:=by rw [<- Yhe (cmp:=byI names),hs];simp
   obtain ⟨z0,z1⟩:=Yeh.1 hzm;obtain ⟨m,rfl⟩:=Int.eq_ofNat_of_zero_le z0;have hzs:(srtC (byI names) (Xr k))[s.length]?=some (m:Int):=by rw [hs,List.append_assoc];exact Xi rfl
   obtain ⟨y,hy⟩:=Yq (l:=names) (k:=m) Zi;have hny:nmI names m=y:=by unfold nmI;rw [Int.toNat_natCast,hy];rfl
   refine zW ?_;intros;refine zC ?_ ?_<;>intro c2;rotate_left 1
   ·exact absurd c2 Zi
   refine zW ?_;intros;refine zI hS hzs (fun p1 hp1=>?_)
   ((refine zG ?_);refine XL T Zz Zz Zz hp1 (fun iz=>?_));refine zW ?_;intros;refine zI hN hy (fun p2 hp2=>?_);refine zH hp2 (fun hys=>?_);refine zW ?_;intros;refine zI hN hx (fun p3 hp3=>?_);refine zH hp3 (fun hxs=>?_);refine zW ?_;intros;refine zG ?_;refine Yb5 (fun g1 g2=>?_) (fun g1=>?_)
   ·have hlt:byI names k m<0:=by show cmpS (nmI names k) (nmI names m)<0;rw [hnx,hny];exact YjF g1 g2
    refine zW ?_;intros;exact wP (h:=by exact ⟨((s.length+1:Nat):Int) - 1,s,(m:Int)::s2,by omega,by rw [hs,List.append_assoc];rfl,fun y hy=>by injection hy with hy;subst hy;exact hlt,rfl,rfl,rfl,rfl⟩)
   have hnlt:¬byI names k m<0:=by show ¬cmpS (nmI names k) (nmI names m)<0;rw [hnx,hny];exact ltB_not g1
   refine zW ?_;intros;exact midN ⟨s++ [(m:Int)],s2,hs,h1,fun z' s' h=>by
    obtain ⟨_,h⟩:=List.append_inj' h rfl;injection h with h
    subst h;exact hnlt,by rw [ls],rfl,rfl⟩ Zw Zb
  rintro σ fz' H' ⟨s1,s2,hs,h1,h2,rfl,rfl,rfl⟩;have hsort:=WA hw hs h1 h2;rw [<- Ygm] at hsort;have lS2:=congrArg List.length hs;rw [lS,List.length_append] at lS2;have e1:(srtC (byI names) (Xr k)).take s1.length=s1:=by rw [hs];exact List.take_left' rfl
  have e2:(srtC (byI names) (Xr k)).drop s1.length=s2:=by rw [hs];exact List.drop_left' rfl
  have hC:=Ykw hS (k:=s1.length) Zi;rw [e1] at hC;refine zW ?_;intros;refine zG ?_;refine q_cutN (j:=s1.length) ?_;refine zW ?_;intros;refine Yc (W8 T (Hr:=[]) (n:=0) (l:=[]) Zz Zz Zz Zz Zz Zz Zz Zz (Zr _) (Grow.nil _ _ _) Ygv hC (by show _*8<=_;omega) Zi (fun v4 H4 hO4=>?_));obtain ⟨A4,c4,rfl,_,_⟩:=hO4.form;refine zW ?_;intros;refine Yc (Yv (cs:=[Zk k]) (fun gb=>?_));refine Yc (Y3 (L:=intL) (Hr:=[_]) (d:=(k:Int)) (Zr _) hO4 Ygv (.head _) ⟨rfl,(by have:=hk;unfold I64;omega:I64 (k:Int))⟩ (fun v5 H5 hO5=>?_));obtain ⟨A5,c5,rfl,_,_⟩:=hO5.form;refine zW ?_;intros;refine zG ?_;refine WB (L:=intL) (j:=s1.length) hS (fun A6 hD=>?_);rw [e2] at hD;refine zW ?_;intros;refine Yc (W8 T (Hr:=[_]) Zz Zz Zz Zz Zz Zz Zz Zz (Zr _) hO5 Ygv hD (by show _*8<=_;omega) Zi (fun v7 H7 hO7=>?_));obtain ⟨A7,c7,rfl,_,_⟩:=hO7.form;refine Seq.freezeAll (H1:=[_]) (H2:=H7) (Zr _) (fun fz9 hle9 hf9=>?_);obtain ⟨A9,c9,e9,hS9⟩:=(hO7.of (show _=srtC (byI names) (Xr (k+1)) by rw [hsort];simp) (show _=k+1 by omega)).sl hle9 hf9 Zi;injection e9 with e91 e92 e93
  subst e91;subst e93;rw [e92];refine zW ?_;intros;exact wP (h:=by exact ⟨k+1,A7,c7,by omega,rfl,rfl,hle1.trans hle9,rfl,hS9⟩)
 obtain rfl:n=k:=by omega
 refine zW ?_;intros;exact wR (h:=by exact ⟨rfl,B,b,rfl,hS⟩)
theorem pick_map (nm:α->Bs) (l:List α):(srtC (byI (l.map nm)) (Xr l.length)).map (fun z=>l[z.toNat]?)=(srtC (byC nm) l).map some:=by
 let nmO:Option α->Bs:=fun o=>(o.map nm).getD ⟨#[]⟩
 have e1:=Yhf (cmp:=fun x y=>cmpS (nmO x) (nmO y)) (fun z:Int=>l[z.toNat]?) (Xr l.length);have e2:(Xr l.length).map (fun z:Int=>l[z.toNat]?)=l.map some:=by
  refine List.ext_getElem? fun i=>?_
  unfold Xr;rw [List.getElem?_map,List.getElem?_map,List.getElem?_map];by_cases h:i<l.length
  ·rw [List.getElem?_range h,List.getElem?_eq_getElem h];exact (congrArg some (List.getElem?_eq_getElem h):)
  rw [List.getElem?_eq_none (by simpa using h),List.getElem?_eq_none Zi];rfl
 have e3:=Yhf (cmp:=fun x y=>cmpS (nmO x) (nmO y)) (some:α->Option α) l;rw [e2,<- e3] at e1;have e4:byI (l.map nm)=fun x y=>cmpS (nmO l[x.toNat]?) (nmO l[y.toNat]?):=by
  funext x y
  show cmpS (nmI _ x) (nmI _ y)=_;unfold nmI;rw [List.getElem?_map,List.getElem?_map]
 rw [e4];exact e1
theorem Ydo {nm:α->Bs} {z:Int} (h:(srtC (byI (l.map nm)) (Xr l.length))[k]?=some z):∃ (m:Nat) (x:α),z=m/\l[m]?=some x/\(srtC (byC nm) l)[k]?=some x:=by
 obtain ⟨z0,z1⟩:=Yeh.1 (Yhe.1 (Zm h));obtain ⟨m,rfl⟩:=Int.eq_ofNat_of_zero_le z0;obtain ⟨x,hx⟩:=Yq (l:=l) (k:=m) Zi;refine ⟨m,x,rfl,hx,?_⟩;have e:=congrArg (fun l=>l[k]?) (pick_map nm l);simp only [List.getElem?_map,h,Option.map_some,Int.toNat_natCast,hx] at e;cases h9:(srtC (byC nm) l)[k]? with
 | none=>rw [h9] at e;cases e
 | some y=>rw [h9] at e;injection e with e;injection e with e;rw [e]
theorem Ydi {c:Nat} {l:List Param} (hN:Sl paramL fz A n c l) (hn:n<=1000000):
 GFn prog 32 [Zc A n c] fz [] (fun r fz' H'=>H'=[]/\∃ B b,r=Zc B n b/\Sl paramL fz' B n b (srtC (byC Param.name) l)):=by
 have ln:=hN.len;subst ln;refine zF Tryz.func32 Tryz.ntmps32 (fun w0=>?_);refine zW ?_;intros;refine Yd (fun q σ fz' H'=>∃ (k:Nat) (v:Value),k<=l.length/\q=l.length - k/\σ=[(4,Zk k),(3,v),(0,Zc A l.length c)]/\fz=fz'/\Grow strL 9 fz' v k H' ((l.take k).map Param.name)) ⟨0,_,Z0 _,rfl,rfl,rfl,Grow.nil _ _ _⟩ Zw Zb ?_;rintro q σ fz' H' ⟨k,v,hk,rfl,rfl,rfl,hG⟩;obtain ⟨B,b,rfl,_,_⟩:=hG.form;refine zW ?_;intros;refine zC ?_ ?_<;>intro c1
 ·obtain ⟨x,hx⟩:=Yq (l:=l) (k:=k) Zi;refine zW ?_;intros;refine zI hN hx (fun p1 hp1=>?_);refine zW ?_;intros;refine zH hp1.Param_name (fun hxs=>?_);refine zW ?_;intros;refine Yc (Yv (cs:=[Zy x.name]) (fun gb=>?_));refine Yc (Y3 (L:=strL) (Hr:=[_]) (d:=x.name) (Zr _) hG Yb0 (.head _) ⟨rfl,hxs⟩ (fun v5 H5 hO5=>?_));obtain ⟨A5,c5,rfl,_,_⟩:=hO5.form;refine zW ?_;intros;exact YJ ⟨k+1,_,by omega,rfl,rfl,rfl,hO5.of (by rw [List.take_add_one,hx,List.map_append];rfl) rfl⟩ Zi Zw ((List.Sublist.refl _).cons _)
 obtain rfl:k=l.length:=by omega
 rw [Zl (Zs _)] at hG;refine zW ?_;intros;refine Seq.freezeAll (H1:=[]) (H2:=H') (Zr _) (fun fz1 hle1 hf1=>?_);obtain ⟨B',b',e1,hS⟩:=hG.sl hle1 hf1 Zi;injection e1 with e11 e12 e13
 subst e11;subst e13;refine Yc (Ym [] [] Zz (Ydp hS hn) (fun v4 fz4 H4 hle4 hR4=>?_));obtain ⟨rfl,D,d,rfl,hI⟩:=hR4;have lI:=hI.len;refine zW ?_;intros;refine Yd (fun q σ fz' H'=>∃ (k:Nat) (v:Value),k<=l.length/\q=l.length - k/\σ=[(7,Zk k),(6,Zc D l.length d),(5,v),(0,Zc A l.length c)]/\fz4=fz'/\Grow paramL 110 fz' v k H' ((srtC (byC Param.name) l).take k)) ⟨0,_,Z0 _,rfl,rfl,rfl,Grow.nil _ _ _⟩ Zw Zb ?_;rintro q σ fz' H' ⟨k,v,hk,rfl,rfl,rfl,hG⟩;obtain ⟨B,b,rfl,_,_⟩:=hG.form;refine zW ?_;intros;refine zC ?_ ?_<;>intro c1
 ·obtain ⟨z,hz⟩:=Yq (l:=srtC (byI (l.map Param.name)) (Xr l.length)) (k:=k) Zi;obtain ⟨m,x,rfl,hx,hsx⟩:=Ydo hz;refine zW ?_;intros;refine zI hI hz (fun p1 hp1=>?_)
  ((refine zG ?_);refine XL T Zz Zz Zz hp1 (fun iz=>?_));refine zW ?_;intros;refine zI (hN.mono (hle1.trans hle4)) hx (fun p2 hp2=>?_);refine zL hp2 ?_;intro cs hcs;obtain ⟨rfl,hRx⟩:=XD hcs;refine zW ?_;intros;refine Yc (Yv (cs:=[Zy x.name,Zy x.typ]) (fun gb=>?_));refine Yc (Y3 (L:=paramL) (Hr:=[_]) (d:=x) (Zr _) hG XC (.head _) (Ygu hRx) (fun v5 H5 hO5=>?_));obtain ⟨A5,c5,rfl,_,_⟩:=hO5.form;refine zW ?_;intros;exact YJ ⟨k+1,_,by omega,rfl,rfl,rfl,hO5.of (by rw [List.take_add_one,hsx];rfl) rfl⟩ Zi Zw ((List.Sublist.refl _).cons _)
 obtain rfl:k=l.length:=by omega
 rw [Zl (by rw [Xb];exact Zs _)] at hG;refine zW ?_;intros;refine Ydj (H':=[]) (H2:=H') rfl rfl (Zr _) (fun fz6 hle6 hf6=>?_);obtain ⟨B6,b6,e6,hS6⟩:=hG.sl hle6 hf6 Zi;injection e6 with e61 e62 e63
 subst e61;subst e63;exact ⟨rfl,_,_,rfl,hS6⟩
end Go.Proofs.YtaaanbkahfeknaaGreatDoor
