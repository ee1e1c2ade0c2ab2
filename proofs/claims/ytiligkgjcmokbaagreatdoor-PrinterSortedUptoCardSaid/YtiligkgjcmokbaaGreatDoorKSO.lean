/- The texts NJ, NM, NP, NR, NT, UO, NU, NV, KA, KB, KC, KD, laid together. Conditions: none. -/
import Derived.Test.YtiligkgjcmokbaaGreatDoorKSN
set_option linter.all false
set_option maxHeartbeats 16000000
set_option maxRecDepth 20000
open Go.Lx Go.RowKit
attribute [local instance 10] Classical.propDecidable
open Go.Proofs.Tryz (prog)
namespace Go.Proofs.YtiligkgjcmokbaaGreatDoor
variable {α:Type} {A:Option Addr} {fz:FZ}
theorem YaU {n c:Nat} {l:List Param} (h:Sl paramL fz A n c l) (hn:n<=1000000000):
 GFn prog 17 [Zc A n c] fz [] (fun v fz' H'=>Grow paramL 123 fz' v n H' l):=by
 refine zF Tryz.func17 Tryz.ntmps17 (fun w0=>?_);refine zW ?_;intros;refine Ya (Ym [] [] Zz (Ybb h hn) (fun v1 fz1 H1 hle1 hR1=>?_));rw [List.append_nil];refine zW ?_;intros;exact ret1 rfl rfl (List.Sublist.refl _) hR1
theorem Ymg:∀ (s:Nat) {fz:FZ} {e:Lx.Expr} {va vk:Value},SizeOf.sizeOf e<=s->ExprR fz e va vk->eW e<=1000000000->
 GFn prog 58 [.agg #[Zy e.op,Zy e.name,Zk e.n,va,vk]] fz [] (fun v fz' H'=>H'=[]/\ExprV fz' e v)
 | 0,_,e,_,_,hse,_,_=>by cases e;simp at hse
 | s+1,fz,e,va,vk,hse,hR,hW=>by
  have hweq:=Yqr e;have hkl:=WG eW_pos e.kids;obtain ⟨⟨B1,m1,d1,rfl,ia⟩,⟨B2,m2,d2,rfl,ik⟩⟩:=hR.sls;have l1:=ia.len;have l2:=ik.len;refine zF Tryz.func58 Tryz.ntmps58 (fun w0=>?_);refine zW ?_;intros;rename_i g1 g2;refine Ya (Ym [] [_,_] Zz (Ye6 ia Zi) (fun v1 fz1 H1 hle1 hR1=>?_));obtain ⟨B3,d3,rfl,_,_⟩:=hR1.form;refine Seq.freezeAll (H1:=[_,_]) (H2:=H1) Zq (fun fz2 hle2 hf2=>?_);obtain ⟨B4,d4,e4,ia4⟩:=hR1.sl hle2 hf2 Zi;injection e4 with e41 e42 e43
  subst e41;subst e43;have hx:=hle1.trans hle2;refine zW ?_;intros;refine Ya (Ym [] [_,_] Zz (YnA (ik.mono hx) Zi) (fun v2 fz3 H2 hle3 hR2=>?_));obtain ⟨B5,d5,rfl,_,_⟩:=hR2.form;refine Seq.perm Zq ?_;refine zW ?_;intros;refine Yi (fun q σ fz' H'=>∃ (k:Nat) (Hk:HP),k<=m2/\q=m2 - k/\σ=[(15,Zk k),(14,Zk m2),(2,Zp g2),(1,Zp g1)]/\Le fz3 fz'/\
   H'=(g2,Zu #[Ze,Ze,Zk 0,Zn,Zn] 112)::(g1,Zu #[Zy e.op,Zy e.name,Zk e.n,Zc B3 m1 d3,Zc B5 m2 d5] 112)::Hk/\
   Grow exprL 112 fz' (Zc B5 m2 d5) m2 Hk e.kids) ⟨0,H2,Z0 _,rfl,rfl,Zd,rfl,hR2⟩ Zw Zb ?_
  rintro q σ fz' H' ⟨k,Hk,hk,rfl,rfl,hle,rfl,hG⟩;refine zW ?_;intros;refine zC ?_ ?_<;>intro c1
  ·obtain ⟨x,hxx⟩:=Ye (l:=e.kids) (k:=k) Zi;have hxm:=Zm hxx;have hlt:=Expr.kids_lt hxm;have hxw:=Wh (w:=eW) hxm;obtain ⟨gk,cap,cur,e8,rfl,hB⟩:=hG.b Zi;injection e8 with e81 e82 e83
   subst e81;subst e83;obtain ⟨cs,hrx,hcx⟩:=Wf hB hxx;obtain ⟨wa,wk,rfl,hRx⟩:=YD hrx;obtain ⟨⟨E1,r1,q1,rfl,_⟩,⟨E2,r2,q2,rfl,_⟩⟩:=hRx.sls;refine zWN ?_;intros;refine XF [_,_,_] ?_;refine zW ?_;intros;refine zG ?_;refine Yq rfl ?_;refine zG ?_;refine Yc (vs:=[Zy x.op,Zy x.name,Zk x.n,Zc E1 r1 q1,Zc E2 r2 q2]) 2 ?_ (hv:=hcx);refine pU ?_;refine Yj (Ym [] [_,_,_] Zz (Ymg s Zi hRx Zi) (fun v5 fz5 H5 hle5 hR5=>⟨⟨hle5,Zx⟩,?_⟩));obtain ⟨rfl,wa5,wk5,rfl,hR5⟩:=hR5;refine Ch.qk ⟨hle5,Zx⟩ (Yq rfl ?_);refine Ch.hard0 (YI (pre:=[_,_]) (L:=exprL) (j:=k) rfl rfl Ym5 (Ya8 hR5) (hB.mono hle5) (fun cur1 hB1=>?_));refine Ch.done ?_;refine zW ?_;intros;exact wP (h:=by exact ⟨k+1,_,by omega,rfl,rfl,hle.trans hle5,rfl,hB1.grow.of (YeJ hxx) rfl⟩)
  refine zW ?_;intros;refine XJ (i:=0) rfl (fun fz9 hle9 hf9=>?_);obtain ⟨A9,c9,e9,h9⟩:=hG.sl hle9 (fun p hp=>hf9 p (by simp [hp])) Zi;injection e9 with e91 e92 e93
  subst e91;subst e93;exact ⟨rfl,_,_,rfl,{hR with args:=(ia4.mono (hle3.trans (hle.trans hle9))).is,kids:=h9.is}⟩
theorem perm2 {H5 H2:HP} {a b:Nat × Obj}:(a::b::(H5++H2)).Perm (H5++(H2++ [a,b])):=by
 rw [show H5++(H2++ [a,b])=(H5++H2)++ [a,b] from by simp [List.append_assoc]];exact Zq (l₁:=[a,b])
theorem Yev:∀ (s:Nat) {fz:FZ} {f:Formula} {va vp ve vk:Value},SizeOf.sizeOf f<=s->FormulaR fz f va vp ve vk->fW f<=1000000000->
 GFn prog 18 [.agg #[Zy f.op,Zy f.name,va,vp,ve,vk]] fz [] (fun v fz' H'=>H'=[]/\FormulaV fz' f v)
 | 0,_,f,_,_,_,_,hse,_,_=>by cases f;simp at hse
 | s+1,fz,f,va,vp,ve,vk,hse,hR,hW=>by
  have hweq:=Yl9 f;have hkl:=WG fW_pos f.kids;have hel:=WG eW_pos f.exprs;obtain ⟨⟨B1,m1,d1,rfl,ia⟩,⟨B2,m2,d2,rfl,ip⟩,⟨B3,m3,d3,rfl,ie⟩,⟨B4,m4,d4,rfl,ik⟩⟩:=hR.sls;have l1:=ia.len;have l2:=ip.len;have l3:=ie.len;have l4:=ik.len;refine zF Tryz.func18 Tryz.ntmps18 (fun w0=>?_);refine zWN ?_;intros;rename_i g1 g2;refine XF [_,_] ?_;refine zW ?_;intros;refine Yk ?_;refine zW ?_;intros;refine Yk ?_;refine zW ?_;intros;refine pU ?_;refine Yj (Ym [] [_,_] Zz (Ye6 ia Zi) (fun v5 fz5 H5 hle5 hR5=>⟨⟨hle5,Zx⟩,?_⟩));obtain ⟨A5,c5,rfl,_,_⟩:=hR5.form;refine Yj (Ym [] (H5++ [_,_]) Zz (YaU (ip.mono hle5) Zi) (fun v6 fz6 H6 hle6 hR6=>⟨⟨hle5.trans hle6,Zx⟩,?_⟩));obtain ⟨A6,c6,rfl,_,_⟩:=hR6.form;refine Ch.hard0 (Does.perm perm2 (Y9 ?_));refine Ch.hard Zj (DoesQ.does (Yt ?_));refine Ch.hard0 (Y9 ?_);refine Ch.done ?_;refine Yds ?_;refine Wp.freezeAll (H1:=[_,_]) (H2:=H6++H5) (Zr _) (fun fz7 hle7 hf7=>?_);obtain ⟨A5',c5',e5,ia5⟩:=hR5.sl (hle6.trans hle7) (fun p hp=>hf7 p (by simp [hp])) Zi;injection e5 with e51 e52 e53
  subst e51;subst e53;obtain ⟨A6',c6',e6,ip6⟩:=hR6.sl hle7 (fun p hp=>hf7 p (by simp [hp])) Zi;injection e6 with e61 e62 e63
  subst e61;subst e63;have hx:=hle5.trans (hle6.trans hle7);refine zWN ?_;intros;refine XF [_,_] ?_;refine zW ?_;intros;refine Yk ?_;refine zW ?_;intros;refine Yk ?_;refine zW ?_;intros;refine pU ?_;refine Yj (Ym [] [_,_] Zz (YnA (ie.mono hx) Zi) (fun v8 fz8 H8 hle8 hR8=>⟨⟨hle8,Zx⟩,?_⟩));obtain ⟨A8,c8,rfl,_,_⟩:=hR8.form;refine Yj (Ym [] (H8++ [_,_]) Zz (cloneF_q (ik.mono (hx.trans hle8)) Zi) (fun v9 fz9 H9 hle9 hR9=>⟨⟨hle8.trans hle9,Zx⟩,?_⟩));obtain ⟨A9,c9,rfl,_,_⟩:=hR9.form;refine Ch.hard0 (Does.perm perm2 (Y9 ?_));refine Ch.hard Zj (DoesQ.does (Yt ?_));refine Ch.hard0 (Y9 ?_);refine Ch.done ?_;refine Yds ?_;refine Wp.perm (List.Perm.cons _ (List.Perm.cons _ Zq)) ?_;refine zW ?_;intros;refine Yi (fun q σ fz' H'=>∃ (k:Nat) (Hk:HP),k<=m3/\q=m3 - k/\σ=[(24,Zk k),(23,Zk m3),(2,Zp g2),(1,Zp g1)]/\Le fz9 fz'/\
   H'=(g2,Zu #[Ze,Ze,Zn,Zn,Zn,Zn] 35)::(g1,Zu #[Zy f.op,Zy f.name,Zc A5 m1 c5,Zc A6 m2 c6,Zc A8 m3 c8,Zc A9 m4 c9] 35)::(Hk++H9)/\
   Grow exprL 112 fz' (Zc A8 m3 c8) m3 Hk f.exprs) ⟨0,H8,Z0 _,rfl,rfl,Zd,rfl,hR8.mono hle9⟩ Zw Zb ?_
  rintro q σ fz' H' ⟨k,Hk,hk,rfl,rfl,hle,rfl,hG⟩;refine zW ?_;intros;refine zC ?_ ?_<;>intro c1
  ·obtain ⟨x,hxx⟩:=Ye (l:=f.exprs) (k:=k) Zi;have hxm:=Zm hxx;have hxw:=Wh (w:=eW) hxm;obtain ⟨gk,cap,cur,e8,rfl,hB⟩:=hG.b Zi;injection e8 with e81 e82 e83
   subst e81;subst e83;obtain ⟨cs,hrx,hcx⟩:=Wf hB hxx;obtain ⟨E1,r1,q1,E2,r2,q2,rfl,hRx⟩:=Yqe hrx;refine zWN ?_;intros;refine XF [_,_,_] ?_;refine zW ?_;intros;refine zG ?_;refine Yq rfl ?_;refine zG ?_;refine Yc (vs:=[Zy x.op,Zy x.name,Zk x.n,Zc E1 r1 q1,Zc E2 r2 q2]) 2 ?_ (hv:=hcx);refine pU ?_;refine Yj (Ym [] (_::_::_::H9) Zz (Ymg _ (Zs _) hRx Zi) (fun v10 fz10 H10 hle10 hR10=>⟨⟨hle10,Zx⟩,?_⟩));obtain ⟨rfl,wa5,wk5,rfl,hR10⟩:=hR10;refine Ch.qk ⟨hle10,Zx⟩ (Yq rfl ?_);refine Ch.hard0 (YI (pre:=[_,_]) (L:=exprL) (j:=k) rfl rfl Ym5 (Ya8 hR10) (hB.mono hle10) (fun cur1 hB1=>?_));refine Ch.done ?_;refine zW ?_;intros;exact wP (h:=by exact ⟨k+1,[_],by omega,rfl,rfl,hle.trans hle10,rfl,hB1.grow.of (YeJ hxx) rfl⟩)
  first
  | refine Wp.freezeAll (H1:=_::_::H9) (H2:=Hk) (List.Perm.cons _ (List.Perm.cons _ Zq)) (fun fz10 hle10 hf10=>?_)
  | refine Seq.freezeAll (H1:=_::_::H9) (H2:=Hk) (List.Perm.cons _ (List.Perm.cons _ Zq)) (fun fz10 hle10 hf10=>?_)
  obtain ⟨A10,c10,e10,ie10⟩:=hG.sl hle10 hf10 Zi;injection e10 with e101 e102 e103
  subst e101;subst e103;refine zW ?_;intros;refine Yi (fun q σ fz' H'=>∃ (k:Nat) (Hk:HP),k<=m4/\q=m4 - k/\σ=[(41,Zk k),(40,Zk m4),(2,Zp g2),(1,Zp g1)]/\Le fz10 fz'/\
   H'=(g2,Zu #[Ze,Ze,Zn,Zn,Zn,Zn] 35)::(g1,Zu #[Zy f.op,Zy f.name,Zc A5 m1 c5,Zc A6 m2 c6,Zc A8 m3 c8,Zc A9 m4 c9] 35)::Hk/\
   Grow YK 35 fz' (Zc A9 m4 c9) m4 Hk f.kids) ⟨0,H9,Z0 _,rfl,rfl,Zd,rfl,hR9.mono (hle.trans hle10)⟩ Zw Zb ?_
  rintro q σ fz11 H' ⟨k,Hk,hk,rfl,rfl,hle11,rfl,hG11⟩;refine zW ?_;intros;refine zC ?_ ?_<;>intro c2
  ·obtain ⟨x,hxx⟩:=Ye (l:=f.kids) (k:=k) Zi;have hxm:=Zm hxx;have hlt:=Formula.kids_lt hxm;have hxw:=Wh (w:=fW) hxm;obtain ⟨gk,cap,cur,e8,rfl,hB⟩:=hG11.b Zi;injection e8 with e81 e82 e83
   subst e81;subst e83;obtain ⟨cs,hrx,hcx⟩:=Wf hB hxx;obtain ⟨E1,r1,q1,E2,r2,q2,E3,r3,q3,E4,r4,q4,rfl,hRx⟩:=YkV hrx;refine zWN ?_;intros;refine XF [_,_,_] ?_;refine zW ?_;intros;refine zG ?_;refine Yq rfl ?_;refine zG ?_;refine Yc (vs:=[Zy x.op,Zy x.name,Zc E1 r1 q1,Zc E2 r2 q2,Zc E3 r3 q3,Zc E4 r4 q4]) 2 ?_ (hv:=hcx);refine pU ?_;refine Yj (Ym [] [_,_,_] Zz (Yev s Zi hRx Zi) (fun v12 fz12 H12 hle12 hR12=>⟨⟨hle12,Zx⟩,?_⟩));obtain ⟨rfl,wa5,wp5,we5,wk5,rfl,hR12⟩:=hR12;refine Ch.qk ⟨hle12,Zx⟩ (Yq rfl ?_);refine Ch.hard0 (YI (pre:=[_,_]) (L:=YK) (j:=k) rfl rfl YlU (WB hR12) (hB.mono hle12) (fun cur1 hB1=>?_));refine Ch.done ?_;refine zW ?_;intros;exact wP (h:=by exact ⟨k+1,[_],by omega,rfl,rfl,hle11.trans hle12,rfl,hB1.grow.of (YeJ hxx) rfl⟩)
  refine zW ?_;intros;refine XJ (i:=0) rfl (fun fz13 hle13 hf13=>?_);obtain ⟨A13,c13,e13,h13⟩:=hG11.sl hle13 (fun p hp=>hf13 p (by simp [hp])) Zi;injection e13 with e131 e132 e133
  subst e131;subst e133;have hy:=hle8.trans (hle9.trans (hle.trans (hle10.trans (hle11.trans hle13))));exact ⟨rfl,_,_,_,_,rfl,{hR with args:=(ia5.mono hy).is,params:=(ip6.mono hy).is,exprs:=(ie10.mono (hle11.trans hle13)).is,kids:=h13.is}⟩
theorem YqA {a:Atom} {va:Value} (hR:AtomR fz a va) (hW:a.args.length<=1000000000):
 GFn prog 30 [.agg #[Zy a.name,va]] fz [] (fun r fz' H'=>H'=[]/\∃ va',r=.agg #[Zy a.name,va']/\AtomR fz' a va'):=by
 obtain ⟨A,n,c,rfl,ia⟩:=hR.args;have l1:=ia.len;refine zF Tryz.func30 Tryz.ntmps30 (fun w0=>?_);refine zWN ?_;intros;rename_i g1 g2;refine XF [_,_] ?_;refine zW ?_;intros;refine pU ?_;refine Yj (Ym [] [_,_] Zz (Ye6 ia Zi) (fun v5 fz5 H5 hle5 hR5=>⟨⟨hle5,Zx⟩,?_⟩));obtain ⟨A5,c5,rfl,_,_⟩:=hR5.form;refine Ch.qk ⟨hle5,Zx⟩ (YaY ?_);refine Ch.hard0 (Does.perm Zq (YG ?_));refine Ch.done ?_;refine zW ?_;intros;refine XJ (i:=0) rfl (fun fz6 hle6 hf6=>?_);obtain ⟨A6,c6,e6,h6⟩:=hR5.sl hle6 (fun p hp=>hf6 p (by simp [hp])) Zi;injection e6 with e61 e62 e63
 subst e61;subst e63;exact ⟨rfl,_,rfl,⟨hR.name,h6.is⟩⟩
theorem cloneC_q {n c:Nat} {l:List Change} (h:Sl changeL fz A n c l) (hn:n<=100000000):
 GFn prog 59 [Zc A n c] fz [] (fun v fz' H'=>Grow changeL 114 fz' v n H' l):=by
 have l1:=h.len;refine zF Tryz.func59 Tryz.ntmps59 (fun w0=>?_);refine zV ?_;intros;refine zG ?_;refine WI (fun eA=>?_) (fun eA=>?_)
 ·subst eA;have hl:l=[]:=by
   rcases h.elem with h0 | ⟨_,h0,_⟩
   ·exact List.eq_nil_of_length_eq_zero Zi
   cases h0
  subst hl;simp at l1;subst l1;refine zV ?_;intros;refine Yel (H':=[]) (H2:=[]) rfl rfl (Zr _) (fun fz3 hle3 _=>Grow.nil _ _ _)
 refine zV ?_;intros;refine Ya (W7 (fun gb=>?_));refine zV ?_;intros;refine Ya (WZ T (Hr:=[]) (n:=0) (l:=[]) Zz Zz Zz Zz Zz Zz Zz Zz (Zr _) (Grow.block (ys:=[]) rfl rfl (by intro p hp;cases hp) rfl) Yii h (by show _*288<=_;omega) Zi (fun v' Hs' hO'=>?_));obtain ⟨Av',cv',rfl,_,_⟩:=hO'.form;refine zV ?_;intros;refine Yel (H':=Hs') (H2:=[]) rfl rfl (by simp) (fun fz3 hle3 _=>(hO'.mono hle3).of (by simp) Zi)
theorem Ymi {n c:Nat} {l:List Change} (h:Sl changeL fz A n c l) (hn:n<=100000000) (hW:∀ x∈l,x.params.length<=1000000000/\fW x.when_<=1000000000/\x.args.length<=1000000000/\eW x.value<=1000000000):
 GFn prog 19 [Zc A n c] fz [] (fun v fz' H'=>Grow changeL 114 fz' v n H' l):=by
 have l1:=h.len;refine zF Tryz.func19 Tryz.ntmps19 (fun w0=>?_);refine zW ?_;intros;refine Ya (Ym [] [] Zz (cloneC_q h hn) (fun v1 fz1 H1 hle1 hR1=>?_));rw [List.append_nil];obtain ⟨B,d,rfl,_,_⟩:=hR1.form;refine zW ?_;intros;refine Yi (fun q σ fz' H'=>∃ (k:Nat),k<=n/\q=n - k/\σ=[(10,Zk k),(9,Zk n),(8,Zc B n d),(3,Zc B n d)]/\Le fz1 fz'/\Grow changeL 114 fz' (Zc B n d) n H' l) ⟨0,Z0 _,rfl,rfl,Zd,hR1⟩ Zw (List.Sublist.refl _) ?_;rintro q σ fz2 H' ⟨k,hk,rfl,rfl,hle2,hG⟩;refine zW ?_;intros;refine zC ?_ ?_<;>intro c1
 ·obtain ⟨x,hx⟩:=Ye (l:=l) (k:=k) Zi;obtain ⟨w1,w2,w3,w4⟩:=hW x (Zm hx);obtain ⟨gk,cap,cur,e8,rfl,hB⟩:=hG.b Zi;injection e8 with e81 e82 e83
  subst e81;subst e83;obtain ⟨cs,hrx,hcx⟩:=Wf hB hx;obtain ⟨A0,n0,c0,A1,n1,c1,A2,n2,c2,A3,n3,c3,A4,n4,c4,A5,n5,c5,A6,n6,c6,A7,n7,c7,rfl,hR⟩:=Ymq hrx;obtain ⟨_,_,_,e0,i0⟩:=id hR.params;injection e0 with e01 e02 e03
  subst e01;subst e02;subst e03;obtain ⟨_,_,_,e5,i5⟩:=id hR.args;injection e5 with e51 e52 e53
  subst e51;subst e52;subst e53;have l0:=i0.len;have l5:=i5.len;refine zW ?_;intros;refine zG ?_;refine Yq rfl ?_;refine zG ?_;refine Yc (vs:=[Zk x.kind,Zc A0 n0 c0,Zy x.when_.op,Zy x.when_.name,Zc A1 n1 c1,Zc A2 n2 c2,Zc A3 n3 c3,Zc A4 n4 c4,Zy x.name,Zc A5 n5 c5,Zy x.value.op,Zy x.value.name,Zk x.value.n,Zc A6 n6 c6,Zc A7 n7 c7]) 0 ?_ (hv:=hcx);refine zWN ?_;intros;rename_i g5;refine XF [_,_] ?_;refine zW ?_;intros;refine Yk ?_;refine zW ?_;intros
  ((refine zG ?_);refine Yc (vs:=[Zy x.when_.op,Zy x.when_.name,Zc A1 n1 c1,Zc A2 n2 c2,Zc A3 n3 c3,Zc A4 n4 c4]) 0 ?_);refine Yk ?_;refine zW ?_;intros;refine Yk ?_;refine zW ?_;intros
  ((refine zG ?_);refine Yc (vs:=[Zy x.value.op,Zy x.value.name,Zk x.value.n,Zc A6 n6 c6,Zc A7 n7 c7]) 0 ?_);refine Yk ?_;refine zW ?_;intros;refine pU ?_;refine Yj (Ym [] [_,_] Zz (YaU i0 Zi) (fun v5 fz5 H5 hle5 hR5=>⟨⟨hle5,Zx⟩,?_⟩));obtain ⟨A8,c8,rfl,_,_⟩:=hR5.form;refine Yj (Ym [] (H5++ [_,_]) Zz (Yev _ (Zs _) (hR.when_.mono hle5) w2) (fun v6 fz6 H6 hle6 hR6=>⟨⟨hle5.trans hle6,Zx⟩,?_⟩));obtain ⟨rfl,wa,wp,we,wk,rfl,hR6⟩:=hR6;refine Yj (Ym [] (H5++ [_,_]) Zz (Ye6 (i5.mono (hle5.trans hle6)) Zi) (fun v7 fz7 H7 hle7 hR7=>⟨⟨hle5.trans (hle6.trans hle7),Zx⟩,?_⟩));obtain ⟨A9,c9,rfl,_,_⟩:=hR7.form;have hx7:=hle5.trans (hle6.trans hle7);refine Yj (Ym [] (H7++(H5++ [_,_])) Zz (Ymg _ (Zs _) (hR.value.mono hx7) w4) (fun v8 fz8 H8 hle8 hR8=>⟨⟨hx7.trans hle8,Zx⟩,?_⟩));obtain ⟨rfl,va,vk,rfl,hR8⟩:=hR8;obtain ⟨⟨D1,m1,d1,rfl,_⟩,⟨D2,m2,d2,rfl,_⟩,⟨D3,m3,d3,rfl,_⟩,⟨D4,m4,d4,rfl,_⟩⟩:=id hR6.sls;obtain ⟨⟨D5,m5,d5,rfl,_⟩,⟨D6,m6,d6,rfl,_⟩⟩:=id hR8.sls;refine Ch.hard0 (Does.perm perm2 (YG ?_));refine Ch.hard Zj (DoesQ.does (Yt ?_));refine Ch.hard0 (YG ?_);refine Ch.hard Zj (DoesQ.does (Yt ?_));refine Ch.hard0 (YG ?_);refine Ch.hard Zj (DoesQ.does (Yt ?_));refine Ch.hard0 (YG ?_);refine Ch.done ?_;refine Yds ?_;refine Wp.freezeAll (H1:=[_,_]) (H2:=H7++H5) (Zr _) (fun fz9 hle9 hf9=>?_);obtain ⟨A8',c8',e8,i8⟩:=hR5.sl (hle6.trans (hle7.trans (hle8.trans hle9))) (fun p hp=>hf9 p (by simp [hp])) Zi;injection e8 with e81 e82 e83
  subst e81;subst e83;obtain ⟨A9',c9',e9,i9⟩:=hR7.sl (hle8.trans hle9) (fun p hp=>hf9 p (by simp [hp])) Zi;injection e9 with e91 e92 e93
  subst e91;subst e93;have hx9:=hx7.trans (hle8.trans hle9);refine zW ?_;intros;refine zG ?_;refine Yq rfl ?_;refine Yz (YI (pre:=[_]) (L:=changeL) (j:=k) rfl rfl Yii (Yf9 ({hR with params:=i8.is,when_:=hR6.mono (hle7.trans (hle8.trans hle9)),args:=i9.is,value:=hR8.mono hle9}:ChangeR fz9 x _ _ _ _ _ _ _ _)) (hB.mono hx9) (fun cur1 hB1=>?_));refine zW ?_;intros;exact wP (h:=by exact ⟨k+1,by omega,rfl,rfl,hle2.trans hx9,hB1.grow.of (YeJ hx) rfl⟩)
 refine zW ?_;intros;obtain rfl:k=n:=by omega
 exact ret1 rfl rfl (List.Sublist.refl _) hG
theorem Yek (f:α->Bs):SWk (ltC (byC f)):=ordS.swk f
theorem Yn5 {n c:Nat}:GFn prog 52 [Zc A n c] fz [] (fun r fz' H'=>fz=fz'/\∃ g,r=.func (.func 124) #[] #[Zp g]/\H'=[(g,Zu #[Zc A n c] 22)]):=by
 refine zF Tryz.func52 Tryz.ntmps52 (fun w0=>?_);refine pX (fun g1=>?_);refine zW ?_;intros;refine zG ?_;refine Yao ?_;refine zW ?_;intros;exact ret1 rfl rfl (List.Sublist.refl _) ⟨rfl,g1,rfl,rfl⟩
theorem Yi1 {n c:Nat} {l:List Param} (h:Sl paramL fz A n c l) (hn:n<=1000000000):
 GFn prog 16 [Zc A n c] fz [] (fun r fz' H'=>Grow paramL 123 fz' r n H' (srtC (byC Param.name) l)):=by
 refine zF Tryz.func16 Tryz.ntmps16 (fun w0=>?_);refine zW ?_;intros;refine Ya (Ym [] [] Zz Yn5 (fun v4 fz4 H4 hle4 hR4=>?_));obtain ⟨rfl,g,rfl,rfl⟩:=hR4;refine Seq.freezeAll (H1:=[]) (H2:=[_]) (Zr _) (fun fz5 hle5 hf5=>?_);refine Ya (Ym [] [] Zz (YoV (hf5 _ (.head _)) (h.mono hle5) hn byNPa_q (Yek _)) (fun v6 fz6 H6 hle6 hR6=>?_));obtain ⟨rfl,hG⟩:=hR6;rw [List.append_nil];refine zW ?_;intros;exact ret1 rfl rfl (List.Sublist.refl _) hG
end Go.Proofs.YtiligkgjcmokbaaGreatDoor
namespace Go.Lx
variable {H:HP} {fz:FZ}
theorem Yfc {P:Program} {cx:Cx} {r:Operand->Option Value} {o:Oper} {H1 H2:HP} {K:Value->FZ->HP->Prop} (hp:H.Perm (H1++H2)) (h:∀ fz',Le fz fz'->(∀ p∈H2,fz' p.1=some p.2)->Does P cx o r fz' H1 K):Does P cx o r fz H K:=
 Does.of fun ρ w hr hi=>by
  obtain ⟨fz',a,b,c⟩:=WA H2 fz H1 (hi.perm hp.symm);exact (h fz' a b).run ρ w hr c
end Go.Lx
namespace Go.Proofs.YtiligkgjcmokbaaGreatDoor
variable {fz:FZ} {v1 v2 v3 v4 v5 v6 vb u1 u2 u3 u4 u5 u6 u7:Value} {Hs:HP}
theorem p3a {H7 H6:HP} {a b c:Nat × Obj}:(a::b::c::(H7++H6)).Perm (a::(H7++(H6++ [b,c]))):=perm2.cons _
theorem p3b {H7 H6:HP} {a b c:Nat × Obj}:(a::b::c::(H7++H6)).Perm (H7++(a::(H6++ [b,c]))):=p3a.trans List.perm_middle.symm
theorem p3c {H7 H6:HP} {a b c:Nat × Obj}:(a::b::c::(H7++H6)).Perm (H7++(H6++ [a,b,c])):=by
 rw [show H7++(H6++ [a,b,c])=(H7++H6)++ [a,b,c] from by simp [List.append_assoc]];exact Zq (l₁:=[a,b,c])
structure CanSm (d:Domain):Prop where
 t:d.types.length<=1000000
 c:d.constants.length<=1000000
 p:d.predicates.length<=1000000
 f:d.functions.length<=1000000
 a:d.actions.length<=1000000
 u:d.duratives.length<=1000000
 pp:∀ x∈d.predicates,x.params.length<=100000000
 fp:∀ x∈d.functions,x.params.length<=100000000
 ap:∀ x∈d.actions,x.params.length<=100000000/\fW x.pre<=1000000000/\x.changes.length<=1000000/\∀ y∈x.changes,y.params.length<=1000000000/\fW y.when_<=1000000000/\y.args.length<=1000000000/\eW y.value<=1000000000
 up:∀ x∈d.duratives,x.params.length<=100000000/\fW x.start<=1000000000/\fW x.over<=1000000000/\fW x.fin<=1000000000/\x.atStart.length<=1000000/\x.atEnd.length<=1000000/\(∀ y∈x.atStart,y.params.length<=1000000000/\fW y.when_<=1000000000/\y.args.length<=1000000000/\eW y.value<=1000000000)/\∀ y∈x.atEnd,y.params.length<=1000000000/\fW y.when_<=1000000000/\y.args.length<=1000000000/\eW y.value<=1000000000
def canD (d:Domain):Domain:=⟨d.name,srtC (byC Param.name) d.types,srtC (byC Param.name) d.constants,srtC (byC Predicate.name) d.predicates,srtC (byC Function.name) d.functions,srtC (byC Action.name) d.actions,srtC (byC Durative.name) d.duratives⟩
theorem YqN {d:Domain} (hD:DomainR fz d v1 v2 v3 v4 v5 v6) (hS:CanSm d):
 GFn prog 6 [ZD d v1 v2 v3 v4 v5 v6] fz [] (fun r fz' H'=>H'=[]/\∃ u1 u2 u3 u4 u5 u6,r=ZD d u1 u2 u3 u4 u5 u6/\DomainR fz' (canD d) u1 u2 u3 u4 u5 u6):=by
 obtain ⟨⟨A1,n1,c1,rfl,i1⟩,⟨A2,n2,c2,rfl,i2⟩,⟨A3,n3,c3,rfl,i3⟩,⟨A4,n4,c4,rfl,i4⟩,⟨A5,n5,c5,rfl,i5⟩,⟨A6,n6,c6,rfl,i6⟩⟩:=hD.sls;have l1:=i1.len;have l2:=i2.len;have l3:=i3.len;have l4:=i4.len;have l5:=i5.len;have l6:=i6.len;have s1:=hS.t;have s2:=hS.c;have s3:=hS.p;have s4:=hS.f;have s5:=hS.a;have s6:=hS.u;refine zF Tryz.func6 Tryz.ntmps6 (fun w0=>?_);refine pX (fun g1=>?_);refine Ya (Y7 (fun g2=>?_));refine zWX ?_;intros;refine Yr (YY (fun σ fz' H'=>∃ (g3:Nat) (B1 B2:Option Addr) (b1 b2:Nat),σ=[(3,Zp g3),(2,Zp g2),(1,Zp g1)]/\Le fz fz'/\
  H'=[(g3,Zu #[Zy d.name,Zc B1 n1 b1,Zc B2 n2 b2,Zn,Zn,Zn,Zn] 28),(g2,Zu #[Ze,Zn,Zn,Zn,Zn,Zn,Zn] 28),(g1,Zu #[Zy d.name,Zc A1 n1 c1,Zc A2 n2 c2,Zc A3 n3 c3,Zc A4 n4 c4,Zc A5 n5 c5,Zc A6 n6 c6] 28)]/\
  Sl paramL fz' B1 n1 b1 (srtC (byC Param.name) d.types)/\Sl paramL fz' B2 n2 b2 (srtC (byC Param.name) d.constants)) ?_ ?_)
 ·refine zWN ?_;intros;refine WP [] [_,_] ?_;refine zW ?_;intros;refine Yn ?_;refine zW ?_;intros;refine pT ?_
  repeat' first
   | refine Po.done ?_
   | (refine Yh ?_)
   | (refine XD ?_ ?_)
   | (refine Yd (i:=4) (Ym [] _ Zz (Yi1 i1 Zi) (fun v6 fz6 H6 hle6 hR6=>⟨⟨hle6,Zkx⟩,?_⟩));obtain ⟨B1,b1,rfl,_,_⟩:=hR6.form)
   | (refine Yd (i:=7) (Ym [] _ Zz (Yi1 (i2.mono hle6) Zi) (fun v7 fz7 H7 hle7 hR7=>⟨⟨hle6.trans hle7,Zkx⟩,?_⟩));obtain ⟨B2,b2,rfl,_,_⟩:=hR7.form)
   | refine PoS.qk ⟨hle6.trans hle7,Zkx⟩ (YaY ?_)
   | refine Yd (i:=9) (Y7 (fun g3=>⟨⟨Zd,Zkx⟩,?_⟩))
   | refine Yd (i:=9) (Y7 (fun g3=>⟨⟨hle6,Zkx⟩,?_⟩))
   | refine Yd (i:=9) (Y7 (fun g3=>⟨⟨hle6.trans hle7,Zkx⟩,?_⟩))
   | refine PoS.hard0 (Does.perm p3a (YG ?_))
   | refine PoS.hard0 (Does.perm p3b (YG ?_))
   | refine PoS.hard0 (Does.perm p3c (YG ?_))
  all_goals
   refine midF (σ':=[(3,Zp g3),(2,Zp g2),(1,Zp g1)]) (H':=[_,_,_]) (Zr _) (fun fz8 hle8 hf8=>?_) Zw;obtain ⟨B1',b1',e1,j1⟩:=hR6.sl (hle7.trans hle8) (fun p hp=>hf8 p (by simp [hp])) Zi;injection e1 with e11 e12 e13
   subst e11;subst e13;obtain ⟨B2',b2',e2,j2⟩:=hR7.sl hle8 (fun p hp=>hf8 p (by simp [hp])) Zi;injection e2 with e21 e22 e23
   subst e21;subst e23;exact ⟨g3,_,_,_,_,rfl,hle6.trans (hle7.trans hle8),rfl,j1,j2⟩
 rintro σ fz1 H' ⟨g3,B1,B2,b1,b2,rfl,hle1,rfl,j1,j2⟩;refine zW ?_;intros;refine Yi (fun q σ fz' H'=>∃ (k:Nat) (v:Value) (Hp:HP),k<=n3/\q=n3 - k/\σ=[(24,Zk k),(23,Zk n3),(22,Zc A3 n3 c3),(3,Zp g3),(2,Zp g2),(1,Zp g1)]/\Le fz1 fz'/\
  H'=(g3,Zu #[Zy d.name,Zc B1 n1 b1,Zc B2 n2 b2,v,Zn,Zn,Zn] 28)::(g2,Zu #[Ze,Zn,Zn,Zn,Zn,Zn,Zn] 28)::(g1,Zu #[Zy d.name,Zc A1 n1 c1,Zc A2 n2 c2,Zc A3 n3 c3,Zc A4 n4 c4,Zc A5 n5 c5,Zc A6 n6 c6] 28)::Hp/\Grow predicateL 61 fz' v k Hp (d.predicates.take k)) ⟨0,_,[],Z0 _,rfl,rfl,Zd,rfl,Grow.nil _ _ _⟩ Zw Zb ?_
 rintro q σ fz2 H' ⟨k,v,Hp,hk,rfl,rfl,hle2,rfl,hG⟩;obtain ⟨B3,b3,rfl,_,_⟩:=hG.form;refine zW ?_;intros;refine zC ?_ ?_<;>intro f1
 ·obtain ⟨x,hx⟩:=Ye (l:=d.predicates) (k:=k) Zi;have w1:=hS.pp x (Zm hx);refine zW ?_;intros;refine zI (i3.mono (hle1.trans hle2)) hx (fun p1 hp1=>?_);refine zL hp1 ?_;intro cs hcs;obtain ⟨X0,x0,y0,rfl,hR⟩:=Ycl hcs;obtain ⟨_,_,_,e0,ix⟩:=id hR.params;injection e0 with e01 e02 e03
  subst e01;subst e02;subst e03;have l0:=ix.len;refine zWN ?_;intros;rename_i g5;refine XF [_,_] ?_;refine zW ?_;intros;refine Yk (Yk (Yk (Yk ?_)));refine zW ?_;intros;refine pU ?_;refine Yj (Ym [] (_::_::_::_::Hp) Zz (YaU ix Zi) (fun v8 fz8 H8 hle8 hR8=>⟨⟨hle8,Zx⟩,?_⟩));obtain ⟨A8,c8,rfl,_,_⟩:=hR8.form;refine Ch.qk ⟨hle8,Zx⟩ (YaY ?_);refine Yj (Yfc (H1:=_::_::_::_::Hp) (H2:=H8) Zq (fun fz9 hle9 hf9=>?_));obtain ⟨A9,c9,e9,i9⟩:=hR8.sl hle9 hf9 Zi;injection e9 with e91 e92 e93
  subst e91;subst e93;refine Yb (cs:=[Zy x.name,Zc A8 x0 c8]) (fun gb=>⟨⟨hle8.trans hle9,Zx⟩,?_⟩);refine Yj (YN (Hr:=[_,_,_,_,_]) (d:=x) (Zr _) (hG.mono (hle8.trans hle9)) YeS (.head _) (YaZ ⟨hR.name,i9.is⟩) (fun v10 H10 hO10=>⟨⟨hle8.trans hle9,Zx⟩,?_⟩));obtain ⟨A10,c10,rfl,_,_⟩:=hO10.form;refine Ch.hard0 (WT ?_);refine Ch.done ?_;refine zW ?_;intros;exact Wj ⟨k+1,_,H10,by omega,rfl,rfl,hle2.trans (hle8.trans hle9),rfl,hO10.of (by rw [List.take_add_one,hx];rfl) rfl⟩ Zi Zw ((List.Sublist.refl _).cons _ |>.cons _)
 obtain rfl:n3=k:=by omega
 rw [Zl Zi] at hG;refine zW ?_;intros;refine Yi (fun q σ fz' H'=>∃ (k:Nat) (v:Value) (Hq:HP),k<=n4/\q=n4 - k/\σ=[(43,Zk k),(42,Zk n4),(41,Zc A4 n4 c4),(3,Zp g3),(2,Zp g2),(1,Zp g1)]/\Le fz2 fz'/\
  H'=(g3,Zu #[Zy d.name,Zc B1 n1 b1,Zc B2 n2 b2,Zc B3 n3 b3,v,Zn,Zn] 28)::(g2,Zu #[Ze,Zn,Zn,Zn,Zn,Zn,Zn] 28)::(g1,Zu #[Zy d.name,Zc A1 n1 c1,Zc A2 n2 c2,Zc A3 n3 c3,Zc A4 n4 c4,Zc A5 n5 c5,Zc A6 n6 c6] 28)::(Hp++Hq)/\Grow functionL 63 fz' v k Hq (d.functions.take k)) ⟨0,_,[],Z0 _,rfl,rfl,Zd,by rw [List.append_nil],Grow.nil _ _ _⟩ Zw (List.Sublist.refl _) ?_
 rintro q σ fz3 H' ⟨k,v,Hq4,hk,rfl,rfl,hle3,rfl,hG4⟩;obtain ⟨B4,b4,rfl,_,_⟩:=hG4.form;refine zW ?_;intros;refine zC ?_ ?_<;>intro f1
 ·obtain ⟨x,hx⟩:=Ye (l:=d.functions) (k:=k) Zi;have w1:=hS.fp x (Zm hx);refine zW ?_;intros;refine zI (i4.mono (hle1.trans (hle2.trans hle3))) hx (fun p1 hp1=>?_);refine zL hp1 ?_;intro cs hcs;obtain ⟨X0,x0,y0,rfl,hR⟩:=Ydb hcs;obtain ⟨_,_,_,e0,ix⟩:=id hR.params;injection e0 with e01 e02 e03
  subst e01;subst e02;subst e03;have l0:=ix.len;refine zW ?_;intros;rename_i g5;refine Ya (Ym [] (_::_::_::_::(Hp++Hq4)) Zz (YaU ix Zi) (fun v8 fz8 H8 hle8 hR8=>?_));obtain ⟨A8,c8,rfl,_,_⟩:=hR8.form;refine Seq.freezeAll (H1:=_::_::_::_::(Hp++Hq4)) (H2:=H8) Zq (fun fz9 hle9 hf9=>?_);obtain ⟨A9,c9,e9,i9⟩:=hR8.sl hle9 hf9 Zi;injection e9 with e91 e92 e93
  subst e91;subst e93;refine zW ?_;intros;refine Ya (Yb (cs:=[Zy x.name,Zc A8 x0 c8,Zk x.lo,Zk x.hi]) (fun gb=>?_));refine Ya (YN (Hr:=_::_::_::_::_::Hp) (d:=x) (Zr _) (hG4.mono (hle8.trans hle9)) Yf2 (.head _) (Ybg ⟨hR.name,i9.is,hR.lo,hR.hi⟩) (fun v10 H10 hO10=>?_));obtain ⟨A10,c10,rfl,_,_⟩:=hO10.form;refine zW ?_;intros;exact Wj ⟨k+1,_,H10,by omega,rfl,rfl,hle3.trans (hle8.trans hle9),rfl,hO10.of (by rw [List.take_add_one,hx];rfl) rfl⟩ Zi Zw ((List.Sublist.refl _).cons _ |>.cons _)
 obtain rfl:n4=k:=by omega
 rw [Zl Zi] at hG4;refine zW ?_;intros;refine Yi (fun q σ fz' H'=>∃ (k:Nat) (v:Value) (Hq:HP),k<=n5/\q=n5 - k/\σ=[(61,Zk k),(60,Zk n5),(59,Zc A5 n5 c5),(3,Zp g3),(2,Zp g2),(1,Zp g1)]/\Le fz3 fz'/\
  H'=(g3,Zu #[Zy d.name,Zc B1 n1 b1,Zc B2 n2 b2,Zc B3 n3 b3,Zc B4 n4 b4,v,Zn] 28)::(g2,Zu #[Ze,Zn,Zn,Zn,Zn,Zn,Zn] 28)::(g1,Zu #[Zy d.name,Zc A1 n1 c1,Zc A2 n2 c2,Zc A3 n3 c3,Zc A4 n4 c4,Zc A5 n5 c5,Zc A6 n6 c6] 28)::((Hp++Hq4)++Hq)/\Grow actionL 52 fz' v k Hq (d.actions.take k)) ⟨0,_,[],Z0 _,rfl,rfl,Zd,by rw [List.append_nil],Grow.nil _ _ _⟩ Zw (List.Sublist.refl _) ?_
 rintro q σ fz4 H' ⟨k,v,Hq5,hk,rfl,rfl,hle4,rfl,hG5⟩;obtain ⟨B5,b5,rfl,_,_⟩:=hG5.form;refine zW ?_;intros;refine zC ?_ ?_<;>intro f1
 ·obtain ⟨x,hx⟩:=Ye (l:=d.actions) (k:=k) Zi;obtain ⟨w1,w2,w3,w4⟩:=hS.ap x (Zm hx);refine zW ?_;intros;refine zI (i5.mono (hle1.trans (hle2.trans (hle3.trans hle4)))) hx (fun p1 hp1=>?_);refine zL hp1 ?_;intro cs hcs;obtain ⟨X0,x0,y0,X1,x1,y1,X2,x2,y2,X3,x3,y3,X4,x4,y4,X5,x5,y5,rfl,hR⟩:=YeA hcs;obtain ⟨_,_,_,e0,ix⟩:=id hR.params;injection e0 with e01 e02 e03
  subst e01;subst e02;subst e03;obtain ⟨_,_,_,e5,iy⟩:=id hR.changes;injection e5 with e51 e52 e53
  subst e51;subst e52;subst e53;have l0:=ix.len;have l5':=iy.len;refine zWN ?_;intros;rename_i g5;refine XF [_,_] ?_;refine zW ?_;intros;refine Yk ?_;refine zW ?_;intros
  ((refine zG ?_);refine Yc (vs:=[Zy x.pre.op,Zy x.pre.name,Zc X1 x1 y1,Zc X2 x2 y2,Zc X3 x3 y3,Zc X4 x4 y4]) 0 ?_);refine Yk ?_;refine zW ?_;intros;refine Yk ?_;refine zW ?_;intros;refine pU ?_;refine Yj (Ym [] (_::_::_::_::(Hp++Hq4++Hq5)) Zz (YaU ix Zi) (fun v8 fz8 H8 hle8 hR8=>⟨⟨hle8,Zx⟩,?_⟩));obtain ⟨A8,c8,rfl,_,_⟩:=hR8.form;refine Yj (Ym [] (H8++_::_::_::_::(Hp++Hq4++Hq5)) Zz (Yev _ (Zs _) (hR.pre.mono hle8) w2) (fun v9 fz9 H9 hle9 hR9=>⟨⟨hle8.trans hle9,Zx⟩,?_⟩));obtain ⟨rfl,wa,wp,we,wk,rfl,hR9⟩:=hR9;obtain ⟨⟨D1,m1,d1,rfl,_⟩,⟨D2,m2,d2,rfl,_⟩,⟨D3,m3,d3,rfl,_⟩,⟨D4,m4,d4,rfl,_⟩⟩:=id hR9.sls;refine Yj (Ym [] (H8++_::_::_::_::(Hp++Hq4++Hq5)) Zz (Ymi (iy.mono (hle8.trans hle9)) Zi w4) (fun v10 fz10 H10 hle10 hR10=>⟨⟨hle8.trans (hle9.trans hle10),Zx⟩,?_⟩));obtain ⟨A9,c9,rfl,_,_⟩:=hR10.form;refine Ch.hard0 (Yfc (H1:=_::_::_::_::(Hp++Hq4++Hq5)) (H2:=H10++H8) (by rw [<- List.append_assoc];exact Zq) (fun fz11 hle11 hf11=>?_));obtain ⟨A8',c8',e8,i8⟩:=hR8.sl (hle9.trans (hle10.trans hle11)) (fun p hp=>hf11 p (by simp [hp])) Zi;injection e8 with e81 e82 e83
  subst e81;subst e83;obtain ⟨A9',c9',e9,i9⟩:=hR10.sl hle11 (fun p hp=>hf11 p (by simp [hp])) Zi;injection e9 with e91 e92 e93
  subst e91;subst e93;refine YG ?_;refine Ch.hard Zj (DoesQ.does (Yt ?_));refine Ch.hard0 (YG ?_);refine Ch.hard Zj (DoesQ.does (Yt ?_));refine Ch.hard0 (YG ?_);refine Ch.done ?_;have hx11:=hle8.trans (hle9.trans (hle10.trans hle11));refine zW ?_;intros;refine Ya (Yb (cs:=[Zy x.name,Zc A8 x0 c8,Zk x.cost,Zy x.pre.op,Zy x.pre.name,Zc D1 m1 d1,Zc D2 m2 d2,Zc D3 m3 d3,Zc D4 m4 d4,Zc A9 x5 c9]) (fun gb=>?_));refine Ya (YN (Hr:=_::_::_::_::_::(Hp++Hq4)) (d:=x) (Zr _) (hG5.mono hx11) Yij (.head _) (We ({hR with params:=i8.is,pre:=hR9.mono (hle10.trans hle11),changes:=i9.is}:ActionR fz11 x _ _ _ _ _ _)) (fun v12 H12 hO12=>?_));obtain ⟨A12,c12,rfl,_,_⟩:=hO12.form;refine zW ?_;intros;exact Wj ⟨k+1,_,H12,by omega,rfl,rfl,hle4.trans hx11,rfl,hO12.of (by rw [List.take_add_one,hx];rfl) rfl⟩ Zi Zw ((List.Sublist.refl _).cons _ |>.cons _)
 obtain rfl:n5=k:=by omega
 rw [Zl Zi] at hG5;refine zW ?_;intros;refine Yi (fun q σ fz' H'=>∃ (k:Nat) (v:Value) (Hq:HP),k<=n6/\q=n6 - k/\σ=[(87,Zk k),(86,Zk n6),(85,Zc A6 n6 c6),(3,Zp g3),(2,Zp g2)]/\Le fz4 fz'/\
  H'=(g3,Zu #[Zy d.name,Zc B1 n1 b1,Zc B2 n2 b2,Zc B3 n3 b3,Zc B4 n4 b4,Zc B5 n5 b5,v] 28)::(g2,Zu #[Ze,Zn,Zn,Zn,Zn,Zn,Zn] 28)::(g1,Zu #[Zy d.name,Zc A1 n1 c1,Zc A2 n2 c2,Zc A3 n3 c3,Zc A4 n4 c4,Zc A5 n5 c5,Zc A6 n6 c6] 28)::((Hp++Hq4++Hq5)++Hq)/\Grow durativeL 55 fz' v k Hq (d.duratives.take k)) ⟨0,_,[],Z0 _,rfl,rfl,Zd,by rw [List.append_nil],Grow.nil _ _ _⟩ Zw (List.Sublist.refl _) ?_
 rintro q σ fz5 H' ⟨k,v,Hq6,hk,rfl,rfl,hle5,rfl,hG6⟩;obtain ⟨B6,b6,rfl,_,_⟩:=hG6.form;refine zW ?_;intros;refine zC ?_ ?_<;>intro f1
 ·obtain ⟨x,hx⟩:=Ye (l:=d.duratives) (k:=k) Zi;obtain ⟨w1,w2,w3,w4,w5,w6,w7,w8⟩:=hS.up x (Zm hx);refine zW ?_;intros;refine zI (i6.mono (hle1.trans (hle2.trans (hle3.trans (hle4.trans hle5))))) hx (fun p1 hp1=>?_);refine zL hp1 ?_;intro cs hcs;obtain ⟨X0,x0,y0,X1,x1,y1,X2,x2,y2,X3,x3,y3,X4,x4,y4,X5,x5,y5,X6,x6,y6,X7,x7,y7,X8,x8,y8,X9,x9,y9,X10,x10,y10,X11,x11,y11,X12,x12,y12,X13,x13,y13,X14,x14,y14,rfl,hR⟩:=Ydd hcs;obtain ⟨_,_,_,e0,ix⟩:=id hR.params;injection e0 with e01 e02 e03
  subst e01;subst e02;subst e03;obtain ⟨_,_,_,e5,iy⟩:=id hR.atStart;injection e5 with e51 e52 e53
  subst e51;subst e52;subst e53;obtain ⟨_,_,_,e6,iz⟩:=id hR.atEnd;injection e6 with e61 e62 e63
  subst e61;subst e62;subst e63;have l0:=ix.len;have l13:=iy.len;have l14:=iz.len;refine zWN ?_;intros;rename_i g5;refine XF [_,_] ?_;refine zW ?_;intros;refine Yk ?_;refine zW ?_;intros
  ((refine zG ?_);refine Yc (vs:=[Zy x.start.op,Zy x.start.name,Zc X1 x1 y1,Zc X2 x2 y2,Zc X3 x3 y3,Zc X4 x4 y4]) 0 ?_);refine Yk ?_;refine zW ?_;intros
  ((refine zG ?_);refine Yc (vs:=[Zy x.over.op,Zy x.over.name,Zc X5 x5 y5,Zc X6 x6 y6,Zc X7 x7 y7,Zc X8 x8 y8]) 0 ?_);refine Yk ?_;refine zW ?_;intros
  ((refine zG ?_);refine Yc (vs:=[Zy x.fin.op,Zy x.fin.name,Zc X9 x9 y9,Zc X10 x10 y10,Zc X11 x11 y11,Zc X12 x12 y12]) 0 ?_);refine Yk ?_;refine zW ?_;intros;refine pU ?_;refine Yj (Ym [] (_::_::_::_::(Hp++Hq4++Hq5++Hq6)) Zz (YaU ix Zi) (fun v8 fz8 H8 hle8 hR8=>⟨⟨hle8,Zx⟩,?_⟩));obtain ⟨A8,c8,rfl,_,_⟩:=hR8.form;refine Yj (Ym [] (H8++_::_::_::_::(Hp++Hq4++Hq5++Hq6)) Zz (Yev _ (Zs _) (hR.start.mono hle8) w2) (fun v9 fz9 H9 hle9 hR9=>⟨⟨hle8.trans hle9,Zx⟩,?_⟩));obtain ⟨rfl,wSa,wSp,wSe,wSk,rfl,hR9⟩:=hR9;obtain ⟨⟨S1,mS1,eS1,rfl,_⟩,⟨S2,mS2,eS2,rfl,_⟩,⟨S3,mS3,eS3,rfl,_⟩,⟨S4,mS4,eS4,rfl,_⟩⟩:=id hR9.sls;refine Yj (Ym [] (H8++_::_::_::_::(Hp++Hq4++Hq5++Hq6)) Zz (Yev _ (Zs _) (hR.over.mono (hle8.trans hle9)) w3) (fun v10 fz10 H10 hle10 hR10=>⟨⟨hle8.trans (hle9.trans hle10),Zx⟩,?_⟩));obtain ⟨rfl,wOa,wOp,wOe,wOk,rfl,hR10⟩:=hR10;obtain ⟨⟨O1,mO1,eO1,rfl,_⟩,⟨O2,mO2,eO2,rfl,_⟩,⟨O3,mO3,eO3,rfl,_⟩,⟨O4,mO4,eO4,rfl,_⟩⟩:=id hR10.sls;have hx10:=hle8.trans (hle9.trans hle10);refine Yj (Ym [] (H8++_::_::_::_::(Hp++Hq4++Hq5++Hq6)) Zz (Yev _ (Zs _) (hR.fin.mono hx10) w4) (fun v11 fz11 H11 hle11 hR11=>⟨⟨hx10.trans hle11,Zx⟩,?_⟩));obtain ⟨rfl,wEa,wEp,wEe,wEk,rfl,hR11⟩:=hR11;obtain ⟨⟨E1,mE1,eE1,rfl,_⟩,⟨E2,mE2,eE2,rfl,_⟩,⟨E3,mE3,eE3,rfl,_⟩,⟨E4,mE4,eE4,rfl,_⟩⟩:=id hR11.sls;refine Ch.hard0 (Yfc (H1:=_::_::_::_::(Hp++Hq4++Hq5++Hq6)) (H2:=H8) (Zq (l₁:=H8) (l₂:=_::_::_::_::(Hp++Hq4++Hq5++Hq6))) (fun fz12 hle12 hf12=>?_));obtain ⟨A8',c8',e8,i8⟩:=hR8.sl (hle9.trans (hle10.trans (hle11.trans hle12))) hf12 Zi;injection e8 with e81 e82 e83
  subst e81;subst e83;refine YG ?_;refine Ch.hard Zj (DoesQ.does (Yt ?_));refine Ch.hard0 (YG ?_);refine Ch.hard Zj (DoesQ.does (Yt ?_));refine Ch.hard0 (YG ?_);refine Ch.hard Zj (DoesQ.does (Yt ?_));refine Ch.hard0 (YG ?_);refine Ch.done ?_;have hx12:=hx10.trans (hle11.trans hle12);refine zWN ?_;intros;refine XF [_,_] ?_;refine zW ?_;intros;refine Yk ?_;refine zW ?_;intros;refine Yk ?_;refine zW ?_;intros;refine pU ?_;refine Yj (Ym [] (_::_::_::_::(Hp++Hq4++Hq5++Hq6)) Zz (Ymi (iy.mono hx12) Zi w7) (fun v13 fz13 H13 hle13 hR13=>⟨⟨hle13,Zx⟩,?_⟩));obtain ⟨A13,c13,rfl,_,_⟩:=hR13.form;refine Yj (Ym [] (H13++_::_::_::_::(Hp++Hq4++Hq5++Hq6)) Zz (Ymi (iz.mono (hx12.trans hle13)) Zi w8) (fun v14 fz14 H14 hle14 hR14=>⟨⟨hle13.trans hle14,Zx⟩,?_⟩));obtain ⟨A14,c14,rfl,_,_⟩:=hR14.form;refine Ch.hard0 (Yfc (H1:=_::_::_::_::(Hp++Hq4++Hq5++Hq6)) (H2:=H14++H13) (by rw [<- List.append_assoc];exact Zq) (fun fz15 hle15 hf15=>?_));obtain ⟨A13',c13',e13,i13⟩:=hR13.sl (hle14.trans hle15) (fun p hp=>hf15 p (by simp [hp])) Zi;injection e13 with e131 e132 e133
  subst e131;subst e133;obtain ⟨A14',c14',e14,i14⟩:=hR14.sl hle15 (fun p hp=>hf15 p (by simp [hp])) Zi;injection e14 with e141 e142 e143
  subst e141;subst e143;refine YG ?_;refine Ch.hard Zj (DoesQ.does (Yt ?_));refine Ch.hard0 (YG ?_);refine Ch.done ?_;have hy15:=hle13.trans (hle14.trans hle15);have hx15:=hx12.trans hy15;refine zW ?_;intros;refine Ya (Yb (cs:=[Zy x.name,Zc A8 x0 c8,Zk x.duration,Zy x.start.op,Zy x.start.name,Zc S1 mS1 eS1,Zc S2 mS2 eS2,Zc S3 mS3 eS3,Zc S4 mS4 eS4,Zy x.over.op,Zy x.over.name,Zc O1 mO1 eO1,Zc O2 mO2 eO2,Zc O3 mO3 eO3,Zc O4 mO4 eO4,Zy x.fin.op,Zy x.fin.name,Zc E1 mE1 eE1,Zc E2 mE2 eE2,Zc E3 mE3 eE3,Zc E4 mE4 eE4,Zc A13 x13 c13,Zc A14 x14 c14]) (fun gb=>?_));refine Ya (YN (Hr:=_::_::_::_::_::(Hp++Hq4++Hq5)) (d:=x) (Zr _) (hG6.mono hx15) Yf3 (.head _) (YX ({hR with params:=(i8.mono hy15).is,start:=hR9.mono (hle10.trans (hle11.trans (hle12.trans hy15))),over:=hR10.mono (hle11.trans (hle12.trans hy15)),fin:=hR11.mono (hle12.trans hy15),atStart:=i13.is,atEnd:=i14.is}:DurativeR fz15 x _ _ _ _ _ _ _ _ _ _ _ _ _ _ _)) (fun v16 H16 hO16=>?_));obtain ⟨A16,c16,rfl,_,_⟩:=hO16.form;refine zW ?_;intros;exact Wj ⟨k+1,_,H16,by omega,rfl,rfl,hle5.trans hx15,rfl,hO16.of (by rw [List.take_add_one,hx];rfl) rfl⟩ Zi Zw ((List.Sublist.refl _).cons _ |>.cons _)
 obtain rfl:n6=k:=by omega
 rw [Zl Zi] at hG6;have hG':=hG.mono (hle3.trans (hle4.trans hle5));have hG4':=hG4.mono (hle4.trans hle5);have hG5':=hG5.mono hle5;refine zW ?_;intros;refine Ya (Does.perm (H':=Hp++(_::_::_::(Hq4++Hq5++Hq6))) (by simp only [List.append_assoc];exact List.perm_append_comm_assoc Hp [_,_,_] _) (Ym Hp _ rfl (Yfk .pr hG' byNPr_q (Yek _) Zi) (fun v20 fz20 H20 hle20 hR20=>?_)));obtain ⟨rfl,hG20⟩:=hR20;refine Seq.freezeAll (H1:=_::_::_::(Hq4++Hq5++Hq6)) (H2:=H20) Zq (fun fz21 hle21 hf21=>?_);obtain ⟨B3',b3',e3,k3⟩:=hG20.sl hle21 hf21 Zi;injection e3 with e31 e32 e33
 subst e31;subst e33;refine zW ?_;intros;refine Ya (Does.perm (H':=Hq4++(_::_::_::(Hq5++Hq6))) (by simp only [List.append_assoc];exact List.perm_append_comm_assoc Hq4 [_,_,_] _) (Ym Hq4 _ rfl (Yfk .fu (hG4'.mono hle21) byNFu_q (Yek _) Zi) (fun v22 fz22 H22 hle22 hR22=>?_)));obtain ⟨rfl,hG22⟩:=hR22;refine Seq.freezeAll (H1:=_::_::_::(Hq5++Hq6)) (H2:=H22) Zq (fun fz23 hle23 hf23=>?_);obtain ⟨B4',b4',e4,k4⟩:=hG22.sl hle23 hf23 Zi;injection e4 with e41 e42 e43
 subst e41;subst e43;refine zW ?_;intros;refine Ya (Does.perm (H':=Hq5++(_::_::_::Hq6)) (List.perm_append_comm_assoc Hq5 [_,_,_] _) (Ym Hq5 _ rfl (Yfk .ac (hG5'.mono (hle21.trans hle23)) byNAc_q (Yek _) Zi) (fun v24 fz24 H24 hle24 hR24=>?_)));obtain ⟨rfl,hG24⟩:=hR24;refine Seq.freezeAll (H1:=_::_::_::Hq6) (H2:=H24) Zq (fun fz25 hle25 hf25=>?_);obtain ⟨B5',b5',e5,k5⟩:=hG24.sl hle25 hf25 Zi;injection e5 with e51 e52 e53
 subst e51;subst e53;refine zW ?_;intros;refine Ya (Does.perm (H':=Hq6++ [_,_,_]) (Zq (l₁:=Hq6)) (Ym Hq6 _ rfl (Yfk .du (hG6.mono (hle21.trans (hle23.trans hle25))) byNDu_q (Yek _) Zi) (fun v26 fz26 H26 hle26 hR26=>?_)));obtain ⟨rfl,hG26⟩:=hR26;refine Seq.freezeAll (H1:=[_,_,_]) (H2:=H26) Zq (fun fz27 hle27 hf27=>?_);obtain ⟨B6',b6',e6,k6⟩:=hG26.sl hle27 hf27 Zi;injection e6 with e61 e62 e63
 subst e61;subst e63;refine zW ?_;intros;refine XJ (i:=1) rfl (fun fz28 hle28 hf28=>?_);have z0:=hle23.trans (hle25.trans (hle27.trans hle28));have z1:=hle2.trans (hle3.trans (hle4.trans (hle5.trans (hle21.trans z0))));exact ⟨rfl,_,_,_,_,_,_,rfl,⟨hD.name,(j1.mono z1).is,(j2.mono z1).is,(k3.mono z0).is,(k4.mono (hle25.trans (hle27.trans hle28))).is,(k5.mono (hle27.trans hle28)).is,(k6.mono hle28).is⟩⟩
theorem Yph {a b:Atom} {va:Value} (ha:AtomR fz a va) (hb:AtomR fz b vb):
 QFn prog 68 [.agg #[Zy a.name,va],.agg #[Zy b.name,vb]] fz (Zo (decide (a=b))):=by
 obtain ⟨A,n,c,rfl,ia⟩:=ha.args;obtain ⟨B,m,d,rfl,ib⟩:=hb.args;refine qF Tryz.func68 Tryz.ntmps68 (fun w0=>?_);refine pX (fun g0=>?_);refine pY (fun g1=>?_);refine zW ?_;intros;refine zC ?_ ?_<;>intro e1
 ·refine zW ?_;intros;refine zb (Yjt ia ib) (fun f1=>?_) (fun f1=>?_)
  ·refine zW ?_;intros;exact wR (h:=by exact Yu (atom_eta e1 (Zt f1)))
  refine zW ?_;intros;exact wR (h:=by exact Yl (fun h=>Zf f1 (by rw [h])))
 refine zW ?_;intros;exact wR (h:=by exact Yl (fun h=>e1 (by rw [h])))
theorem Yn3 {g n cap:Nat} {cur:List Value} {l:List Atom} {t:TypeId} (hB:GrowB atomL t fz g n cap cur l) (hn:0<n) (hn2:n<=2000000):
 GFn prog 67 [Zv g n cap,.func (.func 68) #[] #[]] fz [(g,Zu cur.toArray t)]
  (fun r fz' H'=>fz=fz'/\∃ m cur',r=Zv g m cap/\H'=[(g,Zu (List.toArray cur') t)]/\GrowB atomL t fz g m cap cur' (cptM l)):=by
 have hl:=hB.len;have hcn:=hB.capn;have hcs:=hB.size;have hmax:=hB.max;unfold maxLen at hmax;have hz:atomL.size=2:=rfl
 -- an atom of the row,as1 it lies there
 have look:∀ {cur':List Value} {l':List Atom} {m i:Nat} {a:Atom},GrowB atomL t fz g m cap cur' l'->l'[i]?=some a->∃ A n c,AtomR fz a (Zc A n c)/\∀ {j:Nat},j=i*2->(cur'.drop j).take 2=[Zy a.name,Zc A n c]:=by
  intro cur' l' m i a hb ha;obtain ⟨cs,hr,hc⟩:=Wf hb ha;obtain ⟨va,rfl,hR⟩:=XA hr;obtain ⟨A,n,c,rfl,_⟩:=id hR.args;exact ⟨A,n,c,hR,fun hj=>by subst hj;exact hc⟩
 refine zF Tryz.func67 Tryz.ntmps67 (fun w0=>?_);refine zW ?_;intros;refine zC ?_ ?_<;>intro c1
 ·have h1:n=1:=by omega
  obtain ⟨x,hx⟩:=Ye (l:=l) (k:=0) Zi;have hcp:cptM l=l:=by
   unfold cptM;rw [hl,h1,YjA hx (.inl rfl),cpt]
   match l,hl,hx with
   | [y],_,hx=>simpa using hx.symm
   | [],hl,_=>simp at hl;omega
   | _::_::_,hl,_=>simp at hl;omega
  refine zW ?_;intros;exact wR (h:=by exact ⟨rfl,n,cur,rfl,rfl,by rw [hcp];exact hB⟩)
 refine zW ?_;intros;refine Yi (fun q σ fz' H'=>∃ k:Nat,1<=k/\k<=n/\q=n - k/\σ=[(5,Zk k),(0,Zv g n cap),(1,.func (.func 68) #[] #[])]/\fz=fz'/\H'=[(g,Zu cur.toArray t)]/\cpt l k=l.take k) ⟨1,Zs _,by omega,rfl,rfl,rfl,rfl,?_⟩ Zw Zb ?_
 ·obtain ⟨x,hx⟩:=Ye (l:=l) (k:=0) Zi;rw [YjA hx (.inl rfl),cpt,List.take_add_one,hx];rfl
 rintro q σ fz' H' ⟨k,hk1,hk,rfl,rfl,rfl,rfl,hcp⟩;refine zW ?_;intros;refine zC ?_ ?_<;>intro c2
 ·obtain ⟨x,hx⟩:=Ye (l:=l) (k:=k) Zi;obtain ⟨y,hy⟩:=Ye (l:=l) (k:=k - 1) Zi;obtain ⟨Ax,nx,cx,hRx,hcx⟩:=look hB hx;obtain ⟨Ay,ny,cy,hRy,hcy⟩:=look hB hy;refine zW ?_;intros;refine zG ?_;refine Yq rfl ?_;refine zG ?_;refine Yc (vs:=[Zy x.name,Zc Ax nx cx]) 0 ?_ (hv:=hcx (j:=(k:Int).toNat*2) Zi);refine zW ?_;intros;refine zG ?_;refine Yq rfl ?_;refine zG ?_;refine Yc (vs:=[Zy y.name,Zc Ay ny cy]) 0 ?_ (hv:=hcy (j:=((k:Int) - 1).toNat*2) Zi);refine zW ?_;intros
  ((refine zG ?_);refine Yah Zz Zz Zz (Yph hRx hRy) (fun f1=>?_) (fun f1=>?_))
  ·have exy:x=y:=f1;subst exy;have hcp1:cpt l (k+1)=l.take k:=by rw [Ynz Zi hx hy,hcp]
   refine zW ?_;intros;refine zG ?_;refine YfZ (z:=2) rfl ?_;refine zW ?_;intros;refine Yi (fun q σ fz' H'=>∃ (j m:Nat) (cur1:List Value),1<=j/\k+j<=n/\q=n - (k+j)/\m<k+j/\σ=[(7,Zk j),(6,Zc (some ⟨g,k*2,none⟩) (n - k) (cap - k)),(5,Zk m),(0,Zv g n cap),(1,.func (.func 68) #[] #[])]/\fz=fz'/\H'=[(g,Zu cur1.toArray t)]/\(cpt l (k+j)).length=m/\GrowB atomL t fz g n cap cur1 (cpt l (k+j)++l.drop m)) ⟨1,k,cur,Zs _,by omega,rfl,by omega,rfl,rfl,rfl,by rw [hcp1,List.length_take];omega,by rw [hcp1,List.take_append_drop];exact hB⟩ Zw Zb ?_;rintro q σ fz' H' ⟨j,m,cur1,hj1,hj,rfl,hm,rfl,rfl,rfl,hcl,hB1⟩;have hat:∀ i,m<=i->(cpt l (k+j)++l.drop m)[i]?=l[i]?:=fun i hi=>by
    rw [List.getElem?_append_right Zi,hcl,List.getElem?_drop,show m+(i - m)=i by omega]
   have hs1:=hB1.size;refine zW ?_;intros;refine zC ?_ ?_<;>intro c3
   ·obtain ⟨u,hu⟩:=Ye (l:=l) (k:=k+j) Zi;obtain ⟨v,hv⟩:=Ye (l:=l) (k:=k+j - 1) Zi;obtain ⟨Au,nu,cu,hRu,hcu⟩:=look hB1 ((hat (k+j) Zi).trans hu);obtain ⟨Av,nv,cv,hRv,hcv⟩:=look hB1 ((hat (k+j - 1) Zi).trans hv);refine zW ?_;intros;refine zG ?_;refine Ydz rfl ?_;refine zG ?_;refine Yc (vs:=[Zy u.name,Zc Au nu cu]) 0 ?_ (hv:=hcu (j:=(k+(j:Int).toNat)*2) Zi);refine zW ?_;intros;refine zG ?_;refine Ydz rfl ?_;refine zG ?_;refine Yc (vs:=[Zy v.name,Zc Av nv cv]) 0 ?_ (hv:=hcv (j:=(k+((j:Int) - 1).toNat)*2) Zi);refine zW ?_;intros
    ((refine zG ?_);refine Yah Zz Zz Zz (Yph hRu hRv) (fun f2=>?_) (fun f2=>?_))
    ·have euv:u=v:=f2;subst euv;have hc2:cpt l (k+j+1)=cpt l (k+j):=Ynz Zi hu hv;refine zW ?_;intros;exact wP (h:=by exact ⟨j+1,m,cur1,by omega,by omega,rfl,by omega,rfl,rfl,rfl,by rw [<- Nat.add_assoc,hc2];exact hcl,by rw [<- Nat.add_assoc,hc2];exact hB1⟩)
    have euv:¬u=v:=f2;have hc2:cpt l (k+j+1)=cpt l (k+j)++ [u]:=YjA hu (.inr (by rw [hv];intro h;injection h with h;exact euv h.symm));have hset:(cpt l (k+j)++l.drop m).set m u=cpt l (k+j)++ [u]++l.drop (m+1):=by
     rw [List.set_append_right _ _ Zi,hcl,Nat.sub_self,List.drop_eq_getElem_cons Zi,List.set_cons_zero];simp
    refine zW ?_;intros;refine zG ?_;refine Ydz rfl ?_;refine zG ?_;refine Yc (vs:=[Zy u.name,Zc Au nu cu]) 0 ?_ (hv:=hcu (j:=(k+(j:Int).toNat)*2) Zi);refine zW ?_;intros;refine zG ?_;refine Yq rfl ?_;refine Yz (YI (pre:=[]) (L:=atomL) (j:=m) rfl rfl YnH (YbQ hRu) hB1 (fun cur2 hB2=>?_));refine zW ?_;intros;exact wP (h:=by exact ⟨j+1,m+1,cur2,by omega,by omega,rfl,by omega,rfl,rfl,rfl,by rw [<- Nat.add_assoc,hc2,List.length_append,hcl];rfl,by rw [<- Nat.add_assoc,hc2,<- hset];exact hB2⟩)
   have hkj:k+j=n:=by omega
   refine zW ?_;intros;refine zG ?_;refine YfZ (z:=2) rfl ?_;refine Yz (k_clear T (pre:=[]) (z:=2) Zz Zz Zz rfl rfl Zi Zz Zi rfl (by rw [hs1,hz];omega) (fun cur3 hl3 ht3=>?_));refine zW ?_;intros;refine zG ?_;refine Ypd T Zz Zz Zz Zz Zz Zi ?_;refine zW ?_;intros;rw [hkj] at hcl hB1;exact wR (h:=by exact ⟨rfl,m,cur3,rfl,rfl,by unfold cptM;rw [hl];exact hB1.cut hcl hl3 ht3⟩)
  have exy:¬x=y:=f1;refine zW ?_;intros;exact wP (h:=by exact ⟨k+1,by omega,by omega,rfl,rfl,rfl,rfl,by rw [YjA hx (.inr (by rw [hy];intro h;injection h with h;exact exy h.symm)),hcp,List.take_add_one,hx];rfl⟩)
 have hk2:n=k:=by omega
 subst hk2;refine zW ?_;intros;exact wR (h:=by exact ⟨rfl,n,cur,rfl,rfl,by unfold cptM;rw [hl,hcp,Zl Zi];exact hB⟩)
section
variable [Dr]
theorem Yn2 {fz:FZ} {a b:Atom} {va vb:Value} (ha:AtomR fz a va) (hb:AtomR fz b vb):GFn prog 66 [.agg #[Zy a.name,va],.agg #[Zy b.name,vb]] fz [] (fun r fz' H'=>H'=[]/\r=Zk (cmpA a b)):=by
 obtain ⟨A,n,c,rfl,ia⟩:=ha.args;obtain ⟨B,m,d,rfl,ib⟩:=hb.args;refine zF Tryz.func66 Tryz.ntmps66 (fun w0=>?_);refine pX (fun g0=>?_);refine pY (fun g1=>?_);refine zWN ?_;intros;refine XF [_,_] ?_;refine zW ?_;intros;refine zc (cmpS_q (a:=a.name) (b:=b.name)) ?_;refine zW ?_;intros;refine zc (cmpL_q ia ib) ?_;refine pU ?_;refine Yj (Yb (cs:=[Zk (cmpS a.name b.name),Zk (cmpL a.args b.args)]) (fun gb=>⟨⟨Zd,Zx⟩,?_⟩));refine Yj (Ym [_] [_,_] Zz (or_f (Ymk _ _) (Yml _ _) ⟨Zs _,by decide⟩) (fun v2 fz2 H2 hle2 hR2=>?_));obtain ⟨rfl,rfl⟩:=hR2;refine ⟨⟨hle2,Zx⟩,?_⟩;refine Ch.q (YV ⟨⟨hle2,Zx⟩,?_⟩);refine Ch.done ?_;refine zW ?_;intros;exact YnX rfl rfl (fun fz3 hle3 hf3=>⟨rfl,rfl⟩)
end
theorem psort_f {g n cap:Nat} {cur:List Value} {l:List Atom} {t:TypeId} (hB:GrowB atomL t fz g n cap cur l) (hn:0<n) (hn2:n<=2000000):
 GFn prog 65 [Zv g n cap,.func (.func 66) #[] #[]] fz [(g,Zu cur.toArray t)]
  (fun r fz' H'=>r=.tuple #[]/\fz=fz'/\∃ cur' l',H'=[(g,Zu (List.toArray cur') t)]/\GrowB atomL t fz g n cap cur' l'/\l'.Perm l/\YjQ cmpA l'):=
 sortG Yfa rfl ⟨_,Tryz.func65,by decide,by decide⟩ YnH (z:=2) rfl Zh
  (fun W=>(Go.Lx.run_isAgg T (t:=77) rfl W).trans rfl) (fun W=>(Go.Lx.run_sizeOf T (t:=77) rfl W).trans rfl) (fun f=>ordA.swo f)
  (enters_of Tryz.func66 Zj rfl) (fun ha hb=>by
   obtain ⟨va,rfl,hA⟩:=XA ha;obtain ⟨vb,rfl,hB⟩:=XA hb;exact @Yn2 drT _ _ _ _ _ hA hB) hB hn hn2
theorem YkU {f:FuncId} {args:List Value} {v:Value} {R:Value->FZ->HP->Prop} (h:QFn prog f args fz v) (hc:Ya4 prog f) (hR:R v fz []):GFn prog f args fz [] R:=
 GFn.of hc fun w hw=>(h.out w hw).mono fun e w' ⟨he,hf⟩=>⟨v,fz,[],he,hR,⟨fun b o hb=>by
  have h1:=hw.keep b o hb;rw [hf.block b (lt_of_heap h1) (by simp)];exact h1,by simp,by simp⟩,hf,⟨fun _ _ h=>h,fun _ _ _=>rfl,by simp⟩⟩
def GrowZ {α:Type} (L:Lay α) (e:Nat) (fz:FZ) (v:Value) (n:Nat) (Hs:HP) (l:List α):Prop:=(n=0->v=Zn/\Hs=[])/\Grow L e fz v n Hs l
def CptS (l:List Atom):Prop:=l.Nodup/\Ymv l
theorem Ylb {l:List Atom} (h:Ymv l):∀ i,(cpt l i).Nodup
 | 0=>List.nodup_nil
 | i+1=>by
  have ih:=Ylb h i;rw [cpt];split
  ·exact ih
  rename_i x hx;split
  ·exact ih
  rename_i hc;refine List.nodup_append.2 ⟨ih,by simp,fun y hy z hz e=>?_⟩;simp at hz;subst hz;subst e;obtain ⟨j,hj⟩:=List.getElem?_of_mem ((Ymf i).1 hy);have hji:j<i:=by
   have:=(Zg hj).1;rw [List.length_take] at this;omega
  rw [List.getElem?_take_of_lt hji] at hj;have hlt:=(Zg hx).1;obtain ⟨w,hw⟩:=Ye (l:=l) (k:=i - 1) Zi;have h1:=h (i - 1) i w y Zi hw hx;have h2:¬cmpA w y<0:=by
   by_cases e:j=i - 1
   ·subst e;rw [hj] at hw;injection hw with hw;subst hw;exact h1
   exact h j (i - 1) y w Zi hj hw
  have h3:¬0<cmpA w y:=fun h3=>h1 ((ordA.anti y w).2 h3)
  have e:=ordA.eq0 w y Zi;subst e;exact hc ⟨by omega,hw⟩
theorem cptS_of {l0:List Atom} (h:Ymv l0):CptS (cptM l0):=by
 refine ⟨Ylb h _,?_⟩;have hs:(cptM l0).Sublist l0:=by have:=Yqy l0 l0.length;rwa [List.take_length] at this
 have hp:l0.Pairwise (fun a b=>¬cmpA b a<0):=List.pairwise_iff_getElem.2 fun i j hi hj hij=>h i j _ _ hij (List.getElem?_eq_getElem hi) (List.getElem?_eq_getElem hj)
 intro i j a b hij ha hb;obtain ⟨hi,rfl⟩:=Zg ha;obtain ⟨hj,rfl⟩:=Zg hb;exact List.pairwise_iff_getElem.1 (hp.sublist hs) i j hi hj hij
theorem CptS.eq {l r:List Atom} (hl:CptS l) (hr:CptS r) (h:∀ a,a∈l↔a∈r):l=r:=by
 have hp:l.Perm r:=(List.perm_ext_iff_of_nodup hl.1 hr.1).2 h;refine hp.eq_of_pairwise (le:=fun a b=>¬cmpA b a<0) (fun a b _ _ h1 h2=>?_) (List.pairwise_iff_getElem.2 fun i j hi hj hij=>hl.2 i j _ _ hij (List.getElem?_eq_getElem hi) (List.getElem?_eq_getElem hj)) (List.pairwise_iff_getElem.2 fun i j hi hj hij=>hr.2 i j _ _ hij (List.getElem?_eq_getElem hi) (List.getElem?_eq_getElem hj));have h3:¬0<cmpA b a:=fun h3=>h2 ((ordA.anti a b).2 h3)
 exact (ordA.eq0 b a Zi).symm
theorem psortA_f {v:Value} {n:Nat} {l:List Atom} (h:GrowZ atomL 77 fz v n Hs l) (hn2:n<=2000000):
 GFn prog 65 [v,.func (.func 66) #[] #[]] fz Hs (fun r fz' H'=>r=.tuple #[]/\fz=fz'/\∃ l',GrowZ atomL 77 fz v n H' l'/\l'.Perm l/\YjQ cmpA l'):=by
 rcases Nat.eq_zero_or_pos n with h0 | hp
 ·obtain ⟨rfl,rfl⟩:=h.1 h0;have hl:l=[]:=List.eq_nil_of_length_eq_zero (by rw [h.2.len];exact h0);subst hl;exact YkU sort0A_q ⟨_,Tryz.func65,by decide,by decide⟩ ⟨rfl,rfl,[],h,Zr _,fun i j a b _ ha=>by simp at ha⟩
 obtain ⟨g,cap,cur,rfl,rfl,hb⟩:=h.2.b hp;exact (psort_f hb hp hn2).mono fun r fz' H' ⟨h1,h2,cur',l',h3,h4,h5,h6⟩=>⟨h1,h2,l',⟨fun h=>absurd h Zi,h3 ▸ h4.grow⟩,h5,h6⟩
theorem YlT {v:Value} {n:Nat} {l:List Atom} (h:GrowZ atomL 77 fz v n Hs l) (hn2:n<=2000000):
 GFn prog 67 [v,.func (.func 68) #[] #[]] fz Hs (fun r fz' H'=>fz=fz'/\∃ m,m<=n/\Grow atomL 77 fz r m H' (cptM l)):=by
 rcases Nat.eq_zero_or_pos n with h0 | hp
 ·obtain ⟨rfl,rfl⟩:=h.1 h0;have hl:l=[]:=List.eq_nil_of_length_eq_zero (by rw [h.2.len];exact h0);subst hl;exact YkU Yoj ⟨_,Tryz.func67,by decide,by decide⟩ ⟨rfl,0,by omega,Grow.nil _ _ _⟩
 obtain ⟨g,cap,cur,rfl,rfl,hb⟩:=h.2.b hp;have hbl:=hb.len;exact (Yn3 hb hp hn2).mono fun r fz' H' ⟨h1,m,cur',h2,h3,h4⟩=>⟨h1,m,by rw [<- h4.len,<- hbl];have:=Yqz l l.length;exact this,by rw [h2,h3];exact h4.grow⟩
theorem pinit_f {p:Problem} (hP:ProblemR fz p u1 u2 u3 u4 u5 u6 u7) (hn:p.init.length<=1000000) (hW:∀ a∈p.init,a.args.length<=1000000000):
 GFn prog 29 [ZP p u1 u2 u3 u4 u5 u6 u7] fz []
  (fun r fz' H'=>∃ m l,m<=1000000/\Grow atomL 77 fz' r m H' l/\CptS l/\∀ a,a∈l↔a∈p.init):=by
 obtain ⟨⟨B1,m1,d1,rfl,_⟩,⟨B2,n,d2,rfl,j2⟩,⟨B3,m3,d3,rfl,_⟩⟩:=id hP.sls;obtain ⟨⟨B4,m4,d4,rfl,_⟩,⟨B5,m5,d5,rfl,_⟩,⟨B6,m6,d6,rfl,_⟩,⟨B7,m7,d7,rfl,_⟩⟩:=id hP.goal.sls;have l2:=j2.len;refine zF Tryz.func29 Tryz.ntmps29 (fun w0=>?_);refine pX (fun g1=>?_);refine zW ?_;intros;refine Yi (fun q σ fz' H'=>∃ (k:Nat) (v:Value),k<=n/\q=n - k/\σ=[(9,Zk k),(8,Zk n),(7,Zc B2 n d2),(3,v)]/\Le fz fz'/\GrowZ atomL 77 fz' v k H' (p.init.take k)) ⟨0,_,Z0 _,rfl,rfl,Zd,⟨fun _=>⟨rfl,rfl⟩,Grow.nil _ _ _⟩⟩ Zw Zb ?_;rintro q σ fz2 Hk ⟨k,v,hk,rfl,rfl,hle2,hz,hG⟩;obtain ⟨Av,cv,rfl,_,_⟩:=hG.form;refine zW ?_;intros;refine zC ?_ ?_<;>intro f1
 ·obtain ⟨x,hx⟩:=Ye (l:=p.init) (k:=k) Zi;have w1:=hW x (Zm hx);refine zW ?_;intros;refine zI (j2.mono hle2) hx (fun p1 hp1=>?_);refine zL hp1 ?_;intro cs hcs;obtain ⟨vx,rfl,hR⟩:=XA hcs;obtain ⟨E1,r1,q1,rfl,ix⟩:=id hR.args;have l0:=ix.len;refine zWN ?_;intros;rename_i g5;refine XF [_] ?_;refine zW ?_;intros;refine pU ?_;refine Yj (Ym [] (_::Hk) Zz (Ye6 ix Zi) (fun v8 fz8 H8 hle8 hR8=>⟨⟨hle8,Zx⟩,?_⟩));obtain ⟨A8,c8,rfl,_,_⟩:=hR8.form;refine Ch.qk ⟨hle8,Zx⟩ (YaY ?_);refine Yj (Yfc (H1:=_::Hk) (H2:=H8) Zq (fun fz9 hle9 hf9=>?_));obtain ⟨A9,c9,e9,i9⟩:=hR8.sl hle9 hf9 Zi;injection e9 with e91 e92 e93
  subst e91;subst e93;refine Yb (cs:=[Zy x.name,Zc A8 r1 c8]) (fun gb=>⟨⟨hle8.trans hle9,Zx⟩,?_⟩);refine Yj (YN (Hr:=[_,_]) (d:=x) (Zr _) (hG.mono (hle8.trans hle9)) Ym6 (.head _) (YbQ ⟨hR.name,i9.is⟩) (fun v10 H10 hO10=>⟨⟨hle8.trans hle9,Zx⟩,?_⟩));obtain ⟨A10,c10,rfl,_,_⟩:=hO10.form;refine Ch.qk ⟨hle8.trans hle9,Zx⟩ (YV ?_);refine Ch.done ?_;refine zW ?_;intros;exact Wj ⟨k+1,_,by omega,rfl,rfl,hle2.trans (hle8.trans hle9),⟨fun h=>absurd h Zi,hO10.of (by rw [List.take_add_one,hx];rfl) rfl⟩⟩ Zi Zw ((List.Sublist.refl _).cons _ |>.cons _)
 obtain rfl:n=k:=by omega
 rw [Zl Zi] at hG;refine zW ?_;intros;refine Ya (Ym Hk [] (List.append_nil _).symm (psortA_f ⟨hz,hG⟩ Zi) (fun v3 fz3 H3 hle3 hR3=>?_));obtain ⟨rfl,rfl,l',hG3,hp3,hs3⟩:=hR3;rw [List.append_nil];refine zW ?_;intros;refine Ya (Ym H3 [] (List.append_nil _).symm (YlT hG3 Zi) (fun v4 fz4 H4 hle4 hR4=>?_));obtain ⟨rfl,m,hm,hG4⟩:=hR4;rw [List.append_nil];refine zW ?_;intros;exact ret1 rfl rfl (List.Sublist.refl _) ⟨m,_,by omega,hG4,cptS_of hs3,fun a=>by rw [cptM_mem];exact hp3.mem_iff⟩
theorem prcmp_f {a b:Atom} {va:Value} (ha:AtomR fz a va) (hb:AtomR fz b vb):GFn prog 33 [.agg #[Zy a.name,va],.agg #[Zy b.name,vb]] fz [] (fun r fz' H'=>H'=[]/\r=Zk (cmpA a b)):=by
 obtain ⟨A,n,c,rfl,ia⟩:=ha.args;obtain ⟨B,m,d,rfl,ib⟩:=hb.args;refine zF Tryz.func33 Tryz.ntmps33 (fun w0=>?_);refine pX (fun g0=>?_);refine pY (fun g1=>?_);refine zWN ?_;intros;refine XF [_,_] ?_;refine zW ?_;intros;refine zc Yia ?_;refine zW ?_;intros;refine zc (cmpL_q ia ib) ?_;refine pU ?_;refine Yj (Yb (cs:=[Zk (cmpS a.name b.name),Zk (cmpL a.args b.args)]) (fun gb=>⟨⟨Zd,Zx⟩,?_⟩));refine Yj (Ym [_] [_,_] Zz (or_f (Ymk _ _) (Yml _ _) ⟨Zs _,by decide⟩) (fun v2 fz2 H2 hle2 hR2=>?_));obtain ⟨rfl,rfl⟩:=hR2;refine ⟨⟨hle2,Zx⟩,?_⟩;refine Ch.q (YV ⟨⟨hle2,Zx⟩,?_⟩);refine Ch.done ?_;refine zW ?_;intros;exact YnX rfl rfl (fun fz3 hle3 hf3=>⟨rfl,rfl⟩)
abbrev byV:Value_->Value_->Int:=fun x y=>cmpA x.fluent y.fluent
theorem byNVa_q:CmpQ valueL 32 fz byV:=by
 intro x y cs ds hx hy;obtain ⟨A,n,c,rfl,hA⟩:=Yff hx;obtain ⟨B,m,d,rfl,hB⟩:=Yff hy;have hA1:=hA.fluent;have hB1:=hB.fluent;refine qF Tryz.func32 Tryz.ntmps32 (fun w0=>?_);refine pX (fun g0=>?_);refine pY (fun g1=>?_);refine zW ?_;intros;refine zG ?_;refine Ydx (vs:=[Zy x.fluent.name,Zc A n c]) 1 ?_;refine zW ?_;intros;refine zG ?_;refine Ydx (vs:=[Zy y.fluent.name,Zc B m d]) 0 ?_;refine zW ?_;intros;refine Ya (Ym [] [_,_] Zz (prcmp_f hA1 hB1) (fun v2 fz2 H2 hle2 hR2=>?_));obtain ⟨rfl,rfl⟩:=hR2;refine zW ?_;intros;exact zR (h:=rfl)
structure CanSp (p:Problem):Prop where
 o:p.objects.length<=1000000
 i:p.init.length<=1000000
 v:p.values.length<=1000000
 ia:∀ a∈p.init,a.args.length<=1000000000
 va:∀ x∈p.values,x.fluent.args.length<=1000000000
 g:fW p.goal<=1000000000
theorem YnD {p:Problem} (hP:ProblemR fz p u1 u2 u3 u4 u5 u6 u7) (hS:CanSp p):
 GFn prog 7 [ZP p u1 u2 u3 u4 u5 u6 u7] fz []
  (fun r fz' H'=>H'=[]/\∃ l w1 w2 w3 w4 w5 w6 w7,r=ZP p w1 w2 w3 w4 w5 w6 w7/\CptS l/\(∀ a,a∈l↔a∈p.init)/\ProblemR fz' ⟨p.name,p.domain,srtC (byC Param.name) p.objects,l,srtC byV p.values,p.goal⟩ w1 w2 w3 w4 w5 w6 w7):=by
 have hP0:=hP;obtain ⟨⟨B1,m1,d1,rfl,j1⟩,⟨B2,m2,d2,rfl,j2⟩,⟨B3,m3,d3,rfl,j3⟩⟩:=id hP.sls;obtain ⟨⟨B4,m4,d4,rfl,_⟩,⟨B5,m5,d5,rfl,_⟩,⟨B6,m6,d6,rfl,_⟩,⟨B7,m7,d7,rfl,_⟩⟩:=id hP.goal.sls;have l1:=j1.len;have l3:=j3.len;have s1:=hS.o;have s3:=hS.v;refine zF Tryz.func7 Tryz.ntmps7 (fun w0=>?_);refine pX (fun g1=>?_);refine Ya (Y7 (fun g2=>?_));refine zWX ?_;intros;refine Yr (YY (fun σ fz' H'=>∃ (g3:Nat) (C1 C4 C5 C6 C7:Option Addr) (c1 n4 c4 n5 c5 n6 c6 n7 c7:Nat),σ=[(3,Zp g3),(2,Zp g2),(1,Zp g1)]/\Le fz fz'/\
  H'=[(g3,Zu #[Zy p.name,Zy p.domain,Zc C1 m1 c1,Zn,Zn,Zy p.goal.op,Zy p.goal.name,Zc C4 n4 c4,Zc C5 n5 c5,Zc C6 n6 c6,Zc C7 n7 c7] 37),(g2,Zu #[Ze,Ze,Zn,Zn,Zn,Ze,Ze,Zn,Zn,Zn,Zn] 37),(g1,Zu #[Zy p.name,Zy p.domain,Zc B1 m1 d1,Zc B2 m2 d2,Zc B3 m3 d3,Zy p.goal.op,Zy p.goal.name,Zc B4 m4 d4,Zc B5 m5 d5,Zc B6 m6 d6,Zc B7 m7 d7] 37)]/\
  Sl paramL fz' C1 m1 c1 (srtC (byC Param.name) p.objects)/\FormulaR fz' p.goal (Zc C4 n4 c4) (Zc C5 n5 c5) (Zc C6 n6 c6) (Zc C7 n7 c7)) ?_ ?_)
 ·refine zWN ?_;intros;refine WP [] [_,_] ?_;refine zW ?_;intros;refine Yn ?_;refine zW ?_;intros
  ((refine zG ?_);refine Yc (vs:=[Zy p.goal.op,Zy p.goal.name,Zc B4 m4 d4,Zc B5 m5 d5,Zc B6 m6 d6,Zc B7 m7 d7]) 1 ?_);refine pT ?_
  repeat' first
   | refine Po.done ?_
   | (refine Yh ?_)
   | (refine XD ?_ ?_)
   | (refine Yd (i:=6) (Ym [] _ Zz (Yi1 j1 Zi) (fun v6 fz6 H6 hle6 hR6=>⟨⟨hle6,Zkx⟩,?_⟩));obtain ⟨C1,c1,rfl,_,_⟩:=hR6.form)
   | (refine Yd (i:=9) (Ym [] _ Zz (Yev _ (Zs _) (hP0.goal.mono hle6) hS.g) (fun v7 fz7 H7 hle7 hR7=>⟨⟨hle6.trans hle7,Zkx⟩,?_⟩));obtain ⟨rfl,wa,wp,we,wk,rfl,hR7⟩:=hR7;obtain ⟨C4,n4,c4,rfl,_⟩:=id hR7.args;obtain ⟨C5,n5,c5,rfl,_⟩:=id hR7.params;obtain ⟨C6,n6,c6,rfl,_⟩:=id hR7.exprs;obtain ⟨C7,n7,c7,rfl,_⟩:=id hR7.kids)
   | refine PoS.qk ⟨hle6.trans hle7,Zkx⟩ (YaY ?_)
   | refine Yd (i:=11) (Y7 (fun g3=>⟨⟨Zd,Zkx⟩,?_⟩))
   | refine Yd (i:=11) (Y7 (fun g3=>⟨⟨hle6,Zkx⟩,?_⟩))
   | refine Yd (i:=11) (Y7 (fun g3=>⟨⟨hle6.trans hle7,Zkx⟩,?_⟩))
   | refine PoS.hard0 (Does.perm (H':=_::_::_::H6) ((Zq (l₁:=[_,_])).cons _) (YG ?_))
   | refine PoS.hard0 (Does.perm (H':=_::_::_::H6) (Zq (l₁:=[_,_,_])) (YG ?_))
  all_goals
   refine midF (σ':=[(3,Zp g3),(2,Zp g2),(1,Zp g1)]) (H':=[_,_,_]) (Zr _) (fun fz8 hle8 hf8=>?_) Zw;obtain ⟨C1',c1',e1,k1⟩:=hR6.sl (hle7.trans hle8) hf8 Zi;injection e1 with e11 e12 e13
   subst e11;subst e13;exact ⟨g3,_,_,_,_,_,_,_,_,_,_,_,_,_,_,rfl,hle6.trans (hle7.trans hle8),rfl,k1,hR7.mono hle8⟩
 rintro σ fz1 H' ⟨g3,C1,C4,C5,C6,C7,c1,n4,c4,n5,c5,n6,c6,n7,c7,rfl,hle1,rfl,k1,kG⟩;refine zW ?_;intros;refine Ya (Ym [] [_,_,_] Zz (pinit_f (hP0.mono hle1) hS.i hS.ia) (fun v20 fz20 H20 hle20 hR20=>?_));obtain ⟨mI,lI,hmI,hGI,hCI,hIm⟩:=hR20;obtain ⟨AI,cI,rfl,_,_⟩:=hGI.form;refine Seq.freezeAll (H1:=[_,_,_]) (H2:=H20) Zq (fun fz21 hle21 hf21=>?_);obtain ⟨AI',cI',eI,iI⟩:=hGI.sl hle21 hf21 Zi;injection eI with eI1 eI2 eI3
 subst eI1;subst eI3;have lI':=iI.len;refine zW ?_;intros;refine Yi (fun q σ fz' H'=>∃ (k:Nat) (v:Value) (Hp:HP),k<=mI/\q=mI - k/\σ=[(22,Zk k),(21,Zk mI),(20,Zc AI mI cI),(3,Zp g3),(2,Zp g2),(1,Zp g1)]/\Le fz21 fz'/\
  H'=(g3,Zu #[Zy p.name,Zy p.domain,Zc C1 m1 c1,v,Zn,Zy p.goal.op,Zy p.goal.name,Zc C4 n4 c4,Zc C5 n5 c5,Zc C6 n6 c6,Zc C7 n7 c7] 37)::(g2,Zu #[Ze,Ze,Zn,Zn,Zn,Ze,Ze,Zn,Zn,Zn,Zn] 37)::(g1,Zu #[Zy p.name,Zy p.domain,Zc B1 m1 d1,Zc B2 m2 d2,Zc B3 m3 d3,Zy p.goal.op,Zy p.goal.name,Zc B4 m4 d4,Zc B5 m5 d5,Zc B6 m6 d6,Zc B7 m7 d7] 37)::Hp/\Grow atomL 77 fz' v k Hp (lI.take k)) ⟨0,_,[],Z0 _,rfl,rfl,Zd,rfl,Grow.nil _ _ _⟩ Zw Zb ?_
 rintro q σ fz2 H' ⟨k,v,Hp,hk,rfl,rfl,hle2,rfl,hG⟩;obtain ⟨Av,cv,rfl,_,_⟩:=hG.form;refine zW ?_;intros;refine zC ?_ ?_<;>intro f1
 ·obtain ⟨x,hx⟩:=Ye (l:=lI) (k:=k) Zi;have w1:=hS.ia x ((hIm x).1 (Zm hx));refine zW ?_;intros;refine zI (iI.mono hle2) hx (fun p1 hp1=>?_);refine zL hp1 ?_;intro cs hcs;obtain ⟨vx,rfl,hR⟩:=XA hcs;obtain ⟨E1,r1,q1,rfl,_⟩:=id hR.args;refine zWN ?_;intros;rename_i g5;refine XF [_,_] ?_;refine zW ?_;intros;refine Yk (Yk (Yk ?_));refine zW ?_;intros;refine pU ?_;refine Yj (Ym [] (_::_::_::_::Hp) Zz (YqA hR w1) (fun v8 fz8 H8 hle8 hR8=>⟨⟨hle8,Zx⟩,?_⟩));obtain ⟨rfl,va8,rfl,hR8⟩:=hR8;obtain ⟨E8,r8,q8,rfl,_⟩:=id hR8.args;refine Yj (Yb (cs:=[Zy x.name,Zc E8 r8 q8]) (fun gb=>⟨⟨hle8,Zx⟩,?_⟩));refine Yj (YN (Hr:=[_,_,_,_,_]) (d:=x) (Zr _) (hG.mono hle8) Ym6 (.head _) (YbQ hR8) (fun v10 H10 hO10=>⟨⟨hle8,Zx⟩,?_⟩));obtain ⟨A10,c10,rfl,_,_⟩:=hO10.form;refine Ch.hard0 (WT ?_);refine Ch.done ?_;refine zW ?_;intros;exact Wj ⟨k+1,_,H10,by omega,rfl,rfl,hle2.trans hle8,rfl,hO10.of (by rw [List.take_add_one,hx];rfl) rfl⟩ Zi Zw ((List.Sublist.refl _).cons _ |>.cons _)
 obtain rfl:mI=k:=by omega
 rw [Zl Zi] at hG;refine zW ?_;intros;refine Yi (fun q σ fz' H'=>∃ (k:Nat) (v:Value) (Hq:HP),k<=m3/\q=m3 - k/\σ=[(37,Zk k),(36,Zk m3),(35,Zc B3 m3 d3),(3,Zp g3),(2,Zp g2)]/\Le fz2 fz'/\
  H'=(g3,Zu #[Zy p.name,Zy p.domain,Zc C1 m1 c1,Zc Av mI cv,v,Zy p.goal.op,Zy p.goal.name,Zc C4 n4 c4,Zc C5 n5 c5,Zc C6 n6 c6,Zc C7 n7 c7] 37)::(g2,Zu #[Ze,Ze,Zn,Zn,Zn,Ze,Ze,Zn,Zn,Zn,Zn] 37)::(g1,Zu #[Zy p.name,Zy p.domain,Zc B1 m1 d1,Zc B2 m2 d2,Zc B3 m3 d3,Zy p.goal.op,Zy p.goal.name,Zc B4 m4 d4,Zc B5 m5 d5,Zc B6 m6 d6,Zc B7 m7 d7] 37)::(Hp++Hq)/\Grow valueL 80 fz' v k Hq (p.values.take k)) ⟨0,_,[],Z0 _,rfl,rfl,Zd,by rw [List.append_nil],Grow.nil _ _ _⟩ Zw (List.Sublist.refl _) ?_
 rintro q σ fz3 H' ⟨k,v,Hq,hk,rfl,rfl,hle3,rfl,hG3⟩;obtain ⟨Aw,cw,rfl,_,_⟩:=hG3.form;have hx03:=hle1.trans (hle20.trans (hle21.trans (hle2.trans hle3)));refine zW ?_;intros;refine zC ?_ ?_<;>intro f2
 ·obtain ⟨x,hx⟩:=Ye (l:=p.values) (k:=k) Zi;have w1:=hS.va x (Zm hx);refine zW ?_;intros;refine zI (j3.mono hx03) hx (fun p1 hp1=>?_);refine zL hp1 ?_;intro cs hcs;obtain ⟨E1,r1,q1,rfl,hR⟩:=Yff hcs;have hRf:=hR.fluent;refine zWN ?_;intros;rename_i g5;refine XF [_,_] ?_;refine zW ?_;intros
  ((refine zG ?_);refine Yc (vs:=[Zy x.fluent.name,Zc E1 r1 q1]) 0 ?_);refine Yk ?_;refine zW ?_;intros;refine Yk (Yk (Yk ?_));refine zW ?_;intros;refine pU ?_;refine Yj (Ym [] (_::_::_::_::(Hp++Hq)) Zz (YqA hRf w1) (fun v8 fz8 H8 hle8 hR8=>⟨⟨hle8,Zx⟩,?_⟩));obtain ⟨rfl,va8,rfl,hR8⟩:=hR8;obtain ⟨E8,r8,q8,rfl,_⟩:=id hR8.args;refine Ch.qk ⟨hle8,Zx⟩ (YaY ?_);refine Yj (Yb (cs:=[Zy x.fluent.name,Zc E8 r8 q8,Zk x.n]) (fun gb=>⟨⟨hle8,Zx⟩,?_⟩));refine Yj (YN (Hr:=_::_::_::_::_::Hp) (d:=x) (Zr _) (hG3.mono hle8) YkB (.head _) (YgE ⟨hR8,hR.n⟩) (fun v10 H10 hO10=>⟨⟨hle8,Zx⟩,?_⟩));obtain ⟨A10,c10,rfl,_,_⟩:=hO10.form;refine Ch.hard0 (WT ?_);refine Ch.done ?_;refine zW ?_;intros;exact Wj ⟨k+1,_,H10,by omega,rfl,rfl,hle3.trans hle8,rfl,hO10.of (by rw [List.take_add_one,hx];rfl) rfl⟩ Zi Zw ((List.Sublist.refl _).cons _ |>.cons _)
 obtain rfl:m3=k:=by omega
 rw [Zl Zi] at hG3;refine zW ?_;intros;refine Seq.freezeAll (H1:=_::_::_::Hq) (H2:=Hp) (((List.perm_append_comm.cons _).cons _).cons _) (fun fz4 hle4 hf4=>?_);obtain ⟨Av',cv',e4,iA⟩:=hG.sl (hle3.trans hle4) hf4 Zi;injection e4 with e41 e42 e43
 subst e41;subst e43;refine Ya (Does.perm (H':=Hq++ [_,_,_]) (Zq (l₁:=Hq)) (Ym Hq _ rfl (Yfk .va (hG3.mono hle4) byNVa_q (ordA.swk _) Zi) (fun v26 fz26 H26 hle26 hR26=>?_)));obtain ⟨rfl,hG26⟩:=hR26;refine Seq.freezeAll (H1:=[_,_,_]) (H2:=H26) Zq (fun fz27 hle27 hf27=>?_);obtain ⟨B6',b6',e6,k6⟩:=hG26.sl hle27 hf27 Zi;injection e6 with e61 e62 e63
 subst e61;subst e63;refine zW ?_;intros;refine XJ (i:=1) rfl (fun fz28 hle28 hf28=>?_);have z0:=hle27.trans hle28;have z1:=hle20.trans (hle21.trans (hle2.trans (hle3.trans (hle4.trans z0))));exact ⟨rfl,lI,_,_,_,_,_,_,_,rfl,hCI,hIm,⟨hP.name,hP.domain,(k1.mono z1).is,(iA.mono z0).is,(k6.mono hle28).is,kG.mono z1⟩⟩
end Go.Proofs.YtiligkgjcmokbaaGreatDoor
namespace Go.Proofs.YtiligkgjcmokbaaGreatDoor
variable {α:Type} {all:List Param} {l:List α}
theorem Yj8 {α:Type} {cmp:α->α->Int} (w:SWk (ltC cmp)):∀ (n:Nat) {l:List α},l.length=n->SrtS (ltC cmp) l->srtC cmp l=l
 | 0,l,h,_=>by rw [List.eq_nil_of_length_eq_zero h];rfl
 | n+1,l,h,hs=>by
  rcases List.eq_nil_or_concat l with rfl | ⟨s,x,rfl⟩
  ·cases h
  rw [List.concat_eq_append] at*;have h1:s.length=n:=by simpa using h
  have hp:=List.pairwise_append.1 hs;have ih:=Yj8 w n h1 hp.1;refine Yj7 w (s1:=s) (s2:=[]) (by rw [ih,List.append_nil]) (by simp) fun z t e=>?_
  subst e;exact hp.2.2 z (by simp) x (by simp)
theorem Yfj {cmp:α->α->Int} (w:SWk (ltC cmp)) (l:List α):srtC cmp (srtC cmp l)=srtC cmp l:=Yj8 w _ rfl (Ygo w)
theorem YqQ (d:Domain):canD (canD d)=canD d:=by
 unfold canD;simp only [Yfj (Yek _)]
theorem YnS (l:List Value_):srtC byV (srtC byV l)=srtC byV l:=Yfj (ordA.swk Value_.fluent) l
theorem Yep {α:Type} {lt:α->α->Prop} [DecidableRel lt]:∀ l r:List α,(XB lt l r).Perm (l++r)
 | [],r=>by rw [Xw];exact Zr _
 | x::l,[]=>by rw [XX,List.append_nil]
 | x::l,y::r=>by
  rw [YR];split
  ·exact ((Yep (x::l) r).cons y).trans (List.perm_middle (l₁:=x::l)).symm
  exact (Yep l (y::r)).cons x
theorem Ybl {cmp:α->α->Int} (l:List α):(srtC cmp l).Perm l:=by
 have:∀ l s:List α,(l.foldl (fun s x=>XB (ltC cmp) s [x]) s).Perm (s++l):=fun l=>by
  induction l with
  | nil=>intro s;rw [List.append_nil];exact Zr _
  | cons x l ih=>intro s;exact (ih _).trans (by rw [show s++x::l=(s++ [x])++l by simp];exact (Yep s [x]).append_right l)
 exact this l []
theorem Yhj {nm:α->Bs} {r:List α} (h:l.Perm r) (hn:(l.map nm).Nodup) (s:Bs):(l.find? fun x=>decide (nm x=s))=r.find? fun x=>decide (nm x=s):=by
 have hr:(r.map nm).Nodup:=(h.map nm).nodup_iff.1 hn;have key:∀ {l r:List α},(l.map nm).Nodup->(∀ x,x∈l↔x∈r)->∀ x,(r.find? fun x=>decide (nm x=s))=some x->(l.find? fun x=>decide (nm x=s))=some x:=fun {l r} hn hm x hx=>by
  have h1:nm x=s:=by simpa using List.find?_some hx
  have h2:=(hm x).2 (List.mem_of_find?_eq_some hx);cases h3:l.find? fun x=>decide (nm x=s) with
  | none=>exact absurd h1 (by simpa using List.find?_eq_none.1 h3 x h2)
  | some y=>
   have h4:nm y=s:=by simpa using List.find?_some h3
   have h5:=List.mem_of_find?_eq_some h3;obtain ⟨i,hi,ei⟩:=List.getElem_of_mem h5;obtain ⟨j,hj,ej⟩:=List.getElem_of_mem h2;have hp:=List.pairwise_iff_getElem.1 hn;have e:i=j:=by
    rcases Nat.lt_trichotomy i j with h | h | h
    ·exact absurd (by rw [List.getElem_map,List.getElem_map,ei,ej,h4,h1]) (hp i j (by simpa using hi) (by simpa using hj) h)
    ·exact h
    exact absurd (by rw [List.getElem_map,List.getElem_map,ei,ej,h4,h1]) (hp j i (by simpa using hj) (by simpa using hi) h)
   subst e;rw [<- ei,ej]
 cases h1:r.find? fun x=>decide (nm x=s) with
 | some x=>exact key hn (fun x=>h.mem_iff) x h1
 | none=>
  cases h2:l.find? fun x=>decide (nm x=s) with
  | none=>rfl
  | some x=>rw [key hr (fun x=>h.mem_iff.symm) x h2] at h1;cases h1
theorem YiG (t:Bs):∀ l:List Param,tyF l t=(l.find? fun x=>decide (x.name=t)).map Param.typ
 | []=>rfl
 | p::r=>by
  rw [tyF,List.find?_cons];by_cases h:p.name=t
  ·rw [if_pos h.symm];simp [h]
  rw [if_neg (fun e=>h e.symm),YiG t r];simp [h]
theorem YiF {l r:List Param} (h:l.Perm r) (hn:(parN l).Nodup) (t:Bs):tyF l t=tyF r t:=by
 rw [YiG,YiG,Yhj (nm:=Param.name) h hn]
theorem YeG:∀ {l:List Bs},TwP [] l↔¬l.Nodup:=fun {l}=>by
 constructor
 ·rintro ⟨k,x,h1,h2⟩ hn;rw [List.nil_append] at h2;obtain ⟨i,hi⟩:=List.getElem?_of_mem h2;have hik:i<k:=by
   have:=(Zg hi).1;rw [List.length_take] at this;omega
  rw [List.getElem?_take_of_lt hik] at hi;obtain ⟨a,ea⟩:=Zg hi;obtain ⟨b,eb⟩:=Zg h1;exact List.pairwise_iff_getElem.1 hn i k a b hik (ea.trans eb.symm)
 intro hn;refine Classical.byContradiction fun ht=>hn (List.pairwise_iff_getElem.2 fun i j hi hj hij e=>ht ⟨j,l[j],List.getElem?_eq_getElem hj,?_⟩)
 rw [List.nil_append,<- e];exact Zm (i:=i) (by rw [List.getElem?_take_of_lt hij];exact List.getElem?_eq_getElem hi)
theorem Yla {l r:List Param} (h:∀ t,tyF l t=tyF r t) (t:Bs):∀ (n:Nat) (a:Bs),cycM l t n a=cycM r t n a
 | 0,_=>rfl
 | n+1,a=>by
  have e:upT l a=upT r a:=by unfold upT;rw [h]
  rw [cycM,cycM,e,Yla h t n]
theorem YpC {l r:List Param} (h:l.Perm r):newM l=newM r:=by
 have hn:TwP [] (parN l)↔TwP [] (parN r):=by
  rw [YeG,YeG];exact not_congr (h.map Param.name).nodup_iff
 unfold newM;by_cases h1:TwP [] (parN l)
 ·rw [if_pos h1,if_pos (hn.1 h1)]
 have hd:(parN l).Nodup:=Classical.byContradiction fun h0=>h1 (YeG.2 h0)
 have ht:=YiF h hd;rw [if_neg h1,if_neg (fun h0=>h1 (hn.2 h0))];have e1:(∀ p∈l,HasT l p.typ)↔∀ p∈r,HasT r p.typ:=by
  unfold HasT;simp only [ht,h.mem_iff]
 have e2:(∃ p∈l,cycM l p.name l.length p.name=true)↔∃ p∈r,cycM r p.name r.length p.name=true:=by
  simp only [h.length_eq,Yla ht,h.mem_iff]
 by_cases h2:∀ p∈l,HasT l p.typ
 ·rw [if_neg (not_not_intro h2),if_neg (not_not_intro (e1.1 h2))];by_cases h3:∃ p∈l,cycM l p.name l.length p.name=true
  ·rw [if_pos h3,if_pos (e2.1 h3)]
  rw [if_neg h3,if_neg (fun h0=>h3 (e2.2 h0))]
 rw [if_pos h2,if_pos (fun h0=>h2 (e1.2 h0))]
theorem Yaw {α:Type} {E:α->Int}:∀ {l:List (Bs × α)},(Xn E l).2=0↔∀ x∈l,E x.2=0
 | []=>by simp [Xn]
 | p::r=>by
  rw [Xn];by_cases h:E p.2=0
  ·rw [if_pos h,Yaw];simp [h]
  rw [if_neg h];simp [h]
theorem YfK {α:Type} {E:α->Int}:∀ {l:List α},YbA E l=0↔∀ x∈l,E x=0
 | []=>by simp [YbA]
 | p::r=>by
  rw [YbA];by_cases h:E p=0
  ·rw [if_pos h,YfK];simp [h]
  rw [if_neg h];simp [h]
theorem YfJ {f:Nat->Bs × Int}:∀ {n k:Nat},(Yef f n k).2=0↔∀ i,i<n->(f (k+i)).2=0
 | 0,k=>by simp [Yef]
 | n+1,k=>by
  rw [Yef];by_cases h:(f k).2=0
  ·rw [if_pos h,YfJ];constructor
   ·intro hh i hi;cases i with
    | zero=>exact h
    | succ i=>have:=hh i Zi;rwa [show k+1+i=k+(i+1) by omega] at this
   intro hh i hi;have:=hh (i+1) Zi;rwa [show k+1+i=k+(i+1) by omega]
  rw [if_neg h];exact ⟨fun h0=>absurd h0 h,fun hh=>absurd (hh 0 Zi) h⟩
theorem YeN:∀ {l:List Param} {seen:List Bs},repM seen l=none↔(parN l).Nodup/\∀ x∈parN l,x ∉ seen
 | [],seen=>by simp [repM,parN]
 | p::r,seen=>by
  rw [repM];by_cases h:p.name∈seen
  ·rw [if_pos h];simp [parN,h]
  rw [if_neg h,YeN];simp only [parN,List.map_cons,List.nodup_cons,List.mem_append,List.mem_cons,List.not_mem_nil,or_false];constructor
  ·rintro ⟨h1,h2⟩;exact ⟨⟨fun h3=>(h2 _ h3) (.inr rfl),h1⟩,fun x hx=>by
    rcases hx with rfl | hx
    ·exact h
    exact fun h4=>h2 x hx (.inl h4)⟩
  rintro ⟨⟨h1,h2⟩,h3⟩;exact ⟨h2,fun x hx h4=>by
   rcases h4 with h4 | rfl
   ·exact h3 x (.inr hx) h4
   exact h1 hx⟩
theorem YiS {l r:List Param} (h:l.Perm r):repM [] l=none↔repM [] r=none:=by
 rw [YeN,YeN];have e:=(h.map Param.name).nodup_iff;unfold parN;simp [e]
structure DPm (d e:Domain):Prop where
 n:d.name=e.name
 t:d.types.Perm e.types
 c:d.constants.Perm e.constants
 p:d.predicates.Perm e.predicates
 f:d.functions.Perm e.functions
 a:d.actions.Perm e.actions
 u:d.duratives.Perm e.duratives
theorem DPm.symm {d e:Domain} (h:DPm d e):DPm e d:=⟨h.n.symm,h.t.symm,h.c.symm,h.p.symm,h.f.symm,h.a.symm,h.u.symm⟩
theorem YjJ (d:Domain):DPm (canD d) d:=⟨rfl,Ybl _,Ybl _,Ybl _,Ybl _,Ybl _,Ybl _⟩
theorem names_pm {d e:Domain} {all':List Param} (h:DPm d e) (ha:all.Perm all'):Yar d all=none↔Yar e all'=none:=by
 have h0:(Yb1 d).Perm (Yb1 e):=(h.p.map _).append (h.f.map _);have h1:(Ybx all).Perm (Ybx all'):=ha.map _;have h2:(YeT d).Perm (YeT e):=(h.a.map _).append (h.u.map _);have key:∀ (d:Domain) (all:List Param),Yar d all=none↔repM [] (Yb1 d)=none/\repM [] (Ybx all)=none/\repM [] (YeT d)=none:=fun d all=>by
  unfold Yar;cases repM [] (Yb1 d) with
  | some x=>simp
  | none=>cases repM [] (Ybx all) with
   | some x=>simp
   | none=>simp
 rw [key,key,YiS h0,YiS h1,YiS h2]
structure XE (l r:List Sexpr):Prop where
 a:(∀ k∈l,XOk k)↔∀ k∈r,XOk k
 c:xcountL l=xcountL r
 d:xdepthL l=xdepthL r
theorem XE.refl (l:List Sexpr):XE l l:=⟨Iff.rfl,rfl,rfl⟩
theorem YjY {l r:List Sexpr} (h:l.Perm r):xcountL l=xcountL r:=by
 induction h with
 | nil=>rfl
 | cons x _ ih=>simp only [xcountL,ih]
 | swap x y l=>simp only [xcountL];omega
 | trans _ _ h1 h2=>exact h1.trans h2
theorem XE.perm {l r:List Sexpr} (h:l.Perm r):XE l r where
 a:=by simp only [h.mem_iff]
 c:=YjY h
 d:=Nat.le_antisymm (Wq.2 fun x hx=>Wq.1 (Zs _) x (h.mem_iff.1 hx)) (Wq.2 fun x hx=>Wq.1 (Zs _) x (h.mem_iff.2 hx))
theorem YaO:∀ {l r:List Sexpr},xcountL (l++r)=xcountL l+xcountL r
 | [],r=>by simp [xcountL]
 | x::l,r=>by simp only [List.cons_append,xcountL,YaO (l:=l)];omega
theorem YbR:∀ {l r:List Sexpr},xdepthL (l++r)=max (xdepthL l) (xdepthL r)
 | [],r=>by simp [xdepthL]
 | x::l,r=>by simp only [List.cons_append,xdepthL,YbR (l:=l)];omega
theorem XE.app {l r l' r':List Sexpr} (h:XE l r) (h':XE l' r'):XE (l++l') (r++r') where
 a:=by
  have e:∀ l l':List Sexpr,(∀ k∈l++l',XOk k)↔(∀ k∈l,XOk k)/\∀ k∈l',XOk k:=fun l l'=>by simp only [List.mem_append,or_imp,forall_and]
  rw [e,e,h.a,h'.a]
 c:=by rw [YaO,YaO,h.c,h'.c]
 d:=by rw [YbR,YbR,h.d,h'.d]
theorem YdS {l:List Sexpr}:XOk (YM l)↔∀ k∈l,XOk k:=by
 refine Xe.trans ?_;exact ⟨fun h=>h.2,fun h=>⟨.inr (.inr ⟨rfl,rfl,rfl⟩),h⟩⟩
theorem XE.node {l r:List Sexpr} (h:XE l r):XE [YM l] [YM r] where
 a:=by simp only [List.mem_singleton,forall_eq,YdS,h.a]
 c:=by simp only [xcountL,Xj];exact congrArg (fun n=>1+n+0) h.c
 d:=by simp only [xdepthL,Ycs];exact congrArg (fun n=>max (n+(if (3:Int)=3 then 1 else 0)) 0) h.d
theorem XE.val {l r:List Sexpr} (h:XE l r):XVal (YM l)↔XVal (YM r):=by
 have h1:=h.node;unfold XVal;have e1:XOk (YM l)↔XOk (YM r):=by rw [YdS,YdS,h.a]
 have e2:xdepth (YM l)=xdepth (YM r):=by have:=h1.d;simpa [xdepthL] using this
 have e3:xcount (YM l)=xcount (YM r):=by have:=h1.c;simpa [xcountL] using this
 rw [e1,e2,e3]
theorem YkS (kw:Bs) {l r:List Sexpr} (h:l.Perm r):XE (grp kw l) (grp kw r):=by
 unfold grp;by_cases e:l=[]
 ·subst e;obtain rfl:r=[]:=h.nil_eq.symm;exact XE.refl _
 rw [if_neg e,if_neg (fun e2=>e (by subst e2;exact h.eq_nil))];exact (XE.app (XE.refl [_]) (XE.perm h)).node
theorem Yfv {l r:List Param} (h:l.Perm r):(Yap l).Perm (Yap r):=(h.flatMap_right _).map _
theorem domX_pm {d e:Domain} (h:DPm d e):XVal (domX d)↔XVal (domX e):=by
 unfold domX;rw [h.n];exact ((((((XE.refl _).app (YkS _ (Yfv h.t))).app (YkS _ (Yfv h.c))).app (YkS _ (h.p.map _))).app (YkS _ (h.f.map _))).app (XE.perm (h.a.map _)) |>.app (XE.perm (h.u.map _))).val
theorem domOk_pm {d e:Domain} (h:DPm d e):Ycq d↔Ycq e:=by
 unfold Ycq;simp only [h.n,h.t.mem_iff,h.c.mem_iff,h.p.mem_iff,h.f.mem_iff,h.a.mem_iff,h.u.mem_iff]
end Go.Proofs.YtiligkgjcmokbaaGreatDoor
