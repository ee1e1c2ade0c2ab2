/- The texts NV, KA, KB, KC, KD, KE, KF, KG, KI, NW, NX, NY, PNum, QNum, Rcm, QLw, NZ, NI, NK, YS, YT, laid together. Conditions: none. -/
import Derived.Test.YtiligkgjcmokbaaGreatDoorKSQ
set_option linter.all false
set_option maxHeartbeats 16000000
set_option maxRecDepth 20000
open Go.Lx Go.RowKit
attribute [local instance 10] Classical.propDecidable
open Go.Proofs.Tryz (prog)
namespace Go.Proofs.YtiligkgjcmokbaaGreatDoor
variable {fz:FZ} {vb u1 u2 u3 u4 u5 u6 u7:Value}
theorem prcmp_f {a b:Atom} {va:Value} (ha:AtomR fz a va) (hb:AtomR fz b vb):GFn prog 33 [.agg #[Zy a.name,va],.agg #[Zy b.name,vb]] fz [] (fun r fz' H'=>H'=[]/\r=Zk (cmpA a b)):=by
 obtain ⟨A,n,c,rfl,ia⟩:=ha.args;obtain ⟨B,m,d,rfl,ib⟩:=hb.args;refine zF Tryz.func33 Tryz.ntmps33 (fun w0=>?_);refine pX (fun g0=>?_);refine pY (fun g1=>?_);refine zWN ?_;intros;refine XF [_,_] ?_;refine zW ?_;intros;refine zc Yia ?_;refine zW ?_;intros;refine zc (cmpL_q ia ib) ?_;refine pU ?_;refine Yj (Yb (cs:=[Zk (cmpS a.name b.name),Zk (cmpL a.args b.args)]) (fun gb=>⟨⟨Zd,Zx⟩,?_⟩));refine Yj (Ym [_] [_,_] Zz (or_f (Ymk _ _) (Yml _ _) ⟨Zs _,by decide⟩) (fun v2 fz2 H2 hle2 hR2=>?_));obtain ⟨rfl,rfl⟩:=hR2;refine ⟨⟨hle2,Zx⟩,?_⟩;refine Ch.q (YV ⟨⟨hle2,Zx⟩,?_⟩);refine Ch.done ?_;refine zW ?_;intros;exact YnW rfl rfl (fun fz3 hle3 hf3=>⟨rfl,rfl⟩)
abbrev byV:Value_->Value_->Int:=fun x y=>cmpA x.fluent y.fluent
theorem byNVa_q:CmpQ valueL 32 fz byV:=by
 intro x y cs ds hx hy;obtain ⟨A,n,c,rfl,hA⟩:=Yff hx;obtain ⟨B,m,d,rfl,hB⟩:=Yff hy;have hA1:=hA.fluent;have hB1:=hB.fluent;refine qF Tryz.func32 Tryz.ntmps32 (fun w0=>?_);refine pX (fun g0=>?_);refine pY (fun g1=>?_);refine zW ?_;intros;refine zG ?_;refine Ydx (vs:=[Zy x.fluent.name,Zc A n c]) 1 ?_;refine zW ?_;intros;refine zG ?_;refine Ydx (vs:=[Zy y.fluent.name,Zc B m d]) 0 ?_;refine zW ?_;intros;refine Ya (Ym [] [_,_] Zz (prcmp_f hA1 hB1) (fun v2 fz2 H2 hle2 hR2=>?_));obtain ⟨rfl,rfl⟩:=hR2;refine zW ?_;intros;exact zR (h:=rfl)
structure CanSp (p:Problem):Prop where
 o:p.objects.length<=1000000
 i:p.init.length<=1000000
 v:p.values.length<=1000000
 ia:∀ a∈p.init,a.args.length<=1000000000
 va:∀ x∈p.values,x.fluent.args.length<=1000000000
 g:fW p.goal<=1000000000
theorem YnC {p:Problem} (hP:ProblemR fz p u1 u2 u3 u4 u5 u6 u7) (hS:CanSp p):
 GFn prog 7 [ZP p u1 u2 u3 u4 u5 u6 u7] fz []
  (fun r fz' H'=>H'=[]/\∃ l w1 w2 w3 w4 w5 w6 w7,r=ZP p w1 w2 w3 w4 w5 w6 w7/\CptS l/\(∀ a,a∈l↔a∈p.init)/\ProblemR fz' ⟨p.name,p.domain,srtC (byC Param.name) p.objects,l,srtC byV p.values,p.goal⟩ w1 w2 w3 w4 w5 w6 w7):=by
 have hP0:=hP;obtain ⟨⟨B1,m1,d1,rfl,j1⟩,⟨B2,m2,d2,rfl,j2⟩,⟨B3,m3,d3,rfl,j3⟩⟩:=id hP.sls;obtain ⟨⟨B4,m4,d4,rfl,_⟩,⟨B5,m5,d5,rfl,_⟩,⟨B6,m6,d6,rfl,_⟩,⟨B7,m7,d7,rfl,_⟩⟩:=id hP.goal.sls;have l1:=j1.len;have l3:=j3.len;have s1:=hS.o;have s3:=hS.v;refine zF Tryz.func7 Tryz.ntmps7 (fun w0=>?_);refine pX (fun g1=>?_);refine Ya (Y7 (fun g2=>?_));refine zWX ?_;intros;refine Yr (YY (fun σ fz' H'=>∃ (g3:Nat) (C1 C4 C5 C6 C7:Option Addr) (c1 n4 c4 n5 c5 n6 c6 n7 c7:Nat),σ=[(3,Zp g3),(2,Zp g2),(1,Zp g1)]/\Le fz fz'/\
  H'=[(g3,Zu #[Zy p.name,Zy p.domain,Zc C1 m1 c1,Zn,Zn,Zy p.goal.op,Zy p.goal.name,Zc C4 n4 c4,Zc C5 n5 c5,Zc C6 n6 c6,Zc C7 n7 c7] 37),(g2,Zu #[Ze,Ze,Zn,Zn,Zn,Ze,Ze,Zn,Zn,Zn,Zn] 37),(g1,Zu #[Zy p.name,Zy p.domain,Zc B1 m1 d1,Zc B2 m2 d2,Zc B3 m3 d3,Zy p.goal.op,Zy p.goal.name,Zc B4 m4 d4,Zc B5 m5 d5,Zc B6 m6 d6,Zc B7 m7 d7] 37)]/\
  Sl paramL fz' C1 m1 c1 (srtC (byC Param.name) p.objects)/\FormulaR fz' p.goal (Zc C4 n4 c4) (Zc C5 n5 c5) (Zc C6 n6 c6) (Zc C7 n7 c7)) ?_ ?_)
 ·refine zWN ?_;intros;refine WP [] [_,_] ?_;refine zW ?_;intros;refine Yn ?_;refine zW ?_;intros
  ((refine zG ?_);refine Yc (vs:=[Zy p.goal.op,Zy p.goal.name,Zc B4 m4 d4,Zc B5 m5 d5,Zc B6 m6 d6,Zc B7 m7 d7]) 1 ?_);refine pT ?_
  repeat' first
   | refine Po.done ?_
   | (refine Yh ?_)
   | (refine XD ?_ ?_)
   | (refine Yd (i:=6) (Ym [] _ Zz (Yi1 j1 Zi) (fun v6 fz6 H6 hle6 hR6=>⟨⟨hle6,Zkx⟩,?_⟩));obtain ⟨C1,c1,rfl,_,_⟩:=hR6.form)
   | (refine Yd (i:=9) (Ym [] _ Zz (Yev _ (Zs _) (hP0.goal.mono hle6) hS.g) (fun v7 fz7 H7 hle7 hR7=>⟨⟨hle6.trans hle7,Zkx⟩,?_⟩));obtain ⟨rfl,wa,wp,we,wk,rfl,hR7⟩:=hR7;obtain ⟨C4,n4,c4,rfl,_⟩:=id hR7.args;obtain ⟨C5,n5,c5,rfl,_⟩:=id hR7.params;obtain ⟨C6,n6,c6,rfl,_⟩:=id hR7.exprs;obtain ⟨C7,n7,c7,rfl,_⟩:=id hR7.kids)
   | refine PoS.qk ⟨hle6.trans hle7,Zkx⟩ (YaY ?_)
   | refine Yd (i:=11) (Y7 (fun g3=>⟨⟨Zd,Zkx⟩,?_⟩))
   | refine Yd (i:=11) (Y7 (fun g3=>⟨⟨hle6,Zkx⟩,?_⟩))
   | refine Yd (i:=11) (Y7 (fun g3=>⟨⟨hle6.trans hle7,Zkx⟩,?_⟩))
   | refine PoS.hard0 (Does.perm (H':=_::_::_::H6) ((Zq (l₁:=[_,_])).cons _) (YG ?_))
   | refine PoS.hard0 (Does.perm (H':=_::_::_::H6) (Zq (l₁:=[_,_,_])) (YG ?_))
  all_goals
   refine midF (σ':=[(3,Zp g3),(2,Zp g2),(1,Zp g1)]) (H':=[_,_,_]) (Zr _) (fun fz8 hle8 hf8=>?_) Zw;obtain ⟨C1',c1',e1,k1⟩:=hR6.sl (hle7.trans hle8) hf8 Zi;injection e1 with e11 e12 e13
   subst e11;subst e13;exact ⟨g3,_,_,_,_,_,_,_,_,_,_,_,_,_,_,rfl,hle6.trans (hle7.trans hle8),rfl,k1,hR7.mono hle8⟩
 rintro σ fz1 H' ⟨g3,C1,C4,C5,C6,C7,c1,n4,c4,n5,c5,n6,c6,n7,c7,rfl,hle1,rfl,k1,kG⟩;refine zW ?_;intros;refine Ya (Ym [] [_,_,_] Zz (pinit_f (hP0.mono hle1) hS.i hS.ia) (fun v20 fz20 H20 hle20 hR20=>?_));obtain ⟨mI,lI,hmI,hGI,hCI,hIm⟩:=hR20;obtain ⟨AI,cI,rfl,_,_⟩:=hGI.form;refine Seq.freezeAll (H1:=[_,_,_]) (H2:=H20) Zq (fun fz21 hle21 hf21=>?_);obtain ⟨AI',cI',eI,iI⟩:=hGI.sl hle21 hf21 Zi;injection eI with eI1 eI2 eI3
 subst eI1;subst eI3;have lI':=iI.len;refine zW ?_;intros;refine Yi (fun q σ fz' H'=>∃ (k:Nat) (v:Value) (Hp:HP),k<=mI/\q=mI - k/\σ=[(22,Zk k),(21,Zk mI),(20,Zc AI mI cI),(3,Zp g3),(2,Zp g2),(1,Zp g1)]/\Le fz21 fz'/\
  H'=(g3,Zu #[Zy p.name,Zy p.domain,Zc C1 m1 c1,v,Zn,Zy p.goal.op,Zy p.goal.name,Zc C4 n4 c4,Zc C5 n5 c5,Zc C6 n6 c6,Zc C7 n7 c7] 37)::(g2,Zu #[Ze,Ze,Zn,Zn,Zn,Ze,Ze,Zn,Zn,Zn,Zn] 37)::(g1,Zu #[Zy p.name,Zy p.domain,Zc B1 m1 d1,Zc B2 m2 d2,Zc B3 m3 d3,Zy p.goal.op,Zy p.goal.name,Zc B4 m4 d4,Zc B5 m5 d5,Zc B6 m6 d6,Zc B7 m7 d7] 37)::Hp/\Grow atomL 77 fz' v k Hp (lI.take k)) ⟨0,_,[],Z0 _,rfl,rfl,Zd,rfl,Grow.nil _ _ _⟩ Zw Zb ?_
 rintro q σ fz2 H' ⟨k,v,Hp,hk,rfl,rfl,hle2,rfl,hG⟩;obtain ⟨Av,cv,rfl,_,_⟩:=hG.form;refine zW ?_;intros;refine zC ?_ ?_<;>intro f1
 ·obtain ⟨x,hx⟩:=Ye (l:=lI) (k:=k) Zi;have w1:=hS.ia x ((hIm x).1 (Zm hx));refine zW ?_;intros;refine zI (iI.mono hle2) hx (fun p1 hp1=>?_);refine zL hp1 ?_;intro cs hcs;obtain ⟨vx,rfl,hR⟩:=XA hcs;obtain ⟨E1,r1,q1,rfl,_⟩:=id hR.args;refine zWN ?_;intros;rename_i g5;refine XF [_,_] ?_;refine zW ?_;intros;refine Yk (Yk (Yk ?_));refine zW ?_;intros;refine pU ?_;refine Yj (Ym [] (_::_::_::_::Hp) Zz (YqA hR w1) (fun v8 fz8 H8 hle8 hR8=>⟨⟨hle8,Zx⟩,?_⟩));obtain ⟨rfl,va8,rfl,hR8⟩:=hR8;obtain ⟨E8,r8,q8,rfl,_⟩:=id hR8.args;refine Yj (Yb (cs:=[Zy x.name,Zc E8 r8 q8]) (fun gb=>⟨⟨hle8,Zx⟩,?_⟩));refine Yj (YN (Hr:=[_,_,_,_,_]) (d:=x) (Zr _) (hG.mono hle8) Ym5 (.head _) (YbQ hR8) (fun v10 H10 hO10=>⟨⟨hle8,Zx⟩,?_⟩));obtain ⟨A10,c10,rfl,_,_⟩:=hO10.form;refine Ch.hard0 (WT ?_);refine Ch.done ?_;refine zW ?_;intros;exact Wj ⟨k+1,_,H10,by omega,rfl,rfl,hle2.trans hle8,rfl,hO10.of (by rw [List.take_add_one,hx];rfl) rfl⟩ Zi Zw ((List.Sublist.refl _).cons _ |>.cons _)
 obtain rfl:mI=k:=by omega
 rw [Zl Zi] at hG;refine zW ?_;intros;refine Yi (fun q σ fz' H'=>∃ (k:Nat) (v:Value) (Hq:HP),k<=m3/\q=m3 - k/\σ=[(37,Zk k),(36,Zk m3),(35,Zc B3 m3 d3),(3,Zp g3),(2,Zp g2)]/\Le fz2 fz'/\
  H'=(g3,Zu #[Zy p.name,Zy p.domain,Zc C1 m1 c1,Zc Av mI cv,v,Zy p.goal.op,Zy p.goal.name,Zc C4 n4 c4,Zc C5 n5 c5,Zc C6 n6 c6,Zc C7 n7 c7] 37)::(g2,Zu #[Ze,Ze,Zn,Zn,Zn,Ze,Ze,Zn,Zn,Zn,Zn] 37)::(g1,Zu #[Zy p.name,Zy p.domain,Zc B1 m1 d1,Zc B2 m2 d2,Zc B3 m3 d3,Zy p.goal.op,Zy p.goal.name,Zc B4 m4 d4,Zc B5 m5 d5,Zc B6 m6 d6,Zc B7 m7 d7] 37)::(Hp++Hq)/\Grow valueL 80 fz' v k Hq (p.values.take k)) ⟨0,_,[],Z0 _,rfl,rfl,Zd,by rw [List.append_nil],Grow.nil _ _ _⟩ Zw (List.Sublist.refl _) ?_
 rintro q σ fz3 H' ⟨k,v,Hq,hk,rfl,rfl,hle3,rfl,hG3⟩;obtain ⟨Aw,cw,rfl,_,_⟩:=hG3.form;have hx03:=hle1.trans (hle20.trans (hle21.trans (hle2.trans hle3)));refine zW ?_;intros;refine zC ?_ ?_<;>intro f2
 ·obtain ⟨x,hx⟩:=Ye (l:=p.values) (k:=k) Zi;have w1:=hS.va x (Zm hx);refine zW ?_;intros;refine zI (j3.mono hx03) hx (fun p1 hp1=>?_);refine zL hp1 ?_;intro cs hcs;obtain ⟨E1,r1,q1,rfl,hR⟩:=Yff hcs;have hRf:=hR.fluent;refine zWN ?_;intros;rename_i g5;refine XF [_,_] ?_;refine zW ?_;intros
  ((refine zG ?_);refine Yc (vs:=[Zy x.fluent.name,Zc E1 r1 q1]) 0 ?_);refine Yk ?_;refine zW ?_;intros;refine Yk (Yk (Yk ?_));refine zW ?_;intros;refine pU ?_;refine Yj (Ym [] (_::_::_::_::(Hp++Hq)) Zz (YqA hRf w1) (fun v8 fz8 H8 hle8 hR8=>⟨⟨hle8,Zx⟩,?_⟩));obtain ⟨rfl,va8,rfl,hR8⟩:=hR8;obtain ⟨E8,r8,q8,rfl,_⟩:=id hR8.args;refine Ch.qk ⟨hle8,Zx⟩ (YaY ?_);refine Yj (Yb (cs:=[Zy x.fluent.name,Zc E8 r8 q8,Zk x.n]) (fun gb=>⟨⟨hle8,Zx⟩,?_⟩));refine Yj (YN (Hr:=_::_::_::_::_::Hp) (d:=x) (Zr _) (hG3.mono hle8) YkB (.head _) (YgE ⟨hR8,hR.n⟩) (fun v10 H10 hO10=>⟨⟨hle8,Zx⟩,?_⟩));obtain ⟨A10,c10,rfl,_,_⟩:=hO10.form;refine Ch.hard0 (WT ?_);refine Ch.done ?_;refine zW ?_;intros;exact Wj ⟨k+1,_,H10,by omega,rfl,rfl,hle3.trans hle8,rfl,hO10.of (by rw [List.take_add_one,hx];rfl) rfl⟩ Zi Zw ((List.Sublist.refl _).cons _ |>.cons _)
 obtain rfl:m3=k:=by omega
 rw [Zl Zi] at hG3;refine zW ?_;intros;refine Seq.freezeAll (H1:=_::_::_::Hq) (H2:=Hp) (((List.perm_append_comm.cons _).cons _).cons _) (fun fz4 hle4 hf4=>?_);obtain ⟨Av',cv',e4,iA⟩:=hG.sl (hle3.trans hle4) hf4 Zi;injection e4 with e41 e42 e43
 subst e41;subst e43;refine Ya (Does.perm (H':=Hq++ [_,_,_]) (Zq (l₁:=Hq)) (Ym Hq _ rfl (Yfk .va (hG3.mono hle4) byNVa_q (ordA.swk _) Zi) (fun v26 fz26 H26 hle26 hR26=>?_)));obtain ⟨rfl,hG26⟩:=hR26;refine Seq.freezeAll (H1:=[_,_,_]) (H2:=H26) Zq (fun fz27 hle27 hf27=>?_);obtain ⟨B6',b6',e6,k6⟩:=hG26.sl hle27 hf27 Zi;injection e6 with e61 e62 e63
 subst e61;subst e63;refine zW ?_;intros;refine XJ (i:=1) rfl (fun fz28 hle28 hf28=>?_);have z0:=hle27.trans hle28;have z1:=hle20.trans (hle21.trans (hle2.trans (hle3.trans (hle4.trans z0))));exact ⟨rfl,lI,_,_,_,_,_,_,_,rfl,hCI,hIm,⟨hP.name,hP.domain,(k1.mono z1).is,(iA.mono z0).is,(k6.mono hle28).is,kG.mono z1⟩⟩
end Go.Proofs.YtiligkgjcmokbaaGreatDoor
namespace Go.Proofs.YtiligkgjcmokbaaGreatDoor
variable {α:Type} {all:List Param} {l:List α}
theorem Yj8 {α:Type} {cmp:α->α->Int} (w:SWk (ltC cmp)):∀ (n:Nat) {l:List α},l.length=n->SrtS (ltC cmp) l->srtC cmp l=l
 | 0,l,h,_=>by rw [List.eq_nil_of_length_eq_zero h];rfl
 | n+1,l,h,hs=>by
  rcases List.eq_nil_or_concat l with rfl | ⟨s,x,rfl⟩
  ·cases h
  rw [List.concat_eq_append] at*;have h1:s.length=n:=by simpa using h
  have hp:=List.pairwise_append.1 hs;have ih:=Yj8 w n h1 hp.1;refine Yj7 w (s1:=s) (s2:=[]) (by rw [ih,List.append_nil]) (by simp) fun z t e=>?_
  subst e;exact hp.2.2 z (by simp) x (by simp)
theorem Yfj {cmp:α->α->Int} (w:SWk (ltC cmp)) (l:List α):srtC cmp (srtC cmp l)=srtC cmp l:=Yj8 w _ rfl (Ygo w)
theorem YqQ (d:Domain):canD (canD d)=canD d:=by
 unfold canD;simp only [Yfj (Yek _)]
theorem YnR (l:List Value_):srtC byV (srtC byV l)=srtC byV l:=Yfj (ordA.swk Value_.fluent) l
theorem Yep {α:Type} {lt:α->α->Prop} [DecidableRel lt]:∀ l r:List α,(XB lt l r).Perm (l++r)
 | [],r=>by rw [Xw];exact Zr _
 | x::l,[]=>by rw [XX,List.append_nil]
 | x::l,y::r=>by
  rw [YR];split
  ·exact ((Yep (x::l) r).cons y).trans (List.perm_middle (l₁:=x::l)).symm
  exact (Yep l (y::r)).cons x
theorem Ybl {cmp:α->α->Int} (l:List α):(srtC cmp l).Perm l:=by
 have:∀ l s:List α,(l.foldl (fun s x=>XB (ltC cmp) s [x]) s).Perm (s++l):=fun l=>by
  induction l with
  | nil=>intro s;rw [List.append_nil];exact Zr _
  | cons x l ih=>intro s;exact (ih _).trans (by rw [show s++x::l=(s++ [x])++l by simp];exact (Yep s [x]).append_right l)
 exact this l []
theorem Yhj {nm:α->Bs} {r:List α} (h:l.Perm r) (hn:(l.map nm).Nodup) (s:Bs):(l.find? fun x=>decide (nm x=s))=r.find? fun x=>decide (nm x=s):=by
 have hr:(r.map nm).Nodup:=(h.map nm).nodup_iff.1 hn;have key:∀ {l r:List α},(l.map nm).Nodup->(∀ x,x∈l↔x∈r)->∀ x,(r.find? fun x=>decide (nm x=s))=some x->(l.find? fun x=>decide (nm x=s))=some x:=fun {l r} hn hm x hx=>by
  have h1:nm x=s:=by simpa using List.find?_some hx
  have h2:=(hm x).2 (List.mem_of_find?_eq_some hx);cases h3:l.find? fun x=>decide (nm x=s) with
  | none=>exact absurd h1 (by simpa using List.find?_eq_none.1 h3 x h2)
  | some y=>
   have h4:nm y=s:=by simpa using List.find?_some h3
   have h5:=List.mem_of_find?_eq_some h3;obtain ⟨i,hi,ei⟩:=List.getElem_of_mem h5;obtain ⟨j,hj,ej⟩:=List.getElem_of_mem h2;have hp:=List.pairwise_iff_getElem.1 hn;have e:i=j:=by
    rcases Nat.lt_trichotomy i j with h | h | h
    ·exact absurd (by rw [List.getElem_map,List.getElem_map,ei,ej,h4,h1]) (hp i j (by simpa using hi) (by simpa using hj) h)
    ·exact h
    exact absurd (by rw [List.getElem_map,List.getElem_map,ei,ej,h4,h1]) (hp j i (by simpa using hj) (by simpa using hi) h)
   subst e;rw [<- ei,ej]
 cases h1:r.find? fun x=>decide (nm x=s) with
 | some x=>exact key hn (fun x=>h.mem_iff) x h1
 | none=>
  cases h2:l.find? fun x=>decide (nm x=s) with
  | none=>rfl
  | some x=>rw [key hr (fun x=>h.mem_iff.symm) x h2] at h1;cases h1
theorem YiG (t:Bs):∀ l:List Param,tyF l t=(l.find? fun x=>decide (x.name=t)).map Param.typ
 | []=>rfl
 | p::r=>by
  rw [tyF,List.find?_cons];by_cases h:p.name=t
  ·rw [if_pos h.symm];simp [h]
  rw [if_neg (fun e=>h e.symm),YiG t r];simp [h]
theorem YiF {l r:List Param} (h:l.Perm r) (hn:(parN l).Nodup) (t:Bs):tyF l t=tyF r t:=by
 rw [YiG,YiG,Yhj (nm:=Param.name) h hn]
theorem YeG:∀ {l:List Bs},TwP [] l↔¬l.Nodup:=fun {l}=>by
 constructor
 ·rintro ⟨k,x,h1,h2⟩ hn;rw [List.nil_append] at h2;obtain ⟨i,hi⟩:=List.getElem?_of_mem h2;have hik:i<k:=by
   have:=(Zg hi).1;rw [List.length_take] at this;omega
  rw [List.getElem?_take_of_lt hik] at hi;obtain ⟨a,ea⟩:=Zg hi;obtain ⟨b,eb⟩:=Zg h1;exact List.pairwise_iff_getElem.1 hn i k a b hik (ea.trans eb.symm)
 intro hn;refine Classical.byContradiction fun ht=>hn (List.pairwise_iff_getElem.2 fun i j hi hj hij e=>ht ⟨j,l[j],List.getElem?_eq_getElem hj,?_⟩)
 rw [List.nil_append,<- e];exact Zm (i:=i) (by rw [List.getElem?_take_of_lt hij];exact List.getElem?_eq_getElem hi)
theorem Yla {l r:List Param} (h:∀ t,tyF l t=tyF r t) (t:Bs):∀ (n:Nat) (a:Bs),cycM l t n a=cycM r t n a
 | 0,_=>rfl
 | n+1,a=>by
  have e:upT l a=upT r a:=by unfold upT;rw [h]
  rw [cycM,cycM,e,Yla h t n]
theorem YpC {l r:List Param} (h:l.Perm r):newM l=newM r:=by
 have hn:TwP [] (parN l)↔TwP [] (parN r):=by
  rw [YeG,YeG];exact not_congr (h.map Param.name).nodup_iff
 unfold newM;by_cases h1:TwP [] (parN l)
 ·rw [if_pos h1,if_pos (hn.1 h1)]
 have hd:(parN l).Nodup:=Classical.byContradiction fun h0=>h1 (YeG.2 h0)
 have ht:=YiF h hd;rw [if_neg h1,if_neg (fun h0=>h1 (hn.2 h0))];have e1:(∀ p∈l,HasT l p.typ)↔∀ p∈r,HasT r p.typ:=by
  unfold HasT;simp only [ht,h.mem_iff]
 have e2:(∃ p∈l,cycM l p.name l.length p.name=true)↔∃ p∈r,cycM r p.name r.length p.name=true:=by
  simp only [h.length_eq,Yla ht,h.mem_iff]
 by_cases h2:∀ p∈l,HasT l p.typ
 ·rw [if_neg (not_not_intro h2),if_neg (not_not_intro (e1.1 h2))];by_cases h3:∃ p∈l,cycM l p.name l.length p.name=true
  ·rw [if_pos h3,if_pos (e2.1 h3)]
  rw [if_neg h3,if_neg (fun h0=>h3 (e2.2 h0))]
 rw [if_pos h2,if_pos (fun h0=>h2 (e1.2 h0))]
theorem Yaw {α:Type} {E:α->Int}:∀ {l:List (Bs × α)},(Xn E l).2=0↔∀ x∈l,E x.2=0
 | []=>by simp [Xn]
 | p::r=>by
  rw [Xn];by_cases h:E p.2=0
  ·rw [if_pos h,Yaw];simp [h]
  rw [if_neg h];simp [h]
theorem YfK {α:Type} {E:α->Int}:∀ {l:List α},YbA E l=0↔∀ x∈l,E x=0
 | []=>by simp [YbA]
 | p::r=>by
  rw [YbA];by_cases h:E p=0
  ·rw [if_pos h,YfK];simp [h]
  rw [if_neg h];simp [h]
theorem YfJ {f:Nat->Bs × Int}:∀ {n k:Nat},(Yef f n k).2=0↔∀ i,i<n->(f (k+i)).2=0
 | 0,k=>by simp [Yef]
 | n+1,k=>by
  rw [Yef];by_cases h:(f k).2=0
  ·rw [if_pos h,YfJ];constructor
   ·intro hh i hi;cases i with
    | zero=>exact h
    | succ i=>have:=hh i Zi;rwa [show k+1+i=k+(i+1) by omega] at this
   intro hh i hi;have:=hh (i+1) Zi;rwa [show k+1+i=k+(i+1) by omega]
  rw [if_neg h];exact ⟨fun h0=>absurd h0 h,fun hh=>absurd (hh 0 Zi) h⟩
theorem YeN:∀ {l:List Param} {seen:List Bs},repM seen l=none↔(parN l).Nodup/\∀ x∈parN l,x ∉ seen
 | [],seen=>by simp [repM,parN]
 | p::r,seen=>by
  rw [repM];by_cases h:p.name∈seen
  ·rw [if_pos h];simp [parN,h]
  rw [if_neg h,YeN];simp only [parN,List.map_cons,List.nodup_cons,List.mem_append,List.mem_cons,List.not_mem_nil,or_false];constructor
  ·rintro ⟨h1,h2⟩;exact ⟨⟨fun h3=>(h2 _ h3) (.inr rfl),h1⟩,fun x hx=>by
    rcases hx with rfl | hx
    ·exact h
    exact fun h4=>h2 x hx (.inl h4)⟩
  rintro ⟨⟨h1,h2⟩,h3⟩;exact ⟨h2,fun x hx h4=>by
   rcases h4 with h4 | rfl
   ·exact h3 x (.inr hx) h4
   exact h1 hx⟩
theorem YiS {l r:List Param} (h:l.Perm r):repM [] l=none↔repM [] r=none:=by
 rw [YeN,YeN];have e:=(h.map Param.name).nodup_iff;unfold parN;simp [e]
structure DPm (d e:Domain):Prop where
 n:d.name=e.name
 t:d.types.Perm e.types
 c:d.constants.Perm e.constants
 p:d.predicates.Perm e.predicates
 f:d.functions.Perm e.functions
 a:d.actions.Perm e.actions
 u:d.duratives.Perm e.duratives
theorem DPm.symm {d e:Domain} (h:DPm d e):DPm e d:=⟨h.n.symm,h.t.symm,h.c.symm,h.p.symm,h.f.symm,h.a.symm,h.u.symm⟩
theorem YjJ (d:Domain):DPm (canD d) d:=⟨rfl,Ybl _,Ybl _,Ybl _,Ybl _,Ybl _,Ybl _⟩
theorem names_pm {d e:Domain} {all':List Param} (h:DPm d e) (ha:all.Perm all'):Yar d all=none↔Yar e all'=none:=by
 have h0:(Yb1 d).Perm (Yb1 e):=(h.p.map _).append (h.f.map _);have h1:(Ybx all).Perm (Ybx all'):=ha.map _;have h2:(YeT d).Perm (YeT e):=(h.a.map _).append (h.u.map _);have key:∀ (d:Domain) (all:List Param),Yar d all=none↔repM [] (Yb1 d)=none/\repM [] (Ybx all)=none/\repM [] (YeT d)=none:=fun d all=>by
  unfold Yar;cases repM [] (Yb1 d) with
  | some x=>simp
  | none=>cases repM [] (Ybx all) with
   | some x=>simp
   | none=>simp
 rw [key,key,YiS h0,YiS h1,YiS h2]
structure XE (l r:List Sexpr):Prop where
 a:(∀ k∈l,XOk k)↔∀ k∈r,XOk k
 c:xcountL l=xcountL r
 d:xdepthL l=xdepthL r
theorem XE.refl (l:List Sexpr):XE l l:=⟨Iff.rfl,rfl,rfl⟩
theorem YjY {l r:List Sexpr} (h:l.Perm r):xcountL l=xcountL r:=by
 induction h with
 | nil=>rfl
 | cons x _ ih=>simp only [xcountL,ih]
 | swap x y l=>simp only [xcountL];omega
 | trans _ _ h1 h2=>exact h1.trans h2
theorem XE.perm {l r:List Sexpr} (h:l.Perm r):XE l r where
 a:=by simp only [h.mem_iff]
 c:=YjY h
 d:=Nat.le_antisymm (Wq.2 fun x hx=>Wq.1 (Zs _) x (h.mem_iff.1 hx)) (Wq.2 fun x hx=>Wq.1 (Zs _) x (h.mem_iff.2 hx))
theorem YaO:∀ {l r:List Sexpr},xcountL (l++r)=xcountL l+xcountL r
 | [],r=>by simp [xcountL]
 | x::l,r=>by simp only [List.cons_append,xcountL,YaO (l:=l)];omega
theorem YbR:∀ {l r:List Sexpr},xdepthL (l++r)=max (xdepthL l) (xdepthL r)
 | [],r=>by simp [xdepthL]
 | x::l,r=>by simp only [List.cons_append,xdepthL,YbR (l:=l)];omega
theorem XE.app {l r l' r':List Sexpr} (h:XE l r) (h':XE l' r'):XE (l++l') (r++r') where
 a:=by
  have e:∀ l l':List Sexpr,(∀ k∈l++l',XOk k)↔(∀ k∈l,XOk k)/\∀ k∈l',XOk k:=fun l l'=>by simp only [List.mem_append,or_imp,forall_and]
  rw [e,e,h.a,h'.a]
 c:=by rw [YaO,YaO,h.c,h'.c]
 d:=by rw [YbR,YbR,h.d,h'.d]
theorem YdS {l:List Sexpr}:XOk (YM l)↔∀ k∈l,XOk k:=by
 refine Xe.trans ?_;exact ⟨fun h=>h.2,fun h=>⟨.inr (.inr ⟨rfl,rfl,rfl⟩),h⟩⟩
theorem XE.node {l r:List Sexpr} (h:XE l r):XE [YM l] [YM r] where
 a:=by simp only [List.mem_singleton,forall_eq,YdS,h.a]
 c:=by simp only [xcountL,Xj];exact congrArg (fun n=>1+n+0) h.c
 d:=by simp only [xdepthL,Ycs];exact congrArg (fun n=>max (n+(if (3:Int)=3 then 1 else 0)) 0) h.d
theorem XE.val {l r:List Sexpr} (h:XE l r):XVal (YM l)↔XVal (YM r):=by
 have h1:=h.node;unfold XVal;have e1:XOk (YM l)↔XOk (YM r):=by rw [YdS,YdS,h.a]
 have e2:xdepth (YM l)=xdepth (YM r):=by have:=h1.d;simpa [xdepthL] using this
 have e3:xcount (YM l)=xcount (YM r):=by have:=h1.c;simpa [xcountL] using this
 rw [e1,e2,e3]
theorem YkS (kw:Bs) {l r:List Sexpr} (h:l.Perm r):XE (grp kw l) (grp kw r):=by
 unfold grp;by_cases e:l=[]
 ·subst e;obtain rfl:r=[]:=h.nil_eq.symm;exact XE.refl _
 rw [if_neg e,if_neg (fun e2=>e (by subst e2;exact h.eq_nil))];exact (XE.app (XE.refl [_]) (XE.perm h)).node
theorem Yfv {l r:List Param} (h:l.Perm r):(Yap l).Perm (Yap r):=(h.flatMap_right _).map _
theorem domX_pm {d e:Domain} (h:DPm d e):XVal (domX d)↔XVal (domX e):=by
 unfold domX;rw [h.n];exact ((((((XE.refl _).app (YkS _ (Yfv h.t))).app (YkS _ (Yfv h.c))).app (YkS _ (h.p.map _))).app (YkS _ (h.f.map _))).app (XE.perm (h.a.map _)) |>.app (XE.perm (h.u.map _))).val
theorem domOk_pm {d e:Domain} (h:DPm d e):Ycq d↔Ycq e:=by
 unfold Ycq;simp only [h.n,h.t.mem_iff,h.c.mem_iff,h.p.mem_iff,h.f.mem_iff,h.a.mem_iff,h.u.mem_iff]
structure LkE (d e:Domain) (all all':List Param):Prop where
 p:∀ x,fstP d.predicates x=fstP e.predicates x
 f:∀ x,fstF d.functions x=fstF e.functions x
 t:∀ x,tyF d.types x=tyF e.types x
 o:∀ x,tyF all x=tyF all' x
theorem upT_lk {l r:List Param} (h:∀ x,tyF l x=tyF r x) (a:Bs):upT l a=upT r a:=by unfold upT;rw [h]
theorem Yp0 {l r:List Param} (h:∀ x,tyF l x=tyF r x) (a:Bs):HasT l a↔HasT r a:=by unfold HasT;rw [h]
theorem chN_lk {l r:List Param} (h:∀ x,tyF l x=tyF r x):∀ (m:Nat) (a:Bs),chN l m a=chN r m a
 | 0,a=>rfl
 | m+1,a=>by rw [chN,chN,upT_lk h,chN_lk h m]
theorem upN_lk {l r:List Param} (h:∀ x,tyF l x=tyF r x):∀ (m:Nat) (a:Bs),upN l m a↔upN r m a
 | 0,a=>Iff.rfl
 | m+1,a=>by rw [upN,upN,upT_lk h,upN_lk h m]
theorem isT_lk {l r:List Param} (h:∀ x,tyF l x=tyF r x) (a b:Bs):IsT l a b↔IsT r a b:=by
 unfold IsT;simp only [Yp0 h,upN_lk h,chN_lk h]
theorem Yqh {l r:List Param} (h:∀ x,tyF l x=tyF r x) (ps:List Param):ExP l ps↔ExP r ps:=by
 unfold ExP;simp only [Yp0 h]
section
variable {d e:Domain} {all all':List Param} (h:LkE d e all all')
include h
theorem Yqa (vars:List Param) (t:Bs):Ydn all vars t=Ydn all' vars t:=by unfold Ydn;rw [h.o]
theorem Yoj (vars:List Param):Ya9 d all vars=Ya9 e all' vars:=by
 funext z
 unfold Ya9;rw [Yqa h];cases Ydn all' vars z.1 with
 | none=>rfl
 | some t=>simp only [isT_lk h.t]
theorem YqV (vars:List Param) (args:List Bs) (ps:List Param):YjM d all vars args ps=YjM e all' vars args ps:=by unfold YjM;rw [Yoj h]
theorem atom_lk (vars:List Param) (name:Bs) (args:List Bs):atomM d all vars name args=atomM e all' vars name args:=by
 unfold atomM;rw [h.p];cases fstP e.predicates name with
 | none=>rfl
 | some p=>exact YqV h _ _ _
theorem flu_lk (vars:List Param) (name:Bs) (args:List Bs):fluM d all vars name args=fluM e all' vars name args:=by
 unfold fluM;rw [h.f];cases fstF e.functions name with
 | none=>rfl
 | some p=>exact YqV h _ _ _
theorem own_lk (vars:List Param) (op:Bs) (args:List Bs) (ps:List Param):ownM d all vars op args ps=ownM e all' vars op args ps:=by
 unfold ownM;simp only [Yqa h,Yqh h.t]
mutual
theorem expr_lk (vars:List Param):∀ x:Lx.Expr,exprM d all vars x=exprM e all' vars x
 | .mk op name n args kids=>by rw [exprM,exprM,flu_lk h,exprL_lk vars kids]
theorem exprL_lk (vars:List Param):∀ l:List Lx.Expr,exprML d all vars l=exprML e all' vars l
 | []=>by rw [exprML,exprML]
 | k::r=>by rw [exprML,exprML,expr_lk vars k,exprL_lk vars r]
end
mutual
theorem form_lk:∀ (vars:List Param) (x:Formula),formM d all vars x=formM e all' vars x
 | vars,.mk op name args params exprs kids=>by rw [formM,formM,atom_lk h,own_lk h,exprL_lk h,formL_lk _ kids]
theorem formL_lk:∀ (vars:List Param) (l:List Formula),formML d all vars l=formML e all' vars l
 | _,[]=>by rw [formML,formML]
 | vars,k::r=>by rw [formML,formML,form_lk vars k,formL_lk vars r]
end
theorem YjB (vars:List Param) (x:Formula):Ybr d all vars x=Ybr e all' vars x:=by unfold Ybr;rw [form_lk h]
theorem YqG (vars:List Param) (x:Change) (du:Bool):YaQ d all vars x du=YaQ e all' vars x du:=by
 unfold YaQ;rw [form_lk h,atom_lk h,flu_lk h,expr_lk h];simp only [Yqh h.t]
theorem YfR (vars:List Param) (l:List Change) (du:Bool):W8 d all vars l du=W8 e all' vars l du:=by
 unfold W8;rw [show (fun x=>YaQ d all vars x du)=fun x=>YaQ e all' vars x du from funext fun x=>YqG h vars x du]
theorem actL_lk (x:Action):actL d all x=actL e all' x:=by unfold actL;rw [form_lk h,YfR h]
theorem durL_lk (x:Durative):durL d all x=durL e all' x:=by unfold durL;rw [YjB h,YjB h,YjB h,YfR h,YfR h]
end
structure PPm (p q:Problem):Prop where
 n:p.name=q.name
 d:p.domain=q.domain
 o:p.objects.Perm q.objects
 i:∀ a,a∈p.init↔a∈q.init
 v:p.values.Perm q.values
 g:p.goal=q.goal
theorem PPm.symm {p q:Problem} (h:PPm p q):PPm q p:=⟨h.n.symm,h.d.symm,h.o.symm,fun a=>(h.i a).symm,h.v.symm,h.g.symm⟩
theorem names_nd {d:Domain} (h:Yar d all=none):(d.predicates.map Predicate.name).Nodup/\(d.functions.map Function.name).Nodup/\(parN all).Nodup:=by
 have key:repM [] (Yb1 d)=none/\repM [] (Ybx all)=none:=by
  unfold Yar at h;cases h0:repM [] (Yb1 d) with
  | some x=>rw [h0] at h;cases h
  | none=>rw [h0] at h;cases h1:repM [] (Ybx all) with
   | some x=>rw [h1] at h;cases h
   | none=>exact ⟨rfl,rfl⟩
 have k0:=(YeN.1 key.1).1;have k1:=(YeN.1 key.2).1;have e0:parN (Yb1 d)=d.predicates.map Predicate.name++d.functions.map Function.name:=by
  unfold parN Yb1;rw [List.map_append,List.map_map,List.map_map];rfl
 have e1:parN (Ybx all)=parN all:=by unfold parN Ybx;rw [List.map_map];rfl
 rw [e0] at k0;rw [e1] at k1;obtain ⟨a,b,_⟩:=List.nodup_append.1 k0;exact ⟨a,b,k1⟩
theorem lkE_of {d e:Domain} {all':List Param} (h:DPm d e) (ha:all.Perm all') (ht:¬TwP [] (parN d.types)) (hn:Yar d all=none):LkE d e all all':=by
 obtain ⟨n1,n2,n3⟩:=names_nd hn;refine ⟨fun x=>Yhj h.p n1 x,fun x=>Yhj h.f n2 x,fun x=>YiF h.t (Classical.byContradiction fun h0=>ht (YeG.2 h0)) x,fun x=>YiF ha n3 x⟩
theorem Ypw {d e:Domain} {p q:Problem} (h:DPm d e) (k:PPm p q):(Yaq d p).Perm (Yaq e q):=h.c.append k.o
theorem large_pm {d e:Domain} {p q:Problem} (h:DPm d e) (k:PPm p q):YcL d p (Yaq d p)↔YcL e q (Yaq e q):=by
 unfold YcL;simp only [(Ypw h k).length_eq,h.t.length_eq,h.p.length_eq,h.f.length_eq,h.a.length_eq,h.u.length_eq,k.g,h.p.mem_iff,h.f.mem_iff,h.a.mem_iff,h.u.mem_iff]
theorem Yne {d e:Domain} {all':List Param} (h:DPm d e) (ha:all.Perm all'):(Yby d all).Perm (Yby e all'):=by
 unfold Yby;exact (h.p.map _).append ((h.f.map _).append ((ha.map _).append ((h.a.map _).append ((h.u.map _).append (Zr _)))))
theorem nums_pm {d e:Domain} (h:DPm d e):(numsL d).Perm (numsL e):=by
 unfold numsL;exact (h.f.map _).append ((h.a.map _).append ((h.u.map _).append (Zr _)))
theorem Yiu (d:Domain):(YjG d).2=0↔d.duratives=[]\/(d.actions=[]/\d.functions=[]):=by
 unfold YjG;cases d.duratives with
 | nil=>simp
 | cons u r=>cases d.actions with
  | cons a r=>simp
  | nil=>cases d.functions with
   | cons f r=>simp
   | nil=>simp
theorem Yop {d e:Domain} {all':List Param} (h:DPm d e) (k:LkE d e all all'):(YaL d all).Perm (YaL e all'):=by
 unfold YaL;rw [show actL d all=actL e all' from funext (actL_lk k),show durL d all=durL e all' from funext (durL_lk k)];exact (h.a.flatMap_right _).append ((h.u.flatMap_right _).append (Zr _))
theorem YgF {d:Domain} {all:List Param}:∀ {l:List Value_} {ks:List Bs},YeF d all ks l=0↔(∀ v∈l,fluM d all [] v.fluent.name v.fluent.args=0/\¬OutV d v)/\(l.map txtV).Nodup/\∀ v∈l,txtV v ∉ ks
 | [],ks=>by simp [YeF]
 | v::r,ks=>by
  rw [YeF];by_cases h1:fluM d all [] v.fluent.name v.fluent.args=0
  ·rw [if_neg (not_not_intro h1)];by_cases h2:OutV d v
   ·rw [if_pos h2];exact ⟨Za,fun h=>absurd h2 (h.1 v (.head _)).2⟩
   rw [if_neg h2];by_cases h3:txtV v∈ks
   ·rw [if_pos h3];exact ⟨Za,fun h=>absurd h3 (h.2.2 v (.head _))⟩
   rw [if_neg h3,YgF];constructor
   ·rintro ⟨a,b,c⟩;refine ⟨fun x hx=>?_,List.nodup_cons.2 ⟨fun hm=>?_,b⟩,fun x hx=>?_⟩
    ·rcases List.mem_cons.1 hx with rfl | hx
     ·exact ⟨h1,h2⟩
     exact a x hx
    ·obtain ⟨x,hx,ex⟩:=List.mem_map.1 hm;exact c x hx (by rw [ex];simp)
    rcases List.mem_cons.1 hx with rfl | hx
    ·exact h3
    exact fun hk=>c x hx (List.mem_append_left _ hk)
   rintro ⟨a,b,c⟩;obtain ⟨b1,b2⟩:=List.nodup_cons.1 b;refine ⟨fun x hx=>a x (.tail _ hx),b2,fun x hx hk=>?_⟩;rcases List.mem_append.1 hk with hk | hk
   ·exact c x (.tail _ hx) hk
   rw [List.mem_singleton] at hk;exact b1 (hk ▸ List.mem_map.2 ⟨x,hx,rfl⟩)
  rw [if_pos h1];exact ⟨fun h=>absurd h h1,fun h=>absurd (h.1 v (.head _)).1 h1⟩
theorem ofT_mem {l os:List Param} {t x:Bs}:x∈ofT l t os↔∃ o∈os,IsT l o.typ t/\o.name=x:=by
 unfold ofT;simp only [List.mem_map,List.mem_filter,decide_eq_true_eq,and_assoc]
theorem YpE {l r all all':List Param} {ks js:List Bs} (h:∀ x,tyF l x=tyF r x) (ha:all.Perm all') (hk:∀ x,x∈ks↔x∈js) (name:Bs):∀ (ps:List Param) (args:List Bs),Ycp l all ks name ps args↔Ycp r all' js name ps args
 | [],args=>by rw [Ycp,Ycp,hk]
 | p::ps,args=>by
  rw [Ycp,Ycp];simp only [ofT_mem,isT_lk h,ha.mem_iff,YpE h ha hk name ps]
theorem Ykr {d:Domain} {p:Problem}:(WQ d all p).2=0↔p.domain=d.name/\(∀ a∈p.init,atomM d all [] a.name a.args=0)/\YeF d all [] p.values=0/\¬∃ f∈d.functions,Ycp d.types all (p.values.map txtV) f.name f.params []:=by
 unfold WQ;by_cases h1:p.domain=d.name
 ·rw [if_neg (not_not_intro h1)];by_cases h2:YbA (fun a=>atomM d all [] a.name a.args) p.init=0
  ·rw [if_neg (not_not_intro h2)];have h2':=YfK.1 h2;by_cases h3:YeF d all [] p.values=0
   ·rw [if_neg (not_not_intro h3)];by_cases h4:∃ f∈d.functions,Ycp d.types all (p.values.map txtV) f.name f.params []
    ·rw [if_pos h4];exact ⟨Za,fun h=>absurd h4 h.2.2.2⟩
    rw [if_neg h4];exact ⟨fun _=>⟨h1,h2',h3,h4⟩,fun _=>rfl⟩
   rw [if_pos h3];exact ⟨fun h=>absurd h h3,fun h=>absurd h.2.2.1 h3⟩
  rw [if_pos h2];exact ⟨fun h=>absurd h h2,fun h=>absurd (YfK.2 h.2.1) h2⟩
 rw [if_pos h1];exact ⟨Za,fun h=>absurd h.1 h1⟩
theorem YkT {d:Domain} {p:Problem}:(Yh0 d all p).2=0↔(if d.duratives=[] then formM d all [] p.goal else Ybr d all [] p.goal)=0:=by
 unfold Yh0;simp only;by_cases h:(if d.duratives=[] then formM d all [] p.goal else Ybr d all [] p.goal)=0
 ·rw [if_neg (not_not_intro h)];simp [h]
 rw [if_pos h]
theorem YkE {r:List α} (h:l.Perm r):l=[]↔r=[]:=⟨fun e=>by subst e;exact h.nil_eq.symm,fun e=>by subst e;exact h.eq_nil⟩
theorem prob_pm {d e:Domain} {p q:Problem} {all':List Param} (h:DPm d e) (k:PPm p q) (ha:all.Perm all') (hl:LkE d e all all') (hz:(WQ d all p).2=0):(WQ e all' q).2=0:=by
 obtain ⟨a,b,c,m⟩:=Ykr.1 hz;obtain ⟨v1,v2,v3⟩:=YgF.1 c;refine Ykr.2 ⟨by rw [<- k.d,<- h.n];exact a,fun x hx=>by rw [<- atom_lk hl];exact b x ((k.i x).2 hx),YgF.2 ⟨fun v hv=>?_,(k.v.map txtV).nodup_iff.1 v2,fun v _=>by simp⟩,?_⟩
 ·obtain ⟨w1,w2⟩:=v1 v (k.v.mem_iff.2 hv);refine ⟨by rw [<- flu_lk hl];exact w1,fun ⟨f,hf,ho⟩=>w2 ⟨f,by rw [hl.f];exact hf,ho⟩⟩
 rintro ⟨f,hf,hm⟩;exact m ⟨f,h.f.mem_iff.2 hf,(YpE hl.t ha (fun x=>(k.v.map txtV).mem_iff) _ _ _).2 hm⟩
theorem YnA {d e:Domain} {p q:Problem} (h:DPm d e) (k:PPm p q) (hw:FVal q.goal/\YbJ q/\XVal (prbX q)) (hc:(Yak d p).2=0):(Yak e q).2=0:=by
 unfold Yak at hc;by_cases c1:Ycq d/\XVal (domX d);rotate_left 1
 ·rw [if_pos c1] at hc;cases hc
 rw [if_neg (not_not_intro c1)] at hc;by_cases c2:FVal p.goal/\YbJ p/\XVal (prbX p);rotate_left 1
 ·rw [if_pos c2] at hc;cases hc
 rw [if_neg (not_not_intro c2)] at hc;by_cases c3:YcL d p (Yaq d p)
 ·rw [if_pos c3] at hc;cases hc
 rw [if_neg c3] at hc;by_cases c4:newM d.types=0;rotate_left 1
 ·rw [if_pos c4] at hc;exact absurd hc c4
 rw [if_neg (not_not_intro c4)] at hc;have hs:=YfJ.1 hc;have ha:=Ypw h k;have ht:¬TwP [] (parN d.types):=fun h0=>by unfold newM at c4;rw [if_pos h0] at c4;cases c4
 have hn:Yar d (Yaq d p)=none:=by
  have h0:=hs 0 Zi;cases hn:Yar d (Yaq d p) with
  | none=>rfl
  | some s=>simp only [Nat.zero_add,Wi,hn] at h0;cases h0
 have hl:=lkE_of h ha ht hn;unfold Yak;rw [if_neg (not_not_intro ⟨(domOk_pm h).1 c1.1,(domX_pm h).1 c1.2⟩),if_neg (not_not_intro hw),if_neg (fun h0=>c3 ((large_pm h k).2 h0)),if_neg (not_not_intro ((YpC h.t).symm.trans c4))];refine YfJ.2 fun i hi=>?_
 have hz:=hs i hi;rw [Nat.zero_add] at hz ⊢
 match i,hi with
 | 0,_=>simp only [Wi,(names_pm h ha).1 hn]
 | 1,_=>exact Yaw.2 fun x hx=>Yaw.1 hz x ((Yne h (Zr _)).mem_iff.2 hx)
 | 2,_=>
  refine Yaw.2 fun x hx=>?_
  have h0:=Yaw.1 hz x ((Yne h ha).mem_iff.2 hx);simp only [Yqh hl.t] at h0;exact h0
 | 3,_=>exact (Yiu e).2 (((Yiu d).1 hz).imp (YkE h.u).1 fun h0=>⟨(YkE h.a).1 h0.1,(YkE h.f).1 h0.2⟩)
 | 4,_=>exact Yaw.2 fun x hx=>Yaw.1 hz x ((nums_pm h).mem_iff.2 hx)
 | 5,_=>exact Yaw.2 fun x hx=>Yaw.1 hz x ((Yop h hl).mem_iff.2 hx)
 | 6,_=>exact prob_pm h k ha hl hz
 | 7,_=>
  refine YkT.2 ?_;have h0:=YkT.1 hz;rw [<- form_lk hl,<- YjB hl,<- k.g];simpa only [YkE h.u] using h0
 | i+8,hi=>omega
structure XL (l r:List Sexpr):Prop where
 a:(∀ k∈r,XOk k)->∀ k∈l,XOk k
 c:xcountL l<=xcountL r
 d:xdepthL l<=xdepthL r
theorem XE.le {l r:List Sexpr} (h:XE l r):XL l r:=⟨h.a.2,Nat.le_of_eq h.c,Nat.le_of_eq h.d⟩
theorem XL.app {l r l' r':List Sexpr} (h:XL l r) (h':XL l' r'):XL (l++l') (r++r') where
 a:=fun hk k hm=>by
  rcases List.mem_append.1 hm with hm | hm
  ·exact h.a (fun j hj=>hk j (List.mem_append_left _ hj)) k hm
  exact h'.a (fun j hj=>hk j (List.mem_append_right _ hj)) k hm
 c:=by rw [YaO,YaO];have:=h.c;have:=h'.c;omega
 d:=by rw [YbR,YbR];have:=h.d;have:=h'.d;omega
theorem XL.node {l r:List Sexpr} (h:XL l r):XL [YM l] [YM r] where
 a:=by simp only [List.mem_singleton,forall_eq,YdS];exact h.a
 c:=by simp only [xcountL,Xj];exact Nat.add_le_add_right (Nat.add_le_add_left h.c 1) 0
 d:=by
  simp only [xdepthL,Ycs];have e:∀ n m:Nat,n<=m->max (n+(if (3:Int)=3 then 1 else 0)) 0<=max (m+(if (3:Int)=3 then 1 else 0)) 0:=fun n m h=>by simp;omega
  exact e _ _ h.d
theorem XL.val {l r:List Sexpr} (h:XL l r) (hv:XVal (YM r)):XVal (YM l):=by
 obtain ⟨v1,v2,v3⟩:=hv;have h1:=h.node;have hd:=h1.d;have hc:=h1.c;simp only [xdepthL,xcountL,Nat.max_zero,Nat.add_zero] at hd hc;exact ⟨YdS.2 (h.a (YdS.1 v1)),by omega,by omega⟩
theorem XL.nil (r:List Sexpr):XL [] r:=⟨(fun _ k hk=>absurd hk List.not_mem_nil),Z0 _,Z0 _⟩
theorem Ylc {α:Type} {f:α->Sexpr}:∀ {l r:List α},l.Nodup->(∀ x∈l,x∈r)->xcountL (l.map f)<=xcountL (r.map f)
 | [],r,_,_=>Z0 _
 | x::l,r,hn,hs=>by
  obtain ⟨h1,h2⟩:=List.nodup_cons.1 hn;obtain ⟨r1,r2,rfl⟩:=List.append_of_mem (hs x (.head _));have ih:=Ylc (f:=f) (r:=r1++r2) h2 fun y hy=>by
   have h3:=hs y (.tail _ hy);rcases List.mem_append.1 h3 with h3 | h3
   ·exact List.mem_append_left _ h3
   rcases List.mem_cons.1 h3 with rfl | h3
   ·exact absurd hy h1
   exact List.mem_append_right _ h3
  rw [List.map_append,YaO] at ih;rw [List.map_append,YaO,List.map_cons,List.map_cons];simp only [xcountL];omega
theorem sub_xl {f:α->Sexpr} {r:List α} (hn:l.Nodup) (hs:∀ x∈l,x∈r):XL (l.map f) (r.map f) where
 a:=fun hk k hm=>by
  obtain ⟨x,hx,rfl⟩:=List.mem_map.1 hm;exact hk _ (List.mem_map.2 ⟨x,hs x hx,rfl⟩)
 c:=Ylc hn hs
 d:=Wq.2 fun k hm=>by
  obtain ⟨x,hx,rfl⟩:=List.mem_map.1 hm;exact Wq.1 (Zs _) _ (List.mem_map.2 ⟨x,hs x hx,rfl⟩)
theorem grp_xl (kw:Bs) {l r:List Sexpr} (h:XL l r) (h0:r=[]->l=[]):XL (grp kw l) (grp kw r):=by
 unfold grp;by_cases e:l=[]
 ·rw [if_pos e];exact XL.nil _
 rw [if_neg e,if_neg (fun e2=>e (h0 e2))];exact (XL.app (XE.refl [_]).le h).node
def canP (p:Problem) (l:List Atom):Problem:=⟨p.name,p.domain,srtC (byC Param.name) p.objects,l,srtC byV p.values,p.goal⟩
theorem YhD {p:Problem} {l:List Atom} (h:∀ a,a∈l↔a∈p.init):PPm (canP p l) p:=⟨rfl,rfl,Ybl _,h,Ybl _,rfl⟩
theorem Yol {p:Problem} {l:List Atom} (hl:l.Nodup) (h:∀ a,a∈l↔a∈p.init) (hw:FVal p.goal/\YbJ p/\XVal (prbX p)):FVal (canP p l).goal/\YbJ (canP p l)/\XVal (prbX (canP p l)):=by
 obtain ⟨w1,w2,w3⟩:=hw;have k:=YhD h;refine ⟨w1,?_,?_⟩
 ·obtain ⟨a,b,c,v,i⟩:=w2;exact ⟨a,b,fun o ho=>c o (k.o.mem_iff.1 ho),fun x hx=>v x (k.v.mem_iff.1 hx),fun x hx=>i x ((h x).1 hx)⟩
 unfold prbX at w3 ⊢;refine XL.val ?_ w3;refine ((((XE.refl _).le).app (YkS _ (Yfv k.o)).le).app (grp_xl _ ((sub_xl hl fun x hx=>(h x).1 hx).app (XE.perm (k.v.map _)).le) fun e=>?_)).app (XE.refl _).le;obtain ⟨e1,e2⟩:=List.append_eq_nil_iff.1 e;rw [List.map_eq_nil_iff] at e1 e2;have e3:l=[]:=List.eq_nil_iff_forall_not_mem.2 fun x hx=>by have:=(h x).1 hx;rw [e1] at this;cases this
 have e4:(canP p l).values=[]:=(YkE k.v).2 e2;rw [e4,e3];rfl
theorem Yms {d:Domain} {p:Problem} {l:List Atom} (hl:l.Nodup) (h:∀ a,a∈l↔a∈p.init) (hw:FVal p.goal/\YbJ p/\XVal (prbX p)):(Yak d p).2=0↔(Yak (canD d) (canP p l)).2=0:=
 ⟨YnA (YjJ d).symm (YhD h).symm (Yol hl h hw),YnA (YjJ d) (YhD h) hw⟩
end Go.Proofs.YtiligkgjcmokbaaGreatDoor
namespace Go.Lx
end Go.Lx
namespace Go.Proofs.YtiligkgjcmokbaaGreatDoor
end Go.Proofs.YtiligkgjcmokbaaGreatDoor
namespace Go.Proofs.YtiligkgjcmokbaaGreatDoor
variable {fz:FZ} {vb:Value}
def cmpT:List Bs->List Bs->Int
 | [],l=> -(l.length:Int)
 | x::xs,[]=>((x::xs).length:Int)
 | x::xs,y::ys=>if ltB x y=true then -1 else if x=y then cmpT xs ys else 1
noncomputable def cmpR (a b:Atom):Int:=if a.name=b.name then cmpT a.args b.args else if ltB a.name b.name=true then -1 else 1
theorem ltB_irr (a:Bs):ltB a a=false:=by
 cases h:ltB a a with
 | false=>rfl
 | true=>
  have:∀ l:List UInt8,Op.bytesLess l l=false:=fun l=>by
   induction l with
   | nil=>rfl
   | cons x r ih=>simp [Op.bytesLess,ih]
  unfold ltB at h;rw [this] at h;cases h
theorem Ylg:∀ (l l':List Bs),cmpT l l'=0↔l=l'
 | [],[]=>by simp [cmpT]
 | [],_::_=>by simp [cmpT];omega
 | _::_,[]=>by simp [cmpT];omega
 | x::xs,y::ys=>by
  rw [cmpT];by_cases h:x=y
  ·subst h;rw [if_neg (by rw [ltB_irr];decide),if_pos rfl,Ylg xs ys];simp
  rw [if_neg h];constructor
  ·intro h1;split at h1<;>simp at h1
  intro h1;exact absurd (List.cons.inj h1).1 h
theorem YqD (a b:Atom):cmpR a b=0↔a=b:=by
 unfold cmpR;by_cases h:a.name=b.name
 ·rw [if_pos h,Ylg];cases a;cases b;simp at h ⊢;simp [h]
 rw [if_neg h];constructor
 ·intro h1;split at h1<;>simp at h1
 intro h1;exact absurd (by rw [h1]) h
theorem rcmp_q {a b:Atom} {va:Value} (ha:AtomR fz a va) (hb:AtomR fz b vb):QFn prog 112 [.agg #[Zy a.name,va],.agg #[Zy b.name,vb]] fz (Zk (cmpR a b)):=by
 obtain ⟨A,n,c,rfl,ia⟩:=ha.args;obtain ⟨B,m,d,rfl,ib⟩:=hb.args;have la:=ia.len;have lb:=ib.len;have sa:=ia.short;have sb:=ib.short;refine qF Tryz.func112 Tryz.ntmps112 (fun w0=>?_);refine pX (fun g0=>?_);refine pY (fun g1=>?_);refine wC ?_ ?_<;>intro c1
 ·refine wG ?_;refine Yfq (fun h1=>?_) (fun h1=>?_)
  ·exact wR (h:=by rw [cmpR,if_neg c1,if_pos h1])
  exact wR (h:=by rw [cmpR,if_neg c1,if_neg (by rw [h1];decide)])
 have hv:cmpR a b=cmpT a.args b.args:=by rw [cmpR,if_pos c1]
 refine zW ?_;refine Yav n (fun k=>[(5,Zk k),(3,Zp g1),(2,Zp g0)]) [(g1,Zu #[Zy b.name,Zc B m d] 77),(g0,Zu #[Zy a.name,Zc A n c] 77)] (fun k=>k<=m/\cmpT (a.args.drop k) (b.args.drop k)=cmpT a.args b.args) ⟨Z0 _,rfl⟩ ?_;intro k hk hh;obtain ⟨hkm,hcm⟩:=hh;refine wC ?_ ?_<;>intro c2
 ·obtain ⟨x,hx⟩:=Ye (l:=a.args) (k:=k) Zi;have ex:a.args.drop k=x::a.args.drop (k+1):=by
   obtain ⟨h1,h2⟩:=Zg hx;rw [<- h2];exact List.drop_eq_getElem_cons h1
  refine wC ?_ ?_<;>intro c3
  ·obtain ⟨y,hy⟩:=Ye (l:=b.args) (k:=k) Zi;have ey:b.args.drop k=y::b.args.drop (k+1):=by
    obtain ⟨h1,h2⟩:=Zg hy;rw [<- h2];exact List.drop_eq_getElem_cons h1
   rw [ex,ey] at hcm;refine wI ia hx (fun p1 hp1=>?_);refine zH hp1 (fun hs1=>?_);refine wI ib hy (fun p2 hp2=>?_);refine zH hp2 (fun hs2=>?_);refine wG ?_;refine Yfq (fun h1=>?_) (fun h1=>?_)
   ·exact wR (h:=by rw [hv,<- hcm,cmpT,if_pos h1])
   refine wI ia hx (fun p3 hp3=>?_);refine zH hp3 (fun hs3=>?_);refine wI ib hy (fun p4 hp4=>?_);refine zH hp4 (fun hs4=>?_);refine wG ?_;refine Yid (fun h2 h3=>?_) (fun h2=>?_)
   ·exact wR (h:=by rw [hv,<- hcm,cmpT,if_neg (by rw [h1];decide),if_neg h3])
   have h3:x=y:=h2.resolve_left (by rw [h1];decide);refine zW ?_;refine Wj ⟨k+1,by omega,rfl,rfl,rfl,rfl,by omega,?_⟩ Zi Zw Zb;rw [<- hcm,cmpT,if_neg (by rw [h1];decide),if_pos h3]
  have ey:b.args.drop k=[]:=List.drop_eq_nil_of_le Zi;have hkm2:k=m:=by omega
  rw [ex,ey,cmpT,<- ex,List.length_drop] at hcm;exact wR (h:=by rw [hv,<- hcm];exact congrArg (Value.int .i64) Zi)
 have hk2:k=n:=by omega
 subst hk2;rw [List.drop_eq_nil_of_le Zi,cmpT,List.length_drop] at hcm;exact wR (h:=by rw [hv,<- hcm];exact congrArg (Value.int .i64) Zi)
end Go.Proofs.YtiligkgjcmokbaaGreatDoor
namespace Go.Proofs.YtiligkgjcmokbaaGreatDoor
end Go.Proofs.YtiligkgjcmokbaaGreatDoor
namespace Go.Proofs.YtiligkgjcmokbaaGreatDoor
variable {A B:Option Addr} {fz:FZ} {vk v1 v2 v3 v4 w1 w2 w3 v5 v6 v7 vb:Value}
theorem Yqi {n c m d:Nat} {l:List Bs} (h1:Sl strL fz A n c l) (h2:Sl strL fz B m d l):QFn prog 113 [Zc A n c,Zc B m d] fz (Zo true):=by
 have k1:=h1.len;have k2:=h2.len;have k3:=h1.short;subst k1 k2;refine qF Tryz.func113 Tryz.ntmps113 (fun w0=>?_);refine zW ?_
 (((refine zC (fun c1=>?_) (fun c1=>?_));(exact absurd rfl c1);(refine zW ?_)));refine Yi (fun q σ fz' H'=>∃ k:Nat,k<=l.length/\q=l.length - k/\σ=[(5,Zk k),(0,Zc A l.length c),(1,Zc B l.length d)]/\fz=fz'/\H'=[]) ⟨0,Z0 _,rfl,rfl,rfl,rfl⟩ Zw Zb ?_;rintro q σ fz' H' ⟨k,hk,rfl,rfl,rfl,rfl⟩;refine wC ?_ ?_<;>intro c2
 ·obtain ⟨x,hx⟩:=Ye (l:=l) (k:=k) Zi;refine wI h1 hx (fun a ha=>?_);refine zH ha (fun sx=>?_);refine wI h2 hx (fun b hb=>?_);refine zH hb (fun sy=>?_);refine zW ?_
  (((refine zC (fun e1=>?_) (fun e1=>?_));(exact absurd rfl e1);(refine zW ?_)));exact wP (h:=by exact ⟨k+1,by omega,rfl,rfl,rfl,rfl⟩)
 exact wR (h:=rfl)
theorem etexts9 {n c m d:Nat} {l:List Bs} (h1:Sl strL fz A n c l) (h2:Sl strL fz B m d l):QFn prog 173 [Zc A n c,Zc B m d] fz (Zo true):=by
 have k1:=h1.len;have k2:=h2.len;have k3:=h1.short;subst k1 k2;refine qF Tryz.func173 Tryz.ntmps173 (fun w0=>?_);refine zW ?_
 (((refine zC (fun c1=>?_) (fun c1=>?_));(exact absurd rfl c1);(refine zW ?_)));refine Yi (fun q σ fz' H'=>∃ k:Nat,k<=l.length/\q=l.length - k/\σ=[(5,Zk k),(0,Zc A l.length c),(1,Zc B l.length d)]/\fz=fz'/\H'=[]) ⟨0,Z0 _,rfl,rfl,rfl,rfl⟩ Zw Zb ?_;rintro q σ fz' H' ⟨k,hk,rfl,rfl,rfl,rfl⟩;refine wC ?_ ?_<;>intro c2
 ·obtain ⟨x,hx⟩:=Ye (l:=l) (k:=k) Zi;refine wI h1 hx (fun a ha=>?_);refine zH ha (fun sx=>?_);refine wI h2 hx (fun b hb=>?_);refine zH hb (fun sy=>?_);refine zW ?_
  (((refine zC (fun e1=>?_) (fun e1=>?_));(exact absurd rfl e1);(refine zW ?_)));exact wP (h:=by exact ⟨k+1,by omega,rfl,rfl,rfl,rfl⟩)
 exact wR (h:=rfl)
theorem Yju {n c m d:Nat} {l:List Param} (h1:Sl paramL fz A n c l) (h2:Sl paramL fz B m d l):QFn prog 41 [Zc A n c,Zc B m d] fz (Zo true):=by
 have k1:=h1.len;have k2:=h2.len;have k3:=h1.short;subst k1 k2;refine qF Tryz.func41 Tryz.ntmps41 (fun w0=>?_);refine zW ?_
 (((refine zC (fun c1=>?_) (fun c1=>?_));(exact absurd rfl c1);(refine zW ?_)));refine Yi (fun q σ fz' H'=>∃ k:Nat,k<=l.length/\q=l.length - k/\σ=[(5,Zk k),(0,Zc A l.length c),(1,Zc B l.length d)]/\fz=fz'/\H'=[]) ⟨0,Z0 _,rfl,rfl,rfl,rfl⟩ Zw Zb ?_;rintro q σ fz' H' ⟨k,hk,rfl,rfl,rfl,rfl⟩;refine wC ?_ ?_<;>intro c2
 ·obtain ⟨x,hx⟩:=Ye (l:=l) (k:=k) Zi;refine wI h1 hx (fun ha0 ha=>?_)
  ((refine zL ha ?_;intro cs1 hcs1;obtain ⟨rfl,hR1⟩:=YJ hcs1));refine wI h2 hx (fun hb0 hb=>?_)
  ((refine zL hb ?_;intro cs2 hcs2;obtain ⟨rfl,hR2⟩:=YJ hcs2));refine zW ?_
  (((refine zG ?_);refine YgN Zz Zz (fun e1=>?_) (fun e1=>?_)))
  ·exact absurd rfl e1
  exact wP (h:=by exact ⟨k+1,by omega,rfl,rfl,rfl,rfl⟩)
 exact wR (h:=rfl)
theorem Yqp:∀ (s:Nat) {fz:FZ} {a:Lx.Expr} {va vk wa wk:Value},SizeOf.sizeOf a<=s->ExprR fz a va vk->ExprR fz a wa wk->
 QFn prog 114 [.agg #[Zy a.op,Zy a.name,Zk a.n,va,vk],.agg #[Zy a.op,Zy a.name,Zk a.n,wa,wk]] fz (Zo true)
 | 0,_,e,_,_,_,_,hs,_,_=>by cases e;simp at hs
 | s+1,fz,a,va,vk,wa,wk,hs,hR1,hR2=>by
  refine GFn.quiet ?_
  ((obtain ⟨A1,n1,c1',rfl,ia1⟩:=hR1.args;obtain ⟨A2,n2,c2',rfl,ik1⟩:=hR1.kids))
  ((obtain ⟨A3,n3,c3',rfl,ia2⟩:=hR2.args;obtain ⟨A4,n4,c4',rfl,ik2⟩:=hR2.kids));have k1:=ik1.len;have k2:=ik2.len;have k3:=ik1.short;subst k1 k2;refine zF Tryz.func114 Tryz.ntmps114 (fun w0=>?_);refine pX (fun g0=>?_);refine pY (fun g1=>?_);refine zW ?_
  (((refine zC (fun e1=>?_) (fun e1=>?_));(exact absurd rfl e1);(refine zW ?_)))
  (((refine zC (fun e2=>?_) (fun e2=>?_));(exact absurd rfl e2);(refine zW ?_)))
  (((refine zC (fun e3=>?_) (fun e3=>?_));(exact absurd rfl e3);(refine zW ?_)));refine zc (Yqi ia1 ia2) ?_;refine zW ?_
  (((refine zC (fun e4=>?_) (fun e4=>?_));(exact absurd rfl e4);(refine zW ?_)));refine Yi (fun q σ fz' H'=>∃ k:Nat,k<=a.kids.length/\q=a.kids.length - k/\σ=[(5,Zk k),(3,Zp g1),(2,Zp g0)]/\fz=fz'/\H'=[(g1,Zu #[Zy a.op,Zy a.name,Zk a.n,Zc A3 n3 c3',Zc A4 a.kids.length c4'] 112),(g0,Zu #[Zy a.op,Zy a.name,Zk a.n,Zc A1 n1 c1',Zc A2 a.kids.length c2'] 112)]) ⟨0,Z0 _,rfl,rfl,rfl,rfl⟩ Zw Zb ?_;rintro q σ fz' H' ⟨k,hk,rfl,rfl,rfl,rfl⟩;refine wC ?_ ?_<;>intro c2
  ·obtain ⟨x,hx⟩:=Ye (l:=a.kids) (k:=k) Zi;have hlt:=Lx.Expr.kids_lt (Zm hx);refine wI ik1 hx (fun p hp=>?_);refine zL hp ?_;intro cs1 hcs1;obtain ⟨u1,u2,rfl,h3⟩:=YD hcs1;refine wI ik2 hx (fun p2 hp2=>?_);refine zL hp2 ?_;intro cs2 hcs2;obtain ⟨w1,w2,rfl,h4⟩:=YD hcs2;refine wG ?_;refine YF (Yqp s Zi h3 h4) ?_;exact wP (h:=by exact ⟨k+1,by omega,rfl,rfl,rfl,rfl⟩)
  exact wR (h:=rfl)
theorem eexpr {a:Lx.Expr} {va wa wk:Value} (h1:ExprR fz a va vk) (h2:ExprR fz a wa wk):
 QFn prog 114 [.agg #[Zy a.op,Zy a.name,Zk a.n,va,vk],.agg #[Zy a.op,Zy a.name,Zk a.n,wa,wk]] fz (Zo true):=Yqp _ (Zs _) h1 h2
theorem Yqo:∀ (s:Nat) {fz:FZ} {a:Formula} {v1 v2 v3 v4 w1 w2 w3 w4:Value},SizeOf.sizeOf a<=s->FormulaR fz a v1 v2 v3 v4->FormulaR fz a w1 w2 w3 w4->
 QFn prog 46 [.agg #[Zy a.op,Zy a.name,v1,v2,v3,v4],.agg #[Zy a.op,Zy a.name,w1,w2,w3,w4]] fz (Zo true)
 | 0,_,e,_,_,_,_,_,_,_,_,hs,_,_=>by cases e;simp at hs
 | s+1,fz,a,v1,v2,v3,v4,w1,w2,w3,w4,hs,hR1,hR2=>by
  refine GFn.quiet ?_
  ((obtain ⟨A1,n1,c1',rfl,ia1⟩:=hR1.args;obtain ⟨A2,n2,c2',rfl,ip1⟩:=hR1.params;obtain ⟨A3,n3,c3',rfl,ie1⟩:=hR1.exprs;obtain ⟨A4,n4,c4',rfl,ik1⟩:=hR1.kids))
  ((obtain ⟨A5,n5,c5',rfl,ia2⟩:=hR2.args;obtain ⟨A6,n6,c6',rfl,ip2⟩:=hR2.params;obtain ⟨A7,n7,c7',rfl,ie2⟩:=hR2.exprs;obtain ⟨A8,n8,c8',rfl,ik2⟩:=hR2.kids));have k1:=ie1.len;have k2:=ie2.len;have k3:=ie1.short;subst k1 k2;have k4:=ik1.len;have k5:=ik2.len;have k6:=ik1.short;subst k4 k5;refine zF Tryz.func46 Tryz.ntmps46 (fun w0=>?_);refine pX (fun g0=>?_);refine pY (fun g1=>?_);refine zW ?_
  (((refine zC (fun e1=>?_) (fun e1=>?_));(exact absurd rfl e1);(refine zW ?_)))
  (((refine zC (fun e2=>?_) (fun e2=>?_));(exact absurd rfl e2);(refine zW ?_)));refine zc (Yqi ia1 ia2) ?_;refine wc (Yju ip1 ip2) ?_;refine zW ?_
  (((refine zC (fun e4=>?_) (fun e4=>?_));(exact absurd rfl e4);(refine zW ?_)))
  (((refine zC (fun e5=>?_) (fun e5=>?_));(exact absurd rfl e5);(refine zW ?_)));refine Yi (fun q σ fz' H'=>∃ k:Nat,k<=a.exprs.length/\q=a.exprs.length - k/\σ=[(5,Zk k),(3,Zp g1),(2,Zp g0)]/\fz=fz'/\H'=[(g1,Zu #[Zy a.op,Zy a.name,Zc A5 n5 c5',Zc A6 n6 c6',Zc A7 a.exprs.length c7',Zc A8 a.kids.length c8'] 35),(g0,Zu #[Zy a.op,Zy a.name,Zc A1 n1 c1',Zc A2 n2 c2',Zc A3 a.exprs.length c3',Zc A4 a.kids.length c4'] 35)]) ⟨0,Z0 _,rfl,rfl,rfl,rfl⟩ Zw Zb ?_;rintro q σ fz' H' ⟨k,hk,rfl,rfl,rfl,rfl⟩;refine wC ?_ ?_<;>intro c2
  ·obtain ⟨x,hx⟩:=Ye (l:=a.exprs) (k:=k) Zi;refine wI ie1 hx (fun p hp=>?_);refine zL hp ?_;intro cs1 hcs1;obtain ⟨u1,u2,rfl,h3⟩:=YD hcs1;refine wI ie2 hx (fun p2 hp2=>?_);refine zL hp2 ?_;intro cs2 hcs2;obtain ⟨y1,y2,rfl,h4⟩:=YD hcs2;refine wc (eexpr h3 h4) ?_;exact wP (h:=by exact ⟨k+1,by omega,rfl,rfl,rfl,rfl⟩)
  refine zW ?_;refine Yi (fun q σ fz' H'=>∃ k:Nat,k<=a.kids.length/\q=a.kids.length - k/\σ=[(6,Zk k),(3,Zp g1),(2,Zp g0)]/\fz=fz'/\H'=[(g1,Zu #[Zy a.op,Zy a.name,Zc A5 n5 c5',Zc A6 n6 c6',Zc A7 a.exprs.length c7',Zc A8 a.kids.length c8'] 35),(g0,Zu #[Zy a.op,Zy a.name,Zc A1 n1 c1',Zc A2 n2 c2',Zc A3 a.exprs.length c3',Zc A4 a.kids.length c4'] 35)]) ⟨0,Z0 _,rfl,rfl,rfl,rfl⟩ Zw Zb ?_;rintro q σ fz' H' ⟨k,hk,rfl,rfl,rfl,rfl⟩;refine wC ?_ ?_<;>intro c3
  ·obtain ⟨x,hx⟩:=Ye (l:=a.kids) (k:=k) Zi;have hlt:=Formula.kids_lt (Zm hx);refine wI ik1 hx (fun p hp=>?_);refine zL hp ?_;intro cs1 hcs1;obtain ⟨u1,u2,u3,u4,rfl,h3⟩:=Yv hcs1;refine wI ik2 hx (fun p2 hp2=>?_);refine zL hp2 ?_;intro cs2 hcs2;obtain ⟨y1,y2,y3,y4,rfl,h4⟩:=Yv hcs2;refine wG ?_;refine YF (Yqo s Zi h3 h4) ?_;exact wP (h:=by exact ⟨k+1,by omega,rfl,rfl,rfl,rfl⟩)
  exact wR (h:=rfl)
theorem Yoe {a:Formula} {w4:Value} (h1:FormulaR fz a v1 v2 v3 v4) (h2:FormulaR fz a w1 w2 w3 w4):
 QFn prog 46 [.agg #[Zy a.op,Zy a.name,v1,v2,v3,v4],.agg #[Zy a.op,Zy a.name,w1,w2,w3,w4]] fz (Zo true):=Yqo _ (Zs _) h1 h2
theorem Yjv {n c m d:Nat} {l:List Change} (h1:Sl changeL fz A n c l) (h2:Sl changeL fz B m d l):QFn prog 111 [Zc A n c,Zc B m d] fz (Zo true):=by
 have k1:=h1.len;have k2:=h2.len;have k3:=h1.short;subst k1 k2;refine qF Tryz.func111 Tryz.ntmps111 (fun w0=>?_);refine zW ?_
 (((refine zC (fun c1=>?_) (fun c1=>?_));(exact absurd rfl c1);(refine zW ?_)));refine Yi (fun q σ fz' H'=>∃ k:Nat,k<=l.length/\q=l.length - k/\σ=[(5,Zk k),(0,Zc A l.length c),(1,Zc B l.length d)]/\fz=fz'/\H'=[]) ⟨0,Z0 _,rfl,rfl,rfl,rfl⟩ Zw Zb ?_;rintro q σ fz' H' ⟨k,hk,rfl,rfl,rfl,rfl⟩;refine wC ?_ ?_<;>intro c2
 ·obtain ⟨x,hx⟩:=Ye (l:=l) (k:=k) Zi;have hx':=hx;refine zWN ?_;refine YY (fun σ fz' H'=>∃ g6 g7 ca cb,σ=[(5,Zk k),(7,Zp g7),(6,Zp g6),(0,Zc A l.length c),(1,Zc B l.length d)]/\fz=fz'/\H'=[(g7,Zu (List.toArray cb) 114),(g6,Zu (List.toArray ca) 114)]/\changeL.rep fz x ca/\changeL.rep fz x cb) ?_ ?_
  ·refine WP [] [] ?_;refine wI h1 hx (fun p1 hp1=>?_);refine zL hp1 ?_;intro cs1 hr1;have hr1':=hr1;obtain ⟨au1,au2,au3,au4,au5,au6,au7,au8,rfl,ahC⟩:=Y8 hr1;have ahW:=ahC.when_;have ahV:=ahC.value;obtain ⟨aC1,ao1,aq1,rfl,ai1⟩:=ahC.params;obtain ⟨⟨aC2,ao2,aq2,rfl,ai2⟩,⟨aC3,ao3,aq3,rfl,ai3⟩,⟨aC4,ao4,aq4,rfl,ai4⟩,⟨aC5,ao5,aq5,rfl,ai5⟩⟩:=ahC.when_.sls;obtain ⟨aC6,ao6,aq6,rfl,ai6⟩:=ahC.args;obtain ⟨⟨aC7,ao7,aq7,rfl,ai7⟩,⟨aC8,ao8,aq8,rfl,ai8⟩⟩:=ahC.value.sls;refine wI h2 hx (fun p2 hp2=>?_);refine zL hp2 ?_;intro cs2 hr2;have hr2':=hr2;obtain ⟨bu1,bu2,bu3,bu4,bu5,bu6,bu7,bu8,rfl,bhC⟩:=Y8 hr2;have bhW:=bhC.when_;have bhV:=bhC.value;obtain ⟨bC1,bo1,bq1,rfl,bi1⟩:=bhC.params;obtain ⟨⟨bC2,bo2,bq2,rfl,bi2⟩,⟨bC3,bo3,bq3,rfl,bi3⟩,⟨bC4,bo4,bq4,rfl,bi4⟩,⟨bC5,bo5,bq5,rfl,bi5⟩⟩:=bhC.when_.sls;obtain ⟨bC6,bo6,bq6,rfl,bi6⟩:=bhC.args;obtain ⟨⟨bC7,bo7,bq7,rfl,bi7⟩,⟨bC8,bo8,bq8,rfl,bi8⟩⟩:=bhC.value.sls;refine zW ?_;refine pT ?_;refine XD ?_ ?_
   ·refine Yd (Y7 (fun g6=>⟨⟨Zd,by intro p hp;cases hp⟩,?_⟩));refine Yh ?_;refine Yd (Y7 (fun g7=>⟨⟨Zd,by intro p hp;cases hp⟩,?_⟩));refine Yh ?_;refine Yas (Y9 ⟨⟨Zd,by intro p hp;cases hp⟩,?_⟩);refine Yh ?_;refine Yas (YG ⟨⟨Zd,by intro p hp;cases hp⟩,?_⟩);refine Po.done ?_;exact wN (h:=by exact ⟨g6,g7,_,_,rfl,rfl,rfl,hr1',hr2'⟩)
   refine Yd (Y7 (fun g7=>⟨⟨Zd,by intro p hp;cases hp⟩,?_⟩));refine Yh ?_;refine Yd (Y7 (fun g6=>⟨⟨Zd,by intro p hp;cases hp⟩,?_⟩));refine Yh ?_;refine Yas (YG ⟨⟨Zd,by intro p hp;cases hp⟩,?_⟩);refine Yh ?_;refine Yas (Y9 ⟨⟨Zd,by intro p hp;cases hp⟩,?_⟩);refine Po.done ?_;refine zW ?_;exact midP (H1:=[(g7,_),(g6,_)]) (List.Perm.swap _ _ _) ⟨g6,g7,_,_,rfl,rfl,rfl,hr1',hr2'⟩ Zw Zb
  rintro σ fz' H' ⟨g6,g7,ca,cb,rfl,rfl,rfl,hr1,hr2⟩;obtain ⟨au1,au2,au3,au4,au5,au6,au7,au8,rfl,ahC⟩:=Y8 hr1;have ahW:=ahC.when_;have ahV:=ahC.value;obtain ⟨aC1,ao1,aq1,rfl,ai1⟩:=ahC.params;obtain ⟨⟨aC2,ao2,aq2,rfl,ai2⟩,⟨aC3,ao3,aq3,rfl,ai3⟩,⟨aC4,ao4,aq4,rfl,ai4⟩,⟨aC5,ao5,aq5,rfl,ai5⟩⟩:=ahC.when_.sls;obtain ⟨aC6,ao6,aq6,rfl,ai6⟩:=ahC.args;obtain ⟨⟨aC7,ao7,aq7,rfl,ai7⟩,⟨aC8,ao8,aq8,rfl,ai8⟩⟩:=ahC.value.sls;obtain ⟨bu1,bu2,bu3,bu4,bu5,bu6,bu7,bu8,rfl,bhC⟩:=Y8 hr2;have bhW:=bhC.when_;have bhV:=bhC.value;obtain ⟨bC1,bo1,bq1,rfl,bi1⟩:=bhC.params;obtain ⟨⟨bC2,bo2,bq2,rfl,bi2⟩,⟨bC3,bo3,bq3,rfl,bi3⟩,⟨bC4,bo4,bq4,rfl,bi4⟩,⟨bC5,bo5,bq5,rfl,bi5⟩⟩:=bhC.when_.sls;obtain ⟨bC6,bo6,bq6,rfl,bi6⟩:=bhC.args;obtain ⟨⟨bC7,bo7,bq7,rfl,bi7⟩,⟨bC8,bo8,bq8,rfl,bi8⟩⟩:=bhC.value.sls;refine zW ?_
  (((refine zC (fun e1=>?_) (fun e1=>?_));(exact absurd rfl e1);(refine zW ?_)))
  (((refine zC (fun e2=>?_) (fun e2=>?_));(exact absurd rfl e2);(refine zW ?_)));refine zc (etexts9 ai6 bi6) ?_;refine wc (Yju ai1 bi1) ?_;refine wG ?_;refine Yc (vs:=[Zy x.when_.op,Zy x.when_.name,Zc aC2 ao2 aq2,Zc aC3 ao3 aq3,Zc aC4 ao4 aq4,Zc aC5 ao5 aq5]) 1 ?_;refine wG ?_;refine Yc (vs:=[Zy x.when_.op,Zy x.when_.name,Zc bC2 bo2 bq2,Zc bC3 bo3 bq3,Zc bC4 bo4 bq4,Zc bC5 bo5 bq5]) 0 ?_;refine zc (Yoe ahW bhW) ?_;refine wG ?_;refine Yc (vs:=[Zy x.value.op,Zy x.value.name,Zk x.value.n,Zc aC7 ao7 aq7,Zc aC8 ao8 aq8]) 1 ?_;refine wG ?_;refine Yc (vs:=[Zy x.value.op,Zy x.value.name,Zk x.value.n,Zc bC7 bo7 bq7,Zc bC8 bo8 bq8]) 0 ?_;refine zc (eexpr ahV bhV) ?_;exact wP (h:=by exact ⟨k+1,by omega,rfl,rfl,rfl,rfl⟩)
 exact wR (h:=rfl)
theorem eaction {x:Action} {w4 w5 w6:Value} (h1:ActionR fz x v1 v2 v3 v4 v5 v6) (h2:ActionR fz x w1 w2 w3 w4 w5 w6):
 QFn prog 42 [.agg #[Zy x.name,v1,Zk x.cost,Zy x.pre.op,Zy x.pre.name,v2,v3,v4,v5,v6],.agg #[Zy x.name,w1,Zk x.cost,Zy x.pre.op,Zy x.pre.name,w2,w3,w4,w5,w6]] fz (Zo true):=by
 have p1:=h1.pre;have p2:=h2.pre;refine GFn.quiet ?_;obtain ⟨aC0,ao0,aq0,rfl,ai0⟩:=h1.params;obtain ⟨⟨aC1,ao1,aq1,rfl,ai1⟩,⟨aC2,ao2,aq2,rfl,ai2⟩,⟨aC3,ao3,aq3,rfl,ai3⟩,⟨aC4,ao4,aq4,rfl,ai4⟩⟩:=h1.pre.sls;obtain ⟨aC5,ao5,aq5,rfl,ai5⟩:=h1.changes;obtain ⟨bC0,bo0,bq0,rfl,bi0⟩:=h2.params;obtain ⟨⟨bC1,bo1,bq1,rfl,bi1⟩,⟨bC2,bo2,bq2,rfl,bi2⟩,⟨bC3,bo3,bq3,rfl,bi3⟩,⟨bC4,bo4,bq4,rfl,bi4⟩⟩:=h2.pre.sls;obtain ⟨bC5,bo5,bq5,rfl,bi5⟩:=h2.changes;refine zF Tryz.func42 Tryz.ntmps42 (fun w0=>?_);refine pX (fun g0=>?_);refine pY (fun g1=>?_);refine zW ?_
 (((refine zC (fun e1=>?_) (fun e1=>?_));rotate_left 1;(exact absurd rfl e1);(refine zW ?_)))
 (((refine zC (fun e2=>?_) (fun e2=>?_));rotate_left 1;(exact absurd rfl e2);(refine zW ?_)));refine zc (Yju ai0 bi0) ?_;refine wG ?_;refine Yc (vs:=[Zy x.pre.op,Zy x.pre.name,Zc aC1 ao1 aq1,Zc aC2 ao2 aq2,Zc aC3 ao3 aq3,Zc aC4 ao4 aq4]) 1 ?_;refine wG ?_;refine Yc (vs:=[Zy x.pre.op,Zy x.pre.name,Zc bC1 bo1 bq1,Zc bC2 bo2 bq2,Zc bC3 bo3 bq3,Zc bC4 bo4 bq4]) 0 ?_;refine zc (Yoe p1 p2) ?_;refine wc (Yjv ai5 bi5) ?_;exact wR (h:=rfl)
theorem Yqq {x:Durative} {v8 v9 v10 v11 v12 v13 v14 v15 w4 w5 w6 w7 w8 w9 w10 w11 w12 w13 w14 w15:Value} (h1:DurativeR fz x v1 v2 v3 v4 v5 v6 v7 v8 v9 v10 v11 v12 v13 v14 v15) (h2:DurativeR fz x w1 w2 w3 w4 w5 w6 w7 w8 w9 w10 w11 w12 w13 w14 w15):
 QFn prog 43 [.agg #[Zy x.name,v1,Zk x.duration,Zy x.start.op,Zy x.start.name,v2,v3,v4,v5,Zy x.over.op,Zy x.over.name,v6,v7,v8,v9,Zy x.fin.op,Zy x.fin.name,v10,v11,v12,v13,v14,v15],.agg #[Zy x.name,w1,Zk x.duration,Zy x.start.op,Zy x.start.name,w2,w3,w4,w5,Zy x.over.op,Zy x.over.name,w6,w7,w8,w9,Zy x.fin.op,Zy x.fin.name,w10,w11,w12,w13,w14,w15]] fz (Zo true):=by
 have p1:=h1.start;have p2:=h2.start;have p3:=h1.over;have p4:=h2.over;have p5:=h1.fin;have p6:=h2.fin;refine GFn.quiet ?_;obtain ⟨aC0,ao0,aq0,rfl,ai0⟩:=h1.params;obtain ⟨⟨aC1,ao1,aq1,rfl,ai1⟩,⟨aC2,ao2,aq2,rfl,ai2⟩,⟨aC3,ao3,aq3,rfl,ai3⟩,⟨aC4,ao4,aq4,rfl,ai4⟩⟩:=h1.start.sls;obtain ⟨⟨aC5,ao5,aq5,rfl,ai5⟩,⟨aC6,ao6,aq6,rfl,ai6⟩,⟨aC7,ao7,aq7,rfl,ai7⟩,⟨aC8,ao8,aq8,rfl,ai8⟩⟩:=h1.over.sls;obtain ⟨⟨aC9,ao9,aq9,rfl,ai9⟩,⟨aC10,ao10,aq10,rfl,ai10⟩,⟨aC11,ao11,aq11,rfl,ai11⟩,⟨aC12,ao12,aq12,rfl,ai12⟩⟩:=h1.fin.sls;obtain ⟨aC13,ao13,aq13,rfl,ai13⟩:=h1.atStart;obtain ⟨aC14,ao14,aq14,rfl,ai14⟩:=h1.atEnd;obtain ⟨bC0,bo0,bq0,rfl,bi0⟩:=h2.params;obtain ⟨⟨bC1,bo1,bq1,rfl,bi1⟩,⟨bC2,bo2,bq2,rfl,bi2⟩,⟨bC3,bo3,bq3,rfl,bi3⟩,⟨bC4,bo4,bq4,rfl,bi4⟩⟩:=h2.start.sls;obtain ⟨⟨bC5,bo5,bq5,rfl,bi5⟩,⟨bC6,bo6,bq6,rfl,bi6⟩,⟨bC7,bo7,bq7,rfl,bi7⟩,⟨bC8,bo8,bq8,rfl,bi8⟩⟩:=h2.over.sls;obtain ⟨⟨bC9,bo9,bq9,rfl,bi9⟩,⟨bC10,bo10,bq10,rfl,bi10⟩,⟨bC11,bo11,bq11,rfl,bi11⟩,⟨bC12,bo12,bq12,rfl,bi12⟩⟩:=h2.fin.sls;obtain ⟨bC13,bo13,bq13,rfl,bi13⟩:=h2.atStart;obtain ⟨bC14,bo14,bq14,rfl,bi14⟩:=h2.atEnd;refine zF Tryz.func43 Tryz.ntmps43 (fun w0=>?_);refine pX (fun g0=>?_);refine pY (fun g1=>?_);refine zW ?_
 (((refine zC (fun e1=>?_) (fun e1=>?_));(exact absurd rfl e1);(refine zW ?_)))
 (((refine zC (fun e2=>?_) (fun e2=>?_));(exact absurd rfl e2);(refine zW ?_)));refine zc (Yju ai0 bi0) ?_;refine wc (Yjv ai13 bi13) ?_;refine wc (Yjv ai14 bi14) ?_;refine wG ?_;refine Yc (vs:=[Zy x.start.op,Zy x.start.name,Zc aC1 ao1 aq1,Zc aC2 ao2 aq2,Zc aC3 ao3 aq3,Zc aC4 ao4 aq4]) 1 ?_;refine wG ?_;refine Yc (vs:=[Zy x.start.op,Zy x.start.name,Zc bC1 bo1 bq1,Zc bC2 bo2 bq2,Zc bC3 bo3 bq3,Zc bC4 bo4 bq4]) 0 ?_;refine zc (Yoe p1 p2) ?_;refine wG ?_;refine Yc (vs:=[Zy x.over.op,Zy x.over.name,Zc aC5 ao5 aq5,Zc aC6 ao6 aq6,Zc aC7 ao7 aq7,Zc aC8 ao8 aq8]) 1 ?_;refine wG ?_;refine Yc (vs:=[Zy x.over.op,Zy x.over.name,Zc bC5 bo5 bq5,Zc bC6 bo6 bq6,Zc bC7 bo7 bq7,Zc bC8 bo8 bq8]) 0 ?_;refine zc (Yoe p3 p4) ?_;refine wG ?_;refine Yc (vs:=[Zy x.fin.op,Zy x.fin.name,Zc aC9 ao9 aq9,Zc aC10 ao10 aq10,Zc aC11 ao11 aq11,Zc aC12 ao12 aq12]) 1 ?_;refine wG ?_;refine Yc (vs:=[Zy x.fin.op,Zy x.fin.name,Zc bC9 bo9 bq9,Zc bC10 bo10 bq10,Zc bC11 bo11 bq11,Zc bC12 bo12 bq12]) 0 ?_;refine zc (Yoe p5 p6) ?_;exact wR (h:=rfl)
theorem edomain {x:Domain} {w4 w5 w6:Value} (h1:DomainR fz x v1 v2 v3 v4 v5 v6) (h2:DomainR fz x w1 w2 w3 w4 w5 w6):
 QFn prog 10 [ZD x v1 v2 v3 v4 v5 v6,ZD x w1 w2 w3 w4 w5 w6] fz (Zo true):=by
 refine GFn.quiet ?_;obtain ⟨⟨aC0,ao0,aq0,rfl,ai0⟩,⟨aC1,ao1,aq1,rfl,ai1⟩,⟨aC2,ao2,aq2,rfl,ai2⟩,⟨aC3,ao3,aq3,rfl,ai3⟩,⟨aC4,ao4,aq4,rfl,ai4⟩,⟨aC5,ao5,aq5,rfl,ai5⟩⟩:=h1.sls;obtain ⟨⟨bC0,bo0,bq0,rfl,bi0⟩,⟨bC1,bo1,bq1,rfl,bi1⟩,⟨bC2,bo2,bq2,rfl,bi2⟩,⟨bC3,bo3,bq3,rfl,bi3⟩,⟨bC4,bo4,bq4,rfl,bi4⟩,⟨bC5,bo5,bq5,rfl,bi5⟩⟩:=h2.sls;have ka2:=ai2.len;have kb2:=bi2.len;have ks2:=ai2.short;subst ka2 kb2;have ka3:=ai3.len;have kb3:=bi3.len;have ks3:=ai3.short;subst ka3 kb3;have ka4:=ai4.len;have kb4:=bi4.len;have ks4:=ai4.short;subst ka4 kb4;have ka5:=ai5.len;have kb5:=bi5.len;have ks5:=ai5.short;subst ka5 kb5;refine zF Tryz.func10 Tryz.ntmps10 (fun w0=>?_);refine pX (fun g0=>?_);refine pY (fun g1=>?_);refine zW ?_
 (((refine zC (fun e1=>?_) (fun e1=>?_));(exact absurd rfl e1);(refine zW ?_)));refine zc (Yju ai0 bi0) ?_;refine wc (Yju ai1 bi1) ?_;refine zW ?_
 (((refine zC (fun e2=>?_) (fun e2=>?_));(exact absurd rfl e2);(refine zW ?_)))
 (((refine zC (fun e3=>?_) (fun e3=>?_));(exact absurd rfl e3);(refine zW ?_)))
 (((refine zC (fun e4=>?_) (fun e4=>?_));(exact absurd rfl e4);(refine zW ?_)))
 (((refine zC (fun e5=>?_) (fun e5=>?_));(exact absurd rfl e5);(refine zW ?_)));refine Yi (fun q σ fz' H'=>∃ k:Nat,k<=x.predicates.length/\q=x.predicates.length - k/\σ=[(5,Zk k),(3,Zp g1),(2,Zp g0)]/\fz=fz'/\H'=[(g1,Zu #[Zy x.name,Zc bC0 bo0 bq0,Zc bC1 bo1 bq1,Zc bC2 x.predicates.length bq2,Zc bC3 x.functions.length bq3,Zc bC4 x.actions.length bq4,Zc bC5 x.duratives.length bq5] 28),(g0,Zu #[Zy x.name,Zc aC0 ao0 aq0,Zc aC1 ao1 aq1,Zc aC2 x.predicates.length aq2,Zc aC3 x.functions.length aq3,Zc aC4 x.actions.length aq4,Zc aC5 x.duratives.length aq5] 28)]) ⟨0,Z0 _,rfl,rfl,rfl,rfl⟩ Zw Zb ?_;rintro q σ fz' H' ⟨k,hk,rfl,rfl,rfl,rfl⟩;refine wC ?_ ?_<;>intro c2
 ·obtain ⟨y,hy⟩:=Ye (l:=x.predicates) (k:=k) Zi;refine wI ai2 hy (fun p1 hp1=>?_);refine wH hp1.Predicate_name (fun s1=>?_);refine wI bi2 hy (fun p2 hp2=>?_);refine wH hp2.Predicate_name (fun s2=>?_);refine zW ?_
  (((refine zC (fun n1=>?_) (fun n1=>?_));(exact absurd rfl n1);(refine zW ?_)));refine zI ai2 hy (fun p3 hp3=>?_);refine wG ?_;refine YbX hp3.Predicate_params (fun P1 m1 z1 j1=>?_);refine wI bi2 hy (fun p4 hp4=>?_);refine wG ?_;refine YbX hp4.Predicate_params (fun P2 m2 z2 j2=>?_);refine zc (Yju j1 j2) ?_;exact wP (h:=by exact ⟨k+1,by omega,rfl,rfl,rfl,rfl⟩)
 refine zW ?_;refine Yi (fun q σ fz' H'=>∃ k:Nat,k<=x.functions.length/\q=x.functions.length - k/\σ=[(6,Zk k),(3,Zp g1),(2,Zp g0)]/\fz=fz'/\H'=[(g1,Zu #[Zy x.name,Zc bC0 bo0 bq0,Zc bC1 bo1 bq1,Zc bC2 x.predicates.length bq2,Zc bC3 x.functions.length bq3,Zc bC4 x.actions.length bq4,Zc bC5 x.duratives.length bq5] 28),(g0,Zu #[Zy x.name,Zc aC0 ao0 aq0,Zc aC1 ao1 aq1,Zc aC2 x.predicates.length aq2,Zc aC3 x.functions.length aq3,Zc aC4 x.actions.length aq4,Zc aC5 x.duratives.length aq5] 28)]) ⟨0,Z0 _,rfl,rfl,rfl,rfl⟩ Zw Zb ?_;rintro q σ fz' H' ⟨k,hk,rfl,rfl,rfl,rfl⟩;refine wC ?_ ?_<;>intro c2
 ·obtain ⟨y,hy⟩:=Ye (l:=x.functions) (k:=k) Zi;refine zWN ?_;refine YY (fun σ fz' H'=>∃ g6 g7 ca cb,σ=[(6,Zk k),(8,Zp g7),(7,Zp g6),(3,Zp g1),(2,Zp g0)]/\fz=fz'/\H'=(g7,Zu (List.toArray cb) 63)::(g6,Zu (List.toArray ca) 63):: [(g1,Zu #[Zy x.name,Zc bC0 bo0 bq0,Zc bC1 bo1 bq1,Zc bC2 x.predicates.length bq2,Zc bC3 x.functions.length bq3,Zc bC4 x.actions.length bq4,Zc bC5 x.duratives.length bq5] 28),(g0,Zu #[Zy x.name,Zc aC0 ao0 aq0,Zc aC1 ao1 aq1,Zc aC2 x.predicates.length aq2,Zc aC3 x.functions.length aq3,Zc aC4 x.actions.length aq4,Zc aC5 x.duratives.length aq5] 28)]/\functionL.rep fz y ca/\functionL.rep fz y cb) ?_ ?_
  ·refine WP [] [_,_] ?_;refine wI ai3 hy (fun p1 hp1=>?_);refine zL hp1 ?_;intro cs1 hr1;have hr1':=hr1;obtain ⟨x1,rfl,hY1⟩:=YW hr1;obtain ⟨F1,f1,y1,rfl,_⟩:=hY1.params;refine wI bi3 hy (fun p2 hp2=>?_);refine zL hp2 ?_;intro cs2 hr2;have hr2':=hr2;obtain ⟨x2,rfl,hY2⟩:=YW hr2;obtain ⟨F2,f2,y2,rfl,_⟩:=hY2.params;refine zW ?_;refine pT ?_;refine XD ?_ ?_
   ·refine Yd (Y7 (fun g6=>⟨⟨Zd,Zx⟩,?_⟩));refine Yh ?_;refine Yd (Y7 (fun g7=>⟨⟨Zd,Zx⟩,?_⟩));refine Yh ?_;refine Yas (Y9 ⟨⟨Zd,Zx⟩,?_⟩);refine Yh ?_;refine Yas (YG ⟨⟨Zd,Zx⟩,?_⟩);refine Po.done ?_;exact wN (h:=by exact ⟨g6,g7,_,_,rfl,rfl,rfl,hr1',hr2'⟩)
   refine Yd (Y7 (fun g7=>⟨⟨Zd,Zx⟩,?_⟩));refine Yh ?_;refine Yd (Y7 (fun g6=>⟨⟨Zd,Zx⟩,?_⟩));refine Yh ?_;refine Yas (YG ⟨⟨Zd,Zx⟩,?_⟩);refine Yh ?_;refine Yas (Y9 ⟨⟨Zd,Zx⟩,?_⟩);refine Po.done ?_;refine zW ?_;exact midP (H1:=(g7,_)::(g6,_):: [_,_]) (List.Perm.swap _ _ _) ⟨g6,g7,_,_,rfl,rfl,rfl,hr1',hr2'⟩ Zw Zb
  rintro σ fz' H' ⟨g6,g7,ca,cb,rfl,rfl,rfl,hr1,hr2⟩;obtain ⟨x1,rfl,hY1⟩:=YW hr1;obtain ⟨F1,f1,y1,rfl,j1⟩:=hY1.params;obtain ⟨x2,rfl,hY2⟩:=YW hr2;obtain ⟨F2,f2,y2,rfl,j2⟩:=hY2.params;refine zW ?_
  (((refine zC (fun n1=>?_) (fun n1=>?_));(exact absurd rfl n1);(refine zW ?_)))
  (((refine zC (fun n2=>?_) (fun n2=>?_));(exact absurd rfl n2);(refine zW ?_)))
  (((refine zC (fun n3=>?_) (fun n3=>?_));(exact absurd rfl n3);(refine zW ?_)));refine zc (Yju j1 j2) ?_;exact wP (h:=by exact ⟨k+1,by omega,rfl,rfl,rfl,rfl⟩)
 refine zW ?_;refine Yi (fun q σ fz' H'=>∃ k:Nat,k<=x.actions.length/\q=x.actions.length - k/\σ=[(9,Zk k),(3,Zp g1),(2,Zp g0)]/\fz=fz'/\H'=[(g1,Zu #[Zy x.name,Zc bC0 bo0 bq0,Zc bC1 bo1 bq1,Zc bC2 x.predicates.length bq2,Zc bC3 x.functions.length bq3,Zc bC4 x.actions.length bq4,Zc bC5 x.duratives.length bq5] 28),(g0,Zu #[Zy x.name,Zc aC0 ao0 aq0,Zc aC1 ao1 aq1,Zc aC2 x.predicates.length aq2,Zc aC3 x.functions.length aq3,Zc aC4 x.actions.length aq4,Zc aC5 x.duratives.length aq5] 28)]) ⟨0,Z0 _,rfl,rfl,rfl,rfl⟩ Zw Zb ?_;rintro q σ fz' H' ⟨k,hk,rfl,rfl,rfl,rfl⟩;refine wC ?_ ?_<;>intro c2
 ·obtain ⟨y,hy⟩:=Ye (l:=x.actions) (k:=k) Zi;refine wI ai4 hy (fun p1 hp1=>?_);refine zL hp1 ?_;intro cs1 hr1;obtain ⟨y1,y2,y3,y4,y5,y6,rfl,hY1⟩:=Xh hr1;refine wI bi4 hy (fun p2 hp2=>?_);refine zL hp2 ?_;intro cs2 hr2;obtain ⟨z1,z2,z3,z4,z5,z6,rfl,hY2⟩:=Xh hr2;refine wc (eaction hY1 hY2) ?_;exact wP (h:=by exact ⟨k+1,by omega,rfl,rfl,rfl,rfl⟩)
 refine zW ?_;refine Yi (fun q σ fz' H'=>∃ k:Nat,k<=x.duratives.length/\q=x.duratives.length - k/\σ=[(10,Zk k),(3,Zp g1),(2,Zp g0)]/\fz=fz'/\H'=[(g1,Zu #[Zy x.name,Zc bC0 bo0 bq0,Zc bC1 bo1 bq1,Zc bC2 x.predicates.length bq2,Zc bC3 x.functions.length bq3,Zc bC4 x.actions.length bq4,Zc bC5 x.duratives.length bq5] 28),(g0,Zu #[Zy x.name,Zc aC0 ao0 aq0,Zc aC1 ao1 aq1,Zc aC2 x.predicates.length aq2,Zc aC3 x.functions.length aq3,Zc aC4 x.actions.length aq4,Zc aC5 x.duratives.length aq5] 28)]) ⟨0,Z0 _,rfl,rfl,rfl,rfl⟩ Zw Zb ?_;rintro q σ fz' H' ⟨k,hk,rfl,rfl,rfl,rfl⟩;refine wC ?_ ?_<;>intro c2
 ·obtain ⟨y,hy⟩:=Ye (l:=x.duratives) (k:=k) Zi;refine wI ai5 hy (fun p1 hp1=>?_);refine zL hp1 ?_;intro cs1 hr1;obtain ⟨y1,y2,y3,y4,y5,y6,y7,y8,y9,y10,y11,y12,y13,y14,y15,rfl,hY1⟩:=YZ hr1;refine wI bi5 hy (fun p2 hp2=>?_);refine zL hp2 ?_;intro cs2 hr2;obtain ⟨z1,z2,z3,z4,z5,z6,z7,z8,z9,z10,z11,z12,z13,z14,z15,rfl,hY2⟩:=YZ hr2;refine wc (Yqq hY1 hY2) ?_;exact wP (h:=by exact ⟨k+1,by omega,rfl,rfl,rfl,rfl⟩)
 exact wR (h:=rfl)
theorem ecmp {a:Atom} {va:Value} (ha:AtomR fz a va) (hb:AtomR fz a vb):QFn prog 112 [.agg #[Zy a.name,va],.agg #[Zy a.name,vb]] fz (Zk 0):=by
 have:=rcmp_q ha hb;rw [(YqD a a).2 rfl] at this;exact this
theorem eatoms {n c m d:Nat} {l:List Atom} (h1:Sl atomL fz A n c l) (h2:Sl atomL fz B m d l):QFn prog 44 [Zc A n c,Zc B m d] fz (Zo true):=by
 have k1:=h1.len;have k2:=h2.len;have k3:=h1.short;subst k1 k2;refine qF Tryz.func44 Tryz.ntmps44 (fun w0=>?_);refine zW ?_
 (((refine zC (fun c1=>?_) (fun c1=>?_));(exact absurd rfl c1);(refine zW ?_)));refine Yi (fun q σ fz' H'=>∃ k:Nat,k<=l.length/\q=l.length - k/\σ=[(5,Zk k),(0,Zc A l.length c),(1,Zc B l.length d)]/\fz=fz'/\H'=[]) ⟨0,Z0 _,rfl,rfl,rfl,rfl⟩ Zw Zb ?_;rintro q σ fz' H' ⟨k,hk,rfl,rfl,rfl,rfl⟩;refine wC ?_ ?_<;>intro c2
 ·obtain ⟨x,hx⟩:=Ye (l:=l) (k:=k) Zi;refine wI h1 hx (fun p1 hp1=>?_);refine zL hp1 ?_;intro cs1 hr1;obtain ⟨v1,rfl,hY1⟩:=XA hr1;refine wI h2 hx (fun p2 hp2=>?_);refine zL hp2 ?_;intro cs2 hr2;obtain ⟨v2,rfl,hY2⟩:=XA hr2;refine wc (ecmp hY1 hY2) ?_;refine zW ?_
  (((refine zC (fun n1=>?_) (fun n1=>?_));(exact absurd rfl n1);(refine zW ?_)));exact wP (h:=by exact ⟨k+1,by omega,rfl,rfl,rfl,rfl⟩)
 exact wR (h:=rfl)
theorem evalues {n c m d:Nat} {l:List Value_} (h1:Sl valueL fz A n c l) (h2:Sl valueL fz B m d l):QFn prog 45 [Zc A n c,Zc B m d] fz (Zo true):=by
 have k1:=h1.len;have k2:=h2.len;have k3:=h1.short;subst k1 k2;refine qF Tryz.func45 Tryz.ntmps45 (fun w0=>?_);refine zW ?_
 (((refine zC (fun c1=>?_) (fun c1=>?_));(exact absurd rfl c1);(refine zW ?_)));refine Yi (fun q σ fz' H'=>∃ k:Nat,k<=l.length/\q=l.length - k/\σ=[(5,Zk k),(0,Zc A l.length c),(1,Zc B l.length d)]/\fz=fz'/\H'=[]) ⟨0,Z0 _,rfl,rfl,rfl,rfl⟩ Zw Zb ?_;rintro q σ fz' H' ⟨k,hk,rfl,rfl,rfl,rfl⟩;refine wC ?_ ?_<;>intro c2
 ·obtain ⟨x,hx⟩:=Ye (l:=l) (k:=k) Zi;refine wI h1 hx (fun p1 hp1=>?_);refine wG ?_;refine Xz T Zz Zz Zz hp1.Value__n (fun i1=>?_);refine wI h2 hx (fun p2 hp2=>?_);refine wG ?_;refine Xz T Zz Zz Zz hp2.Value__n (fun i2=>?_);refine zW ?_
  (((refine zC (fun n1=>?_) (fun n1=>?_));(exact absurd rfl n1);(refine zW ?_)));refine zI h1 hx (fun p3 hp3=>?_);refine wL hp3.Value__fluent ?_;intro cs1 hr1;obtain ⟨v1,rfl,hY1⟩:=XA hr1;refine wI h2 hx (fun p4 hp4=>?_);refine wL hp4.Value__fluent ?_;intro cs2 hr2;obtain ⟨v2,rfl,hY2⟩:=XA hr2;refine wc (ecmp hY1 hY2) ?_;refine zW ?_
  (((refine zC (fun n2=>?_) (fun n2=>?_));(exact absurd rfl n2);(refine zW ?_)));exact wP (h:=by exact ⟨k+1,by omega,rfl,rfl,rfl,rfl⟩)
 exact wR (h:=rfl)
theorem eproblem {x:Problem} {w4 w5 w6 w7:Value} (h1:ProblemR fz x v1 v2 v3 v4 v5 v6 v7) (h2:ProblemR fz x w1 w2 w3 w4 w5 w6 w7):
 QFn prog 11 [ZP x v1 v2 v3 v4 v5 v6 v7,ZP x w1 w2 w3 w4 w5 w6 w7] fz (Zo true):=by
 have p1:=h1.goal;have p2:=h2.goal;refine GFn.quiet ?_;obtain ⟨⟨aC0,ao0,aq0,rfl,ai0⟩,⟨aC1,ao1,aq1,rfl,ai1⟩,⟨aC2,ao2,aq2,rfl,ai2⟩⟩:=h1.sls;obtain ⟨⟨aC3,ao3,aq3,rfl,ai3⟩,⟨aC4,ao4,aq4,rfl,ai4⟩,⟨aC5,ao5,aq5,rfl,ai5⟩,⟨aC6,ao6,aq6,rfl,ai6⟩⟩:=h1.goal.sls;obtain ⟨⟨bC0,bo0,bq0,rfl,bi0⟩,⟨bC1,bo1,bq1,rfl,bi1⟩,⟨bC2,bo2,bq2,rfl,bi2⟩⟩:=h2.sls;obtain ⟨⟨bC3,bo3,bq3,rfl,bi3⟩,⟨bC4,bo4,bq4,rfl,bi4⟩,⟨bC5,bo5,bq5,rfl,bi5⟩,⟨bC6,bo6,bq6,rfl,bi6⟩⟩:=h2.goal.sls;refine zF Tryz.func11 Tryz.ntmps11 (fun w0=>?_);refine pX (fun g0=>?_);refine pY (fun g1=>?_);refine zW ?_
 (((refine zC (fun e1=>?_) (fun e1=>?_));rotate_left 1;(exact absurd rfl e1);(refine zW ?_)))
 (((refine zC (fun e2=>?_) (fun e2=>?_));rotate_left 1;(exact absurd rfl e2);(refine zW ?_)));refine zc (Yju ai0 bi0) ?_;refine wc (eatoms ai1 bi1) ?_;refine wc (evalues ai2 bi2) ?_;refine wG ?_;refine Yc (vs:=[Zy x.goal.op,Zy x.goal.name,Zc aC3 ao3 aq3,Zc aC4 ao4 aq4,Zc aC5 ao5 aq5,Zc aC6 ao6 aq6]) 1 ?_;refine wG ?_;refine Yc (vs:=[Zy x.goal.op,Zy x.goal.name,Zc bC3 bo3 bq3,Zc bC4 bo4 bq4,Zc bC5 bo5 bq5,Zc bC6 bo6 bq6]) 0 ?_;refine zc (Yoe p1 p2) ?_;exact wR (h:=rfl)
end Go.Proofs.YtiligkgjcmokbaaGreatDoor
