/- The texts PSize, PLines, PLawD, PWalkQ, PWalkR, PWalkS, PWalkT, laid together. Conditions: none. -/
import Derived.Test.YtbhlgkibgajajaaGreatDoorQPF
import Derived.Test.YtbhlgkibgajajaaGreatDoorQPG
import Derived.Test.YtbhlgkibgajajaaGreatDoorQPI
import Derived.Test.YtbhlgkibgajajaaGreatDoorQPB
import Derived.Test.YtbhlgkibgajajaaGreatDoorQPC
import Derived.Test.YtbhlgkibgajajaaGreatDoorQPD
import Derived.Test.YtbhlgkibgajajaaGreatDoorQPE
import Derived.Test.YtbhlgkibgajajaaGreatDoorQPH
import Derived.Test.YtbhlgkibgajajaaGreatDoorQPJ
import Derived.Test.YtbhlgkibgajajaaGreatDoorQPM
import Derived.Test.YtbhlgkibgajajaaGreatDoorQPL
import Derived.Test.YtbhlgkibgajajaaGreatDoorQPK
set_option maxRecDepth 20000
namespace Go.Proofs.YtbhlgkibgajajaaGreatDoor
open Go.Lx Go.RowKit
attribute [local instance 10] Classical.propDecidable
theorem YeX {α:Type} {w:α→Nat} {l:List α} {k:Nat}:((l.take k).map w).sum≤(l.map w).sum:=by
 conv=>rhs;rw [← List.take_append_drop k l]
 rw [List.map_append,List.sum_append];omega
theorem YeY {α:Type} {w:α→Nat} {l:List α} {k:Nat} {x:α} (hx:l[k]?=some x):((l.take (k+1)).map w).sum=((l.take k).map w).sum+w x:=by
 rw [List.take_add_one,hx];simp
mutual
theorem ecount_le:∀ e:Lx.Expr,ecount e≤eW e
 | .mk a b c args kids=>by have:=ecountL_le kids;rw [ecount,eW];omega
theorem ecountL_le:∀ l:List Lx.Expr,ecountL l≤eWL l
 | []=>by simp [ecountL]
 | x::r=>by have h1:=ecount_le x;have h2:=ecountL_le r;rw [ecountL,eWL];omega
end
mutual
theorem fcount_le:∀ f:Formula,fcount f≤fW f
 | .mk a b c d exprs kids=>by have h1:=ecountL_le exprs;have h2:=fcountL_le kids;rw [fcount,fW];omega
theorem fcountL_le:∀ l:List Formula,fcountL l≤fWL l
 | []=>by simp [fcountL]
 | x::r=>by have h1:=fcount_le x;have h2:=fcountL_le r;rw [fcountL,fWL];omega
end
set_option maxHeartbeats 1000000 in
theorem YiR:∀ (s:Nat) {fz:FZ} {e:Lx.Expr} {va vk:Value},SizeOf.sizeOf e≤s→ExprR fz e va vk→ecount e≤1000000000000→
 QFn Tryz.prog 23 [.agg #[.string e.op,.string e.name,.int .i64 e.n,va,vk]] fz (.int .i64 (ecount e))
 | 0,_,e,_,_,hs,_,_=>by cases e;simp at hs
 | s+1,fz,e,va,vk,hs,h,hc=>by
  obtain ⟨A,n,ca,rfl,ha⟩:=h.args
  obtain ⟨B,m,cb,rfl,hk⟩:=h.kids
  refine GFn.quiet ?_
  have lk:=hk.len
  have sk:=hk.short
  have ec:=Ybx e
  (refine GFn.of_wp Tryz.func23 rfl Tryz.ntmps23 rfl rfl (fun w0=>?_))
  (refine Yr (Yp (Yb Zz (Xi _ Zz Zz (fun g0=>?_)))))
  ((repeat (first | refine zS ?_ | refine zA fun _=>?_)))
  refine YD (fun q σ fz' H'=>∃ (k:Nat) (c:Int),k≤m∧q=m - k∧σ=[(4,.int .i64 k),(3,.int .i64 c),(1,.pointer (some ⟨g0,0,none⟩))]∧fz=fz'∧H'=[(g0,.cells #[.string e.op,.string e.name,.int .i64 e.n,.slice A n ca,.slice B m cb] 75 (0,0))]∧c=((1+ecountL (e.kids.take k):Nat):Int)) ⟨0,_,Nat.zero_le _,rfl,rfl,rfl,rfl,rfl⟩ (Zw) (Zb) ?_
  rintro q σ fz' H' ⟨k,c,hkm,rfl,rfl,rfl,rfl,hh⟩
  ((repeat (first | refine zS ?_ | refine zA fun _=>?_)))
  ((refine zG ?_;refine zC (fun c1=>?_) (fun c1=>?_)))
  ·obtain ⟨x,hx⟩:=YG (l:=e.kids) (k:=k) Zi
   have hxm:=List.mem_of_getElem? hx
   have hlt:=Lx.Expr.kids_lt hxm
   have hst:=Ybz hx
   have htk:=Yby (l:=e.kids) (k:=k+1)
   ((repeat (first | refine zS ?_ | refine zA fun _=>?_)))
   (((refine zG ?_));refine YA T k Zz Zz Zz Zz Zz Zz hk (by first | rfl | omega) hx (fun p1 hp1=>?_))
   (((refine zG ?_));refine Yx T Zz Zz Zz hp1 Zz ?_)
   intro cs hcs
   obtain ⟨wa,wk,rfl,hRx⟩:=YU hcs
   ((repeat (first | refine zS ?_ | refine zA fun _=>?_)))
   (((refine zG ?_));refine Yj Zz Zz (YiR s Zi hRx Zi) ?_)
   ((repeat (first | refine zS ?_ | refine zA fun _=>?_)))
   exact YP ⟨k+1,c+(ecount x:Nat),by omega,rfl,rfl,rfl,rfl,by omega⟩ Zi (Zw) (Zb)
  ·rw [List.take_of_length_le Zi] at hh
   ((repeat (first | refine zS ?_ | refine zA fun _=>?_)))
   (exact ret1 rfl rfl (Zb) (by rw [hh,ec]))
theorem YiQ {fz:FZ} {e:Lx.Expr} {va vk:Value} (h:ExprR fz e va vk) (hc:ecount e≤1000000000000):
 QFn Tryz.prog 23 [.agg #[.string e.op,.string e.name,.int .i64 e.n,va,vk]] fz (.int .i64 (ecount e)):=YiR _ (Nat.le_refl _) h hc
set_option maxHeartbeats 1000000 in
theorem size_f:∀ (s:Nat) {fz:FZ} {f:Formula} {va vp ve vk:Value},SizeOf.sizeOf f≤s→FormulaR fz f va vp ve vk→fcount f≤1000000000000→
 QFn Tryz.prog 13 [.agg #[.string f.op,.string f.name,va,vp,ve,vk]] fz (.int .i64 (fcount f))
 | 0,_,e,_,_,_,_,hs,_,_=>by cases e;simp at hs
 | s+1,fz,f,va,vp,ve,vk,hs,h,hc=>by
  obtain ⟨A,n,ca,rfl,ha⟩:=h.args
  obtain ⟨B,m,cb,rfl,hp⟩:=h.params
  obtain ⟨C,r,cr,rfl,he⟩:=h.exprs
  obtain ⟨D,q0,cq,rfl,hk⟩:=h.kids
  refine GFn.quiet ?_
  have lk:=hk.len
  have sk:=hk.short
  have le:=he.len
  have se:=he.short
  have ec:=Ycr f
  (refine GFn.of_wp Tryz.func13 rfl Tryz.ntmps13 rfl rfl (fun w0=>?_))
  (refine Yr (Yp (Yb Zz (Xi _ Zz Zz (fun g0=>?_)))))
  ((repeat (first | refine zS ?_ | refine zA fun _=>?_)))
  refine YD (fun q σ fz' H'=>∃ (k:Nat) (c:Int),k≤r∧q=r - k∧σ=[(4,.int .i64 k),(3,.int .i64 c),(1,.pointer (some ⟨g0,0,none⟩))]∧fz=fz'∧H'=[(g0,.cells #[.string f.op,.string f.name,.slice A n ca,.slice B m cb,.slice C r cr,.slice D q0 cq] 36 (0,0))]∧c=((1+ecountL (f.exprs.take k):Nat):Int)) ⟨0,_,Nat.zero_le _,rfl,rfl,rfl,rfl,rfl⟩ (Zw) (Zb) ?_
  rintro q σ fz' H' ⟨k,c,hkm,rfl,rfl,rfl,rfl,hh⟩
  ((repeat (first | refine zS ?_ | refine zA fun _=>?_)))
  ((refine zG ?_;refine zC (fun c1=>?_) (fun c1=>?_)))
  ·obtain ⟨x,hx⟩:=YG (l:=f.exprs) (k:=k) Zi
   have hxm:=List.mem_of_getElem? hx
   have hst:=Ybz hx
   have htk:=Yby (l:=f.exprs) (k:=k+1)
   ((repeat (first | refine zS ?_ | refine zA fun _=>?_)))
   (((refine zG ?_));refine YA T k Zz Zz Zz Zz Zz Zz he (by first | rfl | omega) hx (fun p1 hp1=>?_))
   (((refine zG ?_));refine Yx T Zz Zz Zz hp1 Zz ?_)
   intro cs hcs
   obtain ⟨wa,wk,rfl,hRx⟩:=YU hcs
   ((repeat (first | refine zS ?_ | refine zA fun _=>?_)))
   (((refine zG ?_));refine Yj Zz Zz (YiQ hRx Zi) ?_)
   ((repeat (first | refine zS ?_ | refine zA fun _=>?_)))
   exact YP ⟨k+1,c+(ecount x:Nat),by omega,rfl,rfl,rfl,rfl,by omega⟩ Zi (Zw) (Zb)
  ·rw [List.take_of_length_le Zi] at hh
   ((repeat (first | refine zS ?_ | refine zA fun _=>?_)))
   refine YD (fun q σ fz' H'=>∃ (k:Nat) (c:Int),k≤q0∧q=q0 - k∧σ=[(5,.int .i64 k),(3,.int .i64 c),(1,.pointer (some ⟨g0,0,none⟩))]∧fz=fz'∧H'=[(g0,.cells #[.string f.op,.string f.name,.slice A n ca,.slice B m cb,.slice C r cr,.slice D q0 cq] 36 (0,0))]∧c=((1+ecountL f.exprs+fcountL (f.kids.take k):Nat):Int)) ⟨0,c,Nat.zero_le _,rfl,rfl,rfl,rfl,by rw [hh];simp [fcountL]⟩ (Zw) (Zb) ?_
   rintro q σ fz' H' ⟨k,c,hkm,rfl,rfl,rfl,rfl,hh⟩
   ((repeat (first | refine zS ?_ | refine zA fun _=>?_)))
   ((refine zG ?_;refine zC (fun c2=>?_) (fun c2=>?_)))
   ·obtain ⟨x,hx⟩:=YG (l:=f.kids) (k:=k) Zi
    have hxm:=List.mem_of_getElem? hx
    have hlt:=Formula.kids_lt hxm
    have hst:=Ydd hx
    have htk:=Ydc (l:=f.kids) (k:=k+1)
    ((repeat (first | refine zS ?_ | refine zA fun _=>?_)))
    (((refine zG ?_));refine YA T k Zz Zz Zz Zz Zz Zz hk (by first | rfl | omega) hx (fun p1 hp1=>?_))
    (((refine zG ?_));refine Yx T Zz Zz Zz hp1 Zz ?_)
    intro cs hcs
    obtain ⟨w1,w2,w3,w4,rfl,hRx⟩:=Xc hcs
    ((repeat (first | refine zS ?_ | refine zA fun _=>?_)))
    (((refine zG ?_));refine Yj Zz Zz (size_f s Zi hRx Zi) ?_)
    ((repeat (first | refine zS ?_ | refine zA fun _=>?_)))
    exact YP ⟨k+1,c+(fcount x:Nat),by omega,rfl,rfl,rfl,rfl,by omega⟩ Zi (Zw) (Zb)
   ·rw [List.take_of_length_le Zi] at hh
    ((repeat (first | refine zS ?_ | refine zA fun _=>?_)))
    (exact ret1 rfl rfl (Zb) (by rw [hh,ec]))
theorem Yew {fz:FZ} {f:Formula} {va vp ve vk:Value} (h:FormulaR fz f va vp ve vk) (hc:fcount f≤1000000000000):
 QFn Tryz.prog 13 [.agg #[.string f.op,.string f.name,va,vp,ve,vk]] fz (.int .i64 (fcount f)):=size_f _ (Nat.le_refl _) h hc
def hvC (c:Change):Nat:=1+c.params.length+c.args.length+fcount c.when_+ecount c.value
def YaC (l:List Change):Nat:=(l.map hvC).sum
theorem hvC_le (c:Change):hvC c≤1*Yad c:=by
 have h1:=fcount_le c.when_
 have h2:=ecount_le c.value
 unfold hvC Yad;omega
theorem YdW (l:List Change):YaC l≤(l.map Yad).sum:=by
 have:=YdC hvC_le l
 unfold YaC;omega
set_option maxHeartbeats 1000000 in
theorem Yg4 {fz:FZ} {A:Option Addr} {n ca:Nat} {l:List Change} (h1:Sl changeL fz A n ca l) (hc:YaC l≤1000000000000):
 QFn Tryz.prog 14 [.slice A n ca] fz (.int .i64 (YaC l)):=by
 refine GFn.quiet ?_
 have l1:=h1.len
 have s1:=h1.short
 (refine GFn.of_wp Tryz.func14 rfl Tryz.ntmps14 rfl rfl (fun w0=>?_))
 ((repeat (first | refine zS ?_ | refine zA fun _=>?_)))
 refine YD (fun q σ fz' H'=>∃ (k:Nat) (c:Int),k≤n∧q=n - k∧σ=[(4,.int .i64 k),(3,.int .i64 c),(0,.slice A n ca)]∧fz=fz'∧H'=[]∧c=((((l.take k).map hvC).sum:Nat):Int)) ⟨0,_,Nat.zero_le _,rfl,rfl,rfl,rfl,rfl⟩ (Zw) (Zb) ?_
 rintro q σ fz' H' ⟨k,c,hkm,rfl,rfl,rfl,rfl,hh⟩
 ((repeat (first | refine zS ?_ | refine zA fun _=>?_)))
 ((refine zG ?_;refine zC (fun c1=>?_) (fun c1=>?_)))
 ·obtain ⟨x,hx⟩:=YG (l:=l) (k:=k) Zi
  have hst:=YeY (w:=hvC) hx
  have htk:=YeX (w:=hvC) (l:=l) (k:=k+1)
  unfold YaC at hc
  have hvx:hvC x=1+x.params.length+x.args.length+fcount x.when_+ecount x.value:=rfl
  ((repeat (first | refine zS ?_ | refine zA fun _=>?_)))
  (((refine zG ?_));refine YA T k Zz Zz Zz Zz Zz Zz h1 (by first | rfl | omega) hx (fun p1 hp1=>?_))
  ((repeat (first | refine zS ?_ | refine zA fun _=>?_)))
  (((refine zG ?_));refine YdF T Zz Zz Zz hp1.Change_params (fun P1 pn1 pc1 ip=>?_))
  have lp:=ip.len
  ((repeat (first | refine zS ?_ | refine zA fun _=>?_)))
  (((refine zG ?_));refine YA T k Zz Zz Zz Zz Zz Zz h1 (by first | rfl | omega) hx (fun p2 hp2=>?_))
  ((repeat (first | refine zS ?_ | refine zA fun _=>?_)))
  (((refine zG ?_));refine YdF T Zz Zz Zz hp2.Change_args (fun P2 pn2 pc2 ia=>?_))
  have la:=ia.len
  ((repeat (first | refine zS ?_ | refine zA fun _=>?_)))
  (((refine zG ?_));refine YA T k Zz Zz Zz Zz Zz Zz h1 (by first | rfl | omega) hx (fun p3 hp3=>?_))
  ((repeat (first | refine zS ?_ | refine zA fun _=>?_)))
  (((refine zG ?_));refine Yx T Zz Zz Zz hp3.Change_when_ Zz ?_)
  intro cs3 hcs3
  obtain ⟨w1,w2,w3,w4,rfl,hR3⟩:=Xc hcs3
  (((refine zG ?_));refine Yj Zz Zz (Yew hR3 Zi) ?_)
  ((repeat (first | refine zS ?_ | refine zA fun _=>?_)))
  (((refine zG ?_));refine YA T k Zz Zz Zz Zz Zz Zz h1 (by first | rfl | omega) hx (fun p4 hp4=>?_))
  ((repeat (first | refine zS ?_ | refine zA fun _=>?_)))
  (((refine zG ?_));refine Yx T Zz Zz Zz hp4.Change_value Zz ?_)
  intro cs4 hcs4
  obtain ⟨u1,u2,rfl,hR4⟩:=YU hcs4
  (((refine zG ?_));refine Yj Zz Zz (YiQ hR4 Zi) ?_)
  ((repeat (first | refine zS ?_ | refine zA fun _=>?_)))
  exact YP ⟨k+1,c+(1+pn1+pn2+(fcount x.when_:Nat)+(ecount x.value:Nat)),by omega,rfl,rfl,rfl,rfl,by omega⟩ Zi (Zw) (Zb)
 ·rw [List.take_of_length_le Zi] at hh
  ((repeat (first | refine zS ?_ | refine zA fun _=>?_)))
  (exact ret1 rfl rfl (Zb) (by rw [hh];rfl))
def laA (a:Action):Nat:=1+fcount a.pre+YaC a.changes
def laU (a:Durative):Nat:=1+fcount a.start+fcount a.over+fcount a.fin+YaC a.atStart+YaC a.atEnd
def Yge (d:Domain) (p:Problem):Nat:=d.types.length+d.constants.length+d.predicates.length+d.functions.length+p.objects.length+p.init.length+p.values.length+fcount p.goal+(d.actions.map laA).sum+(d.duratives.map laU).sum
theorem laA_le (a:Action):laA a≤1*actW a:=by
 have h1:=fcount_le a.pre
 have h2:=YdW a.changes
 unfold laA actW;omega
theorem laU_le (a:Durative):laU a≤1*durW a:=by
 have h1:=fcount_le a.start
 have h2:=fcount_le a.over
 have h3:=fcount_le a.fin
 have h4:=YdW a.atStart
 have h5:=YdW a.atEnd
 unfold laU durW;omega
theorem Yjs (d:Domain) (p:Problem):Yge d p≤domW d+prbW p:=by
 have h1:=YdC laA_le d.actions
 have h2:=YdC laU_le d.duratives
 have h3:=fcount_le p.goal
 have h4:=WR Yf2 d.predicates
 have h5:=WR YhM d.functions
 have h6:=WR Ygx p.init
 have h7:=WR Yev p.values
 unfold Yge domW prbW;omega
set_option maxHeartbeats 4000000 in
theorem large_q {fz:FZ} {d:Domain} {p:Problem} {v1 v2 v3 v4 v5 v6 u1 u2 u3 u4 u5 u6 u7:Value} (h:DomainR fz d v1 v2 v3 v4 v5 v6) (hp:ProblemR fz p u1 u2 u3 u4 u5 u6 u7) (hn:Yge d p≤1000000000000):
 QFn Tryz.prog 6 [.agg #[.string d.name,v1,v2,v3,v4,v5,v6],.agg #[.string p.name,.string p.domain,u1,u2,u3,.string p.goal.op,.string p.goal.name,u4,u5,u6,u7]] fz (.bool (decide (2000<Yge d p))):=by
 obtain ⟨A1,n1,b1,rfl,i1⟩:=h.types
 have l1:=i1.len
 obtain ⟨A2,n2,b2,rfl,i2⟩:=h.constants
 have l2:=i2.len
 obtain ⟨A3,n3,b3,rfl,i3⟩:=h.predicates
 have l3:=i3.len
 obtain ⟨A4,n4,b4,rfl,i4⟩:=h.functions
 have l4:=i4.len
 obtain ⟨A5,n5,b5,rfl,i5⟩:=h.actions
 have l5:=i5.len
 obtain ⟨A6,n6,b6,rfl,i6⟩:=h.duratives
 have l6:=i6.len
 have s5:=i5.short
 have s6:=i6.short
 obtain ⟨C1,m1,e1,rfl,j1⟩:=hp.objects
 have k1:=j1.len
 obtain ⟨C2,m2,e2,rfl,j2⟩:=hp.init
 have k2:=j2.len
 obtain ⟨C3,m3,e3,rfl,j3⟩:=hp.values
 have k3:=j3.len
 have hg:=hp.goal
 obtain ⟨U1,w1,z1,rfl,_⟩:=hp.goal.args
 obtain ⟨U2,w2,z2,rfl,_⟩:=hp.goal.params
 obtain ⟨U3,w3,z3,rfl,_⟩:=hp.goal.exprs
 obtain ⟨U4,w4,z4,rfl,_⟩:=hp.goal.kids
 refine GFn.quiet ?_
 have hnn:Yge d p=d.types.length+d.constants.length+d.predicates.length+d.functions.length+p.objects.length+p.init.length+p.values.length+fcount p.goal+(d.actions.map laA).sum+(d.duratives.map laU).sum:=rfl
 (refine GFn.of_wp Tryz.func6 rfl Tryz.ntmps6 rfl rfl (fun w0=>?_))
 (refine Yr (Yp (Yb Zz (Xi _ Zz Zz (fun g0=>?_)))))
 (refine Yb Zz (Xi _ Zz Zz (fun g1=>?_)))
 ((repeat (first | refine zS ?_ | refine zA fun _=>?_)))
 (((refine zG ?_));refine YJ (vs:=[.string p.goal.op,.string p.goal.name,.slice U1 w1 z1,.slice U2 w2 z2,.slice U3 w3 z3,.slice U4 w4 z4]) T 0 Zz Zz Zz Zz Zz Zz ?_)
 (((refine zG ?_));refine Yj Zz Zz (Yew hg Zi) ?_)
 ((repeat (first | refine zS ?_ | refine zA fun _=>?_)))
 refine YD (fun q σ fz' H'=>∃ (k:Nat) (c:Int),k≤n5∧q=n5 - k∧σ=[(6,.int .i64 k),(5,.int .i64 c),(2,.pointer (some ⟨g0,0,none⟩))]∧fz=fz'∧H'=[(g0,.cells #[.string d.name,.slice A1 n1 b1,.slice A2 n2 b2,.slice A3 n3 b3,.slice A4 n4 b4,.slice A5 n5 b5,.slice A6 n6 b6] 28 (0,0))]∧c=((n1+n2+n3+n4+m1+m2+m3+fcount p.goal+((d.actions.take k).map laA).sum:Nat):Int)) ⟨0,(n1:Int)+n2+n3+n4+m1+m2+m3+(fcount p.goal:Nat),Nat.zero_le _,rfl,rfl,rfl,rfl,by simp⟩ (Zw) (List.Sublist.cons _ (List.Sublist.refl _)) ?_
 rintro q σ fz' H' ⟨k,c,hkm,rfl,rfl,rfl,rfl,hh⟩
 ((repeat (first | refine zS ?_ | refine zA fun _=>?_)))
 ((refine zG ?_;refine zC (fun c1=>?_) (fun c1=>?_)))
 ·obtain ⟨x,hx⟩:=YG (l:=d.actions) (k:=k) Zi
  have hst:=YeY (w:=laA) hx
  have htk:=YeX (w:=laA) (l:=d.actions) (k:=k+1)
  have hvx:laA x=1+fcount x.pre+YaC x.changes:=rfl
  ((repeat (first | refine zS ?_ | refine zA fun _=>?_)))
  (((refine zG ?_));refine YA T k Zz Zz Zz Zz Zz Zz i5 (by first | rfl | omega) hx (fun pp1 hp1=>?_))
  ((repeat (first | refine zS ?_ | refine zA fun _=>?_)))
  (((refine zG ?_));refine Yx T Zz Zz Zz hp1.Action_pre Zz ?_)
  intro cs1 hcs1
  obtain ⟨s1,s2,s3,s4,rfl,hR1⟩:=Xc hcs1
  (((refine zG ?_));refine Yj Zz Zz (Yew hR1 Zi) ?_)
  ((repeat (first | refine zS ?_ | refine zA fun _=>?_)))
  (((refine zG ?_));refine YA T k Zz Zz Zz Zz Zz Zz i5 (by first | rfl | omega) hx (fun pp2 hp2=>?_))
  ((repeat (first | refine zS ?_ | refine zA fun _=>?_)))
  (((refine zG ?_));refine YdF T Zz Zz Zz hp2.Action_changes (fun P2 pn2 pc2 ic=>?_))
  (((refine zG ?_));refine Yj Zz Zz (Yg4 ic Zi) ?_)
  ((repeat (first | refine zS ?_ | refine zA fun _=>?_)))
  exact YP ⟨k+1,c+(1+(fcount x.pre:Nat)+(YaC x.changes:Nat)),by omega,rfl,rfl,rfl,rfl,by omega⟩ Zi (Zw) (Zb)
 ·rw [List.take_of_length_le Zi] at hh
  ((repeat (first | refine zS ?_ | refine zA fun _=>?_)))
  refine YD (fun q σ fz' H'=>∃ (k:Nat) (c:Int),k≤n6∧q=n6 - k∧σ=[(7,.int .i64 k),(5,.int .i64 c),(2,.pointer (some ⟨g0,0,none⟩))]∧fz=fz'∧H'=[(g0,.cells #[.string d.name,.slice A1 n1 b1,.slice A2 n2 b2,.slice A3 n3 b3,.slice A4 n4 b4,.slice A5 n5 b5,.slice A6 n6 b6] 28 (0,0))]∧c=((n1+n2+n3+n4+m1+m2+m3+fcount p.goal+(d.actions.map laA).sum+((d.duratives.take k).map laU).sum:Nat):Int)) ⟨0,c,Nat.zero_le _,rfl,rfl,rfl,rfl,by rw [hh];simp⟩ (Zw) (Zb) ?_
  rintro q σ fz' H' ⟨k,c,hkm,rfl,rfl,rfl,rfl,hh⟩
  ((repeat (first | refine zS ?_ | refine zA fun _=>?_)))
  ((refine zG ?_;refine zC (fun c2=>?_) (fun c2=>?_)))
  ·obtain ⟨x,hx⟩:=YG (l:=d.duratives) (k:=k) Zi
   have hst:=YeY (w:=laU) hx
   have htk:=YeX (w:=laU) (l:=d.duratives) (k:=k+1)
   have hvx:laU x=1+fcount x.start+fcount x.over+fcount x.fin+YaC x.atStart+YaC x.atEnd:=rfl
   ((repeat (first | refine zS ?_ | refine zA fun _=>?_)))
   (((refine zG ?_));refine YA T k Zz Zz Zz Zz Zz Zz i6 (by first | rfl | omega) hx (fun pp1 hp1=>?_))
   (((refine zG ?_));refine Yx T Zz Zz Zz hp1 Zz ?_)
   intro cs1 hcs1
   obtain ⟨r0,r1,r2,r3,r4,r5,r6,r7,r8,r9,r10,r11,r12,r13,r14,rfl,hR⟩:=YbY hcs1
   obtain ⟨P,p1,q1,rfl,ip⟩:=hR.params
   have hS1:=hR.start
   have hS2:=hR.over
   have hS3:=hR.fin
   obtain ⟨V1,a1,y1,rfl,_⟩:=hR.start.args
   obtain ⟨V2,a2,y2,rfl,_⟩:=hR.start.params
   obtain ⟨V3,a3,y3,rfl,_⟩:=hR.start.exprs
   obtain ⟨V4,a4,y4,rfl,_⟩:=hR.start.kids
   obtain ⟨V5,a5,y5,rfl,_⟩:=hR.over.args
   obtain ⟨V6,a6,y6,rfl,_⟩:=hR.over.params
   obtain ⟨V7,a7,y7,rfl,_⟩:=hR.over.exprs
   obtain ⟨V8,a8,y8,rfl,_⟩:=hR.over.kids
   obtain ⟨V9,a9,y9,rfl,_⟩:=hR.fin.args
   obtain ⟨V10,a10,y10,rfl,_⟩:=hR.fin.params
   obtain ⟨V11,a11,y11,rfl,_⟩:=hR.fin.exprs
   obtain ⟨V12,a12,y12,rfl,_⟩:=hR.fin.kids
   obtain ⟨V13,a13,y13,rfl,ia⟩:=hR.atStart
   obtain ⟨V14,a14,y14,rfl,ie⟩:=hR.atEnd
   ((repeat (first | refine zS ?_ | refine zA fun _=>?_)))
   (((refine zG ?_));refine YJ (vs:=[.string x.start.op,.string x.start.name,.slice V1 a1 y1,.slice V2 a2 y2,.slice V3 a3 y3,.slice V4 a4 y4]) T 0 Zz Zz Zz Zz Zz Zz ?_)
   ((repeat (first | refine zS ?_ | refine zA fun _=>?_)))
   (((refine zG ?_));refine Yj Zz Zz (Yew hS1 Zi) ?_)
   ((repeat (first | refine zS ?_ | refine zA fun _=>?_)))
   (((refine zG ?_));refine YJ (vs:=[.string x.over.op,.string x.over.name,.slice V5 a5 y5,.slice V6 a6 y6,.slice V7 a7 y7,.slice V8 a8 y8]) T 0 Zz Zz Zz Zz Zz Zz ?_)
   ((repeat (first | refine zS ?_ | refine zA fun _=>?_)))
   (((refine zG ?_));refine Yj Zz Zz (Yew hS2 Zi) ?_)
   ((repeat (first | refine zS ?_ | refine zA fun _=>?_)))
   (((refine zG ?_));refine YJ (vs:=[.string x.fin.op,.string x.fin.name,.slice V9 a9 y9,.slice V10 a10 y10,.slice V11 a11 y11,.slice V12 a12 y12]) T 0 Zz Zz Zz Zz Zz Zz ?_)
   ((repeat (first | refine zS ?_ | refine zA fun _=>?_)))
   (((refine zG ?_));refine Yj Zz Zz (Yew hS3 Zi) ?_)
   ((repeat (first | refine zS ?_ | refine zA fun _=>?_)))
   (((refine zG ?_));refine Yj Zz Zz (Yg4 ia Zi) ?_)
   ((repeat (first | refine zS ?_ | refine zA fun _=>?_)))
   (((refine zG ?_));refine Yj Zz Zz (Yg4 ie Zi) ?_)
   ((repeat (first | refine zS ?_ | refine zA fun _=>?_)))
   exact YP ⟨k+1,c+(1+(fcount x.start:Nat)+(fcount x.over:Nat)+(fcount x.fin:Nat)+(YaC x.atStart:Nat)+(YaC x.atEnd:Nat)),by omega,rfl,rfl,rfl,rfl,by omega⟩ Zi (Zw) (Zb)
  ·rw [List.take_of_length_le Zi] at hh
   ((repeat (first | refine zS ?_ | refine zA fun _=>?_)))
   ((refine zG ?_;refine zC (fun c3=>?_) (fun c3=>?_)))
   ·((repeat (first | refine zS ?_ | refine zA fun _=>?_)))
    (exact ret1 rfl rfl (Zb) (Yw Zi))
   ·((repeat (first | refine zS ?_ | refine zA fun _=>?_)))
    (exact ret1 rfl rfl (Zb) (Ya Zi))
end Go.Proofs.YtbhlgkibgajajaaGreatDoor
namespace Go.Lx
open Go
def Ln (l:List UInt8):Prop:=∃ (j:Nat) (mid:List UInt8) (m:Nat),l=List.replicate j 32++(mid++List.replicate m 41)∧mid≠ []∧mid.head?≠some 32∧10 ∉ mid∧(j+mid.length≤80∨32 ∉ mid)
inductive Lns:List UInt8→Prop
 | one {l:List UInt8}:Ln l→Lns l
 | more {l t:List UInt8}:Ln l→Lns t→Lns (l++10::t)
theorem Lns.append {a b:List UInt8} (ha:Lns a) (hb:Lns b):Lns (a++10::b):=by
 induction ha with
 | one h=>exact .more h hb
 | more h _ ih=>rw [List.append_assoc];exact .more h ih
theorem Ln.no10 {l:List UInt8} (h:Ln l):10 ∉ l:=by
 obtain ⟨j,mid,m,rfl,_,_,h,_⟩:=h
 simp only [List.mem_append,List.mem_replicate,not_or]
 exact ⟨fun h0=>absurd h0.2 Zh,h,fun h0=>absurd h0.2 Zh⟩
theorem YiO {a b c d:List UInt8} (ha:10 ∉ a) (hc:10 ∉ c) (h:a++10::b=c++10::d):a=c∧b=d:=by
 induction a generalizing c with
 | nil=>
  cases c with
  | nil=>simpa using h
  | cons x r=>simp at h;exact absurd h.1 (fun h0=>hc (by simp [h0]))
 | cons x r ih=>
  cases c with
  | nil=>simp at h;exact absurd h.1 (fun h0=>ha (by simp [h0]))
  | cons y s=>
   simp at h
   have:=ih (c:=s) (fun h0=>ha (by simp [h0])) (fun h0=>hc (by simp [h0])) h.2
   exact ⟨by rw [h.1,this.1],this.2⟩
theorem Lns.first {t cur rest:List UInt8} (h:Lns t) (hc:10 ∉ cur) (e:cur++10::rest=t++ [10]):Ln cur∧(rest=[]∨∃ t',Lns t'∧rest=t'++ [10]):=by
 cases h with
 | one h=>
  have:=YiO hc h.no10 e
  exact ⟨this.1 ▸ h,.inl this.2⟩
 | more h ht=>
  rename_i l t'
  rw [List.append_assoc,List.cons_append] at e
  have:=YiO hc h.no10 e
  exact ⟨this.1 ▸ h,.inr ⟨t',ht,this.2⟩⟩
def XTx (x:Sexpr):Prop:=x.kind=1→x.text.data.toList≠ []∧32 ∉ x.text.data.toList∧10 ∉ x.text.data.toList
theorem dec_no {u:Nat} {c:UInt8} (hc:c.toNat<48):Lib.decDigits u≠ []∧c ∉ Lib.decDigits u:=by
 have key:∀ n:Nat,n<10→c≠UInt8.ofNat (48+n):=fun n hn h=>by
  have:(UInt8.ofNat (48+n)).toNat=48+n:=by simp [UInt8.toNat_ofNat'];omega
  rw [h,this] at hc;omega
 induction u using Nat.strongRecOn with
 | ind u ih=>
  rw [Lib.decDigits]
  split
  ·rename_i h
   exact ⟨by simp,by simpa using key u h⟩
  ·rename_i h
   have:=ih (u / 10) Zi
   refine ⟨by simp,?_⟩
   simp only [List.mem_append,not_or]
   exact ⟨this.2,by simpa using key (u % 10) Zi⟩
theorem itoa_no {n:Int} {c:UInt8} (hc:c.toNat<45):Lib.itoa n≠ []∧c ∉ Lib.itoa n:=by
 unfold Lib.itoa
 split
 ·refine ⟨by simp,?_⟩
  simp only [List.mem_cons,not_or]
  exact ⟨fun h=>by subst h;simp at hc,(dec_no Zi).2⟩
 ·exact dec_no Zi
theorem txt_ne {x:Sexpr} (h:XTx x):txt x≠ []:=by
 rw [YfJ]
 split
 ·rename_i hk;exact (h hk).1
 ·split
  ·exact (itoa_no (c:=32) Zh).1
  ·simp
theorem txt_one {x:Sexpr} (h:XTx x) (hk:x.kind≠3∨x.kids.length=0) (h3:x.kind=1∨x.kind=2∨x.kind=3):32 ∉ txt x:=by
 rw [YfJ]
 split
 ·rename_i h1;exact (h h1).2.1
 ·split
  ·exact (itoa_no (c:=32) Zh).2
  ·rename_i h1 h2
   have h4:x.kids=[]:=List.eq_nil_of_length_eq_zero Zi
   rw [h4]
   decide
theorem mem_join {c:UInt8} {l:List (List UInt8)} (h:c∈Lib.join l [32]):c=32∨∃ t∈l,c∈t:=by
 cases l with
 | nil=>simp [Lib.join_nil] at h
 | cons a r=>
  rw [Lib.join_cons,Lib.joinTail] at h
  rcases List.mem_append.1 h with h | h
  ·exact .inr ⟨a,by simp,h⟩
  ·obtain ⟨t,ht,hc⟩:=List.mem_flatten.1 h
   obtain ⟨u,hu,rfl⟩:=List.mem_map.1 ht
   simp at hc
   rcases hc with hc | hc
   ·exact .inl hc
   ·exact .inr ⟨u,by simp [hu],hc⟩
mutual
theorem txt_no10:∀ {x:Sexpr},XAll XTx x→10 ∉ txt x
 | .mk k v l c t ks,h=>by
  rw [XAll] at h
  have hs:=txtL_no10 h.2
  rw [txt]
  split
  ·rename_i h1;exact (h.1 h1).2.2
  ·split
   ·exact (itoa_no (c:=10) Zh).2
   ·simp only [List.mem_cons,List.mem_append,List.not_mem_nil,or_false,not_or]
    refine ⟨by decide,fun h0=>?_,by decide⟩
    rcases mem_join h0 with h0 | ⟨u,hu,h0⟩
    ·exact absurd h0 Zh
    ·exact hs u hu h0
theorem txtL_no10:∀ {l:List Sexpr},XAllL XTx l→∀ u∈txtL l,10 ∉ u
 | [],_=>by simp [txtL]
 | x::r,h=>by
  rw [XAllL] at h
  have h1:=txt_no10 h.1
  have h2:=txtL_no10 h.2
  simp only [txtL,List.mem_cons,forall_eq_or_imp]
  exact ⟨h1,h2⟩
end
theorem head_no {k:Nat} {l:List UInt8} (h1:l≠ []) (h2:l.head?≠some 32):(List.replicate k 40++l).head?≠some 32:=by
 cases k with
 | zero=>simpa using h2
 | succ k=>simp [List.replicate_succ]
theorem txt_head {x:Sexpr} (h:XTx x):(txt x).head?≠some 32:=by
 rw [YfJ]
 have key:∀ l:List UInt8,32 ∉ l→l.head?≠some 32:=fun l h0 h1=>by
  cases l with
  | nil=>simp at h1
  | cons a r=>simp at h1;subst h1;simp at h0
 split
 ·rename_i h1;exact key _ (h h1).2.1
 ·split
  ·exact key _ (itoa_no (c:=32) Zh).2
  ·simp
def XK (x:Sexpr):Prop:=XTx x∧(x.kind=1∨x.kind=2∨x.kind=3)
mutual
theorem all_tx:∀ {x:Sexpr},XAll XK x→XAll XTx x
 | .mk k v l c t ks,h=>by
  rw [XAll] at h ⊢
  exact ⟨h.1.1,all_txL h.2⟩
theorem all_txL:∀ {l:List Sexpr},XAllL XK l→XAllL XTx l
 | [],_=>by simp [XAllL]
 | x::r,h=>by
  rw [XAllL] at h ⊢
  exact ⟨all_tx h.1,all_txL h.2⟩
end
theorem snoc41 {m:Nat} {a:List UInt8}:a++ [41]++List.replicate m 41=a++List.replicate (m+1) 41:=by
 rw [List.append_assoc];rfl
mutual
theorem lay_lns:∀ {x:Sexpr} {i j k m:Nat},XAll XK x→j+k=i→Lns (List.replicate j 32++(List.replicate k 40++(lay 80 x i++List.replicate m 41)))
 | .mk kd v l c t ks,i,j,k,m,h,hi=>by
  have hT:=all_tx h
  have h0:=h
  rw [XAll] at h0
  by_cases hf:kd≠3∨ks.length=0∨i+(txt (.mk kd v l c t ks)).length≤80
  ·rw [lay,if_pos hf]
   refine .one ⟨j,List.replicate k 40++txt (.mk kd v l c t ks),m,by simp only [List.append_assoc],?_,head_no (txt_ne h0.1.1) (txt_head h0.1.1),?_,?_⟩
   ·intro h1
    exact txt_ne h0.1.1 (List.append_eq_nil_iff.1 h1).2
   ·simp only [List.mem_append,List.mem_replicate,not_or]
    exact ⟨fun h1=>absurd h1.2 Zh,txt_no10 hT⟩
   ·by_cases hw:i+(txt (.mk kd v l c t ks)).length≤80
    ·left;simp only [List.length_append,List.length_replicate];omega
    ·right
     simp only [List.mem_append,List.mem_replicate,not_or]
     refine ⟨fun h1=>absurd h1.2 Zh,txt_one h0.1.1 ?_ h0.1.2⟩
     rcases hf with hf | hf | hf
     ·exact .inl hf
     ·exact .inr hf
     ·exact absurd hf hw
  ·rw [lay,if_neg hf]
   have e:List.replicate k 40++((40:UInt8)::(layH 80 ks i++ [41])++List.replicate m 41)=List.replicate (k+1) 40++(layH 80 ks i++List.replicate (m+1) 41):=by
    rw [List.replicate_succ' (n:=k),List.cons_append,snoc41,List.append_assoc];rfl
   rw [e]
   exact layH_lns h0.2 (fun h1=>hf (.inr (.inl (by rw [h1];rfl)))) Zi
theorem layH_lns:∀ {ks:List Sexpr} {i j k m:Nat},XAllL XK ks→ks≠ []→j+k=i+1→Lns (List.replicate j 32++(List.replicate k 40++(layH 80 ks i++List.replicate m 41)))
 | [],_,_,_,_,_,h,_=>absurd rfl h
 | x::r,i,j,k,m,h,_,hi=>by
  rw [XAllL] at h
  rw [layH]
  cases hr:r with
  | nil=>
   rw [layT,List.append_nil]
   exact lay_lns h.1 hi
  | cons y s=>
   obtain ⟨u,hu,hl⟩:=layT_lns (ks:=r) (i:=i+2) (m:=m) h.2 (by rw [hr];simp)
   have h1:=lay_lns (i:=i+1) (j:=j) (k:=k) (m:=0) h.1 hi
   rw [List.replicate_zero,List.append_nil] at h1
   have:=h1.append hl
   rw [← hr,hu]
   simpa only [List.append_assoc,List.cons_append] using this
theorem layT_lns:∀ {ks:List Sexpr} {i m:Nat},XAllL XK ks→ks≠ []→∃ u,layT 80 ks i=10::u∧Lns (u++List.replicate m 41)
 | [],_,_,_,h=>absurd rfl h
 | x::r,i,m,h,_=>by
  rw [XAllL] at h
  refine ⟨(List.replicate i 32++lay 80 x i)++layT 80 r i,by rw [layT,List.cons_append],?_⟩
  cases hr:r with
  | nil=>
   rw [layT,List.append_nil]
   have:=lay_lns (i:=i) (j:=i) (k:=0) (m:=m) h.1 Zi
   simpa only [List.replicate_zero,List.nil_append,List.append_assoc] using this
  | cons y s=>
   obtain ⟨u,hu,hl⟩:=layT_lns (ks:=r) (i:=i) (m:=m) h.2 (by rw [hr];simp)
   have h1:=lay_lns (i:=i) (j:=i) (k:=0) (m:=0) h.1 Zi
   simp only [List.replicate_zero,List.append_nil,List.nil_append] at h1
   have:=h1.append hl
   rw [← hr,hu]
   simpa only [List.append_assoc,List.cons_append] using this
end
end Go.Lx
set_option maxRecDepth 20000
namespace Go.Proofs.YtbhlgkibgajajaaGreatDoor
open Go.Lx Go.RowKit
attribute [local instance 10] Classical.propDecidable
theorem num_q {fz:FZ} {n:Int}:QFn Tryz.prog 20 [errV n] fz (.int .i64 n):=by
 by_cases h:n=0
 ·subst h
  refine GFn.quiet ?_
  rw [show errV 0=.nilIface from rfl]
  (refine GFn.of_wp Tryz.func20 rfl Tryz.ntmps20 rfl rfl (fun w0=>?_))
  ((repeat (first | refine zS ?_ | refine zA fun _=>?_)))
  (exact ret1 rfl rfl (Zb) rfl)
 ·refine GFn.quiet ?_
  rw [WN h]
  (refine GFn.of_wp Tryz.func20 rfl Tryz.ntmps20 rfl rfl (fun w0=>?_))
  ((repeat (first | refine zS ?_ | refine zA fun _=>?_)))
  (exact ret1 rfl rfl (Zb) rfl)
theorem is_q {fz:FZ} {n m:Int} (hm:m≠0):QFn Tryz.prog 10 [errV n,.int .i64 m] fz (.bool (decide (n=m))):=by
 by_cases h:n=0
 ·subst h
  refine GFn.quiet ?_
  rw [show errV 0=.nilIface from rfl]
  (refine GFn.of_wp Tryz.func10 rfl Tryz.ntmps10 rfl rfl (fun w0=>?_))
  ((repeat (first | refine zS ?_ | refine zA fun _=>?_)))
  (exact ret1 rfl rfl (Zb) (Ya (fun h=>hm h.symm)))
 ·refine GFn.quiet ?_
  rw [WN h]
  (refine GFn.of_wp Tryz.func10 rfl Tryz.ntmps10 rfl rfl (fun w0=>?_))
  ((repeat (first | refine zS ?_ | refine zA fun _=>?_)))
  (((refine zG ?_));refine Yj Zz Zz (by have:=num_q (fz:=fz) (n:=n);rw [WN h] at this;exact this) ?_)
  ((repeat (first | refine zS ?_ | refine zA fun _=>?_)))
  ((refine zG ?_;refine zC (fun c1=>?_) (fun c1=>?_)))
  ·((repeat (first | refine zS ?_ | refine zA fun _=>?_)))
   (exact ret1 rfl rfl (Zb) (Yw c1))
  ·((repeat (first | refine zS ?_ | refine zA fun _=>?_)))
   (exact ret1 rfl rfl (Zb) (Ya c1))
theorem YeB {fz:FZ} {x:Sexpr} {vk:Value} (h:Xd fz x vk) (hv:XVal x) (hT:TabF fz):
 QFn Tryz.prog 16 [.agg #[.int .i64 x.kind,.int .i64 x.value,.int .i64 x.line,.int .i64 x.column,.string x.text,vk],.nilIface] fz (.tuple #[.string (strOf (lay 80 x 0++ [10])),.nilIface]):=by
 obtain ⟨A,n,c,rfl,_⟩:=h.kids
 have hL:=YiD h hT
 rw [if_pos hv] at hL
 have hl:=YcF (w:=80) (i:=0) hv.1 (by have:=hv.2.1;omega)
 have hc:=hv.2.2
 refine GFn.quiet ?_
 (refine GFn.of_wp Tryz.func16 rfl Tryz.ntmps16 rfl rfl (fun w0=>?_))
 (refine Yr (Yp (Yb Zz (Xi _ Zz Zz (fun g0=>?_)))))
 ((repeat (first | refine zS ?_ | refine zA fun _=>?_)))
 (((refine zG ?_));refine Yj Zz Zz hL ?_)
 ((repeat (first | refine zS ?_ | refine zA fun _=>?_)))
 ((refine zG ?_));refine WA (b:=[10]) Zz Zz (by simp;omega) ?_
 ((repeat (first | refine zS ?_ | refine zA fun _=>?_)))
 exact ret2 rfl rfl rfl (Zb) rfl
theorem YdJ {fz:FZ} {x:Sexpr} {vk:Value} (h:Xd fz x vk):
 QFn Tryz.prog 16 [.agg #[.int .i64 x.kind,.int .i64 x.value,.int .i64 x.line,.int .i64 x.column,.string x.text,vk],.iface 47 (.int .i64 2)] fz (.tuple #[.string ⟨#[]⟩,.iface 47 (.int .i64 2)]):=by
 obtain ⟨A,n,c,rfl,_⟩:=h.kids
 refine GFn.quiet ?_
 (refine GFn.of_wp Tryz.func16 rfl Tryz.ntmps16 rfl rfl (fun w0=>?_))
 (refine Yr (Yp (Yb Zz (Xi _ Zz Zz (fun g0=>?_)))))
 ((repeat (first | refine zS ?_ | refine zA fun _=>?_)))
 exact ret2 rfl rfl rfl (Zb) rfl
noncomputable def txtV (P:Prop) (l:List UInt8):Value:=.tuple #[.string (if P then strOf l else ⟨#[]⟩),errV (if P then 0 else 2)]
theorem pdom_q {fz:FZ} {d:Domain} {v1 v2 v3 v4 v5 v6:Value} (h:DomainR fz d v1 v2 v3 v4 v5 v6) (hs:DomSm d) (hT:TabF fz):
 QFn Tryz.prog 8 [.agg #[.string d.name,v1,v2,v3,v4,v5,v6]] fz (txtV (Yer d∧XVal (domX d)) (lay 80 (domX d) 0++ [10])):=by
 obtain ⟨A1,n1,b1,rfl,i1⟩:=h.types
 obtain ⟨A2,n2,b2,rfl,i2⟩:=h.constants
 obtain ⟨A3,n3,b3,rfl,i3⟩:=h.predicates
 obtain ⟨A4,n4,b4,rfl,i4⟩:=h.functions
 obtain ⟨A5,n5,b5,rfl,i5⟩:=h.actions
 obtain ⟨A6,n6,b6,rfl,i6⟩:=h.duratives
 refine GFn.quiet ?_
 (refine GFn.of_wp Tryz.func8 rfl Tryz.ntmps8 rfl rfl (fun w0=>?_))
 (refine Yr (Yp (Yb Zz (Xi _ Zz Zz (fun g0=>?_)))))
 ((repeat (first | refine zS ?_ | refine zA fun _=>?_)))
 (refine Yb Zz (YB [] _ Zz Zz Zz (dWrite_q h hs) (fun v6 fz6 H6 hle6 hR6=>?_)))
 obtain ⟨rfl,u,y,rfl,hy,hyx⟩:=hR6
 obtain ⟨A7,m7,c7,rfl,hX7⟩:=hy.x
 by_cases hP:Yer d∧XVal (domX d)
 ·have e:=hyx hP
  subst e
  rw [if_pos hP,show errV 0=.nilIface from rfl]
  ((repeat (first | refine zS ?_ | refine zA fun _=>?_)))
  (((refine zG ?_));refine Yj Zz Zz (YeB hX7 hP.2 (hT.mono hle6)) ?_)
  ((repeat (first | refine zS ?_ | refine zA fun _=>?_)))
  exact ret2 rfl rfl rfl (Zb) (by rw [txtV,if_pos hP,if_pos hP];rfl)
 ·rw [if_neg hP,WN Zh]
  ((repeat (first | refine zS ?_ | refine zA fun _=>?_)))
  (((refine zG ?_));refine Yj Zz Zz (YdJ hX7) ?_)
  ((repeat (first | refine zS ?_ | refine zA fun _=>?_)))
  exact ret2 rfl rfl rfl (Zb) (by rw [txtV,if_neg hP,if_neg hP,WN Zh];rfl)
def AwkP:Prop:=∀ fz,TabF fz→QFn Tryz.prog 7 [] fz (.bool true)
end Go.Proofs.YtbhlgkibgajajaaGreatDoor
set_option maxRecDepth 20000
namespace Go.Proofs.YtbhlgkibgajajaaGreatDoor
open Go.Lx Go.RowKit
attribute [local instance 10] Classical.propDecidable
theorem right1_q {fz:FZ} {s:ByteArray} (hs:Short s):QFn Tryz.prog 163 [.string s] fz (.bool (decide (¬Xn s))):=by
 refine GFn.quiet ?_
 (refine GFn.of_wp Tryz.func163 rfl Tryz.ntmps163 rfl rfl (fun w0=>?_))
 ((repeat (first | refine zS ?_ | refine zA fun _=>?_)))
 (((refine zG ?_));refine Yz Zz Zz (W6 hs) (fun f1=>?_) (fun f1=>?_))
 ·((repeat (first | refine zS ?_ | refine zA fun _=>?_)))
  (exact ret1 rfl rfl (Zb) (Ya (fun h0=>h0 (of_decide_eq_true f1))))
 ·((repeat (first | refine zS ?_ | refine zA fun _=>?_)))
  (exact ret1 rfl rfl (Zb) (Yw (of_decide_eq_false f1)))
theorem YiY {fz:FZ} {a:Atom} {va:Value} (h:AtomR fz a va):QFn Tryz.prog 90 [.agg #[.string a.name,va]] fz (.bool (decide (GrdA a))):=by
 obtain ⟨A,n,c,rfl,ia⟩:=h.args
 refine GFn.quiet ?_
 (refine GFn.of_wp Tryz.func90 rfl Tryz.ntmps90 rfl rfl (fun w0=>?_))
 (refine Yr (Yp (Yb Zz (Xi _ Zz Zz (fun g0=>?_)))))
 ((repeat (first | refine zS ?_ | refine zA fun _=>?_)))
 (((refine zG ?_));refine Yz Zz Zz (W6 h.name) (fun f1=>?_) (fun f1=>?_))
 ·((repeat (first | refine zS ?_ | refine zA fun _=>?_)))
  (((refine zG ?_));refine Yz Zz Zz (Ybh ia (fun x hx=>right1_q hx)) (fun f2=>?_) (fun f2=>?_))
  ·((repeat (first | refine zS ?_ | refine zA fun _=>?_)))
   (exact ret1 rfl rfl (Zb) (Ya (fun h0=>by
    obtain ⟨x,hx,hx2⟩:=of_decide_eq_true f2
    exact hx2 (h0.2 x hx))))
  ·((repeat (first | refine zS ?_ | refine zA fun _=>?_)))
   (exact ret1 rfl rfl (Zb) (Yw ⟨of_decide_eq_true f1,fun x hx=>Classical.byContradiction fun h0=>of_decide_eq_false f2 ⟨x,hx,h0⟩⟩))
 ·((repeat (first | refine zS ?_ | refine zA fun _=>?_)))
  (exact ret1 rfl rfl (Zb) (Ya (fun h0=>of_decide_eq_false f1 h0.1)))
end Go.Proofs.YtbhlgkibgajajaaGreatDoor
set_option maxRecDepth 20000
namespace Go.Proofs.YtbhlgkibgajajaaGreatDoor
open Go.Lx Go.RowKit
attribute [local instance 10] Classical.propDecidable
set_option maxHeartbeats 1000000 in
theorem Ydw {fz:FZ} {a:Atom} {va:Value} (h:AtomR fz a va) (hn:a.args.length≤1000000000):
 GFn Tryz.prog 47 [.agg #[.string a.name,va]] fz [] (fun v fz' H'=>H'=[]∧SxIs fz' v (Xj a.name a.args)):=by
 obtain ⟨A,n,c,rfl,h1⟩:=h.args
 have l1:=h1.len
 (refine GFn.of_wp Tryz.func47 rfl Tryz.ntmps47 rfl rfl (fun w0=>?_))
 (refine Yr (Yp (Yb Zz (Xi _ Zz Zz (fun g0=>?_)))))
 ((repeat (first | refine zS ?_ | refine zA fun _=>?_)))
 rename_i g4
 (((refine zG ?_));refine Yj Zz Zz (Wo (s:=a.name)) ?_)
 refine Yb Zz (Yc T (cs:=Ym a.name) Zz Zz Zz Zz Zz Zz Zz Zz (fun gb=>?_))
 (((refine zG ?_));refine Yj Zz Zz Xu ?_)
 ((repeat (first | refine zS ?_ | refine zA fun _=>?_)))
 rename_i g5
 refine Wp.perm (Xm [0,2,1,3] rfl rfl) ?_
 refine YD (fun q σ fz' H'=>∃ (k:Nat) (v:Value) (Hs:HP),k≤n∧q=n - k∧σ=[(14,.int .i64 k),(13,.int .i64 n),(12,.slice A n c),(3,.pointer (some ⟨g5,0,none⟩)),(2,.pointer (some ⟨g4,0,none⟩))]∧fz=fz'∧
  H'=(g5,.cells #[.int .i64 3,.int .i64 0,.int .i64 0,.int .i64 0,.string ⟨#[]⟩,v] 64 (0,0))::(g4,.cells #[.int .i64 0,.int .i64 0,.int .i64 0,.int .i64 0,.string ⟨#[]⟩,.slice none 0 0] 64 (0,0))::Hs∧Grow YF 64 fz' v (k+1) Hs (Yd a.name::(a.args.take k).map Yd))
  ⟨0,_,[_],Nat.zero_le _,rfl,rfl,rfl,rfl,Grow.block (ys:=[(Yd a.name,Ym a.name)]) rfl rfl (by simpa using Yq h.name) rfl Zh⟩ (Zw) (Zb) ?_
 rintro q σ fz' H' ⟨k,v,Hs,hk,rfl,rfl,rfl,rfl,hO⟩
 ((repeat (first | refine zS ?_ | refine zA fun _=>?_)))
 ((refine zG ?_;refine zC (fun c1=>?_) (fun c1=>?_)))
 ·obtain ⟨x,hx⟩:=YG (l:=a.args) (k:=k) Zi
  obtain ⟨Av,cv,rfl,_,_⟩:=hO.form
  ((repeat (first | refine zS ?_ | refine zA fun _=>?_)))
  (((refine zG ?_));refine YA T k Zz Zz Zz Zz Zz Zz h1 (by first | rfl | omega) hx (fun p hp=>?_))
  (((refine zG ?_));refine Y9 T Zz Zz Zz hp (fun ix=>?_))
  ((repeat (first | refine zS ?_ | refine zA fun _=>?_)))
  (refine Wp.drawK (Hq:=[_,_]) T.mixed Zj Zj (Zb) ?_)
  ((repeat (first | refine zS ?_ | refine zA fun _=>?_)))
  (((refine zG ?_));refine Yj Zz Zz (Wo (s:=x)) ?_)
  unfold sxV
  (refine Ye ?_)
  (refine Ye ?_)
  ((repeat (first | refine zS ?_ | refine zA fun _=>?_)))
  (refine Ye ?_)
  (refine YR ⟨by kernel_rfl,?_⟩)
  refine Ys (Yc T (cs:=Ym x) Zz Zz Zz Zz Zz Zz Zz Zz (fun gb=>⟨(⟨Le.refl _,Zx⟩),?_⟩))
  refine Ys (Y3 T (Hr:=[_,_,_]) (d:=Yd x) Zz Zz Zz Zz Zz Zz Zz Zz (List.Perm.refl _) hO Yn (.head _) (Yq ix) (by show _*72≤_;omega) Zi (fun v' Hs' hO'=>⟨(⟨Le.refl _,Zx⟩),?_⟩))
  obtain ⟨Av',cv',rfl,_,_⟩:=hO'.form
  refine Ch.hard0 Zj (YT T Zz Zz Zz Zz Zz Zz ?_)
  refine Ch.done ?_
  ((repeat (first | refine zS ?_ | refine zA fun _=>?_)))
  exact YP ⟨k+1,_,Hs',by omega,rfl,rfl,rfl,rfl,hO'.of (by rw [List.take_add_one,hx];simp) rfl⟩ Zi (Zw) (Zb)
 ·have hk1:k=n:=by omega
  subst hk1
  obtain ⟨Av,cv,rfl,_,_⟩:=hO.form
  rw [List.take_of_length_le Zi] at hO
  ((repeat (first | refine zS ?_ | refine zA fun _=>?_)))
  refine Y4 T (i:=1) rfl Zz Zz Zz Zz Zz (fun fz3 hle3 hf3=>⟨rfl,?_⟩)
  obtain ⟨A',c',he,hsl⟩:=hO.sl hle3 (fun p hp=>hf3 p (by simp [hp])) Zi
  injection he with he1 he2 he3
  subst he1 he3
  exact XQ hsl
end Go.Proofs.YtbhlgkibgajajaaGreatDoor
set_option maxRecDepth 20000
namespace Go.Proofs.YtbhlgkibgajajaaGreatDoor
open Go.Lx Go.RowKit
attribute [local instance 10] Classical.propDecidable
theorem Yjz {fz:FZ} {A:Option Addr} {n c:Nat} {l:List Atom} {ff:FuncId} {p:Atom→Prop} [DecidablePred p] (h1:Sl atomL fz A n c l) (hq:∀ x va,AtomR fz x va→QFn Tryz.prog ff [.agg #[.string x.name,va]] fz (.bool (decide (p x)))):
 QFn Tryz.prog 164 [.slice A n c,.func (.func ff) #[] #[]] fz (.int .i64 (Ybk p l 0)):=by
 refine GFn.quiet ?_
 (refine GFn.of_wp Tryz.func164 rfl Tryz.ntmps164 rfl rfl (fun w0=>?_))
 have l1:=h1.len
 have hm:=h1.short
 ((repeat (first | refine zS ?_ | refine zA fun _=>?_)))
 (refine YD (fun q σ fz' H'=>∃ k:Nat,k≤n∧q=n - k∧σ=[(8,.int .i64 k),(7,.int .i64 n),(0,.slice A n c),(1,.func (.func ff) #[] #[])]∧fz=fz'∧H'=[]∧(∀ i,i<k→∀ x,l[i]?=some x→¬p x)) ⟨0,Nat.zero_le _,rfl,rfl,rfl,rfl,(fun i hi=>absurd hi Zi)⟩ (Zw) (Zb) ?_;rintro q σ fz' H' ⟨k,hk,rfl,rfl,rfl,rfl,hh⟩)
 ((repeat (first | refine zS ?_ | refine zA fun _=>?_)))
 ((refine zG ?_;refine zC (fun hlt=>?_) (fun hge=>?_)))
 ·((repeat (first | refine zS ?_ | refine zA fun _=>?_)))
  obtain ⟨x,hx⟩:=YG (l:=l) (k:=k) Zi
  (((refine zG ?_));refine YA T k Zz Zz Zz Zz Zz Zz h1 (by first | rfl | omega) hx (fun a ha=>?_))
  (((refine zG ?_));refine Yx T Zz Zz Zz ha Zz ?_)
  intro cs hcs
  obtain ⟨va,rfl,hR⟩:=WX hcs
  ((repeat (first | refine zS ?_ | refine zA fun _=>?_)))
  (((refine zG ?_));refine Ydn Zz Zz Zz (hq x va hR) (fun c1=>?_) (fun c1=>?_))
  ·((repeat (first | refine zS ?_ | refine zA fun _=>?_)))
   (exact ret1 rfl rfl (Zb) (by rw [Ycq hh hx c1,Int.zero_add]))
  ·((repeat (first | refine zS ?_ | refine zA fun _=>?_)))
   (exact YP ⟨k+1,by omega,rfl,rfl,rfl,rfl,(YZ hh hx c1)⟩ Zi (Zw) (Zb))
 ·((repeat (first | refine zS ?_ | refine zA fun _=>?_)))
  (exact ret1 rfl rfl (Zb) (by rw [Ybf (XW hh Zi)]))
theorem Ygt {fz:FZ} {A:Option Addr} {n c:Nat} {l:List Atom} {ff:FuncId} {p:Atom→Prop} [DecidablePred p] (h1:Sl atomL fz A n c l) (hq:∀ x va,AtomR fz x va→QFn Tryz.prog ff [.agg #[.string x.name,va]] fz (.bool (decide (p x)))):
 QFn Tryz.prog 91 [.slice A n c,.func (.func ff) #[] #[]] fz (.bool (decide (∃ x∈l,p x))):=by
 refine GFn.quiet ?_
 (refine GFn.of_wp Tryz.func91 rfl Tryz.ntmps91 rfl rfl (fun w0=>?_))
 ((repeat (first | refine zS ?_ | refine zA fun _=>?_)))
 (((refine zG ?_));refine Yj Zz Zz (Yjz h1 hq) ?_)
 ((refine zG ?_;refine zC (fun c1=>?_) (fun c1=>?_)))
 ·((repeat (first | refine zS ?_ | refine zA fun _=>?_)))
  (exact ret1 rfl rfl (Zb) (Yw ((WV (Int.le_refl 0)).1 c1)))
 ·((repeat (first | refine zS ?_ | refine zA fun _=>?_)))
  (exact ret1 rfl rfl (Zb) (Ya (fun h=>c1 ((WV (Int.le_refl 0)).2 h))))
theorem expr1_q {fz:FZ} {a:Atom} {va:Value} (h:AtomR fz a va):QFn Tryz.prog 92 [.agg #[.string a.name,va]] fz (.bool (decide (¬GrdA a))):=by
 have h0:=h
 obtain ⟨A,n,c,rfl,ia⟩:=h.args
 refine GFn.quiet ?_
 (refine GFn.of_wp Tryz.func92 rfl Tryz.ntmps92 rfl rfl (fun w0=>?_))
 (refine Yr (Yp (Yb Zz (Xi _ Zz Zz (fun g0=>?_)))))
 ((repeat (first | refine zS ?_ | refine zA fun _=>?_)))
 (((refine zG ?_));refine Yz Zz Zz (YiY h0) (fun f1=>?_) (fun f1=>?_))
 ·((repeat (first | refine zS ?_ | refine zA fun _=>?_)))
  (exact ret1 rfl rfl (Zb) (Ya (fun h0=>h0 (of_decide_eq_true f1))))
 ·((repeat (first | refine zS ?_ | refine zA fun _=>?_)))
  (exact ret1 rfl rfl (Zb) (Yw (of_decide_eq_false f1)))
end Go.Proofs.YtbhlgkibgajajaaGreatDoor
set_option maxRecDepth 20000
namespace Go.Proofs.YtbhlgkibgajajaaGreatDoor
open Go.Lx Go.RowKit
attribute [local instance 10] Classical.propDecidable
def YiB (v:Value_):Prop:=GrdA v.fluent∧YcB v.n
def Ydk (p:Problem):Prop:=Xn p.name∧Xn p.domain∧(∀ o∈p.objects,XD false o)∧(∀ v∈p.values,YiB v)∧∀ a∈p.init,GrdA a
set_option maxHeartbeats 2000000 in
theorem Yfp {fz:FZ} {p:Problem} {v1 v2 v3 v4 v5 v6 v7:Value} (h:ProblemR fz p v1 v2 v3 v4 v5 v6 v7):
 QFn Tryz.prog 43 [.agg #[.string p.name,.string p.domain,v1,v2,v3,.string p.goal.op,.string p.goal.name,v4,v5,v6,v7]] fz (.bool (decide (Ydk p))):=by
 obtain ⟨A1,n1,b1,rfl,io⟩:=h.objects
 obtain ⟨A2,n2,b2,rfl,ii⟩:=h.init
 obtain ⟨A3,n3,b3,rfl,iv⟩:=h.values
 obtain ⟨A4,n4,b4,rfl,_⟩:=h.goal.args
 obtain ⟨A5,n5,b5,rfl,_⟩:=h.goal.params
 obtain ⟨A6,n6,b6,rfl,_⟩:=h.goal.exprs
 obtain ⟨A7,n7,b7,rfl,_⟩:=h.goal.kids
 have lo:=io.len
 have lv:=iv.len
 have so:=io.short
 have sv:=iv.short
 refine GFn.quiet ?_
 (refine GFn.of_wp Tryz.func43 rfl Tryz.ntmps43 rfl rfl (fun w0=>?_))
 (refine Yr (Yp (Yb Zz (Xi _ Zz Zz (fun g0=>?_)))))
 ((repeat (first | refine zS ?_ | refine zA fun _=>?_)))
 (((refine zG ?_));refine Yz Zz Zz (W6 h.name) (fun f1=>?_) (fun f1=>?_))
 ·((repeat (first | refine zS ?_ | refine zA fun _=>?_)))
  (((refine zG ?_));refine Yz Zz Zz (W6 h.domain) (fun f2=>?_) (fun f2=>?_))
  ·((repeat (first | refine zS ?_ | refine zA fun _=>?_)))
   refine YD (fun q σ fz' H'=>∃ k:Nat,k≤n1∧q=n1 - k∧σ=[(20,.int .i64 k),(19,.int .i64 n1),(18,.slice A1 n1 b1),(1,.pointer (some ⟨g0,0,none⟩))]∧fz=fz'∧H'=[(g0,.cells #[.string p.name,.string p.domain,.slice A1 n1 b1,.slice A2 n2 b2,.slice A3 n3 b3,.string p.goal.op,.string p.goal.name,.slice A4 n4 b4,.slice A5 n5 b5,.slice A6 n6 b6,.slice A7 n7 b7] 38 (0,0))]∧(∀ i,i<k→∀ x,p.objects[i]?=some x→XD false x)) ⟨0,Nat.zero_le _,rfl,rfl,rfl,rfl,fun i hi=>absurd hi Zi⟩ (Zw) (Zb) ?_
   rintro q σ fz' H' ⟨k,hk,rfl,rfl,rfl,rfl,hh⟩
   ((repeat (first | refine zS ?_ | refine zA fun _=>?_)))
   ((refine zG ?_;refine zC (fun c1=>?_) (fun c1=>?_)))
   ·obtain ⟨x,hx⟩:=YG (l:=p.objects) (k:=k) Zi
    have bad:¬XD false x→¬Ydk p:=fun h0 h=>h0 (h.2.2.1 x (List.mem_of_getElem? hx))
    ((repeat (first | refine zS ?_ | refine zA fun _=>?_)))
    (((refine zG ?_));refine YA T k Zz Zz Zz Zz Zz Zz io (by first | rfl | omega) hx (fun a ha=>?_))
    (((refine zG ?_));refine Yx T Zz Zz Zz ha Zz ?_)
    intro cs hcs
    obtain ⟨rfl,hR⟩:=Xy hcs
    ((repeat (first | refine zS ?_ | refine zA fun _=>?_)))
    (((refine zG ?_));refine Yz Zz Zz (W6 hR.name) (fun f3=>?_) (fun f3=>?_))
    ·((repeat (first | refine zS ?_ | refine zA fun _=>?_)))
     (((refine zG ?_));refine Yz Zz Zz (W6 hR.typ) (fun f4=>?_) (fun f4=>?_))
     ·((repeat (first | refine zS ?_ | refine zA fun _=>?_)))
      exact YP ⟨k+1,by omega,rfl,rfl,rfl,rfl,YZ hh hx ⟨of_decide_eq_true f3,.inl (of_decide_eq_true f4)⟩⟩ Zi (Zw) (Zb)
     ·((repeat (first | refine zS ?_ | refine zA fun _=>?_)))
      ((refine zG ?_;refine zC (fun e1=>?_) (fun e1=>?_)))
      ·((repeat (first | refine zS ?_ | refine zA fun _=>?_)))
       (exact ret1 rfl rfl (Zb) (Ya (bad (fun h0=>h0.2.elim (of_decide_eq_false f4) e1))))
      ·((repeat (first | refine zS ?_ | refine zA fun _=>?_)))
       exact YP ⟨k+1,by omega,rfl,rfl,rfl,rfl,YZ hh hx ⟨of_decide_eq_true f3,.inr e1⟩⟩ Zi (Zw) (Zb)
    ·((repeat (first | refine zS ?_ | refine zA fun _=>?_)))
     (exact ret1 rfl rfl (Zb) (Ya (bad (fun h0=>of_decide_eq_false f3 h0.1))))
   ·have hO:=XW hh Zi
    ((repeat (first | refine zS ?_ | refine zA fun _=>?_)))
    refine YD (fun q σ fz' H'=>∃ k:Nat,k≤n3∧q=n3 - k∧σ=[(43,.int .i64 k),(42,.int .i64 n3),(41,.slice A3 n3 b3),(1,.pointer (some ⟨g0,0,none⟩))]∧fz=fz'∧H'=[(g0,.cells #[.string p.name,.string p.domain,.slice A1 n1 b1,.slice A2 n2 b2,.slice A3 n3 b3,.string p.goal.op,.string p.goal.name,.slice A4 n4 b4,.slice A5 n5 b5,.slice A6 n6 b6,.slice A7 n7 b7] 38 (0,0))]∧(∀ i,i<k→∀ x,p.values[i]?=some x→YiB x)) ⟨0,Nat.zero_le _,rfl,rfl,rfl,rfl,fun i hi=>absurd hi Zi⟩ (Zw) (Zb) ?_
    rintro q σ fz' H' ⟨k2,hk2,rfl,rfl,rfl,rfl,hh2⟩
    ((repeat (first | refine zS ?_ | refine zA fun _=>?_)))
    ((refine zG ?_;refine zC (fun c2=>?_) (fun c2=>?_)))
    ·obtain ⟨x,hx⟩:=YG (l:=p.values) (k:=k2) Zi
     have bad:¬YiB x→¬Ydk p:=fun h0 h=>h0 (h.2.2.2.1 x (List.mem_of_getElem? hx))
     ((repeat (first | refine zS ?_ | refine zA fun _=>?_)))
     (((refine zG ?_));refine YA T k2 Zz Zz Zz Zz Zz Zz iv (by first | rfl | omega) hx (fun a ha=>?_))
     (((refine zG ?_));refine Yx T Zz Zz Zz ha Zz ?_)
     intro cs hcs
     obtain ⟨w1,rfl,hR⟩:=YaY hcs
     have hA:=hR.fluent
     obtain ⟨U,w,z,rfl,_⟩:=hR.fluent.args
     ((repeat (first | refine zS ?_ | refine zA fun _=>?_)))
     (((refine zG ?_));refine YJ (vs:=[.string x.fluent.name,.slice U w z]) T 0 Zz Zz Zz Zz Zz Zz ?_)
     (((refine zG ?_));refine Yz Zz Zz (YiY hA) (fun f3=>?_) (fun f3=>?_))
     ·((repeat (first | refine zS ?_ | refine zA fun _=>?_)))
      ((((refine zG ?_;refine zC (fun m1=>?_) (fun m1=>?_)));(((repeat (first | refine zS ?_ | refine zA fun _=>?_)));(exact ret1 rfl rfl (Zb) (Ya (bad (fun h0=>by have:=h0.2.1;omega)))));((repeat (first | refine zS ?_ | refine zA fun _=>?_)))))
      ((((refine zG ?_;refine zC (fun m2=>?_) (fun m2=>?_)));(((repeat (first | refine zS ?_ | refine zA fun _=>?_)));(exact ret1 rfl rfl (Zb) (Ya (bad (fun h0=>by have:=h0.2.2;omega)))));((repeat (first | refine zS ?_ | refine zA fun _=>?_)))))
      exact YP ⟨k2+1,by omega,rfl,rfl,rfl,rfl,YZ hh2 hx ⟨of_decide_eq_true f3,by omega,by omega⟩⟩ Zi (Zw) (Zb)
     ·((repeat (first | refine zS ?_ | refine zA fun _=>?_)))
      (exact ret1 rfl rfl (Zb) (Ya (bad (fun h0=>of_decide_eq_false f3 h0.1))))
    ·have hV:=XW hh2 Zi
     ((repeat (first | refine zS ?_ | refine zA fun _=>?_)))
     (((refine zG ?_));refine Yz Zz Zz (Ygt ii (fun x va hx=>expr1_q hx)) (fun f3=>?_) (fun f3=>?_))
     ·((repeat (first | refine zS ?_ | refine zA fun _=>?_)))
      (exact ret1 rfl rfl (Zb) (Ya (fun h0=>by
       obtain ⟨x,hx,hx2⟩:=of_decide_eq_true f3
       exact hx2 (h0.2.2.2.2 x hx))))
     ·((repeat (first | refine zS ?_ | refine zA fun _=>?_)))
      (exact ret1 rfl rfl (Zb) (Yw ⟨of_decide_eq_true f1,of_decide_eq_true f2,hO,hV,fun x hx=>Classical.byContradiction fun h0=>of_decide_eq_false f3 ⟨x,hx,h0⟩⟩))
  ·((repeat (first | refine zS ?_ | refine zA fun _=>?_)))
   (exact ret1 rfl rfl (Zb) (Ya (fun h0=>of_decide_eq_false f2 h0.2.1)))
 ·((repeat (first | refine zS ?_ | refine zA fun _=>?_)))
  (exact ret1 rfl rfl (Zb) (Ya (fun h0=>of_decide_eq_false f1 h0.1)))
end Go.Proofs.YtbhlgkibgajajaaGreatDoor
