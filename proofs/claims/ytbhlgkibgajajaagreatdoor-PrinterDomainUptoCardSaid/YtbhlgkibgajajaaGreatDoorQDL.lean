/- The texts PRefJ, PRefK, PRefL, PWalkP, laid together. Conditions: none. -/
import Derived.Test.YtbhlgkibgajajaaGreatDoorQDF
import Derived.Test.YtbhlgkibgajajaaGreatDoorQDG
import Derived.Test.YtbhlgkibgajajaaGreatDoorQDI
import Derived.Test.YtbhlgkibgajajaaGreatDoorQDB
import Derived.Test.YtbhlgkibgajajaaGreatDoorQDC
import Derived.Test.YtbhlgkibgajajaaGreatDoorQDD
import Derived.Test.YtbhlgkibgajajaaGreatDoorQDE
import Derived.Test.YtbhlgkibgajajaaGreatDoorQDH
import Derived.Test.YtbhlgkibgajajaaGreatDoorQDK
import Derived.Test.YtbhlgkibgajajaaGreatDoorQDJ
set_option maxRecDepth 20000
namespace Go.Proofs.YtbhlgkibgajajaaGreatDoor
open Go.Lx Go.RowKit
attribute [local instance 10] Classical.propDecidable
def ChF (c:Change):Prop:=(Num5 c.kind→EShape c.value)∧(¬(c.when_.op=kAnd∧c.when_.kids=[])→FShape c.when_)∧(c.when_.op=kAnd∧c.when_.kids=[]→c.when_=Xr)∧c.args.length≤1000000000∧c.params.length≤1000000000
set_option maxHeartbeats 2000000 in
theorem Yi4 {fz:FZ} {c:Change} {v1 v2 v3 v4 v5 v6 v7 v8:Value} (h:ChangeR fz c v1 v2 v3 v4 v5 v6 v7 v8) (hs:ChF c):
 GFn Tryz.prog 156 [.agg #[.int .i64 c.kind,v1,.string c.when_.op,.string c.when_.name,v2,v3,v4,v5,.string c.name,v6,.string c.value.op,.string c.value.name,.int .i64 c.value.n,v7,v8]] fz [] (fun v fz' H'=>H'=[]∧SxIs fz' v (chX c)):=by
 obtain ⟨hE,hF,hT,hn,hpn⟩:=hs
 obtain ⟨A1,n1,b1,rfl,ip⟩:=h.params
 obtain ⟨A2,n2,b2,rfl,iw1⟩:=h.when_.args
 obtain ⟨A3,n3,b3,rfl,iw2⟩:=h.when_.params
 obtain ⟨A4,n4,b4,rfl,iw3⟩:=h.when_.exprs
 obtain ⟨A5,n5,b5,rfl,iw4⟩:=h.when_.kids
 obtain ⟨A6,n6,b6,rfl,ia⟩:=h.args
 obtain ⟨A7,n7,b7,rfl,iv1⟩:=h.value.args
 obtain ⟨A8,n8,b8,rfl,iv2⟩:=h.value.kids
 have lp:=ip.len
 (refine GFn.of_wp Tryz.func156 rfl Tryz.ntmps156 rfl rfl (fun w0=>?_))
 (refine Yp (Yq (Yc Zz (Xl _ Zz Zz (fun g0=>?_)))))
 ((repeat (first | refine zS ?_ | refine zA fun _=>?_)))
 rename_i g2
 (refine Yc Zz (Yr [] _ Zz Zz Zz (Yc6 (f:=YfQ c.name c.args) ⟨by show kAtom.size≤_;decide,h.name,ia.is,IsSl.nil,IsSl.nil,IsSl.nil⟩ (.atom (.inl rfl) hn)) (fun v fz1 H1 hle1 hR1=>?_)))
 obtain ⟨rfl,cs0,rfl,hr0⟩:=hR1
 obtain ⟨vy0,rfl,hY0⟩:=Yl hr0
 obtain ⟨Ay0,ny0,by0,rfl,_⟩:=hY0.kids
 have e0:Y3 (YfQ c.name c.args)=X3 c.name c.args:=by rw [YaS,if_pos (show (YfQ c.name c.args).op=kAtom from rfl)];rfl
 clear hr0
 generalize Y3 (YfQ c.name c.args)=y0 at e0 hY0 ⊢
 ((repeat (first | refine zSO ?_ | refine zA fun _=>?_)))
 rename_i g3
 refine Yp (Wp.mid (fun σ fz' H'=>∃ (y:Sexpr) (Ay:Option Addr) (ny by_:Nat),σ=[(3,.pointer (some ⟨g3,0,none⟩)),(2,.pointer (some ⟨g2,0,none⟩)),(1,.pointer (some ⟨g0,0,none⟩))]∧Le fz1 fz'∧H'=[(g3,.cells #[.int .i64 y.kind,.int .i64 y.value,.int .i64 y.line,.int .i64 y.column,.string y.text,.slice Ay ny by_] 64 (0,0)),(g2,.cells #[.int .i64 0,.int .i64 0,.int .i64 0,.int .i64 0,.string ⟨#[]⟩,.slice none 0 0] 64 (0,0)),(g0,.cells #[.int .i64 c.kind,.slice A1 n1 b1,.string c.when_.op,.string c.when_.name,.slice A2 n2 b2,.slice A3 n3 b3,.slice A4 n4 b4,.slice A5 n5 b5,.string c.name,.slice A6 n6 b6,.string c.value.op,.string c.value.name,.int .i64 c.value.n,.slice A7 n7 b7,.slice A8 n8 b8] 77 (0,0))]∧Y9 fz' y (.slice Ay ny by_)∧y=chX1 c) ?_ ?_)
 ·((repeat (first | refine zS ?_ | refine zA fun _=>?_)))
  ((refine zG ?_;refine zC (fun k2=>?_) (fun k2=>?_)))
  ·have hx1:chX1 c=YE [Yg kNot,X3 c.name c.args]:=by unfold chX1;rw [if_pos k2]
   ((repeat (first | refine zS ?_ | refine zA fun _=>?_)))
   refine Yc Zz (Yd T (cs:=[.int .i64 y0.kind,.int .i64 y0.value,.int .i64 y0.line,.int .i64 y0.column,.string y0.text,.slice Ay0 ny0 by0]) Zz Zz Zz Zz Zz Zz Zz Zz (fun gb=>?_))
   (first | refine Wp.freeze Zz (fun fz2 hl2 hg2=>?_) | refine Seq.freeze Zz (fun fz2 hl2 hg2=>?_))
   have hsl:Sl YH fz2 (some ⟨gb,0,none⟩) 1 1 [y0]:=XG (ys:=[(y0,_)]) hg2 (by simp;rfl) rfl (by simpa using Ye (hY0.mono hl2)) rfl Zh
   (refine Yc Zz (Yr [] _ Zz Zz Zz (Wc (s:=kNot) (YI Zh) hsl Zh) (fun v5 fz5 H5 hle5 hR5=>?_)))
   obtain ⟨rfl,cs5,rfl,hr5⟩:=hR5
   obtain ⟨vy5,rfl,hY5⟩:=Yl hr5
   obtain ⟨Ay5,ny5,by5,rfl,_⟩:=hY5.kids
   ((repeat (first | refine zS ?_ | refine zA fun _=>?_)))
   exact midN ⟨_,_,_,_,rfl,hl2.trans hle5,rfl,hY5,by rw [hx1,e0]⟩ (Zw) (Zb)
  ·((repeat (first | refine zS ?_ | refine zA fun _=>?_)))
   ((refine zG ?_;refine zC (fun k3=>?_) (fun k3=>?_)))
   ·have hn5:Num5 c.kind:=.inl k3
    have hx1:chX1 c=YE [Yg Yc0,X3 c.name c.args,YO c.value]:=by unfold chX1;rw [if_neg k2,if_pos hn5];unfold Yd5;rw [if_pos k3]
    ((repeat (first | refine zS ?_ | refine zA fun _=>?_)))
    (refine Wp.drawK (Hq:=[(g3,_),(g0,_)]) T.mixed Zj Zj (Zb) ?_)
    ((repeat (first | refine zS ?_ | refine zA fun _=>?_)))
    (((refine zG ?_));refine Yu (vs:=[.string c.value.op,.string c.value.name,.int .i64 c.value.n,.slice A7 n7 b7,.slice A8 n8 b8]) T 1 Zz Zz Zz Zz Zz Zz ?_)
    (refine Yb ?_)
    (refine Yb ?_)
    (refine Yb ?_)
    (refine Yb ?_)
    (refine YK ⟨by kernel_rfl,?_⟩)
    refine Yh (Yr [] _ Zz Zz Zz (Yeh (h.value.mono hle1) (hE hn5)) (fun v4 fz4 H4 hle4 hR4=>?_))
    obtain ⟨rfl,cs4,rfl,hr4⟩:=hR4
    obtain ⟨vk4,rfl,hY4⟩:=Yl hr4
    refine ⟨(⟨hle4,Zx⟩),?_⟩
    refine Yh (Yd T (cs:=[.int .i64 y0.kind,.int .i64 y0.value,.int .i64 y0.line,.int .i64 y0.column,.string y0.text,.slice Ay0 ny0 by0]++ [.int .i64 (YO c.value).kind,.int .i64 (YO c.value).value,.int .i64 (YO c.value).line,.int .i64 (YO c.value).column,.string (YO c.value).text,vk4]) Zz Zz Zz Zz Zz Zz Zz Zz (fun gb=>⟨(⟨hle4,Zx⟩),?_⟩))
    refine Yh (Does.freezeAll (H1:=[_,_,_]) (H2:=[(gb,_)]) (List.perm_append_comm (l₁:=[_])) (fun fz6 hl6 hg6=>?_))
    have hg7:=hg6 _ (.head _)
    have hsl:Sl YH fz6 (some ⟨gb,0,none⟩) 2 2 [y0,YO c.value]:=XG (ys:=[(y0,[.int .i64 y0.kind,.int .i64 y0.value,.int .i64 y0.line,.int .i64 y0.column,.string y0.text,.slice Ay0 ny0 by0]),(YO c.value,[.int .i64 (YO c.value).kind,.int .i64 (YO c.value).value,.int .i64 (YO c.value).line,.int .i64 (YO c.value).column,.string (YO c.value).text,vk4])]) hg7 (by simp) rfl (by
     intro p hp
     simp only [List.mem_cons,List.not_mem_nil,or_false] at hp
     rcases hp with rfl | rfl
     ·exact Ye (hY0.mono (hle4.trans hl6))
     ·exact Ye (hY4.mono hl6)) rfl Zh
    refine Yr [] _ Zz Zz Zz (Wc (s:=Yc0) (YI Zh) hsl Zh) (fun v5 fz5 H5 hle5 hR5=>?_)
    obtain ⟨rfl,cs5,rfl,hr5⟩:=hR5
    obtain ⟨vy5,rfl,hY5⟩:=Yl hr5
    obtain ⟨Ay5,ny5,by5,rfl,_⟩:=hY5.kids
    refine ⟨(⟨((hle4.trans hl6).trans hle5),Zx⟩),?_⟩
    refine Ch.hard0 Zj (Xa T Zz Zz Zz Zz Zz Zz ?_)
    refine Ch.done ?_
    ((repeat (first | refine zS ?_ | refine zA fun _=>?_)))
    exact midN ⟨_,_,_,_,rfl,(hle4.trans hl6).trans hle5,rfl,hY5,by rw [hx1,e0]⟩ (Zw) (Zb)
   ·((repeat (first | refine zS ?_ | refine zA fun _=>?_)))
    ((refine zG ?_;refine zC (fun k4=>?_) (fun k4=>?_)))
    ·have hn5:Num5 c.kind:=.inr (.inl k4)
     have hx1:chX1 c=YE [Yg Ya3,X3 c.name c.args,YO c.value]:=by unfold chX1;rw [if_neg k2,if_pos hn5];unfold Yd5;rw [if_neg k3,if_pos k4]
     ((repeat (first | refine zS ?_ | refine zA fun _=>?_)))
     (refine Wp.drawK (Hq:=[(g3,_),(g0,_)]) T.mixed Zj Zj (Zb) ?_)
     ((repeat (first | refine zS ?_ | refine zA fun _=>?_)))
     (((refine zG ?_));refine Yu (vs:=[.string c.value.op,.string c.value.name,.int .i64 c.value.n,.slice A7 n7 b7,.slice A8 n8 b8]) T 1 Zz Zz Zz Zz Zz Zz ?_)
     (refine Yb ?_)
     (refine Yb ?_)
     (refine Yb ?_)
     (refine Yb ?_)
     (refine YK ⟨by kernel_rfl,?_⟩)
     refine Yh (Yr [] _ Zz Zz Zz (Yeh (h.value.mono hle1) (hE hn5)) (fun v4 fz4 H4 hle4 hR4=>?_))
     obtain ⟨rfl,cs4,rfl,hr4⟩:=hR4
     obtain ⟨vk4,rfl,hY4⟩:=Yl hr4
     refine ⟨(⟨hle4,Zx⟩),?_⟩
     refine Yh (Yd T (cs:=[.int .i64 y0.kind,.int .i64 y0.value,.int .i64 y0.line,.int .i64 y0.column,.string y0.text,.slice Ay0 ny0 by0]++ [.int .i64 (YO c.value).kind,.int .i64 (YO c.value).value,.int .i64 (YO c.value).line,.int .i64 (YO c.value).column,.string (YO c.value).text,vk4]) Zz Zz Zz Zz Zz Zz Zz Zz (fun gb=>⟨(⟨hle4,Zx⟩),?_⟩))
     refine Yh (Does.freezeAll (H1:=[_,_,_]) (H2:=[(gb,_)]) (List.perm_append_comm (l₁:=[_])) (fun fz6 hl6 hg6=>?_))
     have hg7:=hg6 _ (.head _)
     have hsl:Sl YH fz6 (some ⟨gb,0,none⟩) 2 2 [y0,YO c.value]:=XG (ys:=[(y0,[.int .i64 y0.kind,.int .i64 y0.value,.int .i64 y0.line,.int .i64 y0.column,.string y0.text,.slice Ay0 ny0 by0]),(YO c.value,[.int .i64 (YO c.value).kind,.int .i64 (YO c.value).value,.int .i64 (YO c.value).line,.int .i64 (YO c.value).column,.string (YO c.value).text,vk4])]) hg7 (by simp) rfl (by
      intro p hp
      simp only [List.mem_cons,List.not_mem_nil,or_false] at hp
      rcases hp with rfl | rfl
      ·exact Ye (hY0.mono (hle4.trans hl6))
      ·exact Ye (hY4.mono hl6)) rfl Zh
     refine Yr [] _ Zz Zz Zz (Wc (s:=Ya3) (YI Zh) hsl Zh) (fun v5 fz5 H5 hle5 hR5=>?_)
     obtain ⟨rfl,cs5,rfl,hr5⟩:=hR5
     obtain ⟨vy5,rfl,hY5⟩:=Yl hr5
     obtain ⟨Ay5,ny5,by5,rfl,_⟩:=hY5.kids
     refine ⟨(⟨((hle4.trans hl6).trans hle5),Zx⟩),?_⟩
     refine Ch.hard0 Zj (Xa T Zz Zz Zz Zz Zz Zz ?_)
     refine Ch.done ?_
     ((repeat (first | refine zS ?_ | refine zA fun _=>?_)))
     exact midN ⟨_,_,_,_,rfl,(hle4.trans hl6).trans hle5,rfl,hY5,by rw [hx1,e0]⟩ (Zw) (Zb)
    ·((repeat (first | refine zS ?_ | refine zA fun _=>?_)))
     ((refine zG ?_;refine zC (fun k5=>?_) (fun k5=>?_)))
     ·have hn5:Num5 c.kind:=.inr (.inr k5)
      have hx1:chX1 c=YE [Yg Ya4,X3 c.name c.args,YO c.value]:=by unfold chX1;rw [if_neg k2,if_pos hn5];unfold Yd5;rw [if_neg k3,if_neg k4]
      ((repeat (first | refine zS ?_ | refine zA fun _=>?_)))
      (refine Wp.drawK (Hq:=[(g3,_),(g0,_)]) T.mixed Zj Zj (Zb) ?_)
      ((repeat (first | refine zS ?_ | refine zA fun _=>?_)))
      (((refine zG ?_));refine Yu (vs:=[.string c.value.op,.string c.value.name,.int .i64 c.value.n,.slice A7 n7 b7,.slice A8 n8 b8]) T 1 Zz Zz Zz Zz Zz Zz ?_)
      (refine Yb ?_)
      (refine Yb ?_)
      (refine Yb ?_)
      (refine Yb ?_)
      (refine YK ⟨by kernel_rfl,?_⟩)
      refine Yh (Yr [] _ Zz Zz Zz (Yeh (h.value.mono hle1) (hE hn5)) (fun v4 fz4 H4 hle4 hR4=>?_))
      obtain ⟨rfl,cs4,rfl,hr4⟩:=hR4
      obtain ⟨vk4,rfl,hY4⟩:=Yl hr4
      refine ⟨(⟨hle4,Zx⟩),?_⟩
      refine Yh (Yd T (cs:=[.int .i64 y0.kind,.int .i64 y0.value,.int .i64 y0.line,.int .i64 y0.column,.string y0.text,.slice Ay0 ny0 by0]++ [.int .i64 (YO c.value).kind,.int .i64 (YO c.value).value,.int .i64 (YO c.value).line,.int .i64 (YO c.value).column,.string (YO c.value).text,vk4]) Zz Zz Zz Zz Zz Zz Zz Zz (fun gb=>⟨(⟨hle4,Zx⟩),?_⟩))
      refine Yh (Does.freezeAll (H1:=[_,_,_]) (H2:=[(gb,_)]) (List.perm_append_comm (l₁:=[_])) (fun fz6 hl6 hg6=>?_))
      have hg7:=hg6 _ (.head _)
      have hsl:Sl YH fz6 (some ⟨gb,0,none⟩) 2 2 [y0,YO c.value]:=XG (ys:=[(y0,[.int .i64 y0.kind,.int .i64 y0.value,.int .i64 y0.line,.int .i64 y0.column,.string y0.text,.slice Ay0 ny0 by0]),(YO c.value,[.int .i64 (YO c.value).kind,.int .i64 (YO c.value).value,.int .i64 (YO c.value).line,.int .i64 (YO c.value).column,.string (YO c.value).text,vk4])]) hg7 (by simp) rfl (by
       intro p hp
       simp only [List.mem_cons,List.not_mem_nil,or_false] at hp
       rcases hp with rfl | rfl
       ·exact Ye (hY0.mono (hle4.trans hl6))
       ·exact Ye (hY4.mono hl6)) rfl Zh
      refine Yr [] _ Zz Zz Zz (Wc (s:=Ya4) (YI Zh) hsl Zh) (fun v5 fz5 H5 hle5 hR5=>?_)
      obtain ⟨rfl,cs5,rfl,hr5⟩:=hR5
      obtain ⟨vy5,rfl,hY5⟩:=Yl hr5
      obtain ⟨Ay5,ny5,by5,rfl,_⟩:=hY5.kids
      refine ⟨(⟨((hle4.trans hl6).trans hle5),Zx⟩),?_⟩
      refine Ch.hard0 Zj (Xa T Zz Zz Zz Zz Zz Zz ?_)
      refine Ch.done ?_
      ((repeat (first | refine zS ?_ | refine zA fun _=>?_)))
      exact midN ⟨_,_,_,_,rfl,(hle4.trans hl6).trans hle5,rfl,hY5,by rw [hx1,e0]⟩ (Zw) (Zb)
     ·have hx1:chX1 c=X3 c.name c.args:=by unfold chX1 Num5;rw [if_neg k2,if_neg (fun h0=>h0.elim k3 (fun h0=>h0.elim k4 k5))]
      ((repeat (first | refine zS ?_ | refine zA fun _=>?_)))
      exact midN ⟨_,_,_,_,rfl,Le.refl _,rfl,hY0,by rw [hx1,e0]⟩ (Zw) (Zb)
 ·rintro σ fza H' ⟨y,Ay,ny,by_,rfl,hle2,rfl,hY,ey⟩
  refine Yp (Wp.mid (fun σ fz' H'=>∃ (y:Sexpr) (Ay:Option Addr) (ny by_:Nat),σ=[(3,.pointer (some ⟨g3,0,none⟩)),(2,.pointer (some ⟨g2,0,none⟩)),(1,.pointer (some ⟨g0,0,none⟩))]∧Le fza fz'∧H'=[(g3,.cells #[.int .i64 y.kind,.int .i64 y.value,.int .i64 y.line,.int .i64 y.column,.string y.text,.slice Ay ny by_] 64 (0,0)),(g2,.cells #[.int .i64 0,.int .i64 0,.int .i64 0,.int .i64 0,.string ⟨#[]⟩,.slice none 0 0] 64 (0,0)),(g0,.cells #[.int .i64 c.kind,.slice A1 n1 b1,.string c.when_.op,.string c.when_.name,.slice A2 n2 b2,.slice A3 n3 b3,.slice A4 n4 b4,.slice A5 n5 b5,.string c.name,.slice A6 n6 b6,.string c.value.op,.string c.value.name,.int .i64 c.value.n,.slice A7 n7 b7,.slice A8 n8 b8] 77 (0,0))]∧Y9 fz' y (.slice Ay ny by_)∧y=chX2 c) ?_ ?_)
  ·have hW:=h.when_.mono (hle1.trans hle2)
   ((repeat (first | refine zS ?_ | refine zA fun _=>?_)))
   (((refine zG ?_));refine Yu (vs:=[.string c.when_.op,.string c.when_.name,.slice A2 n2 b2,.slice A3 n3 b3,.slice A4 n4 b4,.slice A5 n5 b5]) T 2 Zz Zz Zz Zz Zz Zz ?_)
   (((refine zG ?_));refine Yx Zz Zz (YdP hW) (fun f1=>?_) (fun f1=>?_))
   ·have ht:=hT (of_decide_eq_true f1)
    ((repeat (first | refine zS ?_ | refine zA fun _=>?_)))
    exact midN ⟨_,_,_,_,rfl,Le.refl _,rfl,hY,by rw [chX2,if_pos ht,ey]⟩ (Zw) (Zb)
   ·have ht:¬c.when_=Xr:=fun h0=>of_decide_eq_false f1 (by rw [h0];exact ⟨rfl,rfl⟩)
    ((repeat (first | refine zS ?_ | refine zA fun _=>?_)))
    (refine Wp.drawK (Hq:=[(g3,_),(g0,_)]) T.mixed Zj Zj (Zb) ?_)
    ((repeat (first | refine zS ?_ | refine zA fun _=>?_)))
    (((refine zG ?_));refine Yu (vs:=[.string c.when_.op,.string c.when_.name,.slice A2 n2 b2,.slice A3 n3 b3,.slice A4 n4 b4,.slice A5 n5 b5]) T 1 Zz Zz Zz Zz Zz Zz ?_)
    (refine Yb ?_)
    ((repeat (first | refine zS ?_ | refine zA fun _=>?_)))
    (refine Yb ?_)
    (refine Yb ?_)
    (refine Yb ?_)
    (refine YK ⟨by kernel_rfl,?_⟩)
    refine Yh (Yr [] _ Zz Zz Zz (Yc6 hW (hF (of_decide_eq_false f1))) (fun v4 fz4 H4 hle4 hR4=>?_))
    obtain ⟨rfl,cs4,rfl,hr4⟩:=hR4
    obtain ⟨vk4,rfl,hY4⟩:=Yl hr4
    refine ⟨(⟨hle4,Zx⟩),?_⟩
    refine Yh (Yd T (cs:=[.int .i64 (Y3 c.when_).kind,.int .i64 (Y3 c.when_).value,.int .i64 (Y3 c.when_).line,.int .i64 (Y3 c.when_).column,.string (Y3 c.when_).text,vk4]++ [.int .i64 y.kind,.int .i64 y.value,.int .i64 y.line,.int .i64 y.column,.string y.text,.slice Ay ny by_]) Zz Zz Zz Zz Zz Zz Zz Zz (fun gb=>⟨(⟨hle4,Zx⟩),?_⟩))
    refine Yh (Does.freezeAll (H1:=[_,_,_]) (H2:=[(gb,_)]) (List.perm_append_comm (l₁:=[_])) (fun fz6 hl6 hg6=>?_))
    have hg7:=hg6 _ (.head _)
    have hsl:Sl YH fz6 (some ⟨gb,0,none⟩) 2 2 [Y3 c.when_,y]:=XG (ys:=[(Y3 c.when_,[.int .i64 (Y3 c.when_).kind,.int .i64 (Y3 c.when_).value,.int .i64 (Y3 c.when_).line,.int .i64 (Y3 c.when_).column,.string (Y3 c.when_).text,vk4]),(y,[.int .i64 y.kind,.int .i64 y.value,.int .i64 y.line,.int .i64 y.column,.string y.text,.slice Ay ny by_])]) hg7 (by simp) rfl (by
     intro p hp
     simp only [List.mem_cons,List.not_mem_nil,or_false] at hp
     rcases hp with rfl | rfl
     ·exact Ye (hY4.mono hl6)
     ·exact Ye (hY.mono (hle4.trans hl6))) rfl Zh
    refine Yr [] _ Zz Zz Zz (Wc (s:=YiD) (YI Zh) hsl Zh) (fun v5 fz5 H5 hle5 hR5=>?_)
    obtain ⟨rfl,cs5,rfl,hr5⟩:=hR5
    obtain ⟨vy5,rfl,hY5⟩:=Yl hr5
    obtain ⟨Ay5,ny5,by5,rfl,_⟩:=hY5.kids
    refine ⟨(⟨((hle4.trans hl6).trans hle5),Zx⟩),?_⟩
    refine Ch.hard0 Zj (Xa T Zz Zz Zz Zz Zz Zz ?_)
    refine Ch.done ?_
    ((repeat (first | refine zS ?_ | refine zA fun _=>?_)))
    exact midN ⟨_,_,_,_,rfl,(hle4.trans hl6).trans hle5,rfl,hY5,by rw [chX2,if_neg ht,ey]⟩ (Zw) (Zb)
  ·rintro σ fzb H' ⟨y,Ay,ny,by_,rfl,hle3,rfl,hY,ey⟩
   refine Yp (Wp.mid (fun σ fz' H'=>∃ (y:Sexpr) (Ay:Option Addr) (ny by_:Nat),σ=[(3,.pointer (some ⟨g3,0,none⟩)),(2,.pointer (some ⟨g2,0,none⟩)),(1,.pointer (some ⟨g0,0,none⟩))]∧Le fzb fz'∧H'=[(g3,.cells #[.int .i64 y.kind,.int .i64 y.value,.int .i64 y.line,.int .i64 y.column,.string y.text,.slice Ay ny by_] 64 (0,0)),(g2,.cells #[.int .i64 0,.int .i64 0,.int .i64 0,.int .i64 0,.string ⟨#[]⟩,.slice none 0 0] 64 (0,0)),(g0,.cells #[.int .i64 c.kind,.slice A1 n1 b1,.string c.when_.op,.string c.when_.name,.slice A2 n2 b2,.slice A3 n3 b3,.slice A4 n4 b4,.slice A5 n5 b5,.string c.name,.slice A6 n6 b6,.string c.value.op,.string c.value.name,.int .i64 c.value.n,.slice A7 n7 b7,.slice A8 n8 b8] 77 (0,0))]∧Y9 fz' y (.slice Ay ny by_)∧y=chX c) ?_ ?_)
   ·have hp:=ip.mono ((hle1.trans hle2).trans hle3)
    ((repeat (first | refine zS ?_ | refine zA fun _=>?_)))
    ((refine zG ?_;refine zC (fun p0=>?_) (fun p0=>?_)))
    ·have hp0:¬c.params=[]:=fun h0=>by rw [h0] at lp;simp at lp;omega
     ((repeat (first | refine zS ?_ | refine zA fun _=>?_)))
     (refine Wp.drawK (Hq:=[(g3,_),(g0,_)]) T.mixed Zj Zj (Zb) ?_)
     ((repeat (first | refine zS ?_ | refine zA fun _=>?_)))
     (refine Yb ?_)
     (refine Yb ?_)
     ((repeat (first | refine zS ?_ | refine zA fun _=>?_)))
     (refine Yb ?_)
     (refine Yb ?_)
     (refine Yb ?_)
     (refine YK ⟨by kernel_rfl,?_⟩)
     refine Yh (Yr [] _ Zz Zz Zz (Yag hp Zi) (fun v4 fz4 H4 hle4 hR4=>?_))
     obtain ⟨rfl,B4,cc4,rfl,hsl4⟩:=hR4
     refine ⟨(⟨hle4,Zx⟩),?_⟩
     refine Ch.qk (⟨hle4,Zx⟩) (WV T Zz Zz Zz Zz Zz ?_)
     refine Yh (Yd T (cs:=[.int .i64 3,.int .i64 0,.int .i64 0,.int .i64 0,.string ⟨#[]⟩,.slice B4 (3*n1) cc4]++ [.int .i64 y.kind,.int .i64 y.value,.int .i64 y.line,.int .i64 y.column,.string y.text,.slice Ay ny by_]) Zz Zz Zz Zz Zz Zz Zz Zz (fun gb=>⟨(⟨hle4,Zx⟩),?_⟩))
     refine Yh (Does.freezeAll (H1:=[_,_,_]) (H2:=[(gb,_)]) (List.perm_append_comm (l₁:=[_])) (fun fz6 hl6 hg6=>?_))
     have hg7:=hg6 _ (.head _)
     have hsl:Sl YH fz6 (some ⟨gb,0,none⟩) 2 2 [YE ((c.params.flatMap Xw).map Yg),y]:=XG (ys:=[(YE ((c.params.flatMap Xw).map Yg),[.int .i64 3,.int .i64 0,.int .i64 0,.int .i64 0,.string ⟨#[]⟩,.slice B4 (3*n1) cc4]),(y,[.int .i64 y.kind,.int .i64 y.value,.int .i64 y.line,.int .i64 y.column,.string y.text,.slice Ay ny by_])]) hg7 (by simp) rfl (by
      intro p hp
      simp only [List.mem_cons,List.not_mem_nil,or_false] at hp
      rcases hp with rfl | rfl
      ·exact Ye (Wz (hsl4.mono hl6))
      ·exact Ye (hY.mono (hle4.trans hl6))) rfl Zh
     refine Yr [] _ Zz Zz Zz (Wc (s:=XC) (YI Zh) hsl Zh) (fun v5 fz5 H5 hle5 hR5=>?_)
     obtain ⟨rfl,cs5,rfl,hr5⟩:=hR5
     obtain ⟨vy5,rfl,hY5⟩:=Yl hr5
     obtain ⟨Ay5,ny5,by5,rfl,_⟩:=hY5.kids
     refine ⟨(⟨((hle4.trans hl6).trans hle5),Zx⟩),?_⟩
     refine Ch.hard0 Zj (Xa T Zz Zz Zz Zz Zz Zz ?_)
     refine Ch.done ?_
     ((repeat (first | refine zS ?_ | refine zA fun _=>?_)))
     exact midN ⟨_,_,_,_,rfl,(hle4.trans hl6).trans hle5,rfl,hY5,by rw [chX,if_neg hp0,ey]⟩ (Zw) (Zb)
    ·have hp0:c.params=[]:=List.eq_nil_of_length_eq_zero Zi
     ((repeat (first | refine zS ?_ | refine zA fun _=>?_)))
     exact midN ⟨_,_,_,_,rfl,Le.refl _,rfl,hY,by rw [chX,if_pos hp0,ey]⟩ (Zw) (Zb)
   ·rintro σ fzc H' ⟨y,Ay,ny,by_,rfl,hle5,rfl,hY,ey⟩
    ((repeat (first | refine zS ?_ | refine zA fun _=>?_)))
    refine Y5 T (i:=1) rfl Zz Zz Zz Zz Zz (fun fz3 hle3 hf3=>⟨rfl,?_⟩)
    rw [← ey]
    exact ⟨_,rfl,Ye (hY.mono hle3)⟩
   end Go.Proofs.YtbhlgkibgajajaaGreatDoor
set_option maxRecDepth 20000
namespace Go.Proofs.YtbhlgkibgajajaaGreatDoor
open Go.Lx Go.RowKit
attribute [local instance 10] Classical.propDecidable
set_option maxHeartbeats 1000000 in
theorem Yel {fz:FZ} {A:Option Addr} {n ca:Nat} {l:List Change} (h1:Sl changeL fz A n ca l) (hn:n≤1000000000) (hs:∀ c∈l,ChF c):
 GFn Tryz.prog 85 [.slice A n ca] fz [] (fun v fz' H'=>H'=[]∧SxIs fz' v (effX l)):=by
 have l1:=h1.len
 (refine GFn.of_wp Tryz.func85 rfl Tryz.ntmps85 rfl rfl (fun w0=>?_))
 ((repeat (first | refine zS ?_ | refine zA fun _=>?_)))
 rename_i g2
 ((refine zG ?_;refine zC (fun c0=>?_) (fun c0=>?_)))
 ·have hl:l=[]:=List.eq_nil_of_length_eq_zero Zi
  ((repeat (first | refine zS ?_ | refine zA fun _=>?_)))
  refine Y5 T (i:=0) rfl Zz Zz Zz Zz Zz (fun fz3 hle3 hf3=>⟨rfl,?_⟩)
  rw [effX,if_pos hl]
  exact XU (Sl.nil Zh)
 ·have hl:¬l=[]:=fun h0=>by rw [h0] at l1;simp at l1;omega
  ((repeat (first | refine zS ?_ | refine zA fun _=>?_)))
  refine YG (fun q σ fz' H'=>∃ (k:Nat) (v:Value) (Hs:HP),k≤n∧q=n - k∧σ=[(4,.int .i64 k),(3,v),(2,.pointer (some ⟨g2,0,none⟩)),(0,.slice A n ca)]∧Le fz fz'∧
   H'=(g2,.cells #[.int .i64 0,.int .i64 0,.int .i64 0,.int .i64 0,.string ⟨#[]⟩,.slice none 0 0] 64 (0,0))::Hs∧Grow YH 64 fz' v k Hs ((l.take k).map chX))
   ⟨0,_,[],Nat.zero_le _,rfl,rfl,Le.refl _,rfl,Grow.nil _ _ _⟩ (Zw) (Zb) ?_
  rintro q σ fz' H' ⟨k,v,Hs,hk,rfl,rfl,hle,rfl,hG⟩
  obtain ⟨Av,cv,rfl,_,_⟩:=hG.form
  have h2:=h1.mono hle
  ((repeat (first | refine zS ?_ | refine zA fun _=>?_)))
  ((refine zG ?_;refine zC (fun c1=>?_) (fun c1=>?_)))
  ·obtain ⟨x,hx⟩:=YF (l:=l) (k:=k) Zi
   ((repeat (first | refine zS ?_ | refine zA fun _=>?_)))
   (((refine zG ?_));refine YB T k Zz Zz Zz Zz Zz Zz h2 (by first | rfl | omega) hx (fun p hp=>?_))
   (((refine zG ?_));refine Yz T Zz Zz Zz hp Zz ?_)
   intro cs hcs
   obtain ⟨v1,v2,v3,v4,v5,v6,v7,v8,rfl,hR⟩:=We hcs
   (refine Yc Zz (Yr [] _ Zz Zz Zz (Yi4 hR (hs x (List.mem_of_getElem? hx))) (fun v9 fz4 H4 hle4 hR4=>?_)))
   obtain ⟨rfl,cs4,rfl,hr4⟩:=hR4
   obtain ⟨vk4,rfl,hY4⟩:=Yl hr4
   refine Yc Zz (Yd T (cs:=[.int .i64 (chX x).kind,.int .i64 (chX x).value,.int .i64 (chX x).line,.int .i64 (chX x).column,.string (chX x).text,vk4]) Zz Zz Zz Zz Zz Zz Zz Zz (fun gb=>?_))
   refine Yc Zz (Xc T (Hr:=[_,_]) (d:=chX x) Zz Zz Zz Zz Zz Zz Zz Zz (List.Perm.refl _) (hG.mono hle4) Yn (.head _) (Ye hY4) (by show _*72≤_;omega) Zi (fun v' Hs' hO'=>?_))
   obtain ⟨Av',cv',rfl,_,_⟩:=hO'.form
   ((repeat (first | refine zS ?_ | refine zA fun _=>?_)))
   exact YP ⟨k+1,_,Hs',by omega,rfl,rfl,hle.trans hle4,rfl,hO'.of (by rw [List.take_add_one,hx];simp) rfl⟩ Zi (Zw) (Zb)
  ·have hk1:n=k:=by omega
   subst hk1
   rw [List.take_of_length_le Zi] at hG
   ((repeat (first | refine zS ?_ | refine zA fun _=>?_)))
   refine Seq.freezeAll (H1:=[_]) (H2:=Hs) (List.Perm.refl _) (fun fz3 hl3 hf3=>?_)
   obtain ⟨A',c',he,hsl⟩:=hG.sl hl3 hf3 Zi
   injection he with he1 he2 he3
   subst he1 he3
   (refine Yc Zz (Yr [] _ Zz Zz Zz (Wc (s:=kAnd) (YI Zh) hsl Zi) (fun v5 fz5 H5 hle5 hR5=>?_)))
   obtain ⟨rfl,cs5,rfl,hr5⟩:=hR5
   obtain ⟨vk5,rfl,hY5⟩:=Yl hr5
   obtain ⟨Ay5,ny5,by5,rfl,_⟩:=hY5.kids
   ((repeat (first | refine zS ?_ | refine zA fun _=>?_)))
   refine Y5 T (i:=0) rfl Zz Zz Zz Zz Zz (fun fz6 hle6 hf6=>⟨rfl,?_⟩)
   rw [effX,if_neg hl]
   exact ⟨_,rfl,Ye (hY5.mono hle6)⟩
end Go.Proofs.YtbhlgkibgajajaaGreatDoor
set_option maxRecDepth 20000
namespace Go.Proofs.YtbhlgkibgajajaaGreatDoor
open Go.Lx Go.RowKit
attribute [local instance 10] Classical.propDecidable
end Go.Proofs.YtbhlgkibgajajaaGreatDoor
set_option maxRecDepth 20000
namespace Go.Proofs.YtbhlgkibgajajaaGreatDoor
open Go.Lx Go.RowKit
attribute [local instance 10] Classical.propDecidable
def Xj:ByteArray:=⟨#[100,101,102,105,110,101]⟩
def YN:ByteArray:=⟨#[100,111,109,97,105,110]⟩
def Wr:ByteArray:=⟨#[58,116,121,112,101,115]⟩
def Xb:ByteArray:=⟨#[58,99,111,110,115,116,97,110,116,115]⟩
def Y6:ByteArray:=⟨#[58,112,114,101,100,105,99,97,116,101,115]⟩
def Xf:ByteArray:=⟨#[58,102,117,110,99,116,105,111,110,115]⟩
noncomputable def grp (kw:ByteArray) (ks:List Sexpr):List Sexpr:=if ks=[] then [] else [YE (Yg kw::ks)]
def Xd (l:List Param):List Sexpr:=(l.flatMap Xw).map Yg
def Yan (p:Predicate):Sexpr:=YE (Yg p.name::Xd p.params)
def funX (f:Function):Sexpr:=YE (Yg f.name::Xd f.params++ [numE f.lo,numE f.hi])
def Yet (p:Predicate):Prop:=Xq p.name∧∀ q∈p.params,Xz true q
def YiO (f:Function):Prop:=Xq f.name∧∀ q∈f.params,Xz true q
noncomputable def domX (d:Domain):Sexpr:=YE ([Yg Xj,YE [Yg YN,Yg d.name]]++grp Wr (Xd d.types)++grp Xb (Xd d.constants)++grp Y6 (d.predicates.map Yan)++grp Xf (d.functions.map funX)++d.actions.map actX++d.duratives.map durX)
def YcP (d:Domain):Prop:=Xq d.name∧(∀ p∈d.types,Xz false p)∧(∀ p∈d.constants,Xz false p)∧(∀ p∈d.predicates,Yet p)∧(∀ f∈d.functions,YiO f)∧(∀ x∈d.actions,YgN x)∧(∀ x∈d.duratives,YgE x)
structure DomSm (d:Domain):Prop where
 types:d.types.length≤1000000000
 constants:d.constants.length≤1000000000
 predicates:d.predicates.length≤1000000000
 predp:∀ p∈d.predicates,p.params.length≤1000000000
 functions:d.functions.length≤1000000000
 funp:∀ f∈d.functions,f.params.length≤1000000000
 actions:d.actions.length≤1000000000
 acts:∀ x∈d.actions,actSm x
 duratives:d.duratives.length≤1000000000
 durs:∀ x∈d.duratives,durSm x
theorem Yjm {l:List Param}:(Xd l).length=3*l.length:=by simp only [Xd,List.length_map,Yb3]
set_option maxHeartbeats 8000000 in
theorem dWrite_q {fz:FZ} {d:Domain} {v1 v2 v3 v4 v5 v6:Value} (h:DomainR fz d v1 v2 v3 v4 v5 v6) (hs:DomSm d):
 GFn Tryz.prog 17 [.agg #[.string d.name,v1,v2,v3,v4,v5,v6]] fz [] (WrR (YcP d∧XVal (domX d)) (domX d)):=by
 obtain ⟨A1,n1,c1,rfl,i1⟩:=h.types
 obtain ⟨A2,n2,c2,rfl,i2⟩:=h.constants
 obtain ⟨A3,n3,c3,rfl,i3⟩:=h.predicates
 obtain ⟨A4,n4,c4,rfl,i4⟩:=h.functions
 obtain ⟨A5,n5,c5,rfl,i5⟩:=h.actions
 obtain ⟨A6,n6,c6,rfl,i6⟩:=h.duratives
 have k1:=i1.len
 have k2:=i2.len
 have k3:=i3.len
 have k4:=i4.len
 have k5:=i5.len
 have k6:=i6.len
 have m1:=hs.types
 have m2:=hs.constants
 have m3:=hs.predicates
 have m4:=hs.functions
 have m5:=hs.actions
 have m6:=hs.duratives
 (refine GFn.of_wp Tryz.func17 rfl Tryz.ntmps17 rfl rfl (fun w0=>?_))
 (refine Yp (Yq (Yc Zz (Xl _ Zz Zz (fun g1=>?_)))))
 ((repeat (first | refine zSO ?_ | refine zA fun _=>?_)))
 rename_i g2
 refine Yp (Yq ?_)
 ((repeat (first | refine zSO ?_ | refine zA fun _=>?_)))
 rename_i g
 refine Yp (Wp.mid (fun σ fz' H'=>∃ (bb:Bool) (g5:Nat) (v:Value) (Hs:HP),σ=[(5,.pointer (some ⟨g5,0,none⟩)),(4,.pointer (some ⟨g,0,none⟩)),(2,.pointer (some ⟨g2,0,none⟩)),(1,.pointer (some ⟨g1,0,none⟩))]∧Le fz fz'∧H'=(g,wrO bb)::(g1,.cells #[.string d.name,.slice A1 n1 c1,.slice A2 n2 c2,.slice A3 n3 c3,.slice A4 n4 c4,.slice A5 n5 c5,.slice A6 n6 c6] 28 (0,0))::(g2,.cells #[.int .i64 0,.int .i64 0,.int .i64 0,.int .i64 0,.string ⟨#[]⟩,.slice none 0 0] 64 (0,0))::(g5,lsO v)::Hs∧Grow YH 64 fz' v 2 Hs [Yg Xj,YE [Yg YN,Yg d.name]]∧(bb=false↔Xq d.name)) ?_ ?_)
 ·(refine Wp.drawP [] (Hq:=[(g2,_),(g1,_)]) T.mixed Zj Zj (Zb) ?_)
  (((refine zG ?_));refine Yj Zz Zz (WB (s:=Xj)) ?_)
  (((refine zG ?_));refine Yj Zz Zz (WB (s:=YN)) ?_)
  unfold sxV
  ((repeat (first | refine zS ?_ | refine zA fun _=>?_)))
  (refine YC ?_)
  (refine YC ?_)
  (refine YC ?_)
  (refine YC ?_)
  (refine YC ?_)
  (refine YC ?_)
  (refine YC ?_)
  (refine PK.done ⟨by kernel_rfl,?_⟩)
  (refine Y4 Zz Zz Zz ?_ ?_)
  ·refine Yo (Does.perm (X6 [0,1,2] Zz Zz) (Yr [_] _ Zz Zz Zz (Yba (b:=false) h.name) (fun v6 fz6 H6 hle6 hR6=>?_)))
   obtain ⟨_,rfl,b1,rfl,hb1⟩:=hR6
   refine ⟨(⟨hle6,Zx⟩),?_⟩
   unfold sxV
   (refine Y4 Zz Zz Zz ?_ ?_)
   ·refine Yo (Yd T (cs:=Yw YN++Yw d.name) Zz Zz Zz Zz Zz Zz Zz Zz (fun gb=>⟨(⟨hle6,Zx⟩),?_⟩))
    (refine Y4 Zz Zz Zz ?_ ?_)
    ·refine PoS.qk (⟨hle6,Zx⟩) (Yj Zz Zz Y7 ?_)
     unfold sxV
     (refine Y4 Zz Zz Zz ?_ ?_)
     ·refine Yo (Yd T (cs:=Yw Xj++ [.int .i64 3,.int .i64 0,.int .i64 0,.int .i64 0,.string ⟨#[]⟩,.slice (some ⟨gb,0,none⟩) 2 2]) Zz Zz Zz Zz Zz Zz Zz Zz (fun gc=>⟨(⟨hle6,Zx⟩),?_⟩))
      (refine Y4 Zz Zz Zz ?_ ?_)
      ·refine PoS.qk (⟨hle6,Zx⟩) (Yj Zz Zz Y7 ?_)
       unfold sxV
       (refine Yk Zz Zz ?_)
       refine Yo (WA T Zz Zz (fun g5=>⟨(⟨hle6,Zx⟩),?_⟩))
       (refine Yk Zz Zz ?_)
       refine PoS.hard0 Zj (Does.perm (X6 [0,3,5,4,1,2] Zz Zz) (Xa T Zz Zz Zz Zz Zz Zz ?_))
       refine Po.done ?_
       ((repeat (first | refine zS ?_ | refine zA fun _=>?_)))
       refine midF (H':=[(g,wrO b1),(g1,_),(g2,_),(g5,_),(gc,_)]) (H2:=[(gb,_)]) (X6 [1,2,3,0,4,5] Zz Zz) (fun fz3 hl3 hf3=>⟨b1,g5,_,[(gc,_)],rfl,hle6.trans hl3,rfl,Grow.block (m:=2) (ys:=[(Yg Xj,Yw Xj),(YE [Yg YN,Yg d.name],[.int .i64 3,.int .i64 0,.int .i64 0,.int .i64 0,.string ⟨#[]⟩,.slice (some ⟨gb,0,none⟩) 2 2])]) rfl rfl ?_ rfl Zh,by rw [hb1];simp⟩) (Zw)
       have hg:=hf3 _ (.head _)
       intro p hp
       simp only [List.mem_cons,List.not_mem_nil,or_false] at hp
       rcases hp with rfl | rfl
       ·exact Yt (YI Zh)
       ·exact Ye (Wz (XG (ys:=[(Yg YN,Yw YN),(Yg d.name,Yw d.name)]) hg rfl rfl (by intro p hp;simp only [List.mem_cons,List.not_mem_nil,or_false] at hp;rcases hp with rfl | rfl;exact Yt (YI Zh);exact Yt h.name) rfl Zh))
      ·refine Yo (WA T Zz Zz (fun g5=>⟨(⟨hle6,Zx⟩),?_⟩))
       (refine Yk Zz Zz ?_)
       refine PoS.qk (⟨hle6,Zx⟩) (Yj Zz Zz Y7 ?_)
       unfold sxV
       (refine Yk Zz Zz ?_)
       refine PoS.hard0 Zj (Does.perm (X6 [0,3,5,4,1,2] Zz Zz) (Xa T Zz Zz Zz Zz Zz Zz ?_))
       refine Po.done ?_
       ((repeat (first | refine zS ?_ | refine zA fun _=>?_)))
       refine midF (H':=[(g,wrO b1),(g1,_),(g2,_),(g5,_),(gc,_)]) (H2:=[(gb,_)]) (X6 [1,2,3,0,4,5] Zz Zz) (fun fz3 hl3 hf3=>⟨b1,g5,_,[(gc,_)],rfl,hle6.trans hl3,rfl,Grow.block (m:=2) (ys:=[(Yg Xj,Yw Xj),(YE [Yg YN,Yg d.name],[.int .i64 3,.int .i64 0,.int .i64 0,.int .i64 0,.string ⟨#[]⟩,.slice (some ⟨gb,0,none⟩) 2 2])]) rfl rfl ?_ rfl Zh,by rw [hb1];simp⟩) (Zw)
       have hg:=hf3 _ (.head _)
       intro p hp
       simp only [List.mem_cons,List.not_mem_nil,or_false] at hp
       rcases hp with rfl | rfl
       ·exact Yt (YI Zh)
       ·exact Ye (Wz (XG (ys:=[(Yg YN,Yw YN),(Yg d.name,Yw d.name)]) hg rfl rfl (by intro p hp;simp only [List.mem_cons,List.not_mem_nil,or_false] at hp;rcases hp with rfl | rfl;exact Yt (YI Zh);exact Yt h.name) rfl Zh))
     ·refine Yo (WA T Zz Zz (fun g5=>⟨(⟨hle6,Zx⟩),?_⟩))
      (refine Yk Zz Zz ?_)
      refine Yo (Yd T (cs:=Yw Xj++ [.int .i64 3,.int .i64 0,.int .i64 0,.int .i64 0,.string ⟨#[]⟩,.slice (some ⟨gb,0,none⟩) 2 2]) Zz Zz Zz Zz Zz Zz Zz Zz (fun gc=>⟨(⟨hle6,Zx⟩),?_⟩))
      (refine Yk Zz Zz ?_)
      refine PoS.qk (⟨hle6,Zx⟩) (Yj Zz Zz Y7 ?_)
      unfold sxV
      (refine Yk Zz Zz ?_)
      refine PoS.hard0 Zj (Does.perm (X6 [1,3,5,4,0,2] Zz Zz) (Xa T Zz Zz Zz Zz Zz Zz ?_))
      refine Po.done ?_
      ((repeat (first | refine zS ?_ | refine zA fun _=>?_)))
      refine midF (H':=[(g,wrO b1),(g1,_),(g2,_),(g5,_),(gc,_)]) (H2:=[(gb,_)]) (X6 [1,2,3,0,4,5] Zz Zz) (fun fz3 hl3 hf3=>⟨b1,g5,_,[(gc,_)],rfl,hle6.trans hl3,rfl,Grow.block (m:=2) (ys:=[(Yg Xj,Yw Xj),(YE [Yg YN,Yg d.name],[.int .i64 3,.int .i64 0,.int .i64 0,.int .i64 0,.string ⟨#[]⟩,.slice (some ⟨gb,0,none⟩) 2 2])]) rfl rfl ?_ rfl Zh,by rw [hb1];simp⟩) (Zw)
      have hg:=hf3 _ (.head _)
      intro p hp
      simp only [List.mem_cons,List.not_mem_nil,or_false] at hp
      rcases hp with rfl | rfl
      ·exact Yt (YI Zh)
      ·exact Ye (Wz (XG (ys:=[(Yg YN,Yw YN),(Yg d.name,Yw d.name)]) hg rfl rfl (by intro p hp;simp only [List.mem_cons,List.not_mem_nil,or_false] at hp;rcases hp with rfl | rfl;exact Yt (YI Zh);exact Yt h.name) rfl Zh))
    ·refine Yo (WA T Zz Zz (fun g5=>⟨(⟨hle6,Zx⟩),?_⟩))
     (refine Yk Zz Zz ?_)
     refine PoS.qk (⟨hle6,Zx⟩) (Yj Zz Zz Y7 ?_)
     unfold sxV
     (refine Yk Zz Zz ?_)
     refine Yo (Yd T (cs:=Yw Xj++ [.int .i64 3,.int .i64 0,.int .i64 0,.int .i64 0,.string ⟨#[]⟩,.slice (some ⟨gb,0,none⟩) 2 2]) Zz Zz Zz Zz Zz Zz Zz Zz (fun gc=>⟨(⟨hle6,Zx⟩),?_⟩))
     (refine Yk Zz Zz ?_)
     refine PoS.qk (⟨hle6,Zx⟩) (Yj Zz Zz Y7 ?_)
     unfold sxV
     (refine Yk Zz Zz ?_)
     refine PoS.hard0 Zj (Does.perm (X6 [1,3,5,4,0,2] Zz Zz) (Xa T Zz Zz Zz Zz Zz Zz ?_))
     refine Po.done ?_
     ((repeat (first | refine zS ?_ | refine zA fun _=>?_)))
     refine midF (H':=[(g,wrO b1),(g1,_),(g2,_),(g5,_),(gc,_)]) (H2:=[(gb,_)]) (X6 [1,2,3,0,4,5] Zz Zz) (fun fz3 hl3 hf3=>⟨b1,g5,_,[(gc,_)],rfl,hle6.trans hl3,rfl,Grow.block (m:=2) (ys:=[(Yg Xj,Yw Xj),(YE [Yg YN,Yg d.name],[.int .i64 3,.int .i64 0,.int .i64 0,.int .i64 0,.string ⟨#[]⟩,.slice (some ⟨gb,0,none⟩) 2 2])]) rfl rfl ?_ rfl Zh,by rw [hb1];simp⟩) (Zw)
     have hg:=hf3 _ (.head _)
     intro p hp
     simp only [List.mem_cons,List.not_mem_nil,or_false] at hp
     rcases hp with rfl | rfl
     ·exact Yt (YI Zh)
     ·exact Ye (Wz (XG (ys:=[(Yg YN,Yw YN),(Yg d.name,Yw d.name)]) hg rfl rfl (by intro p hp;simp only [List.mem_cons,List.not_mem_nil,or_false] at hp;rcases hp with rfl | rfl;exact Yt (YI Zh);exact Yt h.name) rfl Zh))
   ·refine Yo (WA T Zz Zz (fun g5=>⟨(⟨hle6,Zx⟩),?_⟩))
    (refine Yk Zz Zz ?_)
    refine Yo (Yd T (cs:=Yw YN++Yw d.name) Zz Zz Zz Zz Zz Zz Zz Zz (fun gb=>⟨(⟨hle6,Zx⟩),?_⟩))
    (refine Yk Zz Zz ?_)
    refine PoS.qk (⟨hle6,Zx⟩) (Yj Zz Zz Y7 ?_)
    unfold sxV
    (refine Yk Zz Zz ?_)
    refine Yo (Yd T (cs:=Yw Xj++ [.int .i64 3,.int .i64 0,.int .i64 0,.int .i64 0,.string ⟨#[]⟩,.slice (some ⟨gb,0,none⟩) 2 2]) Zz Zz Zz Zz Zz Zz Zz Zz (fun gc=>⟨(⟨hle6,Zx⟩),?_⟩))
    (refine Yk Zz Zz ?_)
    refine PoS.qk (⟨hle6,Zx⟩) (Yj Zz Zz Y7 ?_)
    unfold sxV
    (refine Yk Zz Zz ?_)
    refine PoS.hard0 Zj (Does.perm (X6 [2,3,5,4,0,1] Zz Zz) (Xa T Zz Zz Zz Zz Zz Zz ?_))
    refine Po.done ?_
    ((repeat (first | refine zS ?_ | refine zA fun _=>?_)))
    refine midF (H':=[(g,wrO b1),(g1,_),(g2,_),(g5,_),(gc,_)]) (H2:=[(gb,_)]) (X6 [1,2,3,0,4,5] Zz Zz) (fun fz3 hl3 hf3=>⟨b1,g5,_,[(gc,_)],rfl,hle6.trans hl3,rfl,Grow.block (m:=2) (ys:=[(Yg Xj,Yw Xj),(YE [Yg YN,Yg d.name],[.int .i64 3,.int .i64 0,.int .i64 0,.int .i64 0,.string ⟨#[]⟩,.slice (some ⟨gb,0,none⟩) 2 2])]) rfl rfl ?_ rfl Zh,by rw [hb1];simp⟩) (Zw)
    have hg:=hf3 _ (.head _)
    intro p hp
    simp only [List.mem_cons,List.not_mem_nil,or_false] at hp
    rcases hp with rfl | rfl
    ·exact Yt (YI Zh)
    ·exact Ye (Wz (XG (ys:=[(Yg YN,Yw YN),(Yg d.name,Yw d.name)]) hg rfl rfl (by intro p hp;simp only [List.mem_cons,List.not_mem_nil,or_false] at hp;rcases hp with rfl | rfl;exact Yt (YI Zh);exact Yt h.name) rfl Zh))
  ·refine Yo (WA T Zz Zz (fun g5=>⟨(⟨(Le.refl _),Zx⟩),?_⟩))
   (refine Yk Zz Zz ?_)
   refine Yo (Does.perm (X6 [1,0,2,3] Zz Zz) (Yr [_] _ Zz Zz Zz (Yba (b:=false) h.name) (fun v6 fz6 H6 hle6 hR6=>?_)))
   obtain ⟨_,rfl,b1,rfl,hb1⟩:=hR6
   refine ⟨(⟨hle6,Zx⟩),?_⟩
   unfold sxV
   (refine Yk Zz Zz ?_)
   refine Yo (Yd T (cs:=Yw YN++Yw d.name) Zz Zz Zz Zz Zz Zz Zz Zz (fun gb=>⟨(⟨hle6,Zx⟩),?_⟩))
   (refine Yk Zz Zz ?_)
   refine PoS.qk (⟨hle6,Zx⟩) (Yj Zz Zz Y7 ?_)
   unfold sxV
   (refine Yk Zz Zz ?_)
   refine Yo (Yd T (cs:=Yw Xj++ [.int .i64 3,.int .i64 0,.int .i64 0,.int .i64 0,.string ⟨#[]⟩,.slice (some ⟨gb,0,none⟩) 2 2]) Zz Zz Zz Zz Zz Zz Zz Zz (fun gc=>⟨(⟨hle6,Zx⟩),?_⟩))
   (refine Yk Zz Zz ?_)
   refine PoS.qk (⟨hle6,Zx⟩) (Yj Zz Zz Y7 ?_)
   unfold sxV
   (refine Yk Zz Zz ?_)
   refine PoS.hard0 Zj (Does.perm (X6 [3,2,5,4,0,1] Zz Zz) (Xa T Zz Zz Zz Zz Zz Zz ?_))
   refine Po.done ?_
   ((repeat (first | refine zS ?_ | refine zA fun _=>?_)))
   refine midF (H':=[(g,wrO b1),(g1,_),(g2,_),(g5,_),(gc,_)]) (H2:=[(gb,_)]) (X6 [1,2,3,0,4,5] Zz Zz) (fun fz3 hl3 hf3=>⟨b1,g5,_,[(gc,_)],rfl,hle6.trans hl3,rfl,Grow.block (m:=2) (ys:=[(Yg Xj,Yw Xj),(YE [Yg YN,Yg d.name],[.int .i64 3,.int .i64 0,.int .i64 0,.int .i64 0,.string ⟨#[]⟩,.slice (some ⟨gb,0,none⟩) 2 2])]) rfl rfl ?_ rfl Zh,by rw [hb1];simp⟩) (Zw)
   have hg:=hf3 _ (.head _)
   intro p hp
   simp only [List.mem_cons,List.not_mem_nil,or_false] at hp
   rcases hp with rfl | rfl
   ·exact Yt (YI Zh)
   ·exact Ye (Wz (XG (ys:=[(Yg YN,Yw YN),(Yg d.name,Yw d.name)]) hg rfl rfl (by intro p hp;simp only [List.mem_cons,List.not_mem_nil,or_false] at hp;rcases hp with rfl | rfl;exact Yt (YI Zh);exact Yt h.name) rfl Zh))
 ·rintro σ fz1 H' ⟨b0,g5,w0',Hs0,rfl,hle0,rfl,hG0,hb0⟩
  have hys0:b0=false→[Yg Xj,YE [Yg YN,Yg d.name]]=[Yg Xj,YE [Yg YN,Yg d.name]]:=fun _=>rfl
  ((repeat (first | refine zS ?_ | refine zA fun _=>?_)))
  refine Yc Zz (Yr [_] _ Zz Zz Zz (WR (vars:=false) (i1.mono hle0) Zi) (fun v6 fy3 H6 hly3 hR6=>?_))
  obtain ⟨_,⟨B3,cc3,rfl,hsl3⟩,bb3,rfl,hc3⟩:=hR6
  refine Yc Zz (Does.perm (H':=((g5,_)::Hs0)++ [_,_,_]) List.perm_append_comm (Does.after (Yr ((g5,_)::Hs0) _ Zz Zz Zz (YfA (kw:=Wr) (hG0.mono hly3) hsl3 (YI Zh) Zi Zi) (fun v7 fz_3 H7 hlz3 hR7=>?_))))
  obtain ⟨_,_,v_3,n_3,Hs_3,rfl,hG_3,hn_3⟩:=hR7
  refine ⟨(g,wrO bb3)::(g1,_)::(g2,_)::(g5,lsO v_3)::Hs_3,List.perm_append_comm (l₁:=[_,_,_]) (l₂:=(g5,lsO v_3)::Hs_3),?_⟩
  replace hG_3:Grow YH 64 fz_3 v_3 n_3 Hs_3 ([Yg Xj,YE [Yg YN,Yg d.name]]++grp Wr (Xd d.types)):=hG_3
  obtain ⟨l_3,hl3⟩:∃ l',l'=[Yg Xj,YE [Yg YN,Yg d.name]]++grp Wr (Xd d.types):=⟨_,rfl⟩
  rw [← hl3] at hG_3
  have hle_3:=(hle0.trans hly3).trans hlz3
  have hb_3:bb3=false↔Xq d.name∧(∀ p∈d.types,Xz false p):=by rw [hc3,hb0]<;>simp only [and_assoc]
  have hys_3:bb3=false→l_3=[Yg Xj,YE [Yg YN,Yg d.name]]++grp Wr (Xd d.types):=fun h0=>by rw [hl3]
  ((repeat (first | refine zS ?_ | refine zA fun _=>?_)))
  refine Yc Zz (Yr [_] _ Zz Zz Zz (WR (vars:=false) (i2.mono hle_3) Zi) (fun v6 fy4 H6 hly4 hR6=>?_))
  obtain ⟨_,⟨B4,cc4,rfl,hsl4⟩,bb4,rfl,hc4⟩:=hR6
  refine Yc Zz (Does.perm (H':=((g5,_)::Hs_3)++ [_,_,_]) List.perm_append_comm (Does.after (Yr ((g5,_)::Hs_3) _ Zz Zz Zz (YfA (kw:=Xb) (hG_3.mono hly4) hsl4 (YI Zh) Zi Zi) (fun v7 fz_4 H7 hlz4 hR7=>?_))))
  obtain ⟨_,_,v_4,n_4,Hs_4,rfl,hG_4,hn_4⟩:=hR7
  refine ⟨(g,wrO bb4)::(g1,_)::(g2,_)::(g5,lsO v_4)::Hs_4,List.perm_append_comm (l₁:=[_,_,_]) (l₂:=(g5,lsO v_4)::Hs_4),?_⟩
  replace hG_4:Grow YH 64 fz_4 v_4 n_4 Hs_4 (l_3++grp Xb (Xd d.constants)):=hG_4
  obtain ⟨l_4,hl4⟩:∃ l',l'=l_3++grp Xb (Xd d.constants):=⟨_,rfl⟩
  rw [← hl4] at hG_4
  have hle_4:=(hle_3.trans hly4).trans hlz4
  have hb_4:bb4=false↔Xq d.name∧(∀ p∈d.types,Xz false p)∧(∀ p∈d.constants,Xz false p):=by rw [hc4,hb_3]<;>simp only [and_assoc]
  have hys_4:bb4=false→l_4=[Yg Xj,YE [Yg YN,Yg d.name]]++grp Wr (Xd d.types)++grp Xb (Xd d.constants):=fun h0=>by rw [hl4,hys_3 (hc4.1 h0).1]
  ((repeat (first | refine zS ?_ | refine zA fun _=>?_)))
  refine YG (fun q σ fz' H'=>∃ (k:Nat) (b':Bool) (vp:Value) (Hp:HP) (ys:List Sexpr),k≤n3∧q=n3 - k∧σ=[(42,.int .i64 k),(41,.int .i64 n3),(40,.slice A3 n3 c3),(7,.slice none 0 0),(6,vp),(5,.pointer (some ⟨g5,0,none⟩)),(4,.pointer (some ⟨g,0,none⟩)),(2,.pointer (some ⟨g2,0,none⟩)),(1,.pointer (some ⟨g1,0,none⟩))]∧Le fz_4 fz'∧H'=(g,wrO b')::(g1,.cells #[.string d.name,.slice A1 n1 c1,.slice A2 n2 c2,.slice A3 n3 c3,.slice A4 n4 c4,.slice A5 n5 c5,.slice A6 n6 c6] 28 (0,0))::(g2,.cells #[.int .i64 0,.int .i64 0,.int .i64 0,.int .i64 0,.string ⟨#[]⟩,.slice none 0 0] 64 (0,0))::(g5,lsO v_4)::(Hs_4++Hp)∧Grow YH 64 fz' vp k Hp ys∧(b'=false↔bb4=false∧∀ i,i<k→∀ x,d.predicates[i]?=some x→Yet x)∧(b'=false→ys=(d.predicates.take k).map Yan)) (H0:=(g,wrO bb4)::(g1,.cells #[.string d.name,.slice A1 n1 c1,.slice A2 n2 c2,.slice A3 n3 c3,.slice A4 n4 c4,.slice A5 n5 c5,.slice A6 n6 c6] 28 (0,0))::(g2,.cells #[.int .i64 0,.int .i64 0,.int .i64 0,.int .i64 0,.string ⟨#[]⟩,.slice none 0 0] 64 (0,0))::(g5,lsO v_4)::(Hs_4++ [])) ⟨0,bb4,_,[],[],Nat.zero_le _,rfl,rfl,Le.refl _,rfl,Grow.nil _ _ _,⟨fun h=>⟨h,fun i hi=>absurd hi Zi⟩,fun h=>h.1⟩,by simp⟩ (Zw) (by simp) ?_
  rintro q σ fz' H' ⟨k,b',vp,Hp,ys,hk,rfl,rfl,hle,rfl,hP,hb,hys⟩
  obtain ⟨Ap,cp,rfl,_,_⟩:=hP.form
  have i3m:=i3.mono (hle_4.trans hle)
  ((repeat (first | refine zS ?_ | refine zA fun _=>?_)))
  ((refine zG ?_;refine zC (fun e1=>?_) (fun e1=>?_)))
  ·obtain ⟨x,hx⟩:=YF (l:=d.predicates) (k:=k) Zi
   have hxm:=List.mem_of_getElem? hx
   ((repeat (first | refine zS ?_ | refine zA fun _=>?_)))
   (((refine zG ?_));refine YB T k Zz Zz Zz Zz Zz Zz i3m (by first | rfl | omega) hx (fun p hp=>?_))
   (((refine zG ?_));refine Yz T Zz Zz Zz hp Zz ?_)
   intro cs hcs
   obtain ⟨vpp,rfl,hRx⟩:=YaG hcs
   obtain ⟨P1,p1,q1,rfl,ip⟩:=hRx.params
   have hpm:=hs.predp x hxm
   have hpl:=ip.len
   ((repeat (first | refine zS ?_ | refine zA fun _=>?_)))
   rename_i g9
   (refine Wp.drawP [] (Hq:=[(g9,_)]) T.mixed Zj Zj (Zb) ?_)
   ((repeat (first | refine zS ?_ | refine zA fun _=>?_)))
   (refine YC ?_)
   (refine YC ?_)
   ((repeat (first | refine zS ?_ | refine zA fun _=>?_)))
   (refine YC ?_)
   (refine YC ?_)
   (refine YC ?_)
   (refine YC ?_)
   (refine YC ?_)
   (refine YC ?_)
   (refine PK.done ⟨by kernel_rfl,?_⟩)
   (refine Yk Zz Zz ?_)
   refine Yo (Does.perm (List.Perm.swap _ _ _) (Yr [_] _ Zz Zz Zz (Yba hRx.name) (fun v6 fz6 H6 hle6 hR6=>?_)))
   obtain ⟨_,rfl,b6,rfl,hb6⟩:=hR6
   refine ⟨(⟨hle6,Zx⟩),?_⟩
   unfold sxV
   (refine Y4 Zz Zz Zz ?_ ?_)
   ·refine Yo (Yd T (cs:=Yw x.name) Zz Zz Zz Zz Zz Zz Zz Zz (fun gb=>⟨(⟨hle6,Zx⟩),?_⟩))
    (refine Yk Zz Zz ?_)
    refine Yo (Does.perm (List.Perm.swap _ _ _) (Yr [_] _ Zz Zz Zz (WR (vars:=true) (ip.mono hle6) Zi) (fun v7 fz7 H7 hle7 hR7=>?_)))
    obtain ⟨_,⟨B7,cc7,rfl,hsl7⟩,b7,rfl,hb7⟩:=hR7
    refine ⟨(⟨(hle6.trans hle7),Zx⟩),?_⟩
    (refine Yk Zz Zz ?_)
    refine Yo (YbK T (n:=1) (l:=[Yg x.name]) (Hr:=(g,_)::(g9,_)::(g1,_)::(g2,_)::(g5,_)::(Hs_4++Hp)) (Hs:=[(gb,_)]) Zz Zz Zz Zz Zz Zz Zz Zz (List.Perm.cons _ (List.perm_append_singleton _ _).symm) (Grow.block (ys:=[(Yg x.name,Yw x.name)]) rfl rfl (by simpa using Yt hRx.name) rfl Zh) Yn hsl7 (by show _*72≤_;omega) Zi (fun v8 Hs1 hO1=>⟨(⟨(hle6.trans hle7),Zx⟩),?_⟩))
    obtain ⟨A8,c8,rfl,_,_⟩:=hO1.form
    (refine Yk Zz Zz ?_)
    refine PoS.qk (⟨(hle6.trans hle7),Zx⟩) (Yj Zz Zz Y7 ?_)
    unfold sxV
    (refine Yk Zz Zz ?_)
    refine Yo (Yd T (cs:=[.int .i64 3,.int .i64 0,.int .i64 0,.int .i64 0,.string ⟨#[]⟩,.slice A8 (1+3*p1) c8]) Zz Zz Zz Zz Zz Zz Zz Zz (fun gc=>⟨(⟨(hle6.trans hle7),Zx⟩),?_⟩))
    (refine Yk Zz Zz ?_)
    refine Yo (Does.freezeAll (H1:=(gc,_)::(g,_)::(g9,_)::(g1,_)::(g2,_)::(g5,_)::(Hs_4++Hp)) (H2:=Hs1) (List.Perm.refl _) (fun fz9 hle9 hf9=>?_))
    obtain ⟨A2x,c2x,he2,hsl9⟩:=hO1.sl hle9 hf9 Zi
    injection he2 with x1 x2 x3
    subst x1 x3
    refine Xc T (Hr:=(gc,_)::(g,_)::(g9,_)::(g1,_)::(g2,_)::(g5,_)::Hs_4) (d:=Yan x) Zz Zz Zz Zz Zz Zz Zz Zz (List.Perm.refl _) (hP.mono ((hle6.trans hle7).trans hle9)) Yn (.head _) (Ye (Wz hsl9)) (by show _*72≤_;omega) Zi (fun v9 Hp9 hO9=>⟨(⟨((hle6.trans hle7).trans hle9),Zx⟩),?_⟩)
    obtain ⟨A9,c9,rfl,_,_⟩:=hO9.form
    (refine Yk Zz Zz ?_)
    refine PoS.qk (⟨((hle6.trans hle7).trans hle9),Zx⟩) (YU Zz ?_)
    refine Po.done ?_
    ((repeat (first | refine zS ?_ | refine zA fun _=>?_)))
    refine YP ⟨k+1,b7,_,Hp9,ys++ [Yan x],by omega,rfl,rfl,hle.trans ((hle6.trans hle7).trans hle9),rfl,hO9,?_,fun h0=>?_⟩ Zi (Zw) (Zb)
    ·rw [hb7,hb6,hb]
     exact ⟨fun h0=>⟨h0.1.1.1,Y1 h0.1.1.2 hx ⟨h0.1.2,h0.2⟩⟩,fun h0=>⟨⟨⟨h0.1,fun i hi=>h0.2 i Zi⟩,(h0.2 k Zi x hx).1⟩,(h0.2 k Zi x hx).2⟩⟩
    ·rw [hys (hb6.1 (hb7.1 h0).1).1,List.take_add_one,hx];simp
   ·refine Yo (Yr [_] _ Zz Zz Zz (WR (vars:=true) (ip.mono hle6) Zi) (fun v7 fz7 H7 hle7 hR7=>?_))
    obtain ⟨_,⟨B7,cc7,rfl,hsl7⟩,b7,rfl,hb7⟩:=hR7
    refine ⟨(⟨(hle6.trans hle7),Zx⟩),?_⟩
    (refine Yk Zz Zz ?_)
    refine Yo (Yd T (cs:=Yw x.name) Zz Zz Zz Zz Zz Zz Zz Zz (fun gb=>⟨(⟨(hle6.trans hle7),Zx⟩),?_⟩))
    (refine Yk Zz Zz ?_)
    refine Yo (YbK T (n:=1) (l:=[Yg x.name]) (Hr:=(g,_)::(g9,_)::(g1,_)::(g2,_)::(g5,_)::(Hs_4++Hp)) (Hs:=[(gb,_)]) Zz Zz Zz Zz Zz Zz Zz Zz (List.perm_append_singleton _ _).symm (Grow.block (ys:=[(Yg x.name,Yw x.name)]) rfl rfl (by simpa using Yt hRx.name) rfl Zh) Yn hsl7 (by show _*72≤_;omega) Zi (fun v8 Hs1 hO1=>⟨(⟨(hle6.trans hle7),Zx⟩),?_⟩))
    obtain ⟨A8,c8,rfl,_,_⟩:=hO1.form
    (refine Yk Zz Zz ?_)
    refine PoS.qk (⟨(hle6.trans hle7),Zx⟩) (Yj Zz Zz Y7 ?_)
    unfold sxV
    (refine Yk Zz Zz ?_)
    refine Yo (Yd T (cs:=[.int .i64 3,.int .i64 0,.int .i64 0,.int .i64 0,.string ⟨#[]⟩,.slice A8 (1+3*p1) c8]) Zz Zz Zz Zz Zz Zz Zz Zz (fun gc=>⟨(⟨(hle6.trans hle7),Zx⟩),?_⟩))
    (refine Yk Zz Zz ?_)
    refine Yo (Does.freezeAll (H1:=(gc,_)::(g,_)::(g9,_)::(g1,_)::(g2,_)::(g5,_)::(Hs_4++Hp)) (H2:=Hs1) (List.Perm.refl _) (fun fz9 hle9 hf9=>?_))
    obtain ⟨A2x,c2x,he2,hsl9⟩:=hO1.sl hle9 hf9 Zi
    injection he2 with x1 x2 x3
    subst x1 x3
    refine Xc T (Hr:=(gc,_)::(g,_)::(g9,_)::(g1,_)::(g2,_)::(g5,_)::Hs_4) (d:=Yan x) Zz Zz Zz Zz Zz Zz Zz Zz (List.Perm.refl _) (hP.mono ((hle6.trans hle7).trans hle9)) Yn (.head _) (Ye (Wz hsl9)) (by show _*72≤_;omega) Zi (fun v9 Hp9 hO9=>⟨(⟨((hle6.trans hle7).trans hle9),Zx⟩),?_⟩)
    obtain ⟨A9,c9,rfl,_,_⟩:=hO9.form
    (refine Yk Zz Zz ?_)
    refine PoS.qk (⟨((hle6.trans hle7).trans hle9),Zx⟩) (YU Zz ?_)
    refine Po.done ?_
    ((repeat (first | refine zS ?_ | refine zA fun _=>?_)))
    refine YP ⟨k+1,b7,_,Hp9,ys++ [Yan x],by omega,rfl,rfl,hle.trans ((hle6.trans hle7).trans hle9),rfl,hO9,?_,fun h0=>?_⟩ Zi (Zw) (Zb)
    ·rw [hb7,hb6,hb]
     exact ⟨fun h0=>⟨h0.1.1.1,Y1 h0.1.1.2 hx ⟨h0.1.2,h0.2⟩⟩,fun h0=>⟨⟨⟨h0.1,fun i hi=>h0.2 i Zi⟩,(h0.2 k Zi x hx).1⟩,(h0.2 k Zi x hx).2⟩⟩
    ·rw [hys (hb6.1 (hb7.1 h0).1).1,List.take_add_one,hx];simp
  ·have hkn:n3=k:=by omega
   subst hkn
   rw [show d.predicates.take n3=d.predicates from List.take_of_length_le Zi] at hys
   have hbp:b'=false↔bb4=false∧∀ x∈d.predicates,Yet x:=by rw [hb];exact ⟨fun h0=>⟨h0.1,XY h0.2 Zi⟩,fun h0=>⟨h0.1,fun i _ x hx=>h0.2 x (List.mem_of_getElem? hx)⟩⟩
   refine Seq.freezeAll (H1:=(g,_)::(g1,_)::(g2,_)::(g5,_)::Hs_4) (H2:=Hp) (List.Perm.refl _) (fun fzp hlp hfp=>?_)
   obtain ⟨A2x,c2x,he2,hslp⟩:=hP.sl hlp hfp Zi
   injection he2 with x1 x2 x3
   subst x1 x3
   have hG5:=hG_4.mono (hle.trans hlp)
   have hle5:=(hle_4.trans hle).trans hlp
   ((repeat (first | refine zS ?_ | refine zA fun _=>?_)))
   refine YG (fun q σ fz' H'=>∃ (j:Nat) (b2:Bool) (vf:Value) (Hf:HP) (zs:List Sexpr),j≤n4∧q=n4 - j∧σ=[(64,.int .i64 j),(63,.int .i64 n4),(62,.slice A4 n4 c4),(7,vf),(6,.slice Ap n3 cp),(5,.pointer (some ⟨g5,0,none⟩)),(4,.pointer (some ⟨g,0,none⟩)),(2,.pointer (some ⟨g2,0,none⟩)),(1,.pointer (some ⟨g1,0,none⟩))]∧Le fzp fz'∧H'=(g,wrO b2)::(g1,.cells #[.string d.name,.slice A1 n1 c1,.slice A2 n2 c2,.slice A3 n3 c3,.slice A4 n4 c4,.slice A5 n5 c5,.slice A6 n6 c6] 28 (0,0))::(g2,.cells #[.int .i64 0,.int .i64 0,.int .i64 0,.int .i64 0,.string ⟨#[]⟩,.slice none 0 0] 64 (0,0))::(g5,lsO v_4)::(Hs_4++Hf)∧Grow YH 64 fz' vf j Hf zs∧(b2=false↔b'=false∧∀ i,i<j→∀ x,d.functions[i]?=some x→YiO x)∧(b2=false→zs=(d.functions.take j).map funX)) (H0:=(g,wrO b')::(g1,.cells #[.string d.name,.slice A1 n1 c1,.slice A2 n2 c2,.slice A3 n3 c3,.slice A4 n4 c4,.slice A5 n5 c5,.slice A6 n6 c6] 28 (0,0))::(g2,.cells #[.int .i64 0,.int .i64 0,.int .i64 0,.int .i64 0,.string ⟨#[]⟩,.slice none 0 0] 64 (0,0))::(g5,lsO v_4)::(Hs_4++ [])) ⟨0,b',_,[],[],Nat.zero_le _,rfl,rfl,Le.refl _,rfl,Grow.nil _ _ _,⟨fun h=>⟨h,fun i hi=>absurd hi Zi⟩,fun h=>h.1⟩,by simp⟩ (Zw) (by simp) ?_
   rintro q σ fz' H' ⟨j,b2,vf,Hf,zs,hj,rfl,rfl,hle6f,rfl,hF,hb2,hzs⟩
   obtain ⟨Af,cf,rfl,_,_⟩:=hF.form
   have i4m:=i4.mono (hle5.trans hle6f)
   ((repeat (first | refine zS ?_ | refine zA fun _=>?_)))
   ((refine zG ?_;refine zC (fun e2=>?_) (fun e2=>?_)))
   ·obtain ⟨x,hx⟩:=YF (l:=d.functions) (k:=j) Zi
    have hxm:=List.mem_of_getElem? hx
    ((repeat (first | refine zS ?_ | refine zA fun _=>?_)))
    (((refine zG ?_));refine YB T j Zz Zz Zz Zz Zz Zz i4m (by first | rfl | omega) hx (fun p hp=>?_))
    (((refine zG ?_));refine Yz T Zz Zz Zz hp Zz ?_)
    intro cs hcs
    obtain ⟨vpp,rfl,hRx⟩:=YaX hcs
    obtain ⟨P1,p1,q1,rfl,ip⟩:=hRx.params
    have hpm:=hs.funp x hxm
    have hpl:=ip.len
    ((repeat (first | refine zSO ?_ | refine zA fun _=>?_)))
    rename_i g9
    refine Yp (Wp.mid (fun σ fz7 H'=>∃ (b7:Bool) (v1:Value) (Hs1:HP),σ=[(12,v1),(64,.int .i64 j),(63,.int .i64 n4),(62,.slice A4 n4 c4),(11,.pointer (some ⟨g9,0,none⟩)),(7,.slice Af j cf),(6,.slice Ap n3 cp),(5,.pointer (some ⟨g5,0,none⟩)),(4,.pointer (some ⟨g,0,none⟩)),(2,.pointer (some ⟨g2,0,none⟩)),(1,.pointer (some ⟨g1,0,none⟩))]∧Le fz' fz7∧H'=((g,wrO b7)::(g9,.cells #[.string x.name,.slice P1 p1 q1,.int .i64 x.lo,.int .i64 x.hi] 97 (0,0))::(g1,.cells #[.string d.name,.slice A1 n1 c1,.slice A2 n2 c2,.slice A3 n3 c3,.slice A4 n4 c4,.slice A5 n5 c5,.slice A6 n6 c6] 28 (0,0))::(g2,.cells #[.int .i64 0,.int .i64 0,.int .i64 0,.int .i64 0,.string ⟨#[]⟩,.slice none 0 0] 64 (0,0))::(g5,lsO v_4)::(Hs_4++Hf))++Hs1∧Grow YH 64 fz7 v1 (1+3*p1) Hs1 (Yg x.name::Xd x.params)∧(b7=false↔b2=false∧YiO x)) ?_ ?_)
    ·(refine Wp.drawP [] (Hq:=[(g9,_)]) T.mixed Zj Zj (Zb) ?_)
     ((repeat (first | refine zS ?_ | refine zA fun _=>?_)))
     (refine YC ?_)
     (refine YC ?_)
     ((repeat (first | refine zS ?_ | refine zA fun _=>?_)))
     (refine YC ?_)
     (refine YC ?_)
     (refine YC ?_)
     (refine PK.done ⟨by kernel_rfl,?_⟩)
     (refine Yk Zz Zz ?_)
     refine Yo (Does.perm (List.Perm.swap _ _ _) (Yr [_] _ Zz Zz Zz (Yba hRx.name) (fun v6 fz6 H6 hle6 hR6=>?_)))
     obtain ⟨_,rfl,b6,rfl,hb6⟩:=hR6
     refine ⟨(⟨hle6,Zx⟩),?_⟩
     unfold sxV
     (refine Y4 Zz Zz Zz ?_ ?_)
     ·refine Yo (Yd T (cs:=Yw x.name) Zz Zz Zz Zz Zz Zz Zz Zz (fun gb=>⟨(⟨hle6,Zx⟩),?_⟩))
      (refine Yk Zz Zz ?_)
      refine Yo (Does.perm (List.Perm.swap _ _ _) (Yr [_] _ Zz Zz Zz (WR (vars:=true) (ip.mono hle6) Zi) (fun v7 fz7 H7 hle7 hR7=>?_)))
      obtain ⟨_,⟨B7,cc7,rfl,hsl7⟩,b7,rfl,hb7⟩:=hR7
      refine ⟨(⟨(hle6.trans hle7),Zx⟩),?_⟩
      (refine Yk Zz Zz ?_)
      refine Yo (YbK T (n:=1) (l:=[Yg x.name]) (Hr:=(g,_)::(g9,_)::(g1,_)::(g2,_)::(g5,_)::(Hs_4++Hf)) (Hs:=[(gb,_)]) Zz Zz Zz Zz Zz Zz Zz Zz (List.Perm.cons _ (List.perm_append_singleton _ _).symm) (Grow.block (ys:=[(Yg x.name,Yw x.name)]) rfl rfl (by simpa using Yt hRx.name) rfl Zh) Yn hsl7 (by show _*72≤_;omega) Zi (fun v8 Hs1 hO1=>⟨(⟨(hle6.trans hle7),Zx⟩),?_⟩))
      obtain ⟨A8,c8,rfl,_,_⟩:=hO1.form
      (refine Yk Zz Zz ?_)
      refine PoS.qk (⟨(hle6.trans hle7),Zx⟩) (YU Zz ?_)
      refine Po.done ?_
      ((repeat (first | refine zS ?_ | refine zA fun _=>?_)))
      exact midN ⟨b7,_,Hs1,rfl,hle6.trans hle7,rfl,hO1,by rw [hb7,hb6,and_assoc];rfl⟩ (Zw) (Zb)
     ·refine Yo (Yr [_] _ Zz Zz Zz (WR (vars:=true) (ip.mono hle6) Zi) (fun v7 fz7 H7 hle7 hR7=>?_))
      obtain ⟨_,⟨B7,cc7,rfl,hsl7⟩,b7,rfl,hb7⟩:=hR7
      refine ⟨(⟨(hle6.trans hle7),Zx⟩),?_⟩
      (refine Yk Zz Zz ?_)
      refine Yo (Yd T (cs:=Yw x.name) Zz Zz Zz Zz Zz Zz Zz Zz (fun gb=>⟨(⟨(hle6.trans hle7),Zx⟩),?_⟩))
      (refine Yk Zz Zz ?_)
      refine Yo (YbK T (n:=1) (l:=[Yg x.name]) (Hr:=(g,_)::(g9,_)::(g1,_)::(g2,_)::(g5,_)::(Hs_4++Hf)) (Hs:=[(gb,_)]) Zz Zz Zz Zz Zz Zz Zz Zz (List.perm_append_singleton _ _).symm (Grow.block (ys:=[(Yg x.name,Yw x.name)]) rfl rfl (by simpa using Yt hRx.name) rfl Zh) Yn hsl7 (by show _*72≤_;omega) Zi (fun v8 Hs1 hO1=>⟨(⟨(hle6.trans hle7),Zx⟩),?_⟩))
      obtain ⟨A8,c8,rfl,_,_⟩:=hO1.form
      (refine Yk Zz Zz ?_)
      refine PoS.qk (⟨(hle6.trans hle7),Zx⟩) (YU Zz ?_)
      refine Po.done ?_
      ((repeat (first | refine zS ?_ | refine zA fun _=>?_)))
      exact midN ⟨b7,_,Hs1,rfl,hle6.trans hle7,rfl,hO1,by rw [hb7,hb6,and_assoc];rfl⟩ (Zw) (Zb)
    ·rintro σ fz7 H' ⟨b7,v1,Hs1,rfl,hle7,rfl,hO1,hb7⟩
     obtain ⟨A8,c8,rfl,_,_⟩:=hO1.form
     refine Wp.drawK (Hq:=[(g9,_)]) T.mixed Zj Zj (List.Sublist.cons _ (List.Sublist.cons_cons _ (List.nil_sublist _))) ?_
     ((repeat (first | refine zS ?_ | refine zA fun _=>?_)))
     (((refine zG ?_));refine Yj Zz Zz YdF ?_)
     ((repeat (first | refine zS ?_ | refine zA fun _=>?_)))
     (((refine zG ?_));refine Yj Zz Zz YdF ?_)
     unfold sxV
     (refine Yb ?_)
     (refine Yb ?_)
     (refine Yb ?_)
     (refine Yb ?_)
     (refine Yb ?_)
     (refine Yb ?_)
     (refine YK ⟨by kernel_rfl,?_⟩)
     refine Yh (Yd T (cs:=[.int .i64 2,.int .i64 x.lo,.int .i64 0,.int .i64 0,.string ⟨#[]⟩,.slice none 0 0,.int .i64 2,.int .i64 x.hi,.int .i64 0,.int .i64 0,.string ⟨#[]⟩,.slice none 0 0]) Zz Zz Zz Zz Zz Zz Zz Zz (fun gb=>⟨(⟨Le.refl _,Zx⟩),?_⟩))
     refine Yh (Yd6 T (Hr:=(gb,_)::(g,_)::(g9,_)::(g1,_)::(g2,_)::(g5,_)::(Hs_4++Hf)) (ys:=[(numE x.lo,[.int .i64 2,.int .i64 x.lo,.int .i64 0,.int .i64 0,.string ⟨#[]⟩,.slice none 0 0]),(numE x.hi,[.int .i64 2,.int .i64 x.hi,.int .i64 0,.int .i64 0,.string ⟨#[]⟩,.slice none 0 0])]) (l2:=[numE x.lo,numE x.hi]) (m:=2) Zz Zz Zz Zz Zz Zz Zz Zz (List.Perm.refl _) hO1 Yn (.head _) rfl rfl (by intro p hp;simp only [List.mem_cons,List.not_mem_nil,or_false] at hp;rcases hp with rfl | rfl;exact Ye (Ydm hRx.lo);exact Ye (Ydm hRx.hi)) rfl (by show _*72≤_;omega) Zi (fun v8 Hs2 hO2=>⟨(⟨Le.refl _,Zx⟩),?_⟩))
     obtain ⟨A9,c9,rfl,_,_⟩:=hO2.form
     refine Ch.qk (⟨Le.refl _,Zx⟩) (Yj Zz Zz Y7 ?_)
     unfold sxV
     refine Yh (Yd T (cs:=[.int .i64 3,.int .i64 0,.int .i64 0,.int .i64 0,.string ⟨#[]⟩,.slice A9 (1+3*p1+2) c9]) Zz Zz Zz Zz Zz Zz Zz Zz (fun gc=>⟨(⟨Le.refl _,Zx⟩),?_⟩))
     refine Yh (Does.freezeAll (H1:=(gc,_)::(gb,_)::(g,_)::(g9,_)::(g1,_)::(g2,_)::(g5,_)::(Hs_4++Hf)) (H2:=Hs2) (List.Perm.refl _) (fun fz9 hle9 hf9=>?_))
     obtain ⟨A2y,c2y,he3,hsl9⟩:=hO2.sl hle9 hf9 Zi
     injection he3 with x1 x2 x3
     subst x1 x3
     refine Xc T (Hr:=(gc,_)::(gb,_)::(g,_)::(g9,_)::(g1,_)::(g2,_)::(g5,_)::Hs_4) (d:=funX x) Zz Zz Zz Zz Zz Zz Zz Zz (List.Perm.refl _) (hF.mono (hle7.trans hle9)) Yn (.head _) (Ye (Wz hsl9)) (by show _*72≤_;omega) Zi (fun v9 Hf9 hO9=>⟨(⟨hle9,Zx⟩),?_⟩)
     obtain ⟨A9f,c9f,rfl,_,_⟩:=hO9.form
     refine Ch.qk (⟨hle9,Zx⟩) (YU Zz ?_)
     refine Ch.done ?_
     ((repeat (first | refine zS ?_ | refine zA fun _=>?_)))
     refine YP ⟨j+1,b7,_,Hf9,zs++ [funX x],by omega,rfl,rfl,hle6f.trans (hle7.trans hle9),rfl,hO9,?_,fun h0=>?_⟩ Zi (Zw) (Zb)
     ·rw [hb7,hb2]
      exact ⟨fun h0=>⟨h0.1.1,Y1 h0.1.2 hx h0.2⟩,fun h0=>⟨⟨h0.1,fun i hi=>h0.2 i Zi⟩,h0.2 j Zi x hx⟩⟩
     ·rw [hzs (hb7.1 h0).1,List.take_add_one,hx];simp
   ·have hjn:n4=j:=by omega
    subst hjn
    rw [show d.functions.take n4=d.functions from List.take_of_length_le Zi] at hzs
    have hbf:b2=false↔b'=false∧∀ x∈d.functions,YiO x:=by rw [hb2];exact ⟨fun h0=>⟨h0.1,XY h0.2 Zi⟩,fun h0=>⟨h0.1,fun i _ x hx=>h0.2 x (List.mem_of_getElem? hx)⟩⟩
    refine Seq.freezeAll (H1:=(g,_)::(g1,_)::(g2,_)::(g5,_)::Hs_4) (H2:=Hf) (List.Perm.refl _) (fun fzq hlq hfq=>?_)
    obtain ⟨A2z,c2z,he4,hslf⟩:=hF.sl hlq hfq Zi
    injection he4 with x1 x2 x3
    subst x1 x3
    have hG6:=hG5.mono (hle6f.trans hlq)
    have hslp2:=hslp.mono (hle6f.trans hlq)
    have hle7:=(hle5.trans hle6f).trans hlq
    ((repeat (first | refine zS ?_ | refine zA fun _=>?_)))
    refine Yc Zz (Does.perm (H':=((g5,_)::Hs_4)++ [_,_,_]) List.perm_append_comm (Does.after (Yr ((g5,_)::Hs_4) _ Zz Zz Zz (YfA (kw:=Y6) hG6 hslp2 (YI Zh) Zi Zi) (fun v7 fz_5 H7 hlz5 hR7=>?_))))
    obtain ⟨_,_,v_5,n_5,Hs_5,rfl,hG_5,hn_5⟩:=hR7
    refine ⟨(g,wrO b2)::(g1,_)::(g2,_)::(g5,lsO v_5)::Hs_5,List.perm_append_comm (l₁:=[_,_,_]) (l₂:=(g5,lsO v_5)::Hs_5),?_⟩
    replace hG_5:Grow YH 64 fz_5 v_5 n_5 Hs_5 (l_4++grp Y6 (ys)):=hG_5
    obtain ⟨l_5,hl5⟩:∃ l',l'=l_4++grp Y6 (ys):=⟨_,rfl⟩
    rw [← hl5] at hG_5
    ((repeat (first | refine zS ?_ | refine zA fun _=>?_)))
    refine Yc Zz (Does.perm (H':=((g5,_)::Hs_5)++ [_,_,_]) List.perm_append_comm (Does.after (Yr ((g5,_)::Hs_5) _ Zz Zz Zz (YfA (kw:=Xf) hG_5 (hslf.mono hlz5) (YI Zh) Zi Zi) (fun v7 fz_6 H7 hlz6 hR7=>?_))))
    obtain ⟨_,_,v_6,n_6,Hs_6,rfl,hG_6,hn_6⟩:=hR7
    refine ⟨(g,wrO b2)::(g1,_)::(g2,_)::(g5,lsO v_6)::Hs_6,List.perm_append_comm (l₁:=[_,_,_]) (l₂:=(g5,lsO v_6)::Hs_6),?_⟩
    replace hG_6:Grow YH 64 fz_6 v_6 n_6 Hs_6 (l_5++grp Xf (zs)):=hG_6
    obtain ⟨l_6,hl6⟩:∃ l',l'=l_5++grp Xf (zs):=⟨_,rfl⟩
    rw [← hl6] at hG_6
    have hle_6:=(hle7.trans hlz5).trans hlz6
    have hb_6:b2=false↔Xq d.name∧(∀ p∈d.types,Xz false p)∧(∀ p∈d.constants,Xz false p)∧(∀ p∈d.predicates,Yet p)∧(∀ f∈d.functions,YiO f):=by rw [hbf,hbp,hb_4];simp only [and_assoc]
    have hys_6:b2=false→l_6=[Yg Xj,YE [Yg YN,Yg d.name]]++grp Wr (Xd d.types)++grp Xb (Xd d.constants)++grp Y6 (d.predicates.map Yan)++grp Xf (d.functions.map funX):=fun h0=>by rw [hl6,hl5,hys_4 (hbp.1 (hbf.1 h0).1).1,hys (hbf.1 h0).1,hzs h0]
    ((repeat (first | refine zS ?_ | refine zA fun _=>?_)))
    refine YG (fun q σ fz' H'=>∃ (k2:Nat) (bb:Bool) (v:Value) (nn:Nat) (Hs:HP) (us:List Sexpr),k2≤n5∧q=n5 - k2∧σ=[(99,.int .i64 k2),(98,.int .i64 n5),(97,.slice A5 n5 c5),(5,.pointer (some ⟨g5,0,none⟩)),(4,.pointer (some ⟨g,0,none⟩)),(2,.pointer (some ⟨g2,0,none⟩)),(1,.pointer (some ⟨g1,0,none⟩))]∧Le fz_6 fz'∧H'=(g,wrO bb)::(g1,.cells #[.string d.name,.slice A1 n1 c1,.slice A2 n2 c2,.slice A3 n3 c3,.slice A4 n4 c4,.slice A5 n5 c5,.slice A6 n6 c6] 28 (0,0))::(g2,.cells #[.int .i64 0,.int .i64 0,.int .i64 0,.int .i64 0,.string ⟨#[]⟩,.slice none 0 0] 64 (0,0))::(g5,lsO v)::Hs∧Grow YH 64 fz' v nn Hs (l_6++us)∧nn≤10+k2∧(bb=false↔b2=false∧∀ i,i<k2→∀ x,d.actions[i]?=some x→YgN x)∧(bb=false→us=(d.actions.take k2).map actX)) ⟨0,b2,_,_,Hs_6,[],Nat.zero_le _,rfl,rfl,Le.refl _,rfl,by rw [List.append_nil];exact hG_6,by omega,⟨fun h=>⟨h,fun i hi=>absurd hi Zi⟩,fun h=>h.1⟩,by simp⟩ (Zw) (Zb) ?_
    rintro q σ fzx H' ⟨k2,bbx,vx,nnx,Hsx,usx,hkx,rfl,rfl,hlex,rfl,hGx,hnnx,hbx,husx⟩
    obtain ⟨Avx,cvx,rfl,_,_⟩:=hGx.form
    have imx:=i5.mono (hle_6.trans hlex)
    ((repeat (first | refine zS ?_ | refine zA fun _=>?_)))
    ((refine zG ?_;refine zC (fun ecx=>?_) (fun ecx=>?_)))
    ·obtain ⟨x,hx⟩:=YF (l:=d.actions) (k:=k2) Zi
     have hxm:=List.mem_of_getElem? hx
     ((repeat (first | refine zSO ?_ | refine zA fun _=>?_)))
     refine Yp ?_
     refine Wp.cond_true Zz ?_
     refine Wx ?_
     refine Yca ?_
     refine Yp (Wp.mid (fun σ fz' H'=>∃ (b6:Bool) (y6:Sexpr) (v:Value) (Hs:HP),σ=[(99,.int .i64 k2),(98,.int .i64 n5),(97,.slice A5 n5 c5),(5,.pointer (some ⟨g5,0,none⟩)),(4,.pointer (some ⟨g,0,none⟩)),(2,.pointer (some ⟨g2,0,none⟩)),(1,.pointer (some ⟨g1,0,none⟩))]∧Le fzx fz'∧H'=(g,wrO b6)::(g1,.cells #[.string d.name,.slice A1 n1 c1,.slice A2 n2 c2,.slice A3 n3 c3,.slice A4 n4 c4,.slice A5 n5 c5,.slice A6 n6 c6] 28 (0,0))::(g2,.cells #[.int .i64 0,.int .i64 0,.int .i64 0,.int .i64 0,.string ⟨#[]⟩,.slice none 0 0] 64 (0,0))::(g5,lsO v)::Hs∧Grow YH 64 fz' v (nnx+1) Hs (l_6++(usx++ [y6]))∧(b6=false↔bbx=false∧YgN x)∧(b6=false→y6=actX x)) ?_ ?_)
     ·((repeat (first | refine zS ?_ | refine zA fun _=>?_)))
      (((refine zG ?_));refine YB T k2 Zz Zz Zz Zz Zz Zz imx (by first | rfl | omega) hx (fun p hp=>?_))
      (((refine zG ?_));refine Yz T Zz Zz Zz hp Zz ?_)
      intro cs hcs
      obtain ⟨u0,u1,u2,u3,u4,u5,rfl,hRx⟩:=Yai hcs
      obtain ⟨U0,w0,z0,rfl,_⟩:=hRx.params
      obtain ⟨U1,w1,z1,rfl,_⟩:=hRx.pre.args
      obtain ⟨U2,w2,z2,rfl,_⟩:=hRx.pre.params
      obtain ⟨U3,w3,z3,rfl,_⟩:=hRx.pre.exprs
      obtain ⟨U4,w4,z4,rfl,_⟩:=hRx.pre.kids
      obtain ⟨U5,w5,z5,rfl,_⟩:=hRx.changes
      ((repeat (first | refine zS ?_ | refine zA fun _=>?_)))
      rename_i g14
      (refine Wp.drawP [] (Hq:=[(g14,_),(g5,_)]) T.mixed Zj Zj (Zb) ?_)
      ((repeat (first | refine zS ?_ | refine zA fun _=>?_)))
      (refine YC ?_)
      ((repeat (first | refine zS ?_ | refine zA fun _=>?_)))
      (refine YC ?_)
      (refine YC ?_)
      (refine YC ?_)
      (refine YC ?_)
      ((repeat (first | refine zS ?_ | refine zA fun _=>?_)))
      (refine YC ?_)
      (refine PK.done ⟨by kernel_rfl,?_⟩)
      (refine Y4 Zz Zz Zz ?_ ?_)
      ·refine Yo (Does.perm (List.Perm.swap _ _ _) (Yr [_] _ Zz Zz Zz (Yf1 hRx (hs.acts x hxm)) (fun v6 fz6 H6 hle6 hR6=>?_)))
       obtain ⟨_,b6,y6,rfl,⟨cs6,rfl,hr6⟩,hb6,hy6⟩:=hR6
       obtain ⟨vk6,rfl,hX6⟩:=Yl hr6
       refine ⟨(⟨hle6,Zx⟩),?_⟩
       (refine Yk Zz Zz ?_)
       refine Yo (Yd T (cs:=YaZ) Zz Zz Zz Zz Zz Zz Zz Zz (fun gz=>⟨(⟨hle6,Zx⟩),?_⟩))
       (refine Yk Zz Zz ?_)
       refine Yo (Xc T (Hr:=[_,_,_,_,_,_]) Zz Zz Zz Zz Zz Zz Zz Zz (List.Perm.refl _) (hGx.mono hle6) Yn (.head _) Wg (by show _*72≤_;omega) Zi (fun v' Hs' hO'=>⟨(⟨hle6,Zx⟩),?_⟩))
       obtain ⟨gk,cap,cur,rfl,rfl,hB⟩:=hO'.b Zi
       (refine Y4 Zz Zz Zz ?_ ?_)
       ·refine PoS.qk (⟨hle6,Zx⟩) (YR T Zz Zz Zz Zz Zz rfl Zi Zi ?_)
        (refine Y4 Zz Zz Zz ?_ ?_)
        ·refine PoS.soft0 (YJ T (pre:=[_,_,_,_,_,_]) (L:=YH) (j:=nnx) Zz Zz Zz rfl rfl Zz Yn (Ye hX6) hB Zi (fun cur1 hB1=>⟨(⟨hle6,Zx⟩),?_⟩))
         (refine Yk Zz Zz ?_)
         refine PoS.hard0 Zj (Wd T (pre:=[_,_,_,_,_]) Zz Zz Zz rfl Zz Zz Zz ?_)
         refine Po.done ?_
         ((repeat (first | refine zS ?_ | refine zA fun _=>?_)))
         exact midN ⟨b6,y6,_,[_],rfl,hle6,rfl,hB1.grow.of (by rw [set1 hGx.len,List.append_assoc]) rfl,hb6,hy6⟩ (Zw) (Zb)
        ·refine PoS.hard0 Zj (Wd T (pre:=[_,_,_,_,_]) Zz Zz Zz rfl Zz Zz Zz ?_)
         (refine Yk Zz Zz ?_)
         refine PoS.hard0 Zj (YJ T (pre:=[_,_,_,_,_,_]) (L:=YH) (j:=nnx) Zz Zz Zz rfl rfl Zz Yn (Ye hX6) hB Zi (fun cur1 hB1=>?_))
         refine Po.done ?_
         ((repeat (first | refine zS ?_ | refine zA fun _=>?_)))
         exact midN ⟨b6,y6,_,[_],rfl,hle6,rfl,hB1.grow.of (by rw [set1 hGx.len,List.append_assoc]) rfl,hb6,hy6⟩ (Zw) (Zb)
       ·refine PoS.hard0 Zj (Wd T (pre:=[_,_,_,_,_]) Zz Zz Zz rfl Zz Zz Zz ?_)
        (refine Yk Zz Zz ?_)
        refine PoS.hard Zj (DoesQ.does (YR T Zz Zz Zz Zz Zz rfl Zi Zi ?_))
        (refine Yk Zz Zz ?_)
        refine PoS.hard0 Zj (YJ T (pre:=[_,_,_,_,_,_]) (L:=YH) (j:=nnx) Zz Zz Zz rfl rfl Zz Yn (Ye hX6) hB Zi (fun cur1 hB1=>?_))
        refine Po.done ?_
        ((repeat (first | refine zS ?_ | refine zA fun _=>?_)))
        exact midN ⟨b6,y6,_,[_],rfl,hle6,rfl,hB1.grow.of (by rw [set1 hGx.len,List.append_assoc]) rfl,hb6,hy6⟩ (Zw) (Zb)
      ·refine Yo (Yd T (cs:=YaZ) Zz Zz Zz Zz Zz Zz Zz Zz (fun gz=>⟨(⟨(Le.refl _),Zx⟩),?_⟩))
       (refine Yk Zz Zz ?_)
       refine Yo (Does.perm (@List.perm_middle _ _ [_,_] _).symm (Yr [_] _ Zz Zz Zz (Yf1 hRx (hs.acts x hxm)) (fun v6 fz6 H6 hle6 hR6=>?_)))
       obtain ⟨_,b6,y6,rfl,⟨cs6,rfl,hr6⟩,hb6,hy6⟩:=hR6
       obtain ⟨vk6,rfl,hX6⟩:=Yl hr6
       refine ⟨(⟨hle6,Zx⟩),?_⟩
       (refine Yk Zz Zz ?_)
       refine Yo (Xc T (Hr:=[_,_,_,_,_,_]) Zz Zz Zz Zz Zz Zz Zz Zz (List.Perm.refl _) (hGx.mono hle6) Yn (.tail _ (.head _)) Wg (by show _*72≤_;omega) Zi (fun v' Hs' hO'=>⟨(⟨hle6,Zx⟩),?_⟩))
       obtain ⟨gk,cap,cur,rfl,rfl,hB⟩:=hO'.b Zi
       (refine Y4 Zz Zz Zz ?_ ?_)
       ·refine PoS.qk (⟨hle6,Zx⟩) (YR T Zz Zz Zz Zz Zz rfl Zi Zi ?_)
        (refine Y4 Zz Zz Zz ?_ ?_)
        ·refine PoS.soft0 (YJ T (pre:=[_,_,_,_,_,_]) (L:=YH) (j:=nnx) Zz Zz Zz rfl rfl Zz Yn (Ye hX6) hB Zi (fun cur1 hB1=>⟨(⟨hle6,Zx⟩),?_⟩))
         (refine Yk Zz Zz ?_)
         refine PoS.hard0 Zj (Wd T (pre:=[_,_,_,_,_]) Zz Zz Zz rfl Zz Zz Zz ?_)
         refine Po.done ?_
         ((repeat (first | refine zS ?_ | refine zA fun _=>?_)))
         exact midN ⟨b6,y6,_,[_],rfl,hle6,rfl,hB1.grow.of (by rw [set1 hGx.len,List.append_assoc]) rfl,hb6,hy6⟩ (Zw) (Zb)
        ·refine PoS.hard0 Zj (Wd T (pre:=[_,_,_,_,_]) Zz Zz Zz rfl Zz Zz Zz ?_)
         (refine Yk Zz Zz ?_)
         refine PoS.hard0 Zj (YJ T (pre:=[_,_,_,_,_,_]) (L:=YH) (j:=nnx) Zz Zz Zz rfl rfl Zz Yn (Ye hX6) hB Zi (fun cur1 hB1=>?_))
         refine Po.done ?_
         ((repeat (first | refine zS ?_ | refine zA fun _=>?_)))
         exact midN ⟨b6,y6,_,[_],rfl,hle6,rfl,hB1.grow.of (by rw [set1 hGx.len,List.append_assoc]) rfl,hb6,hy6⟩ (Zw) (Zb)
       ·refine PoS.hard0 Zj (Wd T (pre:=[_,_,_,_,_]) Zz Zz Zz rfl Zz Zz Zz ?_)
        (refine Yk Zz Zz ?_)
        refine PoS.hard Zj (DoesQ.does (YR T Zz Zz Zz Zz Zz rfl Zi Zi ?_))
        (refine Yk Zz Zz ?_)
        refine PoS.hard0 Zj (YJ T (pre:=[_,_,_,_,_,_]) (L:=YH) (j:=nnx) Zz Zz Zz rfl rfl Zz Yn (Ye hX6) hB Zi (fun cur1 hB1=>?_))
        refine Po.done ?_
        ((repeat (first | refine zS ?_ | refine zA fun _=>?_)))
        exact midN ⟨b6,y6,_,[_],rfl,hle6,rfl,hB1.grow.of (by rw [set1 hGx.len,List.append_assoc]) rfl,hb6,hy6⟩ (Zw) (Zb)
     ·rintro σ fz' H' ⟨b6,y6,v6,Hs6,rfl,hle6,rfl,hG6,hb6,hy6⟩
      ((repeat (first | refine zS ?_ | refine zA fun _=>?_)))
      refine YP ⟨k2+1,b6,v6,nnx+1,Hs6,usx++ [y6],by omega,rfl,rfl,hlex.trans hle6,rfl,hG6,by omega,?_,fun h0=>?_⟩ Zi (Zw) (Zb)
      ·rw [hb6,hbx]
       exact ⟨fun h0=>⟨h0.1.1,Y1 h0.1.2 hx h0.2⟩,fun h0=>⟨⟨h0.1,fun i hi=>h0.2 i Zi⟩,h0.2 k2 Zi x hx⟩⟩
      ·rw [husx (hb6.1 h0).1,hy6 h0,List.take_add_one,hx];simp
    ·have hknx:n5=k2:=by omega
     subst hknx
     rw [show d.actions.take n5=d.actions from List.take_of_length_le Zi] at husx
     have hbxx:bbx=false↔b2=false∧∀ x∈d.actions,YgN x:=by rw [hbx];exact ⟨fun h0=>⟨h0.1,XY h0.2 Zi⟩,fun h0=>⟨h0.1,fun i _ x hx=>h0.2 x (List.mem_of_getElem? hx)⟩⟩
     ((repeat (first | refine zS ?_ | refine zA fun _=>?_)))
     refine YG (fun q σ fz' H'=>∃ (k7:Nat) (bb:Bool) (v:Value) (nn:Nat) (Hs:HP) (us:List Sexpr),k7≤n6∧q=n6 - k7∧σ=[(117,.int .i64 k7),(116,.int .i64 n6),(115,.slice A6 n6 c6),(5,.pointer (some ⟨g5,0,none⟩)),(4,.pointer (some ⟨g,0,none⟩)),(2,.pointer (some ⟨g2,0,none⟩)),(1,.pointer (some ⟨g1,0,none⟩))]∧Le fzx fz'∧H'=(g,wrO bb)::(g1,.cells #[.string d.name,.slice A1 n1 c1,.slice A2 n2 c2,.slice A3 n3 c3,.slice A4 n4 c4,.slice A5 n5 c5,.slice A6 n6 c6] 28 (0,0))::(g2,.cells #[.int .i64 0,.int .i64 0,.int .i64 0,.int .i64 0,.string ⟨#[]⟩,.slice none 0 0] 64 (0,0))::(g5,lsO v)::Hs∧Grow YH 64 fz' v nn Hs ((l_6++usx)++us)∧nn≤nnx+k7∧(bb=false↔bbx=false∧∀ i,i<k7→∀ x,d.duratives[i]?=some x→YgE x)∧(bb=false→us=(d.duratives.take k7).map durX)) ⟨0,bbx,_,_,Hsx,[],Nat.zero_le _,rfl,rfl,Le.refl _,rfl,by rw [List.append_nil];exact hGx,by omega,⟨fun h=>⟨h,fun i hi=>absurd hi Zi⟩,fun h=>h.1⟩,by simp⟩ (Zw) (Zb) ?_
     rintro q σ fzy H' ⟨k7,bby,vy,nny,Hsy,usy,hky,rfl,rfl,hley,rfl,hGy,hnny,hby,husy⟩
     obtain ⟨Avy,cvy,rfl,_,_⟩:=hGy.form
     have imy:=i6.mono ((hle_6.trans hlex).trans hley)
     ((repeat (first | refine zS ?_ | refine zA fun _=>?_)))
     ((refine zG ?_;refine zC (fun ecy=>?_) (fun ecy=>?_)))
     ·obtain ⟨x,hx⟩:=YF (l:=d.duratives) (k:=k7) Zi
      have hxm:=List.mem_of_getElem? hx
      ((repeat (first | refine zSO ?_ | refine zA fun _=>?_)))
      refine Yp ?_
      refine Wp.cond_true Zz ?_
      refine Wx ?_
      refine Yca ?_
      refine Yp (Wp.mid (fun σ fz' H'=>∃ (b6:Bool) (y6:Sexpr) (v:Value) (Hs:HP),σ=[(117,.int .i64 k7),(116,.int .i64 n6),(115,.slice A6 n6 c6),(5,.pointer (some ⟨g5,0,none⟩)),(4,.pointer (some ⟨g,0,none⟩)),(2,.pointer (some ⟨g2,0,none⟩)),(1,.pointer (some ⟨g1,0,none⟩))]∧Le fzy fz'∧H'=(g,wrO b6)::(g1,.cells #[.string d.name,.slice A1 n1 c1,.slice A2 n2 c2,.slice A3 n3 c3,.slice A4 n4 c4,.slice A5 n5 c5,.slice A6 n6 c6] 28 (0,0))::(g2,.cells #[.int .i64 0,.int .i64 0,.int .i64 0,.int .i64 0,.string ⟨#[]⟩,.slice none 0 0] 64 (0,0))::(g5,lsO v)::Hs∧Grow YH 64 fz' v (nny+1) Hs ((l_6++usx)++(usy++ [y6]))∧(b6=false↔bby=false∧YgE x)∧(b6=false→y6=durX x)) ?_ ?_)
      ·((repeat (first | refine zS ?_ | refine zA fun _=>?_)))
       (((refine zG ?_));refine YB T k7 Zz Zz Zz Zz Zz Zz imy (by first | rfl | omega) hx (fun p hp=>?_))
       (((refine zG ?_));refine Yz T Zz Zz Zz hp Zz ?_)
       intro cs hcs
       obtain ⟨u0,u1,u2,u3,u4,u5,u6,u7,u8,u9,u10,u11,u12,u13,u14,rfl,hRx⟩:=W9 hcs
       obtain ⟨U0,w0,z0,rfl,_⟩:=hRx.params
       obtain ⟨U1,w1,z1,rfl,_⟩:=hRx.start.args
       obtain ⟨U2,w2,z2,rfl,_⟩:=hRx.start.params
       obtain ⟨U3,w3,z3,rfl,_⟩:=hRx.start.exprs
       obtain ⟨U4,w4,z4,rfl,_⟩:=hRx.start.kids
       obtain ⟨U5,w5,z5,rfl,_⟩:=hRx.over.args
       obtain ⟨U6,w6,z6,rfl,_⟩:=hRx.over.params
       obtain ⟨U7,w7,z7,rfl,_⟩:=hRx.over.exprs
       obtain ⟨U8,w8,z8,rfl,_⟩:=hRx.over.kids
       obtain ⟨U9,w9,z9,rfl,_⟩:=hRx.fin.args
       obtain ⟨U10,w10,z10,rfl,_⟩:=hRx.fin.params
       obtain ⟨U11,w11,z11,rfl,_⟩:=hRx.fin.exprs
       obtain ⟨U12,w12,z12,rfl,_⟩:=hRx.fin.kids
       obtain ⟨U13,w13,z13,rfl,_⟩:=hRx.atStart
       obtain ⟨U14,w14,z14,rfl,_⟩:=hRx.atEnd
       ((repeat (first | refine zS ?_ | refine zA fun _=>?_)))
       rename_i g14
       (refine Wp.drawP [] (Hq:=[(g14,_),(g5,_)]) T.mixed Zj Zj (Zb) ?_)
       ((repeat (first | refine zS ?_ | refine zA fun _=>?_)))
       (refine YC ?_)
       ((repeat (first | refine zS ?_ | refine zA fun _=>?_)))
       (refine YC ?_)
       (refine YC ?_)
       (refine YC ?_)
       (refine YC ?_)
       ((repeat (first | refine zS ?_ | refine zA fun _=>?_)))
       (refine YC ?_)
       (refine PK.done ⟨by kernel_rfl,?_⟩)
       (refine Y4 Zz Zz Zz ?_ ?_)
       ·refine Yo (Does.perm (List.Perm.swap _ _ _) (Yr [_] _ Zz Zz Zz (YdK hRx (hs.durs x hxm)) (fun v6 fz6 H6 hle6 hR6=>?_)))
        obtain ⟨_,b6,y6,rfl,⟨cs6,rfl,hr6⟩,hb6,hy6⟩:=hR6
        obtain ⟨vk6,rfl,hX6⟩:=Yl hr6
        refine ⟨(⟨hle6,Zx⟩),?_⟩
        (refine Yk Zz Zz ?_)
        refine Yo (Yd T (cs:=YaZ) Zz Zz Zz Zz Zz Zz Zz Zz (fun gz=>⟨(⟨hle6,Zx⟩),?_⟩))
        (refine Yk Zz Zz ?_)
        refine Yo (Xc T (Hr:=[_,_,_,_,_,_]) Zz Zz Zz Zz Zz Zz Zz Zz (List.Perm.refl _) (hGy.mono hle6) Yn (.head _) Wg (by show _*72≤_;omega) Zi (fun v' Hs' hO'=>⟨(⟨hle6,Zx⟩),?_⟩))
        obtain ⟨gk,cap,cur,rfl,rfl,hB⟩:=hO'.b Zi
        (refine Y4 Zz Zz Zz ?_ ?_)
        ·refine PoS.qk (⟨hle6,Zx⟩) (YR T Zz Zz Zz Zz Zz rfl Zi Zi ?_)
         (refine Y4 Zz Zz Zz ?_ ?_)
         ·refine PoS.soft0 (YJ T (pre:=[_,_,_,_,_,_]) (L:=YH) (j:=nny) Zz Zz Zz rfl rfl Zz Yn (Ye hX6) hB Zi (fun cur1 hB1=>⟨(⟨hle6,Zx⟩),?_⟩))
          (refine Yk Zz Zz ?_)
          refine PoS.hard0 Zj (Wd T (pre:=[_,_,_,_,_]) Zz Zz Zz rfl Zz Zz Zz ?_)
          refine Po.done ?_
          ((repeat (first | refine zS ?_ | refine zA fun _=>?_)))
          exact midN ⟨b6,y6,_,[_],rfl,hle6,rfl,hB1.grow.of (by rw [set1 hGy.len,List.append_assoc]) rfl,hb6,hy6⟩ (Zw) (Zb)
         ·refine PoS.hard0 Zj (Wd T (pre:=[_,_,_,_,_]) Zz Zz Zz rfl Zz Zz Zz ?_)
          (refine Yk Zz Zz ?_)
          refine PoS.hard0 Zj (YJ T (pre:=[_,_,_,_,_,_]) (L:=YH) (j:=nny) Zz Zz Zz rfl rfl Zz Yn (Ye hX6) hB Zi (fun cur1 hB1=>?_))
          refine Po.done ?_
          ((repeat (first | refine zS ?_ | refine zA fun _=>?_)))
          exact midN ⟨b6,y6,_,[_],rfl,hle6,rfl,hB1.grow.of (by rw [set1 hGy.len,List.append_assoc]) rfl,hb6,hy6⟩ (Zw) (Zb)
        ·refine PoS.hard0 Zj (Wd T (pre:=[_,_,_,_,_]) Zz Zz Zz rfl Zz Zz Zz ?_)
         (refine Yk Zz Zz ?_)
         refine PoS.hard Zj (DoesQ.does (YR T Zz Zz Zz Zz Zz rfl Zi Zi ?_))
         (refine Yk Zz Zz ?_)
         refine PoS.hard0 Zj (YJ T (pre:=[_,_,_,_,_,_]) (L:=YH) (j:=nny) Zz Zz Zz rfl rfl Zz Yn (Ye hX6) hB Zi (fun cur1 hB1=>?_))
         refine Po.done ?_
         ((repeat (first | refine zS ?_ | refine zA fun _=>?_)))
         exact midN ⟨b6,y6,_,[_],rfl,hle6,rfl,hB1.grow.of (by rw [set1 hGy.len,List.append_assoc]) rfl,hb6,hy6⟩ (Zw) (Zb)
       ·refine Yo (Yd T (cs:=YaZ) Zz Zz Zz Zz Zz Zz Zz Zz (fun gz=>⟨(⟨(Le.refl _),Zx⟩),?_⟩))
        (refine Yk Zz Zz ?_)
        refine Yo (Does.perm (@List.perm_middle _ _ [_,_] _).symm (Yr [_] _ Zz Zz Zz (YdK hRx (hs.durs x hxm)) (fun v6 fz6 H6 hle6 hR6=>?_)))
        obtain ⟨_,b6,y6,rfl,⟨cs6,rfl,hr6⟩,hb6,hy6⟩:=hR6
        obtain ⟨vk6,rfl,hX6⟩:=Yl hr6
        refine ⟨(⟨hle6,Zx⟩),?_⟩
        (refine Yk Zz Zz ?_)
        refine Yo (Xc T (Hr:=[_,_,_,_,_,_]) Zz Zz Zz Zz Zz Zz Zz Zz (List.Perm.refl _) (hGy.mono hle6) Yn (.tail _ (.head _)) Wg (by show _*72≤_;omega) Zi (fun v' Hs' hO'=>⟨(⟨hle6,Zx⟩),?_⟩))
        obtain ⟨gk,cap,cur,rfl,rfl,hB⟩:=hO'.b Zi
        (refine Y4 Zz Zz Zz ?_ ?_)
        ·refine PoS.qk (⟨hle6,Zx⟩) (YR T Zz Zz Zz Zz Zz rfl Zi Zi ?_)
         (refine Y4 Zz Zz Zz ?_ ?_)
         ·refine PoS.soft0 (YJ T (pre:=[_,_,_,_,_,_]) (L:=YH) (j:=nny) Zz Zz Zz rfl rfl Zz Yn (Ye hX6) hB Zi (fun cur1 hB1=>⟨(⟨hle6,Zx⟩),?_⟩))
          (refine Yk Zz Zz ?_)
          refine PoS.hard0 Zj (Wd T (pre:=[_,_,_,_,_]) Zz Zz Zz rfl Zz Zz Zz ?_)
          refine Po.done ?_
          ((repeat (first | refine zS ?_ | refine zA fun _=>?_)))
          exact midN ⟨b6,y6,_,[_],rfl,hle6,rfl,hB1.grow.of (by rw [set1 hGy.len,List.append_assoc]) rfl,hb6,hy6⟩ (Zw) (Zb)
         ·refine PoS.hard0 Zj (Wd T (pre:=[_,_,_,_,_]) Zz Zz Zz rfl Zz Zz Zz ?_)
          (refine Yk Zz Zz ?_)
          refine PoS.hard0 Zj (YJ T (pre:=[_,_,_,_,_,_]) (L:=YH) (j:=nny) Zz Zz Zz rfl rfl Zz Yn (Ye hX6) hB Zi (fun cur1 hB1=>?_))
          refine Po.done ?_
          ((repeat (first | refine zS ?_ | refine zA fun _=>?_)))
          exact midN ⟨b6,y6,_,[_],rfl,hle6,rfl,hB1.grow.of (by rw [set1 hGy.len,List.append_assoc]) rfl,hb6,hy6⟩ (Zw) (Zb)
        ·refine PoS.hard0 Zj (Wd T (pre:=[_,_,_,_,_]) Zz Zz Zz rfl Zz Zz Zz ?_)
         (refine Yk Zz Zz ?_)
         refine PoS.hard Zj (DoesQ.does (YR T Zz Zz Zz Zz Zz rfl Zi Zi ?_))
         (refine Yk Zz Zz ?_)
         refine PoS.hard0 Zj (YJ T (pre:=[_,_,_,_,_,_]) (L:=YH) (j:=nny) Zz Zz Zz rfl rfl Zz Yn (Ye hX6) hB Zi (fun cur1 hB1=>?_))
         refine Po.done ?_
         ((repeat (first | refine zS ?_ | refine zA fun _=>?_)))
         exact midN ⟨b6,y6,_,[_],rfl,hle6,rfl,hB1.grow.of (by rw [set1 hGy.len,List.append_assoc]) rfl,hb6,hy6⟩ (Zw) (Zb)
      ·rintro σ fz' H' ⟨b6,y6,v6,Hs6,rfl,hle6,rfl,hG6,hb6,hy6⟩
       ((repeat (first | refine zS ?_ | refine zA fun _=>?_)))
       refine YP ⟨k7+1,b6,v6,nny+1,Hs6,usy++ [y6],by omega,rfl,rfl,hley.trans hle6,rfl,hG6,by omega,?_,fun h0=>?_⟩ Zi (Zw) (Zb)
       ·rw [hb6,hby]
        exact ⟨fun h0=>⟨h0.1.1,Y1 h0.1.2 hx h0.2⟩,fun h0=>⟨⟨h0.1,fun i hi=>h0.2 i Zi⟩,h0.2 k7 Zi x hx⟩⟩
       ·rw [husy (hb6.1 h0).1,hy6 h0,List.take_add_one,hx];simp
     ·have hkny:n6=k7:=by omega
      subst hkny
      rw [show d.duratives.take n6=d.duratives from List.take_of_length_le Zi] at husy
      have hbxy:bby=false↔bbx=false∧∀ x∈d.duratives,YgE x:=by rw [hby];exact ⟨fun h0=>⟨h0.1,XY h0.2 Zi⟩,fun h0=>⟨h0.1,fun i _ x hx=>h0.2 x (List.mem_of_getElem? hx)⟩⟩
      refine Seq.freezeAll (H1:=[(g,_),(g1,_),(g2,_),(g5,_)]) (H2:=Hsy) (List.Perm.refl _) (fun fzr hlr hfr=>?_)
      obtain ⟨A2w,c2w,he5,hsl⟩:=hGy.sl hlr hfr Zi
      injection he5 with x1 x2 x3
      subst x1 x3
      have hX:=Wz hsl
      have hOk:bby=false↔YcP d:=by rw [hbxy,hbxx,hb_6];unfold YcP;simp only [and_assoc]
      have hEq:bby=false→YE ((l_6++usx)++usy)=domX d:=fun h0=>by rw [domX,hys_6 (hbxx.1 (hbxy.1 h0).1).1,husx (hbxy.1 h0).1,husy h0]
      unfold lsO wrO
      cases bby
      ·((repeat (first | refine zS ?_ | refine zA fun _=>?_)))
       (((refine zG ?_));refine Yx Zz Zz (Ydw (x:=YE ((l_6++usx)++usy)) hX) (fun f1=>?_) (fun f1=>?_))
       ·have hP:YcP d∧XVal (domX d):=⟨hOk.1 rfl,by rw [← hEq rfl];exact of_decide_eq_true f1⟩
        ((repeat (first | refine zS ?_ | refine zA fun _=>?_)))
        refine YeA T (vs:=[.agg #[_,_,_,_,_,_],.nilIface]) Zz ⟨⟨_,_,2,_,_,_,rfl,rfl,rfl,rfl,rfl,rfl⟩,rfl,trivial⟩ (fun fz3 hle3 hf3=>?_)
        exact ⟨rfl,_,_,by rw [if_pos hP];rfl,SxIs.mono hle3 ⟨_,rfl,Ye hX⟩,fun _=>hEq rfl⟩
       ·have hP:¬(YcP d∧XVal (domX d)):=fun h0=>of_decide_eq_false f1 (by rw [hEq rfl];exact h0.2)
        ((repeat (first | refine zS ?_ | refine zA fun _=>?_)))
        refine YeA T (vs:=[.agg #[_,_,_,_,_,_],_]) Zz ⟨⟨_,_,2,_,_,_,rfl,rfl,rfl,rfl,rfl,rfl⟩,rfl,trivial⟩ (fun fz3 hle3 hf3=>?_)
        exact ⟨rfl,_,_,by rw [if_neg hP,Ybt Zh];rfl,YbY,fun h0=>absurd h0 hP⟩
      ·have hP:¬(YcP d∧XVal (domX d)):=fun h0=>by simpa using hOk.2 h0.1
       ((repeat (first | refine zS ?_ | refine zA fun _=>?_)))
       refine YeA T (vs:=[.agg #[_,_,_,_,_,_],_]) Zz ⟨⟨_,_,2,_,_,_,rfl,rfl,rfl,rfl,rfl,rfl⟩,rfl,trivial⟩ (fun fz3 hle3 hf3=>?_)
       exact ⟨rfl,_,_,by rw [if_neg hP,Ybt Zh];rfl,YbY,fun h0=>absurd h0 hP⟩
end Go.Proofs.YtbhlgkibgajajaaGreatDoor
