/- The texts PWalkN, PRefH, PRefI, PWalkO, laid together. Conditions: none. -/
import Derived.Test.YtbhlgkibgajajaaGreatDoorQDF
import Derived.Test.YtbhlgkibgajajaaGreatDoorQDG
import Derived.Test.YtbhlgkibgajajaaGreatDoorQDI
import Derived.Test.YtbhlgkibgajajaaGreatDoorQDB
import Derived.Test.YtbhlgkibgajajaaGreatDoorQDC
import Derived.Test.YtbhlgkibgajajaaGreatDoorQDD
import Derived.Test.YtbhlgkibgajajaaGreatDoorQDE
import Derived.Test.YtbhlgkibgajajaaGreatDoorQDJ
import Derived.Test.YtbhlgkibgajajaaGreatDoorQDH
set_option maxRecDepth 20000
namespace Go.Proofs.YtbhlgkibgajajaaGreatDoor
open Go.Lx Go.RowKit
attribute [local instance 10] Classical.propDecidable
def lsO (v:Value):Obj:=.cells #[.int .i64 3,.int .i64 0,.int .i64 0,.int .i64 0,.string ⟨#[]⟩,v] 64 (0,0)
def YaZ:List Value:=[.int .i64 0,.int .i64 0,.int .i64 0,.int .i64 0,.string ⟨#[]⟩,.slice none 0 0]
theorem Wg {fz:FZ}:YH.rep fz YfX YaZ:=Ye (x:=YfX) ⟨Xo,Xo,Xo,Xo,YX,IsSl.nil⟩
theorem set2 {α:Type} {l:List α} {n:Nat} {z w y:α} (hn:l.length=n):((l++ [z,z]).set n w).set (n+1) y=l++ [w,y]:=by
 subst hn
 rw [List.set_append_right _ _ (Nat.le_refl _),Nat.sub_self,List.set_append_right _ _ Zi,Nat.add_sub_cancel_left]
 rfl
theorem set1 {α:Type} {l:List α} {n:Nat} {z w:α} (hn:l.length=n):(l++ [z]).set n w=l++ [w]:=by
 subst hn
 rw [List.set_append_right _ _ (Nat.le_refl _),Nat.sub_self]
 rfl
def PartR (gx n:Nat) (l:List Sexpr) (fz:FZ) (v:Value) (fz':FZ) (H':HP):Prop:=v=.tuple #[]∧Le fz fz'∧∃ (v':Value) (n':Nat) (Hs':HP),H'=(gx,lsO v')::Hs'∧Grow YH 64 fz' v' n' Hs' l∧n'≤n+2
set_option maxHeartbeats 2000000 in
theorem YbF {fz:FZ} {gx n:Nat} {v vy:Value} {Hs:HP} {l:List Sexpr} {mi:Bool} {kw:ByteArray} {y:Sexpr} (hG:Grow YH 64 fz v n Hs l) (hY:Y9 fz y vy) (hkw:Short kw) (hn:n≤100000000000):
 GFn Tryz.prog 67 [.pointer (some ⟨gx,0,none⟩),.bool mi,.string kw,.agg #[.int .i64 y.kind,.int .i64 y.value,.int .i64 y.line,.int .i64 y.column,.string y.text,vy]] fz ((gx,lsO v)::Hs) (PartR gx n (l++if mi=true then [] else [Yg kw,y]) fz):=by
 obtain ⟨Ay,ny,cy,rfl,_⟩:=hY.kids
 have hlen:=hG.len
 obtain ⟨Av,cv,rfl,_,_⟩:=hG.form
 unfold lsO
 (refine GFn.of_wp Tryz.func67 rfl Tryz.ntmps67 rfl rfl (fun w0=>?_))
 cases mi
 ·(refine Yp (Yq (Yc Zz (Xl _ Zz Zz (fun g7=>?_)))))
  ((repeat (first | refine zS ?_ | refine zA fun _=>?_)))
  (refine Wp.drawP [12,15,16] (Hq:=[(g7,_),(gx,_)]) T.mixed Zj Zj (Zb) ?_)
  ((repeat (first | refine zS ?_ | refine zA fun _=>?_)))
  (((refine zG ?_));refine Yj Zz Zz (WB (s:=kw)) ?_)
  ((repeat (first | refine zS ?_ | refine zA fun _=>?_)))
  (refine YC ?_)
  (refine YC ?_)
  (refine YC ?_)
  (refine YC ?_)
  (refine PK.p Zz (fun fz'=>by first | exact Yas Zz rfl | exact Wi Zz rfl | exact Xi T Zz Zz Zz Zz Zz Zz rfl | exact Ycj Zz Zz (Xk Zi) rfl | exact Xh T Zz Zz Zz rfl) ?_)
  (refine YC ?_)
  (refine YC ?_)
  (refine PK.p Zz (fun fz'=>by first | exact Yas Zz rfl | exact Wi Zz rfl | exact Xi T Zz Zz Zz Zz Zz Zz rfl | exact Ycj Zz Zz (Xk Zi) rfl | exact Xh T Zz Zz Zz rfl) ?_)
  (refine PK.p Zz (fun fz'=>by first | exact Yas Zz rfl | exact Wi Zz rfl | exact Xi T Zz Zz Zz Zz Zz Zz rfl | exact Ycj Zz Zz (Xk Zi) rfl | exact Xh T Zz Zz Zz rfl) ?_)
  (refine YC ?_)
  (refine PK.done ⟨by kernel_rfl,?_⟩)
  (refine Yk Zz Zz ?_)
  refine Yo (Yd T (cs:=YaZ++YaZ) Zz Zz Zz Zz Zz Zz Zz Zz (fun gb=>⟨(⟨Le.refl _,Zx⟩),?_⟩))
  (refine Yk Zz Zz ?_)
  refine Yo (Yd6 T (Hr:=[_,_,_]) (ys:=[(YfX,YaZ),(YfX,YaZ)]) (l2:=[YfX,YfX]) (m:=2) Zz Zz Zz Zz Zz Zz Zz Zz (List.Perm.refl _) hG Yn (.head _) rfl rfl (by intro p hp;simp at hp;subst hp;exact Wg) rfl (by show _*72≤_;omega) Zi (fun v' Hs' hO'=>⟨(⟨Le.refl _,Zx⟩),?_⟩))
  obtain ⟨gk,cap,cur,rfl,rfl,hB⟩:=hO'.b Zi
  (refine Y4 Zz Zz Zz ?_ ?_)
  ·refine PoS.hard Zj (DoesQ.does (YR T Zz Zz Zz Zz Zz rfl Zi Zi ?_))
   (refine Y4 Zz Zz Zz ?_ ?_)
   ·refine PoS.hard0 Zj (YJ T (pre:=[_,_,_]) (L:=YH) (j:=n) Zz Zz Zz rfl rfl Zz Yn (Yt hkw) hB Zi (fun cur1 hB1=>?_))
    (refine Y4 Zz Zz Zz ?_ ?_)
    ·refine PoS.hard Zj (DoesQ.does (YR T Zz Zz Zz Zz Zz rfl Zi Zi ?_))
     (refine Y4 Zz Zz Zz ?_ ?_)
     ·refine PoS.hard0 Zj (YJ T (pre:=[_,_,_]) (L:=YH) (j:=n+1) Zz Zz Zz rfl rfl Zz Yn (Ye hY) hB1 Zi (fun cur2 hB2=>?_))
      (refine Yk Zz Zz ?_)
      refine PoS.hard0 Zj (XM T Zz Zz Zz Zz Zz Zz ?_)
      refine Po.done ?_
      ((repeat (first | refine zS ?_ | refine zA fun _=>?_)))
      exact Ybe rfl (H':=[(gx,lsO _),(gk,.cells (List.toArray cur2) 64 (0,0))]) (Zb) ⟨rfl,Le.refl _,_,_,[_],rfl,hB2.grow.of (by rw [set2 hlen];rfl) rfl,by omega⟩
     ·refine PoS.hard0 Zj (XM T Zz Zz Zz Zz Zz Zz ?_)
      (refine Yk Zz Zz ?_)
      refine PoS.hard0 Zj (YJ T (pre:=[_,_,_]) (L:=YH) (j:=n+1) Zz Zz Zz rfl rfl Zz Yn (Ye hY) hB1 Zi (fun cur2 hB2=>?_))
      refine Po.done ?_
      ((repeat (first | refine zS ?_ | refine zA fun _=>?_)))
      exact Ybe rfl (H':=[(gx,lsO _),(gk,.cells (List.toArray cur2) 64 (0,0))]) (Zb) ⟨rfl,Le.refl _,_,_,[_],rfl,hB2.grow.of (by rw [set2 hlen];rfl) rfl,by omega⟩
    ·refine PoS.hard0 Zj (XM T Zz Zz Zz Zz Zz Zz ?_)
     (refine Yk Zz Zz ?_)
     refine PoS.hard Zj (DoesQ.does (YR T Zz Zz Zz Zz Zz rfl Zi Zi ?_))
     (refine Yk Zz Zz ?_)
     refine PoS.hard0 Zj (YJ T (pre:=[_,_,_]) (L:=YH) (j:=n+1) Zz Zz Zz rfl rfl Zz Yn (Ye hY) hB1 Zi (fun cur2 hB2=>?_))
     refine Po.done ?_
     ((repeat (first | refine zS ?_ | refine zA fun _=>?_)))
     exact Ybe rfl (H':=[(gx,lsO _),(gk,.cells (List.toArray cur2) 64 (0,0))]) (Zb) ⟨rfl,Le.refl _,_,_,[_],rfl,hB2.grow.of (by rw [set2 hlen];rfl) rfl,by omega⟩
   ·refine PoS.hard0 Zj (XM T Zz Zz Zz Zz Zz Zz ?_)
    (refine Yk Zz Zz ?_)
    refine PoS.hard0 Zj (YJ T (pre:=[_,_,_]) (L:=YH) (j:=n) Zz Zz Zz rfl rfl Zz Yn (Yt hkw) hB Zi (fun cur1 hB1=>?_))
    (refine Yk Zz Zz ?_)
    refine PoS.hard Zj (DoesQ.does (YR T Zz Zz Zz Zz Zz rfl Zi Zi ?_))
    (refine Yk Zz Zz ?_)
    refine PoS.hard0 Zj (YJ T (pre:=[_,_,_]) (L:=YH) (j:=n+1) Zz Zz Zz rfl rfl Zz Yn (Ye hY) hB1 Zi (fun cur2 hB2=>?_))
    refine Po.done ?_
    ((repeat (first | refine zS ?_ | refine zA fun _=>?_)))
    exact Ybe rfl (H':=[(gx,lsO _),(gk,.cells (List.toArray cur2) 64 (0,0))]) (Zb) ⟨rfl,Le.refl _,_,_,[_],rfl,hB2.grow.of (by rw [set2 hlen];rfl) rfl,by omega⟩
  ·refine PoS.hard0 Zj (XM T Zz Zz Zz Zz Zz Zz ?_)
   (refine Yk Zz Zz ?_)
   refine PoS.hard Zj (DoesQ.does (YR T Zz Zz Zz Zz Zz rfl Zi Zi ?_))
   (refine Yk Zz Zz ?_)
   refine PoS.hard0 Zj (YJ T (pre:=[_,_,_]) (L:=YH) (j:=n) Zz Zz Zz rfl rfl Zz Yn (Yt hkw) hB Zi (fun cur1 hB1=>?_))
   (refine Yk Zz Zz ?_)
   refine PoS.hard Zj (DoesQ.does (YR T Zz Zz Zz Zz Zz rfl Zi Zi ?_))
   (refine Yk Zz Zz ?_)
   refine PoS.hard0 Zj (YJ T (pre:=[_,_,_]) (L:=YH) (j:=n+1) Zz Zz Zz rfl rfl Zz Yn (Ye hY) hB1 Zi (fun cur2 hB2=>?_))
   refine Po.done ?_
   ((repeat (first | refine zS ?_ | refine zA fun _=>?_)))
   exact Ybe rfl (H':=[(gx,lsO _),(gk,.cells (List.toArray cur2) 64 (0,0))]) (Zb) ⟨rfl,Le.refl _,_,_,[_],rfl,hB2.grow.of (by rw [set2 hlen];rfl) rfl,by omega⟩
 ·(refine Yp (Yq (Yc Zz (Xl _ Zz Zz (fun g7=>?_)))))
  ((repeat (first | refine zS ?_ | refine zA fun _=>?_)))
  exact Ybe rfl (H':=(gx,lsO _)::Hs) (Zb) ⟨rfl,Le.refl _,_,_,Hs,rfl,hG.of (by simp) rfl,by omega⟩
set_option maxHeartbeats 2000000 in
theorem YfA {fz:FZ} {gx n m c:Nat} {B:Option Addr} {v:Value} {Hs:HP} {l ks:List Sexpr} {kw:ByteArray} (hG:Grow YH 64 fz v n Hs l) (hK:Sl YH fz B m c ks) (hkw:Short kw) (hn:n≤100000000000) (hm:m≤100000000000):
 GFn Tryz.prog 32 [.pointer (some ⟨gx,0,none⟩),.string kw,.slice B m c] fz ((gx,lsO v)::Hs) (PartR gx n (l++if ks=[] then [] else [YE (Yg kw::ks)]) fz):=by
 have hlen:=hG.len
 obtain ⟨Av,cv,rfl,_,_⟩:=hG.form
 unfold lsO
 (refine GFn.of_wp Tryz.func32 rfl Tryz.ntmps32 rfl rfl (fun w0=>?_))
 ((repeat (first | refine zS ?_ | refine zA fun _=>?_)))
 ((refine zG ?_;refine zC (fun c0=>?_) (fun c0=>?_)))
 ·have hks:ks≠ []:=(W6 hK.len).1 c0
  ((repeat (first | refine zS ?_ | refine zA fun _=>?_)))
  (refine Wp.drawP [15,16] (Hq:=[(gx,_)]) T.mixed Zj Zj (Zb) ?_)
  ((repeat (first | refine zS ?_ | refine zA fun _=>?_)))
  (((refine zG ?_));refine Yj Zz Zz (WB (s:=kw)) ?_)
  (refine YC ?_)
  ((repeat (first | refine zS ?_ | refine zA fun _=>?_)))
  (refine YC ?_)
  (refine YC ?_)
  ((repeat (first | refine zS ?_ | refine zA fun _=>?_)))
  (refine YC ?_)
  (refine YC ?_)
  (refine YC ?_)
  (refine YC ?_)
  (refine PK.p Zz (fun fz'=>by first | exact Yas Zz rfl | exact Wi Zz rfl | exact Xi T Zz Zz Zz Zz Zz Zz rfl | exact Ycj Zz Zz (Xk Zi) rfl | exact Xh T Zz Zz Zz rfl) ?_)
  (refine PK.p Zz (fun fz'=>by first | exact Yas Zz rfl | exact Wi Zz rfl | exact Xi T Zz Zz Zz Zz Zz Zz rfl | exact Ycj Zz Zz (Xk Zi) rfl | exact Xh T Zz Zz Zz rfl) ?_)
  (refine YC ?_)
  (refine PK.done ⟨by kernel_rfl,?_⟩)
  (refine Y4 Zz Zz Zz ?_ ?_)
  ·refine Yo (Yd T (cs:=Yw kw) Zz Zz Zz Zz Zz Zz Zz Zz (fun gb1=>⟨(⟨Le.refl _,Zx⟩),?_⟩))
   (refine Y4 Zz Zz Zz ?_ ?_)
   ·refine Yo (YbK T (n:=1) (l:=[Yg kw]) (Hr:=(gx,_)::Hs) (Hs:=[(gb1,_)]) Zz Zz Zz Zz Zz Zz Zz Zz (List.perm_append_singleton _ _).symm (Grow.block (ys:=[(Yg kw,Yw kw)]) rfl rfl (by simpa using Yt hkw) rfl Zh) Yn hK (by show _*72≤_;omega) Zi (fun v1 Hs1 hO1=>⟨(⟨Le.refl _,Zx⟩),?_⟩))
    obtain ⟨A1,c1,rfl,_,_⟩:=hO1.form
    (refine Y4 Zz Zz Zz ?_ ?_)
    ·refine PoS.qk (⟨Le.refl _,Zx⟩) (Yj Zz Zz Y7 ?_)
     unfold sxV
     (refine Yk Zz Zz ?_)
     refine Yo (Yd T (cs:=YaZ) Zz Zz Zz Zz Zz Zz Zz Zz (fun gz=>⟨(⟨Le.refl _,Zx⟩),?_⟩))
     (refine Yk Zz Zz ?_)
     refine PoS.hard Zj (Does.freezeAll (H1:=(gz,_)::(gx,_)::Hs) (H2:=Hs1) (List.Perm.refl _) (fun fz2 hl2 hf2=>Xc T (Hr:=[_,_]) Zz Zz Zz Zz Zz Zz Zz Zz (List.Perm.refl _) (hG.mono hl2) Yn (.head _) Wg (by show _*72≤_;omega) Zi (fun v' Hs' hO'=>?_)))
     obtain ⟨gk,cap,cur,rfl,rfl,hB⟩:=hO'.b Zi
     obtain ⟨A2,c2,he2,hsl⟩:=hO1.sl hl2 hf2 Zi
     injection he2 with e1 e2 e3
     subst e1 e3
     have hX:Y9 fz2 (YE (Yg kw::ks)) (.slice A1 (1+m) c1):=⟨Yc2,Xo,Xo,Xo,YX,hsl.is⟩
     (refine Y4 Zz Zz Zz ?_ ?_)
     ·refine PoS.hard Zj (DoesQ.does (YR T Zz Zz Zz Zz Zz rfl Zi Zi ?_))
      (refine Y4 Zz Zz Zz ?_ ?_)
      ·refine PoS.hard0 Zj (YJ T (pre:=[_,_]) (L:=YH) (j:=n) Zz Zz Zz rfl rfl Zz Yn (Ye (x:=YE (Yg kw::ks)) hX) hB Zi (fun cur1 hB1=>?_))
       (refine Yk Zz Zz ?_)
       refine PoS.hard0 Zj (Y0 T Zz Zz Zz Zz Zz Zz ?_)
       refine Po.done ?_
       ((repeat (first | refine zS ?_ | refine zA fun _=>?_)))
       exact Ybe rfl (H':=[(gx,lsO _),(gk,.cells (List.toArray cur1) 64 (0,0))]) (Zb) ⟨rfl,hl2,_,_,[_],rfl,hB1.grow.of (by rw [set1 hlen,if_neg hks]) rfl,by omega⟩
      ·refine PoS.hard0 Zj (Y0 T Zz Zz Zz Zz Zz Zz ?_)
       (refine Yk Zz Zz ?_)
       refine PoS.hard0 Zj (YJ T (pre:=[_,_]) (L:=YH) (j:=n) Zz Zz Zz rfl rfl Zz Yn (Ye (x:=YE (Yg kw::ks)) hX) hB Zi (fun cur1 hB1=>?_))
       refine Po.done ?_
       ((repeat (first | refine zS ?_ | refine zA fun _=>?_)))
       exact Ybe rfl (H':=[(gx,lsO _),(gk,.cells (List.toArray cur1) 64 (0,0))]) (Zb) ⟨rfl,hl2,_,_,[_],rfl,hB1.grow.of (by rw [set1 hlen,if_neg hks]) rfl,by omega⟩
     ·refine PoS.hard0 Zj (Y0 T Zz Zz Zz Zz Zz Zz ?_)
      (refine Yk Zz Zz ?_)
      refine PoS.hard Zj (DoesQ.does (YR T Zz Zz Zz Zz Zz rfl Zi Zi ?_))
      (refine Yk Zz Zz ?_)
      refine PoS.hard0 Zj (YJ T (pre:=[_,_]) (L:=YH) (j:=n) Zz Zz Zz rfl rfl Zz Yn (Ye (x:=YE (Yg kw::ks)) hX) hB Zi (fun cur1 hB1=>?_))
      refine Po.done ?_
      ((repeat (first | refine zS ?_ | refine zA fun _=>?_)))
      exact Ybe rfl (H':=[(gx,lsO _),(gk,.cells (List.toArray cur1) 64 (0,0))]) (Zb) ⟨rfl,hl2,_,_,[_],rfl,hB1.grow.of (by rw [set1 hlen,if_neg hks]) rfl,by omega⟩
    ·refine Yo (Yd T (cs:=YaZ) Zz Zz Zz Zz Zz Zz Zz Zz (fun gz=>⟨(⟨Le.refl _,Zx⟩),?_⟩))
     (refine Yk Zz Zz ?_)
     refine PoS.qk (⟨Le.refl _,Zx⟩) (Yj Zz Zz Y7 ?_)
     unfold sxV
     (refine Yk Zz Zz ?_)
     refine PoS.hard Zj (Does.freezeAll (H1:=(gz,_)::(gx,_)::Hs) (H2:=Hs1) (List.Perm.refl _) (fun fz2 hl2 hf2=>Xc T (Hr:=[_,_]) Zz Zz Zz Zz Zz Zz Zz Zz (List.Perm.refl _) (hG.mono hl2) Yn (.head _) Wg (by show _*72≤_;omega) Zi (fun v' Hs' hO'=>?_)))
     obtain ⟨gk,cap,cur,rfl,rfl,hB⟩:=hO'.b Zi
     obtain ⟨A2,c2,he2,hsl⟩:=hO1.sl hl2 hf2 Zi
     injection he2 with e1 e2 e3
     subst e1 e3
     have hX:Y9 fz2 (YE (Yg kw::ks)) (.slice A1 (1+m) c1):=⟨Yc2,Xo,Xo,Xo,YX,hsl.is⟩
     (refine Y4 Zz Zz Zz ?_ ?_)
     ·refine PoS.hard Zj (DoesQ.does (YR T Zz Zz Zz Zz Zz rfl Zi Zi ?_))
      (refine Y4 Zz Zz Zz ?_ ?_)
      ·refine PoS.hard0 Zj (YJ T (pre:=[_,_]) (L:=YH) (j:=n) Zz Zz Zz rfl rfl Zz Yn (Ye (x:=YE (Yg kw::ks)) hX) hB Zi (fun cur1 hB1=>?_))
       (refine Yk Zz Zz ?_)
       refine PoS.hard0 Zj (Y0 T Zz Zz Zz Zz Zz Zz ?_)
       refine Po.done ?_
       ((repeat (first | refine zS ?_ | refine zA fun _=>?_)))
       exact Ybe rfl (H':=[(gx,lsO _),(gk,.cells (List.toArray cur1) 64 (0,0))]) (Zb) ⟨rfl,hl2,_,_,[_],rfl,hB1.grow.of (by rw [set1 hlen,if_neg hks]) rfl,by omega⟩
      ·refine PoS.hard0 Zj (Y0 T Zz Zz Zz Zz Zz Zz ?_)
       (refine Yk Zz Zz ?_)
       refine PoS.hard0 Zj (YJ T (pre:=[_,_]) (L:=YH) (j:=n) Zz Zz Zz rfl rfl Zz Yn (Ye (x:=YE (Yg kw::ks)) hX) hB Zi (fun cur1 hB1=>?_))
       refine Po.done ?_
       ((repeat (first | refine zS ?_ | refine zA fun _=>?_)))
       exact Ybe rfl (H':=[(gx,lsO _),(gk,.cells (List.toArray cur1) 64 (0,0))]) (Zb) ⟨rfl,hl2,_,_,[_],rfl,hB1.grow.of (by rw [set1 hlen,if_neg hks]) rfl,by omega⟩
     ·refine PoS.hard0 Zj (Y0 T Zz Zz Zz Zz Zz Zz ?_)
      (refine Yk Zz Zz ?_)
      refine PoS.hard Zj (DoesQ.does (YR T Zz Zz Zz Zz Zz rfl Zi Zi ?_))
      (refine Yk Zz Zz ?_)
      refine PoS.hard0 Zj (YJ T (pre:=[_,_]) (L:=YH) (j:=n) Zz Zz Zz rfl rfl Zz Yn (Ye (x:=YE (Yg kw::ks)) hX) hB Zi (fun cur1 hB1=>?_))
      refine Po.done ?_
      ((repeat (first | refine zS ?_ | refine zA fun _=>?_)))
      exact Ybe rfl (H':=[(gx,lsO _),(gk,.cells (List.toArray cur1) 64 (0,0))]) (Zb) ⟨rfl,hl2,_,_,[_],rfl,hB1.grow.of (by rw [set1 hlen,if_neg hks]) rfl,by omega⟩
   ·refine Yo (Yd T (cs:=YaZ) Zz Zz Zz Zz Zz Zz Zz Zz (fun gz=>⟨(⟨Le.refl _,Zx⟩),?_⟩))
    (refine Yk Zz Zz ?_)
    refine Yo (YbK T (n:=1) (l:=[Yg kw]) (Hr:=(gz,_)::(gx,_)::Hs) (Hs:=[(gb1,_)]) Zz Zz Zz Zz Zz Zz Zz Zz (List.Perm.cons _ (List.perm_append_singleton _ _).symm) (Grow.block (ys:=[(Yg kw,Yw kw)]) rfl rfl (by simpa using Yt hkw) rfl Zh) Yn hK (by show _*72≤_;omega) Zi (fun v1 Hs1 hO1=>⟨(⟨Le.refl _,Zx⟩),?_⟩))
    obtain ⟨A1,c1,rfl,_,_⟩:=hO1.form
    (refine Yk Zz Zz ?_)
    refine PoS.qk (⟨Le.refl _,Zx⟩) (Yj Zz Zz Y7 ?_)
    unfold sxV
    (refine Yk Zz Zz ?_)
    refine PoS.hard Zj (Does.freezeAll (H1:=(gz,_)::(gx,_)::Hs) (H2:=Hs1) (List.Perm.refl _) (fun fz2 hl2 hf2=>Xc T (Hr:=[_,_]) Zz Zz Zz Zz Zz Zz Zz Zz (List.Perm.refl _) (hG.mono hl2) Yn (.head _) Wg (by show _*72≤_;omega) Zi (fun v' Hs' hO'=>?_)))
    obtain ⟨gk,cap,cur,rfl,rfl,hB⟩:=hO'.b Zi
    obtain ⟨A2,c2,he2,hsl⟩:=hO1.sl hl2 hf2 Zi
    injection he2 with e1 e2 e3
    subst e1 e3
    have hX:Y9 fz2 (YE (Yg kw::ks)) (.slice A1 (1+m) c1):=⟨Yc2,Xo,Xo,Xo,YX,hsl.is⟩
    (refine Y4 Zz Zz Zz ?_ ?_)
    ·refine PoS.hard Zj (DoesQ.does (YR T Zz Zz Zz Zz Zz rfl Zi Zi ?_))
     (refine Y4 Zz Zz Zz ?_ ?_)
     ·refine PoS.hard0 Zj (YJ T (pre:=[_,_]) (L:=YH) (j:=n) Zz Zz Zz rfl rfl Zz Yn (Ye (x:=YE (Yg kw::ks)) hX) hB Zi (fun cur1 hB1=>?_))
      (refine Yk Zz Zz ?_)
      refine PoS.hard0 Zj (Y0 T Zz Zz Zz Zz Zz Zz ?_)
      refine Po.done ?_
      ((repeat (first | refine zS ?_ | refine zA fun _=>?_)))
      exact Ybe rfl (H':=[(gx,lsO _),(gk,.cells (List.toArray cur1) 64 (0,0))]) (Zb) ⟨rfl,hl2,_,_,[_],rfl,hB1.grow.of (by rw [set1 hlen,if_neg hks]) rfl,by omega⟩
     ·refine PoS.hard0 Zj (Y0 T Zz Zz Zz Zz Zz Zz ?_)
      (refine Yk Zz Zz ?_)
      refine PoS.hard0 Zj (YJ T (pre:=[_,_]) (L:=YH) (j:=n) Zz Zz Zz rfl rfl Zz Yn (Ye (x:=YE (Yg kw::ks)) hX) hB Zi (fun cur1 hB1=>?_))
      refine Po.done ?_
      ((repeat (first | refine zS ?_ | refine zA fun _=>?_)))
      exact Ybe rfl (H':=[(gx,lsO _),(gk,.cells (List.toArray cur1) 64 (0,0))]) (Zb) ⟨rfl,hl2,_,_,[_],rfl,hB1.grow.of (by rw [set1 hlen,if_neg hks]) rfl,by omega⟩
    ·refine PoS.hard0 Zj (Y0 T Zz Zz Zz Zz Zz Zz ?_)
     (refine Yk Zz Zz ?_)
     refine PoS.hard Zj (DoesQ.does (YR T Zz Zz Zz Zz Zz rfl Zi Zi ?_))
     (refine Yk Zz Zz ?_)
     refine PoS.hard0 Zj (YJ T (pre:=[_,_]) (L:=YH) (j:=n) Zz Zz Zz rfl rfl Zz Yn (Ye (x:=YE (Yg kw::ks)) hX) hB Zi (fun cur1 hB1=>?_))
     refine Po.done ?_
     ((repeat (first | refine zS ?_ | refine zA fun _=>?_)))
     exact Ybe rfl (H':=[(gx,lsO _),(gk,.cells (List.toArray cur1) 64 (0,0))]) (Zb) ⟨rfl,hl2,_,_,[_],rfl,hB1.grow.of (by rw [set1 hlen,if_neg hks]) rfl,by omega⟩
  ·refine Yo (Yd T (cs:=YaZ) Zz Zz Zz Zz Zz Zz Zz Zz (fun gz=>⟨(⟨Le.refl _,Zx⟩),?_⟩))
   (refine Yk Zz Zz ?_)
   refine Yo (Yd T (cs:=Yw kw) Zz Zz Zz Zz Zz Zz Zz Zz (fun gb1=>⟨(⟨Le.refl _,Zx⟩),?_⟩))
   (refine Yk Zz Zz ?_)
   refine Yo (YbK T (n:=1) (l:=[Yg kw]) (Hr:=(gz,_)::(gx,_)::Hs) (Hs:=[(gb1,_)]) Zz Zz Zz Zz Zz Zz Zz Zz (List.perm_append_singleton _ _).symm (Grow.block (ys:=[(Yg kw,Yw kw)]) rfl rfl (by simpa using Yt hkw) rfl Zh) Yn hK (by show _*72≤_;omega) Zi (fun v1 Hs1 hO1=>⟨(⟨Le.refl _,Zx⟩),?_⟩))
   obtain ⟨A1,c1,rfl,_,_⟩:=hO1.form
   (refine Yk Zz Zz ?_)
   refine PoS.qk (⟨Le.refl _,Zx⟩) (Yj Zz Zz Y7 ?_)
   unfold sxV
   (refine Yk Zz Zz ?_)
   refine PoS.hard Zj (Does.freezeAll (H1:=(gz,_)::(gx,_)::Hs) (H2:=Hs1) (List.Perm.refl _) (fun fz2 hl2 hf2=>Xc T (Hr:=[_,_]) Zz Zz Zz Zz Zz Zz Zz Zz (List.Perm.refl _) (hG.mono hl2) Yn (.head _) Wg (by show _*72≤_;omega) Zi (fun v' Hs' hO'=>?_)))
   obtain ⟨gk,cap,cur,rfl,rfl,hB⟩:=hO'.b Zi
   obtain ⟨A2,c2,he2,hsl⟩:=hO1.sl hl2 hf2 Zi
   injection he2 with e1 e2 e3
   subst e1 e3
   have hX:Y9 fz2 (YE (Yg kw::ks)) (.slice A1 (1+m) c1):=⟨Yc2,Xo,Xo,Xo,YX,hsl.is⟩
   (refine Y4 Zz Zz Zz ?_ ?_)
   ·refine PoS.hard Zj (DoesQ.does (YR T Zz Zz Zz Zz Zz rfl Zi Zi ?_))
    (refine Y4 Zz Zz Zz ?_ ?_)
    ·refine PoS.hard0 Zj (YJ T (pre:=[_,_]) (L:=YH) (j:=n) Zz Zz Zz rfl rfl Zz Yn (Ye (x:=YE (Yg kw::ks)) hX) hB Zi (fun cur1 hB1=>?_))
     (refine Yk Zz Zz ?_)
     refine PoS.hard0 Zj (Y0 T Zz Zz Zz Zz Zz Zz ?_)
     refine Po.done ?_
     ((repeat (first | refine zS ?_ | refine zA fun _=>?_)))
     exact Ybe rfl (H':=[(gx,lsO _),(gk,.cells (List.toArray cur1) 64 (0,0))]) (Zb) ⟨rfl,hl2,_,_,[_],rfl,hB1.grow.of (by rw [set1 hlen,if_neg hks]) rfl,by omega⟩
    ·refine PoS.hard0 Zj (Y0 T Zz Zz Zz Zz Zz Zz ?_)
     (refine Yk Zz Zz ?_)
     refine PoS.hard0 Zj (YJ T (pre:=[_,_]) (L:=YH) (j:=n) Zz Zz Zz rfl rfl Zz Yn (Ye (x:=YE (Yg kw::ks)) hX) hB Zi (fun cur1 hB1=>?_))
     refine Po.done ?_
     ((repeat (first | refine zS ?_ | refine zA fun _=>?_)))
     exact Ybe rfl (H':=[(gx,lsO _),(gk,.cells (List.toArray cur1) 64 (0,0))]) (Zb) ⟨rfl,hl2,_,_,[_],rfl,hB1.grow.of (by rw [set1 hlen,if_neg hks]) rfl,by omega⟩
   ·refine PoS.hard0 Zj (Y0 T Zz Zz Zz Zz Zz Zz ?_)
    (refine Yk Zz Zz ?_)
    refine PoS.hard Zj (DoesQ.does (YR T Zz Zz Zz Zz Zz rfl Zi Zi ?_))
    (refine Yk Zz Zz ?_)
    refine PoS.hard0 Zj (YJ T (pre:=[_,_]) (L:=YH) (j:=n) Zz Zz Zz rfl rfl Zz Yn (Ye (x:=YE (Yg kw::ks)) hX) hB Zi (fun cur1 hB1=>?_))
    refine Po.done ?_
    ((repeat (first | refine zS ?_ | refine zA fun _=>?_)))
    exact Ybe rfl (H':=[(gx,lsO _),(gk,.cells (List.toArray cur1) 64 (0,0))]) (Zb) ⟨rfl,hl2,_,_,[_],rfl,hB1.grow.of (by rw [set1 hlen,if_neg hks]) rfl,by omega⟩
 ·have hks:ks=[]:=Classical.byContradiction fun h0=>c0 ((W6 hK.len).2 h0)
  ((repeat (first | refine zS ?_ | refine zA fun _=>?_)))
  exact Ybe rfl (H':=(gx,lsO _)::Hs) (Zb) ⟨rfl,Le.refl _,_,_,Hs,rfl,hG.of (by rw [if_pos hks,List.append_nil]) rfl,by omega⟩
end Go.Proofs.YtbhlgkibgajajaaGreatDoor
set_option maxRecDepth 20000
namespace Go.Proofs.YtbhlgkibgajajaaGreatDoor
open Go.Lx Go.RowKit
attribute [local instance 10] Classical.propDecidable
theorem Ycz {fz:FZ} {n:Int}:QFn Tryz.prog 81 [.int .i64 n] fz (sxV 2 n ⟨#[]⟩ (.slice none 0 0)):=by
 refine GFn.quiet ?_
 (refine GFn.of_wp Tryz.func81 rfl Tryz.ntmps81 rfl rfl (fun w0=>?_))
 ((repeat (first | refine zS ?_ | refine zA fun _=>?_)))
 exact X5 T (i:=0) rfl Zz Zz Zz Zz Zz (fun _ hi=>⟨_,[],hi.forget (List.nil_sublist _),rfl⟩)
theorem Ydx {fz:FZ} {n:Int}:QFn Tryz.prog 73 [.int .i64 n] fz (.bool (decide (YaM n))):=by
 refine GFn.quiet ?_
 (refine GFn.of_wp Tryz.func73 rfl Tryz.ntmps73 rfl rfl (fun w0=>?_))
 ((repeat (first | refine zS ?_ | refine zA fun _=>?_)))
 ((((refine zG ?_;refine zC (fun n1=>?_) (fun n1=>?_)));rotate_left 1;(((repeat (first | refine zS ?_ | refine zA fun _=>?_)));(exact ret1 rfl rfl (Zb) (Ya (fun h=>n1 h.1))));((repeat (first | refine zS ?_ | refine zA fun _=>?_)))))
 ((((refine zG ?_;refine zC (fun n2=>?_) (fun n2=>?_)));rotate_left 1;(((repeat (first | refine zS ?_ | refine zA fun _=>?_)));(exact ret1 rfl rfl (Zb) (Ya (fun h=>n2 h.2))));((repeat (first | refine zS ?_ | refine zA fun _=>?_)))))
 (exact ret1 rfl rfl (Zb) (Yy ⟨n1,n2⟩))
theorem YdP {fz:FZ} {f:Formula} {va vp ve vk:Value} (h:FormulaR fz f va vp ve vk):
 QFn Tryz.prog 83 [.agg #[.string f.op,.string f.name,va,vp,ve,vk]] fz (.bool (decide (f.op=kAnd∧f.kids=[]))):=by
 obtain ⟨D,q,cq,rfl,hk⟩:=h.kids
 refine GFn.quiet ?_
 (refine GFn.of_wp Tryz.func83 rfl Tryz.ntmps83 rfl rfl (fun w0=>?_))
 (refine Yp (Yq (Yc Zz (Xl _ Zz Zz (fun g0=>?_)))))
 ((repeat (first | refine zS ?_ | refine zA fun _=>?_)))
 ((((refine zG ?_;refine zC (fun n1=>?_) (fun n1=>?_)));rotate_left 1;(((repeat (first | refine zS ?_ | refine zA fun _=>?_)));(exact ret1 rfl rfl (Zb) (Ya (fun h=>n1 h.1))));((repeat (first | refine zS ?_ | refine zA fun _=>?_)))))
 ((((refine zG ?_;refine zC (fun n2=>?_) (fun n2=>?_)));rotate_left 1;(((repeat (first | refine zS ?_ | refine zA fun _=>?_)));(exact ret1 rfl rfl (Zb) (Ya (fun h=>n2 ((len0 hk.len).2 h.2)))));((repeat (first | refine zS ?_ | refine zA fun _=>?_)))))
 (exact ret1 rfl rfl (Zb) (Yy ⟨n1,(len0 hk.len).1 n2⟩))
theorem Wc {fz:FZ} {s:ByteArray} {A:Option Addr} {n c:Nat} {l:List Sexpr} (hs:Short s) (h1:Sl YH fz A n c l) (hn:n≤1000000000):
 GFn Tryz.prog 78 [.string s,.slice A n c] fz [] (fun v fz' H'=>H'=[]∧SxIs fz' v (YE (Yg s::l))):=by
 (refine GFn.of_wp Tryz.func78 rfl Tryz.ntmps78 rfl rfl (fun w0=>?_))
 ((repeat (first | refine zS ?_ | refine zA fun _=>?_)))
 rename_i g4
 (((refine zG ?_));refine Yj Zz Zz (YdI (s:=s)) ?_)
 unfold sxV
 refine Yc Zz (Yd T (cs:=Yw s) Zz Zz Zz Zz Zz Zz Zz Zz (fun gb=>?_))
 ((repeat (first | refine zS ?_ | refine zA fun _=>?_)))
 refine Yc Zz (YbK T (Hr:=[_]) (n:=1) (l:=[Yg s]) Zz Zz Zz Zz Zz Zz Zz Zz (List.Perm.swap _ _ _) (Grow.block (ys:=[(Yg s,Yw s)]) rfl rfl (by simpa using Yt hs) rfl Zh) Yn h1 (by show _*72≤_;omega) Zi (fun v' Hs' hO'=>?_))
 obtain ⟨Av',cv',rfl,_,_⟩:=hO'.form
 ((repeat (first | refine zS ?_ | refine zA fun _=>?_)))
 refine Y5 T (i:=0) rfl Zz Zz Zz Zz Zz (fun fz3 hle3 hf3=>⟨rfl,?_⟩)
 obtain ⟨A',c',he,hsl⟩:=hO'.sl hle3 (fun p hp=>hf3 p (by simp [hp])) Zi
 injection he with he1 he2 he3
 subst he1 he3
 exact XU hsl
theorem YaD {fz:FZ} {b:Bool} {v:Value} {n:Nat} {Hs:HP} {l:List Sexpr} {kw:ByteArray} {x:Sexpr} {vk:Value} (hG:Grow YH 64 fz v n Hs l) (hk:Short kw) (hX:Y9 fz x vk) (hn:n≤1000000000):
 GFn Tryz.prog 82 [v,.bool b,.string kw,.agg #[.int .i64 x.kind,.int .i64 x.value,.int .i64 x.line,.int .i64 x.column,.string x.text,vk]] fz Hs (fun v' fz' H'=>Le fz fz'∧∃ n',n'≤n+2∧Grow YH 64 fz' v' n' H' (if b=true then l else l++ [Yg kw,x])):=by
 obtain ⟨Av,cv,rfl,_,_⟩:=hG.form
 obtain ⟨B,m,d,rfl,_⟩:=hX.kids
 (refine GFn.of_wp Tryz.func82 rfl Tryz.ntmps82 rfl rfl (fun w0=>?_))
 (refine Yp (Yq (Yc Zz (Xl _ Zz Zz (fun g0=>?_)))))
 cases b
 ·((repeat (first | refine zS ?_ | refine zA fun _=>?_)))
  (refine Wp.drawK (Hq:=[_]) T.mixed Zj Zj (Zb) ?_)
  ((repeat (first | refine zS ?_ | refine zA fun _=>?_)))
  (((refine zG ?_));refine Yj Zz Zz (YdI (s:=kw)) ?_)
  unfold sxV
  ((repeat (first | refine zS ?_ | refine zA fun _=>?_)))
  (refine Yb ?_)
  (refine Yb ?_)
  (refine Yb ?_)
  (refine YK ⟨by kernel_rfl,?_⟩)
  refine Yh (Yd T (cs:=Yw kw++ [.int .i64 x.kind,.int .i64 x.value,.int .i64 x.line,.int .i64 x.column,.string x.text,.slice B m d]) Zz Zz Zz Zz Zz Zz Zz Zz (fun gb=>⟨(⟨(Le.refl _),Zx⟩),?_⟩))
  refine Yh (Yd6 T (Hr:=[_,_]) (ys:=[(Yg kw,Yw kw),(x,[.int .i64 x.kind,.int .i64 x.value,.int .i64 x.line,.int .i64 x.column,.string x.text,.slice B m d])]) (l2:=[Yg kw,x]) (m:=2) Zz Zz Zz Zz Zz Zz Zz Zz (List.Perm.refl _) hG Yn (.head _) rfl rfl (by
   intro p hp
   simp only [List.mem_cons,List.not_mem_nil,or_false] at hp
   rcases hp with rfl | rfl
   ·exact Yt hk
   ·exact Ye hX) rfl (by show _*72≤_;omega) Zi (fun v' Hs' hO'=>⟨(⟨(Le.refl _),Zx⟩),?_⟩))
  refine Ch.qk (⟨(Le.refl _),Zx⟩) (YU Zz ?_)
  refine Ch.done ?_
  ((repeat (first | refine zS ?_ | refine zA fun _=>?_)))
  exact ret1 rfl rfl (List.Sublist.cons _ (List.Sublist.cons _ (List.Sublist.refl _))) ⟨Le.refl _,n+2,by omega,by rw [if_neg (by simp)];exact hO'⟩
 ·((repeat (first | refine zS ?_ | refine zA fun _=>?_)))
  exact ret1 rfl rfl (List.Sublist.cons _ (List.Sublist.refl _)) ⟨Le.refl _,n,by omega,by rw [if_pos rfl];exact hG⟩
end Go.Proofs.YtbhlgkibgajajaaGreatDoor
set_option maxRecDepth 20000
namespace Go.Proofs.YtbhlgkibgajajaaGreatDoor
open Go.Lx Go.RowKit
attribute [local instance 10] Classical.propDecidable
def YfQ (name:ByteArray) (args:List ByteArray):Formula:=.mk kAtom name args [] [] []
def ShC (c:Change):Prop:=1≤c.kind∧c.kind≤5∧(∀ p∈c.params,Xz true p)∧FOk c.when_∧FOk (YfQ c.name c.args)∧(c.kind≤2→c.value=nilE)∧(¬c.kind≤2→EOk c.value)
set_option maxHeartbeats 2000000 in
theorem YdR {fz:FZ} {A:Option Addr} {n ca:Nat} {l:List Change} (h1:Sl changeL fz A n ca l):
 QFn Tryz.prog 74 [.slice A n ca] fz (.bool (decide (∀ c∈l,ShC c))):=by
 refine GFn.quiet ?_
 have l1:=h1.len
 have hm:=h1.short
 (refine GFn.of_wp Tryz.func74 rfl Tryz.ntmps74 rfl rfl (fun w0=>?_))
 ((repeat (first | refine zS ?_ | refine zA fun _=>?_)))
 refine YG (fun q σ fz' H'=>∃ k:Nat,k≤n∧q=n - k∧σ=[(3,.int .i64 k),(0,.slice A n ca)]∧fz=fz'∧H'=[]∧(∀ i,i<k→∀ x,l[i]?=some x→ShC x)) ⟨0,Nat.zero_le _,rfl,rfl,rfl,rfl,fun i hi=>absurd hi Zi⟩ (Zw) (Zb) ?_
 rintro q σ fz' H' ⟨k,hk,rfl,rfl,rfl,rfl,hh⟩
 ((repeat (first | refine zS ?_ | refine zA fun _=>?_)))
 ((refine zG ?_;refine zC (fun hlt=>?_) (fun hge=>?_)))
 ·obtain ⟨c,hx⟩:=YF (l:=l) (k:=k) Zi
  have bad:¬ShC c→¬∀ c∈l,ShC c:=fun h0 h=>h0 (h c (List.mem_of_getElem? hx))
  ((repeat (first | refine zS ?_ | refine zA fun _=>?_)))
  (((refine zG ?_));refine YB T k Zz Zz Zz Zz Zz Zz h1 (by first | rfl | omega) hx (fun p hp=>?_))
  (((refine zG ?_));refine Yz T Zz Zz Zz hp Zz ?_)
  intro cs hcs
  obtain ⟨v1,v2,v3,v4,v5,v6,v7,v8,rfl,h⟩:=We hcs
  obtain ⟨A1,n1,b1,rfl,ip⟩:=h.params
  obtain ⟨A2,n2,b2,rfl,iw1⟩:=h.when_.args
  obtain ⟨A3,n3,b3,rfl,iw2⟩:=h.when_.params
  obtain ⟨A4,n4,b4,rfl,iw3⟩:=h.when_.exprs
  obtain ⟨A5,n5,b5,rfl,iw4⟩:=h.when_.kids
  obtain ⟨A6,n6,b6,rfl,ia⟩:=h.args
  obtain ⟨A7,n7,b7,rfl,iv1⟩:=h.value.args
  obtain ⟨A8,n8,b8,rfl,iv2⟩:=h.value.kids
  ((repeat (first | refine zS ?_ | refine zA fun _=>?_)))
  ((((refine zG ?_;refine zC (fun e1=>?_) (fun e1=>?_)));(((repeat (first | refine zS ?_ | refine zA fun _=>?_)));(exact ret1 rfl rfl (Zb) (Ya (bad (fun h0=>by have:=h0.1;omega)))));((repeat (first | refine zS ?_ | refine zA fun _=>?_)))))
  ((((refine zG ?_;refine zC (fun e2=>?_) (fun e2=>?_)));(((repeat (first | refine zS ?_ | refine zA fun _=>?_)));(exact ret1 rfl rfl (Zb) (Ya (bad (fun h0=>by have:=h0.2.1;omega)))));((repeat (first | refine zS ?_ | refine zA fun _=>?_)))))
  (((refine zG ?_));refine Yx Zz Zz (Yac (vars:=true) ip) (fun f1=>?_) (fun f1=>?_))
  ·((repeat (first | refine zS ?_ | refine zA fun _=>?_)))
   (((refine zG ?_));refine Yu (vs:=[.string c.when_.op,.string c.when_.name,.slice A2 n2 b2,.slice A3 n3 b3,.slice A4 n4 b4,.slice A5 n5 b5]) T 0 Zz Zz Zz Zz Zz Zz ?_)
   ((repeat (first | refine zS ?_ | refine zA fun _=>?_)))
   (((refine zG ?_));refine Yx Zz Zz (Ya2 h.when_) (fun f2=>?_) (fun f2=>?_))
   ·((repeat (first | refine zS ?_ | refine zA fun _=>?_)))
    (((refine zG ?_));refine Yx Zz Zz (Ya2 (f:=YfQ c.name c.args) ⟨by show kAtom.size≤_;decide,h.name,ia.is,IsSl.nil,IsSl.nil,IsSl.nil⟩) (fun f3=>?_) (fun f3=>?_))
    ·((repeat (first | refine zS ?_ | refine zA fun _=>?_)))
     ((refine zG ?_;refine zC (fun k2=>?_) (fun k2=>?_)))
     ·((repeat (first | refine zS ?_ | refine zA fun _=>?_)))
      (((refine zG ?_));refine Yu (vs:=[.string c.value.op,.string c.value.name,.int .i64 c.value.n,.slice A7 n7 b7,.slice A8 n8 b8]) T 0 Zz Zz Zz Zz Zz Zz ?_)
      ((repeat (first | refine zS ?_ | refine zA fun _=>?_)))
      (((refine zG ?_));refine Yx Zz Zz (sameE8_q (b:=nilE) h.value Yeg) (fun f4=>?_) (fun f4=>?_))
      ·((repeat (first | refine zS ?_ | refine zA fun _=>?_)))
       ((refine zG ?_;refine zC (fun k3=>?_) (fun k3=>?_)))
       ·exact absurd k3 Zi
       ·((repeat (first | refine zS ?_ | refine zA fun _=>?_)))
        exact YP ⟨k+1,by omega,rfl,rfl,rfl,rfl,Y1 hh hx ⟨by omega,by omega,of_decide_eq_true f1,of_decide_eq_true f2,of_decide_eq_true f3,fun _=>of_decide_eq_true f4,fun h0=>absurd k2 h0⟩⟩ Zi (Zw) (Zb)
      ·((repeat (first | refine zS ?_ | refine zA fun _=>?_)))
       (exact ret1 rfl rfl (Zb) (Ya (bad (fun h0=>of_decide_eq_false f4 (h0.2.2.2.2.2.1 k2)))))
     ·((repeat (first | refine zS ?_ | refine zA fun _=>?_)))
      ((refine zG ?_;refine zC (fun k3=>?_) (fun k3=>?_)))
      ·((repeat (first | refine zS ?_ | refine zA fun _=>?_)))
       (((refine zG ?_));refine Yu (vs:=[.string c.value.op,.string c.value.name,.int .i64 c.value.n,.slice A7 n7 b7,.slice A8 n8 b8]) T 0 Zz Zz Zz Zz Zz Zz ?_)
       ((repeat (first | refine zS ?_ | refine zA fun _=>?_)))
       (((refine zG ?_));refine Yx Zz Zz (Yf6 h.value) (fun f4=>?_) (fun f4=>?_))
       ·((repeat (first | refine zS ?_ | refine zA fun _=>?_)))
        exact YP ⟨k+1,by omega,rfl,rfl,rfl,rfl,Y1 hh hx ⟨by omega,by omega,of_decide_eq_true f1,of_decide_eq_true f2,of_decide_eq_true f3,fun h0=>absurd h0 k2,fun _=>of_decide_eq_true f4⟩⟩ Zi (Zw) (Zb)
       ·((repeat (first | refine zS ?_ | refine zA fun _=>?_)))
        (exact ret1 rfl rfl (Zb) (Ya (bad (fun h0=>of_decide_eq_false f4 (h0.2.2.2.2.2.2 k2)))))
      ·exact absurd k3 Zi
    ·((repeat (first | refine zS ?_ | refine zA fun _=>?_)))
     (exact ret1 rfl rfl (Zb) (Ya (bad (fun h0=>of_decide_eq_false f3 h0.2.2.2.2.1))))
   ·((repeat (first | refine zS ?_ | refine zA fun _=>?_)))
    (exact ret1 rfl rfl (Zb) (Ya (bad (fun h0=>of_decide_eq_false f2 h0.2.2.2.1))))
  ·((repeat (first | refine zS ?_ | refine zA fun _=>?_)))
   (exact ret1 rfl rfl (Zb) (Ya (bad (fun h0=>of_decide_eq_false f1 h0.2.2.1))))
 ·((repeat (first | refine zS ?_ | refine zA fun _=>?_)))
  (exact ret1 rfl rfl (Zb) (Yy (XY hh Zi)))
end Go.Proofs.YtbhlgkibgajajaaGreatDoor
set_option maxRecDepth 20000
namespace Go.Proofs.YtbhlgkibgajajaaGreatDoor
open Go.Lx Go.RowKit
attribute [local instance 10] Classical.propDecidable
def Xs:ByteArray:=⟨#[58,97,99,116,105,111,110]⟩
def Y2:ByteArray:=⟨#[58,100,117,114,97,116,105,118,101,45,97,99,116,105,111,110]⟩
def YW:ByteArray:=⟨#[58,112,97,114,97,109,101,116,101,114,115]⟩
def Yfw:ByteArray:=⟨#[58,99,111,115,116]⟩
def XN:ByteArray:=⟨#[58,112,114,101,99,111,110,100,105,116,105,111,110]⟩
def Ycl:ByteArray:=⟨#[58,101,102,102,101,99,116]⟩
def X7:ByteArray:=⟨#[58,100,117,114,97,116,105,111,110]⟩
def YbL:ByteArray:=⟨#[58,115,116,97,114,116]⟩
def YeH:ByteArray:=⟨#[58,111,118,101,114]⟩
def kEnd:ByteArray:=⟨#[58,101,110,100]⟩
def YaQ:ByteArray:=⟨#[58,97,116,45,115,116,97,114,116]⟩
def Yd8:ByteArray:=⟨#[58,97,116,45,101,110,100]⟩
theorem YI {o:ByteArray} (h:o.size≤100):Short o:=by unfold Short;omega
theorem Ydm {fz:FZ} {n:Int} (h:I64 n):Y9 fz (numE n) (.slice none 0 0):=⟨i64_2,h,Xo,Xo,YX,IsSl.nil⟩
theorem Wz {fz:FZ} {A:Option Addr} {n c:Nat} {l:List Sexpr} (h:Sl YH fz A n c l):Y9 fz (YE l) (.slice A n c):=⟨Yc2,Xo,Xo,Xo,YX,h.is⟩
noncomputable def opt (p:Prop) (kw:ByteArray) (x:Sexpr):List Sexpr:=if p then [] else [Yg kw,x]
theorem Yd9 {α:Type} {l:List α} {n:Nat} {kw:ByteArray} {x:Sexpr} (h:l.length=n):(if decide ((n:Int)=0)=true then ([]:List Sexpr) else [Yg kw,x])=opt (l=[]) kw x:=by
 unfold opt
 by_cases hl:l=[]
 ·rw [if_pos hl,if_pos (decide_eq_true ((len0 h).2 hl))]
 ·rw [if_neg hl,if_neg (by simpa using fun h0=>hl ((len0 h).1 h0))]
theorem Yc1 {p:Prop} {d:Decidable p} {kw:ByteArray} {x:Sexpr}:(if @decide p d=true then ([]:List Sexpr) else [Yg kw,x])=opt p kw x:=by
 unfold opt
 by_cases hp:p
 ·rw [if_pos hp,if_pos (by simpa using hp)]
 ·rw [if_neg hp,if_neg (by simpa using hp)]
noncomputable def WW (l:List Param):Sexpr:=YE ((l.flatMap Xw).map Yg)
noncomputable def actX (a:Action):Sexpr:=YE ([Yg Xs,Yg a.name]++opt (a.params=[]) YW (WW a.params)++opt (a.cost=1) Yfw (numE a.cost)++opt (a.pre=Xr) XN (Y3 a.pre)++opt (a.changes=[]) Ycl (effX a.changes))
def YgN (a:Action):Prop:=Xq a.name∧0≤a.cost∧(∀ p∈a.params,Xz true p)∧FVal a.pre∧YcN a.changes
def actSm (a:Action):Prop:=a.params.length≤1000000000∧FSm a.pre∧Ykr a.changes
set_option maxHeartbeats 4000000 in
theorem Yf1 {fz:FZ} {g:Nat} {b:Bool} {a:Action} {v1 v2 v3 v4 v5 v6:Value} (h:ActionR fz a v1 v2 v3 v4 v5 v6) (hs:actSm a):
 GFn Tryz.prog 35 [.pointer (some ⟨g,0,none⟩),.agg #[.string a.name,v1,.int .i64 a.cost,.string a.pre.op,.string a.pre.name,v2,v3,v4,v5,v6]] fz [(g,wrO b)] (MkR g b (YgN a) (actX a) fz):=by
 obtain ⟨P1,p1,q1,rfl,ip⟩:=h.params
 obtain ⟨S2,s2,r2,rfl,_⟩:=h.pre.args
 obtain ⟨S3,s3,r3,rfl,_⟩:=h.pre.params
 obtain ⟨S4,s4,r4,rfl,_⟩:=h.pre.exprs
 obtain ⟨S5,s5,r5,rfl,_⟩:=h.pre.kids
 obtain ⟨S6,s6,r6,rfl,ichanges⟩:=h.changes
 obtain ⟨hs0,hs1,hs2⟩:=hs
 (refine GFn.of_wp Tryz.func35 rfl Tryz.ntmps35 rfl rfl (fun w0=>?_))
 (refine Yp (Yq (Yc Zz (Xl _ Zz Zz (fun g3=>?_)))))
 ((repeat (first | refine zSO ?_ | refine zA fun _=>?_)))
 rename_i g4
 refine Yp (Wp.mid (fun σ fz' H'=>∃ (b1:Bool) (g5:Nat) (v:Value) (Hs:HP),σ=[(5,.pointer (some ⟨g5,0,none⟩)),(4,.pointer (some ⟨g4,0,none⟩)),(3,.pointer (some ⟨g3,0,none⟩)),(0,.pointer (some ⟨g,0,none⟩))]∧Le fz fz'∧H'=(g,wrO b1)::(g4,.cells #[.int .i64 0,.int .i64 0,.int .i64 0,.int .i64 0,.string ⟨#[]⟩,.slice none 0 0] 64 (0,0))::(g3,.cells #[.string a.name,.slice P1 p1 q1,.int .i64 a.cost,.string a.pre.op,.string a.pre.name,.slice S2 s2 r2,.slice S3 s3 r3,.slice S4 s4 r4,.slice S5 s5 r5,.slice S6 s6 r6] 55 (0,0))::(g5,lsO v)::Hs∧Grow YH 64 fz' v 2 Hs [Yg Xs,Yg a.name]∧(b1=false↔b=false∧Xq a.name)) ?_ ?_)
 ·(refine Wp.drawP [] (Hq:=[(g4,_),(g3,_)]) T.mixed Zj Zj (Zb) ?_)
  (((refine zG ?_));refine Yj Zz Zz (WB (s:=Xs)) ?_)
  ((repeat (first | refine zS ?_ | refine zA fun _=>?_)))
  (refine YC ?_)
  (refine YC ?_)
  (refine YC ?_)
  (refine YC ?_)
  (refine YC ?_)
  (refine PK.done ⟨by kernel_rfl,?_⟩)
  (refine Y4 Zz Zz Zz ?_ ?_)
  ·refine Yo (Does.perm (@List.perm_middle _ _ [_,_] []).symm (Yr [_] _ Zz Zz Zz (Yba h.name) (fun v6 fz6 H6 hle6 hR6=>?_)))
   obtain ⟨_,rfl,b1,rfl,hb1⟩:=hR6
   refine ⟨(⟨hle6,Zx⟩),?_⟩
   unfold sxV
   (refine Y4 Zz Zz Zz ?_ ?_)
   ·refine Yo (Yd T (cs:=Yw Xs++Yw a.name) Zz Zz Zz Zz Zz Zz Zz Zz (fun gb=>⟨(⟨hle6,Zx⟩),?_⟩))
    (refine Y4 Zz Zz Zz ?_ ?_)
    ·refine PoS.qk (⟨hle6,Zx⟩) (Yj Zz Zz Y7 ?_)
     unfold sxV
     (refine Yk Zz Zz ?_)
     refine Yo (WA T Zz Zz (fun g5=>⟨(⟨hle6,Zx⟩),?_⟩))
     (refine Yk Zz Zz ?_)
     refine PoS.hard0 Zj (Does.perm (X6 [0,2,3,4,1] Zz Zz) (Xa T Zz Zz Zz Zz Zz Zz ?_))
     refine Po.done ?_
     ((repeat (first | refine zS ?_ | refine zA fun _=>?_)))
     exact midP (X6 [1,2,3,0,4] Zz Zz) ⟨b1,g5,_,[_],rfl,hle6,rfl,Grow.block (m:=2) (ys:=[(Yg Xs,Yw Xs),(Yg a.name,Yw a.name)]) rfl rfl (by intro p hp;simp only [List.mem_cons,List.not_mem_nil,or_false] at hp;rcases hp with rfl | rfl;exact Yt (YI Zh);exact Yt h.name) rfl Zh,hb1⟩ (Zw) (Zb)
    ·refine Yo (WA T Zz Zz (fun g5=>⟨(⟨hle6,Zx⟩),?_⟩))
     (refine Yk Zz Zz ?_)
     refine PoS.qk (⟨hle6,Zx⟩) (Yj Zz Zz Y7 ?_)
     unfold sxV
     (refine Yk Zz Zz ?_)
     refine PoS.hard0 Zj (Does.perm (X6 [0,2,3,4,1] Zz Zz) (Xa T Zz Zz Zz Zz Zz Zz ?_))
     refine Po.done ?_
     ((repeat (first | refine zS ?_ | refine zA fun _=>?_)))
     exact midP (X6 [1,2,3,0,4] Zz Zz) ⟨b1,g5,_,[_],rfl,hle6,rfl,Grow.block (m:=2) (ys:=[(Yg Xs,Yw Xs),(Yg a.name,Yw a.name)]) rfl rfl (by intro p hp;simp only [List.mem_cons,List.not_mem_nil,or_false] at hp;rcases hp with rfl | rfl;exact Yt (YI Zh);exact Yt h.name) rfl Zh,hb1⟩ (Zw) (Zb)
   ·refine Yo (WA T Zz Zz (fun g5=>⟨(⟨hle6,Zx⟩),?_⟩))
    (refine Yk Zz Zz ?_)
    refine Yo (Yd T (cs:=Yw Xs++Yw a.name) Zz Zz Zz Zz Zz Zz Zz Zz (fun gb=>⟨(⟨hle6,Zx⟩),?_⟩))
    (refine Yk Zz Zz ?_)
    refine PoS.qk (⟨hle6,Zx⟩) (Yj Zz Zz Y7 ?_)
    unfold sxV
    (refine Yk Zz Zz ?_)
    refine PoS.hard0 Zj (Does.perm (X6 [1,2,3,4,0] Zz Zz) (Xa T Zz Zz Zz Zz Zz Zz ?_))
    refine Po.done ?_
    ((repeat (first | refine zS ?_ | refine zA fun _=>?_)))
    exact midP (X6 [1,2,3,0,4] Zz Zz) ⟨b1,g5,_,[_],rfl,hle6,rfl,Grow.block (m:=2) (ys:=[(Yg Xs,Yw Xs),(Yg a.name,Yw a.name)]) rfl rfl (by intro p hp;simp only [List.mem_cons,List.not_mem_nil,or_false] at hp;rcases hp with rfl | rfl;exact Yt (YI Zh);exact Yt h.name) rfl Zh,hb1⟩ (Zw) (Zb)
  ·refine Yo (WA T Zz Zz (fun g5=>⟨(⟨(Le.refl _),Zx⟩),?_⟩))
   (refine Yk Zz Zz ?_)
   refine Yo (Does.perm (@List.perm_middle _ _ [_,_,_] []).symm (Yr [_] _ Zz Zz Zz (Yba h.name) (fun v6 fz6 H6 hle6 hR6=>?_)))
   obtain ⟨_,rfl,b1,rfl,hb1⟩:=hR6
   refine ⟨(⟨hle6,Zx⟩),?_⟩
   unfold sxV
   (refine Yk Zz Zz ?_)
   refine Yo (Yd T (cs:=Yw Xs++Yw a.name) Zz Zz Zz Zz Zz Zz Zz Zz (fun gb=>⟨(⟨hle6,Zx⟩),?_⟩))
   (refine Yk Zz Zz ?_)
   refine PoS.qk (⟨hle6,Zx⟩) (Yj Zz Zz Y7 ?_)
   unfold sxV
   (refine Yk Zz Zz ?_)
   refine PoS.hard0 Zj (Does.perm (X6 [2,1,3,4,0] Zz Zz) (Xa T Zz Zz Zz Zz Zz Zz ?_))
   refine Po.done ?_
   ((repeat (first | refine zS ?_ | refine zA fun _=>?_)))
   exact midP (X6 [1,2,3,0,4] Zz Zz) ⟨b1,g5,_,[_],rfl,hle6,rfl,Grow.block (m:=2) (ys:=[(Yg Xs,Yw Xs),(Yg a.name,Yw a.name)]) rfl rfl (by intro p hp;simp only [List.mem_cons,List.not_mem_nil,or_false] at hp;rcases hp with rfl | rfl;exact Yt (YI Zh);exact Yt h.name) rfl Zh,hb1⟩ (Zw) (Zb)
 ·rintro σ fz1 H' ⟨b1,g5,v1,Hs1,rfl,hle1,rfl,hG1,hb1⟩
  have hys1:b1=false→[Yg Xs,Yg a.name]=[Yg Xs,Yg a.name]:=fun _=>rfl
  have hn1:2≤2:=Nat.le_refl _
  refine Yp (Wp.mid (fun σ fz' H'=>∃ bb:Bool,σ=[(5,.pointer (some ⟨g5,0,none⟩)),(4,.pointer (some ⟨g4,0,none⟩)),(3,.pointer (some ⟨g3,0,none⟩)),(0,.pointer (some ⟨g,0,none⟩))]∧fz1=fz'∧H'=(g,wrO bb)::(g4,.cells #[.int .i64 0,.int .i64 0,.int .i64 0,.int .i64 0,.string ⟨#[]⟩,.slice none 0 0] 64 (0,0))::(g3,.cells #[.string a.name,.slice P1 p1 q1,.int .i64 a.cost,.string a.pre.op,.string a.pre.name,.slice S2 s2 r2,.slice S3 s3 r3,.slice S4 s4 r4,.slice S5 s5 r5,.slice S6 s6 r6] 55 (0,0))::(g5,lsO v1)::Hs1∧(bb=false↔b1=false∧0≤a.cost)) ?_ ?_)
  ·cases b1
   ·((repeat (first | refine zS ?_ | refine zA fun _=>?_)))
    ((refine zG ?_;refine zC (fun c1=>?_) (fun c1=>?_)))
    ·((repeat (first | refine zS ?_ | refine zA fun _=>?_)))
     exact midN ⟨true,rfl,rfl,rfl,iff_of_false (by simp) (fun h0=>by have:=h0.2;omega)⟩ (Zw) (Zb)
    ·((repeat (first | refine zS ?_ | refine zA fun _=>?_)))
     exact midN ⟨false,rfl,rfl,rfl,iff_of_true rfl ⟨rfl,by omega⟩⟩ (Zw) (Zb)
   ·((repeat (first | refine zS ?_ | refine zA fun _=>?_)))
    exact midN ⟨true,rfl,rfl,rfl,iff_of_false (by simp) (fun h0=>by cases h0.1)⟩ (Zw) (Zb)
  ·rintro σ fz' H' ⟨bz,rfl,rfl,rfl,hbz⟩
   have hbz2:bz=false↔b=false∧Xq a.name∧0≤a.cost:=by rw [hbz,hb1,and_assoc]
   have hysz:bz=false→[Yg Xs,Yg a.name]=[Yg Xs,Yg a.name]:=fun _=>rfl
   have hle_2:=hle1
   refine Yp ?_
   (refine Wp.drawK (Hq:=[(g4,_),(g3,_)]) T.mixed Zj Zj (Zb) ?_)
   ((repeat (first | refine zS ?_ | refine zA fun _=>?_)))
   ((refine zG ?_));refine Ycb Zz Zz ?_
   ((repeat (first | refine zS ?_ | refine zA fun _=>?_)))
   (refine Yb ?_)
   (refine Yb ?_)
   (refine Yb ?_)
   (refine YK ⟨by kernel_rfl,?_⟩)
   refine Yh (Yr [_] _ Zz Zz Zz (WR (vars:=true) (ip.mono hle_2) (by rw [← ip.len];exact hs0)) (fun v6 fy2 H6 hly2 hR6=>?_))
   obtain ⟨_,⟨B6,cc6,rfl,hsl6⟩,c2,rfl,hc2⟩:=hR6
   refine ⟨(⟨hly2,Zx⟩),?_⟩
   refine Ch.qk (⟨hly2,Zx⟩) (Yj Zz Zz Y7 ?_)
   unfold sxV
   have hY2:Y9 fy2 (WW a.params) (.slice B6 (3*p1) cc6):=Wz hsl6
   have hy2:c2=false→WW a.params=WW a.params:=fun _=>rfl
   refine Yh (Does.perm (H':=((g5,_)::Hs1)++ [_,_,_]) List.perm_append_comm (Does.after (Yr ((g5,_)::Hs1) _ Zz Zz Zz (YbF (kw:=YW) (hG1.mono hly2) hY2 (YI Zh) Zi) (fun v7 fz_2 H7 hlz2 hR7=>?_))))
   obtain ⟨_,_,v_2,n_2,Hs_2,rfl,hG_2,hn_2⟩:=hR7
   refine ⟨(g,wrO c2)::(g4,_)::(g3,_)::(g5,lsO v_2)::Hs_2,List.perm_append_comm (l₁:=[_,_,_]) (l₂:=(g5,lsO v_2)::Hs_2),(⟨(hly2.trans hlz2),Zx⟩),?_⟩
   refine Ch.done ?_
   ((repeat (first | refine zSO ?_ | refine zA fun _=>?_)))
   have hd2:c2=false↔(b=false∧Xq a.name∧0≤a.cost)∧(∀ p∈a.params,Xz true p):=by rw [hc2,hbz2]
   have hb_2:c2=false↔b=false∧Xq a.name∧0≤a.cost∧(∀ p∈a.params,Xz true p):=by rw [hd2];simp only [and_assoc]
   have hkeep2:c2=false→bz=false:=fun h0=>(hc2.1 h0).1
   rw [Yd9 ip.len] at hG_2
   obtain ⟨l_2,hl2⟩:∃ l',l'=[Yg Xs,Yg a.name]++opt (a.params=[]) YW (WW a.params):=⟨_,rfl⟩
   rw [← hl2] at hG_2
   have hys_2:c2=false→l_2=[Yg Xs,Yg a.name]++opt (a.params=[]) YW (WW a.params):=fun h0=>by rw [hl2]
   have hle_n2:=((hle_2.trans hly2).trans hlz2)
   have hle_3:=hle_n2
   refine Yp ?_
   (refine Wp.drawK (Hq:=[(g4,_),(g3,_)]) T.mixed Zj Zj (Zb) ?_)
   ((repeat (first | refine zS ?_ | refine zA fun _=>?_)))
   ((refine zG ?_));refine Ycb Zz Zz ?_
   ((repeat (first | refine zS ?_ | refine zA fun _=>?_)))
   (((refine zG ?_));refine Yj Zz Zz YdF ?_)
   unfold sxV
   (refine Yb ?_)
   (refine YK ⟨by kernel_rfl,?_⟩)
   have hly3:=Le.refl fz_2
   have hY3:Y9 fz_2 (numE a.cost) (.slice none 0 0):=Ydm h.cost
   refine Yh (Does.perm (H':=((g5,_)::Hs_2)++ [_,_,_]) List.perm_append_comm (Does.after (Yr ((g5,_)::Hs_2) _ Zz Zz Zz (YbF (kw:=Yfw) (hG_2.mono hly3) hY3 (YI Zh) Zi) (fun v7 fz_3 H7 hlz3 hR7=>?_))))
   obtain ⟨_,_,v_3,n_3,Hs_3,rfl,hG_3,hn_3⟩:=hR7
   refine ⟨(g,wrO c2)::(g4,_)::(g3,_)::(g5,lsO v_3)::Hs_3,List.perm_append_comm (l₁:=[_,_,_]) (l₂:=(g5,lsO v_3)::Hs_3),(⟨(hly3.trans hlz3),Zx⟩),?_⟩
   refine Ch.done ?_
   ((repeat (first | refine zSO ?_ | refine zA fun _=>?_)))
   have hb_3:=hb_2
   have hkeep3:c2=false→c2=false:=fun h0=>h0
   have hy3:c2=false→numE a.cost=numE a.cost:=fun _=>rfl
   rw [Yc1] at hG_3
   obtain ⟨l_3,hl3⟩:∃ l',l'=l_2++opt (a.cost=1) Yfw (numE a.cost):=⟨_,rfl⟩
   rw [← hl3] at hG_3
   have hys_3:c2=false→l_3=[Yg Xs,Yg a.name]++opt (a.params=[]) YW (WW a.params)++opt (a.cost=1) Yfw (numE a.cost):=fun h0=>by rw [hl3,hys_2 (hkeep3 h0)]
   have hle_n3:=((hle_3.trans hly3).trans hlz3)
   have hle_4:=hle_n3
   refine Yp ?_
   (refine Wp.drawK (Hq:=[(g4,_),(g3,_)]) T.mixed Zj Zj (Zb) ?_)
   ((repeat (first | refine zS ?_ | refine zA fun _=>?_)))
   (((refine zG ?_));refine Yu (vs:=[.string a.pre.op,.string a.pre.name,.slice S2 s2 r2,.slice S3 s3 r3,.slice S4 s4 r4,.slice S5 s5 r5]) T 1 Zz Zz Zz Zz Zz Zz ?_)
   (((refine zG ?_));refine Yj Zz Zz YcM ?_)
   unfold Yb9
   (((refine zG ?_));refine Yj Zz Zz (YeQ (b:=Xr) (h.pre.mono hle_4) YdO) ?_)
   ((repeat (first | refine zS ?_ | refine zA fun _=>?_)))
   (((refine zG ?_));refine Yu (vs:=[.string a.pre.op,.string a.pre.name,.slice S2 s2 r2,.slice S3 s3 r3,.slice S4 s4 r4,.slice S5 s5 r5]) T 1 Zz Zz Zz Zz Zz Zz ?_)
   (refine Yb ?_)
   (refine Yb ?_)
   (refine YK ⟨by kernel_rfl,?_⟩)
   refine Yh (Yr [_] _ Zz Zz Zz (Ya1 (h.pre.mono hle_4) hs1) (fun v6 fy4 H6 hly4 hR6=>?_))
   obtain ⟨_,c4,y4,rfl,⟨cs6,rfl,hr6⟩,hc4,hy4⟩:=hR6
   obtain ⟨vk6,rfl,hY4⟩:=Yl hr6
   refine ⟨(⟨hly4,Zx⟩),?_⟩
   refine Yh (Does.perm (H':=((g5,_)::Hs_3)++ [_,_,_]) List.perm_append_comm (Does.after (Yr ((g5,_)::Hs_3) _ Zz Zz Zz (YbF (kw:=XN) (hG_3.mono hly4) hY4 (YI Zh) Zi) (fun v7 fz_4 H7 hlz4 hR7=>?_))))
   obtain ⟨_,_,v_4,n_4,Hs_4,rfl,hG_4,hn_4⟩:=hR7
   refine ⟨(g,wrO c4)::(g4,_)::(g3,_)::(g5,lsO v_4)::Hs_4,List.perm_append_comm (l₁:=[_,_,_]) (l₂:=(g5,lsO v_4)::Hs_4),(⟨(hly4.trans hlz4),Zx⟩),?_⟩
   refine Ch.done ?_
   ((repeat (first | refine zSO ?_ | refine zA fun _=>?_)))
   have hd4:c4=false↔(b=false∧Xq a.name∧0≤a.cost∧(∀ p∈a.params,Xz true p))∧FVal a.pre:=by rw [hc4,hb_3]
   have hb_4:c4=false↔b=false∧Xq a.name∧0≤a.cost∧(∀ p∈a.params,Xz true p)∧FVal a.pre:=by rw [hd4];simp only [and_assoc]
   have hkeep4:c4=false→c2=false:=fun h0=>(hc4.1 h0).1
   rw [Yc1] at hG_4
   obtain ⟨l_4,hl4⟩:∃ l',l'=l_3++opt (a.pre=Xr) XN (y4):=⟨_,rfl⟩
   rw [← hl4] at hG_4
   have hys_4:c4=false→l_4=[Yg Xs,Yg a.name]++opt (a.params=[]) YW (WW a.params)++opt (a.cost=1) Yfw (numE a.cost)++opt (a.pre=Xr) XN (Y3 a.pre):=fun h0=>by rw [hl4,hys_3 (hkeep4 h0),hy4 h0]
   have hle_n4:=((hle_4.trans hly4).trans hlz4)
   have hle_5:=hle_n4
   refine Yp ?_
   (refine Wp.drawK (Hq:=[(g4,_),(g3,_)]) T.mixed Zj Zj (Zb) ?_)
   ((repeat (first | refine zS ?_ | refine zA fun _=>?_)))
   ((refine zG ?_));refine Ycb Zz Zz ?_
   ((repeat (first | refine zS ?_ | refine zA fun _=>?_)))
   (refine Yb ?_)
   (refine Yb ?_)
   (refine YK ⟨by kernel_rfl,?_⟩)
   refine Yh (Yr [_] _ Zz Zz Zz (YdJ (ichanges.mono hle_5) hs2) (fun v6 fy5 H6 hly5 hR6=>?_))
   obtain ⟨_,c5,y5,rfl,⟨cs6,rfl,hr6⟩,hc5,hy5⟩:=hR6
   obtain ⟨vk6,rfl,hY5⟩:=Yl hr6
   refine ⟨(⟨hly5,Zx⟩),?_⟩
   refine Yh (Does.perm (H':=((g5,_)::Hs_4)++ [_,_,_]) List.perm_append_comm (Does.after (Yr ((g5,_)::Hs_4) _ Zz Zz Zz (YbF (kw:=Ycl) (hG_4.mono hly5) hY5 (YI Zh) Zi) (fun v7 fz_5 H7 hlz5 hR7=>?_))))
   obtain ⟨_,_,v_5,n_5,Hs_5,rfl,hG_5,hn_5⟩:=hR7
   refine ⟨(g,wrO c5)::(g4,_)::(g3,_)::(g5,lsO v_5)::Hs_5,List.perm_append_comm (l₁:=[_,_,_]) (l₂:=(g5,lsO v_5)::Hs_5),(⟨(hly5.trans hlz5),Zx⟩),?_⟩
   refine Ch.done ?_
   ((repeat (first | refine zSO ?_ | refine zA fun _=>?_)))
   have hd5:c5=false↔(b=false∧Xq a.name∧0≤a.cost∧(∀ p∈a.params,Xz true p)∧FVal a.pre)∧YcN a.changes:=by rw [hc5,hb_4]
   have hb_5:c5=false↔b=false∧Xq a.name∧0≤a.cost∧(∀ p∈a.params,Xz true p)∧FVal a.pre∧YcN a.changes:=by rw [hd5];simp only [and_assoc]
   have hkeep5:c5=false→c4=false:=fun h0=>(hc5.1 h0).1
   rw [Yd9 ichanges.len] at hG_5
   obtain ⟨l_5,hl5⟩:∃ l',l'=l_4++opt (a.changes=[]) Ycl (y5):=⟨_,rfl⟩
   rw [← hl5] at hG_5
   have hys_5:c5=false→l_5=[Yg Xs,Yg a.name]++opt (a.params=[]) YW (WW a.params)++opt (a.cost=1) Yfw (numE a.cost)++opt (a.pre=Xr) XN (Y3 a.pre)++opt (a.changes=[]) Ycl (effX a.changes):=fun h0=>by rw [hl5,hys_4 (hkeep5 h0),hy5 h0]
   have hle_n5:=((hle_5.trans hly5).trans hlz5)
   obtain ⟨Av,cv,rfl,_,_⟩:=hG_5.form
   ((repeat (first | refine zS ?_ | refine zA fun _=>?_)))
   refine Ycv T (i:=1) (H':=[(g,wrO c5)]) rfl Zz Zz Zz Zz Zz (List.Perm.refl _) (fun fz3 hle3 hf3=>?_)
   obtain ⟨A',c',he,hsl⟩:=hG_5.sl hle3 (fun p hp=>hf3 p (by simp [hp])) Zi
   injection he with he1 he2 he3
   subst he1 he3
   exact ⟨hle_n5.trans hle3,c5,_,rfl,XU hsl,hb_5,fun h0=>by rw [hys_5 h0];simp only [actX,List.append_assoc]⟩
noncomputable def durX (a:Durative):Sexpr:=YE ([Yg Y2,Yg a.name]++opt (a.params=[]) YW (WW a.params)++opt (a.duration=1) X7 (numE a.duration)++opt (a.start=Xr) YbL (Y3 a.start)++opt (a.over=Xr) YeH (Y3 a.over)++opt (a.fin=Xr) kEnd (Y3 a.fin)++opt (a.atStart=[]) YaQ (effX a.atStart)++opt (a.atEnd=[]) Yd8 (effX a.atEnd))
def YgE (a:Durative):Prop:=Xq a.name∧(∀ p∈a.params,Xz true p)∧FVal a.start∧FVal a.over∧FVal a.fin∧YcN a.atStart∧YcN a.atEnd
def durSm (a:Durative):Prop:=a.params.length≤1000000000∧FSm a.start∧FSm a.over∧FSm a.fin∧Ykr a.atStart∧Ykr a.atEnd
set_option maxHeartbeats 4000000 in
theorem YdK {fz:FZ} {g:Nat} {b:Bool} {a:Durative} {v1 v2 v3 v4 v5 v6 v7 v8 v9 v10 v11 v12 v13 v14 v15:Value} (h:DurativeR fz a v1 v2 v3 v4 v5 v6 v7 v8 v9 v10 v11 v12 v13 v14 v15) (hs:durSm a):
 GFn Tryz.prog 36 [.pointer (some ⟨g,0,none⟩),.agg #[.string a.name,v1,.int .i64 a.duration,.string a.start.op,.string a.start.name,v2,v3,v4,v5,.string a.over.op,.string a.over.name,v6,v7,v8,v9,.string a.fin.op,.string a.fin.name,v10,v11,v12,v13,v14,v15]] fz [(g,wrO b)] (MkR g b (YgE a) (durX a) fz):=by
 obtain ⟨P1,p1,q1,rfl,ip⟩:=h.params
 obtain ⟨S2,s2,r2,rfl,_⟩:=h.start.args
 obtain ⟨S3,s3,r3,rfl,_⟩:=h.start.params
 obtain ⟨S4,s4,r4,rfl,_⟩:=h.start.exprs
 obtain ⟨S5,s5,r5,rfl,_⟩:=h.start.kids
 obtain ⟨S6,s6,r6,rfl,_⟩:=h.over.args
 obtain ⟨S7,s7,r7,rfl,_⟩:=h.over.params
 obtain ⟨S8,s8,r8,rfl,_⟩:=h.over.exprs
 obtain ⟨S9,s9,r9,rfl,_⟩:=h.over.kids
 obtain ⟨S10,s10,r10,rfl,_⟩:=h.fin.args
 obtain ⟨S11,s11,r11,rfl,_⟩:=h.fin.params
 obtain ⟨S12,s12,r12,rfl,_⟩:=h.fin.exprs
 obtain ⟨S13,s13,r13,rfl,_⟩:=h.fin.kids
 obtain ⟨S14,s14,r14,rfl,iatStart⟩:=h.atStart
 obtain ⟨S15,s15,r15,rfl,iatEnd⟩:=h.atEnd
 obtain ⟨hs0,hs1,hs2,hs3,hs4,hs5⟩:=hs
 (refine GFn.of_wp Tryz.func36 rfl Tryz.ntmps36 rfl rfl (fun w0=>?_))
 (refine Yp (Yq (Yc Zz (Xl _ Zz Zz (fun g3=>?_)))))
 ((repeat (first | refine zSO ?_ | refine zA fun _=>?_)))
 rename_i g4
 refine Yp (Wp.mid (fun σ fz' H'=>∃ (b1:Bool) (g5:Nat) (v:Value) (Hs:HP),σ=[(5,.pointer (some ⟨g5,0,none⟩)),(4,.pointer (some ⟨g4,0,none⟩)),(3,.pointer (some ⟨g3,0,none⟩)),(0,.pointer (some ⟨g,0,none⟩))]∧Le fz fz'∧H'=(g,wrO b1)::(g4,.cells #[.int .i64 0,.int .i64 0,.int .i64 0,.int .i64 0,.string ⟨#[]⟩,.slice none 0 0] 64 (0,0))::(g3,.cells #[.string a.name,.slice P1 p1 q1,.int .i64 a.duration,.string a.start.op,.string a.start.name,.slice S2 s2 r2,.slice S3 s3 r3,.slice S4 s4 r4,.slice S5 s5 r5,.string a.over.op,.string a.over.name,.slice S6 s6 r6,.slice S7 s7 r7,.slice S8 s8 r8,.slice S9 s9 r9,.string a.fin.op,.string a.fin.name,.slice S10 s10 r10,.slice S11 s11 r11,.slice S12 s12 r12,.slice S13 s13 r13,.slice S14 s14 r14,.slice S15 s15 r15] 58 (0,0))::(g5,lsO v)::Hs∧Grow YH 64 fz' v 2 Hs [Yg Y2,Yg a.name]∧(b1=false↔b=false∧Xq a.name)) ?_ ?_)
 ·(refine Wp.drawP [] (Hq:=[(g4,_),(g3,_)]) T.mixed Zj Zj (Zb) ?_)
  (((refine zG ?_));refine Yj Zz Zz (WB (s:=Y2)) ?_)
  ((repeat (first | refine zS ?_ | refine zA fun _=>?_)))
  (refine YC ?_)
  (refine YC ?_)
  (refine YC ?_)
  (refine YC ?_)
  (refine YC ?_)
  (refine PK.done ⟨by kernel_rfl,?_⟩)
  (refine Y4 Zz Zz Zz ?_ ?_)
  ·refine Yo (Does.perm (@List.perm_middle _ _ [_,_] []).symm (Yr [_] _ Zz Zz Zz (Yba h.name) (fun v6 fz6 H6 hle6 hR6=>?_)))
   obtain ⟨_,rfl,b1,rfl,hb1⟩:=hR6
   refine ⟨(⟨hle6,Zx⟩),?_⟩
   unfold sxV
   (refine Y4 Zz Zz Zz ?_ ?_)
   ·refine Yo (Yd T (cs:=Yw Y2++Yw a.name) Zz Zz Zz Zz Zz Zz Zz Zz (fun gb=>⟨(⟨hle6,Zx⟩),?_⟩))
    (refine Y4 Zz Zz Zz ?_ ?_)
    ·refine PoS.qk (⟨hle6,Zx⟩) (Yj Zz Zz Y7 ?_)
     unfold sxV
     (refine Yk Zz Zz ?_)
     refine Yo (WA T Zz Zz (fun g5=>⟨(⟨hle6,Zx⟩),?_⟩))
     (refine Yk Zz Zz ?_)
     refine PoS.hard0 Zj (Does.perm (X6 [0,2,3,4,1] Zz Zz) (Xa T Zz Zz Zz Zz Zz Zz ?_))
     refine Po.done ?_
     ((repeat (first | refine zS ?_ | refine zA fun _=>?_)))
     exact midP (X6 [1,2,3,0,4] Zz Zz) ⟨b1,g5,_,[_],rfl,hle6,rfl,Grow.block (m:=2) (ys:=[(Yg Y2,Yw Y2),(Yg a.name,Yw a.name)]) rfl rfl (by intro p hp;simp only [List.mem_cons,List.not_mem_nil,or_false] at hp;rcases hp with rfl | rfl;exact Yt (YI Zh);exact Yt h.name) rfl Zh,hb1⟩ (Zw) (Zb)
    ·refine Yo (WA T Zz Zz (fun g5=>⟨(⟨hle6,Zx⟩),?_⟩))
     (refine Yk Zz Zz ?_)
     refine PoS.qk (⟨hle6,Zx⟩) (Yj Zz Zz Y7 ?_)
     unfold sxV
     (refine Yk Zz Zz ?_)
     refine PoS.hard0 Zj (Does.perm (X6 [0,2,3,4,1] Zz Zz) (Xa T Zz Zz Zz Zz Zz Zz ?_))
     refine Po.done ?_
     ((repeat (first | refine zS ?_ | refine zA fun _=>?_)))
     exact midP (X6 [1,2,3,0,4] Zz Zz) ⟨b1,g5,_,[_],rfl,hle6,rfl,Grow.block (m:=2) (ys:=[(Yg Y2,Yw Y2),(Yg a.name,Yw a.name)]) rfl rfl (by intro p hp;simp only [List.mem_cons,List.not_mem_nil,or_false] at hp;rcases hp with rfl | rfl;exact Yt (YI Zh);exact Yt h.name) rfl Zh,hb1⟩ (Zw) (Zb)
   ·refine Yo (WA T Zz Zz (fun g5=>⟨(⟨hle6,Zx⟩),?_⟩))
    (refine Yk Zz Zz ?_)
    refine Yo (Yd T (cs:=Yw Y2++Yw a.name) Zz Zz Zz Zz Zz Zz Zz Zz (fun gb=>⟨(⟨hle6,Zx⟩),?_⟩))
    (refine Yk Zz Zz ?_)
    refine PoS.qk (⟨hle6,Zx⟩) (Yj Zz Zz Y7 ?_)
    unfold sxV
    (refine Yk Zz Zz ?_)
    refine PoS.hard0 Zj (Does.perm (X6 [1,2,3,4,0] Zz Zz) (Xa T Zz Zz Zz Zz Zz Zz ?_))
    refine Po.done ?_
    ((repeat (first | refine zS ?_ | refine zA fun _=>?_)))
    exact midP (X6 [1,2,3,0,4] Zz Zz) ⟨b1,g5,_,[_],rfl,hle6,rfl,Grow.block (m:=2) (ys:=[(Yg Y2,Yw Y2),(Yg a.name,Yw a.name)]) rfl rfl (by intro p hp;simp only [List.mem_cons,List.not_mem_nil,or_false] at hp;rcases hp with rfl | rfl;exact Yt (YI Zh);exact Yt h.name) rfl Zh,hb1⟩ (Zw) (Zb)
  ·refine Yo (WA T Zz Zz (fun g5=>⟨(⟨(Le.refl _),Zx⟩),?_⟩))
   (refine Yk Zz Zz ?_)
   refine Yo (Does.perm (@List.perm_middle _ _ [_,_,_] []).symm (Yr [_] _ Zz Zz Zz (Yba h.name) (fun v6 fz6 H6 hle6 hR6=>?_)))
   obtain ⟨_,rfl,b1,rfl,hb1⟩:=hR6
   refine ⟨(⟨hle6,Zx⟩),?_⟩
   unfold sxV
   (refine Yk Zz Zz ?_)
   refine Yo (Yd T (cs:=Yw Y2++Yw a.name) Zz Zz Zz Zz Zz Zz Zz Zz (fun gb=>⟨(⟨hle6,Zx⟩),?_⟩))
   (refine Yk Zz Zz ?_)
   refine PoS.qk (⟨hle6,Zx⟩) (Yj Zz Zz Y7 ?_)
   unfold sxV
   (refine Yk Zz Zz ?_)
   refine PoS.hard0 Zj (Does.perm (X6 [2,1,3,4,0] Zz Zz) (Xa T Zz Zz Zz Zz Zz Zz ?_))
   refine Po.done ?_
   ((repeat (first | refine zS ?_ | refine zA fun _=>?_)))
   exact midP (X6 [1,2,3,0,4] Zz Zz) ⟨b1,g5,_,[_],rfl,hle6,rfl,Grow.block (m:=2) (ys:=[(Yg Y2,Yw Y2),(Yg a.name,Yw a.name)]) rfl rfl (by intro p hp;simp only [List.mem_cons,List.not_mem_nil,or_false] at hp;rcases hp with rfl | rfl;exact Yt (YI Zh);exact Yt h.name) rfl Zh,hb1⟩ (Zw) (Zb)
 ·rintro σ fz1 H' ⟨b1,g5,v1,Hs1,rfl,hle1,rfl,hG1,hb1⟩
  have hys1:b1=false→[Yg Y2,Yg a.name]=[Yg Y2,Yg a.name]:=fun _=>rfl
  have hn1:2≤2:=Nat.le_refl _
  have hle_2:=hle1
  refine Yp ?_
  (refine Wp.drawK (Hq:=[(g4,_),(g3,_)]) T.mixed Zj Zj (Zb) ?_)
  ((repeat (first | refine zS ?_ | refine zA fun _=>?_)))
  ((refine zG ?_));refine Ycb Zz Zz ?_
  ((repeat (first | refine zS ?_ | refine zA fun _=>?_)))
  (refine Yb ?_)
  (refine Yb ?_)
  (refine Yb ?_)
  (refine YK ⟨by kernel_rfl,?_⟩)
  refine Yh (Yr [_] _ Zz Zz Zz (WR (vars:=true) (ip.mono hle_2) (by rw [← ip.len];exact hs0)) (fun v6 fy2 H6 hly2 hR6=>?_))
  obtain ⟨_,⟨B6,cc6,rfl,hsl6⟩,c2,rfl,hc2⟩:=hR6
  refine ⟨(⟨hly2,Zx⟩),?_⟩
  refine Ch.qk (⟨hly2,Zx⟩) (Yj Zz Zz Y7 ?_)
  unfold sxV
  have hY2:Y9 fy2 (WW a.params) (.slice B6 (3*p1) cc6):=Wz hsl6
  have hy2:c2=false→WW a.params=WW a.params:=fun _=>rfl
  refine Yh (Does.perm (H':=((g5,_)::Hs1)++ [_,_,_]) List.perm_append_comm (Does.after (Yr ((g5,_)::Hs1) _ Zz Zz Zz (YbF (kw:=YW) (hG1.mono hly2) hY2 (YI Zh) Zi) (fun v7 fz_2 H7 hlz2 hR7=>?_))))
  obtain ⟨_,_,v_2,n_2,Hs_2,rfl,hG_2,hn_2⟩:=hR7
  refine ⟨(g,wrO c2)::(g4,_)::(g3,_)::(g5,lsO v_2)::Hs_2,List.perm_append_comm (l₁:=[_,_,_]) (l₂:=(g5,lsO v_2)::Hs_2),(⟨(hly2.trans hlz2),Zx⟩),?_⟩
  refine Ch.done ?_
  ((repeat (first | refine zSO ?_ | refine zA fun _=>?_)))
  have hd2:c2=false↔(b=false∧Xq a.name)∧(∀ p∈a.params,Xz true p):=by rw [hc2,hb1]
  have hb_2:c2=false↔b=false∧Xq a.name∧(∀ p∈a.params,Xz true p):=by rw [hd2];simp only [and_assoc]
  have hkeep2:c2=false→b1=false:=fun h0=>(hc2.1 h0).1
  rw [Yd9 ip.len] at hG_2
  obtain ⟨l_2,hl2⟩:∃ l',l'=[Yg Y2,Yg a.name]++opt (a.params=[]) YW (WW a.params):=⟨_,rfl⟩
  rw [← hl2] at hG_2
  have hys_2:c2=false→l_2=[Yg Y2,Yg a.name]++opt (a.params=[]) YW (WW a.params):=fun h0=>by rw [hl2]
  have hle_n2:=((hle_2.trans hly2).trans hlz2)
  have hle_3:=hle_n2
  refine Yp ?_
  (refine Wp.drawK (Hq:=[(g4,_),(g3,_)]) T.mixed Zj Zj (Zb) ?_)
  ((repeat (first | refine zS ?_ | refine zA fun _=>?_)))
  ((refine zG ?_));refine Ycb Zz Zz ?_
  ((repeat (first | refine zS ?_ | refine zA fun _=>?_)))
  (((refine zG ?_));refine Yj Zz Zz YdF ?_)
  unfold sxV
  (refine Yb ?_)
  (refine YK ⟨by kernel_rfl,?_⟩)
  have hly3:=Le.refl fz_2
  have hY3:Y9 fz_2 (numE a.duration) (.slice none 0 0):=Ydm h.duration
  refine Yh (Does.perm (H':=((g5,_)::Hs_2)++ [_,_,_]) List.perm_append_comm (Does.after (Yr ((g5,_)::Hs_2) _ Zz Zz Zz (YbF (kw:=X7) (hG_2.mono hly3) hY3 (YI Zh) Zi) (fun v7 fz_3 H7 hlz3 hR7=>?_))))
  obtain ⟨_,_,v_3,n_3,Hs_3,rfl,hG_3,hn_3⟩:=hR7
  refine ⟨(g,wrO c2)::(g4,_)::(g3,_)::(g5,lsO v_3)::Hs_3,List.perm_append_comm (l₁:=[_,_,_]) (l₂:=(g5,lsO v_3)::Hs_3),(⟨(hly3.trans hlz3),Zx⟩),?_⟩
  refine Ch.done ?_
  ((repeat (first | refine zSO ?_ | refine zA fun _=>?_)))
  have hb_3:=hb_2
  have hkeep3:c2=false→c2=false:=fun h0=>h0
  have hy3:c2=false→numE a.duration=numE a.duration:=fun _=>rfl
  rw [Yc1] at hG_3
  obtain ⟨l_3,hl3⟩:∃ l',l'=l_2++opt (a.duration=1) X7 (numE a.duration):=⟨_,rfl⟩
  rw [← hl3] at hG_3
  have hys_3:c2=false→l_3=[Yg Y2,Yg a.name]++opt (a.params=[]) YW (WW a.params)++opt (a.duration=1) X7 (numE a.duration):=fun h0=>by rw [hl3,hys_2 (hkeep3 h0)]
  have hle_n3:=((hle_3.trans hly3).trans hlz3)
  have hle_4:=hle_n3
  refine Yp ?_
  (refine Wp.drawK (Hq:=[(g4,_),(g3,_)]) T.mixed Zj Zj (Zb) ?_)
  ((repeat (first | refine zS ?_ | refine zA fun _=>?_)))
  (((refine zG ?_));refine Yu (vs:=[.string a.start.op,.string a.start.name,.slice S2 s2 r2,.slice S3 s3 r3,.slice S4 s4 r4,.slice S5 s5 r5]) T 1 Zz Zz Zz Zz Zz Zz ?_)
  (((refine zG ?_));refine Yj Zz Zz YcM ?_)
  unfold Yb9
  (((refine zG ?_));refine Yj Zz Zz (YeQ (b:=Xr) (h.start.mono hle_4) YdO) ?_)
  ((repeat (first | refine zS ?_ | refine zA fun _=>?_)))
  (((refine zG ?_));refine Yu (vs:=[.string a.start.op,.string a.start.name,.slice S2 s2 r2,.slice S3 s3 r3,.slice S4 s4 r4,.slice S5 s5 r5]) T 1 Zz Zz Zz Zz Zz Zz ?_)
  (refine Yb ?_)
  (refine Yb ?_)
  (refine YK ⟨by kernel_rfl,?_⟩)
  refine Yh (Yr [_] _ Zz Zz Zz (Ya1 (h.start.mono hle_4) hs1) (fun v6 fy4 H6 hly4 hR6=>?_))
  obtain ⟨_,c4,y4,rfl,⟨cs6,rfl,hr6⟩,hc4,hy4⟩:=hR6
  obtain ⟨vk6,rfl,hY4⟩:=Yl hr6
  refine ⟨(⟨hly4,Zx⟩),?_⟩
  refine Yh (Does.perm (H':=((g5,_)::Hs_3)++ [_,_,_]) List.perm_append_comm (Does.after (Yr ((g5,_)::Hs_3) _ Zz Zz Zz (YbF (kw:=YbL) (hG_3.mono hly4) hY4 (YI Zh) Zi) (fun v7 fz_4 H7 hlz4 hR7=>?_))))
  obtain ⟨_,_,v_4,n_4,Hs_4,rfl,hG_4,hn_4⟩:=hR7
  refine ⟨(g,wrO c4)::(g4,_)::(g3,_)::(g5,lsO v_4)::Hs_4,List.perm_append_comm (l₁:=[_,_,_]) (l₂:=(g5,lsO v_4)::Hs_4),(⟨(hly4.trans hlz4),Zx⟩),?_⟩
  refine Ch.done ?_
  ((repeat (first | refine zSO ?_ | refine zA fun _=>?_)))
  have hd4:c4=false↔(b=false∧Xq a.name∧(∀ p∈a.params,Xz true p))∧FVal a.start:=by rw [hc4,hb_3]
  have hb_4:c4=false↔b=false∧Xq a.name∧(∀ p∈a.params,Xz true p)∧FVal a.start:=by rw [hd4];simp only [and_assoc]
  have hkeep4:c4=false→c2=false:=fun h0=>(hc4.1 h0).1
  rw [Yc1] at hG_4
  obtain ⟨l_4,hl4⟩:∃ l',l'=l_3++opt (a.start=Xr) YbL (y4):=⟨_,rfl⟩
  rw [← hl4] at hG_4
  have hys_4:c4=false→l_4=[Yg Y2,Yg a.name]++opt (a.params=[]) YW (WW a.params)++opt (a.duration=1) X7 (numE a.duration)++opt (a.start=Xr) YbL (Y3 a.start):=fun h0=>by rw [hl4,hys_3 (hkeep4 h0),hy4 h0]
  have hle_n4:=((hle_4.trans hly4).trans hlz4)
  have hle_5:=hle_n4
  refine Yp ?_
  (refine Wp.drawK (Hq:=[(g4,_),(g3,_)]) T.mixed Zj Zj (Zb) ?_)
  ((repeat (first | refine zS ?_ | refine zA fun _=>?_)))
  (((refine zG ?_));refine Yu (vs:=[.string a.over.op,.string a.over.name,.slice S6 s6 r6,.slice S7 s7 r7,.slice S8 s8 r8,.slice S9 s9 r9]) T 1 Zz Zz Zz Zz Zz Zz ?_)
  (((refine zG ?_));refine Yj Zz Zz YcM ?_)
  unfold Yb9
  (((refine zG ?_));refine Yj Zz Zz (YeQ (b:=Xr) (h.over.mono hle_5) YdO) ?_)
  ((repeat (first | refine zS ?_ | refine zA fun _=>?_)))
  (((refine zG ?_));refine Yu (vs:=[.string a.over.op,.string a.over.name,.slice S6 s6 r6,.slice S7 s7 r7,.slice S8 s8 r8,.slice S9 s9 r9]) T 1 Zz Zz Zz Zz Zz Zz ?_)
  (refine Yb ?_)
  (refine Yb ?_)
  (refine YK ⟨by kernel_rfl,?_⟩)
  refine Yh (Yr [_] _ Zz Zz Zz (Ya1 (h.over.mono hle_5) hs2) (fun v6 fy5 H6 hly5 hR6=>?_))
  obtain ⟨_,c5,y5,rfl,⟨cs6,rfl,hr6⟩,hc5,hy5⟩:=hR6
  obtain ⟨vk6,rfl,hY5⟩:=Yl hr6
  refine ⟨(⟨hly5,Zx⟩),?_⟩
  refine Yh (Does.perm (H':=((g5,_)::Hs_4)++ [_,_,_]) List.perm_append_comm (Does.after (Yr ((g5,_)::Hs_4) _ Zz Zz Zz (YbF (kw:=YeH) (hG_4.mono hly5) hY5 (YI Zh) Zi) (fun v7 fz_5 H7 hlz5 hR7=>?_))))
  obtain ⟨_,_,v_5,n_5,Hs_5,rfl,hG_5,hn_5⟩:=hR7
  refine ⟨(g,wrO c5)::(g4,_)::(g3,_)::(g5,lsO v_5)::Hs_5,List.perm_append_comm (l₁:=[_,_,_]) (l₂:=(g5,lsO v_5)::Hs_5),(⟨(hly5.trans hlz5),Zx⟩),?_⟩
  refine Ch.done ?_
  ((repeat (first | refine zSO ?_ | refine zA fun _=>?_)))
  have hd5:c5=false↔(b=false∧Xq a.name∧(∀ p∈a.params,Xz true p)∧FVal a.start)∧FVal a.over:=by rw [hc5,hb_4]
  have hb_5:c5=false↔b=false∧Xq a.name∧(∀ p∈a.params,Xz true p)∧FVal a.start∧FVal a.over:=by rw [hd5];simp only [and_assoc]
  have hkeep5:c5=false→c4=false:=fun h0=>(hc5.1 h0).1
  rw [Yc1] at hG_5
  obtain ⟨l_5,hl5⟩:∃ l',l'=l_4++opt (a.over=Xr) YeH (y5):=⟨_,rfl⟩
  rw [← hl5] at hG_5
  have hys_5:c5=false→l_5=[Yg Y2,Yg a.name]++opt (a.params=[]) YW (WW a.params)++opt (a.duration=1) X7 (numE a.duration)++opt (a.start=Xr) YbL (Y3 a.start)++opt (a.over=Xr) YeH (Y3 a.over):=fun h0=>by rw [hl5,hys_4 (hkeep5 h0),hy5 h0]
  have hle_n5:=((hle_5.trans hly5).trans hlz5)
  have hle_6:=hle_n5
  refine Yp ?_
  (refine Wp.drawK (Hq:=[(g4,_),(g3,_)]) T.mixed Zj Zj (Zb) ?_)
  ((repeat (first | refine zS ?_ | refine zA fun _=>?_)))
  (((refine zG ?_));refine Yu (vs:=[.string a.fin.op,.string a.fin.name,.slice S10 s10 r10,.slice S11 s11 r11,.slice S12 s12 r12,.slice S13 s13 r13]) T 1 Zz Zz Zz Zz Zz Zz ?_)
  (((refine zG ?_));refine Yj Zz Zz YcM ?_)
  unfold Yb9
  (((refine zG ?_));refine Yj Zz Zz (YeQ (b:=Xr) (h.fin.mono hle_6) YdO) ?_)
  ((repeat (first | refine zS ?_ | refine zA fun _=>?_)))
  (((refine zG ?_));refine Yu (vs:=[.string a.fin.op,.string a.fin.name,.slice S10 s10 r10,.slice S11 s11 r11,.slice S12 s12 r12,.slice S13 s13 r13]) T 1 Zz Zz Zz Zz Zz Zz ?_)
  (refine Yb ?_)
  (refine Yb ?_)
  (refine YK ⟨by kernel_rfl,?_⟩)
  refine Yh (Yr [_] _ Zz Zz Zz (Ya1 (h.fin.mono hle_6) hs3) (fun v6 fy6 H6 hly6 hR6=>?_))
  obtain ⟨_,c6,y6,rfl,⟨cs6,rfl,hr6⟩,hc6,hy6⟩:=hR6
  obtain ⟨vk6,rfl,hY6⟩:=Yl hr6
  refine ⟨(⟨hly6,Zx⟩),?_⟩
  refine Yh (Does.perm (H':=((g5,_)::Hs_5)++ [_,_,_]) List.perm_append_comm (Does.after (Yr ((g5,_)::Hs_5) _ Zz Zz Zz (YbF (kw:=kEnd) (hG_5.mono hly6) hY6 (YI Zh) Zi) (fun v7 fz_6 H7 hlz6 hR7=>?_))))
  obtain ⟨_,_,v_6,n_6,Hs_6,rfl,hG_6,hn_6⟩:=hR7
  refine ⟨(g,wrO c6)::(g4,_)::(g3,_)::(g5,lsO v_6)::Hs_6,List.perm_append_comm (l₁:=[_,_,_]) (l₂:=(g5,lsO v_6)::Hs_6),(⟨(hly6.trans hlz6),Zx⟩),?_⟩
  refine Ch.done ?_
  ((repeat (first | refine zSO ?_ | refine zA fun _=>?_)))
  have hd6:c6=false↔(b=false∧Xq a.name∧(∀ p∈a.params,Xz true p)∧FVal a.start∧FVal a.over)∧FVal a.fin:=by rw [hc6,hb_5]
  have hb_6:c6=false↔b=false∧Xq a.name∧(∀ p∈a.params,Xz true p)∧FVal a.start∧FVal a.over∧FVal a.fin:=by rw [hd6];simp only [and_assoc]
  have hkeep6:c6=false→c5=false:=fun h0=>(hc6.1 h0).1
  rw [Yc1] at hG_6
  obtain ⟨l_6,hl6⟩:∃ l',l'=l_5++opt (a.fin=Xr) kEnd (y6):=⟨_,rfl⟩
  rw [← hl6] at hG_6
  have hys_6:c6=false→l_6=[Yg Y2,Yg a.name]++opt (a.params=[]) YW (WW a.params)++opt (a.duration=1) X7 (numE a.duration)++opt (a.start=Xr) YbL (Y3 a.start)++opt (a.over=Xr) YeH (Y3 a.over)++opt (a.fin=Xr) kEnd (Y3 a.fin):=fun h0=>by rw [hl6,hys_5 (hkeep6 h0),hy6 h0]
  have hle_n6:=((hle_6.trans hly6).trans hlz6)
  have hle_7:=hle_n6
  refine Yp ?_
  (refine Wp.drawK (Hq:=[(g4,_),(g3,_)]) T.mixed Zj Zj (Zb) ?_)
  ((repeat (first | refine zS ?_ | refine zA fun _=>?_)))
  ((refine zG ?_));refine Ycb Zz Zz ?_
  ((repeat (first | refine zS ?_ | refine zA fun _=>?_)))
  (refine Yb ?_)
  (refine Yb ?_)
  (refine YK ⟨by kernel_rfl,?_⟩)
  refine Yh (Yr [_] _ Zz Zz Zz (YdJ (iatStart.mono hle_7) hs4) (fun v6 fy7 H6 hly7 hR6=>?_))
  obtain ⟨_,c7,y7,rfl,⟨cs6,rfl,hr6⟩,hc7,hy7⟩:=hR6
  obtain ⟨vk6,rfl,hY7⟩:=Yl hr6
  refine ⟨(⟨hly7,Zx⟩),?_⟩
  refine Yh (Does.perm (H':=((g5,_)::Hs_6)++ [_,_,_]) List.perm_append_comm (Does.after (Yr ((g5,_)::Hs_6) _ Zz Zz Zz (YbF (kw:=YaQ) (hG_6.mono hly7) hY7 (YI Zh) Zi) (fun v7 fz_7 H7 hlz7 hR7=>?_))))
  obtain ⟨_,_,v_7,n_7,Hs_7,rfl,hG_7,hn_7⟩:=hR7
  refine ⟨(g,wrO c7)::(g4,_)::(g3,_)::(g5,lsO v_7)::Hs_7,List.perm_append_comm (l₁:=[_,_,_]) (l₂:=(g5,lsO v_7)::Hs_7),(⟨(hly7.trans hlz7),Zx⟩),?_⟩
  refine Ch.done ?_
  ((repeat (first | refine zSO ?_ | refine zA fun _=>?_)))
  have hd7:c7=false↔(b=false∧Xq a.name∧(∀ p∈a.params,Xz true p)∧FVal a.start∧FVal a.over∧FVal a.fin)∧YcN a.atStart:=by rw [hc7,hb_6]
  have hb_7:c7=false↔b=false∧Xq a.name∧(∀ p∈a.params,Xz true p)∧FVal a.start∧FVal a.over∧FVal a.fin∧YcN a.atStart:=by rw [hd7];simp only [and_assoc]
  have hkeep7:c7=false→c6=false:=fun h0=>(hc7.1 h0).1
  rw [Yd9 iatStart.len] at hG_7
  obtain ⟨l_7,hl7⟩:∃ l',l'=l_6++opt (a.atStart=[]) YaQ (y7):=⟨_,rfl⟩
  rw [← hl7] at hG_7
  have hys_7:c7=false→l_7=[Yg Y2,Yg a.name]++opt (a.params=[]) YW (WW a.params)++opt (a.duration=1) X7 (numE a.duration)++opt (a.start=Xr) YbL (Y3 a.start)++opt (a.over=Xr) YeH (Y3 a.over)++opt (a.fin=Xr) kEnd (Y3 a.fin)++opt (a.atStart=[]) YaQ (effX a.atStart):=fun h0=>by rw [hl7,hys_6 (hkeep7 h0),hy7 h0]
  have hle_n7:=((hle_7.trans hly7).trans hlz7)
  have hle_8:=hle_n7
  refine Yp ?_
  (refine Wp.drawK (Hq:=[(g4,_),(g3,_)]) T.mixed Zj Zj (Zb) ?_)
  ((repeat (first | refine zS ?_ | refine zA fun _=>?_)))
  ((refine zG ?_));refine Ycb Zz Zz ?_
  ((repeat (first | refine zS ?_ | refine zA fun _=>?_)))
  (refine Yb ?_)
  (refine Yb ?_)
  (refine YK ⟨by kernel_rfl,?_⟩)
  refine Yh (Yr [_] _ Zz Zz Zz (YdJ (iatEnd.mono hle_8) hs5) (fun v6 fy8 H6 hly8 hR6=>?_))
  obtain ⟨_,c8,y8,rfl,⟨cs6,rfl,hr6⟩,hc8,hy8⟩:=hR6
  obtain ⟨vk6,rfl,hY8⟩:=Yl hr6
  refine ⟨(⟨hly8,Zx⟩),?_⟩
  refine Yh (Does.perm (H':=((g5,_)::Hs_7)++ [_,_,_]) List.perm_append_comm (Does.after (Yr ((g5,_)::Hs_7) _ Zz Zz Zz (YbF (kw:=Yd8) (hG_7.mono hly8) hY8 (YI Zh) Zi) (fun v7 fz_8 H7 hlz8 hR7=>?_))))
  obtain ⟨_,_,v_8,n_8,Hs_8,rfl,hG_8,hn_8⟩:=hR7
  refine ⟨(g,wrO c8)::(g4,_)::(g3,_)::(g5,lsO v_8)::Hs_8,List.perm_append_comm (l₁:=[_,_,_]) (l₂:=(g5,lsO v_8)::Hs_8),(⟨(hly8.trans hlz8),Zx⟩),?_⟩
  refine Ch.done ?_
  ((repeat (first | refine zSO ?_ | refine zA fun _=>?_)))
  have hd8:c8=false↔(b=false∧Xq a.name∧(∀ p∈a.params,Xz true p)∧FVal a.start∧FVal a.over∧FVal a.fin∧YcN a.atStart)∧YcN a.atEnd:=by rw [hc8,hb_7]
  have hb_8:c8=false↔b=false∧Xq a.name∧(∀ p∈a.params,Xz true p)∧FVal a.start∧FVal a.over∧FVal a.fin∧YcN a.atStart∧YcN a.atEnd:=by rw [hd8];simp only [and_assoc]
  have hkeep8:c8=false→c7=false:=fun h0=>(hc8.1 h0).1
  rw [Yd9 iatEnd.len] at hG_8
  obtain ⟨l_8,hl8⟩:∃ l',l'=l_7++opt (a.atEnd=[]) Yd8 (y8):=⟨_,rfl⟩
  rw [← hl8] at hG_8
  have hys_8:c8=false→l_8=[Yg Y2,Yg a.name]++opt (a.params=[]) YW (WW a.params)++opt (a.duration=1) X7 (numE a.duration)++opt (a.start=Xr) YbL (Y3 a.start)++opt (a.over=Xr) YeH (Y3 a.over)++opt (a.fin=Xr) kEnd (Y3 a.fin)++opt (a.atStart=[]) YaQ (effX a.atStart)++opt (a.atEnd=[]) Yd8 (effX a.atEnd):=fun h0=>by rw [hl8,hys_7 (hkeep8 h0),hy8 h0]
  have hle_n8:=((hle_8.trans hly8).trans hlz8)
  obtain ⟨Av,cv,rfl,_,_⟩:=hG_8.form
  ((repeat (first | refine zS ?_ | refine zA fun _=>?_)))
  refine Ycv T (i:=1) (H':=[(g,wrO c8)]) rfl Zz Zz Zz Zz Zz (List.Perm.refl _) (fun fz3 hle3 hf3=>?_)
  obtain ⟨A',c',he,hsl⟩:=hG_8.sl hle3 (fun p hp=>hf3 p (by simp [hp])) Zi
  injection he with he1 he2 he3
  subst he1 he3
  exact ⟨hle_n8.trans hle3,c8,_,rfl,XU hsl,hb_8,fun h0=>by rw [hys_8 h0];simp only [durX,List.append_assoc]⟩
end Go.Proofs.YtbhlgkibgajajaaGreatDoor
