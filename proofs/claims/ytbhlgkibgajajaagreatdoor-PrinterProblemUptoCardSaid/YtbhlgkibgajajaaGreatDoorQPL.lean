/- The texts PWalkP, PRefM, PRefO, PText, PBuild, laid together. Conditions: none. -/
import Derived.Test.YtbhlgkibgajajaaGreatDoorQPI
import Derived.Test.YtbhlgkibgajajaaGreatDoorQPH
import Derived.Test.YtbhlgkibgajajaaGreatDoorQPJ
import Derived.Test.YtbhlgkibgajajaaGreatDoorQPE
import Derived.Test.YtbhlgkibgajajaaGreatDoorQPB
import Derived.Test.YtbhlgkibgajajaaGreatDoorQPC
import Derived.Test.YtbhlgkibgajajaaGreatDoorQPD
import Derived.Test.YtbhlgkibgajajaaGreatDoorQPK
import Derived.Test.YtbhlgkibgajajaaGreatDoorQPF
import Derived.Lib.Join
import Derived.Lib.ItoaNum
import Derived.Lib.ItoaMem
import Derived.Lib.Repeat
import Derived.Test.YtbhlgkibgajajaaGreatDoorQPG
import Derived.Lib.AppendStr
import Derived.Lib.UnsafeStr
set_option maxRecDepth 20000
namespace Go.Proofs.YtbhlgkibgajajaaGreatDoor
open Go.Lx Go.RowKit
attribute [local instance 10] Classical.propDecidable
def YL:ByteArray:=⟨#[100,101,102,105,110,101]⟩
def Xb:ByteArray:=⟨#[100,111,109,97,105,110]⟩
def YdT:ByteArray:=⟨#[58,116,121,112,101,115]⟩
def Yap:ByteArray:=⟨#[58,99,111,110,115,116,97,110,116,115]⟩
def Yav:ByteArray:=⟨#[58,112,114,101,100,105,99,97,116,101,115]⟩
def YaR:ByteArray:=⟨#[58,102,117,110,99,116,105,111,110,115]⟩
noncomputable def grp (kw:ByteArray) (ks:List Sexpr):List Sexpr:=if ks=[] then [] else [Yv (Yd kw::ks)]
def XV (l:List Param):List Sexpr:=(l.flatMap XO).map Yd
def Yf1 (p:Predicate):Sexpr:=Yv (Yd p.name::XV p.params)
def funX (f:Function):Sexpr:=Yv (Yd f.name::XV f.params++ [numE f.lo,numE f.hi])
def Yib (p:Predicate):Prop:=Xn p.name∧∀ q∈p.params,XD true q
def Ykh (f:Function):Prop:=Xn f.name∧∀ q∈f.params,XD true q
noncomputable def domX (d:Domain):Sexpr:=Yv ([Yd YL,Yv [Yd Xb,Yd d.name]]++grp YdT (XV d.types)++grp Yap (XV d.constants)++grp Yav (d.predicates.map Yf1)++grp YaR (d.functions.map funX)++d.actions.map actX++d.duratives.map durX)
def Yer (d:Domain):Prop:=Xn d.name∧(∀ p∈d.types,XD false p)∧(∀ p∈d.constants,XD false p)∧(∀ p∈d.predicates,Yib p)∧(∀ f∈d.functions,Ykh f)∧(∀ x∈d.actions,Ykb x)∧(∀ x∈d.duratives,YjX x)
structure DomSm (d:Domain):Prop where
 types:d.types.length≤1000000000
 constants:d.constants.length≤1000000000
 predicates:d.predicates.length≤1000000000
 predp:∀ p∈d.predicates,p.params.length≤1000000000
 functions:d.functions.length≤1000000000
 funp:∀ f∈d.functions,f.params.length≤1000000000
 actions:d.actions.length≤1000000000
 acts:∀ x∈d.actions,actSm x
 duratives:d.duratives.length≤1000000000
 durs:∀ x∈d.duratives,durSm x
theorem YdK {l:List Param}:(XV l).length=3*l.length:=by simp only [XV,List.length_map,YbO]
set_option maxHeartbeats 8000000 in
theorem dWrite_q {fz:FZ} {d:Domain} {v1 v2 v3 v4 v5 v6:Value} (h:DomainR fz d v1 v2 v3 v4 v5 v6) (hs:DomSm d):
 GFn Tryz.prog 17 [.agg #[.string d.name,v1,v2,v3,v4,v5,v6]] fz [] (WrR (Yer d∧XVal (domX d)) (domX d)):=by
 obtain ⟨A1,n1,c1,rfl,i1⟩:=h.types
 obtain ⟨A2,n2,c2,rfl,i2⟩:=h.constants
 obtain ⟨A3,n3,c3,rfl,i3⟩:=h.predicates
 obtain ⟨A4,n4,c4,rfl,i4⟩:=h.functions
 obtain ⟨A5,n5,c5,rfl,i5⟩:=h.actions
 obtain ⟨A6,n6,c6,rfl,i6⟩:=h.duratives
 have k1:=i1.len
 have k2:=i2.len
 have k3:=i3.len
 have k4:=i4.len
 have k5:=i5.len
 have k6:=i6.len
 have m1:=hs.types
 have m2:=hs.constants
 have m3:=hs.predicates
 have m4:=hs.functions
 have m5:=hs.actions
 have m6:=hs.duratives
 (refine GFn.of_wp Tryz.func17 rfl Tryz.ntmps17 rfl rfl (fun w0=>?_))
 (refine Yr (Yp (Yb Zz (Xi _ Zz Zz (fun g1=>?_)))))
 ((repeat (first | refine zSO ?_ | refine zA fun _=>?_)))
 rename_i g2
 refine Yr (Yp ?_)
 ((repeat (first | refine zSO ?_ | refine zA fun _=>?_)))
 rename_i g
 refine Yr (Wp.mid (fun σ fz' H'=>∃ (bb:Bool) (g5:Nat) (v:Value) (Hs:HP),σ=[(5,.pointer (some ⟨g5,0,none⟩)),(4,.pointer (some ⟨g,0,none⟩)),(2,.pointer (some ⟨g2,0,none⟩)),(1,.pointer (some ⟨g1,0,none⟩))]∧Le fz fz'∧H'=(g,wrO bb)::(g1,.cells #[.string d.name,.slice A1 n1 c1,.slice A2 n2 c2,.slice A3 n3 c3,.slice A4 n4 c4,.slice A5 n5 c5,.slice A6 n6 c6] 28 (0,0))::(g2,.cells #[.int .i64 0,.int .i64 0,.int .i64 0,.int .i64 0,.string ⟨#[]⟩,.slice none 0 0] 64 (0,0))::(g5,lsO v)::Hs∧Grow YF 64 fz' v 2 Hs [Yd YL,Yv [Yd Xb,Yd d.name]]∧(bb=false↔Xn d.name)) ?_ ?_)
 ·(refine Wp.drawP [] (Hq:=[(g2,_),(g1,_)]) T.mixed Zj Zj (Zb) ?_)
  (((refine zG ?_));refine Yj Zz Zz (Wq (s:=YL)) ?_)
  (((refine zG ?_));refine Yj Zz Zz (Wq (s:=Xb)) ?_)
  unfold sxV
  ((repeat (first | refine zS ?_ | refine zA fun _=>?_)))
  (refine Yl ?_)
  (refine Yl ?_)
  (refine Yl ?_)
  (refine Yl ?_)
  (refine Yl ?_)
  (refine Yl ?_)
  (refine Yl ?_)
  (refine PK.done ⟨by kernel_rfl,?_⟩)
  (refine YV Zz Zz Zz ?_ ?_)
  ·refine Yh (Does.perm (Xm [0,1,2] Zz Zz) (YB [_] _ Zz Zz Zz (YaX (b:=false) h.name) (fun v6 fz6 H6 hle6 hR6=>?_)))
   obtain ⟨_,rfl,b1,rfl,hb1⟩:=hR6
   refine ⟨(⟨hle6,Zx⟩),?_⟩
   unfold sxV
   (refine YV Zz Zz Zz ?_ ?_)
   ·refine Yh (Yc T (cs:=Ym Xb++Ym d.name) Zz Zz Zz Zz Zz Zz Zz Zz (fun gb=>⟨(⟨hle6,Zx⟩),?_⟩))
    (refine YV Zz Zz Zz ?_ ?_)
    ·refine PoS.qk (⟨hle6,Zx⟩) (Yj Zz Zz Y6 ?_)
     unfold sxV
     (refine YV Zz Zz Zz ?_ ?_)
     ·refine Yh (Yc T (cs:=Ym YL++ [.int .i64 3,.int .i64 0,.int .i64 0,.int .i64 0,.string ⟨#[]⟩,.slice (some ⟨gb,0,none⟩) 2 2]) Zz Zz Zz Zz Zz Zz Zz Zz (fun gc=>⟨(⟨hle6,Zx⟩),?_⟩))
      (refine YV Zz Zz Zz ?_ ?_)
      ·refine PoS.qk (⟨hle6,Zx⟩) (Yj Zz Zz Y6 ?_)
       unfold sxV
       (refine Yf Zz Zz ?_)
       refine Yh (Xz T Zz Zz (fun g5=>⟨(⟨hle6,Zx⟩),?_⟩))
       (refine Yf Zz Zz ?_)
       refine PoS.hard0 Zj (Does.perm (Xm [0,3,5,4,1,2] Zz Zz) (Y1 T Zz Zz Zz Zz Zz Zz ?_))
       refine Po.done ?_
       ((repeat (first | refine zS ?_ | refine zA fun _=>?_)))
       refine midF (H':=[(g,wrO b1),(g1,_),(g2,_),(g5,_),(gc,_)]) (H2:=[(gb,_)]) (Xm [1,2,3,0,4,5] Zz Zz) (fun fz3 hl3 hf3=>⟨b1,g5,_,[(gc,_)],rfl,hle6.trans hl3,rfl,Grow.block (m:=2) (ys:=[(Yd YL,Ym YL),(Yv [Yd Xb,Yd d.name],[.int .i64 3,.int .i64 0,.int .i64 0,.int .i64 0,.string ⟨#[]⟩,.slice (some ⟨gb,0,none⟩) 2 2])]) rfl rfl ?_ rfl Zh,by rw [hb1];simp⟩) (Zw)
       have hg:=hf3 _ (.head _)
       intro p hp
       simp only [List.mem_cons,List.not_mem_nil,or_false] at hp
       rcases hp with rfl | rfl
       ·exact Yq (YK Zh)
       ·exact Yg (XM (Xt (ys:=[(Yd Xb,Ym Xb),(Yd d.name,Ym d.name)]) hg rfl rfl (by intro p hp;simp only [List.mem_cons,List.not_mem_nil,or_false] at hp;rcases hp with rfl | rfl;exact Yq (YK Zh);exact Yq h.name) rfl Zh))
      ·refine Yh (Xz T Zz Zz (fun g5=>⟨(⟨hle6,Zx⟩),?_⟩))
       (refine Yf Zz Zz ?_)
       refine PoS.qk (⟨hle6,Zx⟩) (Yj Zz Zz Y6 ?_)
       unfold sxV
       (refine Yf Zz Zz ?_)
       refine PoS.hard0 Zj (Does.perm (Xm [0,3,5,4,1,2] Zz Zz) (Y1 T Zz Zz Zz Zz Zz Zz ?_))
       refine Po.done ?_
       ((repeat (first | refine zS ?_ | refine zA fun _=>?_)))
       refine midF (H':=[(g,wrO b1),(g1,_),(g2,_),(g5,_),(gc,_)]) (H2:=[(gb,_)]) (Xm [1,2,3,0,4,5] Zz Zz) (fun fz3 hl3 hf3=>⟨b1,g5,_,[(gc,_)],rfl,hle6.trans hl3,rfl,Grow.block (m:=2) (ys:=[(Yd YL,Ym YL),(Yv [Yd Xb,Yd d.name],[.int .i64 3,.int .i64 0,.int .i64 0,.int .i64 0,.string ⟨#[]⟩,.slice (some ⟨gb,0,none⟩) 2 2])]) rfl rfl ?_ rfl Zh,by rw [hb1];simp⟩) (Zw)
       have hg:=hf3 _ (.head _)
       intro p hp
       simp only [List.mem_cons,List.not_mem_nil,or_false] at hp
       rcases hp with rfl | rfl
       ·exact Yq (YK Zh)
       ·exact Yg (XM (Xt (ys:=[(Yd Xb,Ym Xb),(Yd d.name,Ym d.name)]) hg rfl rfl (by intro p hp;simp only [List.mem_cons,List.not_mem_nil,or_false] at hp;rcases hp with rfl | rfl;exact Yq (YK Zh);exact Yq h.name) rfl Zh))
     ·refine Yh (Xz T Zz Zz (fun g5=>⟨(⟨hle6,Zx⟩),?_⟩))
      (refine Yf Zz Zz ?_)
      refine Yh (Yc T (cs:=Ym YL++ [.int .i64 3,.int .i64 0,.int .i64 0,.int .i64 0,.string ⟨#[]⟩,.slice (some ⟨gb,0,none⟩) 2 2]) Zz Zz Zz Zz Zz Zz Zz Zz (fun gc=>⟨(⟨hle6,Zx⟩),?_⟩))
      (refine Yf Zz Zz ?_)
      refine PoS.qk (⟨hle6,Zx⟩) (Yj Zz Zz Y6 ?_)
      unfold sxV
      (refine Yf Zz Zz ?_)
      refine PoS.hard0 Zj (Does.perm (Xm [1,3,5,4,0,2] Zz Zz) (Y1 T Zz Zz Zz Zz Zz Zz ?_))
      refine Po.done ?_
      ((repeat (first | refine zS ?_ | refine zA fun _=>?_)))
      refine midF (H':=[(g,wrO b1),(g1,_),(g2,_),(g5,_),(gc,_)]) (H2:=[(gb,_)]) (Xm [1,2,3,0,4,5] Zz Zz) (fun fz3 hl3 hf3=>⟨b1,g5,_,[(gc,_)],rfl,hle6.trans hl3,rfl,Grow.block (m:=2) (ys:=[(Yd YL,Ym YL),(Yv [Yd Xb,Yd d.name],[.int .i64 3,.int .i64 0,.int .i64 0,.int .i64 0,.string ⟨#[]⟩,.slice (some ⟨gb,0,none⟩) 2 2])]) rfl rfl ?_ rfl Zh,by rw [hb1];simp⟩) (Zw)
      have hg:=hf3 _ (.head _)
      intro p hp
      simp only [List.mem_cons,List.not_mem_nil,or_false] at hp
      rcases hp with rfl | rfl
      ·exact Yq (YK Zh)
      ·exact Yg (XM (Xt (ys:=[(Yd Xb,Ym Xb),(Yd d.name,Ym d.name)]) hg rfl rfl (by intro p hp;simp only [List.mem_cons,List.not_mem_nil,or_false] at hp;rcases hp with rfl | rfl;exact Yq (YK Zh);exact Yq h.name) rfl Zh))
    ·refine Yh (Xz T Zz Zz (fun g5=>⟨(⟨hle6,Zx⟩),?_⟩))
     (refine Yf Zz Zz ?_)
     refine PoS.qk (⟨hle6,Zx⟩) (Yj Zz Zz Y6 ?_)
     unfold sxV
     (refine Yf Zz Zz ?_)
     refine Yh (Yc T (cs:=Ym YL++ [.int .i64 3,.int .i64 0,.int .i64 0,.int .i64 0,.string ⟨#[]⟩,.slice (some ⟨gb,0,none⟩) 2 2]) Zz Zz Zz Zz Zz Zz Zz Zz (fun gc=>⟨(⟨hle6,Zx⟩),?_⟩))
     (refine Yf Zz Zz ?_)
     refine PoS.qk (⟨hle6,Zx⟩) (Yj Zz Zz Y6 ?_)
     unfold sxV
     (refine Yf Zz Zz ?_)
     refine PoS.hard0 Zj (Does.perm (Xm [1,3,5,4,0,2] Zz Zz) (Y1 T Zz Zz Zz Zz Zz Zz ?_))
     refine Po.done ?_
     ((repeat (first | refine zS ?_ | refine zA fun _=>?_)))
     refine midF (H':=[(g,wrO b1),(g1,_),(g2,_),(g5,_),(gc,_)]) (H2:=[(gb,_)]) (Xm [1,2,3,0,4,5] Zz Zz) (fun fz3 hl3 hf3=>⟨b1,g5,_,[(gc,_)],rfl,hle6.trans hl3,rfl,Grow.block (m:=2) (ys:=[(Yd YL,Ym YL),(Yv [Yd Xb,Yd d.name],[.int .i64 3,.int .i64 0,.int .i64 0,.int .i64 0,.string ⟨#[]⟩,.slice (some ⟨gb,0,none⟩) 2 2])]) rfl rfl ?_ rfl Zh,by rw [hb1];simp⟩) (Zw)
     have hg:=hf3 _ (.head _)
     intro p hp
     simp only [List.mem_cons,List.not_mem_nil,or_false] at hp
     rcases hp with rfl | rfl
     ·exact Yq (YK Zh)
     ·exact Yg (XM (Xt (ys:=[(Yd Xb,Ym Xb),(Yd d.name,Ym d.name)]) hg rfl rfl (by intro p hp;simp only [List.mem_cons,List.not_mem_nil,or_false] at hp;rcases hp with rfl | rfl;exact Yq (YK Zh);exact Yq h.name) rfl Zh))
   ·refine Yh (Xz T Zz Zz (fun g5=>⟨(⟨hle6,Zx⟩),?_⟩))
    (refine Yf Zz Zz ?_)
    refine Yh (Yc T (cs:=Ym Xb++Ym d.name) Zz Zz Zz Zz Zz Zz Zz Zz (fun gb=>⟨(⟨hle6,Zx⟩),?_⟩))
    (refine Yf Zz Zz ?_)
    refine PoS.qk (⟨hle6,Zx⟩) (Yj Zz Zz Y6 ?_)
    unfold sxV
    (refine Yf Zz Zz ?_)
    refine Yh (Yc T (cs:=Ym YL++ [.int .i64 3,.int .i64 0,.int .i64 0,.int .i64 0,.string ⟨#[]⟩,.slice (some ⟨gb,0,none⟩) 2 2]) Zz Zz Zz Zz Zz Zz Zz Zz (fun gc=>⟨(⟨hle6,Zx⟩),?_⟩))
    (refine Yf Zz Zz ?_)
    refine PoS.qk (⟨hle6,Zx⟩) (Yj Zz Zz Y6 ?_)
    unfold sxV
    (refine Yf Zz Zz ?_)
    refine PoS.hard0 Zj (Does.perm (Xm [2,3,5,4,0,1] Zz Zz) (Y1 T Zz Zz Zz Zz Zz Zz ?_))
    refine Po.done ?_
    ((repeat (first | refine zS ?_ | refine zA fun _=>?_)))
    refine midF (H':=[(g,wrO b1),(g1,_),(g2,_),(g5,_),(gc,_)]) (H2:=[(gb,_)]) (Xm [1,2,3,0,4,5] Zz Zz) (fun fz3 hl3 hf3=>⟨b1,g5,_,[(gc,_)],rfl,hle6.trans hl3,rfl,Grow.block (m:=2) (ys:=[(Yd YL,Ym YL),(Yv [Yd Xb,Yd d.name],[.int .i64 3,.int .i64 0,.int .i64 0,.int .i64 0,.string ⟨#[]⟩,.slice (some ⟨gb,0,none⟩) 2 2])]) rfl rfl ?_ rfl Zh,by rw [hb1];simp⟩) (Zw)
    have hg:=hf3 _ (.head _)
    intro p hp
    simp only [List.mem_cons,List.not_mem_nil,or_false] at hp
    rcases hp with rfl | rfl
    ·exact Yq (YK Zh)
    ·exact Yg (XM (Xt (ys:=[(Yd Xb,Ym Xb),(Yd d.name,Ym d.name)]) hg rfl rfl (by intro p hp;simp only [List.mem_cons,List.not_mem_nil,or_false] at hp;rcases hp with rfl | rfl;exact Yq (YK Zh);exact Yq h.name) rfl Zh))
  ·refine Yh (Xz T Zz Zz (fun g5=>⟨(⟨(Le.refl _),Zx⟩),?_⟩))
   (refine Yf Zz Zz ?_)
   refine Yh (Does.perm (Xm [1,0,2,3] Zz Zz) (YB [_] _ Zz Zz Zz (YaX (b:=false) h.name) (fun v6 fz6 H6 hle6 hR6=>?_)))
   obtain ⟨_,rfl,b1,rfl,hb1⟩:=hR6
   refine ⟨(⟨hle6,Zx⟩),?_⟩
   unfold sxV
   (refine Yf Zz Zz ?_)
   refine Yh (Yc T (cs:=Ym Xb++Ym d.name) Zz Zz Zz Zz Zz Zz Zz Zz (fun gb=>⟨(⟨hle6,Zx⟩),?_⟩))
   (refine Yf Zz Zz ?_)
   refine PoS.qk (⟨hle6,Zx⟩) (Yj Zz Zz Y6 ?_)
   unfold sxV
   (refine Yf Zz Zz ?_)
   refine Yh (Yc T (cs:=Ym YL++ [.int .i64 3,.int .i64 0,.int .i64 0,.int .i64 0,.string ⟨#[]⟩,.slice (some ⟨gb,0,none⟩) 2 2]) Zz Zz Zz Zz Zz Zz Zz Zz (fun gc=>⟨(⟨hle6,Zx⟩),?_⟩))
   (refine Yf Zz Zz ?_)
   refine PoS.qk (⟨hle6,Zx⟩) (Yj Zz Zz Y6 ?_)
   unfold sxV
   (refine Yf Zz Zz ?_)
   refine PoS.hard0 Zj (Does.perm (Xm [3,2,5,4,0,1] Zz Zz) (Y1 T Zz Zz Zz Zz Zz Zz ?_))
   refine Po.done ?_
   ((repeat (first | refine zS ?_ | refine zA fun _=>?_)))
   refine midF (H':=[(g,wrO b1),(g1,_),(g2,_),(g5,_),(gc,_)]) (H2:=[(gb,_)]) (Xm [1,2,3,0,4,5] Zz Zz) (fun fz3 hl3 hf3=>⟨b1,g5,_,[(gc,_)],rfl,hle6.trans hl3,rfl,Grow.block (m:=2) (ys:=[(Yd YL,Ym YL),(Yv [Yd Xb,Yd d.name],[.int .i64 3,.int .i64 0,.int .i64 0,.int .i64 0,.string ⟨#[]⟩,.slice (some ⟨gb,0,none⟩) 2 2])]) rfl rfl ?_ rfl Zh,by rw [hb1];simp⟩) (Zw)
   have hg:=hf3 _ (.head _)
   intro p hp
   simp only [List.mem_cons,List.not_mem_nil,or_false] at hp
   rcases hp with rfl | rfl
   ·exact Yq (YK Zh)
   ·exact Yg (XM (Xt (ys:=[(Yd Xb,Ym Xb),(Yd d.name,Ym d.name)]) hg rfl rfl (by intro p hp;simp only [List.mem_cons,List.not_mem_nil,or_false] at hp;rcases hp with rfl | rfl;exact Yq (YK Zh);exact Yq h.name) rfl Zh))
 ·rintro σ fz1 H' ⟨b0,g5,w0',Hs0,rfl,hle0,rfl,hG0,hb0⟩
  have hys0:b0=false→[Yd YL,Yv [Yd Xb,Yd d.name]]=[Yd YL,Yv [Yd Xb,Yd d.name]]:=fun _=>rfl
  ((repeat (first | refine zS ?_ | refine zA fun _=>?_)))
  refine Yb Zz (YB [_] _ Zz Zz Zz (WE (vars:=false) (i1.mono hle0) Zi) (fun v6 fy3 H6 hly3 hR6=>?_))
  obtain ⟨_,⟨B3,cc3,rfl,hsl3⟩,bb3,rfl,hc3⟩:=hR6
  refine Yb Zz (Does.perm (H':=((g5,_)::Hs0)++ [_,_,_]) List.perm_append_comm (Does.after (YB ((g5,_)::Hs0) _ Zz Zz Zz (Yfi (kw:=YdT) (hG0.mono hly3) hsl3 (YK Zh) Zi Zi) (fun v7 fz_3 H7 hlz3 hR7=>?_))))
  obtain ⟨_,_,v_3,n_3,Hs_3,rfl,hG_3,hn_3⟩:=hR7
  refine ⟨(g,wrO bb3)::(g1,_)::(g2,_)::(g5,lsO v_3)::Hs_3,List.perm_append_comm (l₁:=[_,_,_]) (l₂:=(g5,lsO v_3)::Hs_3),?_⟩
  replace hG_3:Grow YF 64 fz_3 v_3 n_3 Hs_3 ([Yd YL,Yv [Yd Xb,Yd d.name]]++grp YdT (XV d.types)):=hG_3
  obtain ⟨l_3,hl3⟩:∃ l',l'=[Yd YL,Yv [Yd Xb,Yd d.name]]++grp YdT (XV d.types):=⟨_,rfl⟩
  rw [← hl3] at hG_3
  have hle_3:=(hle0.trans hly3).trans hlz3
  have hb_3:bb3=false↔Xn d.name∧(∀ p∈d.types,XD false p):=by rw [hc3,hb0]<;>simp only [and_assoc]
  have hys_3:bb3=false→l_3=[Yd YL,Yv [Yd Xb,Yd d.name]]++grp YdT (XV d.types):=fun h0=>by rw [hl3]
  ((repeat (first | refine zS ?_ | refine zA fun _=>?_)))
  refine Yb Zz (YB [_] _ Zz Zz Zz (WE (vars:=false) (i2.mono hle_3) Zi) (fun v6 fy4 H6 hly4 hR6=>?_))
  obtain ⟨_,⟨B4,cc4,rfl,hsl4⟩,bb4,rfl,hc4⟩:=hR6
  refine Yb Zz (Does.perm (H':=((g5,_)::Hs_3)++ [_,_,_]) List.perm_append_comm (Does.after (YB ((g5,_)::Hs_3) _ Zz Zz Zz (Yfi (kw:=Yap) (hG_3.mono hly4) hsl4 (YK Zh) Zi Zi) (fun v7 fz_4 H7 hlz4 hR7=>?_))))
  obtain ⟨_,_,v_4,n_4,Hs_4,rfl,hG_4,hn_4⟩:=hR7
  refine ⟨(g,wrO bb4)::(g1,_)::(g2,_)::(g5,lsO v_4)::Hs_4,List.perm_append_comm (l₁:=[_,_,_]) (l₂:=(g5,lsO v_4)::Hs_4),?_⟩
  replace hG_4:Grow YF 64 fz_4 v_4 n_4 Hs_4 (l_3++grp Yap (XV d.constants)):=hG_4
  obtain ⟨l_4,hl4⟩:∃ l',l'=l_3++grp Yap (XV d.constants):=⟨_,rfl⟩
  rw [← hl4] at hG_4
  have hle_4:=(hle_3.trans hly4).trans hlz4
  have hb_4:bb4=false↔Xn d.name∧(∀ p∈d.types,XD false p)∧(∀ p∈d.constants,XD false p):=by rw [hc4,hb_3]<;>simp only [and_assoc]
  have hys_4:bb4=false→l_4=[Yd YL,Yv [Yd Xb,Yd d.name]]++grp YdT (XV d.types)++grp Yap (XV d.constants):=fun h0=>by rw [hl4,hys_3 (hc4.1 h0).1]
  ((repeat (first | refine zS ?_ | refine zA fun _=>?_)))
  refine YD (fun q σ fz' H'=>∃ (k:Nat) (b':Bool) (vp:Value) (Hp:HP) (ys:List Sexpr),k≤n3∧q=n3 - k∧σ=[(42,.int .i64 k),(41,.int .i64 n3),(40,.slice A3 n3 c3),(7,.slice none 0 0),(6,vp),(5,.pointer (some ⟨g5,0,none⟩)),(4,.pointer (some ⟨g,0,none⟩)),(2,.pointer (some ⟨g2,0,none⟩)),(1,.pointer (some ⟨g1,0,none⟩))]∧Le fz_4 fz'∧H'=(g,wrO b')::(g1,.cells #[.string d.name,.slice A1 n1 c1,.slice A2 n2 c2,.slice A3 n3 c3,.slice A4 n4 c4,.slice A5 n5 c5,.slice A6 n6 c6] 28 (0,0))::(g2,.cells #[.int .i64 0,.int .i64 0,.int .i64 0,.int .i64 0,.string ⟨#[]⟩,.slice none 0 0] 64 (0,0))::(g5,lsO v_4)::(Hs_4++Hp)∧Grow YF 64 fz' vp k Hp ys∧(b'=false↔bb4=false∧∀ i,i<k→∀ x,d.predicates[i]?=some x→Yib x)∧(b'=false→ys=(d.predicates.take k).map Yf1)) (H0:=(g,wrO bb4)::(g1,.cells #[.string d.name,.slice A1 n1 c1,.slice A2 n2 c2,.slice A3 n3 c3,.slice A4 n4 c4,.slice A5 n5 c5,.slice A6 n6 c6] 28 (0,0))::(g2,.cells #[.int .i64 0,.int .i64 0,.int .i64 0,.int .i64 0,.string ⟨#[]⟩,.slice none 0 0] 64 (0,0))::(g5,lsO v_4)::(Hs_4++ [])) ⟨0,bb4,_,[],[],Nat.zero_le _,rfl,rfl,Le.refl _,rfl,Grow.nil _ _ _,⟨fun h=>⟨h,fun i hi=>absurd hi Zi⟩,fun h=>h.1⟩,by simp⟩ (Zw) (by simp) ?_
  rintro q σ fz' H' ⟨k,b',vp,Hp,ys,hk,rfl,rfl,hle,rfl,hP,hb,hys⟩
  obtain ⟨Ap,cp,rfl,_,_⟩:=hP.form
  have i3m:=i3.mono (hle_4.trans hle)
  ((repeat (first | refine zS ?_ | refine zA fun _=>?_)))
  ((refine zG ?_;refine zC (fun e1=>?_) (fun e1=>?_)))
  ·obtain ⟨x,hx⟩:=YG (l:=d.predicates) (k:=k) Zi
   have hxm:=List.mem_of_getElem? hx
   ((repeat (first | refine zS ?_ | refine zA fun _=>?_)))
   (((refine zG ?_));refine YA T k Zz Zz Zz Zz Zz Zz i3m (by first | rfl | omega) hx (fun p hp=>?_))
   (((refine zG ?_));refine Yx T Zz Zz Zz hp Zz ?_)
   intro cs hcs
   obtain ⟨vpp,rfl,hRx⟩:=YdG hcs
   obtain ⟨P1,p1,q1,rfl,ip⟩:=hRx.params
   have hpm:=hs.predp x hxm
   have hpl:=ip.len
   ((repeat (first | refine zS ?_ | refine zA fun _=>?_)))
   rename_i g9
   (refine Wp.drawP [] (Hq:=[(g9,_)]) T.mixed Zj Zj (Zb) ?_)
   ((repeat (first | refine zS ?_ | refine zA fun _=>?_)))
   (refine Yl ?_)
   (refine Yl ?_)
   ((repeat (first | refine zS ?_ | refine zA fun _=>?_)))
   (refine Yl ?_)
   (refine Yl ?_)
   (refine Yl ?_)
   (refine Yl ?_)
   (refine Yl ?_)
   (refine Yl ?_)
   (refine PK.done ⟨by kernel_rfl,?_⟩)
   (refine Yf Zz Zz ?_)
   refine Yh (Does.perm (List.Perm.swap _ _ _) (YB [_] _ Zz Zz Zz (YaX hRx.name) (fun v6 fz6 H6 hle6 hR6=>?_)))
   obtain ⟨_,rfl,b6,rfl,hb6⟩:=hR6
   refine ⟨(⟨hle6,Zx⟩),?_⟩
   unfold sxV
   (refine YV Zz Zz Zz ?_ ?_)
   ·refine Yh (Yc T (cs:=Ym x.name) Zz Zz Zz Zz Zz Zz Zz Zz (fun gb=>⟨(⟨hle6,Zx⟩),?_⟩))
    (refine Yf Zz Zz ?_)
    refine Yh (Does.perm (List.Perm.swap _ _ _) (YB [_] _ Zz Zz Zz (WE (vars:=true) (ip.mono hle6) Zi) (fun v7 fz7 H7 hle7 hR7=>?_)))
    obtain ⟨_,⟨B7,cc7,rfl,hsl7⟩,b7,rfl,hb7⟩:=hR7
    refine ⟨(⟨(hle6.trans hle7),Zx⟩),?_⟩
    (refine Yf Zz Zz ?_)
    refine Yh (YaK T (n:=1) (l:=[Yd x.name]) (Hr:=(g,_)::(g9,_)::(g1,_)::(g2,_)::(g5,_)::(Hs_4++Hp)) (Hs:=[(gb,_)]) Zz Zz Zz Zz Zz Zz Zz Zz (List.Perm.cons _ (List.perm_append_singleton _ _).symm) (Grow.block (ys:=[(Yd x.name,Ym x.name)]) rfl rfl (by simpa using Yq hRx.name) rfl Zh) Yn hsl7 (by show _*72≤_;omega) Zi (fun v8 Hs1 hO1=>⟨(⟨(hle6.trans hle7),Zx⟩),?_⟩))
    obtain ⟨A8,c8,rfl,_,_⟩:=hO1.form
    (refine Yf Zz Zz ?_)
    refine PoS.qk (⟨(hle6.trans hle7),Zx⟩) (Yj Zz Zz Y6 ?_)
    unfold sxV
    (refine Yf Zz Zz ?_)
    refine Yh (Yc T (cs:=[.int .i64 3,.int .i64 0,.int .i64 0,.int .i64 0,.string ⟨#[]⟩,.slice A8 (1+3*p1) c8]) Zz Zz Zz Zz Zz Zz Zz Zz (fun gc=>⟨(⟨(hle6.trans hle7),Zx⟩),?_⟩))
    (refine Yf Zz Zz ?_)
    refine Yh (Does.freezeAll (H1:=(gc,_)::(g,_)::(g9,_)::(g1,_)::(g2,_)::(g5,_)::(Hs_4++Hp)) (H2:=Hs1) (List.Perm.refl _) (fun fz9 hle9 hf9=>?_))
    obtain ⟨A2x,c2x,he2,hsl9⟩:=hO1.sl hle9 hf9 Zi
    injection he2 with x1 x2 x3
    subst x1 x3
    refine Y3 T (Hr:=(gc,_)::(g,_)::(g9,_)::(g1,_)::(g2,_)::(g5,_)::Hs_4) (d:=Yf1 x) Zz Zz Zz Zz Zz Zz Zz Zz (List.Perm.refl _) (hP.mono ((hle6.trans hle7).trans hle9)) Yn (.head _) (Yg (XM hsl9)) (by show _*72≤_;omega) Zi (fun v9 Hp9 hO9=>⟨(⟨((hle6.trans hle7).trans hle9),Zx⟩),?_⟩)
    obtain ⟨A9,c9,rfl,_,_⟩:=hO9.form
    (refine Yf Zz Zz ?_)
    refine PoS.qk (⟨((hle6.trans hle7).trans hle9),Zx⟩) (Xk Zz ?_)
    refine Po.done ?_
    ((repeat (first | refine zS ?_ | refine zA fun _=>?_)))
    refine YP ⟨k+1,b7,_,Hp9,ys++ [Yf1 x],by omega,rfl,rfl,hle.trans ((hle6.trans hle7).trans hle9),rfl,hO9,?_,fun h0=>?_⟩ Zi (Zw) (Zb)
    ·rw [hb7,hb6,hb]
     exact ⟨fun h0=>⟨h0.1.1.1,YZ h0.1.1.2 hx ⟨h0.1.2,h0.2⟩⟩,fun h0=>⟨⟨⟨h0.1,fun i hi=>h0.2 i Zi⟩,(h0.2 k Zi x hx).1⟩,(h0.2 k Zi x hx).2⟩⟩
    ·rw [hys (hb6.1 (hb7.1 h0).1).1,List.take_add_one,hx];simp
   ·refine Yh (YB [_] _ Zz Zz Zz (WE (vars:=true) (ip.mono hle6) Zi) (fun v7 fz7 H7 hle7 hR7=>?_))
    obtain ⟨_,⟨B7,cc7,rfl,hsl7⟩,b7,rfl,hb7⟩:=hR7
    refine ⟨(⟨(hle6.trans hle7),Zx⟩),?_⟩
    (refine Yf Zz Zz ?_)
    refine Yh (Yc T (cs:=Ym x.name) Zz Zz Zz Zz Zz Zz Zz Zz (fun gb=>⟨(⟨(hle6.trans hle7),Zx⟩),?_⟩))
    (refine Yf Zz Zz ?_)
    refine Yh (YaK T (n:=1) (l:=[Yd x.name]) (Hr:=(g,_)::(g9,_)::(g1,_)::(g2,_)::(g5,_)::(Hs_4++Hp)) (Hs:=[(gb,_)]) Zz Zz Zz Zz Zz Zz Zz Zz (List.perm_append_singleton _ _).symm (Grow.block (ys:=[(Yd x.name,Ym x.name)]) rfl rfl (by simpa using Yq hRx.name) rfl Zh) Yn hsl7 (by show _*72≤_;omega) Zi (fun v8 Hs1 hO1=>⟨(⟨(hle6.trans hle7),Zx⟩),?_⟩))
    obtain ⟨A8,c8,rfl,_,_⟩:=hO1.form
    (refine Yf Zz Zz ?_)
    refine PoS.qk (⟨(hle6.trans hle7),Zx⟩) (Yj Zz Zz Y6 ?_)
    unfold sxV
    (refine Yf Zz Zz ?_)
    refine Yh (Yc T (cs:=[.int .i64 3,.int .i64 0,.int .i64 0,.int .i64 0,.string ⟨#[]⟩,.slice A8 (1+3*p1) c8]) Zz Zz Zz Zz Zz Zz Zz Zz (fun gc=>⟨(⟨(hle6.trans hle7),Zx⟩),?_⟩))
    (refine Yf Zz Zz ?_)
    refine Yh (Does.freezeAll (H1:=(gc,_)::(g,_)::(g9,_)::(g1,_)::(g2,_)::(g5,_)::(Hs_4++Hp)) (H2:=Hs1) (List.Perm.refl _) (fun fz9 hle9 hf9=>?_))
    obtain ⟨A2x,c2x,he2,hsl9⟩:=hO1.sl hle9 hf9 Zi
    injection he2 with x1 x2 x3
    subst x1 x3
    refine Y3 T (Hr:=(gc,_)::(g,_)::(g9,_)::(g1,_)::(g2,_)::(g5,_)::Hs_4) (d:=Yf1 x) Zz Zz Zz Zz Zz Zz Zz Zz (List.Perm.refl _) (hP.mono ((hle6.trans hle7).trans hle9)) Yn (.head _) (Yg (XM hsl9)) (by show _*72≤_;omega) Zi (fun v9 Hp9 hO9=>⟨(⟨((hle6.trans hle7).trans hle9),Zx⟩),?_⟩)
    obtain ⟨A9,c9,rfl,_,_⟩:=hO9.form
    (refine Yf Zz Zz ?_)
    refine PoS.qk (⟨((hle6.trans hle7).trans hle9),Zx⟩) (Xk Zz ?_)
    refine Po.done ?_
    ((repeat (first | refine zS ?_ | refine zA fun _=>?_)))
    refine YP ⟨k+1,b7,_,Hp9,ys++ [Yf1 x],by omega,rfl,rfl,hle.trans ((hle6.trans hle7).trans hle9),rfl,hO9,?_,fun h0=>?_⟩ Zi (Zw) (Zb)
    ·rw [hb7,hb6,hb]
     exact ⟨fun h0=>⟨h0.1.1.1,YZ h0.1.1.2 hx ⟨h0.1.2,h0.2⟩⟩,fun h0=>⟨⟨⟨h0.1,fun i hi=>h0.2 i Zi⟩,(h0.2 k Zi x hx).1⟩,(h0.2 k Zi x hx).2⟩⟩
    ·rw [hys (hb6.1 (hb7.1 h0).1).1,List.take_add_one,hx];simp
  ·have hkn:n3=k:=by omega
   subst hkn
   rw [show d.predicates.take n3=d.predicates from List.take_of_length_le Zi] at hys
   have hbp:b'=false↔bb4=false∧∀ x∈d.predicates,Yib x:=by rw [hb];exact ⟨fun h0=>⟨h0.1,XW h0.2 Zi⟩,fun h0=>⟨h0.1,fun i _ x hx=>h0.2 x (List.mem_of_getElem? hx)⟩⟩
   refine Seq.freezeAll (H1:=(g,_)::(g1,_)::(g2,_)::(g5,_)::Hs_4) (H2:=Hp) (List.Perm.refl _) (fun fzp hlp hfp=>?_)
   obtain ⟨A2x,c2x,he2,hslp⟩:=hP.sl hlp hfp Zi
   injection he2 with x1 x2 x3
   subst x1 x3
   have hG5:=hG_4.mono (hle.trans hlp)
   have hle5:=(hle_4.trans hle).trans hlp
   ((repeat (first | refine zS ?_ | refine zA fun _=>?_)))
   refine YD (fun q σ fz' H'=>∃ (j:Nat) (b2:Bool) (vf:Value) (Hf:HP) (zs:List Sexpr),j≤n4∧q=n4 - j∧σ=[(64,.int .i64 j),(63,.int .i64 n4),(62,.slice A4 n4 c4),(7,vf),(6,.slice Ap n3 cp),(5,.pointer (some ⟨g5,0,none⟩)),(4,.pointer (some ⟨g,0,none⟩)),(2,.pointer (some ⟨g2,0,none⟩)),(1,.pointer (some ⟨g1,0,none⟩))]∧Le fzp fz'∧H'=(g,wrO b2)::(g1,.cells #[.string d.name,.slice A1 n1 c1,.slice A2 n2 c2,.slice A3 n3 c3,.slice A4 n4 c4,.slice A5 n5 c5,.slice A6 n6 c6] 28 (0,0))::(g2,.cells #[.int .i64 0,.int .i64 0,.int .i64 0,.int .i64 0,.string ⟨#[]⟩,.slice none 0 0] 64 (0,0))::(g5,lsO v_4)::(Hs_4++Hf)∧Grow YF 64 fz' vf j Hf zs∧(b2=false↔b'=false∧∀ i,i<j→∀ x,d.functions[i]?=some x→Ykh x)∧(b2=false→zs=(d.functions.take j).map funX)) (H0:=(g,wrO b')::(g1,.cells #[.string d.name,.slice A1 n1 c1,.slice A2 n2 c2,.slice A3 n3 c3,.slice A4 n4 c4,.slice A5 n5 c5,.slice A6 n6 c6] 28 (0,0))::(g2,.cells #[.int .i64 0,.int .i64 0,.int .i64 0,.int .i64 0,.string ⟨#[]⟩,.slice none 0 0] 64 (0,0))::(g5,lsO v_4)::(Hs_4++ [])) ⟨0,b',_,[],[],Nat.zero_le _,rfl,rfl,Le.refl _,rfl,Grow.nil _ _ _,⟨fun h=>⟨h,fun i hi=>absurd hi Zi⟩,fun h=>h.1⟩,by simp⟩ (Zw) (by simp) ?_
   rintro q σ fz' H' ⟨j,b2,vf,Hf,zs,hj,rfl,rfl,hle6f,rfl,hF,hb2,hzs⟩
   obtain ⟨Af,cf,rfl,_,_⟩:=hF.form
   have i4m:=i4.mono (hle5.trans hle6f)
   ((repeat (first | refine zS ?_ | refine zA fun _=>?_)))
   ((refine zG ?_;refine zC (fun e2=>?_) (fun e2=>?_)))
   ·obtain ⟨x,hx⟩:=YG (l:=d.functions) (k:=j) Zi
    have hxm:=List.mem_of_getElem? hx
    ((repeat (first | refine zS ?_ | refine zA fun _=>?_)))
    (((refine zG ?_));refine YA T j Zz Zz Zz Zz Zz Zz i4m (by first | rfl | omega) hx (fun p hp=>?_))
    (((refine zG ?_));refine Yx T Zz Zz Zz hp Zz ?_)
    intro cs hcs
    obtain ⟨vpp,rfl,hRx⟩:=Yen hcs
    obtain ⟨P1,p1,q1,rfl,ip⟩:=hRx.params
    have hpm:=hs.funp x hxm
    have hpl:=ip.len
    ((repeat (first | refine zSO ?_ | refine zA fun _=>?_)))
    rename_i g9
    refine Yr (Wp.mid (fun σ fz7 H'=>∃ (b7:Bool) (v1:Value) (Hs1:HP),σ=[(12,v1),(64,.int .i64 j),(63,.int .i64 n4),(62,.slice A4 n4 c4),(11,.pointer (some ⟨g9,0,none⟩)),(7,.slice Af j cf),(6,.slice Ap n3 cp),(5,.pointer (some ⟨g5,0,none⟩)),(4,.pointer (some ⟨g,0,none⟩)),(2,.pointer (some ⟨g2,0,none⟩)),(1,.pointer (some ⟨g1,0,none⟩))]∧Le fz' fz7∧H'=((g,wrO b7)::(g9,.cells #[.string x.name,.slice P1 p1 q1,.int .i64 x.lo,.int .i64 x.hi] 97 (0,0))::(g1,.cells #[.string d.name,.slice A1 n1 c1,.slice A2 n2 c2,.slice A3 n3 c3,.slice A4 n4 c4,.slice A5 n5 c5,.slice A6 n6 c6] 28 (0,0))::(g2,.cells #[.int .i64 0,.int .i64 0,.int .i64 0,.int .i64 0,.string ⟨#[]⟩,.slice none 0 0] 64 (0,0))::(g5,lsO v_4)::(Hs_4++Hf))++Hs1∧Grow YF 64 fz7 v1 (1+3*p1) Hs1 (Yd x.name::XV x.params)∧(b7=false↔b2=false∧Ykh x)) ?_ ?_)
    ·(refine Wp.drawP [] (Hq:=[(g9,_)]) T.mixed Zj Zj (Zb) ?_)
     ((repeat (first | refine zS ?_ | refine zA fun _=>?_)))
     (refine Yl ?_)
     (refine Yl ?_)
     ((repeat (first | refine zS ?_ | refine zA fun _=>?_)))
     (refine Yl ?_)
     (refine Yl ?_)
     (refine Yl ?_)
     (refine PK.done ⟨by kernel_rfl,?_⟩)
     (refine Yf Zz Zz ?_)
     refine Yh (Does.perm (List.Perm.swap _ _ _) (YB [_] _ Zz Zz Zz (YaX hRx.name) (fun v6 fz6 H6 hle6 hR6=>?_)))
     obtain ⟨_,rfl,b6,rfl,hb6⟩:=hR6
     refine ⟨(⟨hle6,Zx⟩),?_⟩
     unfold sxV
     (refine YV Zz Zz Zz ?_ ?_)
     ·refine Yh (Yc T (cs:=Ym x.name) Zz Zz Zz Zz Zz Zz Zz Zz (fun gb=>⟨(⟨hle6,Zx⟩),?_⟩))
      (refine Yf Zz Zz ?_)
      refine Yh (Does.perm (List.Perm.swap _ _ _) (YB [_] _ Zz Zz Zz (WE (vars:=true) (ip.mono hle6) Zi) (fun v7 fz7 H7 hle7 hR7=>?_)))
      obtain ⟨_,⟨B7,cc7,rfl,hsl7⟩,b7,rfl,hb7⟩:=hR7
      refine ⟨(⟨(hle6.trans hle7),Zx⟩),?_⟩
      (refine Yf Zz Zz ?_)
      refine Yh (YaK T (n:=1) (l:=[Yd x.name]) (Hr:=(g,_)::(g9,_)::(g1,_)::(g2,_)::(g5,_)::(Hs_4++Hf)) (Hs:=[(gb,_)]) Zz Zz Zz Zz Zz Zz Zz Zz (List.Perm.cons _ (List.perm_append_singleton _ _).symm) (Grow.block (ys:=[(Yd x.name,Ym x.name)]) rfl rfl (by simpa using Yq hRx.name) rfl Zh) Yn hsl7 (by show _*72≤_;omega) Zi (fun v8 Hs1 hO1=>⟨(⟨(hle6.trans hle7),Zx⟩),?_⟩))
      obtain ⟨A8,c8,rfl,_,_⟩:=hO1.form
      (refine Yf Zz Zz ?_)
      refine PoS.qk (⟨(hle6.trans hle7),Zx⟩) (Xk Zz ?_)
      refine Po.done ?_
      ((repeat (first | refine zS ?_ | refine zA fun _=>?_)))
      exact midN ⟨b7,_,Hs1,rfl,hle6.trans hle7,rfl,hO1,by rw [hb7,hb6,and_assoc];rfl⟩ (Zw) (Zb)
     ·refine Yh (YB [_] _ Zz Zz Zz (WE (vars:=true) (ip.mono hle6) Zi) (fun v7 fz7 H7 hle7 hR7=>?_))
      obtain ⟨_,⟨B7,cc7,rfl,hsl7⟩,b7,rfl,hb7⟩:=hR7
      refine ⟨(⟨(hle6.trans hle7),Zx⟩),?_⟩
      (refine Yf Zz Zz ?_)
      refine Yh (Yc T (cs:=Ym x.name) Zz Zz Zz Zz Zz Zz Zz Zz (fun gb=>⟨(⟨(hle6.trans hle7),Zx⟩),?_⟩))
      (refine Yf Zz Zz ?_)
      refine Yh (YaK T (n:=1) (l:=[Yd x.name]) (Hr:=(g,_)::(g9,_)::(g1,_)::(g2,_)::(g5,_)::(Hs_4++Hf)) (Hs:=[(gb,_)]) Zz Zz Zz Zz Zz Zz Zz Zz (List.perm_append_singleton _ _).symm (Grow.block (ys:=[(Yd x.name,Ym x.name)]) rfl rfl (by simpa using Yq hRx.name) rfl Zh) Yn hsl7 (by show _*72≤_;omega) Zi (fun v8 Hs1 hO1=>⟨(⟨(hle6.trans hle7),Zx⟩),?_⟩))
      obtain ⟨A8,c8,rfl,_,_⟩:=hO1.form
      (refine Yf Zz Zz ?_)
      refine PoS.qk (⟨(hle6.trans hle7),Zx⟩) (Xk Zz ?_)
      refine Po.done ?_
      ((repeat (first | refine zS ?_ | refine zA fun _=>?_)))
      exact midN ⟨b7,_,Hs1,rfl,hle6.trans hle7,rfl,hO1,by rw [hb7,hb6,and_assoc];rfl⟩ (Zw) (Zb)
    ·rintro σ fz7 H' ⟨b7,v1,Hs1,rfl,hle7,rfl,hO1,hb7⟩
     obtain ⟨A8,c8,rfl,_,_⟩:=hO1.form
     refine Wp.drawK (Hq:=[(g9,_)]) T.mixed Zj Zj (List.Sublist.cons _ (List.Sublist.cons_cons _ (List.nil_sublist _))) ?_
     ((repeat (first | refine zS ?_ | refine zA fun _=>?_)))
     (((refine zG ?_));refine Yj Zz Zz Ydt ?_)
     ((repeat (first | refine zS ?_ | refine zA fun _=>?_)))
     (((refine zG ?_));refine Yj Zz Zz Ydt ?_)
     unfold sxV
     (refine Ye ?_)
     (refine Ye ?_)
     (refine Ye ?_)
     (refine Ye ?_)
     (refine Ye ?_)
     (refine Ye ?_)
     (refine YR ⟨by kernel_rfl,?_⟩)
     refine Ys (Yc T (cs:=[.int .i64 2,.int .i64 x.lo,.int .i64 0,.int .i64 0,.string ⟨#[]⟩,.slice none 0 0,.int .i64 2,.int .i64 x.hi,.int .i64 0,.int .i64 0,.string ⟨#[]⟩,.slice none 0 0]) Zz Zz Zz Zz Zz Zz Zz Zz (fun gb=>⟨(⟨Le.refl _,Zx⟩),?_⟩))
     refine Ys (YhI T (Hr:=(gb,_)::(g,_)::(g9,_)::(g1,_)::(g2,_)::(g5,_)::(Hs_4++Hf)) (ys:=[(numE x.lo,[.int .i64 2,.int .i64 x.lo,.int .i64 0,.int .i64 0,.string ⟨#[]⟩,.slice none 0 0]),(numE x.hi,[.int .i64 2,.int .i64 x.hi,.int .i64 0,.int .i64 0,.string ⟨#[]⟩,.slice none 0 0])]) (l2:=[numE x.lo,numE x.hi]) (m:=2) Zz Zz Zz Zz Zz Zz Zz Zz (List.Perm.refl _) hO1 Yn (.head _) rfl rfl (by intro p hp;simp only [List.mem_cons,List.not_mem_nil,or_false] at hp;rcases hp with rfl | rfl;exact Yg (YeD hRx.lo);exact Yg (YeD hRx.hi)) rfl (by show _*72≤_;omega) Zi (fun v8 Hs2 hO2=>⟨(⟨Le.refl _,Zx⟩),?_⟩))
     obtain ⟨A9,c9,rfl,_,_⟩:=hO2.form
     refine Ch.qk (⟨Le.refl _,Zx⟩) (Yj Zz Zz Y6 ?_)
     unfold sxV
     refine Ys (Yc T (cs:=[.int .i64 3,.int .i64 0,.int .i64 0,.int .i64 0,.string ⟨#[]⟩,.slice A9 (1+3*p1+2) c9]) Zz Zz Zz Zz Zz Zz Zz Zz (fun gc=>⟨(⟨Le.refl _,Zx⟩),?_⟩))
     refine Ys (Does.freezeAll (H1:=(gc,_)::(gb,_)::(g,_)::(g9,_)::(g1,_)::(g2,_)::(g5,_)::(Hs_4++Hf)) (H2:=Hs2) (List.Perm.refl _) (fun fz9 hle9 hf9=>?_))
     obtain ⟨A2y,c2y,he3,hsl9⟩:=hO2.sl hle9 hf9 Zi
     injection he3 with x1 x2 x3
     subst x1 x3
     refine Y3 T (Hr:=(gc,_)::(gb,_)::(g,_)::(g9,_)::(g1,_)::(g2,_)::(g5,_)::Hs_4) (d:=funX x) Zz Zz Zz Zz Zz Zz Zz Zz (List.Perm.refl _) (hF.mono (hle7.trans hle9)) Yn (.head _) (Yg (XM hsl9)) (by show _*72≤_;omega) Zi (fun v9 Hf9 hO9=>⟨(⟨hle9,Zx⟩),?_⟩)
     obtain ⟨A9f,c9f,rfl,_,_⟩:=hO9.form
     refine Ch.qk (⟨hle9,Zx⟩) (Xk Zz ?_)
     refine Ch.done ?_
     ((repeat (first | refine zS ?_ | refine zA fun _=>?_)))
     refine YP ⟨j+1,b7,_,Hf9,zs++ [funX x],by omega,rfl,rfl,hle6f.trans (hle7.trans hle9),rfl,hO9,?_,fun h0=>?_⟩ Zi (Zw) (Zb)
     ·rw [hb7,hb2]
      exact ⟨fun h0=>⟨h0.1.1,YZ h0.1.2 hx h0.2⟩,fun h0=>⟨⟨h0.1,fun i hi=>h0.2 i Zi⟩,h0.2 j Zi x hx⟩⟩
     ·rw [hzs (hb7.1 h0).1,List.take_add_one,hx];simp
   ·have hjn:n4=j:=by omega
    subst hjn
    rw [show d.functions.take n4=d.functions from List.take_of_length_le Zi] at hzs
    have hbf:b2=false↔b'=false∧∀ x∈d.functions,Ykh x:=by rw [hb2];exact ⟨fun h0=>⟨h0.1,XW h0.2 Zi⟩,fun h0=>⟨h0.1,fun i _ x hx=>h0.2 x (List.mem_of_getElem? hx)⟩⟩
    refine Seq.freezeAll (H1:=(g,_)::(g1,_)::(g2,_)::(g5,_)::Hs_4) (H2:=Hf) (List.Perm.refl _) (fun fzq hlq hfq=>?_)
    obtain ⟨A2z,c2z,he4,hslf⟩:=hF.sl hlq hfq Zi
    injection he4 with x1 x2 x3
    subst x1 x3
    have hG6:=hG5.mono (hle6f.trans hlq)
    have hslp2:=hslp.mono (hle6f.trans hlq)
    have hle7:=(hle5.trans hle6f).trans hlq
    ((repeat (first | refine zS ?_ | refine zA fun _=>?_)))
    refine Yb Zz (Does.perm (H':=((g5,_)::Hs_4)++ [_,_,_]) List.perm_append_comm (Does.after (YB ((g5,_)::Hs_4) _ Zz Zz Zz (Yfi (kw:=Yav) hG6 hslp2 (YK Zh) Zi Zi) (fun v7 fz_5 H7 hlz5 hR7=>?_))))
    obtain ⟨_,_,v_5,n_5,Hs_5,rfl,hG_5,hn_5⟩:=hR7
    refine ⟨(g,wrO b2)::(g1,_)::(g2,_)::(g5,lsO v_5)::Hs_5,List.perm_append_comm (l₁:=[_,_,_]) (l₂:=(g5,lsO v_5)::Hs_5),?_⟩
    replace hG_5:Grow YF 64 fz_5 v_5 n_5 Hs_5 (l_4++grp Yav (ys)):=hG_5
    obtain ⟨l_5,hl5⟩:∃ l',l'=l_4++grp Yav (ys):=⟨_,rfl⟩
    rw [← hl5] at hG_5
    ((repeat (first | refine zS ?_ | refine zA fun _=>?_)))
    refine Yb Zz (Does.perm (H':=((g5,_)::Hs_5)++ [_,_,_]) List.perm_append_comm (Does.after (YB ((g5,_)::Hs_5) _ Zz Zz Zz (Yfi (kw:=YaR) hG_5 (hslf.mono hlz5) (YK Zh) Zi Zi) (fun v7 fz_6 H7 hlz6 hR7=>?_))))
    obtain ⟨_,_,v_6,n_6,Hs_6,rfl,hG_6,hn_6⟩:=hR7
    refine ⟨(g,wrO b2)::(g1,_)::(g2,_)::(g5,lsO v_6)::Hs_6,List.perm_append_comm (l₁:=[_,_,_]) (l₂:=(g5,lsO v_6)::Hs_6),?_⟩
    replace hG_6:Grow YF 64 fz_6 v_6 n_6 Hs_6 (l_5++grp YaR (zs)):=hG_6
    obtain ⟨l_6,hl6⟩:∃ l',l'=l_5++grp YaR (zs):=⟨_,rfl⟩
    rw [← hl6] at hG_6
    have hle_6:=(hle7.trans hlz5).trans hlz6
    have hb_6:b2=false↔Xn d.name∧(∀ p∈d.types,XD false p)∧(∀ p∈d.constants,XD false p)∧(∀ p∈d.predicates,Yib p)∧(∀ f∈d.functions,Ykh f):=by rw [hbf,hbp,hb_4];simp only [and_assoc]
    have hys_6:b2=false→l_6=[Yd YL,Yv [Yd Xb,Yd d.name]]++grp YdT (XV d.types)++grp Yap (XV d.constants)++grp Yav (d.predicates.map Yf1)++grp YaR (d.functions.map funX):=fun h0=>by rw [hl6,hl5,hys_4 (hbp.1 (hbf.1 h0).1).1,hys (hbf.1 h0).1,hzs h0]
    ((repeat (first | refine zS ?_ | refine zA fun _=>?_)))
    refine YD (fun q σ fz' H'=>∃ (k2:Nat) (bb:Bool) (v:Value) (nn:Nat) (Hs:HP) (us:List Sexpr),k2≤n5∧q=n5 - k2∧σ=[(99,.int .i64 k2),(98,.int .i64 n5),(97,.slice A5 n5 c5),(5,.pointer (some ⟨g5,0,none⟩)),(4,.pointer (some ⟨g,0,none⟩)),(2,.pointer (some ⟨g2,0,none⟩)),(1,.pointer (some ⟨g1,0,none⟩))]∧Le fz_6 fz'∧H'=(g,wrO bb)::(g1,.cells #[.string d.name,.slice A1 n1 c1,.slice A2 n2 c2,.slice A3 n3 c3,.slice A4 n4 c4,.slice A5 n5 c5,.slice A6 n6 c6] 28 (0,0))::(g2,.cells #[.int .i64 0,.int .i64 0,.int .i64 0,.int .i64 0,.string ⟨#[]⟩,.slice none 0 0] 64 (0,0))::(g5,lsO v)::Hs∧Grow YF 64 fz' v nn Hs (l_6++us)∧nn≤10+k2∧(bb=false↔b2=false∧∀ i,i<k2→∀ x,d.actions[i]?=some x→Ykb x)∧(bb=false→us=(d.actions.take k2).map actX)) ⟨0,b2,_,_,Hs_6,[],Nat.zero_le _,rfl,rfl,Le.refl _,rfl,by rw [List.append_nil];exact hG_6,by omega,⟨fun h=>⟨h,fun i hi=>absurd hi Zi⟩,fun h=>h.1⟩,by simp⟩ (Zw) (Zb) ?_
    rintro q σ fzx H' ⟨k2,bbx,vx,nnx,Hsx,usx,hkx,rfl,rfl,hlex,rfl,hGx,hnnx,hbx,husx⟩
    obtain ⟨Avx,cvx,rfl,_,_⟩:=hGx.form
    have imx:=i5.mono (hle_6.trans hlex)
    ((repeat (first | refine zS ?_ | refine zA fun _=>?_)))
    ((refine zG ?_;refine zC (fun ecx=>?_) (fun ecx=>?_)))
    ·obtain ⟨x,hx⟩:=YG (l:=d.actions) (k:=k2) Zi
     have hxm:=List.mem_of_getElem? hx
     ((repeat (first | refine zSO ?_ | refine zA fun _=>?_)))
     refine Yr ?_
     refine Wp.cond_true Zz ?_
     refine Wj ?_
     refine YbU ?_
     refine Yr (Wp.mid (fun σ fz' H'=>∃ (b6:Bool) (y6:Sexpr) (v:Value) (Hs:HP),σ=[(99,.int .i64 k2),(98,.int .i64 n5),(97,.slice A5 n5 c5),(5,.pointer (some ⟨g5,0,none⟩)),(4,.pointer (some ⟨g,0,none⟩)),(2,.pointer (some ⟨g2,0,none⟩)),(1,.pointer (some ⟨g1,0,none⟩))]∧Le fzx fz'∧H'=(g,wrO b6)::(g1,.cells #[.string d.name,.slice A1 n1 c1,.slice A2 n2 c2,.slice A3 n3 c3,.slice A4 n4 c4,.slice A5 n5 c5,.slice A6 n6 c6] 28 (0,0))::(g2,.cells #[.int .i64 0,.int .i64 0,.int .i64 0,.int .i64 0,.string ⟨#[]⟩,.slice none 0 0] 64 (0,0))::(g5,lsO v)::Hs∧Grow YF 64 fz' v (nnx+1) Hs (l_6++(usx++ [y6]))∧(b6=false↔bbx=false∧Ykb x)∧(b6=false→y6=actX x)) ?_ ?_)
     ·((repeat (first | refine zS ?_ | refine zA fun _=>?_)))
      (((refine zG ?_));refine YA T k2 Zz Zz Zz Zz Zz Zz imx (by first | rfl | omega) hx (fun p hp=>?_))
      (((refine zG ?_));refine Yx T Zz Zz Zz hp Zz ?_)
      intro cs hcs
      obtain ⟨u0,u1,u2,u3,u4,u5,rfl,hRx⟩:=YbB hcs
      obtain ⟨U0,w0,z0,rfl,_⟩:=hRx.params
      obtain ⟨U1,w1,z1,rfl,_⟩:=hRx.pre.args
      obtain ⟨U2,w2,z2,rfl,_⟩:=hRx.pre.params
      obtain ⟨U3,w3,z3,rfl,_⟩:=hRx.pre.exprs
      obtain ⟨U4,w4,z4,rfl,_⟩:=hRx.pre.kids
      obtain ⟨U5,w5,z5,rfl,_⟩:=hRx.changes
      ((repeat (first | refine zS ?_ | refine zA fun _=>?_)))
      rename_i g14
      (refine Wp.drawP [] (Hq:=[(g14,_),(g5,_)]) T.mixed Zj Zj (Zb) ?_)
      ((repeat (first | refine zS ?_ | refine zA fun _=>?_)))
      (refine Yl ?_)
      ((repeat (first | refine zS ?_ | refine zA fun _=>?_)))
      (refine Yl ?_)
      (refine Yl ?_)
      (refine Yl ?_)
      (refine Yl ?_)
      ((repeat (first | refine zS ?_ | refine zA fun _=>?_)))
      (refine Yl ?_)
      (refine PK.done ⟨by kernel_rfl,?_⟩)
      (refine YV Zz Zz Zz ?_ ?_)
      ·refine Yh (Does.perm (List.Perm.swap _ _ _) (YB [_] _ Zz Zz Zz (YfH hRx (hs.acts x hxm)) (fun v6 fz6 H6 hle6 hR6=>?_)))
       obtain ⟨_,b6,y6,rfl,⟨cs6,rfl,hr6⟩,hb6,hy6⟩:=hR6
       obtain ⟨vk6,rfl,hX6⟩:=Yt hr6
       refine ⟨(⟨hle6,Zx⟩),?_⟩
       (refine Yf Zz Zz ?_)
       refine Yh (Yc T (cs:=YaN) Zz Zz Zz Zz Zz Zz Zz Zz (fun gz=>⟨(⟨hle6,Zx⟩),?_⟩))
       (refine Yf Zz Zz ?_)
       refine Yh (Y3 T (Hr:=[_,_,_,_,_,_]) Zz Zz Zz Zz Zz Zz Zz Zz (List.Perm.refl _) (hGx.mono hle6) Yn (.head _) X8 (by show _*72≤_;omega) Zi (fun v' Hs' hO'=>⟨(⟨hle6,Zx⟩),?_⟩))
       obtain ⟨gk,cap,cur,rfl,rfl,hB⟩:=hO'.b Zi
       (refine YV Zz Zz Zz ?_ ?_)
       ·refine PoS.qk (⟨hle6,Zx⟩) (YQ T Zz Zz Zz Zz Zz rfl Zi Zi ?_)
        (refine YV Zz Zz Zz ?_ ?_)
        ·refine PoS.soft0 (YH T (pre:=[_,_,_,_,_,_]) (L:=YF) (j:=nnx) Zz Zz Zz rfl rfl Zz Yn (Yg hX6) hB Zi (fun cur1 hB1=>⟨(⟨hle6,Zx⟩),?_⟩))
         (refine Yf Zz Zz ?_)
         refine PoS.hard0 Zj (X6 T (pre:=[_,_,_,_,_]) Zz Zz Zz rfl Zz Zz Zz ?_)
         refine Po.done ?_
         ((repeat (first | refine zS ?_ | refine zA fun _=>?_)))
         exact midN ⟨b6,y6,_,[_],rfl,hle6,rfl,hB1.grow.of (by rw [set1 hGx.len,List.append_assoc]) rfl,hb6,hy6⟩ (Zw) (Zb)
        ·refine PoS.hard0 Zj (X6 T (pre:=[_,_,_,_,_]) Zz Zz Zz rfl Zz Zz Zz ?_)
         (refine Yf Zz Zz ?_)
         refine PoS.hard0 Zj (YH T (pre:=[_,_,_,_,_,_]) (L:=YF) (j:=nnx) Zz Zz Zz rfl rfl Zz Yn (Yg hX6) hB Zi (fun cur1 hB1=>?_))
         refine Po.done ?_
         ((repeat (first | refine zS ?_ | refine zA fun _=>?_)))
         exact midN ⟨b6,y6,_,[_],rfl,hle6,rfl,hB1.grow.of (by rw [set1 hGx.len,List.append_assoc]) rfl,hb6,hy6⟩ (Zw) (Zb)
       ·refine PoS.hard0 Zj (X6 T (pre:=[_,_,_,_,_]) Zz Zz Zz rfl Zz Zz Zz ?_)
        (refine Yf Zz Zz ?_)
        refine PoS.hard Zj (DoesQ.does (YQ T Zz Zz Zz Zz Zz rfl Zi Zi ?_))
        (refine Yf Zz Zz ?_)
        refine PoS.hard0 Zj (YH T (pre:=[_,_,_,_,_,_]) (L:=YF) (j:=nnx) Zz Zz Zz rfl rfl Zz Yn (Yg hX6) hB Zi (fun cur1 hB1=>?_))
        refine Po.done ?_
        ((repeat (first | refine zS ?_ | refine zA fun _=>?_)))
        exact midN ⟨b6,y6,_,[_],rfl,hle6,rfl,hB1.grow.of (by rw [set1 hGx.len,List.append_assoc]) rfl,hb6,hy6⟩ (Zw) (Zb)
      ·refine Yh (Yc T (cs:=YaN) Zz Zz Zz Zz Zz Zz Zz Zz (fun gz=>⟨(⟨(Le.refl _),Zx⟩),?_⟩))
       (refine Yf Zz Zz ?_)
       refine Yh (Does.perm (@List.perm_middle _ _ [_,_] _).symm (YB [_] _ Zz Zz Zz (YfH hRx (hs.acts x hxm)) (fun v6 fz6 H6 hle6 hR6=>?_)))
       obtain ⟨_,b6,y6,rfl,⟨cs6,rfl,hr6⟩,hb6,hy6⟩:=hR6
       obtain ⟨vk6,rfl,hX6⟩:=Yt hr6
       refine ⟨(⟨hle6,Zx⟩),?_⟩
       (refine Yf Zz Zz ?_)
       refine Yh (Y3 T (Hr:=[_,_,_,_,_,_]) Zz Zz Zz Zz Zz Zz Zz Zz (List.Perm.refl _) (hGx.mono hle6) Yn (.tail _ (.head _)) X8 (by show _*72≤_;omega) Zi (fun v' Hs' hO'=>⟨(⟨hle6,Zx⟩),?_⟩))
       obtain ⟨gk,cap,cur,rfl,rfl,hB⟩:=hO'.b Zi
       (refine YV Zz Zz Zz ?_ ?_)
       ·refine PoS.qk (⟨hle6,Zx⟩) (YQ T Zz Zz Zz Zz Zz rfl Zi Zi ?_)
        (refine YV Zz Zz Zz ?_ ?_)
        ·refine PoS.soft0 (YH T (pre:=[_,_,_,_,_,_]) (L:=YF) (j:=nnx) Zz Zz Zz rfl rfl Zz Yn (Yg hX6) hB Zi (fun cur1 hB1=>⟨(⟨hle6,Zx⟩),?_⟩))
         (refine Yf Zz Zz ?_)
         refine PoS.hard0 Zj (X6 T (pre:=[_,_,_,_,_]) Zz Zz Zz rfl Zz Zz Zz ?_)
         refine Po.done ?_
         ((repeat (first | refine zS ?_ | refine zA fun _=>?_)))
         exact midN ⟨b6,y6,_,[_],rfl,hle6,rfl,hB1.grow.of (by rw [set1 hGx.len,List.append_assoc]) rfl,hb6,hy6⟩ (Zw) (Zb)
        ·refine PoS.hard0 Zj (X6 T (pre:=[_,_,_,_,_]) Zz Zz Zz rfl Zz Zz Zz ?_)
         (refine Yf Zz Zz ?_)
         refine PoS.hard0 Zj (YH T (pre:=[_,_,_,_,_,_]) (L:=YF) (j:=nnx) Zz Zz Zz rfl rfl Zz Yn (Yg hX6) hB Zi (fun cur1 hB1=>?_))
         refine Po.done ?_
         ((repeat (first | refine zS ?_ | refine zA fun _=>?_)))
         exact midN ⟨b6,y6,_,[_],rfl,hle6,rfl,hB1.grow.of (by rw [set1 hGx.len,List.append_assoc]) rfl,hb6,hy6⟩ (Zw) (Zb)
       ·refine PoS.hard0 Zj (X6 T (pre:=[_,_,_,_,_]) Zz Zz Zz rfl Zz Zz Zz ?_)
        (refine Yf Zz Zz ?_)
        refine PoS.hard Zj (DoesQ.does (YQ T Zz Zz Zz Zz Zz rfl Zi Zi ?_))
        (refine Yf Zz Zz ?_)
        refine PoS.hard0 Zj (YH T (pre:=[_,_,_,_,_,_]) (L:=YF) (j:=nnx) Zz Zz Zz rfl rfl Zz Yn (Yg hX6) hB Zi (fun cur1 hB1=>?_))
        refine Po.done ?_
        ((repeat (first | refine zS ?_ | refine zA fun _=>?_)))
        exact midN ⟨b6,y6,_,[_],rfl,hle6,rfl,hB1.grow.of (by rw [set1 hGx.len,List.append_assoc]) rfl,hb6,hy6⟩ (Zw) (Zb)
     ·rintro σ fz' H' ⟨b6,y6,v6,Hs6,rfl,hle6,rfl,hG6,hb6,hy6⟩
      ((repeat (first | refine zS ?_ | refine zA fun _=>?_)))
      refine YP ⟨k2+1,b6,v6,nnx+1,Hs6,usx++ [y6],by omega,rfl,rfl,hlex.trans hle6,rfl,hG6,by omega,?_,fun h0=>?_⟩ Zi (Zw) (Zb)
      ·rw [hb6,hbx]
       exact ⟨fun h0=>⟨h0.1.1,YZ h0.1.2 hx h0.2⟩,fun h0=>⟨⟨h0.1,fun i hi=>h0.2 i Zi⟩,h0.2 k2 Zi x hx⟩⟩
      ·rw [husx (hb6.1 h0).1,hy6 h0,List.take_add_one,hx];simp
    ·have hknx:n5=k2:=by omega
     subst hknx
     rw [show d.actions.take n5=d.actions from List.take_of_length_le Zi] at husx
     have hbxx:bbx=false↔b2=false∧∀ x∈d.actions,Ykb x:=by rw [hbx];exact ⟨fun h0=>⟨h0.1,XW h0.2 Zi⟩,fun h0=>⟨h0.1,fun i _ x hx=>h0.2 x (List.mem_of_getElem? hx)⟩⟩
     ((repeat (first | refine zS ?_ | refine zA fun _=>?_)))
     refine YD (fun q σ fz' H'=>∃ (k7:Nat) (bb:Bool) (v:Value) (nn:Nat) (Hs:HP) (us:List Sexpr),k7≤n6∧q=n6 - k7∧σ=[(117,.int .i64 k7),(116,.int .i64 n6),(115,.slice A6 n6 c6),(5,.pointer (some ⟨g5,0,none⟩)),(4,.pointer (some ⟨g,0,none⟩)),(2,.pointer (some ⟨g2,0,none⟩)),(1,.pointer (some ⟨g1,0,none⟩))]∧Le fzx fz'∧H'=(g,wrO bb)::(g1,.cells #[.string d.name,.slice A1 n1 c1,.slice A2 n2 c2,.slice A3 n3 c3,.slice A4 n4 c4,.slice A5 n5 c5,.slice A6 n6 c6] 28 (0,0))::(g2,.cells #[.int .i64 0,.int .i64 0,.int .i64 0,.int .i64 0,.string ⟨#[]⟩,.slice none 0 0] 64 (0,0))::(g5,lsO v)::Hs∧Grow YF 64 fz' v nn Hs ((l_6++usx)++us)∧nn≤nnx+k7∧(bb=false↔bbx=false∧∀ i,i<k7→∀ x,d.duratives[i]?=some x→YjX x)∧(bb=false→us=(d.duratives.take k7).map durX)) ⟨0,bbx,_,_,Hsx,[],Nat.zero_le _,rfl,rfl,Le.refl _,rfl,by rw [List.append_nil];exact hGx,by omega,⟨fun h=>⟨h,fun i hi=>absurd hi Zi⟩,fun h=>h.1⟩,by simp⟩ (Zw) (Zb) ?_
     rintro q σ fzy H' ⟨k7,bby,vy,nny,Hsy,usy,hky,rfl,rfl,hley,rfl,hGy,hnny,hby,husy⟩
     obtain ⟨Avy,cvy,rfl,_,_⟩:=hGy.form
     have imy:=i6.mono ((hle_6.trans hlex).trans hley)
     ((repeat (first | refine zS ?_ | refine zA fun _=>?_)))
     ((refine zG ?_;refine zC (fun ecy=>?_) (fun ecy=>?_)))
     ·obtain ⟨x,hx⟩:=YG (l:=d.duratives) (k:=k7) Zi
      have hxm:=List.mem_of_getElem? hx
      ((repeat (first | refine zSO ?_ | refine zA fun _=>?_)))
      refine Yr ?_
      refine Wp.cond_true Zz ?_
      refine Wj ?_
      refine YbU ?_
      refine Yr (Wp.mid (fun σ fz' H'=>∃ (b6:Bool) (y6:Sexpr) (v:Value) (Hs:HP),σ=[(117,.int .i64 k7),(116,.int .i64 n6),(115,.slice A6 n6 c6),(5,.pointer (some ⟨g5,0,none⟩)),(4,.pointer (some ⟨g,0,none⟩)),(2,.pointer (some ⟨g2,0,none⟩)),(1,.pointer (some ⟨g1,0,none⟩))]∧Le fzy fz'∧H'=(g,wrO b6)::(g1,.cells #[.string d.name,.slice A1 n1 c1,.slice A2 n2 c2,.slice A3 n3 c3,.slice A4 n4 c4,.slice A5 n5 c5,.slice A6 n6 c6] 28 (0,0))::(g2,.cells #[.int .i64 0,.int .i64 0,.int .i64 0,.int .i64 0,.string ⟨#[]⟩,.slice none 0 0] 64 (0,0))::(g5,lsO v)::Hs∧Grow YF 64 fz' v (nny+1) Hs ((l_6++usx)++(usy++ [y6]))∧(b6=false↔bby=false∧YjX x)∧(b6=false→y6=durX x)) ?_ ?_)
      ·((repeat (first | refine zS ?_ | refine zA fun _=>?_)))
       (((refine zG ?_));refine YA T k7 Zz Zz Zz Zz Zz Zz imy (by first | rfl | omega) hx (fun p hp=>?_))
       (((refine zG ?_));refine Yx T Zz Zz Zz hp Zz ?_)
       intro cs hcs
       obtain ⟨u0,u1,u2,u3,u4,u5,u6,u7,u8,u9,u10,u11,u12,u13,u14,rfl,hRx⟩:=YbY hcs
       obtain ⟨U0,w0,z0,rfl,_⟩:=hRx.params
       obtain ⟨U1,w1,z1,rfl,_⟩:=hRx.start.args
       obtain ⟨U2,w2,z2,rfl,_⟩:=hRx.start.params
       obtain ⟨U3,w3,z3,rfl,_⟩:=hRx.start.exprs
       obtain ⟨U4,w4,z4,rfl,_⟩:=hRx.start.kids
       obtain ⟨U5,w5,z5,rfl,_⟩:=hRx.over.args
       obtain ⟨U6,w6,z6,rfl,_⟩:=hRx.over.params
       obtain ⟨U7,w7,z7,rfl,_⟩:=hRx.over.exprs
       obtain ⟨U8,w8,z8,rfl,_⟩:=hRx.over.kids
       obtain ⟨U9,w9,z9,rfl,_⟩:=hRx.fin.args
       obtain ⟨U10,w10,z10,rfl,_⟩:=hRx.fin.params
       obtain ⟨U11,w11,z11,rfl,_⟩:=hRx.fin.exprs
       obtain ⟨U12,w12,z12,rfl,_⟩:=hRx.fin.kids
       obtain ⟨U13,w13,z13,rfl,_⟩:=hRx.atStart
       obtain ⟨U14,w14,z14,rfl,_⟩:=hRx.atEnd
       ((repeat (first | refine zS ?_ | refine zA fun _=>?_)))
       rename_i g14
       (refine Wp.drawP [] (Hq:=[(g14,_),(g5,_)]) T.mixed Zj Zj (Zb) ?_)
       ((repeat (first | refine zS ?_ | refine zA fun _=>?_)))
       (refine Yl ?_)
       ((repeat (first | refine zS ?_ | refine zA fun _=>?_)))
       (refine Yl ?_)
       (refine Yl ?_)
       (refine Yl ?_)
       (refine Yl ?_)
       ((repeat (first | refine zS ?_ | refine zA fun _=>?_)))
       (refine Yl ?_)
       (refine PK.done ⟨by kernel_rfl,?_⟩)
       (refine YV Zz Zz Zz ?_ ?_)
       ·refine Yh (Does.perm (List.Perm.swap _ _ _) (YB [_] _ Zz Zz Zz (Ydy hRx (hs.durs x hxm)) (fun v6 fz6 H6 hle6 hR6=>?_)))
        obtain ⟨_,b6,y6,rfl,⟨cs6,rfl,hr6⟩,hb6,hy6⟩:=hR6
        obtain ⟨vk6,rfl,hX6⟩:=Yt hr6
        refine ⟨(⟨hle6,Zx⟩),?_⟩
        (refine Yf Zz Zz ?_)
        refine Yh (Yc T (cs:=YaN) Zz Zz Zz Zz Zz Zz Zz Zz (fun gz=>⟨(⟨hle6,Zx⟩),?_⟩))
        (refine Yf Zz Zz ?_)
        refine Yh (Y3 T (Hr:=[_,_,_,_,_,_]) Zz Zz Zz Zz Zz Zz Zz Zz (List.Perm.refl _) (hGy.mono hle6) Yn (.head _) X8 (by show _*72≤_;omega) Zi (fun v' Hs' hO'=>⟨(⟨hle6,Zx⟩),?_⟩))
        obtain ⟨gk,cap,cur,rfl,rfl,hB⟩:=hO'.b Zi
        (refine YV Zz Zz Zz ?_ ?_)
        ·refine PoS.qk (⟨hle6,Zx⟩) (YQ T Zz Zz Zz Zz Zz rfl Zi Zi ?_)
         (refine YV Zz Zz Zz ?_ ?_)
         ·refine PoS.soft0 (YH T (pre:=[_,_,_,_,_,_]) (L:=YF) (j:=nny) Zz Zz Zz rfl rfl Zz Yn (Yg hX6) hB Zi (fun cur1 hB1=>⟨(⟨hle6,Zx⟩),?_⟩))
          (refine Yf Zz Zz ?_)
          refine PoS.hard0 Zj (X6 T (pre:=[_,_,_,_,_]) Zz Zz Zz rfl Zz Zz Zz ?_)
          refine Po.done ?_
          ((repeat (first | refine zS ?_ | refine zA fun _=>?_)))
          exact midN ⟨b6,y6,_,[_],rfl,hle6,rfl,hB1.grow.of (by rw [set1 hGy.len,List.append_assoc]) rfl,hb6,hy6⟩ (Zw) (Zb)
         ·refine PoS.hard0 Zj (X6 T (pre:=[_,_,_,_,_]) Zz Zz Zz rfl Zz Zz Zz ?_)
          (refine Yf Zz Zz ?_)
          refine PoS.hard0 Zj (YH T (pre:=[_,_,_,_,_,_]) (L:=YF) (j:=nny) Zz Zz Zz rfl rfl Zz Yn (Yg hX6) hB Zi (fun cur1 hB1=>?_))
          refine Po.done ?_
          ((repeat (first | refine zS ?_ | refine zA fun _=>?_)))
          exact midN ⟨b6,y6,_,[_],rfl,hle6,rfl,hB1.grow.of (by rw [set1 hGy.len,List.append_assoc]) rfl,hb6,hy6⟩ (Zw) (Zb)
        ·refine PoS.hard0 Zj (X6 T (pre:=[_,_,_,_,_]) Zz Zz Zz rfl Zz Zz Zz ?_)
         (refine Yf Zz Zz ?_)
         refine PoS.hard Zj (DoesQ.does (YQ T Zz Zz Zz Zz Zz rfl Zi Zi ?_))
         (refine Yf Zz Zz ?_)
         refine PoS.hard0 Zj (YH T (pre:=[_,_,_,_,_,_]) (L:=YF) (j:=nny) Zz Zz Zz rfl rfl Zz Yn (Yg hX6) hB Zi (fun cur1 hB1=>?_))
         refine Po.done ?_
         ((repeat (first | refine zS ?_ | refine zA fun _=>?_)))
         exact midN ⟨b6,y6,_,[_],rfl,hle6,rfl,hB1.grow.of (by rw [set1 hGy.len,List.append_assoc]) rfl,hb6,hy6⟩ (Zw) (Zb)
       ·refine Yh (Yc T (cs:=YaN) Zz Zz Zz Zz Zz Zz Zz Zz (fun gz=>⟨(⟨(Le.refl _),Zx⟩),?_⟩))
        (refine Yf Zz Zz ?_)
        refine Yh (Does.perm (@List.perm_middle _ _ [_,_] _).symm (YB [_] _ Zz Zz Zz (Ydy hRx (hs.durs x hxm)) (fun v6 fz6 H6 hle6 hR6=>?_)))
        obtain ⟨_,b6,y6,rfl,⟨cs6,rfl,hr6⟩,hb6,hy6⟩:=hR6
        obtain ⟨vk6,rfl,hX6⟩:=Yt hr6
        refine ⟨(⟨hle6,Zx⟩),?_⟩
        (refine Yf Zz Zz ?_)
        refine Yh (Y3 T (Hr:=[_,_,_,_,_,_]) Zz Zz Zz Zz Zz Zz Zz Zz (List.Perm.refl _) (hGy.mono hle6) Yn (.tail _ (.head _)) X8 (by show _*72≤_;omega) Zi (fun v' Hs' hO'=>⟨(⟨hle6,Zx⟩),?_⟩))
        obtain ⟨gk,cap,cur,rfl,rfl,hB⟩:=hO'.b Zi
        (refine YV Zz Zz Zz ?_ ?_)
        ·refine PoS.qk (⟨hle6,Zx⟩) (YQ T Zz Zz Zz Zz Zz rfl Zi Zi ?_)
         (refine YV Zz Zz Zz ?_ ?_)
         ·refine PoS.soft0 (YH T (pre:=[_,_,_,_,_,_]) (L:=YF) (j:=nny) Zz Zz Zz rfl rfl Zz Yn (Yg hX6) hB Zi (fun cur1 hB1=>⟨(⟨hle6,Zx⟩),?_⟩))
          (refine Yf Zz Zz ?_)
          refine PoS.hard0 Zj (X6 T (pre:=[_,_,_,_,_]) Zz Zz Zz rfl Zz Zz Zz ?_)
          refine Po.done ?_
          ((repeat (first | refine zS ?_ | refine zA fun _=>?_)))
          exact midN ⟨b6,y6,_,[_],rfl,hle6,rfl,hB1.grow.of (by rw [set1 hGy.len,List.append_assoc]) rfl,hb6,hy6⟩ (Zw) (Zb)
         ·refine PoS.hard0 Zj (X6 T (pre:=[_,_,_,_,_]) Zz Zz Zz rfl Zz Zz Zz ?_)
          (refine Yf Zz Zz ?_)
          refine PoS.hard0 Zj (YH T (pre:=[_,_,_,_,_,_]) (L:=YF) (j:=nny) Zz Zz Zz rfl rfl Zz Yn (Yg hX6) hB Zi (fun cur1 hB1=>?_))
          refine Po.done ?_
          ((repeat (first | refine zS ?_ | refine zA fun _=>?_)))
          exact midN ⟨b6,y6,_,[_],rfl,hle6,rfl,hB1.grow.of (by rw [set1 hGy.len,List.append_assoc]) rfl,hb6,hy6⟩ (Zw) (Zb)
        ·refine PoS.hard0 Zj (X6 T (pre:=[_,_,_,_,_]) Zz Zz Zz rfl Zz Zz Zz ?_)
         (refine Yf Zz Zz ?_)
         refine PoS.hard Zj (DoesQ.does (YQ T Zz Zz Zz Zz Zz rfl Zi Zi ?_))
         (refine Yf Zz Zz ?_)
         refine PoS.hard0 Zj (YH T (pre:=[_,_,_,_,_,_]) (L:=YF) (j:=nny) Zz Zz Zz rfl rfl Zz Yn (Yg hX6) hB Zi (fun cur1 hB1=>?_))
         refine Po.done ?_
         ((repeat (first | refine zS ?_ | refine zA fun _=>?_)))
         exact midN ⟨b6,y6,_,[_],rfl,hle6,rfl,hB1.grow.of (by rw [set1 hGy.len,List.append_assoc]) rfl,hb6,hy6⟩ (Zw) (Zb)
      ·rintro σ fz' H' ⟨b6,y6,v6,Hs6,rfl,hle6,rfl,hG6,hb6,hy6⟩
       ((repeat (first | refine zS ?_ | refine zA fun _=>?_)))
       refine YP ⟨k7+1,b6,v6,nny+1,Hs6,usy++ [y6],by omega,rfl,rfl,hley.trans hle6,rfl,hG6,by omega,?_,fun h0=>?_⟩ Zi (Zw) (Zb)
       ·rw [hb6,hby]
        exact ⟨fun h0=>⟨h0.1.1,YZ h0.1.2 hx h0.2⟩,fun h0=>⟨⟨h0.1,fun i hi=>h0.2 i Zi⟩,h0.2 k7 Zi x hx⟩⟩
       ·rw [husy (hb6.1 h0).1,hy6 h0,List.take_add_one,hx];simp
     ·have hkny:n6=k7:=by omega
      subst hkny
      rw [show d.duratives.take n6=d.duratives from List.take_of_length_le Zi] at husy
      have hbxy:bby=false↔bbx=false∧∀ x∈d.duratives,YjX x:=by rw [hby];exact ⟨fun h0=>⟨h0.1,XW h0.2 Zi⟩,fun h0=>⟨h0.1,fun i _ x hx=>h0.2 x (List.mem_of_getElem? hx)⟩⟩
      refine Seq.freezeAll (H1:=[(g,_),(g1,_),(g2,_),(g5,_)]) (H2:=Hsy) (List.Perm.refl _) (fun fzr hlr hfr=>?_)
      obtain ⟨A2w,c2w,he5,hsl⟩:=hGy.sl hlr hfr Zi
      injection he5 with x1 x2 x3
      subst x1 x3
      have hX:=XM hsl
      have hOk:bby=false↔Yer d:=by rw [hbxy,hbxx,hb_6];unfold Yer;simp only [and_assoc]
      have hEq:bby=false→Yv ((l_6++usx)++usy)=domX d:=fun h0=>by rw [domX,hys_6 (hbxx.1 (hbxy.1 h0).1).1,husx (hbxy.1 h0).1,husy h0]
      unfold lsO wrO
      cases bby
      ·((repeat (first | refine zS ?_ | refine zA fun _=>?_)))
       (((refine zG ?_));refine Yz Zz Zz (Yb9 (x:=Yv ((l_6++usx)++usy)) hX) (fun f1=>?_) (fun f1=>?_))
       ·have hP:Yer d∧XVal (domX d):=⟨hOk.1 rfl,by rw [← hEq rfl];exact of_decide_eq_true f1⟩
        ((repeat (first | refine zS ?_ | refine zA fun _=>?_)))
        refine YaI T (vs:=[.agg #[_,_,_,_,_,_],.nilIface]) Zz ⟨⟨_,_,2,_,_,_,rfl,rfl,rfl,rfl,rfl,rfl⟩,rfl,trivial⟩ (fun fz3 hle3 hf3=>?_)
        exact ⟨rfl,_,_,by rw [if_pos hP];rfl,SxIs.mono hle3 ⟨_,rfl,Yg hX⟩,fun _=>hEq rfl⟩
       ·have hP:¬(Yer d∧XVal (domX d)):=fun h0=>of_decide_eq_false f1 (by rw [hEq rfl];exact h0.2)
        ((repeat (first | refine zS ?_ | refine zA fun _=>?_)))
        refine YaI T (vs:=[.agg #[_,_,_,_,_,_],_]) Zz ⟨⟨_,_,2,_,_,_,rfl,rfl,rfl,rfl,rfl,rfl⟩,rfl,trivial⟩ (fun fz3 hle3 hf3=>?_)
        exact ⟨rfl,_,_,by rw [if_neg hP,WN Zh];rfl,XP,fun h0=>absurd h0 hP⟩
      ·have hP:¬(Yer d∧XVal (domX d)):=fun h0=>by simpa using hOk.2 h0.1
       ((repeat (first | refine zS ?_ | refine zA fun _=>?_)))
       refine YaI T (vs:=[.agg #[_,_,_,_,_,_],_]) Zz ⟨⟨_,_,2,_,_,_,rfl,rfl,rfl,rfl,rfl,rfl⟩,rfl,trivial⟩ (fun fz3 hle3 hf3=>?_)
       exact ⟨rfl,_,_,by rw [if_neg hP,WN Zh];rfl,XP,fun h0=>absurd h0 hP⟩
end Go.Proofs.YtbhlgkibgajajaaGreatDoor
set_option maxRecDepth 20000
namespace Go.Proofs.YtbhlgkibgajajaaGreatDoor
open Go.Lx Go.RowKit
attribute [local instance 10] Classical.propDecidable
end Go.Proofs.YtbhlgkibgajajaaGreatDoor
set_option maxRecDepth 20000
namespace Go.Proofs.YtbhlgkibgajajaaGreatDoor
open Go.Lx Go.RowKit
attribute [local instance 10] Classical.propDecidable
theorem YdY {kw:ByteArray} {ks:List Sexpr} (h:ks≠ []):grp kw ks=[Yv (Yd kw::ks)]:=if_neg h
theorem Ybv {kw:ByteArray}:grp kw []=[]:=if_pos rfl
theorem Yf3 {l:List Param}:XV l=[]↔l=[]:=by
 constructor
 ·intro h
  have:=congrArg List.length h
  rw [YdK] at this
  exact List.eq_nil_of_length_eq_zero (by simp at this;omega)
 ·rintro rfl;rfl
end Go.Proofs.YtbhlgkibgajajaaGreatDoor
namespace Go.Lx
open Go
def strOf (l:List UInt8):ByteArray:=⟨l.toArray⟩
theorem Wt (l:List UInt8):(strOf l).size=l.length:=by simp [strOf,ByteArray.size]
theorem YcI (l:List UInt8):(strOf l).data.toList=l:=by simp [strOf]
theorem YfL (a b:List UInt8):strOf a++strOf b=strOf (a++b):=by
 apply ByteArray.ext
 simp [strOf,ByteArray.data_append]
theorem Yhp (s:ByteArray):strOf s.data.toList=s:=by
 apply ByteArray.ext
 simp [strOf]
mutual
/-- the text in one line -/
def txt:Sexpr→List UInt8
 | .mk k v _ _ t ks=>if k=1 then t.data.toList else if k=2 then Lib.itoa v else 40::(Lib.join (txtL ks) [32]++ [41])
def txtL:List Sexpr→List (List UInt8)
 | []=>[]
 | x::r=>txt x::txtL r
end
theorem YeW (l:List Sexpr):txtL l=l.map txt:=by
 induction l with
 | nil=>simp [txtL]
 | cons a r ih=>simp [txtL,ih]
theorem YfJ (x:Sexpr):txt x=if x.kind=1 then x.text.data.toList else if x.kind=2 then Lib.itoa x.value else 40::(Lib.join (x.kids.map txt) [32]++ [41]):=by
 cases x;rw [txt,YeW];rfl
mutual
/-- the text in lines -/
def lay (w:Nat):Sexpr→Nat→List UInt8
 | .mk k v l c t ks,i=>if k≠3∨ks.length=0∨i+(txt (.mk k v l c t ks)).length≤w then txt (.mk k v l c t ks) else 40::(layH w ks i++ [41])
def layH (w:Nat):List Sexpr→Nat→List UInt8
 | [],_=>[]
 | x::r,i=>lay w x (i+1)++layT w r (i+2)
def layT (w:Nat):List Sexpr→Nat→List UInt8
 | [],_=>[]
 | x::r,i=>(10::(List.replicate i 32++lay w x i))++layT w r i
end
theorem Yba {w i:Nat} {x:Sexpr} (h:x.kind≠3∨x.kids.length=0∨i+(txt x).length≤w):lay w x i=txt x:=by
 cases x;rw [lay];exact if_pos h
theorem YhE {w i:Nat} {x:Sexpr} (h:¬(x.kind≠3∨x.kids.length=0∨i+(txt x).length≤w)):lay w x i=40::(layH w x.kids i++ [41]):=by
 cases x;rw [lay];exact if_neg h
theorem Yg0 {w i:Nat} {l m:List Sexpr}:layT w (l++m) i=layT w l i++layT w m i:=by
 induction l with
 | nil=>simp [layT]
 | cons a r ih=>simp only [List.cons_append,layT,ih,List.append_assoc]
theorem Ygb {w i k:Nat} {l:List Sexpr} {x:Sexpr} (hx:l[k]?=some x):layT w (l.take (k+1)) i=layT w (l.take k) i++(10::(List.replicate i 32++lay w x i)):=by
 rw [List.take_add_one,hx];simp only [Option.toList];rw [Yg0];simp [layT]
def XSm (x:Sexpr):Prop:=(x.kind=1→x.text.size≤32)∧(x.kind=2→YcB x.value)
theorem Ycu {u k:Nat} (h:u<10 ^ (k+1)):(Lib.decDigits u).length≤k+1:=by
 induction k generalizing u with
 | zero=>rw [Lib.decDigits,dif_pos (by simpa using h)];simp
 | succ k ih=>
  by_cases h0:u<10
  ·rw [Lib.decDigits,dif_pos h0];simp
  ·have:=ih (u:=u / 10) (by rw [Nat.pow_succ] at h;omega)
   rw [Lib.decDigits,dif_neg h0,List.length_append]
   simp;omega
theorem itoa_len {n:Int} (h:YcB n):(Lib.itoa n).length≤14:=by
 unfold YcB at h
 have h1:∀ u:Nat,u≤1099511627776→(Lib.decDigits u).length≤13:=fun u hu=>Ycu (k:=12) Zi
 unfold Lib.itoa
 split
 ·have:=h1 n.natAbs Zi;simp;omega
 ·have:=h1 n.toNat Zi;omega
theorem join_len {l:List (List UInt8)}:(Lib.join l [32]).length≤(l.map fun t=>t.length+1).sum:=by
 cases l with
 | nil=>simp [Lib.join_nil]
 | cons x r=>
  rw [Lib.join_cons,List.length_append,Lib.joinTail_length]
  have:Lib.lens r+r.length=(r.map fun t=>t.length+1).sum:=by
   induction r with
   | nil=>simp [Lib.lens]
   | cons a r ih=>simp only [Lib.lens,List.map_cons,List.sum_cons,List.length_cons] at ih ⊢;omega
  simp only [List.map_cons,List.sum_cons,List.length_cons,List.length_nil] at this ⊢
  omega
mutual
theorem txt_len:∀ {x:Sexpr},XAll XSm x→(txt x).length+4≤36*xcount x
 | .mk k v l c t ks,h=>by
  rw [XAll] at h
  have hs:=txtL_len h.2
  rw [txt,xcount]
  have h1:=h.1
  unfold XSm at h1
  split
  ·rename_i hk
   have:=h1.1 hk
   have e:t.data.toList.length=t.size:=by rw [Array.length_toList];rfl
   simp only [Sexpr.text] at this
   omega
  ·split
   ·rename_i hk
    have:=itoa_len (h1.2 hk)
    simp only [Sexpr.value] at this
    omega
   ·have:=join_len (l:=txtL ks)
    simp only [List.length_cons,List.length_append,List.length_nil]
    omega
theorem txtL_len:∀ {l:List Sexpr},XAllL XSm l→((txtL l).map fun t=>t.length+1).sum≤36*xcountL l
 | [],_=>by simp [txtL]
 | x::r,h=>by
  rw [XAllL] at h
  have h1:=txt_len h.1
  have h2:=txtL_len h.2
  simp only [txtL,List.map_cons,List.sum_cons,xcountL]
  omega
end
mutual
theorem lay_len {w M:Nat}:∀ {x:Sexpr} {i:Nat},XAll XSm x→i+2*xdepth x≤M→(lay w x i).length+M+3≤(M+36)*xcount x
 | .mk k v l c t ks,i,h,hM=>by
  have ht:=txt_len h
  have hc:1≤xcount (.mk k v l c t ks):=by rw [xcount];omega
  have hmul:(M+36)*xcount (.mk k v l c t ks)=M*xcount (.mk k v l c t ks)+36*xcount (.mk k v l c t ks):=Nat.add_mul _ _ _
  have hM1:M*1≤M*xcount (.mk k v l c t ks):=Nat.mul_le_mul_left _ hc
  rw [lay]
  split
  ·omega
  ·rename_i hn
   have hk:k=3:=Classical.byContradiction fun h0=>hn (.inl h0)
   rw [XAll] at h
   rw [xdepth,if_pos hk] at hM
   have:=layH_len (w:=w) (M:=M) (l:=ks) (i:=i) h.2 Zi
   rw [xcount,Nat.mul_add,Nat.mul_one]
   simp only [List.length_cons,List.length_append,List.length_nil]
   omega
theorem layH_len {w M:Nat}:∀ {l:List Sexpr} {i:Nat},XAllL XSm l→i+2+2*xdepthL l≤M→(layH w l i).length≤(M+36)*xcountL l
 | [],_,_,_=>by simp [layH]
 | x::r,i,h,hM=>by
  rw [XAllL] at h
  rw [xdepthL] at hM
  have h1:=lay_len (w:=w) (M:=M) (i:=i+1) h.1 Zi
  have h2:=layT_len (w:=w) (M:=M) (l:=r) (i:=i+2) h.2 Zi
  rw [layH,List.length_append,xcountL,Nat.mul_add]
  omega
theorem layT_len {w M:Nat}:∀ {l:List Sexpr} {i:Nat},XAllL XSm l→i+2*xdepthL l≤M→(layT w l i).length≤(M+36)*xcountL l
 | [],_,_,_=>by simp [layT]
 | x::r,i,h,hM=>by
  rw [XAllL] at h
  rw [xdepthL] at hM
  have h1:=lay_len (w:=w) (M:=M) (i:=i) h.1 Zi
  have h2:=layT_len (w:=w) (M:=M) (l:=r) (i:=i) h.2 Zi
  rw [layT,xcountL,Nat.mul_add]
  simp only [List.length_cons,List.length_append,List.length_replicate]
  omega
end
theorem YfU (n:Nat):Lib.repeatL [32] n=List.replicate n 32:=by
 induction n with
 | zero=>rfl
 | succ n ih=>rw [Lib.repeatL,ih];rfl
theorem join_step {l:List (List UInt8)} {k:Nat} {y:List UInt8} (hx:l[k]?=some y):Lib.join (l.take (k+1)) [32]=if k=0 then y else Lib.join (l.take k) [32]++32::y:=by
 cases l with
 | nil=>simp at hx
 | cons a r=>
  cases k with
  | zero=>simp at hx;subst hx;simp [Lib.join_one]
  | succ k=>
   simp at hx
   rw [List.take_succ_cons,List.take_succ_cons,Lib.join_cons,Lib.join_cons,Lib.joinTail_take_succ _ _ _ _ hx]
   simp
end Go.Lx
namespace Go.Lx
open Go.RowKit
section
variable {P:Program}
theorem Yei (w:World) (t u ty e:TypeId) (i:TypeInfo) (ht:P.underlying t=some (.slice e)) (hu:P.underlying u=some .string) (hi:P.info? e=some i) (hz:i.zero=some (.int .u8 0))
 (hsize:i.size=1) (hby:i.bytes=1) (v:Value) (n:Nat) (xs:List Value) (hown:w.ownsRow 0 e 1 v n xs) (s:ByteArray) (hm:n+s.size≤140737488355328):
 ∃ v' w',(Builtin.append_ #[t,u] ty #[v,.string s]).run P w=.ok v' w'∧w'.ownsRow 0 e 1 v' (n+s.size) (xs++s.data.toList.map Yao)∧w.grownBy w' v.ownBlock∧(v'.ownBlock=v.ownBlock∨v'.ownBlock=some w.heap.size):=by
 obtain ⟨v',w',hr,h2,h3,h4⟩:=Go.Lib.run_append_own_string (P:=P) w 0 t u ty e i ht hu hi hz hsize hby v n xs hown s (by unfold maxLen;omega) hm (Nat.zero_le _)
 refine ⟨v',w',hr,h2,h3,?_⟩
 have hxl:xs.length=n:=by simpa using hown.1
 rcases hown.2 with ⟨h5,h6⟩ | ⟨g,cap,cur,h5,_,h7,h8,h9,h10,h11⟩
 ·subst h5 h6
  by_cases h0:s.size=0
  ·left;rw [h4.2 ⟨rfl,h0⟩]
  ·right
   have hr2:=run_append_nil_string (P:=P) w t u ty e i (.int .u8 0) ht hu hi hz s Zi Zi (by rw [hby];omega)
   rw [hr] at hr2
   injection hr2 with e1 _
   rw [e1];rfl
 ·subst h5
  by_cases hroom:n+s.size≤cap
  ·left
   have hr2:=Go.Lib.run_append_room_string (P:=P) w t u ty e i ht hu hi hsize g n cap cur h7 s hroom (by simp at h10;omega)
   rw [hr] at hr2
   injection hr2 with e1 _
   rw [e1];rfl
  ·right
   have hr2:=Go.Lib.run_append_grow_string (P:=P) w t u ty e i (.int .u8 0) ht hu hi hz ⟨g,0,none⟩ n cap xs (by rw [hsize];omega) (hown.cells (g:=g) rfl) s Zi Zi (by rw [hby];exact growslice_fits Zi Zi)
   rw [hr] at hr2
   injection hr2 with e1 _
   rw [e1];rfl
end
section
variable {P:Program} {cx:Cx} {r:Operand→Option Value} {fz:FZ} {H:HP} {V:Value→Prop} {dst:Option Nat} {ty:TypeId} {pos:String} {af:Array Edge} {gd:Option (Nat × Bool)}
theorem Yg2 (T:Tab P) {t u e:TypeId} {x y:Operand} {X U Y:Ty} {v:Value} {n:Nat} {xs:List Value} {s:ByteArray} {Hr Hs:HP} {K:Value→FZ→HP→Prop} (hT:T.inf t=some X) (hd:X.desc=.slice e) (hU:T.inf u=some U) (hUd:U.desc=.string) (hY:T.inf e=some Y) (hz:Y.zero=.int .u8 0) (hsz:Y.size=1) (hby:Y.bytes=1)
 (hx:r x=some v) (hy:r y=some (.string s)) (hp:H.Perm (Hr++Hs)) (ho:OwnS e 1 v n xs Hs) (hm:n+s.size≤140737488355328)
 (h:∀ v' Hs',OwnS e 1 v' (n+s.size) (xs++s.data.toList.map Yao) Hs'→K v' fz (Hr++Hs')):
 Does P cx ⟨dst,.call {callee:=.builtin .append,args:=#[x,y],argTypes:=#[t,u]},ty,pos,af,gd⟩ r fz H K:=by
 refine Does.of fun ρ w hr hi=>?_
 have hi':=hi.perm hp.symm
 obtain ⟨i,hinf,g1,g2,g3⟩:=(T.ok_ hY).info
 rw [hz] at g3
 rw [hsz] at g1
 rw [hby] at g2
 have hown:=ho.owns hi'
 obtain ⟨v',w',hrun,h2,h3,h5⟩:=Yei (P:=P) w t u ty e i (und_plain T hT hd rfl) (und_plain T hU hUd rfl) hinf g3 g1 g2 v n xs hown s hm
 obtain ⟨Hs',h6,h7⟩:=OwnS.of_owns h2
 have hexec:(execOp ρ ⟨dst,.call {callee:=.builtin .append,args:=#[x,y],argTypes:=#[t,u]},ty,pos,af,gd⟩).run P w=.ok (.value v') w':=by
  simp only [execOp,resolve,invoke,builtin,Sem.run_bind,Sem.run_pure,Result.andThen_ok,List.map_toArray,List.map_cons,List.map_nil,hr _ _ hx,hr _ _ hy,hrun]
 rw [hexec]
 exact ⟨fz,_,hi'.appended ho h3 h6 h7 h5,h v' Hs' h6⟩
theorem YfV {t:TypeId} {x:Operand} {a:Addr} {n c:Nat} (hx:r x=some (.slice (some a) n c)) (hc:c≠0) (h:V (.pointer (some a))):
 DoesQ P cx ⟨dst,.call {callee:=.builtin .unsafeSliceData,args:=#[x],argTypes:=#[t]},ty,pos,af,gd⟩ r fz H V:=
 Yy (fun ρ w hr=>by
  simp only [execOp,resolve,invoke,builtin,Sem.run_bind,Sem.run_pure,Result.andThen_ok,List.map_toArray,List.map_cons,List.map_nil,hr _ _ hx,Go.Lib.run_unsafeSliceData_row _ _ _ _ _ _ hc]) h
theorem Yem (T:Tab P) {pt it e:TypeId} {x y:Operand} {X:Ty} {pre post:HP} {g:Nat} {cur:List Value} {l:List UInt8} {K:Value→FZ→HP→Prop} (hT:T.inf pt=some X) (hd:X.desc=.pointer e) (hc:P.cellsOf e=1)
 (hx:r x=some (.pointer (some ⟨g,0,none⟩))) (hy:r y=some (.int .i64 l.length)) (hH:H=pre++(g,.cells cur.toArray e (0,0))::post) (h0:l≠ []) (hl:l.length≤cur.length) (h63:l.length≤140737488355328) (hcur:cur.take l.length=l.map Yao)
 (h:K (.string (strOf l)) fz (pre++(g,.cells cur.toArray e (0,l.length))::post)):
 Does P cx ⟨dst,.call {callee:=.builtin .unsafeString,args:=#[x,y],argTypes:=#[pt,it]},ty,pos,af,gd⟩ r fz H K:=by
 refine Does.of fun ρ w hr hw=>?_
 subst hH
 have hb:=(hw.hp.own (g,.cells cur.toArray e (0,0)) (by simp)).1
 have hcell:∀ j x,l[j]?=some x→w.cell? ((⟨g,0,none⟩:Addr).add j)=some (.int .u8 x.toNat):=by
  intro j b hb2
  have hadd:(⟨g,0,none⟩:Addr).add j=⟨g,j,none⟩:=by unfold Addr.add;split<;>simp_all
  have hj:j<l.length:=(List.getElem?_eq_some_iff.1 hb2).1
  have h1:(cur.take l.length)[j]?=some (Yao b):=by rw [hcur,List.getElem?_map,hb2];rfl
  rw [List.getElem?_take,if_pos hj] at h1
  rw [hadd]
  simp only [World.cell?,hb]
  simpa [Yao] using h1
 have hrun:=Go.Lib.run_unsafeString_row (P:=P) w pt it ty e (und_plain T hT hd rfl) hc g cur.length (by simp [World.shape?,hb]) l h0 hl Zi hcell
 have hexec:(execOp ρ ⟨dst,.call {callee:=.builtin .unsafeString,args:=#[x,y],argTypes:=#[pt,it]},ty,pos,af,gd⟩).run P w=.ok (.value (.string (strOf l))) (w.freeze ⟨g,0,none⟩ l.length):=by
  simp only [execOp,resolve,invoke,builtin,Sem.run_bind,Sem.run_pure,Result.andThen_ok,List.map_toArray,List.map_cons,List.map_nil,hr _ _ hx,hr _ _ hy,hrun]
  rfl
 rw [hexec]
 have hl0:l.length≠0:=by simpa using h0
 refine ⟨fz,_,hw.write (o':=.cells cur.toArray e (0,l.length)) (by simp [World.freeze,hl0]) (by simp [World.freeze,hl0]) (by simp [World.freeze,hl0]) (by simp [World.freeze,hl0]) ?_ (fun k hk=>?_),h⟩
 ·simp [World.freeze,hl0,Array.getElem?_modify,hb]
 ·simp only [World.freeze,if_neg hl0,Array.getElem?_modify]
  rw [if_neg Zi]
theorem q_addS {t t':TypeId} {x y:Operand} {a b:ByteArray} (hx:r x=some (.string a)) (hy:r y=some (.string b)) (hs:a.size+b.size≤9223372036854775807) (h:V (.string (a++b))):
 DoesQ P cx ⟨dst,.binOp .add t x y t',ty,pos,af,gd⟩ r fz H V:=
 Yy (fun ρ w hr=>by
  have:¬(9223372036854775807<((a.size:Int)+(b.size:Int))):=by omega
  simp [execOp,hr _ _ hx,hr _ _ hy,eqGuard_at_string,binOp,Op.stringOp,this]) h
theorem WA {t t':TypeId} {x y:Operand} {a b:List UInt8} (hx:r x=some (.string (strOf a))) (hy:r y=some (.string (strOf b))) (hs:a.length+b.length≤9223372036854775807) (h:V (.string (strOf (a++b)))):
 DoesQ P cx ⟨dst,.binOp .add t x y t',ty,pos,af,gd⟩ r fz H V:=
 q_addS hx hy (by rw [Wt,Wt];exact hs) (by rw [YfL];exact h)
theorem YfX (T:Tab P) {α:Type} {L:Lay α} {t e:TypeId} {x i:Operand} {X Y:Ty} {A:Option Addr} {n c:Nat} {k:IntKind} {j:Nat} {xs:List α} (hT:T.inf t=some X) (hd:X.desc=.slice e) (hY:T.inf e=some Y) (hz:Y.size=L.size)
 (hx:r x=some (.slice A n c)) (hi:r i=some (.int k j)) (hs:Sl L fz A n c xs) (hj:j≤n) (h:∀ A',Sl L fz A' (n - j) (c - j) (xs.drop j)→V (.slice A' (n - j) (c - j))):DoesQ P cx ⟨dst,.slice t x (some i) none none,ty,pos,af,gd⟩ r fz H V:=by
 have h1:=hs.cap
 have h2:=hs.max
 have h3:=hs.short
 have h4:=hs.len
 refine Yy (v:=.slice (if c=j then A else A.map (·.add (j*Y.size))) (n - j) (c - j)) (fun ρ w hr=>by
  have hu:=run_underlying (und_plain T hT hd rfl) w
  have hs:=Lx.run_sizeOf T hY w
  simp [execOp,hr _ _ hx,hr _ _ hi,Instr.sliceAt,Instr.slice,Instr.sliceBounds,Instr.sliceBound,asIntOf,hu,hs,hj]
  try omega) (h _ ?_)
 refine ⟨by rw [List.length_drop,h4],by omega,by omega,by omega,?_⟩
 rcases hs.elem with h0 | ⟨ad,h5,h6⟩
 ·exact .inl Zi
 ·by_cases hn:n - j=0
  ·exact .inl hn
  ·refine .inr ⟨ad.add (j*L.size),?_,fun i d hd=>?_⟩
   ·rw [if_neg Zi,h5,hz];rfl
   ·rw [List.getElem?_drop] at hd
    have:=h6 (j+i) d hd
    have e:(ad.add (j*L.size)).add (i*L.size)=ad.add ((j+i)*L.size):=by
     rw [Nat.add_mul]
     unfold Addr.add
     by_cases h7:j*L.size=0
     ·rw [h7];simp
     ·by_cases h8:i*L.size=0
      ·rw [h8];simp
      ·simp [h7,h8,Nat.add_assoc]
    rw [e];exact this
theorem q_min {x y:Operand} {ats:Array TypeId} {k:IntKind} {a b:Int} (hx:r x=some (.int k a)) (hy:r y=some (.int k b)) (h:V (.int k (min a b))):
 DoesQ P cx ⟨dst,.call {callee:=.builtin .min,args:=#[x,y],argTypes:=ats},ty,pos,af,gd⟩ r fz H V:=
 Yy (fun ρ w hr=>by
  have:(if b<a then b else a)=min a b:=by omega
  simp [execOp,resolve,invoke,builtin,hr _ _ hx,hr _ _ hy,Builtin.min_,Builtin.min2,this]) h
theorem q_neg {x:Operand} {t:TypeId} {k:IntKind} {a c:Int} (hx:r x=some (.int k a)) (hw:k.wrap (0 - a)=c) (h:V (.int k c)):DoesQ P cx ⟨dst,.unOp .neg t x,ty,pos,af,gd⟩ r fz H V:=
 Yy (fun ρ w hr=>by simp [execOp,hr _ _ hx,Op.unary,Op.intArith] at hw ⊢;exact hw) h
theorem q_remN {x y:Operand} {t t':TypeId} {a b:Nat} (hx:r x=some (.int .i64 a)) (hy:r y=some (.int .i64 b)) (hb:0<b) (h:V (.int .i64 (a % b:Nat))):DoesQ P cx ⟨dst,.binOp .rem t x y t',ty,pos,af,gd⟩ r fz H V:=
 Yy (fun ρ w hr=>by
  have h0:¬(b:Int)=0:=by omega
  have h1:(a:Int).tmod b=((a % b:Nat):Int):=(Int.ofNat_tmod a b).symm
  have h2:(eqGuard .rem t x y (.int .i64 a) (.int .i64 b)).run P w=.ok () w:=by simp [eqGuard]
  have h3:binOp .rem t (.int .i64 a) (.int .i64 b)=Op.intDiv .rem .i64 a b:=by simp [binOp]
  rw [← h1]
  simp [execOp,hr _ _ hx,hr _ _ hy,h2,h3,Op.intDiv]
  omega) h
theorem q_quoN {x y:Operand} {t t':TypeId} {a b:Nat} (hx:r x=some (.int .i64 a)) (hy:r y=some (.int .i64 b)) (hb:0<b) (ha:a≤9223372036854775807) (h:V (.int .i64 (a / b:Nat))):DoesQ P cx ⟨dst,.binOp .quo t x y t',ty,pos,af,gd⟩ r fz H V:=
 Yy (fun ρ w hr=>by
  have h0:¬(b:Int)=0:=by omega
  have h1:(a:Int).tdiv b=((a / b:Nat):Int):=(Int.ofNat_tdiv a b).symm
  have h2:(eqGuard .quo t x y (.int .i64 a) (.int .i64 b)).run P w=.ok () w:=by simp [eqGuard]
  have h3:binOp .quo t (.int .i64 a) (.int .i64 b)=Op.intDiv .quo .i64 a b:=by simp [binOp]
  have h4:a / b≤a:=Nat.div_le_self a b
  have h5:IntKind.i64.wrap ((a:Int).tdiv b)=((a / b:Nat):Int):=by rw [h1];generalize a / b=q at h4;exact Xl Zi
  simp only [execOp,hr _ _ hx,hr _ _ hy,h2,h3,Op.intDiv,Sem.run_bind,Result.andThen_ok,if_neg h0,h5,Sem.run_pure]) h
theorem YfW (T:Tab P) {src dt e:TypeId} {x:Operand} {X Y Z:Ty} {t':TypeId} {g n c:Nat} {cs:List Value} {f:Nat × Nat} {bs:List UInt8} (i:Nat) (hX:T.inf src=some X) (hXd:X.desc=.slice e) (hY:T.inf dt=some Y) (hYd:Y.desc=.string) (hZ:T.inf e=some Z) (hZd:Z.desc=.int .u8)
 (hx:r x=some (.slice (some ⟨g,0,none⟩) n c)) (hi:H[i]?=some (g,.cells cs.toArray t' f)) (hcs:cs.take n=bs.map Yao) (hn:bs.length=n) (h:V (.string (strOf bs))):DoesQ P cx ⟨dst,.convert src dt x,ty,pos,af,gd⟩ r fz H V:=by
 refine DoesQ.of h fun ρ w hr hw=>?_
 have hcell:∀ j,j<n→w.cell? ⟨g,0+j,none⟩=some (.int .u8 ((bs.map fun b=>(b.toNat:Int)).getD j 0)):=fun j hj=>by
  have hj':j<bs.length:=by omega
  rw [Nat.zero_add,hw.cellOwn hi j]
  have h1:(cs.take n)[j]?=some (Yao bs[j]):=by rw [hcs,List.getElem?_map,List.getElem?_eq_getElem hj'];rfl
  rw [List.getElem?_take,if_pos hj] at h1
  simp only [List.getElem?_toArray,h1,Yao]
  simp [List.getD,hj']
 have hrun:=run_convert_bytes_arg (P:=P) w src e (und_plain T hX hXd rfl) (und_plain T hZ hZd rfl) g 0 n c (bs.map fun b=>(b.toNat:Int)) (by simpa using hn) hcell dt (und_plain T hY hYd rfl)
 have hs:strOfNums (bs.map fun b=>(b.toNat:Int))=strOf bs:=by simp [strOfNums,Function.comp_def,strOf]
 rw [hs] at hrun
 have:(execOp ρ ⟨dst,.convert src dt x,ty,pos,af,gd⟩).run P w=.ok (.value (.string (strOf bs))) w:=by
  simp only [execOp,hr _ _ hx,Sem.run_bind,hrun,Result.andThen_ok,Sem.run_pure]
 rw [this]
 exact ⟨rfl,Fr.refl _ _⟩
end
end Go.Lx
