/- The texts PWalkW, PRefQ, laid together. Conditions: none. -/
import Derived.Test.YtbhlgkibgajajaaGreatDoorQPK
import Derived.Test.YtbhlgkibgajajaaGreatDoorQPH
import Derived.Test.YtbhlgkibgajajaaGreatDoorQPI
import Derived.Test.YtbhlgkibgajajaaGreatDoorQPB
import Derived.Test.YtbhlgkibgajajaaGreatDoorQPC
import Derived.Test.YtbhlgkibgajajaaGreatDoorQPD
import Derived.Test.YtbhlgkibgajajaaGreatDoorQPF
import Derived.Test.YtbhlgkibgajajaaGreatDoorQPE
import Derived.Test.YtbhlgkibgajajaaGreatDoorQPG
import Derived.Test.YtbhlgkibgajajaaGreatDoorQPJ
import Derived.Test.YtbhlgkibgajajaaGreatDoorQPN
import Derived.Test.YtbhlgkibgajajaaGreatDoorQPL
import Derived.Test.YtbhlgkibgajajaaGreatDoorQPM
set_option maxRecDepth 20000
namespace Go.Proofs.YtbhlgkibgajajaaGreatDoor
open Go.Lx Go.RowKit
attribute [local instance 10] Classical.propDecidable
def YW:ByteArray:=⟨#[112,114,111,98,108,101,109]⟩
def YE:ByteArray:=⟨#[58,100,111,109,97,105,110]⟩
def Xa:ByteArray:=⟨#[58,111,98,106,101,99,116,115]⟩
def YaQ:ByteArray:=⟨#[58,105,110,105,116]⟩
def Yac:ByteArray:=⟨#[58,103,111,97,108]⟩
def Xs (a:Atom):Sexpr:=Xj a.name a.args
def valX (v:Value_):Sexpr:=Yv [Yd kEq,Xs v.fluent,numE v.n]
noncomputable def YdZ (f:Formula):List Sexpr:=if f.op=kAnd∧f.kids=[] then [] else [Yv [Yd Yac,YN f]]
noncomputable def prbX (p:Problem):Sexpr:=Yv ([Yd YL,Yv [Yd YW,Yd p.name],Yv [Yd YE,Yd p.domain]]++grp Xa (XV p.objects)++grp YaQ (p.init.map Xs++p.values.map valX)++YdZ p.goal)
structure PrbSm (p:Problem):Prop where
 objects:p.objects.length≤1000000000
 init:p.init.length≤1000000000
 inits:∀ a∈p.init,a.args.length≤1000000000
 values:p.values.length≤1000000000
 vals:∀ v∈p.values,v.fluent.args.length≤1000000000
 goal:FSm p.goal
def glO (x:Sexpr) (vk:Value):Obj:=.cells #[.int .i64 x.kind,.int .i64 x.value,.int .i64 x.line,.int .i64 x.column,.string x.text,vk] 64 (0,0)
theorem YaD {fz:FZ} {a b:ByteArray} {gb gc:Nat} (ha:Short a) (hb:Short b)
 (h1:fz gb=some (.cells (Ym YW++Ym a).toArray 64 (0,0)))
 (h2:fz gc=some (.cells (Ym YE++Ym b).toArray 64 (0,0))):
 ∀ p∈ [(Yd YL,Ym YL),(Yv [Yd YW,Yd a],[.int .i64 3,.int .i64 0,.int .i64 0,.int .i64 0,.string ⟨#[]⟩,.slice (some ⟨gb,0,none⟩) 2 2]),(Yv [Yd YE,Yd b],[.int .i64 3,.int .i64 0,.int .i64 0,.int .i64 0,.string ⟨#[]⟩,.slice (some ⟨gc,0,none⟩) 2 2])],YF.rep fz p.1 p.2:=by
 intro p hp
 simp only [List.mem_cons,List.not_mem_nil,or_false] at hp
 rcases hp with rfl | rfl | rfl
 ·exact Yq (YK Zh)
 ·exact Yg (XM (Xt (ys:=[(Yd YW,Ym YW),(Yd a,Ym a)]) h1 rfl rfl (by intro p hp;simp only [List.mem_cons,List.not_mem_nil,or_false] at hp;rcases hp with rfl | rfl;exact Yq (YK Zh);exact Yq ha) rfl Zh))
 ·exact Yg (XM (Xt (ys:=[(Yd YE,Ym YE),(Yd b,Ym b)]) h2 rfl rfl (by intro p hp;simp only [List.mem_cons,List.not_mem_nil,or_false] at hp;rcases hp with rfl | rfl;exact Yq (YK Zh);exact Yq hb) rfl Zh))
set_option maxHeartbeats 8000000 in
theorem pWrite_q {fz:FZ} {p:Problem} {v1 v2 v3 v4 v5 v6 v7:Value} (h:ProblemR fz p v1 v2 v3 v4 v5 v6 v7) (hs:PrbSm p):
 GFn Tryz.prog 21 [.agg #[.string p.name,.string p.domain,v1,v2,v3,.string p.goal.op,.string p.goal.name,v4,v5,v6,v7]] fz [] (WrR (FVal p.goal∧Ydk p∧XVal (prbX p)) (prbX p)):=by
 obtain ⟨A1,n1,b1,rfl,io⟩:=h.objects
 obtain ⟨A2,n2,b2,rfl,ii⟩:=h.init
 obtain ⟨A3,n3,b3,rfl,iv⟩:=h.values
 obtain ⟨A4,n4,b4,rfl,_⟩:=h.goal.args
 obtain ⟨A5,n5,b5,rfl,_⟩:=h.goal.params
 obtain ⟨A6,n6,b6,rfl,_⟩:=h.goal.exprs
 obtain ⟨A7,n7,b7,rfl,i7⟩:=h.goal.kids
 have lo:=io.len
 have li:=ii.len
 have lv:=iv.len
 have mo:=hs.objects
 have mi:=hs.init
 have mv:=hs.values
 (refine GFn.of_wp Tryz.func21 rfl Tryz.ntmps21 rfl rfl (fun w0=>?_))
 (refine Yr (Yp (Yb Zz (Xi _ Zz Zz (fun g1=>?_)))))
 ((repeat (first | refine zSO ?_ | refine zA fun _=>?_)))
 rename_i g2
 ((repeat (first | refine zS ?_ | refine zA fun _=>?_)))
 (((refine zG ?_));refine YJ (vs:=[.string p.goal.op,.string p.goal.name,.slice A4 n4 b4,.slice A5 n5 b5,.slice A6 n6 b6,.slice A7 n7 b7]) T 1 Zz Zz Zz Zz Zz Zz ?_)
 (refine Yb Zz (YB [] _ Zz Zz Zz (YhU h.goal hs.goal) (fun v8 fz8 H8 hle8 hR8=>?_)))
 obtain ⟨rfl,u,y,rfl,⟨cs,rfl,hr⟩,hyx⟩:=hR8
 obtain ⟨vk6,rfl,hX⟩:=Yt hr
 obtain ⟨A8,n8,b8,rfl,i8⟩:=hX.kids
 by_cases hP:FVal p.goal
 ·obtain rfl:=hyx hP
  rw [if_pos hP]
  ((repeat (first | refine zS ?_ | refine zA fun _=>?_)))
  rename_i g4
  (((refine zG ?_));refine Yz Zz Zz (Yfp (h.mono hle8)) (fun f1=>?_) (fun f1=>?_))
  ·have hE:=of_decide_eq_true f1
   ((repeat (first | refine zSX ?_ | refine zA fun _=>?_)))
   refine Yr (Wp.mid (fun σ fz' H'=>∃ (g6:Nat) (v:Value) (Hs:HP),σ=[(6,.pointer (some ⟨g6,0,none⟩)),(4,.pointer (some ⟨g4,0,none⟩)),(2,.pointer (some ⟨g2,0,none⟩)),(1,.pointer (some ⟨g1,0,none⟩))]∧Le fz8 fz'∧H'=(g6,lsO v)::(g1,.cells #[.string p.name,.string p.domain,.slice A1 n1 b1,.slice A2 n2 b2,.slice A3 n3 b3,.string p.goal.op,.string p.goal.name,.slice A4 n4 b4,.slice A5 n5 b5,.slice A6 n6 b6,.slice A7 n7 b7] 38 (0,0))::(g2,.cells #[.int .i64 0,.int .i64 0,.int .i64 0,.int .i64 0,.string ⟨#[]⟩,.slice none 0 0] 64 (0,0))::(g4,glO (YN p.goal) (.slice A8 n8 b8))::Hs∧Grow YF 64 fz' v 3 Hs [Yd YL,Yv [Yd YW,Yd p.name],Yv [Yd YE,Yd p.domain]]) ?_ ?_)
   ·have hnm:=h.name
    have hdm:=h.domain
    (refine Wp.drawP [] (Hq:=[(g1,_)]) T.mixed Zj Zj (Zb) ?_)
    ((repeat (first | refine zS ?_ | refine zA fun _=>?_)))
    (((refine zG ?_));refine Yj Zz Zz (Wo (s:=YL)) ?_)
    ((repeat (first | refine zS ?_ | refine zA fun _=>?_)))
    (((refine zG ?_));refine Yj Zz Zz (Wo (s:=YW)) ?_)
    ((repeat (first | refine zS ?_ | refine zA fun _=>?_)))
    (((refine zG ?_));refine Yj Zz Zz (Wo (s:=p.name)) ?_)
    ((repeat (first | refine zS ?_ | refine zA fun _=>?_)))
    (refine Yl ?_)
    (refine Yl ?_)
    (refine Yl ?_)
    ((repeat (first | refine zS ?_ | refine zA fun _=>?_)))
    (((refine zG ?_));refine Yj Zz Zz (Wo (s:=p.domain)) ?_)
    unfold sxV
    (refine Yl ?_)
    (refine Yl ?_)
    (refine Yl ?_)
    (refine Yl ?_)
    (refine Yl ?_)
    (refine Yl ?_)
    (refine PK.done ⟨by kernel_rfl,?_⟩)
    (refine YV Zz Zz Zz ?_ ?_)
    ·refine Yh (Yc T (cs:=Ym YW++Ym p.name) Zz Zz Zz Zz Zz Zz Zz Zz (fun gb=>⟨(⟨(Le.refl _),Zx⟩),?_⟩))
     (refine YV Zz Zz Zz ?_ ?_)
     ·refine PoS.qk (⟨(Le.refl _),Zx⟩) (Yj Zz Zz Xu ?_)
      unfold sxV
      (refine YV Zz Zz Zz ?_ ?_)
      ·refine PoS.qk (⟨(Le.refl _),Zx⟩) (Yj Zz Zz (Wo (s:=YE)) ?_)
       unfold sxV
       (refine YV Zz Zz Zz ?_ ?_)
       ·refine Yh (Yc T (cs:=Ym YE++Ym p.domain) Zz Zz Zz Zz Zz Zz Zz Zz (fun gc=>⟨(⟨(Le.refl _),Zx⟩),?_⟩))
        (refine YV Zz Zz Zz ?_ ?_)
        ·refine PoS.qk (⟨(Le.refl _),Zx⟩) (Yj Zz Zz Xu ?_)
         unfold sxV
         (refine YV Zz Zz Zz ?_ ?_)
         ·refine Yh (Yc T (cs:=Ym YL++([.int .i64 3,.int .i64 0,.int .i64 0,.int .i64 0,.string ⟨#[]⟩,.slice (some ⟨gb,0,none⟩) 2 2]++ [.int .i64 3,.int .i64 0,.int .i64 0,.int .i64 0,.string ⟨#[]⟩,.slice (some ⟨gc,0,none⟩) 2 2])) Zz Zz Zz Zz Zz Zz Zz Zz (fun gd=>⟨(⟨(Le.refl _),Zx⟩),?_⟩))
          (refine YV Zz Zz Zz ?_ ?_)
          ·refine PoS.qk (⟨(Le.refl _),Zx⟩) (Yj Zz Zz Xu ?_)
           unfold sxV
           (refine Yf Zz Zz ?_)
           refine Yh (Xz T Zz Zz (fun g6=>⟨(⟨(Le.refl _),Zx⟩),?_⟩))
           (refine Yf Zz Zz ?_)
           refine PoS.hard0 Zj (Does.perm (Xm [0,6,5,4,1,2,3] Zz Zz) (Y1 T Zz Zz Zz Zz Zz Zz ?_))
           refine Po.done ?_
           ((repeat (first | refine zS ?_ | refine zA fun _=>?_)))
           refine midF (H':=[(g6,_),(g1,_),(g2,_),(g4,_),(gd,_)]) (H2:=[(gb,_),(gc,_)]) (Xm [0,1,2,3,4,6,5] Zz Zz) (fun fz3 hl3 hf3=>⟨g6,_,[(gd,_)],rfl,hl3,rfl,Grow.block (m:=3) (ys:=[(Yd YL,Ym YL),(Yv [Yd YW,Yd p.name],[.int .i64 3,.int .i64 0,.int .i64 0,.int .i64 0,.string ⟨#[]⟩,.slice (some ⟨gb,0,none⟩) 2 2]),(Yv [Yd YE,Yd p.domain],[.int .i64 3,.int .i64 0,.int .i64 0,.int .i64 0,.string ⟨#[]⟩,.slice (some ⟨gc,0,none⟩) 2 2])]) rfl rfl ?_ rfl Zh⟩) (Zw)
           exact YaD hnm hdm (hf3 _ (.head _)) (hf3 _ (.tail _ (.head _)))
          ·refine Yh (Xz T Zz Zz (fun g6=>⟨(⟨(Le.refl _),Zx⟩),?_⟩))
           (refine Yf Zz Zz ?_)
           refine PoS.qk (⟨(Le.refl _),Zx⟩) (Yj Zz Zz Xu ?_)
           unfold sxV
           (refine Yf Zz Zz ?_)
           refine PoS.hard0 Zj (Does.perm (Xm [0,6,5,4,1,2,3] Zz Zz) (Y1 T Zz Zz Zz Zz Zz Zz ?_))
           refine Po.done ?_
           ((repeat (first | refine zS ?_ | refine zA fun _=>?_)))
           refine midF (H':=[(g6,_),(g1,_),(g2,_),(g4,_),(gd,_)]) (H2:=[(gb,_),(gc,_)]) (Xm [0,1,2,3,4,6,5] Zz Zz) (fun fz3 hl3 hf3=>⟨g6,_,[(gd,_)],rfl,hl3,rfl,Grow.block (m:=3) (ys:=[(Yd YL,Ym YL),(Yv [Yd YW,Yd p.name],[.int .i64 3,.int .i64 0,.int .i64 0,.int .i64 0,.string ⟨#[]⟩,.slice (some ⟨gb,0,none⟩) 2 2]),(Yv [Yd YE,Yd p.domain],[.int .i64 3,.int .i64 0,.int .i64 0,.int .i64 0,.string ⟨#[]⟩,.slice (some ⟨gc,0,none⟩) 2 2])]) rfl rfl ?_ rfl Zh⟩) (Zw)
           exact YaD hnm hdm (hf3 _ (.head _)) (hf3 _ (.tail _ (.head _)))
         ·refine Yh (Xz T Zz Zz (fun g6=>⟨(⟨(Le.refl _),Zx⟩),?_⟩))
          (refine Yf Zz Zz ?_)
          refine Yh (Yc T (cs:=Ym YL++([.int .i64 3,.int .i64 0,.int .i64 0,.int .i64 0,.string ⟨#[]⟩,.slice (some ⟨gb,0,none⟩) 2 2]++ [.int .i64 3,.int .i64 0,.int .i64 0,.int .i64 0,.string ⟨#[]⟩,.slice (some ⟨gc,0,none⟩) 2 2])) Zz Zz Zz Zz Zz Zz Zz Zz (fun gd=>⟨(⟨(Le.refl _),Zx⟩),?_⟩))
          (refine Yf Zz Zz ?_)
          refine PoS.qk (⟨(Le.refl _),Zx⟩) (Yj Zz Zz Xu ?_)
          unfold sxV
          (refine Yf Zz Zz ?_)
          refine PoS.hard0 Zj (Does.perm (Xm [1,6,5,4,0,2,3] Zz Zz) (Y1 T Zz Zz Zz Zz Zz Zz ?_))
          refine Po.done ?_
          ((repeat (first | refine zS ?_ | refine zA fun _=>?_)))
          refine midF (H':=[(g6,_),(g1,_),(g2,_),(g4,_),(gd,_)]) (H2:=[(gb,_),(gc,_)]) (Xm [0,1,2,3,4,6,5] Zz Zz) (fun fz3 hl3 hf3=>⟨g6,_,[(gd,_)],rfl,hl3,rfl,Grow.block (m:=3) (ys:=[(Yd YL,Ym YL),(Yv [Yd YW,Yd p.name],[.int .i64 3,.int .i64 0,.int .i64 0,.int .i64 0,.string ⟨#[]⟩,.slice (some ⟨gb,0,none⟩) 2 2]),(Yv [Yd YE,Yd p.domain],[.int .i64 3,.int .i64 0,.int .i64 0,.int .i64 0,.string ⟨#[]⟩,.slice (some ⟨gc,0,none⟩) 2 2])]) rfl rfl ?_ rfl Zh⟩) (Zw)
          exact YaD hnm hdm (hf3 _ (.head _)) (hf3 _ (.tail _ (.head _)))
        ·refine Yh (Xz T Zz Zz (fun g6=>⟨(⟨(Le.refl _),Zx⟩),?_⟩))
         (refine Yf Zz Zz ?_)
         refine PoS.qk (⟨(Le.refl _),Zx⟩) (Yj Zz Zz Xu ?_)
         unfold sxV
         (refine Yf Zz Zz ?_)
         refine Yh (Yc T (cs:=Ym YL++([.int .i64 3,.int .i64 0,.int .i64 0,.int .i64 0,.string ⟨#[]⟩,.slice (some ⟨gb,0,none⟩) 2 2]++ [.int .i64 3,.int .i64 0,.int .i64 0,.int .i64 0,.string ⟨#[]⟩,.slice (some ⟨gc,0,none⟩) 2 2])) Zz Zz Zz Zz Zz Zz Zz Zz (fun gd=>⟨(⟨(Le.refl _),Zx⟩),?_⟩))
         (refine Yf Zz Zz ?_)
         refine PoS.qk (⟨(Le.refl _),Zx⟩) (Yj Zz Zz Xu ?_)
         unfold sxV
         (refine Yf Zz Zz ?_)
         refine PoS.hard0 Zj (Does.perm (Xm [1,6,5,4,0,2,3] Zz Zz) (Y1 T Zz Zz Zz Zz Zz Zz ?_))
         refine Po.done ?_
         ((repeat (first | refine zS ?_ | refine zA fun _=>?_)))
         refine midF (H':=[(g6,_),(g1,_),(g2,_),(g4,_),(gd,_)]) (H2:=[(gb,_),(gc,_)]) (Xm [0,1,2,3,4,6,5] Zz Zz) (fun fz3 hl3 hf3=>⟨g6,_,[(gd,_)],rfl,hl3,rfl,Grow.block (m:=3) (ys:=[(Yd YL,Ym YL),(Yv [Yd YW,Yd p.name],[.int .i64 3,.int .i64 0,.int .i64 0,.int .i64 0,.string ⟨#[]⟩,.slice (some ⟨gb,0,none⟩) 2 2]),(Yv [Yd YE,Yd p.domain],[.int .i64 3,.int .i64 0,.int .i64 0,.int .i64 0,.string ⟨#[]⟩,.slice (some ⟨gc,0,none⟩) 2 2])]) rfl rfl ?_ rfl Zh⟩) (Zw)
         exact YaD hnm hdm (hf3 _ (.head _)) (hf3 _ (.tail _ (.head _)))
       ·refine Yh (Xz T Zz Zz (fun g6=>⟨(⟨(Le.refl _),Zx⟩),?_⟩))
        (refine Yf Zz Zz ?_)
        refine Yh (Yc T (cs:=Ym YE++Ym p.domain) Zz Zz Zz Zz Zz Zz Zz Zz (fun gc=>⟨(⟨(Le.refl _),Zx⟩),?_⟩))
        (refine Yf Zz Zz ?_)
        refine PoS.qk (⟨(Le.refl _),Zx⟩) (Yj Zz Zz Xu ?_)
        unfold sxV
        (refine Yf Zz Zz ?_)
        refine Yh (Yc T (cs:=Ym YL++([.int .i64 3,.int .i64 0,.int .i64 0,.int .i64 0,.string ⟨#[]⟩,.slice (some ⟨gb,0,none⟩) 2 2]++ [.int .i64 3,.int .i64 0,.int .i64 0,.int .i64 0,.string ⟨#[]⟩,.slice (some ⟨gc,0,none⟩) 2 2])) Zz Zz Zz Zz Zz Zz Zz Zz (fun gd=>⟨(⟨(Le.refl _),Zx⟩),?_⟩))
        (refine Yf Zz Zz ?_)
        refine PoS.qk (⟨(Le.refl _),Zx⟩) (Yj Zz Zz Xu ?_)
        unfold sxV
        (refine Yf Zz Zz ?_)
        refine PoS.hard0 Zj (Does.perm (Xm [2,6,5,4,0,1,3] Zz Zz) (Y1 T Zz Zz Zz Zz Zz Zz ?_))
        refine Po.done ?_
        ((repeat (first | refine zS ?_ | refine zA fun _=>?_)))
        refine midF (H':=[(g6,_),(g1,_),(g2,_),(g4,_),(gd,_)]) (H2:=[(gb,_),(gc,_)]) (Xm [0,1,2,3,4,6,5] Zz Zz) (fun fz3 hl3 hf3=>⟨g6,_,[(gd,_)],rfl,hl3,rfl,Grow.block (m:=3) (ys:=[(Yd YL,Ym YL),(Yv [Yd YW,Yd p.name],[.int .i64 3,.int .i64 0,.int .i64 0,.int .i64 0,.string ⟨#[]⟩,.slice (some ⟨gb,0,none⟩) 2 2]),(Yv [Yd YE,Yd p.domain],[.int .i64 3,.int .i64 0,.int .i64 0,.int .i64 0,.string ⟨#[]⟩,.slice (some ⟨gc,0,none⟩) 2 2])]) rfl rfl ?_ rfl Zh⟩) (Zw)
        exact YaD hnm hdm (hf3 _ (.head _)) (hf3 _ (.tail _ (.head _)))
      ·refine Yh (Xz T Zz Zz (fun g6=>⟨(⟨(Le.refl _),Zx⟩),?_⟩))
       (refine Yf Zz Zz ?_)
       refine PoS.qk (⟨(Le.refl _),Zx⟩) (Yj Zz Zz (Wo (s:=YE)) ?_)
       unfold sxV
       (refine Yf Zz Zz ?_)
       refine Yh (Yc T (cs:=Ym YE++Ym p.domain) Zz Zz Zz Zz Zz Zz Zz Zz (fun gc=>⟨(⟨(Le.refl _),Zx⟩),?_⟩))
       (refine Yf Zz Zz ?_)
       refine PoS.qk (⟨(Le.refl _),Zx⟩) (Yj Zz Zz Xu ?_)
       unfold sxV
       (refine Yf Zz Zz ?_)
       refine Yh (Yc T (cs:=Ym YL++([.int .i64 3,.int .i64 0,.int .i64 0,.int .i64 0,.string ⟨#[]⟩,.slice (some ⟨gb,0,none⟩) 2 2]++ [.int .i64 3,.int .i64 0,.int .i64 0,.int .i64 0,.string ⟨#[]⟩,.slice (some ⟨gc,0,none⟩) 2 2])) Zz Zz Zz Zz Zz Zz Zz Zz (fun gd=>⟨(⟨(Le.refl _),Zx⟩),?_⟩))
       (refine Yf Zz Zz ?_)
       refine PoS.qk (⟨(Le.refl _),Zx⟩) (Yj Zz Zz Xu ?_)
       unfold sxV
       (refine Yf Zz Zz ?_)
       refine PoS.hard0 Zj (Does.perm (Xm [2,6,5,4,0,1,3] Zz Zz) (Y1 T Zz Zz Zz Zz Zz Zz ?_))
       refine Po.done ?_
       ((repeat (first | refine zS ?_ | refine zA fun _=>?_)))
       refine midF (H':=[(g6,_),(g1,_),(g2,_),(g4,_),(gd,_)]) (H2:=[(gb,_),(gc,_)]) (Xm [0,1,2,3,4,6,5] Zz Zz) (fun fz3 hl3 hf3=>⟨g6,_,[(gd,_)],rfl,hl3,rfl,Grow.block (m:=3) (ys:=[(Yd YL,Ym YL),(Yv [Yd YW,Yd p.name],[.int .i64 3,.int .i64 0,.int .i64 0,.int .i64 0,.string ⟨#[]⟩,.slice (some ⟨gb,0,none⟩) 2 2]),(Yv [Yd YE,Yd p.domain],[.int .i64 3,.int .i64 0,.int .i64 0,.int .i64 0,.string ⟨#[]⟩,.slice (some ⟨gc,0,none⟩) 2 2])]) rfl rfl ?_ rfl Zh⟩) (Zw)
       exact YaD hnm hdm (hf3 _ (.head _)) (hf3 _ (.tail _ (.head _)))
     ·refine Yh (Xz T Zz Zz (fun g6=>⟨(⟨(Le.refl _),Zx⟩),?_⟩))
      (refine Yf Zz Zz ?_)
      refine PoS.qk (⟨(Le.refl _),Zx⟩) (Yj Zz Zz Xu ?_)
      unfold sxV
      (refine Yf Zz Zz ?_)
      refine PoS.qk (⟨(Le.refl _),Zx⟩) (Yj Zz Zz (Wo (s:=YE)) ?_)
      unfold sxV
      (refine Yf Zz Zz ?_)
      refine Yh (Yc T (cs:=Ym YE++Ym p.domain) Zz Zz Zz Zz Zz Zz Zz Zz (fun gc=>⟨(⟨(Le.refl _),Zx⟩),?_⟩))
      (refine Yf Zz Zz ?_)
      refine PoS.qk (⟨(Le.refl _),Zx⟩) (Yj Zz Zz Xu ?_)
      unfold sxV
      (refine Yf Zz Zz ?_)
      refine Yh (Yc T (cs:=Ym YL++([.int .i64 3,.int .i64 0,.int .i64 0,.int .i64 0,.string ⟨#[]⟩,.slice (some ⟨gb,0,none⟩) 2 2]++ [.int .i64 3,.int .i64 0,.int .i64 0,.int .i64 0,.string ⟨#[]⟩,.slice (some ⟨gc,0,none⟩) 2 2])) Zz Zz Zz Zz Zz Zz Zz Zz (fun gd=>⟨(⟨(Le.refl _),Zx⟩),?_⟩))
      (refine Yf Zz Zz ?_)
      refine PoS.qk (⟨(Le.refl _),Zx⟩) (Yj Zz Zz Xu ?_)
      unfold sxV
      (refine Yf Zz Zz ?_)
      refine PoS.hard0 Zj (Does.perm (Xm [2,6,5,4,0,1,3] Zz Zz) (Y1 T Zz Zz Zz Zz Zz Zz ?_))
      refine Po.done ?_
      ((repeat (first | refine zS ?_ | refine zA fun _=>?_)))
      refine midF (H':=[(g6,_),(g1,_),(g2,_),(g4,_),(gd,_)]) (H2:=[(gb,_),(gc,_)]) (Xm [0,1,2,3,4,6,5] Zz Zz) (fun fz3 hl3 hf3=>⟨g6,_,[(gd,_)],rfl,hl3,rfl,Grow.block (m:=3) (ys:=[(Yd YL,Ym YL),(Yv [Yd YW,Yd p.name],[.int .i64 3,.int .i64 0,.int .i64 0,.int .i64 0,.string ⟨#[]⟩,.slice (some ⟨gb,0,none⟩) 2 2]),(Yv [Yd YE,Yd p.domain],[.int .i64 3,.int .i64 0,.int .i64 0,.int .i64 0,.string ⟨#[]⟩,.slice (some ⟨gc,0,none⟩) 2 2])]) rfl rfl ?_ rfl Zh⟩) (Zw)
      exact YaD hnm hdm (hf3 _ (.head _)) (hf3 _ (.tail _ (.head _)))
    ·refine Yh (Xz T Zz Zz (fun g6=>⟨(⟨(Le.refl _),Zx⟩),?_⟩))
     (refine Yf Zz Zz ?_)
     refine Yh (Yc T (cs:=Ym YW++Ym p.name) Zz Zz Zz Zz Zz Zz Zz Zz (fun gb=>⟨(⟨(Le.refl _),Zx⟩),?_⟩))
     (refine Yf Zz Zz ?_)
     refine PoS.qk (⟨(Le.refl _),Zx⟩) (Yj Zz Zz Xu ?_)
     unfold sxV
     (refine Yf Zz Zz ?_)
     refine PoS.qk (⟨(Le.refl _),Zx⟩) (Yj Zz Zz (Wo (s:=YE)) ?_)
     unfold sxV
     (refine Yf Zz Zz ?_)
     refine Yh (Yc T (cs:=Ym YE++Ym p.domain) Zz Zz Zz Zz Zz Zz Zz Zz (fun gc=>⟨(⟨(Le.refl _),Zx⟩),?_⟩))
     (refine Yf Zz Zz ?_)
     refine PoS.qk (⟨(Le.refl _),Zx⟩) (Yj Zz Zz Xu ?_)
     unfold sxV
     (refine Yf Zz Zz ?_)
     refine Yh (Yc T (cs:=Ym YL++([.int .i64 3,.int .i64 0,.int .i64 0,.int .i64 0,.string ⟨#[]⟩,.slice (some ⟨gb,0,none⟩) 2 2]++ [.int .i64 3,.int .i64 0,.int .i64 0,.int .i64 0,.string ⟨#[]⟩,.slice (some ⟨gc,0,none⟩) 2 2])) Zz Zz Zz Zz Zz Zz Zz Zz (fun gd=>⟨(⟨(Le.refl _),Zx⟩),?_⟩))
     (refine Yf Zz Zz ?_)
     refine PoS.qk (⟨(Le.refl _),Zx⟩) (Yj Zz Zz Xu ?_)
     unfold sxV
     (refine Yf Zz Zz ?_)
     refine PoS.hard0 Zj (Does.perm (Xm [3,6,5,4,0,1,2] Zz Zz) (Y1 T Zz Zz Zz Zz Zz Zz ?_))
     refine Po.done ?_
     ((repeat (first | refine zS ?_ | refine zA fun _=>?_)))
     refine midF (H':=[(g6,_),(g1,_),(g2,_),(g4,_),(gd,_)]) (H2:=[(gb,_),(gc,_)]) (Xm [0,1,2,3,4,6,5] Zz Zz) (fun fz3 hl3 hf3=>⟨g6,_,[(gd,_)],rfl,hl3,rfl,Grow.block (m:=3) (ys:=[(Yd YL,Ym YL),(Yv [Yd YW,Yd p.name],[.int .i64 3,.int .i64 0,.int .i64 0,.int .i64 0,.string ⟨#[]⟩,.slice (some ⟨gb,0,none⟩) 2 2]),(Yv [Yd YE,Yd p.domain],[.int .i64 3,.int .i64 0,.int .i64 0,.int .i64 0,.string ⟨#[]⟩,.slice (some ⟨gc,0,none⟩) 2 2])]) rfl rfl ?_ rfl Zh⟩) (Zw)
     exact YaD hnm hdm (hf3 _ (.head _)) (hf3 _ (.tail _ (.head _)))
   ·rintro σ fz9 H' ⟨g6,v,Hs,rfl,hle9,rfl,hG⟩
    obtain ⟨Av,cv,rfl,_,_⟩:=hG.form
    ((repeat (first | refine zSX ?_ | refine zA fun _=>?_)))
    refine Yr (Wp.mid (fun σ fz' H'=>∃ (m:Nat) (v:Value) (Hs:HP),σ=[(6,.pointer (some ⟨g6,0,none⟩)),(4,.pointer (some ⟨g4,0,none⟩)),(2,.pointer (some ⟨g2,0,none⟩)),(1,.pointer (some ⟨g1,0,none⟩))]∧Le fz9 fz'∧H'=(g6,lsO v)::(g1,.cells #[.string p.name,.string p.domain,.slice A1 n1 b1,.slice A2 n2 b2,.slice A3 n3 b3,.string p.goal.op,.string p.goal.name,.slice A4 n4 b4,.slice A5 n5 b5,.slice A6 n6 b6,.slice A7 n7 b7] 38 (0,0))::(g2,.cells #[.int .i64 0,.int .i64 0,.int .i64 0,.int .i64 0,.string ⟨#[]⟩,.slice none 0 0] 64 (0,0))::(g4,glO (YN p.goal) (.slice A8 n8 b8))::Hs∧m≤4∧Grow YF 64 fz' v m Hs ([Yd YL,Yv [Yd YW,Yd p.name],Yv [Yd YE,Yd p.domain]]++grp Xa (XV p.objects))) ?_ ?_)
    ·have i1m:=io.mono (hle8.trans hle9)
     ((repeat (first | refine zS ?_ | refine zA fun _=>?_)))
     ((refine zG ?_;refine zC (fun c1=>?_) (fun c1=>?_)))
     ·have hne:XV p.objects≠ []:=fun h0=>by have:=YdK (l:=p.objects);rw [h0] at this;simp at this;omega
      ((repeat (first | refine zS ?_ | refine zA fun _=>?_)))
      (refine Wp.drawP [] (Hq:=[(g6,_),(g1,_)]) T.mixed Zj Zj (Zb) ?_)
      ((repeat (first | refine zS ?_ | refine zA fun _=>?_)))
      (((refine zG ?_));refine Yj Zz Zz (Wo (s:=Xa)) ?_)
      (refine Yl ?_)
      ((repeat (first | refine zS ?_ | refine zA fun _=>?_)))
      unfold sxV
      (refine Yl ?_)
      (refine Yl ?_)
      (refine Yl ?_)
      (refine Yl ?_)
      (refine Yl ?_)
      ((repeat (first | refine zS ?_ | refine zA fun _=>?_)))
      (refine Yl ?_)
      (refine PK.done ⟨by kernel_rfl,?_⟩)
      (refine YV Zz Zz Zz ?_ ?_)
      ·refine Yh (Yc T (cs:=Ym Xa) Zz Zz Zz Zz Zz Zz Zz Zz (fun gb=>⟨(⟨(Le.refl _),Zx⟩),?_⟩))
       (refine Yf Zz Zz ?_)
       refine Yh (YB [] _ Zz Zz Zz (Ycf i1m Zi) (fun v7 fz7 H7 hle7 hR7=>?_))
       obtain ⟨rfl,B7,cc7,rfl,hsl7⟩:=hR7
       refine ⟨(⟨hle7,Zx⟩),?_⟩
       (refine Yf Zz Zz ?_)
       refine Yh (YaK T (n:=1) (l:=[Yd Xa]) (Hr:=(g6,_)::(g1,_)::(g2,_)::(g4,_)::Hs) (Hs:=[(gb,_)]) Zz Zz Zz Zz Zz Zz Zz Zz ((List.perm_append_singleton _ _).symm) (Grow.block (ys:=[(Yd Xa,Ym Xa)]) rfl rfl (by simpa using Yq (YK Zh)) rfl Zh) Yn hsl7 (by show _*72≤_;omega) Zi (fun v8 Hs1 hO1=>⟨(⟨hle7,Zx⟩),?_⟩))
       obtain ⟨Ao,co,rfl,_,_⟩:=hO1.form
       (refine Yf Zz Zz ?_)
       refine PoS.qk (⟨hle7,Zx⟩) (Yj Zz Zz Xu ?_)
       unfold sxV
       (refine Yf Zz Zz ?_)
       refine Yh (Yc T (cs:=[.int .i64 3,.int .i64 0,.int .i64 0,.int .i64 0,.string ⟨#[]⟩,.slice Ao (1+3*n1) co]) Zz Zz Zz Zz Zz Zz Zz Zz (fun gc=>⟨(⟨hle7,Zx⟩),?_⟩))
       (refine Yf Zz Zz ?_)
       refine Yh (Does.freezeAll (H1:=(gc,_)::(g6,_)::(g1,_)::(g2,_)::(g4,_)::Hs) (H2:=Hs1) (List.Perm.refl _) (fun fzb hle10 hf10=>?_))
       obtain ⟨A2x,c2x,he2,hsl9⟩:=hO1.sl hle10 hf10 Zi
       injection he2 with x1 x2 x3
       subst x1 x3
       refine Y3 T (Hr:=(gc,_)::(g6,_)::(g1,_)::(g2,_):: [(g4,_)]) (d:=Yv (Yd Xa::XV p.objects)) Zz Zz Zz Zz Zz Zz Zz Zz (List.Perm.refl _) (hG.mono (hle7.trans hle10)) Yn (.head _) (Yg (XM hsl9)) (by show _*72≤_;omega) Zi (fun v9 Hp9 hO9=>⟨(⟨(hle7.trans hle10),Zx⟩),?_⟩)
       obtain ⟨A9,c9,rfl,_,_⟩:=hO9.form
       (refine Yf Zz Zz ?_)
       refine PoS.hard0 Zj (YT T Zz Zz Zz Zz Zz Zz ?_)
       refine Po.done ?_
       ((repeat (first | refine zS ?_ | refine zA fun _=>?_)))
       exact midN ⟨4,_,Hp9,rfl,hle7.trans hle10,rfl,by omega,hO9.of (by rw [YdY hne]) rfl⟩ (Zw) (Zb)
      ·refine Yh (YB [] _ Zz Zz Zz (Ycf i1m Zi) (fun v7 fz7 H7 hle7 hR7=>?_))
       obtain ⟨rfl,B7,cc7,rfl,hsl7⟩:=hR7
       refine ⟨(⟨hle7,Zx⟩),?_⟩
       (refine Yf Zz Zz ?_)
       refine Yh (Yc T (cs:=Ym Xa) Zz Zz Zz Zz Zz Zz Zz Zz (fun gb=>⟨(⟨hle7,Zx⟩),?_⟩))
       (refine Yf Zz Zz ?_)
       refine Yh (YaK T (n:=1) (l:=[Yd Xa]) (Hr:=(g6,_)::(g1,_)::(g2,_)::(g4,_)::Hs) (Hs:=[(gb,_)]) Zz Zz Zz Zz Zz Zz Zz Zz ((List.perm_append_singleton _ _).symm) (Grow.block (ys:=[(Yd Xa,Ym Xa)]) rfl rfl (by simpa using Yq (YK Zh)) rfl Zh) Yn hsl7 (by show _*72≤_;omega) Zi (fun v8 Hs1 hO1=>⟨(⟨hle7,Zx⟩),?_⟩))
       obtain ⟨Ao,co,rfl,_,_⟩:=hO1.form
       (refine Yf Zz Zz ?_)
       refine PoS.qk (⟨hle7,Zx⟩) (Yj Zz Zz Xu ?_)
       unfold sxV
       (refine Yf Zz Zz ?_)
       refine Yh (Yc T (cs:=[.int .i64 3,.int .i64 0,.int .i64 0,.int .i64 0,.string ⟨#[]⟩,.slice Ao (1+3*n1) co]) Zz Zz Zz Zz Zz Zz Zz Zz (fun gc=>⟨(⟨hle7,Zx⟩),?_⟩))
       (refine Yf Zz Zz ?_)
       refine Yh (Does.freezeAll (H1:=(gc,_)::(g6,_)::(g1,_)::(g2,_)::(g4,_)::Hs) (H2:=Hs1) (List.Perm.refl _) (fun fzb hle10 hf10=>?_))
       obtain ⟨A2x,c2x,he2,hsl9⟩:=hO1.sl hle10 hf10 Zi
       injection he2 with x1 x2 x3
       subst x1 x3
       refine Y3 T (Hr:=(gc,_)::(g6,_)::(g1,_)::(g2,_):: [(g4,_)]) (d:=Yv (Yd Xa::XV p.objects)) Zz Zz Zz Zz Zz Zz Zz Zz (List.Perm.refl _) (hG.mono (hle7.trans hle10)) Yn (.head _) (Yg (XM hsl9)) (by show _*72≤_;omega) Zi (fun v9 Hp9 hO9=>⟨(⟨(hle7.trans hle10),Zx⟩),?_⟩)
       obtain ⟨A9,c9,rfl,_,_⟩:=hO9.form
       (refine Yf Zz Zz ?_)
       refine PoS.hard0 Zj (YT T Zz Zz Zz Zz Zz Zz ?_)
       refine Po.done ?_
       ((repeat (first | refine zS ?_ | refine zA fun _=>?_)))
       exact midN ⟨4,_,Hp9,rfl,hle7.trans hle10,rfl,by omega,hO9.of (by rw [YdY hne]) rfl⟩ (Zw) (Zb)
     ·have hnil:XV p.objects=[]:=List.eq_nil_of_length_eq_zero (by rw [YdK];omega)
      ((repeat (first | refine zS ?_ | refine zA fun _=>?_)))
      exact midN ⟨3,_,Hs,rfl,Le.refl _,rfl,by omega,hG.of (by rw [hnil,Ybv];simp) rfl⟩ (Zw) (Zb)
    ·rintro σ fz10 H' ⟨m1,v,Hs,rfl,hle10,rfl,hm1,hG⟩
     obtain ⟨Av,cv,rfl,_,_⟩:=hG.form
     ((repeat (first | refine zSX ?_ | refine zA fun _=>?_)))
     refine Yr (Wp.mid (fun σ fz' H'=>∃ (m:Nat) (v:Value) (Hs:HP),σ=[(6,.pointer (some ⟨g6,0,none⟩)),(4,.pointer (some ⟨g4,0,none⟩)),(2,.pointer (some ⟨g2,0,none⟩)),(1,.pointer (some ⟨g1,0,none⟩))]∧Le fz10 fz'∧H'=(g6,lsO v)::(g1,.cells #[.string p.name,.string p.domain,.slice A1 n1 b1,.slice A2 n2 b2,.slice A3 n3 b3,.string p.goal.op,.string p.goal.name,.slice A4 n4 b4,.slice A5 n5 b5,.slice A6 n6 b6,.slice A7 n7 b7] 38 (0,0))::(g2,.cells #[.int .i64 0,.int .i64 0,.int .i64 0,.int .i64 0,.string ⟨#[]⟩,.slice none 0 0] 64 (0,0))::(g4,glO (YN p.goal) (.slice A8 n8 b8))::Hs∧m≤5∧Grow YF 64 fz' v m Hs ([Yd YL,Yv [Yd YW,Yd p.name],Yv [Yd YE,Yd p.domain]]++grp Xa (XV p.objects)++grp YaQ (p.init.map Xs++p.values.map valX))) ?_ ?_)
     ·have hleA:=(hle8.trans hle9).trans hle10
      have i2m:=ii.mono hleA
      have i3m:=iv.mono hleA
      ((repeat (first | refine zS ?_ | refine zA fun _=>?_)))
      ((refine zG ?_;refine zC (fun c2=>?_) (fun c2=>?_)))
      ·((repeat (first | refine zS ?_ | refine zA fun _=>?_)))
       (((refine zG ?_));refine Yj Zz Zz (Wo (s:=YaQ)) ?_)
       refine Yb Zz (Yc T (cs:=Ym YaQ) Zz Zz Zz Zz Zz Zz Zz Zz (fun gb=>?_))
       (((refine zG ?_));refine Yj Zz Zz Xu ?_)
       ((repeat (first | refine zS ?_ | refine zA fun _=>?_)))
       rename_i g7
       refine Wp.perm (List.Perm.cons _ (List.perm_append_singleton _ ((g6,_)::(g1,_)::(g2,_)::(g4,_)::Hs))) ?_
       refine YD (fun q σ fz' H'=>∃ (k:Nat) (v7:Value) (Hi:HP),k≤n2∧q=n2 - k∧σ=[(72,.int .i64 k),(71,.int .i64 n2),(70,.slice A2 n2 b2),(7,.pointer (some ⟨g7,0,none⟩)),(6,.pointer (some ⟨g6,0,none⟩)),(4,.pointer (some ⟨g4,0,none⟩)),(2,.pointer (some ⟨g2,0,none⟩)),(1,.pointer (some ⟨g1,0,none⟩))]∧Le fz10 fz'∧H'=(g7,lsO v7)::(g6,lsO (.slice Av m1 cv))::(g1,.cells #[.string p.name,.string p.domain,.slice A1 n1 b1,.slice A2 n2 b2,.slice A3 n3 b3,.string p.goal.op,.string p.goal.name,.slice A4 n4 b4,.slice A5 n5 b5,.slice A6 n6 b6,.slice A7 n7 b7] 38 (0,0))::(g2,.cells #[.int .i64 0,.int .i64 0,.int .i64 0,.int .i64 0,.string ⟨#[]⟩,.slice none 0 0] 64 (0,0))::(g4,glO (YN p.goal) (.slice A8 n8 b8))::(Hs++Hi)∧Grow YF 64 fz' v7 (k+1) Hi (Yd YaQ::(p.init.take k).map Xs)) ⟨0,_,[_],Nat.zero_le _,rfl,rfl,Le.refl _,rfl,Grow.block (ys:=[(Yd YaQ,Ym YaQ)]) rfl rfl (by simpa using Yq (YK Zh)) rfl Zh⟩ (Zw) (Zb) ?_
       rintro q σ fz' H' ⟨k,v7,Hi,hk,rfl,rfl,hle,rfl,hO⟩
       obtain ⟨Ai,ci,rfl,_,_⟩:=hO.form
       ((repeat (first | refine zS ?_ | refine zA fun _=>?_)))
       ((refine zG ?_;refine zC (fun e1=>?_) (fun e1=>?_)))
       ·obtain ⟨x,hx⟩:=YG (l:=p.init) (k:=k) Zi
        have hxm:=List.mem_of_getElem? hx
        have i2k:=i2m.mono hle
        ((repeat (first | refine zS ?_ | refine zA fun _=>?_)))
        (((refine zG ?_));refine YA T k Zz Zz Zz Zz Zz Zz i2k (by first | rfl | omega) hx (fun a ha=>?_))
        (((refine zG ?_));refine Yx T Zz Zz Zz ha Zz ?_)
        intro cs hcs
        obtain ⟨va,rfl,hRx⟩:=WX hcs
        obtain ⟨Aa,na,ca,rfl,ia⟩:=hRx.args
        ((repeat (first | refine zS ?_ | refine zA fun _=>?_)))
        rename_i g9
        (refine Wp.drawP [] (Hq:=[(g9,_),(g7,_)]) T.mixed Zj Zj (Zb) ?_)
        ((repeat (first | refine zS ?_ | refine zA fun _=>?_)))
        (refine Yl ?_)
        (refine Yl ?_)
        (refine Yl ?_)
        ((repeat (first | refine zS ?_ | refine zA fun _=>?_)))
        (refine Yl ?_)
        (refine PK.done ⟨by kernel_rfl,?_⟩)
        (refine Yf Zz Zz ?_)
        refine Yh (YB [] _ Zz Zz Zz (Ydw hRx (hs.inits x hxm)) (fun v7 fz7 H7 hle7 hR7=>?_))
        obtain ⟨rfl,cs7,rfl,hr7⟩:=hR7
        obtain ⟨vk7,rfl,hX7⟩:=Yt (x:=Xs x) hr7
        refine ⟨(⟨hle7,Zx⟩),?_⟩
        (refine Yf Zz Zz ?_)
        refine Yh (Yc T (cs:=[.int .i64 (Xs x).kind,.int .i64 (Xs x).value,.int .i64 (Xs x).line,.int .i64 (Xs x).column,.string (Xs x).text,vk7]) Zz Zz Zz Zz Zz Zz Zz Zz (fun gc=>⟨(⟨hle7,Zx⟩),?_⟩))
        (refine Yf Zz Zz ?_)
        refine Yh (Y3 T (Hr:=(gc,_)::(g9,_)::(g7,_)::(g6,_)::(g1,_)::(g2,_)::(g4,_)::Hs) (d:=Xs x) Zz Zz Zz Zz Zz Zz Zz Zz (List.Perm.refl _) (hO.mono hle7) Yn (.head _) (Yg hX7) (by show _*72≤_;omega) Zi (fun v9 Hi9 hO9=>⟨(⟨hle7,Zx⟩),?_⟩))
        obtain ⟨A9,c9,rfl,_,_⟩:=hO9.form
        (refine Yf Zz Zz ?_)
        refine PoS.hard0 Zj (Xv T Zz Zz Zz Zz Zz Zz ?_)
        refine Po.done ?_
        ((repeat (first | refine zS ?_ | refine zA fun _=>?_)))
        exact YP ⟨k+1,_,Hi9,by omega,rfl,rfl,hle.trans hle7,rfl,hO9.of (by rw [List.take_add_one,hx];simp) rfl⟩ Zi (Zw) (Zb)
       ·have hkn:n2=k:=by omega
        subst hkn
        rw [List.take_of_length_le Zi] at hO
        ((repeat (first | refine zS ?_ | refine zA fun _=>?_)))
        refine YD (fun q σ fz'' H'=>∃ (j:Nat) (v7:Value) (Hi:HP),j≤n3∧q=n3 - j∧σ=[(87,.int .i64 j),(86,.int .i64 n3),(85,.slice A3 n3 b3),(7,.pointer (some ⟨g7,0,none⟩)),(6,.pointer (some ⟨g6,0,none⟩)),(4,.pointer (some ⟨g4,0,none⟩)),(2,.pointer (some ⟨g2,0,none⟩)),(1,.pointer (some ⟨g1,0,none⟩))]∧Le fz' fz''∧H'=(g7,lsO v7)::(g6,lsO (.slice Av m1 cv))::(g1,.cells #[.string p.name,.string p.domain,.slice A1 n1 b1,.slice A2 n2 b2,.slice A3 n3 b3,.string p.goal.op,.string p.goal.name,.slice A4 n4 b4,.slice A5 n5 b5,.slice A6 n6 b6,.slice A7 n7 b7] 38 (0,0))::(g2,.cells #[.int .i64 0,.int .i64 0,.int .i64 0,.int .i64 0,.string ⟨#[]⟩,.slice none 0 0] 64 (0,0))::(g4,glO (YN p.goal) (.slice A8 n8 b8))::(Hs++Hi)∧Grow YF 64 fz'' v7 (n2+1+j) Hi (Yd YaQ::p.init.map Xs++(p.values.take j).map valX)) ⟨0,_,Hi,Nat.zero_le _,rfl,rfl,Le.refl _,rfl,hO.of (by simp) rfl⟩ (Zw) (Zb) ?_
        rintro q σ fz'' H' ⟨j,v7,Hi,hj,rfl,rfl,hle5,rfl,hO⟩
        obtain ⟨Ai,ci,rfl,_,_⟩:=hO.form
        ((repeat (first | refine zS ?_ | refine zA fun _=>?_)))
        ((refine zG ?_;refine zC (fun e2=>?_) (fun e2=>?_)))
        ·obtain ⟨x,hx⟩:=YG (l:=p.values) (k:=j) Zi
         have hxm:=List.mem_of_getElem? hx
         have i3k:=i3m.mono (hle.trans hle5)
         ((repeat (first | refine zS ?_ | refine zA fun _=>?_)))
         (((refine zG ?_));refine YA T j Zz Zz Zz Zz Zz Zz i3k (by first | rfl | omega) hx (fun a ha=>?_))
         (((refine zG ?_));refine Yx T Zz Zz Zz ha Zz ?_)
         intro cs hcs
         obtain ⟨va,rfl,hRx⟩:=YaY hcs
         obtain ⟨Aa,na,ca,rfl,ia⟩:=hRx.fluent.args
         ((repeat (first | refine zS ?_ | refine zA fun _=>?_)))
         rename_i g9
         (refine Wp.drawP [] (Hq:=[(g9,_),(g7,_)]) T.mixed Zj Zj (Zb) ?_)
         ((repeat (first | refine zS ?_ | refine zA fun _=>?_)))
         (((refine zG ?_));refine Yj Zz Zz (Wo (s:=kEq)) ?_)
         ((repeat (first | refine zS ?_ | refine zA fun _=>?_)))
         (((refine zG ?_));refine YJ (vs:=[.string x.fluent.name,.slice Aa na ca]) T 0 Zz Zz Zz Zz Zz Zz ?_)
         (refine Yl ?_)
         ((repeat (first | refine zS ?_ | refine zA fun _=>?_)))
         unfold sxV
         (refine Yl ?_)
         (refine Yl ?_)
         (refine Yl ?_)
         (refine Yl ?_)
         ((repeat (first | refine zS ?_ | refine zA fun _=>?_)))
         (refine Yl ?_)
         (refine PK.done ⟨by kernel_rfl,?_⟩)
         (refine Yf Zz Zz ?_)
         refine Yh (YB [] _ Zz Zz Zz (Ydw hRx.fluent (hs.vals x hxm)) (fun v7 fz7 H7 hle7 hR7=>?_))
         obtain ⟨rfl,cs7,rfl,hr7⟩:=hR7
         obtain ⟨vk7,rfl,hX7⟩:=Yt (x:=Xs x.fluent) hr7
         refine ⟨(⟨hle7,Zx⟩),?_⟩
         (refine Yf Zz Zz ?_)
         refine Yh (Yc T (cs:=Ym kEq++([.int .i64 (Xs x.fluent).kind,.int .i64 (Xs x.fluent).value,.int .i64 (Xs x.fluent).line,.int .i64 (Xs x.fluent).column,.string (Xs x.fluent).text,vk7]++ [.int .i64 2,.int .i64 x.n,.int .i64 0,.int .i64 0,.string ⟨#[]⟩,.slice none 0 0])) Zz Zz Zz Zz Zz Zz Zz Zz (fun gb=>⟨(⟨hle7,Zx⟩),?_⟩))
         (refine Yf Zz Zz ?_)
         refine PoS.qk (⟨hle7,Zx⟩) (Yj Zz Zz Xu ?_)
         unfold sxV
         (refine Yf Zz Zz ?_)
         refine Yh (Yc T (cs:=[.int .i64 3,.int .i64 0,.int .i64 0,.int .i64 0,.string ⟨#[]⟩,.slice (some ⟨gb,0,none⟩) 3 3]) Zz Zz Zz Zz Zz Zz Zz Zz (fun gc=>⟨(⟨hle7,Zx⟩),?_⟩))
         (refine Yf Zz Zz ?_)
         refine Yh (Does.freezeAll (H1:=(gc,_)::(g9,_)::(g7,_)::(g6,_)::(g1,_)::(g2,_)::(g4,_)::(Hs++Hi)) (H2:=[(gb,_)]) (List.Perm.cons _ (List.perm_append_singleton _ _).symm) (fun fzb hle10' hf10=>?_))
         have hrep:YF.rep fzb (valX x) [.int .i64 3,.int .i64 0,.int .i64 0,.int .i64 0,.string ⟨#[]⟩,.slice (some ⟨gb,0,none⟩) 3 3]:=Yg (XM (Xt (ys:=[(Yd kEq,Ym kEq),(Xs x.fluent,[.int .i64 (Xs x.fluent).kind,.int .i64 (Xs x.fluent).value,.int .i64 (Xs x.fluent).line,.int .i64 (Xs x.fluent).column,.string (Xs x.fluent).text,vk7]),(numE x.n,[.int .i64 2,.int .i64 x.n,.int .i64 0,.int .i64 0,.string ⟨#[]⟩,.slice none 0 0])]) (hf10 _ (.head _)) rfl rfl (by intro p hp;simp only [List.mem_cons,List.not_mem_nil,or_false] at hp;rcases hp with rfl | rfl | rfl;exact Yq (YK Zh);exact Yg (hX7.mono hle10');exact Yg (YeD hRx.n)) rfl Zh))
         refine Y3 T (Hr:=(gc,_)::(g9,_)::(g7,_)::(g6,_)::(g1,_)::(g2,_)::(g4,_)::Hs) (d:=valX x) Zz Zz Zz Zz Zz Zz Zz Zz (List.Perm.refl _) (hO.mono (hle7.trans hle10')) Yn (.head _) hrep (by show _*72≤_;omega) Zi (fun v9 Hi9 hO9=>⟨(⟨(hle7.trans hle10'),Zx⟩),?_⟩)
         obtain ⟨A9,c9,rfl,_,_⟩:=hO9.form
         (refine Yf Zz Zz ?_)
         refine PoS.hard0 Zj (Xv T Zz Zz Zz Zz Zz Zz ?_)
         refine Po.done ?_
         ((repeat (first | refine zS ?_ | refine zA fun _=>?_)))
         exact YP ⟨j+1,_,Hi9,by omega,rfl,rfl,hle5.trans (hle7.trans hle10'),rfl,hO9.of (by rw [List.take_add_one,hx];simp) rfl⟩ Zi (Zw) (Zb)
        ·have hjn:n3=j:=by omega
         subst hjn
         rw [List.take_of_length_le Zi] at hO
         refine Seq.freezeAll (H1:=(g7,_)::(g6,_)::(g1,_)::(g2,_)::(g4,_)::Hs) (H2:=Hi) (List.Perm.refl _) (fun fzp hlp hfp=>?_)
         obtain ⟨A2x,c2x,he2,hslp⟩:=hO.sl hlp hfp Zi
         injection he2 with x1 x2 x3
         subst x1 x3
         have hleB:=(hle.trans hle5).trans hlp
         have hne:p.init.map Xs++p.values.map valX≠ []:=fun h0=>by have:=congrArg List.length h0;simp only [List.length_append,List.length_map,List.length_nil] at this;omega
         ((repeat (first | refine zS ?_ | refine zA fun _=>?_)))
         refine Yb Zz (Yc T (cs:=[.int .i64 3,.int .i64 0,.int .i64 0,.int .i64 0,.string ⟨#[]⟩,.slice Ai (n2+1+n3) ci]) Zz Zz Zz Zz Zz Zz Zz Zz (fun gc=>?_))
         refine Yb Zz (Y3 T (Hr:=(gc,_)::(g7,_)::(g6,_)::(g1,_)::(g2,_):: [(g4,_)]) (d:=Yv (Yd YaQ::p.init.map Xs++p.values.map valX)) Zz Zz Zz Zz Zz Zz Zz Zz (List.Perm.refl _) (hG.mono hleB) Yn (.head _) (Yg (XM hslp)) (by show _*72≤_;omega) Zi (fun v9 Hs9 hO9=>?_))
         obtain ⟨A9,c9,rfl,_,_⟩:=hO9.form
         ((repeat (first | refine zS ?_ | refine zA fun _=>?_)))
         exact midN ⟨m1+1,_,Hs9,rfl,hleB,rfl,by omega,hO9.of (by rw [YdY hne];simp) rfl⟩ (Zw) (Zb)
      ·have hi0:p.init=[]:=List.eq_nil_of_length_eq_zero Zi
       have hv0:p.values=[]:=List.eq_nil_of_length_eq_zero Zi
       ((repeat (first | refine zS ?_ | refine zA fun _=>?_)))
       exact midN ⟨m1,_,Hs,rfl,Le.refl _,rfl,by omega,hG.of (by rw [hi0,hv0];simp [Ybv]) rfl⟩ (Zw) (Zb)
     ·rintro σ fz11 H' ⟨m2,v,Hs,rfl,hle11,rfl,hm2,hG⟩
      obtain ⟨Av,cv,rfl,_,_⟩:=hG.form
      have hleC:=(hle9.trans hle10).trans hle11
      ((repeat (first | refine zSX ?_ | refine zA fun _=>?_)))
      refine Yr (Wp.mid (fun σ fz' H'=>∃ (m:Nat) (v:Value) (Hs:HP),σ=[(6,.pointer (some ⟨g6,0,none⟩)),(4,.pointer (some ⟨g4,0,none⟩)),(2,.pointer (some ⟨g2,0,none⟩)),(1,.pointer (some ⟨g1,0,none⟩))]∧Le fz11 fz'∧H'=(g6,lsO v)::(g1,.cells #[.string p.name,.string p.domain,.slice A1 n1 b1,.slice A2 n2 b2,.slice A3 n3 b3,.string p.goal.op,.string p.goal.name,.slice A4 n4 b4,.slice A5 n5 b5,.slice A6 n6 b6,.slice A7 n7 b7] 38 (0,0))::(g2,.cells #[.int .i64 0,.int .i64 0,.int .i64 0,.int .i64 0,.string ⟨#[]⟩,.slice none 0 0] 64 (0,0))::(g4,glO (YN p.goal) (.slice A8 n8 b8))::Hs∧m≤6∧Grow YF 64 fz' v m Hs ([Yd YL,Yv [Yd YW,Yd p.name],Yv [Yd YE,Yd p.domain]]++grp Xa (XV p.objects)++grp YaQ (p.init.map Xs++p.values.map valX)++YdZ p.goal)) ?_ ?_)
      ·((repeat (first | refine zS ?_ | refine zA fun _=>?_)))
       ((refine zG ?_;refine zC (fun e1=>?_) (fun e1=>?_)))
       ·have hgo:YdZ p.goal=[Yv [Yd Yac,YN p.goal]]:=if_neg (fun h0=>e1 h0.1)
        ((repeat (first | refine zS ?_ | refine zA fun _=>?_)))
        (refine Wp.drawP [] (Hq:=[(g6,_),(g4,_)]) T.mixed Zj Zj (Zb) ?_)
        ((repeat (first | refine zS ?_ | refine zA fun _=>?_)))
        (((refine zG ?_));refine Yj Zz Zz (Wo (s:=Yac)) ?_)
        ((repeat (first | refine zS ?_ | refine zA fun _=>?_)))
        unfold sxV
        (refine Yl ?_)
        (refine Yl ?_)
        (refine Yl ?_)
        (refine Yl ?_)
        ((repeat (first | refine zS ?_ | refine zA fun _=>?_)))
        (refine Yl ?_)
        (refine PK.done ⟨by kernel_rfl,?_⟩)
        (refine Yf Zz Zz ?_)
        refine Yh (Yc T (cs:=Ym Yac++ [.int .i64 (YN p.goal).kind,.int .i64 (YN p.goal).value,.int .i64 (YN p.goal).line,.int .i64 (YN p.goal).column,.string (YN p.goal).text,.slice A8 n8 b8]) Zz Zz Zz Zz Zz Zz Zz Zz (fun gb=>⟨(⟨(Le.refl _),Zx⟩),?_⟩))
        (refine Yf Zz Zz ?_)
        refine PoS.qk (⟨(Le.refl _),Zx⟩) (Yj Zz Zz Xu ?_)
        unfold sxV
        (refine Yf Zz Zz ?_)
        refine Yh (Yc T (cs:=[.int .i64 3,.int .i64 0,.int .i64 0,.int .i64 0,.string ⟨#[]⟩,.slice (some ⟨gb,0,none⟩) 2 2]) Zz Zz Zz Zz Zz Zz Zz Zz (fun gc=>⟨(⟨(Le.refl _),Zx⟩),?_⟩))
        (refine Yf Zz Zz ?_)
        refine Yh (Does.freezeAll (H1:=(gc,_)::(g6,_)::(g1,_)::(g2,_)::(g4,_)::Hs) (H2:=[(gb,_)]) (List.Perm.cons _ (List.perm_append_singleton _ _).symm) (fun fzb hlb hfb=>?_))
        have hrep:YF.rep fzb (Yv [Yd Yac,YN p.goal]) [.int .i64 3,.int .i64 0,.int .i64 0,.int .i64 0,.string ⟨#[]⟩,.slice (some ⟨gb,0,none⟩) 2 2]:=Yg (XM (Xt (ys:=[(Yd Yac,Ym Yac),(YN p.goal,[.int .i64 (YN p.goal).kind,.int .i64 (YN p.goal).value,.int .i64 (YN p.goal).line,.int .i64 (YN p.goal).column,.string (YN p.goal).text,.slice A8 n8 b8])]) (hfb _ (.head _)) rfl rfl (by intro p hp;simp only [List.mem_cons,List.not_mem_nil,or_false] at hp;rcases hp with rfl | rfl;exact Yq (YK Zh);exact Yg (hX.mono (hleC.trans hlb))) rfl Zh))
        refine Y3 T (Hr:=(gc,_)::(g6,_)::(g1,_)::(g2,_):: [(g4,_)]) (d:=Yv [Yd Yac,YN p.goal]) Zz Zz Zz Zz Zz Zz Zz Zz (List.Perm.refl _) (hG.mono hlb) Yn (.head _) hrep (by show _*72≤_;omega) Zi (fun v9 Hs9 hO9=>⟨(⟨hlb,Zx⟩),?_⟩)
        obtain ⟨A9,c9,rfl,_,_⟩:=hO9.form
        (refine Yf Zz Zz ?_)
        refine PoS.hard0 Zj (YT T Zz Zz Zz Zz Zz Zz ?_)
        refine Po.done ?_
        ((repeat (first | refine zS ?_ | refine zA fun _=>?_)))
        exact midN ⟨m2+1,_,Hs9,rfl,hlb,rfl,by omega,hO9.of (by rw [hgo]) rfl⟩ (Zw) (Zb)
       ·((repeat (first | refine zS ?_ | refine zA fun _=>?_)))
        ((refine zG ?_;refine zC (fun e2=>?_) (fun e2=>?_)))
        ·have hgo:YdZ p.goal=[Yv [Yd Yac,YN p.goal]]:=if_neg (fun h0=>by have:=i7.len;rw [h0.2] at this;simp at this;omega)
         ((repeat (first | refine zS ?_ | refine zA fun _=>?_)))
         (refine Wp.drawP [] (Hq:=[(g6,_),(g4,_)]) T.mixed Zj Zj (Zb) ?_)
         ((repeat (first | refine zS ?_ | refine zA fun _=>?_)))
         (((refine zG ?_));refine Yj Zz Zz (Wo (s:=Yac)) ?_)
         ((repeat (first | refine zS ?_ | refine zA fun _=>?_)))
         unfold sxV
         (refine Yl ?_)
         (refine Yl ?_)
         (refine Yl ?_)
         (refine Yl ?_)
         ((repeat (first | refine zS ?_ | refine zA fun _=>?_)))
         (refine Yl ?_)
         (refine PK.done ⟨by kernel_rfl,?_⟩)
         (refine Yf Zz Zz ?_)
         refine Yh (Yc T (cs:=Ym Yac++ [.int .i64 (YN p.goal).kind,.int .i64 (YN p.goal).value,.int .i64 (YN p.goal).line,.int .i64 (YN p.goal).column,.string (YN p.goal).text,.slice A8 n8 b8]) Zz Zz Zz Zz Zz Zz Zz Zz (fun gb=>⟨(⟨(Le.refl _),Zx⟩),?_⟩))
         (refine Yf Zz Zz ?_)
         refine PoS.qk (⟨(Le.refl _),Zx⟩) (Yj Zz Zz Xu ?_)
         unfold sxV
         (refine Yf Zz Zz ?_)
         refine Yh (Yc T (cs:=[.int .i64 3,.int .i64 0,.int .i64 0,.int .i64 0,.string ⟨#[]⟩,.slice (some ⟨gb,0,none⟩) 2 2]) Zz Zz Zz Zz Zz Zz Zz Zz (fun gc=>⟨(⟨(Le.refl _),Zx⟩),?_⟩))
         (refine Yf Zz Zz ?_)
         refine Yh (Does.freezeAll (H1:=(gc,_)::(g6,_)::(g1,_)::(g2,_)::(g4,_)::Hs) (H2:=[(gb,_)]) (List.Perm.cons _ (List.perm_append_singleton _ _).symm) (fun fzb hlb hfb=>?_))
         have hrep:YF.rep fzb (Yv [Yd Yac,YN p.goal]) [.int .i64 3,.int .i64 0,.int .i64 0,.int .i64 0,.string ⟨#[]⟩,.slice (some ⟨gb,0,none⟩) 2 2]:=Yg (XM (Xt (ys:=[(Yd Yac,Ym Yac),(YN p.goal,[.int .i64 (YN p.goal).kind,.int .i64 (YN p.goal).value,.int .i64 (YN p.goal).line,.int .i64 (YN p.goal).column,.string (YN p.goal).text,.slice A8 n8 b8])]) (hfb _ (.head _)) rfl rfl (by intro p hp;simp only [List.mem_cons,List.not_mem_nil,or_false] at hp;rcases hp with rfl | rfl;exact Yq (YK Zh);exact Yg (hX.mono (hleC.trans hlb))) rfl Zh))
         refine Y3 T (Hr:=(gc,_)::(g6,_)::(g1,_)::(g2,_):: [(g4,_)]) (d:=Yv [Yd Yac,YN p.goal]) Zz Zz Zz Zz Zz Zz Zz Zz (List.Perm.refl _) (hG.mono hlb) Yn (.head _) hrep (by show _*72≤_;omega) Zi (fun v9 Hs9 hO9=>⟨(⟨hlb,Zx⟩),?_⟩)
         obtain ⟨A9,c9,rfl,_,_⟩:=hO9.form
         (refine Yf Zz Zz ?_)
         refine PoS.hard0 Zj (YT T Zz Zz Zz Zz Zz Zz ?_)
         refine Po.done ?_
         ((repeat (first | refine zS ?_ | refine zA fun _=>?_)))
         exact midN ⟨m2+1,_,Hs9,rfl,hlb,rfl,by omega,hO9.of (by rw [hgo]) rfl⟩ (Zw) (Zb)
        ·have hgo:YdZ p.goal=[]:=if_pos ⟨e1,List.eq_nil_of_length_eq_zero (by have:=i7.len;omega)⟩
         ((repeat (first | refine zS ?_ | refine zA fun _=>?_)))
         exact midN ⟨m2,_,Hs,rfl,Le.refl _,rfl,by omega,hG.of (by rw [hgo];simp) rfl⟩ (Zw) (Zb)
      ·rintro σ fz12 H' ⟨m3,v,Hs,rfl,hle12,rfl,hm3,hG⟩
       obtain ⟨Av,cv,rfl,_,_⟩:=hG.form
       ((repeat (first | refine zS ?_ | refine zA fun _=>?_)))
       refine Seq.freezeAll (H1:=[(g6,_),(g1,_),(g2,_),(g4,_)]) (H2:=Hs) (List.Perm.refl _) (fun fzr hlr hfr=>?_)
       obtain ⟨A2w,c2w,he5,hsl⟩:=hG.sl hlr hfr Zi
       injection he5 with x1 x2 x3
       subst x1 x3
       have hXX:=XM hsl
       (((refine zG ?_));refine Yz Zz Zz (Yb9 (x:=prbX p) hXX) (fun f2=>?_) (fun f2=>?_))
       ·have hY:FVal p.goal∧Ydk p∧XVal (prbX p):=⟨hP,hE,of_decide_eq_true f2⟩
        ((repeat (first | refine zS ?_ | refine zA fun _=>?_)))
        refine YaI T (vs:=[.agg #[_,_,_,_,_,_],.nilIface]) Zz ⟨⟨_,_,2,_,_,_,rfl,rfl,rfl,rfl,rfl,rfl⟩,rfl,trivial⟩ (fun fz3 hle3 hf3=>?_)
        exact ⟨rfl,_,_,by rw [if_pos hY];rfl,SxIs.mono hle3 ⟨_,rfl,Yg hXX⟩,fun _=>rfl⟩
       ·have hN:¬(FVal p.goal∧Ydk p∧XVal (prbX p)):=fun h0=>of_decide_eq_false f2 h0.2.2
        ((repeat (first | refine zS ?_ | refine zA fun _=>?_)))
        refine YaI T (vs:=[.agg #[_,_,_,_,_,_],_]) Zz ⟨⟨_,_,2,_,_,_,rfl,rfl,rfl,rfl,rfl,rfl⟩,rfl,trivial⟩ (fun fz3 hle3 hf3=>?_)
        exact ⟨rfl,_,_,by rw [if_neg hN,WN Zh];rfl,XP,fun h0=>absurd h0 hN⟩
  ·have hN:¬(FVal p.goal∧Ydk p∧XVal (prbX p)):=fun h0=>of_decide_eq_false f1 h0.2.1
   ((repeat (first | refine zS ?_ | refine zA fun _=>?_)))
   refine YaI T (vs:=[.agg #[_,_,_,_,_,_],_]) Zz ⟨⟨_,_,1,_,_,_,rfl,rfl,rfl,rfl,rfl,rfl⟩,rfl,trivial⟩ (fun fz3 hle3 hf3=>?_)
   exact ⟨rfl,_,_,by rw [if_neg hN,WN Zh];rfl,XP,fun h0=>absurd h0 hN⟩
 ·rw [if_neg hP]
  have hN:¬(FVal p.goal∧Ydk p∧XVal (prbX p)):=fun h0=>hP h0.1
  ((repeat (first | refine zS ?_ | refine zA fun _=>?_)))
  refine YaI T (vs:=[.agg #[_,_,_,_,_,_],_]) Zz ⟨⟨_,_,1,_,_,_,rfl,rfl,rfl,rfl,rfl,rfl⟩,rfl,trivial⟩ (fun fz3 hle3 hf3=>?_)
  exact ⟨rfl,_,_,by rw [if_neg hN,WN Zh];rfl,XP,fun h0=>absurd h0 hN⟩
end Go.Proofs.YtbhlgkibgajajaaGreatDoor
set_option maxRecDepth 20000
namespace Go.Proofs.YtbhlgkibgajajaaGreatDoor
open Go.Lx Go.RowKit
attribute [local instance 10] Classical.propDecidable
structure PrbTn (p:Problem):Prop where
 sm:PrbSm p
 objects:p.objects.length≤100000000
 init:p.init.length≤100000000
 values:p.values.length≤100000000
set_option maxHeartbeats 16000000 in
theorem Yhx {fz:FZ} {p:Problem} {v1 v2 v3 v4 v5 v6 v7:Value} (h:ProblemR fz p v1 v2 v3 v4 v5 v6 v7) (hs:PrbTn p) (hF:FShape p.goal):
 GFn Tryz.prog 52 [.agg #[.string p.name,.string p.domain,v1,v2,v3,.string p.goal.op,.string p.goal.name,v4,v5,v6,v7]] fz [] (fun v fz' H'=>H'=[]∧SxIs fz' v (prbX p)):=by
 obtain ⟨A1,n1,b1,rfl,io⟩:=h.objects
 obtain ⟨A2,n2,b2,rfl,ii⟩:=h.init
 obtain ⟨A3,n3,b3,rfl,iv⟩:=h.values
 obtain ⟨A4,n4,b4,rfl,_⟩:=h.goal.args
 obtain ⟨A5,n5,b5,rfl,_⟩:=h.goal.params
 obtain ⟨A6,n6,b6,rfl,_⟩:=h.goal.exprs
 obtain ⟨A7,n7,b7,rfl,i7⟩:=h.goal.kids
 have lo:=io.len
 have li:=ii.len
 have lv:=iv.len
 have mo:=hs.objects
 have mi:=hs.init
 have mv:=hs.values
 (refine GFn.of_wp Tryz.func52 rfl Tryz.ntmps52 rfl rfl (fun w0=>?_))
 (refine Yr (Yp (Yb Zz (Xi _ Zz Zz (fun g0=>?_)))))
 ((repeat (first | refine zSO ?_ | refine zA fun _=>?_)))
 rename_i g2
 ((repeat (first | refine zSX ?_ | refine zA fun _=>?_)))
 refine Yr (Wp.mid (fun σ fz' H'=>∃ (vo:Value) (no:Nat) (Ho:HP),σ=[(3,vo),(2,.pointer (some ⟨g2,0,none⟩)),(1,.pointer (some ⟨g0,0,none⟩))]∧Le fz fz'∧H'=(g0,.cells #[.string p.name,.string p.domain,.slice A1 n1 b1,.slice A2 n2 b2,.slice A3 n3 b3,.string p.goal.op,.string p.goal.name,.slice A4 n4 b4,.slice A5 n5 b5,.slice A6 n6 b6,.slice A7 n7 b7] 38 (0,0))::(g2,.cells #[.int .i64 0,.int .i64 0,.int .i64 0,.int .i64 0,.string ⟨#[]⟩,.slice none 0 0] 64 (0,0))::Ho∧Grow YF 64 fz' vo no Ho ([Yv [Yd YW,Yd p.name],Yv [Yd YE,Yd p.domain]])∧no≤7) ?_ ?_)
 ·(refine Wp.drawK (Hq:=[(g0,_)]) T.mixed Zj Zj (Zb) ?_)
  ((repeat (first | refine zS ?_ | refine zA fun _=>?_)))
  (((refine zG ?_));refine Yj Zz Zz (YeT (s:=p.name)) ?_)
  unfold sxV
  (refine Ye ?_)
  (refine Ye ?_)
  ((repeat (first | refine zS ?_ | refine zA fun _=>?_)))
  (refine Ye ?_)
  (refine Ye ?_)
  (refine Ye ?_)
  (refine Ye ?_)
  (refine Ye ?_)
  (refine YR ⟨by kernel_rfl,?_⟩)
  refine Ys (Yc T (cs:=Ym p.name) Zz Zz Zz Zz Zz Zz Zz Zz (fun gb=>⟨(⟨(Le.refl _),Zp1⟩),?_⟩))
  refine Ys (Does.freezeAll (H1:=[(g2,_),(g0,_)]) (H2:=[(gb,_)]) (Xm [1,2,0] Zz Zz).symm (fun fzb hlb hfb=>?_))
  refine YB [] _ Zz Zz Zz (Ya8 (s:=YW) (YK Zh) (Xt (l:=[Yd p.name]) (ys:=[(Yd p.name,Ym p.name)]) (hfb _ (.head _)) rfl rfl (by simpa using Yq h.name) rfl (by simp)) (by simp)) (fun v16 fza H16 hla hR16=>?_)
  obtain ⟨rfl,hx16⟩:=hR16
  obtain ⟨A16,n16,c16,rfl,hX16⟩:=hx16.x
  have hle0:=hlb.trans hla
  refine ⟨(⟨hle0,Zp1⟩),?_⟩
  refine Ch.qk (⟨hle0,Zp1⟩) (Yj Zz Zz (YeT (s:=p.domain)) ?_)
  unfold sxV
  refine Ys (Yc T (cs:=Ym p.domain) Zz Zz Zz Zz Zz Zz Zz Zz (fun gc=>⟨(⟨hle0,Zp1⟩),?_⟩))
  refine Ys (Does.freezeAll (H1:=[(g2,_),(g0,_)]) (H2:=[(gc,_)]) (Xm [1,2,0] Zz Zz).symm (fun fzc hlc hfc=>?_))
  refine YB [] _ Zz Zz Zz (Ya8 (s:=YE) (YK Zh) (Xt (l:=[Yd p.domain]) (ys:=[(Yd p.domain,Ym p.domain)]) (hfc _ (.head _)) rfl rfl (by simpa using Yq h.domain) rfl (by simp)) (by simp)) (fun v17 fzd H17 hld hR17=>?_)
  obtain ⟨rfl,hx17⟩:=hR17
  obtain ⟨A17,n17,c17,rfl,hX17⟩:=hx17.x
  have hle1:=hle0.trans (hlc.trans hld)
  refine ⟨(⟨hle1,Zp1⟩),?_⟩
  refine Ys (Yc T (cs:=[.int .i64 (Yv [Yd YW,Yd p.name]).kind,.int .i64 (Yv [Yd YW,Yd p.name]).value,.int .i64 (Yv [Yd YW,Yd p.name]).line,.int .i64 (Yv [Yd YW,Yd p.name]).column,.string (Yv [Yd YW,Yd p.name]).text,.slice A16 n16 c16]++ [.int .i64 (Yv [Yd YE,Yd p.domain]).kind,.int .i64 (Yv [Yd YE,Yd p.domain]).value,.int .i64 (Yv [Yd YE,Yd p.domain]).line,.int .i64 (Yv [Yd YE,Yd p.domain]).column,.string (Yv [Yd YE,Yd p.domain]).text,.slice A17 n17 c17]) Zz Zz Zz Zz Zz Zz Zz Zz (fun gd=>⟨(⟨hle1,Zp1⟩),?_⟩))
  refine Ch.qk (⟨hle1,Zp1⟩) (Xk Zz ?_)
  refine Ch.done ?_
  ((repeat (first | refine zS ?_ | refine zA fun _=>?_)))
  exact midP (Xm [2,1,0] Zz Zz) ⟨_,2,[(gd,_)],rfl,hle1,rfl,Grow.block (ys:=[(Yv [Yd YW,Yd p.name],[.int .i64 (Yv [Yd YW,Yd p.name]).kind,.int .i64 (Yv [Yd YW,Yd p.name]).value,.int .i64 (Yv [Yd YW,Yd p.name]).line,.int .i64 (Yv [Yd YW,Yd p.name]).column,.string (Yv [Yd YW,Yd p.name]).text,.slice A16 n16 c16]),(Yv [Yd YE,Yd p.domain],[.int .i64 (Yv [Yd YE,Yd p.domain]).kind,.int .i64 (Yv [Yd YE,Yd p.domain]).value,.int .i64 (Yv [Yd YE,Yd p.domain]).line,.int .i64 (Yv [Yd YE,Yd p.domain]).column,.string (Yv [Yd YE,Yd p.domain]).text,.slice A17 n17 c17])]) rfl rfl (by intro p hp;simp only [List.mem_cons,List.not_mem_nil,or_false] at hp;rcases hp with rfl | rfl;exact Yg (hX16.mono (hlc.trans hld));exact Yg hX17) rfl Zh,by omega⟩ (Zw) (Zb)
 ·rintro σ fz1 H' ⟨vo1,no1,Ho1,rfl,hle1,rfl,hG1,hno1⟩
  obtain ⟨Ao1,co1,rfl,_,_⟩:=hG1.form
  refine Yr (Wp.mid (fun σ fz' H'=>∃ (vo:Value) (no:Nat) (Ho:HP),σ=[(3,vo),(2,.pointer (some ⟨g2,0,none⟩)),(1,.pointer (some ⟨g0,0,none⟩))]∧Le fz fz'∧H'=(g0,.cells #[.string p.name,.string p.domain,.slice A1 n1 b1,.slice A2 n2 b2,.slice A3 n3 b3,.string p.goal.op,.string p.goal.name,.slice A4 n4 b4,.slice A5 n5 b5,.slice A6 n6 b6,.slice A7 n7 b7] 38 (0,0))::(g2,.cells #[.int .i64 0,.int .i64 0,.int .i64 0,.int .i64 0,.string ⟨#[]⟩,.slice none 0 0] 64 (0,0))::Ho∧Grow YF 64 fz' vo no Ho ([Yv [Yd YW,Yd p.name],Yv [Yd YE,Yd p.domain]]++grp Xa (XV p.objects))∧no≤8) ?_ ?_)
  ·((repeat (first | refine zS ?_ | refine zA fun _=>?_)))
   ((refine zG ?_;refine zC (fun e1=>?_) (fun e1=>?_)))
   ·have hne:XV p.objects≠ []:=fun h0=>by rw [Yf3.1 h0] at lo;simp at lo;omega
    ((repeat (first | refine zS ?_ | refine zA fun _=>?_)))
    (refine Yb Zz (YB [] _ Zz Zz Zz (YdL (io.mono hle1) Zi) (fun v6 fz6 H6 hle6 hR6=>?_)))
    obtain ⟨rfl,B6,cc6,rfl,hs6⟩:=hR6
    (refine Yb Zz (YB [] _ Zz Zz Zz (Ya8 (s:=Xa) (YK Zh) hs6 Zi) (fun v7 fz7 H7 hle7 hR7=>?_)))
    obtain ⟨rfl,hx7⟩:=hR7
    obtain ⟨A8,m8,c8,rfl,hX7⟩:=hx7.x
    refine Yb Zz (Yc T (cs:=[.int .i64 (Yv (Yd Xa::XV p.objects)).kind,.int .i64 (Yv (Yd Xa::XV p.objects)).value,.int .i64 (Yv (Yd Xa::XV p.objects)).line,.int .i64 (Yv (Yd Xa::XV p.objects)).column,.string (Yv (Yd Xa::XV p.objects)).text,.slice A8 m8 c8]) Zz Zz Zz Zz Zz Zz Zz Zz (fun gb=>?_))
    refine Yb Zz (Y3 T (Hr:=[_,_,_]) (d:=Yv (Yd Xa::XV p.objects)) Zz Zz Zz Zz Zz Zz Zz Zz (List.Perm.refl _) (hG1.mono (hle6.trans hle7)) Yn (.head _) (Yg hX7) (by show _*72≤_;omega) Zi (fun v' Hs' hO'=>?_))
    obtain ⟨Av',cv',rfl,_,_⟩:=hO'.form
    ((repeat (first | refine zS ?_ | refine zA fun _=>?_)))
    exact midN ⟨_,_,Hs',rfl,hle1.trans (hle6.trans hle7),rfl,hO'.of (by rw [YdY hne]) rfl,by omega⟩ (Zw) (Zb)
   ·have hnil:XV p.objects=[]:=Yf3.2 (List.eq_nil_of_length_eq_zero Zi)
    ((repeat (first | refine zS ?_ | refine zA fun _=>?_)))
    exact midN ⟨_,_,_,rfl,hle1,rfl,hG1.of (by rw [hnil,Ybv,List.append_nil]) rfl,by omega⟩ (Zw) (Zb)
  ·rintro σ fz2 H' ⟨vo2,no2,Ho2,rfl,hle2,rfl,hG2,hno2⟩
   obtain ⟨Ao2,co2,rfl,_,_⟩:=hG2.form

   ((repeat (first | refine zS ?_ | refine zA fun _=>?_)))
   refine YD (fun q σ fz' H'=>∃ (k:Nat) (vl:Value) (Hl:HP),k≤n2∧q=n2 - k∧σ=[(5,.int .i64 k),(4,vl),(3,.slice Ao2 no2 co2),(2,.pointer (some ⟨g2,0,none⟩)),(1,.pointer (some ⟨g0,0,none⟩))]∧Le fz2 fz'∧H'=(g0,.cells #[.string p.name,.string p.domain,.slice A1 n1 b1,.slice A2 n2 b2,.slice A3 n3 b3,.string p.goal.op,.string p.goal.name,.slice A4 n4 b4,.slice A5 n5 b5,.slice A6 n6 b6,.slice A7 n7 b7] 38 (0,0))::(g2,.cells #[.int .i64 0,.int .i64 0,.int .i64 0,.int .i64 0,.string ⟨#[]⟩,.slice none 0 0] 64 (0,0))::(Ho2++Hl)∧Grow YF 64 fz' vl k Hl ((p.init.take k).map Xs))
    ⟨0,_,[],Nat.zero_le _,rfl,rfl,Le.refl _,(by rw [List.append_nil]),Grow.nil _ _ _⟩ (Zw) (Zb) ?_
   rintro q σ fz' H' ⟨k,vl,Hl,hk,rfl,rfl,hlk,rfl,hL⟩
   obtain ⟨Al,cl,rfl,_,_⟩:=hL.form
   have ik:=ii.mono (hle2.trans hlk)
   ((repeat (first | refine zS ?_ | refine zA fun _=>?_)))
   ((refine zG ?_;refine zC (fun c1=>?_) (fun c1=>?_)))
   ·obtain ⟨x,hx⟩:=YG (l:=p.init) (k:=k) Zi
    have hxm:=List.mem_of_getElem? hx
    ((repeat (first | refine zS ?_ | refine zA fun _=>?_)))
    (((refine zG ?_));refine YA T k Zz Zz Zz Zz Zz Zz ik (by first | rfl | omega) hx (fun a ha=>?_))
    (((refine zG ?_));refine Yx T Zz Zz Zz ha Zz ?_)
    intro cs hcs
    obtain ⟨va,rfl,hRx⟩:=WX hcs
    ((repeat (first | refine zS ?_ | refine zA fun _=>?_)))
    (refine Yb Zz (YB [] _ Zz Zz Zz (Yh9 hRx (hs.sm.inits x hxm)) (fun v6 fz6 H6 hle6 hR6=>?_)))
    obtain ⟨rfl,hx6⟩:=hR6
    obtain ⟨A8,m8,c8,rfl,hX8⟩:=hx6.x
    refine Yb Zz (Yc T (cs:=[.int .i64 (Xj x.name x.args).kind,.int .i64 (Xj x.name x.args).value,.int .i64 (Xj x.name x.args).line,.int .i64 (Xj x.name x.args).column,.string (Xj x.name x.args).text,.slice A8 m8 c8]) Zz Zz Zz Zz Zz Zz Zz Zz (fun gb=>?_))
    refine Yb Zz (Y3 T (Hr:=_::_::_::Ho2) (d:=Xs x) Zz Zz Zz Zz Zz Zz Zz Zz (List.Perm.refl _) (hL.mono hle6) Yn (.head _) (Yg hX8) (by show _*72≤_;omega) Zi (fun v' Hs' hO'=>?_))
    obtain ⟨Av',cv',rfl,_,_⟩:=hO'.form
    ((repeat (first | refine zS ?_ | refine zA fun _=>?_)))
    exact YP ⟨k+1,_,Hs',by omega,rfl,rfl,hlk.trans hle6,rfl,hO'.of (by rw [List.take_add_one,hx];simp) rfl⟩ Zi (Zw) (Zb)
   ·have hk1:n2=k:=by omega
    subst hk1
    rw [show p.init.take n2=p.init from List.take_of_length_le Zi] at hL
    ((repeat (first | refine zS ?_ | refine zA fun _=>?_)))
    refine YD (fun q σ fz'' H'=>∃ (j:Nat) (vl:Value) (Hl:HP),j≤n3∧q=n3 - j∧σ=[(6,.int .i64 j),(4,vl),(3,.slice Ao2 no2 co2),(2,.pointer (some ⟨g2,0,none⟩)),(1,.pointer (some ⟨g0,0,none⟩))]∧Le fz' fz''∧H'=(g0,.cells #[.string p.name,.string p.domain,.slice A1 n1 b1,.slice A2 n2 b2,.slice A3 n3 b3,.string p.goal.op,.string p.goal.name,.slice A4 n4 b4,.slice A5 n5 b5,.slice A6 n6 b6,.slice A7 n7 b7] 38 (0,0))::(g2,.cells #[.int .i64 0,.int .i64 0,.int .i64 0,.int .i64 0,.string ⟨#[]⟩,.slice none 0 0] 64 (0,0))::(Ho2++Hl)∧Grow YF 64 fz'' vl (n2+j) Hl (p.init.map Xs++(p.values.take j).map valX))
     ⟨0,_,_,Nat.zero_le _,rfl,rfl,Le.refl _,rfl,hL.of (by simp) rfl⟩ (Zw) (Zb) ?_
    rintro q σ fz'' H' ⟨j,vl,Hl,hj,rfl,rfl,hlj,rfl,hM⟩
    obtain ⟨Al,cl,rfl,_,_⟩:=hM.form
    have ij:=iv.mono (hle2.trans (hlk.trans hlj))
    ((repeat (first | refine zS ?_ | refine zA fun _=>?_)))
    ((refine zG ?_;refine zC (fun c2=>?_) (fun c2=>?_)))
    ·obtain ⟨x,hx⟩:=YG (l:=p.values) (k:=j) Zi
     have hxm:=List.mem_of_getElem? hx
     ((repeat (first | refine zS ?_ | refine zA fun _=>?_)))
     (refine Wp.drawK (Hq:=[_]) T.mixed Zj Zj (Zb) ?_)
     ((repeat (first | refine zS ?_ | refine zA fun _=>?_)))
     (((refine zG ?_));refine YA T j Zz Zz Zz Zz Zz Zz ij (by first | rfl | omega) hx (fun a ha=>?_))
     ((repeat (first | refine zS ?_ | refine zA fun _=>?_)))
     (((refine zG ?_));refine Yx T Zz Zz Zz ha.Value__fluent Zz ?_)
     intro cs hcs
     obtain ⟨va,rfl,hRx⟩:=WX hcs
     (refine Ye ?_)
     ((repeat (first | refine zS ?_ | refine zA fun _=>?_)))
     (((refine zG ?_));refine YA T j Zz Zz Zz Zz Zz Zz ij (by first | rfl | omega) hx (fun b hb=>?_))
     ((repeat (first | refine zS ?_ | refine zA fun _=>?_)))
     (((refine zG ?_));refine YcK T Zz Zz Zz hb.Value__n (fun in1=>?_))
     ((repeat (first | refine zS ?_ | refine zA fun _=>?_)))
     (refine Ye ?_)
     (refine Ye ?_)
     (refine Ye ?_)
     (refine Ye ?_)
     (refine Ye ?_)
     (refine YR ⟨by kernel_rfl,?_⟩)
     refine Ys (YB [] _ Zz Zz Zz (Yh9 hRx (hs.sm.vals x hxm)) (fun v6 fz6 H6 hle6 hR6=>?_))
     obtain ⟨rfl,hx6⟩:=hR6
     obtain ⟨A8,m8,c8,rfl,hX8⟩:=hx6.x
     refine ⟨(⟨hle6,Zp1⟩),?_⟩
     refine Ys (Yc T (cs:=[.int .i64 (Xj x.fluent.name x.fluent.args).kind,.int .i64 (Xj x.fluent.name x.fluent.args).value,.int .i64 (Xj x.fluent.name x.fluent.args).line,.int .i64 (Xj x.fluent.name x.fluent.args).column,.string (Xj x.fluent.name x.fluent.args).text,.slice A8 m8 c8]++ [.int .i64 2,.int .i64 x.n,.int .i64 0,.int .i64 0,.string ⟨#[]⟩,.slice none 0 0]) Zz Zz Zz Zz Zz Zz Zz Zz (fun gb=>⟨(⟨hle6,Zp1⟩),?_⟩))
     refine Ys (Does.freezeAll (H1:=(g0,_)::(g2,_)::(Ho2++Hl)) (H2:=[(gb,_)]) (List.perm_append_singleton _ _).symm (fun fzb hlb hfb=>?_))
     refine YB [] _ Zz Zz Zz (Ya8 (s:=kEq) (YK Zh) (Xt (l:=[Xs x.fluent,numE x.n]) (ys:=[(Xs x.fluent,[.int .i64 (Xj x.fluent.name x.fluent.args).kind,.int .i64 (Xj x.fluent.name x.fluent.args).value,.int .i64 (Xj x.fluent.name x.fluent.args).line,.int .i64 (Xj x.fluent.name x.fluent.args).column,.string (Xj x.fluent.name x.fluent.args).text,.slice A8 m8 c8]),(numE x.n,[.int .i64 2,.int .i64 x.n,.int .i64 0,.int .i64 0,.string ⟨#[]⟩,.slice none 0 0])]) (hfb _ (.head _)) rfl rfl (by intro p hp;simp only [List.mem_cons,List.not_mem_nil,or_false] at hp;rcases hp with rfl | rfl;exact Yg (hX8.mono hlb);exact Yg (YeD in1)) rfl (by simp)) (by simp)) (fun v7 fz7 H7 hle7 hR7=>?_)
     obtain ⟨rfl,hx7⟩:=hR7
     obtain ⟨A9,m9,c9,rfl,hX9⟩:=hx7.x
     have hc9:=hle6.trans (hlb.trans hle7)
     refine ⟨(⟨hc9,Zp1⟩),?_⟩
     refine Ys (Yc T (cs:=[.int .i64 (Yv [Yd kEq,Xs x.fluent,numE x.n]).kind,.int .i64 (Yv [Yd kEq,Xs x.fluent,numE x.n]).value,.int .i64 (Yv [Yd kEq,Xs x.fluent,numE x.n]).line,.int .i64 (Yv [Yd kEq,Xs x.fluent,numE x.n]).column,.string (Yv [Yd kEq,Xs x.fluent,numE x.n]).text,.slice A9 m9 c9]) Zz Zz Zz Zz Zz Zz Zz Zz (fun gc=>⟨(⟨hc9,Zp1⟩),?_⟩))
     refine Ys (Y3 T (Hr:=_::_::_::Ho2) (d:=valX x) Zz Zz Zz Zz Zz Zz Zz Zz (List.Perm.refl _) (hM.mono hc9) Yn (.head _) (Yg hX9) (by show _*72≤_;omega) Zi (fun v' Hs' hO'=>⟨(⟨hc9,Zp1⟩),?_⟩))
     obtain ⟨Av',cv',rfl,_,_⟩:=hO'.form
     refine Ch.qk (⟨hc9,Zp1⟩) (Xk Zz ?_)
     refine Ch.done ?_
     ((repeat (first | refine zS ?_ | refine zA fun _=>?_)))
     exact YP ⟨j+1,_,Hs',by omega,rfl,rfl,hlj.trans hc9,rfl,hO'.of (by rw [List.take_add_one,hx];simp) rfl⟩ Zi (Zw) (Zb)
    ·have hk1:n3=j:=by omega
     subst hk1
     rw [show p.values.take n3=p.values from List.take_of_length_le Zi] at hM
     have hle3:=hle2.trans (hlk.trans hlj)
     ((repeat (first | refine zSX ?_ | refine zA fun _=>?_)))
     refine Yr (Wp.mid (fun σ fz' H'=>∃ (vo:Value) (no:Nat) (Ho:HP),σ=[(3,vo),(2,.pointer (some ⟨g2,0,none⟩)),(1,.pointer (some ⟨g0,0,none⟩))]∧Le fz fz'∧H'=(g0,.cells #[.string p.name,.string p.domain,.slice A1 n1 b1,.slice A2 n2 b2,.slice A3 n3 b3,.string p.goal.op,.string p.goal.name,.slice A4 n4 b4,.slice A5 n5 b5,.slice A6 n6 b6,.slice A7 n7 b7] 38 (0,0))::(g2,.cells #[.int .i64 0,.int .i64 0,.int .i64 0,.int .i64 0,.string ⟨#[]⟩,.slice none 0 0] 64 (0,0))::Ho∧Grow YF 64 fz' vo no Ho ([Yv [Yd YW,Yd p.name],Yv [Yd YE,Yd p.domain]]++grp Xa (XV p.objects)++grp YaQ (p.init.map Xs++p.values.map valX))∧no≤9) ?_ ?_)
     ·((repeat (first | refine zS ?_ | refine zA fun _=>?_)))
      ((refine zG ?_;refine zC (fun e1=>?_) (fun e1=>?_)))
      ·have hne:p.init.map Xs++p.values.map valX≠ []:=fun h0=>by have:=congrArg List.length h0;simp only [List.length_append,List.length_map,List.length_nil] at this;omega
       ((repeat (first | refine zSN ?_ | refine zA fun _=>?_)))
       refine Seq.freezeAll (H1:=(g0,_)::(g2,_)::Ho2) (H2:=Hl) (List.Perm.refl _) (fun fzq hlq hfq=>?_)
       obtain ⟨Aq,cq,heq,hsq⟩:=hM.sl hlq hfq Zi
       injection heq with q1 q2 q3
       subst q1 q3
       (refine Yb Zz (YB [] _ Zz Zz Zz (Ya8 (s:=YaQ) (YK Zh) hsq Zi) (fun v7 fz7 H7 hle7 hR7=>?_)))
       obtain ⟨rfl,hx7⟩:=hR7
       obtain ⟨A9,m9,c9,rfl,hX9⟩:=hx7.x
       refine Yb Zz (Yc T (cs:=[.int .i64 (Yv (Yd YaQ::(p.init.map Xs++p.values.map valX))).kind,.int .i64 (Yv (Yd YaQ::(p.init.map Xs++p.values.map valX))).value,.int .i64 (Yv (Yd YaQ::(p.init.map Xs++p.values.map valX))).line,.int .i64 (Yv (Yd YaQ::(p.init.map Xs++p.values.map valX))).column,.string (Yv (Yd YaQ::(p.init.map Xs++p.values.map valX))).text,.slice A9 m9 c9]) Zz Zz Zz Zz Zz Zz Zz Zz (fun gb=>?_))
       refine Yb Zz (Y3 T (Hr:=[_,_,_]) (d:=Yv (Yd YaQ::(p.init.map Xs++p.values.map valX))) Zz Zz Zz Zz Zz Zz Zz Zz (List.Perm.refl _) (hG2.mono (hlk.trans (hlj.trans (hlq.trans hle7)))) Yn (.head _) (Yg hX9) (by show _*72≤_;omega) Zi (fun v' Hs' hO'=>?_))
       obtain ⟨Av',cv',rfl,_,_⟩:=hO'.form
       ((repeat (first | refine zS ?_ | refine zA fun _=>?_)))
       exact midN ⟨_,_,Hs',rfl,hle3.trans (hlq.trans hle7),rfl,hO'.of (by rw [YdY hne]) rfl,by omega⟩ (Zw) (Zb)
      ·have hnil:p.init.map Xs++p.values.map valX=[]:=by rw [List.eq_nil_of_length_eq_zero (l:=p.init) Zi,List.eq_nil_of_length_eq_zero (l:=p.values) Zi];rfl
       refine Seq.freezeAll (H1:=(g0,_)::(g2,_)::Ho2) (H2:=Hl) (List.Perm.refl _) (fun fzq hlq hfq=>?_)
       ((repeat (first | refine zS ?_ | refine zA fun _=>?_)))
       exact midN ⟨_,_,_,rfl,hle3.trans hlq,rfl,(hG2.mono (hlk.trans (hlj.trans hlq))).of (by rw [hnil,Ybv,List.append_nil]) rfl,by omega⟩ (Zw) (Zb)
     ·rintro σ fz4 H' ⟨vo3,no3,Ho3,rfl,hle4,rfl,hG3,hno3⟩
      obtain ⟨Ao3,co3,rfl,_,_⟩:=hG3.form
      ((repeat (first | refine zSX ?_ | refine zA fun _=>?_)))
      refine Yr (Wp.mid (fun σ fz' H'=>∃ (vo:Value) (no:Nat) (Ho:HP),σ=[(3,vo),(2,.pointer (some ⟨g2,0,none⟩)),(1,.pointer (some ⟨g0,0,none⟩))]∧Le fz fz'∧H'=(g0,.cells #[.string p.name,.string p.domain,.slice A1 n1 b1,.slice A2 n2 b2,.slice A3 n3 b3,.string p.goal.op,.string p.goal.name,.slice A4 n4 b4,.slice A5 n5 b5,.slice A6 n6 b6,.slice A7 n7 b7] 38 (0,0))::(g2,.cells #[.int .i64 0,.int .i64 0,.int .i64 0,.int .i64 0,.string ⟨#[]⟩,.slice none 0 0] 64 (0,0))::Ho∧Grow YF 64 fz' vo no Ho ([Yv [Yd YW,Yd p.name],Yv [Yd YE,Yd p.domain]]++grp Xa (XV p.objects)++grp YaQ (p.init.map Xs++p.values.map valX)++YdZ p.goal)∧no≤10) ?_ ?_)
      ·((repeat (first | refine zS ?_ | refine zA fun _=>?_)))
       (((refine zG ?_));refine YJ (vs:=[.string p.goal.op,.string p.goal.name,.slice A4 n4 b4,.slice A5 n5 b5,.slice A6 n6 b6,.slice A7 n7 b7]) T 0 Zz Zz Zz Zz Zz Zz ?_)
       (((refine zG ?_));refine Yz Zz Zz (true9_q (h.goal.mono hle4)) (fun e1=>?_) (fun e1=>?_))
       ·have hgo:YdZ p.goal=[]:=if_pos (of_decide_eq_true e1)
        ((repeat (first | refine zS ?_ | refine zA fun _=>?_)))
        exact midN ⟨_,_,_,rfl,hle4,rfl,hG3.of (by rw [hgo,List.append_nil]) rfl,by omega⟩ (Zw) (Zb)
       ·have hgo:YdZ p.goal=[Yv [Yd Yac,YN p.goal]]:=if_neg (of_decide_eq_false e1)
        ((repeat (first | refine zS ?_ | refine zA fun _=>?_)))
        (((refine zG ?_));refine YJ (vs:=[.string p.goal.op,.string p.goal.name,.slice A4 n4 b4,.slice A5 n5 b5,.slice A6 n6 b6,.slice A7 n7 b7]) T 0 Zz Zz Zz Zz Zz Zz ?_)
        (refine Yb Zz (YB [] _ Zz Zz Zz (YjL (h.goal.mono hle4) hF) (fun v6 fz6 H6 hle6 hR6=>?_)))
        obtain ⟨rfl,hx6⟩:=hR6
        obtain ⟨A8,m8,c8,rfl,hX8⟩:=hx6.x
        refine Yb Zz (Yc T (cs:=[.int .i64 (YN p.goal).kind,.int .i64 (YN p.goal).value,.int .i64 (YN p.goal).line,.int .i64 (YN p.goal).column,.string (YN p.goal).text,.slice A8 m8 c8]) Zz Zz Zz Zz Zz Zz Zz Zz (fun gb=>?_))
        refine Seq.freezeAll (H1:=(g0,_)::(g2,_)::Ho3) (H2:=[(gb,_)]) (List.perm_append_singleton _ _).symm (fun fzb hlb hfb=>?_)
        (refine Yb Zz (YB [] _ Zz Zz Zz (Ya8 (s:=Yac) (YK Zh) (Xt (l:=[YN p.goal]) (ys:=[(YN p.goal,[.int .i64 (YN p.goal).kind,.int .i64 (YN p.goal).value,.int .i64 (YN p.goal).line,.int .i64 (YN p.goal).column,.string (YN p.goal).text,.slice A8 m8 c8])]) (hfb _ (.head _)) rfl rfl (by simpa using Yg (hX8.mono hlb)) rfl (by simp)) (by simp)) (fun v7 fz7 H7 hle7 hR7=>?_)))
        obtain ⟨rfl,hx7⟩:=hR7
        obtain ⟨A9,m9,c9,rfl,hX9⟩:=hx7.x
        have hc9:=hle6.trans (hlb.trans hle7)
        refine Yb Zz (Yc T (cs:=[.int .i64 (Yv [Yd Yac,YN p.goal]).kind,.int .i64 (Yv [Yd Yac,YN p.goal]).value,.int .i64 (Yv [Yd Yac,YN p.goal]).line,.int .i64 (Yv [Yd Yac,YN p.goal]).column,.string (Yv [Yd Yac,YN p.goal]).text,.slice A9 m9 c9]) Zz Zz Zz Zz Zz Zz Zz Zz (fun gc=>?_))
        refine Yb Zz (Y3 T (Hr:=[_,_,_]) (d:=Yv [Yd Yac,YN p.goal]) Zz Zz Zz Zz Zz Zz Zz Zz (List.Perm.refl _) (hG3.mono hc9) Yn (.head _) (Yg hX9) (by show _*72≤_;omega) Zi (fun v' Hs' hO'=>?_))
        obtain ⟨Av',cv',rfl,_,_⟩:=hO'.form
        ((repeat (first | refine zS ?_ | refine zA fun _=>?_)))
        exact midN ⟨_,_,Hs',rfl,hle4.trans hc9,rfl,hO'.of (by rw [hgo]) rfl,by omega⟩ (Zw) (Zb)
      ·rintro σ fz5 H' ⟨vo4,no4,Ho4,rfl,hle5,rfl,hG4,hno4⟩
       obtain ⟨Ao4,co4,rfl,_,_⟩:=hG4.form
       ((repeat (first | refine zS ?_ | refine zA fun _=>?_)))
       refine Seq.freezeAll (H1:=[_,_]) (H2:=Ho4) (List.Perm.refl _) (fun fzq hlq hfq=>?_)
       obtain ⟨Aq,cq,heq,hsq⟩:=hG4.sl hlq hfq Zi
       injection heq with q1 q2 q3
       subst q1 q3
       (refine Yb Zz (YB [] _ Zz Zz Zz (Ya8 (s:=YL) (YK Zh) hsq Zi) (fun v8 fz8 H8 hle8 hR8=>?_)))
       obtain ⟨rfl,hx8⟩:=hR8
       obtain ⟨A9,m9,c9,rfl,hX9⟩:=hx8.x
       ((repeat (first | refine zS ?_ | refine zA fun _=>?_)))
       refine Y4 T (i:=1) rfl Zz Zz Zz Zz Zz (fun fz6 hle6 hf6=>⟨rfl,?_⟩)
       exact ⟨_,rfl,Yg (x:=prbX p) (hX9.mono hle6)⟩
end Go.Proofs.YtbhlgkibgajajaaGreatDoor
