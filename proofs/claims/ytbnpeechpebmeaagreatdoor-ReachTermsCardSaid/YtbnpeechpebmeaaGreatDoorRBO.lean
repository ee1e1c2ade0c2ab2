/- The texts PWalkW, PCX, QU, Mk, laid together. Conditions: none. -/
import Derived.Test.YtbnpeechpebmeaaGreatDoorRBN
set_option linter.all false
noncomputable section
set_option maxRecDepth 20000
namespace Go.Proofs.YtbnpeechpebmeaaGreatDoor
open Go.Lx Go.RowKit
attribute [local instance 10] Classical.propDecidable
open Go.Proofs.Tryz (prog)
def Xw:Bs:=⟨#[112,114,111,98,108,101,109]⟩
def Y0:Bs:=⟨#[58,100,111,109,97,105,110]⟩
def X4:Bs:=⟨#[58,111,98,106,101,99,116,115]⟩
def Yfc:Bs:=⟨#[58,105,110,105,116]⟩
def Yb9:Bs:=⟨#[58,103,111,97,108]⟩
def Yac (a:Atom):Sexpr:=XT a.name a.args
def valX (v:Value_):Sexpr:=YH [Yh kEq,Yac v.fluent,numE v.n]
def Yko (f:Formula):List Sexpr:=if f.op=kAnd∧f.kids=[] then [] else [YH [Yh Yb9,Y9 f]]
def prbX (p:Problem):Sexpr:=YH ([Yh YQ,YH [Yh Xw,Yh p.name],YH [Yh Y0,Yh p.domain]]++grp X4 (WV p.objects)++grp Yfc (p.init.map Yac++p.values.map valX)++Yko p.goal)
structure PrbSm (p:Problem):Prop where
 objects:p.objects.length≤1000000000
 init:p.init.length≤1000000000
 inits:∀ a∈p.init,a.args.length≤1000000000
 values:p.values.length≤1000000000
 vals:∀ v∈p.values,v.fluent.args.length≤1000000000
 goal:FSm p.goal
def glO (x:Sexpr) (vk:Value):Obj:=.cells #[.int .i64 x.kind,.int .i64 x.value,.int .i64 x.line,.int .i64 x.column,.string x.text,vk] 74 (0,0)
variable {fz:FZ}
theorem Ya0 {a b:Bs} {gb gc:Nat} (ha:Short a) (hb:Short b)
 (h1:fz gb=some (.cells (Yr Xw++Yr a).toArray 74 (0,0)))
 (h2:fz gc=some (.cells (Yr Y0++Yr b).toArray 74 (0,0))):
 ∀ p∈ [(Yh YQ,Yr YQ),(YH [Yh Xw,Yh a],[.int .i64 3,.int .i64 0,.int .i64 0,.int .i64 0,.string ⟨#[]⟩,.slice (some ⟨gb,0,none⟩) 2 2]),(YH [Yh Y0,Yh b],[.int .i64 3,.int .i64 0,.int .i64 0,.int .i64 0,.string ⟨#[]⟩,.slice (some ⟨gc,0,none⟩) 2 2])],YL.rep fz p.1 p.2:=by
 intro p hp
 simp only [List.mem_cons,List.not_mem_nil,or_false] at hp
 rcases hp with rfl | rfl | rfl
 ·exact Yv (YR Zh)
 ·exact Yi (XR (Xg (ys:=[(Yh Xw,Yr Xw),(Yh a,Yr a)]) h1 rfl rfl (by intro p hp;simp only [List.mem_cons,List.not_mem_nil,or_false] at hp;rcases hp with rfl | rfl;exact Yv (YR Zh);exact Yv ha) rfl Zh))
 ·exact Yi (XR (Xg (ys:=[(Yh Y0,Yr Y0),(Yh b,Yr b)]) h2 rfl rfl (by intro p hp;simp only [List.mem_cons,List.not_mem_nil,or_false] at hp;rcases hp with rfl | rfl;exact Yv (YR Zh);exact Yv hb) rfl Zh))
variable {p:Problem} {v1 v2 v3 v4 v5 v6 v7:Value}
set_option maxHeartbeats 8000000 in
theorem pWrite_q (h:ProblemR fz p v1 v2 v3 v4 v5 v6 v7) (hs:PrbSm p):
 GFn prog 18 [.agg #[.string p.name,.string p.domain,v1,v2,v3,.string p.goal.op,.string p.goal.name,v4,v5,v6,v7]] fz [] (WrR (FVal p.goal∧PrbOk p∧XVal (prbX p)) (prbX p)):=by
 obtain ⟨A1,n1,b1,rfl,io⟩:=h.objects
 obtain ⟨A2,n2,b2,rfl,ii⟩:=h.init
 obtain ⟨A3,n3,b3,rfl,iv⟩:=h.values
 obtain ⟨A4,n4,b4,rfl,_⟩:=h.goal.args
 obtain ⟨A5,n5,b5,rfl,_⟩:=h.goal.params
 obtain ⟨A6,n6,b6,rfl,_⟩:=h.goal.exprs
 obtain ⟨A7,n7,b7,rfl,i7⟩:=h.goal.kids
 have lo:=io.len
 have li:=ii.len
 have lv:=iv.len
 have mo:=hs.objects
 have mi:=hs.init
 have mv:=hs.values
 refine zF Tryz.func18 Tryz.ntmps18 (fun w0=>?_)
 refine Yp (Yq (Yb Zz (Y3 _ Zz Zz (fun g1=>?_))))
 refine zWO ?_;intros
 rename_i g2
 refine zW ?_;intros
 ((refine zG ?_);refine Yn (vs:=[.string p.goal.op,.string p.goal.name,.slice A4 n4 b4,.slice A5 n5 b5,.slice A6 n6 b6,.slice A7 n7 b7]) T 1 Zz Zz Zz Zz Zz Zz ?_)
 refine Yb Zz (Yl [] _ Zz Zz Zz (YjD h.goal hs.goal) (fun v8 fz8 H8 hle8 hR8=>?_))
 obtain ⟨rfl,u,y,rfl,⟨cs,rfl,hr⟩,hyx⟩:=hR8
 obtain ⟨vk6,rfl,hX⟩:=YG hr
 obtain ⟨A8,n8,b8,rfl,i8⟩:=hX.kids
 by_cases hP:FVal p.goal
 ·obtain rfl:=hyx hP
  rw [if_pos hP]
  refine zW ?_;intros
  rename_i g4
  refine zb (Ygw (h.mono hle8)) (fun f1=>?_) (fun f1=>?_)
  ·have hE:=Zt f1
   refine zWX ?_;intros
   refine Yp (Wp.mid (fun σ fz' H'=>∃ (g6:Nat) (v:Value) (Hs:HP),σ=[(6,.pointer (some ⟨g6,0,none⟩)),(4,.pointer (some ⟨g4,0,none⟩)),(2,.pointer (some ⟨g2,0,none⟩)),(1,.pointer (some ⟨g1,0,none⟩))]∧Le fz8 fz'∧H'=(g6,lsO v)::(g1,.cells #[.string p.name,.string p.domain,.slice A1 n1 b1,.slice A2 n2 b2,.slice A3 n3 b3,.string p.goal.op,.string p.goal.name,.slice A4 n4 b4,.slice A5 n5 b5,.slice A6 n6 b6,.slice A7 n7 b7] 52 (0,0))::(g2,.cells #[.int .i64 0,.int .i64 0,.int .i64 0,.int .i64 0,.string ⟨#[]⟩,.slice none 0 0] 74 (0,0))::(g4,glO (Y9 p.goal) (.slice A8 n8 b8))::Hs∧Grow YL 74 fz' v 3 Hs [Yh YQ,YH [Yh Xw,Yh p.name],YH [Yh Y0,Yh p.domain]]) ?_ ?_)
   ·have hnm:=h.name
    have hdm:=h.domain
    refine Wp.drawP [] (Hq:=[(g1,_)]) T.mixed Zj Zj Zb ?_
    refine zW ?_;intros
    refine zc (Wy (s:=YQ)) ?_
    refine zW ?_;intros
    refine zc (Wy (s:=Xw)) ?_
    refine zW ?_;intros
    refine zc (Wy (s:=p.name)) ?_
    refine zW ?_;intros
    refine Yf ?_
    refine Yf ?_
    refine Yf ?_
    refine zW ?_;intros
    refine zc (Wy (s:=p.domain)) ?_
    unfold sxV
    refine Yf ?_
    refine Yf ?_
    refine Yf ?_
    refine Yf ?_
    refine Yf ?_
    refine Yf ?_
    refine PK.done ⟨by kernel_rfl,?_⟩
    refine Ys Zz Zz Zz ?_ ?_
    ·refine Yd (Yc T (cs:=Yr Xw++Yr p.name) Zz Zz Zz Zz Zz Zz Zz Zz (fun gb=>⟨(⟨(Le.refl _),Zx⟩),?_⟩))
     refine Ys Zz Zz Zz ?_ ?_
     ·refine PoS.qk (⟨(Le.refl _),Zx⟩) (YB Zz Zz XB ?_)
      unfold sxV
      refine Ys Zz Zz Zz ?_ ?_
      ·refine PoS.qk (⟨(Le.refl _),Zx⟩) (YB Zz Zz (Wy (s:=Y0)) ?_)
       unfold sxV
       refine Ys Zz Zz Zz ?_ ?_
       ·refine Yd (Yc T (cs:=Yr Y0++Yr p.domain) Zz Zz Zz Zz Zz Zz Zz Zz (fun gc=>⟨(⟨(Le.refl _),Zx⟩),?_⟩))
        refine Ys Zz Zz Zz ?_ ?_
        ·refine PoS.qk (⟨(Le.refl _),Zx⟩) (YB Zz Zz XB ?_)
         unfold sxV
         refine Ys Zz Zz Zz ?_ ?_
         ·refine Yd (Yc T (cs:=Yr YQ++([.int .i64 3,.int .i64 0,.int .i64 0,.int .i64 0,.string ⟨#[]⟩,.slice (some ⟨gb,0,none⟩) 2 2]++ [.int .i64 3,.int .i64 0,.int .i64 0,.int .i64 0,.string ⟨#[]⟩,.slice (some ⟨gc,0,none⟩) 2 2])) Zz Zz Zz Zz Zz Zz Zz Zz (fun gd=>⟨(⟨(Le.refl _),Zx⟩),?_⟩))
          refine Ys Zz Zz Zz ?_ ?_
          ·refine PoS.qk (⟨(Le.refl _),Zx⟩) (YB Zz Zz XB ?_)
           unfold sxV
           refine Ya Zz Zz ?_
           refine Yd (YI T Zz Zz (fun g6=>⟨(⟨(Le.refl _),Zx⟩),?_⟩))
           refine Ya Zz Zz ?_
           refine PoS.hard0 Zj (Does.perm (Xb [0,6,5,4,1,2,3] Zz Zz) (Yy T Zz Zz Zz Zz Zz Zz ?_))
           refine Po.done ?_
           refine zW ?_;intros
           refine midF (H':=[(g6,_),(g1,_),(g2,_),(g4,_),(gd,_)]) (H2:=[(gb,_),(gc,_)]) (Xb [0,1,2,3,4,6,5] Zz Zz) (fun fz3 hl3 hf3=>⟨g6,_,[(gd,_)],rfl,hl3,rfl,Grow.block (m:=3) (ys:=[(Yh YQ,Yr YQ),(YH [Yh Xw,Yh p.name],[.int .i64 3,.int .i64 0,.int .i64 0,.int .i64 0,.string ⟨#[]⟩,.slice (some ⟨gb,0,none⟩) 2 2]),(YH [Yh Y0,Yh p.domain],[.int .i64 3,.int .i64 0,.int .i64 0,.int .i64 0,.string ⟨#[]⟩,.slice (some ⟨gc,0,none⟩) 2 2])]) rfl rfl ?_ rfl Zh⟩) Zw
           exact Ya0 hnm hdm (hf3 _ (.head _)) (hf3 _ (.tail _ (.head _)))
          ·refine Yd (YI T Zz Zz (fun g6=>⟨(⟨(Le.refl _),Zx⟩),?_⟩))
           refine Ya Zz Zz ?_
           refine PoS.qk (⟨(Le.refl _),Zx⟩) (YB Zz Zz XB ?_)
           unfold sxV
           refine Ya Zz Zz ?_
           refine PoS.hard0 Zj (Does.perm (Xb [0,6,5,4,1,2,3] Zz Zz) (Yy T Zz Zz Zz Zz Zz Zz ?_))
           refine Po.done ?_
           refine zW ?_;intros
           refine midF (H':=[(g6,_),(g1,_),(g2,_),(g4,_),(gd,_)]) (H2:=[(gb,_),(gc,_)]) (Xb [0,1,2,3,4,6,5] Zz Zz) (fun fz3 hl3 hf3=>⟨g6,_,[(gd,_)],rfl,hl3,rfl,Grow.block (m:=3) (ys:=[(Yh YQ,Yr YQ),(YH [Yh Xw,Yh p.name],[.int .i64 3,.int .i64 0,.int .i64 0,.int .i64 0,.string ⟨#[]⟩,.slice (some ⟨gb,0,none⟩) 2 2]),(YH [Yh Y0,Yh p.domain],[.int .i64 3,.int .i64 0,.int .i64 0,.int .i64 0,.string ⟨#[]⟩,.slice (some ⟨gc,0,none⟩) 2 2])]) rfl rfl ?_ rfl Zh⟩) Zw
           exact Ya0 hnm hdm (hf3 _ (.head _)) (hf3 _ (.tail _ (.head _)))
         ·refine Yd (YI T Zz Zz (fun g6=>⟨(⟨(Le.refl _),Zx⟩),?_⟩))
          refine Ya Zz Zz ?_
          refine Yd (Yc T (cs:=Yr YQ++([.int .i64 3,.int .i64 0,.int .i64 0,.int .i64 0,.string ⟨#[]⟩,.slice (some ⟨gb,0,none⟩) 2 2]++ [.int .i64 3,.int .i64 0,.int .i64 0,.int .i64 0,.string ⟨#[]⟩,.slice (some ⟨gc,0,none⟩) 2 2])) Zz Zz Zz Zz Zz Zz Zz Zz (fun gd=>⟨(⟨(Le.refl _),Zx⟩),?_⟩))
          refine Ya Zz Zz ?_
          refine PoS.qk (⟨(Le.refl _),Zx⟩) (YB Zz Zz XB ?_)
          unfold sxV
          refine Ya Zz Zz ?_
          refine PoS.hard0 Zj (Does.perm (Xb [1,6,5,4,0,2,3] Zz Zz) (Yy T Zz Zz Zz Zz Zz Zz ?_))
          refine Po.done ?_
          refine zW ?_;intros
          refine midF (H':=[(g6,_),(g1,_),(g2,_),(g4,_),(gd,_)]) (H2:=[(gb,_),(gc,_)]) (Xb [0,1,2,3,4,6,5] Zz Zz) (fun fz3 hl3 hf3=>⟨g6,_,[(gd,_)],rfl,hl3,rfl,Grow.block (m:=3) (ys:=[(Yh YQ,Yr YQ),(YH [Yh Xw,Yh p.name],[.int .i64 3,.int .i64 0,.int .i64 0,.int .i64 0,.string ⟨#[]⟩,.slice (some ⟨gb,0,none⟩) 2 2]),(YH [Yh Y0,Yh p.domain],[.int .i64 3,.int .i64 0,.int .i64 0,.int .i64 0,.string ⟨#[]⟩,.slice (some ⟨gc,0,none⟩) 2 2])]) rfl rfl ?_ rfl Zh⟩) Zw
          exact Ya0 hnm hdm (hf3 _ (.head _)) (hf3 _ (.tail _ (.head _)))
        ·refine Yd (YI T Zz Zz (fun g6=>⟨(⟨(Le.refl _),Zx⟩),?_⟩))
         refine Ya Zz Zz ?_
         refine PoS.qk (⟨(Le.refl _),Zx⟩) (YB Zz Zz XB ?_)
         unfold sxV
         refine Ya Zz Zz ?_
         refine Yd (Yc T (cs:=Yr YQ++([.int .i64 3,.int .i64 0,.int .i64 0,.int .i64 0,.string ⟨#[]⟩,.slice (some ⟨gb,0,none⟩) 2 2]++ [.int .i64 3,.int .i64 0,.int .i64 0,.int .i64 0,.string ⟨#[]⟩,.slice (some ⟨gc,0,none⟩) 2 2])) Zz Zz Zz Zz Zz Zz Zz Zz (fun gd=>⟨(⟨(Le.refl _),Zx⟩),?_⟩))
         refine Ya Zz Zz ?_
         refine PoS.qk (⟨(Le.refl _),Zx⟩) (YB Zz Zz XB ?_)
         unfold sxV
         refine Ya Zz Zz ?_
         refine PoS.hard0 Zj (Does.perm (Xb [1,6,5,4,0,2,3] Zz Zz) (Yy T Zz Zz Zz Zz Zz Zz ?_))
         refine Po.done ?_
         refine zW ?_;intros
         refine midF (H':=[(g6,_),(g1,_),(g2,_),(g4,_),(gd,_)]) (H2:=[(gb,_),(gc,_)]) (Xb [0,1,2,3,4,6,5] Zz Zz) (fun fz3 hl3 hf3=>⟨g6,_,[(gd,_)],rfl,hl3,rfl,Grow.block (m:=3) (ys:=[(Yh YQ,Yr YQ),(YH [Yh Xw,Yh p.name],[.int .i64 3,.int .i64 0,.int .i64 0,.int .i64 0,.string ⟨#[]⟩,.slice (some ⟨gb,0,none⟩) 2 2]),(YH [Yh Y0,Yh p.domain],[.int .i64 3,.int .i64 0,.int .i64 0,.int .i64 0,.string ⟨#[]⟩,.slice (some ⟨gc,0,none⟩) 2 2])]) rfl rfl ?_ rfl Zh⟩) Zw
         exact Ya0 hnm hdm (hf3 _ (.head _)) (hf3 _ (.tail _ (.head _)))
       ·refine Yd (YI T Zz Zz (fun g6=>⟨(⟨(Le.refl _),Zx⟩),?_⟩))
        refine Ya Zz Zz ?_
        refine Yd (Yc T (cs:=Yr Y0++Yr p.domain) Zz Zz Zz Zz Zz Zz Zz Zz (fun gc=>⟨(⟨(Le.refl _),Zx⟩),?_⟩))
        refine Ya Zz Zz ?_
        refine PoS.qk (⟨(Le.refl _),Zx⟩) (YB Zz Zz XB ?_)
        unfold sxV
        refine Ya Zz Zz ?_
        refine Yd (Yc T (cs:=Yr YQ++([.int .i64 3,.int .i64 0,.int .i64 0,.int .i64 0,.string ⟨#[]⟩,.slice (some ⟨gb,0,none⟩) 2 2]++ [.int .i64 3,.int .i64 0,.int .i64 0,.int .i64 0,.string ⟨#[]⟩,.slice (some ⟨gc,0,none⟩) 2 2])) Zz Zz Zz Zz Zz Zz Zz Zz (fun gd=>⟨(⟨(Le.refl _),Zx⟩),?_⟩))
        refine Ya Zz Zz ?_
        refine PoS.qk (⟨(Le.refl _),Zx⟩) (YB Zz Zz XB ?_)
        unfold sxV
        refine Ya Zz Zz ?_
        refine PoS.hard0 Zj (Does.perm (Xb [2,6,5,4,0,1,3] Zz Zz) (Yy T Zz Zz Zz Zz Zz Zz ?_))
        refine Po.done ?_
        refine zW ?_;intros
        refine midF (H':=[(g6,_),(g1,_),(g2,_),(g4,_),(gd,_)]) (H2:=[(gb,_),(gc,_)]) (Xb [0,1,2,3,4,6,5] Zz Zz) (fun fz3 hl3 hf3=>⟨g6,_,[(gd,_)],rfl,hl3,rfl,Grow.block (m:=3) (ys:=[(Yh YQ,Yr YQ),(YH [Yh Xw,Yh p.name],[.int .i64 3,.int .i64 0,.int .i64 0,.int .i64 0,.string ⟨#[]⟩,.slice (some ⟨gb,0,none⟩) 2 2]),(YH [Yh Y0,Yh p.domain],[.int .i64 3,.int .i64 0,.int .i64 0,.int .i64 0,.string ⟨#[]⟩,.slice (some ⟨gc,0,none⟩) 2 2])]) rfl rfl ?_ rfl Zh⟩) Zw
        exact Ya0 hnm hdm (hf3 _ (.head _)) (hf3 _ (.tail _ (.head _)))
      ·refine Yd (YI T Zz Zz (fun g6=>⟨(⟨(Le.refl _),Zx⟩),?_⟩))
       refine Ya Zz Zz ?_
       refine PoS.qk (⟨(Le.refl _),Zx⟩) (YB Zz Zz (Wy (s:=Y0)) ?_)
       unfold sxV
       refine Ya Zz Zz ?_
       refine Yd (Yc T (cs:=Yr Y0++Yr p.domain) Zz Zz Zz Zz Zz Zz Zz Zz (fun gc=>⟨(⟨(Le.refl _),Zx⟩),?_⟩))
       refine Ya Zz Zz ?_
       refine PoS.qk (⟨(Le.refl _),Zx⟩) (YB Zz Zz XB ?_)
       unfold sxV
       refine Ya Zz Zz ?_
       refine Yd (Yc T (cs:=Yr YQ++([.int .i64 3,.int .i64 0,.int .i64 0,.int .i64 0,.string ⟨#[]⟩,.slice (some ⟨gb,0,none⟩) 2 2]++ [.int .i64 3,.int .i64 0,.int .i64 0,.int .i64 0,.string ⟨#[]⟩,.slice (some ⟨gc,0,none⟩) 2 2])) Zz Zz Zz Zz Zz Zz Zz Zz (fun gd=>⟨(⟨(Le.refl _),Zx⟩),?_⟩))
       refine Ya Zz Zz ?_
       refine PoS.qk (⟨(Le.refl _),Zx⟩) (YB Zz Zz XB ?_)
       unfold sxV
       refine Ya Zz Zz ?_
       refine PoS.hard0 Zj (Does.perm (Xb [2,6,5,4,0,1,3] Zz Zz) (Yy T Zz Zz Zz Zz Zz Zz ?_))
       refine Po.done ?_
       refine zW ?_;intros
       refine midF (H':=[(g6,_),(g1,_),(g2,_),(g4,_),(gd,_)]) (H2:=[(gb,_),(gc,_)]) (Xb [0,1,2,3,4,6,5] Zz Zz) (fun fz3 hl3 hf3=>⟨g6,_,[(gd,_)],rfl,hl3,rfl,Grow.block (m:=3) (ys:=[(Yh YQ,Yr YQ),(YH [Yh Xw,Yh p.name],[.int .i64 3,.int .i64 0,.int .i64 0,.int .i64 0,.string ⟨#[]⟩,.slice (some ⟨gb,0,none⟩) 2 2]),(YH [Yh Y0,Yh p.domain],[.int .i64 3,.int .i64 0,.int .i64 0,.int .i64 0,.string ⟨#[]⟩,.slice (some ⟨gc,0,none⟩) 2 2])]) rfl rfl ?_ rfl Zh⟩) Zw
       exact Ya0 hnm hdm (hf3 _ (.head _)) (hf3 _ (.tail _ (.head _)))
     ·refine Yd (YI T Zz Zz (fun g6=>⟨(⟨(Le.refl _),Zx⟩),?_⟩))
      refine Ya Zz Zz ?_
      refine PoS.qk (⟨(Le.refl _),Zx⟩) (YB Zz Zz XB ?_)
      unfold sxV
      refine Ya Zz Zz ?_
      refine PoS.qk (⟨(Le.refl _),Zx⟩) (YB Zz Zz (Wy (s:=Y0)) ?_)
      unfold sxV
      refine Ya Zz Zz ?_
      refine Yd (Yc T (cs:=Yr Y0++Yr p.domain) Zz Zz Zz Zz Zz Zz Zz Zz (fun gc=>⟨(⟨(Le.refl _),Zx⟩),?_⟩))
      refine Ya Zz Zz ?_
      refine PoS.qk (⟨(Le.refl _),Zx⟩) (YB Zz Zz XB ?_)
      unfold sxV
      refine Ya Zz Zz ?_
      refine Yd (Yc T (cs:=Yr YQ++([.int .i64 3,.int .i64 0,.int .i64 0,.int .i64 0,.string ⟨#[]⟩,.slice (some ⟨gb,0,none⟩) 2 2]++ [.int .i64 3,.int .i64 0,.int .i64 0,.int .i64 0,.string ⟨#[]⟩,.slice (some ⟨gc,0,none⟩) 2 2])) Zz Zz Zz Zz Zz Zz Zz Zz (fun gd=>⟨(⟨(Le.refl _),Zx⟩),?_⟩))
      refine Ya Zz Zz ?_
      refine PoS.qk (⟨(Le.refl _),Zx⟩) (YB Zz Zz XB ?_)
      unfold sxV
      refine Ya Zz Zz ?_
      refine PoS.hard0 Zj (Does.perm (Xb [2,6,5,4,0,1,3] Zz Zz) (Yy T Zz Zz Zz Zz Zz Zz ?_))
      refine Po.done ?_
      refine zW ?_;intros
      refine midF (H':=[(g6,_),(g1,_),(g2,_),(g4,_),(gd,_)]) (H2:=[(gb,_),(gc,_)]) (Xb [0,1,2,3,4,6,5] Zz Zz) (fun fz3 hl3 hf3=>⟨g6,_,[(gd,_)],rfl,hl3,rfl,Grow.block (m:=3) (ys:=[(Yh YQ,Yr YQ),(YH [Yh Xw,Yh p.name],[.int .i64 3,.int .i64 0,.int .i64 0,.int .i64 0,.string ⟨#[]⟩,.slice (some ⟨gb,0,none⟩) 2 2]),(YH [Yh Y0,Yh p.domain],[.int .i64 3,.int .i64 0,.int .i64 0,.int .i64 0,.string ⟨#[]⟩,.slice (some ⟨gc,0,none⟩) 2 2])]) rfl rfl ?_ rfl Zh⟩) Zw
      exact Ya0 hnm hdm (hf3 _ (.head _)) (hf3 _ (.tail _ (.head _)))
    ·refine Yd (YI T Zz Zz (fun g6=>⟨(⟨(Le.refl _),Zx⟩),?_⟩))
     refine Ya Zz Zz ?_
     refine Yd (Yc T (cs:=Yr Xw++Yr p.name) Zz Zz Zz Zz Zz Zz Zz Zz (fun gb=>⟨(⟨(Le.refl _),Zx⟩),?_⟩))
     refine Ya Zz Zz ?_
     refine PoS.qk (⟨(Le.refl _),Zx⟩) (YB Zz Zz XB ?_)
     unfold sxV
     refine Ya Zz Zz ?_
     refine PoS.qk (⟨(Le.refl _),Zx⟩) (YB Zz Zz (Wy (s:=Y0)) ?_)
     unfold sxV
     refine Ya Zz Zz ?_
     refine Yd (Yc T (cs:=Yr Y0++Yr p.domain) Zz Zz Zz Zz Zz Zz Zz Zz (fun gc=>⟨(⟨(Le.refl _),Zx⟩),?_⟩))
     refine Ya Zz Zz ?_
     refine PoS.qk (⟨(Le.refl _),Zx⟩) (YB Zz Zz XB ?_)
     unfold sxV
     refine Ya Zz Zz ?_
     refine Yd (Yc T (cs:=Yr YQ++([.int .i64 3,.int .i64 0,.int .i64 0,.int .i64 0,.string ⟨#[]⟩,.slice (some ⟨gb,0,none⟩) 2 2]++ [.int .i64 3,.int .i64 0,.int .i64 0,.int .i64 0,.string ⟨#[]⟩,.slice (some ⟨gc,0,none⟩) 2 2])) Zz Zz Zz Zz Zz Zz Zz Zz (fun gd=>⟨(⟨(Le.refl _),Zx⟩),?_⟩))
     refine Ya Zz Zz ?_
     refine PoS.qk (⟨(Le.refl _),Zx⟩) (YB Zz Zz XB ?_)
     unfold sxV
     refine Ya Zz Zz ?_
     refine PoS.hard0 Zj (Does.perm (Xb [3,6,5,4,0,1,2] Zz Zz) (Yy T Zz Zz Zz Zz Zz Zz ?_))
     refine Po.done ?_
     refine zW ?_;intros
     refine midF (H':=[(g6,_),(g1,_),(g2,_),(g4,_),(gd,_)]) (H2:=[(gb,_),(gc,_)]) (Xb [0,1,2,3,4,6,5] Zz Zz) (fun fz3 hl3 hf3=>⟨g6,_,[(gd,_)],rfl,hl3,rfl,Grow.block (m:=3) (ys:=[(Yh YQ,Yr YQ),(YH [Yh Xw,Yh p.name],[.int .i64 3,.int .i64 0,.int .i64 0,.int .i64 0,.string ⟨#[]⟩,.slice (some ⟨gb,0,none⟩) 2 2]),(YH [Yh Y0,Yh p.domain],[.int .i64 3,.int .i64 0,.int .i64 0,.int .i64 0,.string ⟨#[]⟩,.slice (some ⟨gc,0,none⟩) 2 2])]) rfl rfl ?_ rfl Zh⟩) Zw
     exact Ya0 hnm hdm (hf3 _ (.head _)) (hf3 _ (.tail _ (.head _)))
   ·rintro σ fz9 H' ⟨g6,v,Hs,rfl,hle9,rfl,hG⟩
    obtain ⟨Av,cv,rfl,_,_⟩:=hG.form
    refine zWX ?_;intros
    refine Yp (Wp.mid (fun σ fz' H'=>∃ (m:Nat) (v:Value) (Hs:HP),σ=[(6,.pointer (some ⟨g6,0,none⟩)),(4,.pointer (some ⟨g4,0,none⟩)),(2,.pointer (some ⟨g2,0,none⟩)),(1,.pointer (some ⟨g1,0,none⟩))]∧Le fz9 fz'∧H'=(g6,lsO v)::(g1,.cells #[.string p.name,.string p.domain,.slice A1 n1 b1,.slice A2 n2 b2,.slice A3 n3 b3,.string p.goal.op,.string p.goal.name,.slice A4 n4 b4,.slice A5 n5 b5,.slice A6 n6 b6,.slice A7 n7 b7] 52 (0,0))::(g2,.cells #[.int .i64 0,.int .i64 0,.int .i64 0,.int .i64 0,.string ⟨#[]⟩,.slice none 0 0] 74 (0,0))::(g4,glO (Y9 p.goal) (.slice A8 n8 b8))::Hs∧m≤4∧Grow YL 74 fz' v m Hs ([Yh YQ,YH [Yh Xw,Yh p.name],YH [Yh Y0,Yh p.domain]]++grp X4 (WV p.objects))) ?_ ?_)
    ·have i1m:=io.mono (hle8.trans hle9)
     refine zW ?_;intros
     refine zC (fun c1=>?_) (fun c1=>?_)
     ·have hne:WV p.objects≠ []:=fun h0=>by have:=Yhe (l:=p.objects);rw [h0] at this;simp at this;omega
      refine zW ?_;intros
      refine Wp.drawP [] (Hq:=[(g6,_),(g1,_)]) T.mixed Zj Zj Zb ?_
      refine zW ?_;intros
      refine zc (Wy (s:=X4)) ?_
      refine Yf ?_
      refine zW ?_;intros
      unfold sxV
      refine Yf ?_
      refine Yf ?_
      refine Yf ?_
      refine Yf ?_
      refine Yf ?_
      refine zW ?_;intros
      refine Yf ?_
      refine PK.done ⟨by kernel_rfl,?_⟩
      refine Ys Zz Zz Zz ?_ ?_
      ·refine Yd (Yc T (cs:=Yr X4) Zz Zz Zz Zz Zz Zz Zz Zz (fun gb=>⟨(⟨(Le.refl _),Zx⟩),?_⟩))
       refine Ya Zz Zz ?_
       refine Yd (Yl [] _ Zz Zz Zz (YcG i1m Zi) (fun v7 fz7 H7 hle7 hR7=>?_))
       obtain ⟨rfl,B7,cc7,rfl,hsl7⟩:=hR7
       refine ⟨(⟨hle7,Zx⟩),?_⟩
       refine Ya Zz Zz ?_
       refine Yd (X8 T (n:=1) (l:=[Yh X4]) (Hr:=(g6,_)::(g1,_)::(g2,_)::(g4,_)::Hs) (Hs:=[(gb,_)]) Zz Zz Zz Zz Zz Zz Zz Zz ((List.perm_append_singleton _ _).symm) (Grow.block (ys:=[(Yh X4,Yr X4)]) rfl rfl (by simpa using Yv (YR Zh)) rfl Zh) Yu hsl7 (by show _*72≤_;omega) Zi (fun v8 Hs1 hO1=>⟨(⟨hle7,Zx⟩),?_⟩))
       obtain ⟨Ao,co,rfl,_,_⟩:=hO1.form
       refine Ya Zz Zz ?_
       refine PoS.qk (⟨hle7,Zx⟩) (YB Zz Zz XB ?_)
       unfold sxV
       refine Ya Zz Zz ?_
       refine Yd (Yc T (cs:=[.int .i64 3,.int .i64 0,.int .i64 0,.int .i64 0,.string ⟨#[]⟩,.slice Ao (1+3*n1) co]) Zz Zz Zz Zz Zz Zz Zz Zz (fun gc=>⟨(⟨hle7,Zx⟩),?_⟩))
       refine Ya Zz Zz ?_
       refine Yd (Does.freezeAll (H1:=(gc,_)::(g6,_)::(g1,_)::(g2,_)::(g4,_)::Hs) (H2:=Hs1) (Zr _) (fun fzb hle10 hf10=>?_))
       obtain ⟨A2x,c2x,he2,hsl9⟩:=hO1.sl hle10 hf10 Zi
       injection he2 with x1 x2 x3
       subst x1 x3
       refine YK T (Hr:=(gc,_)::(g6,_)::(g1,_)::(g2,_):: [(g4,_)]) (d:=YH (Yh X4::WV p.objects)) Zz Zz Zz Zz Zz Zz Zz Zz (Zr _) (hG.mono (hle7.trans hle10)) Yu (.head _) (Yi (XR hsl9)) (by show _*72≤_;omega) Zi (fun v9 Hp9 hO9=>⟨(⟨(hle7.trans hle10),Zx⟩),?_⟩)
       obtain ⟨A9,c9,rfl,_,_⟩:=hO9.form
       refine Ya Zz Zz ?_
       refine PoS.hard0 Zj (YZ T Zz Zz Zz Zz Zz Zz ?_)
       refine Po.done ?_
       refine zW ?_;intros
       exact midN ⟨4,_,Hp9,rfl,hle7.trans hle10,rfl,by omega,hO9.of (by rw [YiA hne]) rfl⟩ Zw Zb
      ·refine Yd (Yl [] _ Zz Zz Zz (YcG i1m Zi) (fun v7 fz7 H7 hle7 hR7=>?_))
       obtain ⟨rfl,B7,cc7,rfl,hsl7⟩:=hR7
       refine ⟨(⟨hle7,Zx⟩),?_⟩
       refine Ya Zz Zz ?_
       refine Yd (Yc T (cs:=Yr X4) Zz Zz Zz Zz Zz Zz Zz Zz (fun gb=>⟨(⟨hle7,Zx⟩),?_⟩))
       refine Ya Zz Zz ?_
       refine Yd (X8 T (n:=1) (l:=[Yh X4]) (Hr:=(g6,_)::(g1,_)::(g2,_)::(g4,_)::Hs) (Hs:=[(gb,_)]) Zz Zz Zz Zz Zz Zz Zz Zz ((List.perm_append_singleton _ _).symm) (Grow.block (ys:=[(Yh X4,Yr X4)]) rfl rfl (by simpa using Yv (YR Zh)) rfl Zh) Yu hsl7 (by show _*72≤_;omega) Zi (fun v8 Hs1 hO1=>⟨(⟨hle7,Zx⟩),?_⟩))
       obtain ⟨Ao,co,rfl,_,_⟩:=hO1.form
       refine Ya Zz Zz ?_
       refine PoS.qk (⟨hle7,Zx⟩) (YB Zz Zz XB ?_)
       unfold sxV
       refine Ya Zz Zz ?_
       refine Yd (Yc T (cs:=[.int .i64 3,.int .i64 0,.int .i64 0,.int .i64 0,.string ⟨#[]⟩,.slice Ao (1+3*n1) co]) Zz Zz Zz Zz Zz Zz Zz Zz (fun gc=>⟨(⟨hle7,Zx⟩),?_⟩))
       refine Ya Zz Zz ?_
       refine Yd (Does.freezeAll (H1:=(gc,_)::(g6,_)::(g1,_)::(g2,_)::(g4,_)::Hs) (H2:=Hs1) (Zr _) (fun fzb hle10 hf10=>?_))
       obtain ⟨A2x,c2x,he2,hsl9⟩:=hO1.sl hle10 hf10 Zi
       injection he2 with x1 x2 x3
       subst x1 x3
       refine YK T (Hr:=(gc,_)::(g6,_)::(g1,_)::(g2,_):: [(g4,_)]) (d:=YH (Yh X4::WV p.objects)) Zz Zz Zz Zz Zz Zz Zz Zz (Zr _) (hG.mono (hle7.trans hle10)) Yu (.head _) (Yi (XR hsl9)) (by show _*72≤_;omega) Zi (fun v9 Hp9 hO9=>⟨(⟨(hle7.trans hle10),Zx⟩),?_⟩)
       obtain ⟨A9,c9,rfl,_,_⟩:=hO9.form
       refine Ya Zz Zz ?_
       refine PoS.hard0 Zj (YZ T Zz Zz Zz Zz Zz Zz ?_)
       refine Po.done ?_
       refine zW ?_;intros
       exact midN ⟨4,_,Hp9,rfl,hle7.trans hle10,rfl,by omega,hO9.of (by rw [YiA hne]) rfl⟩ Zw Zb
     ·have hnil:WV p.objects=[]:=List.eq_nil_of_length_eq_zero (by rw [Yhe];omega)
      refine zW ?_;intros
      exact midN ⟨3,_,Hs,rfl,Le.refl _,rfl,by omega,hG.of (by rw [hnil,YlZ];simp) rfl⟩ Zw Zb
    ·rintro σ fz10 H' ⟨m1,v,Hs,rfl,hle10,rfl,hm1,hG⟩
     obtain ⟨Av,cv,rfl,_,_⟩:=hG.form
     refine zWX ?_;intros
     refine Yp (Wp.mid (fun σ fz' H'=>∃ (m:Nat) (v:Value) (Hs:HP),σ=[(6,.pointer (some ⟨g6,0,none⟩)),(4,.pointer (some ⟨g4,0,none⟩)),(2,.pointer (some ⟨g2,0,none⟩)),(1,.pointer (some ⟨g1,0,none⟩))]∧Le fz10 fz'∧H'=(g6,lsO v)::(g1,.cells #[.string p.name,.string p.domain,.slice A1 n1 b1,.slice A2 n2 b2,.slice A3 n3 b3,.string p.goal.op,.string p.goal.name,.slice A4 n4 b4,.slice A5 n5 b5,.slice A6 n6 b6,.slice A7 n7 b7] 52 (0,0))::(g2,.cells #[.int .i64 0,.int .i64 0,.int .i64 0,.int .i64 0,.string ⟨#[]⟩,.slice none 0 0] 74 (0,0))::(g4,glO (Y9 p.goal) (.slice A8 n8 b8))::Hs∧m≤5∧Grow YL 74 fz' v m Hs ([Yh YQ,YH [Yh Xw,Yh p.name],YH [Yh Y0,Yh p.domain]]++grp X4 (WV p.objects)++grp Yfc (p.init.map Yac++p.values.map valX))) ?_ ?_)
     ·have hleA:=(hle8.trans hle9).trans hle10
      have i2m:=ii.mono hleA
      have i3m:=iv.mono hleA
      refine zW ?_;intros
      refine zC (fun c2=>?_) (fun c2=>?_)
      ·refine zW ?_;intros
       refine zc (Wy (s:=Yfc)) ?_
       refine Yb Zz (Yc T (cs:=Yr Yfc) Zz Zz Zz Zz Zz Zz Zz Zz (fun gb=>?_))
       refine zc XB ?_
       refine zW ?_;intros
       rename_i g7
       refine Wp.perm (List.Perm.cons _ (List.perm_append_singleton _ ((g6,_)::(g1,_)::(g2,_)::(g4,_)::Hs))) ?_
       refine Yk (fun q σ fz' H'=>∃ (k:Nat) (v7:Value) (Hi:HP),k≤n2∧q=n2 - k∧σ=[(72,.int .i64 k),(71,.int .i64 n2),(70,.slice A2 n2 b2),(7,.pointer (some ⟨g7,0,none⟩)),(6,.pointer (some ⟨g6,0,none⟩)),(4,.pointer (some ⟨g4,0,none⟩)),(2,.pointer (some ⟨g2,0,none⟩)),(1,.pointer (some ⟨g1,0,none⟩))]∧Le fz10 fz'∧H'=(g7,lsO v7)::(g6,lsO (.slice Av m1 cv))::(g1,.cells #[.string p.name,.string p.domain,.slice A1 n1 b1,.slice A2 n2 b2,.slice A3 n3 b3,.string p.goal.op,.string p.goal.name,.slice A4 n4 b4,.slice A5 n5 b5,.slice A6 n6 b6,.slice A7 n7 b7] 52 (0,0))::(g2,.cells #[.int .i64 0,.int .i64 0,.int .i64 0,.int .i64 0,.string ⟨#[]⟩,.slice none 0 0] 74 (0,0))::(g4,glO (Y9 p.goal) (.slice A8 n8 b8))::(Hs++Hi)∧Grow YL 74 fz' v7 (k+1) Hi (Yh Yfc::(p.init.take k).map Yac)) ⟨0,_,[_],Z0 _,rfl,rfl,Le.refl _,rfl,Grow.block (ys:=[(Yh Yfc,Yr Yfc)]) rfl rfl (by simpa using Yv (YR Zh)) rfl Zh⟩ Zw Zb ?_
       rintro q σ fz' H' ⟨k,v7,Hi,hk,rfl,rfl,hle,rfl,hO⟩
       obtain ⟨Ai,ci,rfl,_,_⟩:=hO.form
       refine zW ?_;intros
       refine zC (fun e1=>?_) (fun e1=>?_)
       ·obtain ⟨x,hx⟩:=Yg (l:=p.init) (k:=k) Zi
        have hxm:=Zm hx
        have i2k:=i2m.mono hle
        refine zW ?_;intros
        refine zI i2k hx (fun a ha=>?_)
        refine zL ha ?_
        intro cs hcs
        obtain ⟨va,rfl,hRx⟩:=WF hcs
        obtain ⟨Aa,na,ca,rfl,ia⟩:=hRx.args
        refine zW ?_;intros
        rename_i g9
        refine Wp.drawP [] (Hq:=[(g9,_),(g7,_)]) T.mixed Zj Zj Zb ?_
        refine zW ?_;intros
        refine Yf ?_
        refine Yf ?_
        refine Yf ?_
        refine zW ?_;intros
        refine Yf ?_
        refine PK.done ⟨by kernel_rfl,?_⟩
        refine Ya Zz Zz ?_
        refine Yd (Yl [] _ Zz Zz Zz (Yea hRx (hs.inits x hxm)) (fun v7 fz7 H7 hle7 hR7=>?_))
        obtain ⟨rfl,cs7,rfl,hr7⟩:=hR7
        obtain ⟨vk7,rfl,hX7⟩:=YG (x:=Yac x) hr7
        refine ⟨(⟨hle7,Zx⟩),?_⟩
        refine Ya Zz Zz ?_
        refine Yd (Yc T (cs:=[.int .i64 (Yac x).kind,.int .i64 (Yac x).value,.int .i64 (Yac x).line,.int .i64 (Yac x).column,.string (Yac x).text,vk7]) Zz Zz Zz Zz Zz Zz Zz Zz (fun gc=>⟨(⟨hle7,Zx⟩),?_⟩))
        refine Ya Zz Zz ?_
        refine Yd (YK T (Hr:=(gc,_)::(g9,_)::(g7,_)::(g6,_)::(g1,_)::(g2,_)::(g4,_)::Hs) (d:=Yac x) Zz Zz Zz Zz Zz Zz Zz Zz (Zr _) (hO.mono hle7) Yu (.head _) (Yi hX7) (by show _*72≤_;omega) Zi (fun v9 Hi9 hO9=>⟨(⟨hle7,Zx⟩),?_⟩))
        obtain ⟨A9,c9,rfl,_,_⟩:=hO9.form
        refine Ya Zz Zz ?_
        refine PoS.hard0 Zj (XK T Zz Zz Zz Zz Zz Zz ?_)
        refine Po.done ?_
        refine zW ?_;intros
        exact YA ⟨k+1,_,Hi9,by omega,rfl,rfl,hle.trans hle7,rfl,hO9.of (by rw [List.take_add_one,hx];simp) rfl⟩ Zi Zw Zb
       ·have hkn:n2=k:=by omega
        subst hkn
        rw [Zl Zi] at hO
        refine zW ?_;intros
        refine Yk (fun q σ fz'' H'=>∃ (j:Nat) (v7:Value) (Hi:HP),j≤n3∧q=n3 - j∧σ=[(87,.int .i64 j),(86,.int .i64 n3),(85,.slice A3 n3 b3),(7,.pointer (some ⟨g7,0,none⟩)),(6,.pointer (some ⟨g6,0,none⟩)),(4,.pointer (some ⟨g4,0,none⟩)),(2,.pointer (some ⟨g2,0,none⟩)),(1,.pointer (some ⟨g1,0,none⟩))]∧Le fz' fz''∧H'=(g7,lsO v7)::(g6,lsO (.slice Av m1 cv))::(g1,.cells #[.string p.name,.string p.domain,.slice A1 n1 b1,.slice A2 n2 b2,.slice A3 n3 b3,.string p.goal.op,.string p.goal.name,.slice A4 n4 b4,.slice A5 n5 b5,.slice A6 n6 b6,.slice A7 n7 b7] 52 (0,0))::(g2,.cells #[.int .i64 0,.int .i64 0,.int .i64 0,.int .i64 0,.string ⟨#[]⟩,.slice none 0 0] 74 (0,0))::(g4,glO (Y9 p.goal) (.slice A8 n8 b8))::(Hs++Hi)∧Grow YL 74 fz'' v7 (n2+1+j) Hi (Yh Yfc::p.init.map Yac++(p.values.take j).map valX)) ⟨0,_,Hi,Z0 _,rfl,rfl,Le.refl _,rfl,hO.of (by simp) rfl⟩ Zw Zb ?_
        rintro q σ fz'' H' ⟨j,v7,Hi,hj,rfl,rfl,hle5,rfl,hO⟩
        obtain ⟨Ai,ci,rfl,_,_⟩:=hO.form
        refine zW ?_;intros
        refine zC (fun e2=>?_) (fun e2=>?_)
        ·obtain ⟨x,hx⟩:=Yg (l:=p.values) (k:=j) Zi
         have hxm:=Zm hx
         have i3k:=i3m.mono (hle.trans hle5)
         refine zW ?_;intros
         refine zI i3k hx (fun a ha=>?_)
         refine zL ha ?_
         intro cs hcs
         obtain ⟨va,rfl,hRx⟩:=Ycj hcs
         obtain ⟨Aa,na,ca,rfl,ia⟩:=hRx.fluent.args
         refine zW ?_;intros
         rename_i g9
         refine Wp.drawP [] (Hq:=[(g9,_),(g7,_)]) T.mixed Zj Zj Zb ?_
         refine zW ?_;intros
         refine zc (Wy (s:=kEq)) ?_
         refine zW ?_;intros
         ((refine zG ?_);refine Yn (vs:=[.string x.fluent.name,.slice Aa na ca]) T 0 Zz Zz Zz Zz Zz Zz ?_)
         refine Yf ?_
         refine zW ?_;intros
         unfold sxV
         refine Yf ?_
         refine Yf ?_
         refine Yf ?_
         refine Yf ?_
         refine zW ?_;intros
         refine Yf ?_
         refine PK.done ⟨by kernel_rfl,?_⟩
         refine Ya Zz Zz ?_
         refine Yd (Yl [] _ Zz Zz Zz (Yea hRx.fluent (hs.vals x hxm)) (fun v7 fz7 H7 hle7 hR7=>?_))
         obtain ⟨rfl,cs7,rfl,hr7⟩:=hR7
         obtain ⟨vk7,rfl,hX7⟩:=YG (x:=Yac x.fluent) hr7
         refine ⟨(⟨hle7,Zx⟩),?_⟩
         refine Ya Zz Zz ?_
         refine Yd (Yc T (cs:=Yr kEq++([.int .i64 (Yac x.fluent).kind,.int .i64 (Yac x.fluent).value,.int .i64 (Yac x.fluent).line,.int .i64 (Yac x.fluent).column,.string (Yac x.fluent).text,vk7]++ [.int .i64 2,.int .i64 x.n,.int .i64 0,.int .i64 0,.string ⟨#[]⟩,.slice none 0 0])) Zz Zz Zz Zz Zz Zz Zz Zz (fun gb=>⟨(⟨hle7,Zx⟩),?_⟩))
         refine Ya Zz Zz ?_
         refine PoS.qk (⟨hle7,Zx⟩) (YB Zz Zz XB ?_)
         unfold sxV
         refine Ya Zz Zz ?_
         refine Yd (Yc T (cs:=[.int .i64 3,.int .i64 0,.int .i64 0,.int .i64 0,.string ⟨#[]⟩,.slice (some ⟨gb,0,none⟩) 3 3]) Zz Zz Zz Zz Zz Zz Zz Zz (fun gc=>⟨(⟨hle7,Zx⟩),?_⟩))
         refine Ya Zz Zz ?_
         refine Yd (Does.freezeAll (H1:=(gc,_)::(g9,_)::(g7,_)::(g6,_)::(g1,_)::(g2,_)::(g4,_)::(Hs++Hi)) (H2:=[(gb,_)]) (List.Perm.cons _ (List.perm_append_singleton _ _).symm) (fun fzb hle10' hf10=>?_))
         have hrep:YL.rep fzb (valX x) [.int .i64 3,.int .i64 0,.int .i64 0,.int .i64 0,.string ⟨#[]⟩,.slice (some ⟨gb,0,none⟩) 3 3]:=Yi (XR (Xg (ys:=[(Yh kEq,Yr kEq),(Yac x.fluent,[.int .i64 (Yac x.fluent).kind,.int .i64 (Yac x.fluent).value,.int .i64 (Yac x.fluent).line,.int .i64 (Yac x.fluent).column,.string (Yac x.fluent).text,vk7]),(numE x.n,[.int .i64 2,.int .i64 x.n,.int .i64 0,.int .i64 0,.string ⟨#[]⟩,.slice none 0 0])]) (hf10 _ (.head _)) rfl rfl (by intro p hp;simp only [List.mem_cons,List.not_mem_nil,or_false] at hp;rcases hp with rfl | rfl | rfl;exact Yv (YR Zh);exact Yi (hX7.mono hle10');exact Yi (Yhh hRx.n)) rfl Zh))
         refine YK T (Hr:=(gc,_)::(g9,_)::(g7,_)::(g6,_)::(g1,_)::(g2,_)::(g4,_)::Hs) (d:=valX x) Zz Zz Zz Zz Zz Zz Zz Zz (Zr _) (hO.mono (hle7.trans hle10')) Yu (.head _) hrep (by show _*72≤_;omega) Zi (fun v9 Hi9 hO9=>⟨(⟨(hle7.trans hle10'),Zx⟩),?_⟩)
         obtain ⟨A9,c9,rfl,_,_⟩:=hO9.form
         refine Ya Zz Zz ?_
         refine PoS.hard0 Zj (XK T Zz Zz Zz Zz Zz Zz ?_)
         refine Po.done ?_
         refine zW ?_;intros
         exact YA ⟨j+1,_,Hi9,by omega,rfl,rfl,hle5.trans (hle7.trans hle10'),rfl,hO9.of (by rw [List.take_add_one,hx];simp) rfl⟩ Zi Zw Zb
        ·have hjn:n3=j:=by omega
         subst hjn
         rw [Zl Zi] at hO
         refine Seq.freezeAll (H1:=(g7,_)::(g6,_)::(g1,_)::(g2,_)::(g4,_)::Hs) (H2:=Hi) (Zr _) (fun fzp hlp hfp=>?_)
         obtain ⟨A2x,c2x,he2,hslp⟩:=hO.sl hlp hfp Zi
         injection he2 with x1 x2 x3
         subst x1 x3
         have hleB:=(hle.trans hle5).trans hlp
         have hne:p.init.map Yac++p.values.map valX≠ []:=fun h0=>by have:=congrArg List.length h0;simp only [List.length_append,List.length_map,List.length_nil] at this;omega
         refine zW ?_;intros
         refine Yb Zz (Yc T (cs:=[.int .i64 3,.int .i64 0,.int .i64 0,.int .i64 0,.string ⟨#[]⟩,.slice Ai (n2+1+n3) ci]) Zz Zz Zz Zz Zz Zz Zz Zz (fun gc=>?_))
         refine Yb Zz (YK T (Hr:=(gc,_)::(g7,_)::(g6,_)::(g1,_)::(g2,_):: [(g4,_)]) (d:=YH (Yh Yfc::p.init.map Yac++p.values.map valX)) Zz Zz Zz Zz Zz Zz Zz Zz (Zr _) (hG.mono hleB) Yu (.head _) (Yi (XR hslp)) (by show _*72≤_;omega) Zi (fun v9 Hs9 hO9=>?_))
         obtain ⟨A9,c9,rfl,_,_⟩:=hO9.form
         refine zW ?_;intros
         exact midN ⟨m1+1,_,Hs9,rfl,hleB,rfl,by omega,hO9.of (by rw [YiA hne];simp) rfl⟩ Zw Zb
      ·have hi0:p.init=[]:=List.eq_nil_of_length_eq_zero Zi
       have hv0:p.values=[]:=List.eq_nil_of_length_eq_zero Zi
       refine zW ?_;intros
       exact midN ⟨m1,_,Hs,rfl,Le.refl _,rfl,by omega,hG.of (by rw [hi0,hv0];simp [YlZ]) rfl⟩ Zw Zb
     ·rintro σ fz11 H' ⟨m2,v,Hs,rfl,hle11,rfl,hm2,hG⟩
      obtain ⟨Av,cv,rfl,_,_⟩:=hG.form
      have hleC:=(hle9.trans hle10).trans hle11
      refine zWX ?_;intros
      refine Yp (Wp.mid (fun σ fz' H'=>∃ (m:Nat) (v:Value) (Hs:HP),σ=[(6,.pointer (some ⟨g6,0,none⟩)),(4,.pointer (some ⟨g4,0,none⟩)),(2,.pointer (some ⟨g2,0,none⟩)),(1,.pointer (some ⟨g1,0,none⟩))]∧Le fz11 fz'∧H'=(g6,lsO v)::(g1,.cells #[.string p.name,.string p.domain,.slice A1 n1 b1,.slice A2 n2 b2,.slice A3 n3 b3,.string p.goal.op,.string p.goal.name,.slice A4 n4 b4,.slice A5 n5 b5,.slice A6 n6 b6,.slice A7 n7 b7] 52 (0,0))::(g2,.cells #[.int .i64 0,.int .i64 0,.int .i64 0,.int .i64 0,.string ⟨#[]⟩,.slice none 0 0] 74 (0,0))::(g4,glO (Y9 p.goal) (.slice A8 n8 b8))::Hs∧m≤6∧Grow YL 74 fz' v m Hs ([Yh YQ,YH [Yh Xw,Yh p.name],YH [Yh Y0,Yh p.domain]]++grp X4 (WV p.objects)++grp Yfc (p.init.map Yac++p.values.map valX)++Yko p.goal)) ?_ ?_)
      ·refine zW ?_;intros
       refine zC (fun e1=>?_) (fun e1=>?_)
       ·have hgo:Yko p.goal=[YH [Yh Yb9,Y9 p.goal]]:=if_neg (fun h0=>e1 h0.1)
        refine zW ?_;intros
        refine Wp.drawP [] (Hq:=[(g6,_),(g4,_)]) T.mixed Zj Zj Zb ?_
        refine zW ?_;intros
        refine zc (Wy (s:=Yb9)) ?_
        refine zW ?_;intros
        unfold sxV
        refine Yf ?_
        refine Yf ?_
        refine Yf ?_
        refine Yf ?_
        refine zW ?_;intros
        refine Yf ?_
        refine PK.done ⟨by kernel_rfl,?_⟩
        refine Ya Zz Zz ?_
        refine Yd (Yc T (cs:=Yr Yb9++ [.int .i64 (Y9 p.goal).kind,.int .i64 (Y9 p.goal).value,.int .i64 (Y9 p.goal).line,.int .i64 (Y9 p.goal).column,.string (Y9 p.goal).text,.slice A8 n8 b8]) Zz Zz Zz Zz Zz Zz Zz Zz (fun gb=>⟨(⟨(Le.refl _),Zx⟩),?_⟩))
        refine Ya Zz Zz ?_
        refine PoS.qk (⟨(Le.refl _),Zx⟩) (YB Zz Zz XB ?_)
        unfold sxV
        refine Ya Zz Zz ?_
        refine Yd (Yc T (cs:=[.int .i64 3,.int .i64 0,.int .i64 0,.int .i64 0,.string ⟨#[]⟩,.slice (some ⟨gb,0,none⟩) 2 2]) Zz Zz Zz Zz Zz Zz Zz Zz (fun gc=>⟨(⟨(Le.refl _),Zx⟩),?_⟩))
        refine Ya Zz Zz ?_
        refine Yd (Does.freezeAll (H1:=(gc,_)::(g6,_)::(g1,_)::(g2,_)::(g4,_)::Hs) (H2:=[(gb,_)]) (List.Perm.cons _ (List.perm_append_singleton _ _).symm) (fun fzb hlb hfb=>?_))
        have hrep:YL.rep fzb (YH [Yh Yb9,Y9 p.goal]) [.int .i64 3,.int .i64 0,.int .i64 0,.int .i64 0,.string ⟨#[]⟩,.slice (some ⟨gb,0,none⟩) 2 2]:=Yi (XR (Xg (ys:=[(Yh Yb9,Yr Yb9),(Y9 p.goal,[.int .i64 (Y9 p.goal).kind,.int .i64 (Y9 p.goal).value,.int .i64 (Y9 p.goal).line,.int .i64 (Y9 p.goal).column,.string (Y9 p.goal).text,.slice A8 n8 b8])]) (hfb _ (.head _)) rfl rfl (by intro p hp;simp only [List.mem_cons,List.not_mem_nil,or_false] at hp;rcases hp with rfl | rfl;exact Yv (YR Zh);exact Yi (hX.mono (hleC.trans hlb))) rfl Zh))
        refine YK T (Hr:=(gc,_)::(g6,_)::(g1,_)::(g2,_):: [(g4,_)]) (d:=YH [Yh Yb9,Y9 p.goal]) Zz Zz Zz Zz Zz Zz Zz Zz (Zr _) (hG.mono hlb) Yu (.head _) hrep (by show _*72≤_;omega) Zi (fun v9 Hs9 hO9=>⟨(⟨hlb,Zx⟩),?_⟩)
        obtain ⟨A9,c9,rfl,_,_⟩:=hO9.form
        refine Ya Zz Zz ?_
        refine PoS.hard0 Zj (YZ T Zz Zz Zz Zz Zz Zz ?_)
        refine Po.done ?_
        refine zW ?_;intros
        exact midN ⟨m2+1,_,Hs9,rfl,hlb,rfl,by omega,hO9.of (by rw [hgo]) rfl⟩ Zw Zb
       ·refine zW ?_;intros
        refine zC (fun e2=>?_) (fun e2=>?_)
        ·have hgo:Yko p.goal=[YH [Yh Yb9,Y9 p.goal]]:=if_neg (fun h0=>by have:=i7.len;rw [h0.2] at this;simp at this;omega)
         refine zW ?_;intros
         refine Wp.drawP [] (Hq:=[(g6,_),(g4,_)]) T.mixed Zj Zj Zb ?_
         refine zW ?_;intros
         refine zc (Wy (s:=Yb9)) ?_
         refine zW ?_;intros
         unfold sxV
         refine Yf ?_
         refine Yf ?_
         refine Yf ?_
         refine Yf ?_
         refine zW ?_;intros
         refine Yf ?_
         refine PK.done ⟨by kernel_rfl,?_⟩
         refine Ya Zz Zz ?_
         refine Yd (Yc T (cs:=Yr Yb9++ [.int .i64 (Y9 p.goal).kind,.int .i64 (Y9 p.goal).value,.int .i64 (Y9 p.goal).line,.int .i64 (Y9 p.goal).column,.string (Y9 p.goal).text,.slice A8 n8 b8]) Zz Zz Zz Zz Zz Zz Zz Zz (fun gb=>⟨(⟨(Le.refl _),Zx⟩),?_⟩))
         refine Ya Zz Zz ?_
         refine PoS.qk (⟨(Le.refl _),Zx⟩) (YB Zz Zz XB ?_)
         unfold sxV
         refine Ya Zz Zz ?_
         refine Yd (Yc T (cs:=[.int .i64 3,.int .i64 0,.int .i64 0,.int .i64 0,.string ⟨#[]⟩,.slice (some ⟨gb,0,none⟩) 2 2]) Zz Zz Zz Zz Zz Zz Zz Zz (fun gc=>⟨(⟨(Le.refl _),Zx⟩),?_⟩))
         refine Ya Zz Zz ?_
         refine Yd (Does.freezeAll (H1:=(gc,_)::(g6,_)::(g1,_)::(g2,_)::(g4,_)::Hs) (H2:=[(gb,_)]) (List.Perm.cons _ (List.perm_append_singleton _ _).symm) (fun fzb hlb hfb=>?_))
         have hrep:YL.rep fzb (YH [Yh Yb9,Y9 p.goal]) [.int .i64 3,.int .i64 0,.int .i64 0,.int .i64 0,.string ⟨#[]⟩,.slice (some ⟨gb,0,none⟩) 2 2]:=Yi (XR (Xg (ys:=[(Yh Yb9,Yr Yb9),(Y9 p.goal,[.int .i64 (Y9 p.goal).kind,.int .i64 (Y9 p.goal).value,.int .i64 (Y9 p.goal).line,.int .i64 (Y9 p.goal).column,.string (Y9 p.goal).text,.slice A8 n8 b8])]) (hfb _ (.head _)) rfl rfl (by intro p hp;simp only [List.mem_cons,List.not_mem_nil,or_false] at hp;rcases hp with rfl | rfl;exact Yv (YR Zh);exact Yi (hX.mono (hleC.trans hlb))) rfl Zh))
         refine YK T (Hr:=(gc,_)::(g6,_)::(g1,_)::(g2,_):: [(g4,_)]) (d:=YH [Yh Yb9,Y9 p.goal]) Zz Zz Zz Zz Zz Zz Zz Zz (Zr _) (hG.mono hlb) Yu (.head _) hrep (by show _*72≤_;omega) Zi (fun v9 Hs9 hO9=>⟨(⟨hlb,Zx⟩),?_⟩)
         obtain ⟨A9,c9,rfl,_,_⟩:=hO9.form
         refine Ya Zz Zz ?_
         refine PoS.hard0 Zj (YZ T Zz Zz Zz Zz Zz Zz ?_)
         refine Po.done ?_
         refine zW ?_;intros
         exact midN ⟨m2+1,_,Hs9,rfl,hlb,rfl,by omega,hO9.of (by rw [hgo]) rfl⟩ Zw Zb
        ·have hgo:Yko p.goal=[]:=if_pos ⟨e1,List.eq_nil_of_length_eq_zero (by have:=i7.len;omega)⟩
         refine zW ?_;intros
         exact midN ⟨m2,_,Hs,rfl,Le.refl _,rfl,by omega,hG.of (by rw [hgo];simp) rfl⟩ Zw Zb
      ·rintro σ fz12 H' ⟨m3,v,Hs,rfl,hle12,rfl,hm3,hG⟩
       obtain ⟨Av,cv,rfl,_,_⟩:=hG.form
       refine zW ?_;intros
       refine Seq.freezeAll (H1:=[(g6,_),(g1,_),(g2,_),(g4,_)]) (H2:=Hs) (Zr _) (fun fzr hlr hfr=>?_)
       obtain ⟨A2w,c2w,he5,hsl⟩:=hG.sl hlr hfr Zi
       injection he5 with x1 x2 x3
       subst x1 x3
       have hXX:=XR hsl
       refine zb (YdV (x:=prbX p) hXX) (fun f2=>?_) (fun f2=>?_)
       ·have hY:FVal p.goal∧PrbOk p∧XVal (prbX p):=⟨hP,hE,Zt f2⟩
        refine zW ?_;intros
        refine Yem T (vs:=[.agg #[_,_,_,_,_,_],.nilIface]) Zz ⟨⟨_,_,2,_,_,_,rfl,rfl,rfl,rfl,rfl,rfl⟩,rfl,trivial⟩ (fun fz3 hle3 hf3=>?_)
        exact ⟨rfl,_,_,by rw [if_pos hY];rfl,SxIs.mono hle3 ⟨_,rfl,Yi hXX⟩,fun _=>rfl⟩
       ·have hN:¬(FVal p.goal∧PrbOk p∧XVal (prbX p)):=fun h0=>Zf f2 h0.2.2
        refine zW ?_;intros
        refine Yem T (vs:=[.agg #[_,_,_,_,_,_],_]) Zz ⟨⟨_,_,2,_,_,_,rfl,rfl,rfl,rfl,rfl,rfl⟩,rfl,trivial⟩ (fun fz3 hle3 hf3=>?_)
        exact ⟨rfl,_,_,by rw [if_neg hN,YF Zh];rfl,Ybo,fun h0=>absurd h0 hN⟩
  ·have hN:¬(FVal p.goal∧PrbOk p∧XVal (prbX p)):=fun h0=>Zf f1 h0.2.1
   refine zW ?_;intros
   refine Yem T (vs:=[.agg #[_,_,_,_,_,_],_]) Zz ⟨⟨_,_,1,_,_,_,rfl,rfl,rfl,rfl,rfl,rfl⟩,rfl,trivial⟩ (fun fz3 hle3 hf3=>?_)
   exact ⟨rfl,_,_,by rw [if_neg hN,YF Zh];rfl,Ybo,fun h0=>absurd h0 hN⟩
 ·rw [if_neg hP]
  have hN:¬(FVal p.goal∧PrbOk p∧XVal (prbX p)):=fun h0=>hP h0.1
  refine zW ?_;intros
  refine Yem T (vs:=[.agg #[_,_,_,_,_,_],_]) Zz ⟨⟨_,_,1,_,_,_,rfl,rfl,rfl,rfl,rfl,rfl⟩,rfl,trivial⟩ (fun fz3 hle3 hf3=>?_)
  exact ⟨rfl,_,_,by rw [if_neg hN,YF Zh];rfl,Ybo,fun h0=>absurd h0 hN⟩
theorem Yd0:∀ {l:List Param} {seen:List Bs},repM seen l=none→(∀ x∈l,x.name ∉ seen)∧Once (fun q:Param=>q.name) l
 | [],_,_=>⟨by simp,fun i j x y _ h=>by simp at h⟩
 | x::r,seen,h=>by
  rw [repM] at h
  by_cases hx:x.name∈seen
  ·rw [if_pos hx] at h;cases h
  ·rw [if_neg hx] at h
   obtain ⟨h1,h2⟩:=Yd0 h
   refine ⟨fun y hy=>?_,fun i j a b hij ha hb=>?_⟩
   ·rcases List.mem_cons.1 hy with rfl | hy
    ·exact hx
    ·exact fun h0=>h1 y hy (by simp [h0])
   ·cases j with
    | zero=>omega
    | succ j=>
     have hb':r[j]?=some b:=by simpa using hb
     cases i with
     | zero=>
      simp at ha;subst ha
      have:=h1 b (Zm hb')
      exact fun e=>this (by simp [e])
     | succ i=>exact h2 i j a b Zi (by simpa using ha) hb'
theorem Yeu {α:Type} {f:α→Param} {nm:α→Bs} (hf:∀ x,(f x).name=nm x) {l:List α} {r:List Param} (h:Once (fun q:Param=>q.name) (l.map f++r)):Once nm l:=fun i j x y hij hx hy=>by
 have h1:=(Zg hx).1
 have h2:=(Zg hy).1
 have:=h i j (f x) (f y) hij (by rw [List.getElem?_append_left (by simpa using h1),List.getElem?_map,hx];rfl) (by rw [List.getElem?_append_left (by simpa using h2),List.getElem?_map,hy];rfl)
 rw [← hf x,← hf y];exact this
theorem Yfz {α:Type} {f:α→Param} {nm:α→Bs} (hf:∀ x,(f x).name=nm x) {l:List α} {r:List Param} (h:Once (fun q:Param=>q.name) (r++l.map f)):Once nm l:=fun i j x y hij hx hy=>by
 have:=h (r.length+i) (r.length+j) (f x) (f y) Zi (by rw [List.getElem?_append_right Zi,Nat.add_sub_cancel_left,List.getElem?_map,hx];rfl) (by rw [List.getElem?_append_right Zi,Nat.add_sub_cancel_left,List.getElem?_map,hy];rfl)
 rw [← hf x,← hf y];exact this
variable {all:List Param} {d:Domain}
theorem Ykg (h:Yao d all=none):Once (·.name) d.predicates∧Once (·.name) d.functions∧Once (·.name) all∧Once (·.name) d.actions∧Once (·.name) d.duratives:=by
 unfold Yao at h
 cases h0:repM [] (Yce d) with
 | some s=>rw [h0] at h;cases h
 | none=>
  rw [h0] at h
  cases h1:repM [] (YbQ all) with
  | some s=>rw [h1] at h;cases h
  | none=>
   rw [h1] at h
   have o0:=(Yd0 h0).2
   have o1:=(Yd0 h1).2
   have o2:=(Yd0 h).2
   exact ⟨Yeu (f:=fun x:Predicate=>nmd XG x.name) (fun _=>rfl) o0,Yfz (f:=fun x:Function=>nmd Xr x.name) (fun _=>rfl) o0,
    Yeu (r:=[]) (f:=fun x:Param=>nmd Ybr x.name) (fun _=>rfl) (by simpa [YbQ] using o1),Yeu (f:=fun x:Action=>nmd XW x.name) (fun _=>rfl) o2,Yfz (f:=fun x:Durative=>nmd Xn x.name) (fun _=>rfl) o2⟩
def YbJ (f:Nat→Bs × Int):Nat→Nat→Bs × Int
 | 0,_=>(⟨#[]⟩,0)
 | n+1,k=>if (f k).2=0 then YbJ f n (k+1) else f k
def XJ (d:Domain) (p:Problem):Bs × Int:=
 if ¬(DomOk d∧XVal (domX d)) then (YiW,2)
 else if ¬(FVal p.goal∧PrbOk p∧XVal (prbX p)) then (Ycz,2)
 else if LargeM d p (objsM d p) then (YiV,5)
 else if newM d.types≠0 then (YkG,newM d.types)
 else YbJ (stepM d (objsM d p) p) 8 0
structure ChkS (d:Domain) (p:Problem):Prop where
 dsm:DomSm d
 psm:PrbSm p
 wa:∀ a∈d.actions,actW a≤1000000000
 wd:∀ a∈d.duratives,durW a≤1000000000
 wg:fW p.goal≤1000000000
theorem YaZ {s:Bs} (h:Xk s):s.size≤1000:=Nat.le_trans h.2.2.1 Zh
theorem nms_of (h1:DomOk d) (h2:PrbOk p):NmS d (objsM d p) where
 p:=fun x hx=>YaZ (h1.2.2.2.1 x hx).1
 f:=fun x hx=>YaZ (h1.2.2.2.2.1 x hx).1
 o:=fun x hx=>by
  rcases List.mem_append.1 hx with hx | hx
  ·have:=(h1.2.2.1 x hx).1;exact YaZ (by simpa using this)
  ·have:=(h2.2.2.1 x hx).1;exact YaZ (by simpa using this)
 a:=fun x hx=>YaZ (h1.2.2.2.2.2.1 x hx).1
 u:=fun x hx=>YaZ (h1.2.2.2.2.2.2 x hx).1
theorem nums_of (h:XVal (domX d)):∀ f∈d.functions,Yc0 f.lo∧Yc0 f.hi:=fun f hf=>by
 have h1:YH (Yh W9::d.functions.map funX)∈(domX d).kids:=by
  have hne:d.functions.map funX≠ []:=by intro h0;rw [List.map_eq_nil_iff] at h0;rw [h0] at hf;cases hf
  show _∈([Yh YQ,YH [Yh Xl,Yh d.name]]++grp YdJ (WV d.types)++grp Yaa (WV d.constants)++grp WA (d.predicates.map Ygd)++grp W9 (d.functions.map funX)++d.actions.map actX++d.duratives.map durX)
  simp only [List.mem_append]
  refine .inl (.inl (.inr ?_))
  unfold grp
  rw [if_neg hne];simp
 have h2:=YiT h h1
 have h3:=Yd7 (k:=funX f) h2 (by simp;exact .inr ⟨f,hf,rfl⟩)
 exact ⟨num_ok (Yd7 h3 (by simp)),num_ok (Yd7 h3 (by simp))⟩
theorem Ygg (h:¬LargeM d p (objsM d p)):LenS d (objsM d p)∧d.types.length≤64∧∀ f∈d.functions,f.params.length≤6:=by
 unfold LargeM at h
 refine ⟨⟨?_,?_,?_,?_,?_⟩,?_,fun f hf=>?_⟩
 ·exact Classical.byContradiction fun h0=>h (.inr (.inr (.inl Zi)))
 ·exact Classical.byContradiction fun h0=>h (.inr (.inr (.inr (.inl Zi))))
 ·exact Classical.byContradiction fun h0=>h (.inl Zi)
 ·exact Classical.byContradiction fun h0=>h (.inr (.inr (.inr (.inr (.inl Zi)))))
 ·exact Classical.byContradiction fun h0=>h (.inr (.inr (.inr (.inr (.inr (.inl Zi))))))
 ·exact Classical.byContradiction fun h0=>h (.inr (.inl Zi))
 ·exact Classical.byContradiction fun h0=>h (.inr (.inr (.inr (.inr (.inr (.inr (.inr (.inr (.inl ⟨f,hf,by omega⟩)))))))))
theorem Yjz (hM:MaxF fz) (hD:DomainR fz d v1 v2 v3 v4 v5 v6) (hl:d.types.length≤64) (hok:∀ p∈d.types,Xk p.name∧YcZ p.typ):
 GFn prog 21 [.agg #[.string d.name,v1,v2,v3,v4,v5,v6]] fz [] (fun v fz' H'=>H'=[]∧∃ vf,v=.tuple #[vf,errV (newM d.types)]∧(newM d.types=0→ForR fz' vf d.types)):=by
 obtain ⟨A1,n1,b1,rfl,i1⟩:=hD.types
 obtain ⟨A2,n2,b2,rfl,i2⟩:=hD.constants
 obtain ⟨A3,n3,b3,rfl,i3⟩:=hD.predicates
 obtain ⟨A4,n4,b4,rfl,i4⟩:=hD.functions
 obtain ⟨A5,n5,b5,rfl,i5⟩:=hD.actions
 obtain ⟨A6,n6,b6,rfl,i6⟩:=hD.duratives
 refine zF Tryz.func21 Tryz.ntmps21 (fun w0=>?_)
 refine Yp (Yq (Yb Zz (Y3 _ Zz Zz (fun g2=>?_))))
 refine zV ?_;intros
 refine Yb Zz (Yl [] _ Zz Zz Zz (tnew_q hM i1 hl hok) (fun v6 fz6 H6 hle6 hR6=>?_))
 obtain ⟨rfl,vf,z,rfl,hv⟩:=hR6
 refine zV ?_;intros
 exact ret2 rfl rfl rfl Zb ⟨rfl,vf,rfl,hv⟩
variable {u1 u2 u3 u4 u5 u6 u7 vp:Value}
theorem ckR_mk {gc:Nat} {vf vg vo:Value} {Aa:Option Addr} {na ca:Nat} (hc:fz gc=some (ckO d p v1 v2 v3 v4 v5 v6 u1 u2 u3 u4 u5 u6 u7 vf vp vg vo (.slice Aa na ca))) (hD:DomainR fz d v1 v2 v3 v4 v5 v6) (hP:ProblemR fz p u1 u2 u3 u4 u5 u6 u7) (hall:Sl paramL fz Aa na ca all):
 CkR fz (.pointer (some ⟨gc,0,none⟩)) d p all vf vp vg vo:=⟨gc,v1,v2,v3,v4,v5,v6,u1,u2,u3,u4,u5,u6,u7,Aa,na,ca,rfl,hc,hD,hP,hall⟩
set_option maxHeartbeats 16000000 in
theorem Ymq (hM:MaxF fz) (hD:DomainR fz d v1 v2 v3 v4 v5 v6) (hP:ProblemR fz p u1 u2 u3 u4 u5 u6 u7) (hS:ChkS d p):
 QFn prog 8 [.agg #[.string d.name,v1,v2,v3,v4,v5,v6],.agg #[.string p.name,.string p.domain,u1,u2,u3,.string p.goal.op,.string p.goal.name,u4,u5,u6,u7]] fz (resV (XJ d p)):=by
 obtain ⟨A1,n1,b1,rfl,i1⟩:=hD.types
 obtain ⟨A2,n2,b2,rfl,i2⟩:=hD.constants
 obtain ⟨A3,n3,b3,rfl,i3⟩:=hD.predicates
 obtain ⟨A4,n4,b4,rfl,i4⟩:=hD.functions
 obtain ⟨A5,n5,b5,rfl,i5⟩:=hD.actions
 obtain ⟨A6,n6,b6,rfl,i6⟩:=hD.duratives
 obtain ⟨B1,m1,d1,rfl,j1⟩:=hP.objects
 obtain ⟨B2,m2,d2,rfl,j2⟩:=hP.init
 obtain ⟨B3,m3,d3,rfl,j3⟩:=hP.values
 obtain ⟨B4,m4,d4,rfl,_⟩:=hP.goal.args
 obtain ⟨B5,m5,d5,rfl,_⟩:=hP.goal.params
 obtain ⟨B6,m6,d6,rfl,_⟩:=hP.goal.exprs
 obtain ⟨B7,m7,d7,rfl,_⟩:=hP.goal.kids
 refine GFn.quiet ?_
 refine zF Tryz.func8 Tryz.ntmps8 (fun w0=>?_)
 refine Yp (Yq (Yb Zz (Y3 _ Zz Zz (fun g2=>?_))))
 refine Yb Zz (Y3 _ Zz Zz (fun g3=>?_))
 refine zWO ?_;intros
 refine zV ?_;intros
 refine Yb Zz (Yl [] _ Zz Zz Zz (dWrite_q hD hS.dsm) (fun v6' fz6 H6 hle6 hR6=>?_))
 obtain ⟨rfl,u,y,rfl,⟨cs6,rfl,hr6⟩,_⟩:=hR6
 obtain ⟨vk6,rfl,hx6⟩:=YG hr6
 obtain ⟨Ak6,nk6,ck6,rfl,_⟩:=hx6.kids
 by_cases hdo:DomOk d∧XVal (domX d)
 ·rw [if_pos hdo,show errV 0=.nilIface from rfl]
  refine zV ?_;intros
  refine Yb Zz (Yl [] _ Zz Zz Zz (pWrite_q (hP.mono hle6) hS.psm) (fun v7' fz7 H7 hle7 hR7=>?_))
  obtain ⟨rfl,u',y',rfl,⟨cs7,rfl,hr7⟩,_⟩:=hR7
  obtain ⟨vk7,rfl,hx7⟩:=YG hr7
  obtain ⟨Ak7,nk7,ck7,rfl,_⟩:=hx7.kids
  by_cases hpo:FVal p.goal∧PrbOk p∧XVal (prbX p)
  ·rw [if_pos hpo,show errV 0=.nilIface from rfl]
   have hle67:=hle6.trans hle7
   have hD7:=hD.mono hle67
   have hP7:=hP.mono hle67
   refine zWN ?_;intros
   refine Wp.drawK (Hq:=[_,_,_,_]) T.mixed Zj Zj Zb ?_
   refine zW ?_;intros
   refine Ye ?_
   refine Ye ?_
   refine Ye ?_
   refine Ye ?_
   refine YD ⟨by kernel_rfl,?_⟩
   refine Yj (Yl [] [_,_,_,_] Zz Zz Zz (Ybd hD7 hP7 hS.dsm.constants hS.psm.objects) (fun v8' fz8 H8 hle8 hR8=>⟨(⟨hle8,Zx⟩),?_⟩))
   obtain ⟨Aa,ca,rfl,_,_⟩:=hR8.form
   refine Ch.qk (⟨hle8,Zx⟩) (YS T Zz Zz Zz Zz Zz ?_)
   refine Yj (Y3 _ Zz Zz (fun gc=>⟨(⟨hle8,Zx⟩),?_⟩))
   refine Ch.qk (⟨hle8,Zx⟩) (Yz Zz ?_)
   refine Ch.done ?_
   refine Yck ?_
   refine Wp.freezeAll (H1:=(gc,_):: [_,_,_,_]) (H2:=H8) (List.Perm.cons _ Zq) (fun fz9 hle9 hf9=>?_)
   obtain ⟨Aa',ca',ea,hall⟩:=hR8.sl hle9 hf9 (by have:=hS.dsm.constants;have:=hS.psm.objects;omega)
   injection ea with ea1 ea2 ea3
   subst ea1
   subst ea3
   have hle89:=hle8.trans hle9
   have hD9:=hD7.mono hle89
   have hP9:=hP7.mono hle89
   have hS9:∀ {vf:Value} {fz':FZ},Le fz9 fz'→fz' gc=some (ckO d p (.slice A1 n1 b1) (.slice A2 n2 b2) (.slice A3 n3 b3) (.slice A4 n4 b4) (.slice A5 n5 b5) (.slice A6 n6 b6) (.slice B1 m1 d1) (.slice B2 m2 d2) (.slice B3 m3 d3) (.slice B4 m4 d4) (.slice B5 m5 d5) (.slice B6 m6 d6) (.slice B7 m7 d7) vf (.map none) (.map none) (.map none) (.slice Aa (d.constants.length+p.objects.length) ca))→CkR fz' (.pointer (some ⟨gc,0,none⟩)) d p (objsM d p) vf (.map none) (.map none) (.map none):=fun hl hg=>ckR_mk hg (hD9.mono hl) (hP9.mono hl) (hall.mono hl)
   refine zV ?_;intros
   refine zG ?_;refine Yd1 (b:=decide (LargeM d p (objsM d p))) Zz Zz (fun fz' hl hf=>large_q (hS9 (vf:=.pointer none) hl (hf (gc,_) (by simp)))) (fun f1=>?_) (fun f1=>?_)
   ·have hlg:=Zt f1
    refine zV ?_;intros
    exact ret2 rfl rfl rfl Zb (by rw [XJ,if_neg (by simpa using hdo),if_neg (by simpa using hpo),if_pos hlg];rfl)
   ·have hlg:=Zf f1
    obtain ⟨hL,hT64,hp6⟩:=Ygg hlg
    have hns:=nms_of hdo.1 hpo.2.1
    have hM9:=hM.mono (hle67.trans hle89)
    have htok:∀ q∈d.types,Xk q.name∧YcZ q.typ:=fun q hq=>by have:=hdo.1.2.1 q hq;exact ⟨by simpa using this.1,this.2⟩
    refine zV ?_;intros
    refine Yb Zz (Yl [] _ Zz Zz Zz (Yjz hM9 hD9 hT64 htok) (fun v10' fz10 H10 hle10 hR10=>?_))
    obtain ⟨rfl,vf,rfl,hvf⟩:=hR10
    by_cases hn0:newM d.types=0
    ·obtain ⟨gf,gm,evf,hf1,hf2⟩:=hvf hn0
     subst evf
     have hF:ForR fz10 (.pointer (some ⟨gf,0,none⟩)) d.types:=⟨gf,gm,rfl,hf1,hf2⟩
     have hle910:=hle10
     rw [hn0,show errV 0=.nilIface from rfl]
     have hW:WFT d.types:=Yjh hn0 (fun q hq=>(YaY i1 q hq).2) hT64
     have hck:XJ d p=YbJ (stepM d (objsM d p) p) 8 0:=by rw [XJ,if_neg (by simpa using hdo),if_neg (by simpa using hpo),if_neg hlg,if_neg (by simpa using hn0)]
     refine zV ?_;intros
     refine Yb Zz (Yc T (cs:=[.int .i64 0,.int .i64 1,.int .i64 2,.int .i64 3,.int .i64 4,.int .i64 5,.int .i64 6,.int .i64 7]) Zz Zz Zz Zz Zz Zz Zz Zz (fun gs=>?_))
     refine zV ?_;intros
     refine Yk (fun q σ fz' H'=>∃ k:Nat,k≤8∧q=8 - k∧σ=[(57,.int .i64 k),(56,.int .i64 8),(55,.slice (some ⟨gs,0,none⟩) 8 8),(10,.pointer (some ⟨gc,0,none⟩))]∧((k≤5∧fz10=fz'∧H'=[(gs,.cells #[.int .i64 0,.int .i64 1,.int .i64 2,.int .i64 3,.int .i64 4,.int .i64 5,.int .i64 6,.int .i64 7] 3 (0,0)),(gc,ckO d p (.slice A1 n1 b1) (.slice A2 n2 b2) (.slice A3 n3 b3) (.slice A4 n4 b4) (.slice A5 n5 b5) (.slice A6 n6 b6) (.slice B1 m1 d1) (.slice B2 m2 d2) (.slice B3 m3 d3) (.slice B4 m4 d4) (.slice B5 m5 d5) (.slice B6 m6 d6) (.slice B7 m7 d7) (.pointer (some ⟨gf,0,none⟩)) (.map none) (.map none) (.map none) (.slice Aa (d.constants.length+p.objects.length) ca))])∨(6≤k∧Le fz10 fz'∧H'=[(gs,.cells #[.int .i64 0,.int .i64 1,.int .i64 2,.int .i64 3,.int .i64 4,.int .i64 5,.int .i64 6,.int .i64 7] 3 (0,0))]∧CkG fz' (.pointer (some ⟨gc,0,none⟩)) d p (objsM d p)))∧(∀ i,i<k→(stepM d (objsM d p) p i).2=0)∧XJ d p=YbJ (stepM d (objsM d p) p) (8 - k) k) ⟨0,by omega,rfl,rfl,.inl ⟨by omega,rfl,rfl⟩,fun i hi=>absurd hi Zi,hck⟩ Zw Zb ?_
     rintro q σ fz1 H' ⟨k,hk,rfl,rfl,hph,hst,hcm⟩
     rcases hph with ⟨hk5,rfl,rfl⟩ | ⟨hk6,hl1,rfl,hG⟩
     ·refine zV ?_;intros
      refine zC (fun c1=>?_) (fun c1=>?_)
      ·rw [show 8 - k=(8 - (k+1))+1 from by omega,YbJ] at hcm
       refine zV ?_;intros
       obtain rfl | rfl | rfl | rfl | rfl | rfl:k=0∨k=1∨k=2∨k=3∨k=4∨k=5:=by omega
       ·refine zG ?_;refine Xu T Zz Zz Zz Zz Zz Zz Zi Zi ?_
        refine zG ?_;refine Yt T 0 Zz Zz Zz Zz Zz ?_
        refine zV ?_;intros
        refine zG ?_;refine Wf (v:=resV (stepM d (objsM d p) p 0)) Zz Zz (fun fz' hl hf=>stepA0_q (hS9 (vf:=.pointer (some ⟨gf,0,none⟩)) (hle10.trans hl) (hf (gc,_) (by simp [ckO]))) hns hL) ?_
        generalize hgs:stepM d (objsM d p) p 0=st at hcm
        obtain ⟨pl,ec⟩:=st
        rw [show resV (pl,ec)=.tuple #[.string pl,errV ec] from rfl]
        by_cases hz:ec=0
        ·subst hz
         rw [show errV 0=.nilIface from rfl]
         refine zV ?_;intros
         exact YA ⟨0+1,by omega,rfl,rfl,.inl ⟨by omega,rfl,rfl⟩,fun i hi=>by
          by_cases hi2:i=0
          ·subst hi2;rw [hgs]
          ·exact hst i Zi,by rw [hcm,if_pos rfl]⟩ Zi Zw Zb
        ·rw [YF hz]
         refine zV ?_;intros
         exact ret2 rfl rfl rfl Zb (by rw [hcm,if_neg hz,resV,YF hz];rfl)
       ·refine zG ?_;refine Xu T Zz Zz Zz Zz Zz Zz Zi Zi ?_
        refine zG ?_;refine Yt T 0 Zz Zz Zz Zz Zz ?_
        refine zV ?_;intros
        refine zG ?_;refine Wf (v:=resV (stepM d (objsM d p) p 1)) Zz Zz (fun fz' hl hf=>stepA1_q (hS9 (vf:=.pointer (some ⟨gf,0,none⟩)) (hle10.trans hl) (hf (gc,_) (by simp [ckO]))) hns) ?_
        generalize hgs:stepM d (objsM d p) p 1=st at hcm
        obtain ⟨pl,ec⟩:=st
        rw [show resV (pl,ec)=.tuple #[.string pl,errV ec] from rfl]
        by_cases hz:ec=0
        ·subst hz
         rw [show errV 0=.nilIface from rfl]
         refine zV ?_;intros
         exact YA ⟨1+1,by omega,rfl,rfl,.inl ⟨by omega,rfl,rfl⟩,fun i hi=>by
          by_cases hi2:i=1
          ·subst hi2;rw [hgs]
          ·exact hst i Zi,by rw [hcm,if_pos rfl]⟩ Zi Zw Zb
        ·rw [YF hz]
         refine zV ?_;intros
         exact ret2 rfl rfl rfl Zb (by rw [hcm,if_neg hz,resV,YF hz];rfl)
       ·refine zG ?_;refine Xu T Zz Zz Zz Zz Zz Zz Zi Zi ?_
        refine zG ?_;refine Yt T 0 Zz Zz Zz Zz Zz ?_
        refine zV ?_;intros
        refine zG ?_;refine Wf (v:=resV (stepM d (objsM d p) p 2)) Zz Zz (fun fz' hl hf=>stepA2_q (hS9 (vf:=.pointer (some ⟨gf,0,none⟩)) (hle10.trans hl) (hf (gc,_) (by simp [ckO]))) (hF.mono hl) hns) ?_
        generalize hgs:stepM d (objsM d p) p 2=st at hcm
        obtain ⟨pl,ec⟩:=st
        rw [show resV (pl,ec)=.tuple #[.string pl,errV ec] from rfl]
        by_cases hz:ec=0
        ·subst hz
         rw [show errV 0=.nilIface from rfl]
         refine zV ?_;intros
         exact YA ⟨2+1,by omega,rfl,rfl,.inl ⟨by omega,rfl,rfl⟩,fun i hi=>by
          by_cases hi2:i=2
          ·subst hi2;rw [hgs]
          ·exact hst i Zi,by rw [hcm,if_pos rfl]⟩ Zi Zw Zb
        ·rw [YF hz]
         refine zV ?_;intros
         exact ret2 rfl rfl rfl Zb (by rw [hcm,if_neg hz,resV,YF hz];rfl)
       ·refine zG ?_;refine Xu T Zz Zz Zz Zz Zz Zz Zi Zi ?_
        refine zG ?_;refine Yt T 0 Zz Zz Zz Zz Zz ?_
        refine zV ?_;intros
        refine zG ?_;refine Wf (v:=resV (stepM d (objsM d p) p 3)) Zz Zz (fun fz' hl hf=>stepA3_q (hS9 (vf:=.pointer (some ⟨gf,0,none⟩)) (hle10.trans hl) (hf (gc,_) (by simp [ckO]))) hns) ?_
        generalize hgs:stepM d (objsM d p) p 3=st at hcm
        obtain ⟨pl,ec⟩:=st
        rw [show resV (pl,ec)=.tuple #[.string pl,errV ec] from rfl]
        by_cases hz:ec=0
        ·subst hz
         rw [show errV 0=.nilIface from rfl]
         refine zV ?_;intros
         exact YA ⟨3+1,by omega,rfl,rfl,.inl ⟨by omega,rfl,rfl⟩,fun i hi=>by
          by_cases hi2:i=3
          ·subst hi2;rw [hgs]
          ·exact hst i Zi,by rw [hcm,if_pos rfl]⟩ Zi Zw Zb
        ·rw [YF hz]
         refine zV ?_;intros
         exact ret2 rfl rfl rfl Zb (by rw [hcm,if_neg hz,resV,YF hz];rfl)
       ·refine zG ?_;refine Xu T Zz Zz Zz Zz Zz Zz Zi Zi ?_
        refine zG ?_;refine Yt T 0 Zz Zz Zz Zz Zz ?_
        refine zV ?_;intros
        refine zG ?_;refine Wf (v:=resV (stepM d (objsM d p) p 4)) Zz Zz (fun fz' hl hf=>stepA4_q (hS9 (vf:=.pointer (some ⟨gf,0,none⟩)) (hle10.trans hl) (hf (gc,_) (by simp [ckO]))) hns (nums_of hdo.2)) ?_
        generalize hgs:stepM d (objsM d p) p 4=st at hcm
        obtain ⟨pl,ec⟩:=st
        rw [show resV (pl,ec)=.tuple #[.string pl,errV ec] from rfl]
        by_cases hz:ec=0
        ·subst hz
         rw [show errV 0=.nilIface from rfl]
         refine zV ?_;intros
         exact YA ⟨4+1,by omega,rfl,rfl,.inl ⟨by omega,rfl,rfl⟩,fun i hi=>by
          by_cases hi2:i=4
          ·subst hi2;rw [hgs]
          ·exact hst i Zi,by rw [hcm,if_pos rfl]⟩ Zi Zw Zb
        ·rw [YF hz]
         refine zV ?_;intros
         exact ret2 rfl rfl rfl Zb (by rw [hcm,if_neg hz,resV,YF hz];rfl)
       ·have hno:Yao d (objsM d p)=none:=by
         have:=hst 0 Zi
         unfold stepM at this
         cases hn9:Yao d (objsM d p) with
         | none=>rfl
         | some s=>rw [hn9] at this;cases this
        obtain ⟨o1,o2,o3,_,_⟩:=Ykg hno
        refine zG ?_;refine Xu T Zz Zz Zz Zz Zz Zz Zi Zi ?_
        refine zG ?_;refine Yt T 0 Zz Zz Zz Zz Zz ?_
        refine zV ?_;intros
        first | refine Wp.perm (List.Perm.swap _ _ _) ?_ | refine Seq.perm (List.Perm.swap _ _ _) ?_
        refine Yb Zz (Yl [_] [_] Zz Zz Zz (stepA5_f (hD9.mono hle10) (hP9.mono hle10) (hall.mono hle10) hF hW o1 o2 o3 hns hS.wa hS.wd) (fun v11' fz11 H11 hle11 hR11=>?_))
        obtain ⟨rfl,rfl,hG⟩:=hR11
        generalize hgs:stepM d (objsM d p) p 5=st at hcm
        obtain ⟨pl,ec⟩:=st
        rw [show resV (pl,ec)=.tuple #[.string pl,errV ec] from rfl]
        by_cases hz:ec=0
        ·subst hz
         rw [show errV 0=.nilIface from rfl]
         refine zV ?_;intros
         exact YA ⟨5+1,by omega,rfl,rfl,.inr ⟨by omega,hle11,rfl,hG⟩,fun i hi=>by
          by_cases hi2:i=5
          ·subst hi2;rw [hgs]
          ·exact hst i Zi,by rw [hcm,if_pos rfl]⟩ Zi Zw Zb
        ·rw [YF hz]
         refine zV ?_;intros
         exact ret2 rfl rfl rfl Zb (by rw [hcm,if_neg hz,resV,YF hz];rfl)
      ·omega
     ·refine zV ?_;intros
      refine zC (fun c1=>?_) (fun c1=>?_)
      ·rw [show 8 - k=(8 - (k+1))+1 from by omega,YbJ] at hcm
       refine zV ?_;intros
       obtain rfl | rfl:k=6∨k=7:=by omega
       ·refine zG ?_;refine Xu T Zz Zz Zz Zz Zz Zz Zi Zi ?_
        refine zG ?_;refine Yt T 0 Zz Zz Zz Zz Zz ?_
        refine zV ?_;intros
        ((refine zG ?_);refine YB Zz Zz (stepA6_q hG hns (fun f hf=>by have:=hp6 f hf;omega) (fun x hx=>by have:=(hpo.2.1.2.2.2.1 x hx).1;exact ⟨YaZ this.1,fun a ha=>YaZ (this.2 a ha)⟩) (by have:=hL.o;omega)) ?_)
        generalize hgs:stepM d (objsM d p) p 6=st at hcm
        obtain ⟨pl,ec⟩:=st
        rw [show resV (pl,ec)=.tuple #[.string pl,errV ec] from rfl]
        by_cases hz:ec=0
        ·subst hz
         rw [show errV 0=.nilIface from rfl]
         refine zV ?_;intros
         exact YA ⟨6+1,by omega,rfl,rfl,.inr ⟨by omega,hl1,rfl,hG⟩,fun i hi=>by
          by_cases hi2:i=6
          ·subst hi2;rw [hgs]
          ·exact hst i Zi,by rw [hcm,if_pos rfl]⟩ Zi Zw Zb
        ·rw [YF hz]
         refine zV ?_;intros
         exact ret2 rfl rfl rfl Zb (by rw [hcm,if_neg hz,resV,YF hz];rfl)
       ·refine zG ?_;refine Xu T Zz Zz Zz Zz Zz Zz Zi Zi ?_
        refine zG ?_;refine Yt T 0 Zz Zz Zz Zz Zz ?_
        refine zV ?_;intros
        refine zc (stepA7_q hG hS.wg) ?_
        generalize hgs:stepM d (objsM d p) p 7=st at hcm
        obtain ⟨pl,ec⟩:=st
        rw [show resV (pl,ec)=.tuple #[.string pl,errV ec] from rfl]
        by_cases hz:ec=0
        ·subst hz
         rw [show errV 0=.nilIface from rfl]
         refine zV ?_;intros
         exact YA ⟨7+1,by omega,rfl,rfl,.inr ⟨by omega,hl1,rfl,hG⟩,fun i hi=>by
          by_cases hi2:i=7
          ·subst hi2;rw [hgs]
          ·exact hst i Zi,by rw [hcm,if_pos rfl]⟩ Zi Zw Zb
        ·rw [YF hz]
         refine zV ?_;intros
         exact ret2 rfl rfl rfl Zb (by rw [hcm,if_neg hz,resV,YF hz];rfl)
      ·have hk8:k=8:=by omega
       subst hk8
       refine zV ?_;intros
       exact ret2 rfl rfl rfl Zb (by rw [hcm];rfl)
    ·rw [YF hn0]
     refine zV ?_;intros
     exact ret2 rfl rfl rfl Zb (by rw [XJ,if_neg (by simpa using hdo),if_neg (by simpa using hpo),if_neg hlg,if_pos hn0,resV,YF hn0];rfl)
  ·rw [if_neg hpo,show errV 2=.iface 60 (.int .i64 2) from rfl]
   refine zV ?_;intros
   exact ret2 rfl rfl rfl Zb (by rw [XJ,if_neg (by simpa using hdo),if_pos hpo];rfl)
 ·rw [if_neg hdo,show errV 2=.iface 60 (.int .i64 2) from rfl]
  refine zV ?_;intros
  exact ret2 rfl rfl rfl Zb (by rw [XJ,if_pos hdo];rfl)
def Ye7 (nm:Bs) (c:Change):Prop:=(c.kind=1∨c.kind=2)∧c.name=nm
def YmG (nm:Bs) (a:Action):Prop:=∃ c∈a.changes,Ye7 nm c
def YmF (nm:Bs) (a:Durative):Prop:=(∃ c∈a.atStart,Ye7 nm c)∨∃ c∈a.atEnd,Ye7 nm c
def chgM (d:Domain) (nm:Bs):Bool:=decide ((∃ a∈d.actions,YmG nm a)∨∃ a∈d.duratives,YmF nm a)
variable {cs:List Value}
theorem stat11_q {nm:Bs} {x:Change} {g1:Nat} {t1:TypeId} (hc:changeL.rep fz x cs) (h1:fz g1=some (.cells #[.string nm] t1 (0,0))):
 QFn prog 111 [.agg cs.toArray,.pointer (some ⟨g1,0,none⟩)] fz (.bool (decide (Ye7 nm x))):=by
 obtain ⟨u1,u2,u3,u4,u5,u6,u7,u8,rfl,hR⟩:=XF hc
 obtain ⟨A1,n1,c1',rfl,_⟩:=id hR.params
 obtain ⟨A2,n2,c2',rfl,_⟩:=id hR.when_.args
 obtain ⟨A3,n3,c3',rfl,_⟩:=id hR.when_.params
 obtain ⟨A4,n4,c4',rfl,_⟩:=id hR.when_.exprs
 obtain ⟨A5,n5,c5',rfl,_⟩:=id hR.when_.kids
 obtain ⟨A6,n6,c6',rfl,_⟩:=id hR.args
 obtain ⟨A7,n7,c7',rfl,_⟩:=id hR.value.args
 obtain ⟨A8,n8,c8',rfl,_⟩:=id hR.value.kids
 refine GFn.quiet ?_
 refine zF Tryz.func111 Tryz.ntmps111 (fun w0=>?_)
 refine Yp (Yq (Yb Zz (Y3 _ Zz Zz (fun g2=>?_))))
 by_cases w1:x.kind=1
 ·by_cases w2:x.name=nm
  ·subst w2
   refine zW ?_;intros
   refine zC (fun e1=>?_) (fun e1=>?_)
   ·refine zW ?_;intros
    exact zR (h:=by rw [decide_eq_true ⟨.inl w1,rfl⟩])
   ·exact absurd rfl e1
  ·refine zW ?_;intros
   exact zR (h:=by rw [decide_eq_false (fun h=>w2 h.2)])
 ·by_cases w3:x.kind=2
  ·by_cases w2:x.name=nm
   ·subst w2
    refine zW ?_;intros
    refine zC (fun e1=>?_) (fun e1=>?_)
    ·refine zW ?_;intros
     exact zR (h:=by rw [decide_eq_true ⟨.inr w3,rfl⟩])
    ·exact absurd rfl e1
   ·refine zW ?_;intros
    exact zR (h:=by rw [decide_eq_false (fun h=>w2 h.2)])
  ·refine zW ?_;intros
   exact zR (h:=by rw [decide_eq_false (fun h=>h.1.elim w1 w3)])
variable {v:Value}
theorem Yii {nm:Bs} {l:List Change} {g1:Nat} {t1:TypeId} (hl:IsSl changeL fz v l) (h1:fz g1=some (.cells #[.string nm] t1 (0,0))):
 QFn prog 110 [v,.pointer (some ⟨g1,0,none⟩)] fz (.bool (decide (∃ c∈l,Ye7 nm c))):=by
 obtain ⟨A,n,c,rfl,hs⟩:=hl
 refine GFn.quiet ?_
 refine zF Tryz.func110 Tryz.ntmps110 (fun w0=>?_)
 refine zW ?_;intros
 refine zG ?_;refine Xs Zz Zz ?_
 ((refine zG ?_);refine YB Zz Zz (Yab (cap:=[.pointer (some ⟨g1,0,none⟩)]) (p:=Ye7 nm) hs (fun x hx cs hcs=>stat11_q hcs h1)) ?_)
 refine zW ?_;intros
 exact zR (h:=rfl)
theorem stat2_q {nm:Bs} {x:Action} {g1 g5:Nat} {t1 t5:TypeId} (hc:actionL.rep fz x cs) (h1:fz g1=some (.cells #[.string nm] t1 (0,0))) (h5:fz g5=some (.cells #[.func (.func 110) #[] #[.pointer (some ⟨g1,0,none⟩)]] t5 (0,0))):
 QFn prog 112 [.agg cs.toArray,.pointer (some ⟨g5,0,none⟩)] fz (.bool (decide (YmG nm x))):=by
 obtain ⟨u1,u2,u3,u4,u5,u6,rfl,hR⟩:=XO hc
 obtain ⟨A1,n1,c1',rfl,_⟩:=id hR.params
 obtain ⟨A2,n2,c2',rfl,_⟩:=id hR.pre.args
 obtain ⟨A3,n3,c3',rfl,_⟩:=id hR.pre.params
 obtain ⟨A4,n4,c4',rfl,_⟩:=id hR.pre.exprs
 obtain ⟨A5,n5,c5',rfl,_⟩:=id hR.pre.kids
 obtain ⟨A6,n6,c6',rfl,ic⟩:=id hR.changes
 refine GFn.quiet ?_
 refine zF Tryz.func112 Tryz.ntmps112 (fun w0=>?_)
 refine Yp (Yq (Yb Zz (Y3 _ Zz Zz (fun g2=>?_))))
 refine zW ?_;intros
 refine zG ?_;refine YaG (first:=[]) (capt:=[.pointer (some ⟨g1,0,none⟩)]) Zz Zz Zz (Yii ic.is h1) ?_
 refine zW ?_;intros
 exact zR (h:=by congr 1;exact decide_eq_decide.2 Iff.rfl)
theorem stat3_q {nm:Bs} {x:Durative} {g1 g5:Nat} {t1 t5:TypeId} (hc:durativeL.rep fz x cs) (h1:fz g1=some (.cells #[.string nm] t1 (0,0))) (h5:fz g5=some (.cells #[.func (.func 110) #[] #[.pointer (some ⟨g1,0,none⟩)]] t5 (0,0))):
 QFn prog 113 [.agg cs.toArray,.pointer (some ⟨g5,0,none⟩)] fz (.bool (decide (YmF nm x))):=by
 obtain ⟨u0,u1,u2,u3,u4,u5,u6,u7,u8,u9,u10,u11,u12,u13,u14,rfl,hR⟩:=XE hc
 obtain ⟨B0,m0,d0,rfl,ip⟩:=id hR.params
 obtain ⟨B1,m1,d1,rfl,_⟩:=id hR.start.args
 obtain ⟨B2,m2,d2,rfl,_⟩:=id hR.start.params
 obtain ⟨B3,m3,d3,rfl,_⟩:=id hR.start.exprs
 obtain ⟨B4,m4,d4,rfl,_⟩:=id hR.start.kids
 obtain ⟨B5,m5,d5,rfl,_⟩:=id hR.over.args
 obtain ⟨B6,m6,d6,rfl,_⟩:=id hR.over.params
 obtain ⟨B7,m7,d7,rfl,_⟩:=id hR.over.exprs
 obtain ⟨B8,m8,d8,rfl,_⟩:=id hR.over.kids
 obtain ⟨B9,m9,d9,rfl,_⟩:=id hR.fin.args
 obtain ⟨B10,m10,d10,rfl,_⟩:=id hR.fin.params
 obtain ⟨B11,m11,d11,rfl,_⟩:=id hR.fin.exprs
 obtain ⟨B12,m12,d12,rfl,_⟩:=id hR.fin.kids
 obtain ⟨B13,m13,d13,rfl,ias⟩:=id hR.atStart
 obtain ⟨B14,m14,d14,rfl,iae⟩:=id hR.atEnd
 refine GFn.quiet ?_
 refine zF Tryz.func113 Tryz.ntmps113 (fun w0=>?_)
 refine Yp (Yq (Yb Zz (Y3 _ Zz Zz (fun g2=>?_))))
 refine zW ?_;intros
 refine zG ?_;refine YaG (first:=[]) (capt:=[.pointer (some ⟨g1,0,none⟩)]) Zz Zz Zz (Yii ias.is h1) ?_
 by_cases w:∃ c∈x.atStart,Ye7 nm c
 ·rw [decide_eq_true w]
  refine zW ?_;intros
  exact zR (h:=by rw [decide_eq_true (.inl w)])
 ·rw [decide_eq_false w]
  refine zW ?_;intros
  refine zG ?_;refine YaG (first:=[]) (capt:=[.pointer (some ⟨g1,0,none⟩)]) Zz Zz Zz (Yii iae.is h1) ?_
  refine zW ?_;intros
  exact zR (h:=by congr 1;exact decide_eq_decide.2 ⟨.inr,fun h=>h.resolve_left w⟩)
theorem static_q {nm:Bs} (hD:DomainR fz d v1 v2 v3 v4 v5 v6):
 QFn prog 70 [.agg #[.string d.name,v1,v2,v3,v4,v5,v6],.string nm] fz (.bool (!chgM d nm)):=by
 obtain ⟨A1,n1,b1,rfl,i1⟩:=hD.types
 obtain ⟨A2,n2,b2,rfl,i2⟩:=hD.constants
 obtain ⟨A3,n3,b3,rfl,i3⟩:=hD.predicates
 obtain ⟨A4,n4,b4,rfl,i4⟩:=hD.functions
 obtain ⟨A5,n5,b5,rfl,i5⟩:=hD.actions
 obtain ⟨A6,n6,b6,rfl,i6⟩:=hD.duratives
 refine GFn.quiet ?_
 refine zF Tryz.func70 Tryz.ntmps70 (fun w0=>?_)
 refine Yp (Yq (Yb Zz (Y3 _ Zz Zz (fun g2=>?_))))
 refine Yb Zz (Y3 _ Zz Zz (fun g3=>?_))
 refine zW ?_;intros
 refine zG ?_;refine Xs Zz Zz ?_
 refine zW ?_;intros
 refine zG ?_;refine Xs Zz Zz ?_
 refine zG ?_;refine Yd1 Zz Zz (fun fz' hle hf=>Ybi (p:=YmG nm) (i5.mono hle) (fun x hx cs hcs=>stat2_q hcs (hf _ (.tail _ (.head _))) (hf _ (.head _)))) (fun f1=>?_) (fun f1=>?_)
 ·refine zW ?_;intros
  exact zR (h:=by rw [chgM,decide_eq_true (.inl (Zt f1))];try rfl)
 ·refine zW ?_;intros
  refine zG ?_;refine Xs Zz Zz ?_
  refine zG ?_;refine Yd1 Zz Zz (fun fz' hle hf=>YaO (p:=YmF nm) (i6.mono hle) (fun x hx cs hcs=>stat3_q hcs (hf _ (.tail _ (.head _))) (hf _ (.head _)))) (fun f2=>?_) (fun f2=>?_)
  ·refine zW ?_;intros
   exact zR (h:=by rw [chgM,decide_eq_true (.inr (Zt f2))];try rfl)
  ·refine zW ?_;intros
   exact zR (h:=by rw [chgM,decide_eq_false (fun h=>h.elim (Zf f1) (Zf f2))];try rfl)
end Go.Proofs.YtbnpeechpebmeaaGreatDoor
namespace Go.Lx
open Go.RowKit
section
variable {P:Program} {cx:Cx} {r:Operand→Option Value} {fz:FZ} {H:HP} {dst:Option Nat} {ty:TypeId} {pos:String} {af:Array Edge} {gd:Option (Nat × Bool)}
variable {A:Option Addr} {X:Ty} {c n:Nat} {t:TypeId} {x:Operand}
theorem Yiq (T:Tab P) {V:Value→Prop} {e:TypeId} (hT:T.inf t=some X) (hd:X.desc=.slice e) (hx:r x=some (.slice A n c)) (h:V (.int .i64 c)):
 DoesQ P cx ⟨dst,.call {callee:=.builtin .cap,args:=#[x],argTypes:=#[t]},ty,pos,af,gd⟩ r fz H V:=
 YN (fun ρ w hr=>by
  have hu:=run_underlying (und_plain T hT hd rfl) w
  simp [execOp,resolve,invoke,builtin,hr _ _ hx,Builtin.cap_,hu,goInt]) h
variable {Y:Ty} {y:Operand}
theorem Wg (T:Tab P) {e:TypeId} {k1 k2:IntKind} {l:Nat} {K:Value→FZ→HP→Prop} (hT:T.inf t=some X) (hd:X.desc=.slice e) (hY:T.inf e=some Y) (hzs:Nat.beq Y.zero.cells.toList.length Y.size=true)
 (hx:r x=some (.int k1 l)) (hy:r y=some (.int k2 c)) (hlc:l≤c) (hb:c*Y.bytes≤1099511627776) (hc:c≤1099511627776)
 (h:∀ g,K (.slice (some ⟨g,0,none⟩) l c) fz ((g,.cells (repZ Y.zero.cells.toList c).toArray e (0,0))::H)):Does P cx ⟨dst,.makeSlice t x y,ty,pos,af,gd⟩ r fz H K:=by
 unfold Does
 intro ρ w hr hw
 have hu:=und_plain T hT hd rfl
 have hsz:=run_sizeOf T hY w
 have hzr:=Ybv T hY w
 obtain ⟨inf,hi,i1,i2,i3⟩:=(T.ok_ hY).info
 have hwq:IntKind.i64.wrap (c:Int)=c:=Xx Zi
 have hwl:IntKind.i64.wrap (l:Int)=l:=Xx Zi
 have hti:(typeInfo e).run P w=.ok inf w:=by simp [typeInfo,hi]
 have hrow:=Yle Y.zero.cells c Y.size (by simpa using Nat.eq_of_beq_eq_true hzs)
 have hroom:∀ w,(askRoom (c*Y.bytes)).run P w=.ok () w:=fun w=>by
  unfold askRoom roomBytes
  rw [if_neg Zi];rfl
 have hcomm:Y.bytes*c=c*Y.bytes:=Nat.mul_comm _ _
 have hcond:(((decide ((c:Int)<0) || decide (((Y.bytes:Int))*(c:Int)>2 ^ 48)) || decide ((l:Int)<0)) || decide ((l:Int)>(c:Int)))=false:=by
  have h5:¬((Y.bytes:Int)*(c:Int)>2 ^ 48):=by
   have:((Y.bytes*c:Nat):Int)≤1099511627776:=by omega
   rw [Int.natCast_mul] at this
   omega
  simp;omega
 have:(execOp ρ ⟨dst,.makeSlice t x y,ty,pos,af,gd⟩).run P w=.ok (.value (.slice (some ⟨w.heap.size,0,none⟩) l c)) (w.alloc (.cells (repZ Y.zero.cells.toList c).toArray e (0,0))):=by
  simp only [execOp,hr _ _ hx,hr _ _ hy,Instr.makeSlice,Sem.run_bind,run_underlying hu w,Result.andThen_ok,asInt,asIntOf,Sem.run_pure,hti,i2,hwq,hwl]
  rw [if_neg (by rw [hcond];simp)]
  simp only [Sem.run_bind,Int.toNat_natCast,hroom,Result.andThen_ok,hsz]
  by_cases h0:c*Y.size=0
  ·have hnil:(repZ Y.zero.cells.toList c).toArray=#[]:=by rw [← hrow,h0];simp
   simp only [if_pos h0,Sem.run_bind,Sem.run_pure,Result.andThen_ok,hnil,newRow,newObj,Sem.run]
   rw [h0,show Array.range 0=#[] from rfl,Array.map_empty]
   rfl
  ·simp only [if_neg h0,Sem.run_bind,Sem.run_pure,Result.andThen_ok,hzr,hrow,newRow,newObj,Sem.run]
   rfl
 rw [this]
 exact ⟨fz,_,hw.alloc _,h _⟩
end
end Go.Lx
