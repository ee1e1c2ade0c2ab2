/- The texts PWalkW, PCX, PChk, PWalkU, PWalkV, PDom, PPrb, laid together. Conditions: none. -/
import Derived.Test.YtfjopfinkdhmaaaGreatDoorRZM
set_option linter.all false
noncomputable section
set_option maxRecDepth 20000
namespace Go.Proofs.YtfjopfinkdhmaaaGreatDoor
open Go.Lx Go.RowKit
attribute [local instance 10] Classical.propDecidable
open Go.Proofs.Tryz (prog)
def Xk:Bs:=⟨#[112,114,111,98,108,101,109]⟩
def YH:Bs:=⟨#[58,100,111,109,97,105,110]⟩
def XP:Bs:=⟨#[58,111,98,106,101,99,116,115]⟩
def YcH:Bs:=⟨#[58,105,110,105,116]⟩
def YbT:Bs:=⟨#[58,103,111,97,108]⟩
def Yaq (a:Atom):Sexpr:=W5 a.name a.args
def valX (v:Value_):Sexpr:=YD [Yg kEq,Yaq v.fluent,numE v.n]
def YjZ (f:Formula):List Sexpr:=if f.op=kAnd/\f.kids=[] then [] else [YD [Yg YbT,Xc f]]
def prbX (p:Problem):Sexpr:=YD ([Yg YB,YD [Yg Xk,Yg p.name],YD [Yg YH,Yg p.domain]]++grp XP (WD p.objects)++grp YcH (p.init.map Yaq++p.values.map valX)++YjZ p.goal)
structure PrbSm (p:Problem):Prop where
 objects:p.objects.length<=1000000000
 init:p.init.length<=1000000000
 inits:∀ a∈p.init,a.args.length<=1000000000
 values:p.values.length<=1000000000
 vals:∀ v∈p.values,v.fluent.args.length<=1000000000
 goal:FSm p.goal
def glO (x:Sexpr) (vk:Value):Obj:=.cells #[Zk x.kind,Zk x.value,Zk x.line,Zk x.column,.string x.text,vk] 57 (0,0)
variable {fz:FZ}
theorem Ybx {a b:Bs} {gb gc:Nat} (ha:Short a) (hb:Short b)
 (h1:fz gb=some (.cells (Yr Xk++Yr a).toArray 57 (0,0)))
 (h2:fz gc=some (.cells (Yr YH++Yr b).toArray 57 (0,0))):
 ∀ p∈ [(Yg YB,Yr YB),(YD [Yg Xk,Yg a],[Zk 3,Zk 0,Zk 0,Zk 0,Ze,Zv gb 2 2]),(YD [Yg YH,Yg b],[Zk 3,Zk 0,Zk 0,Zk 0,Ze,Zv gc 2 2])],Yz.rep fz p.1 p.2:=by
 intro p hp;simp only [List.mem_cons,List.not_mem_nil,or_false] at hp;rcases hp with rfl | rfl | rfl
 ·exact Yu (YO Zh)
 ·exact Yh (Ws (Xz (ys:=[(Yg Xk,Yr Xk),(Yg a,Yr a)]) h1 rfl rfl (by intro p hp;simp only [List.mem_cons,List.not_mem_nil,or_false] at hp;rcases hp with rfl | rfl;exact Yu (YO Zh);exact Yu ha) rfl Zh))
 exact Yh (Ws (Xz (ys:=[(Yg YH,Yr YH),(Yg b,Yr b)]) h2 rfl rfl (by intro p hp;simp only [List.mem_cons,List.not_mem_nil,or_false] at hp;rcases hp with rfl | rfl;exact Yu (YO Zh);exact Yu hb) rfl Zh))
variable {p:Problem} {v1 v2 v3 v4 v5 v6 v7:Value}
set_option maxHeartbeats 8000000 in
theorem Yhp (h:ProblemR fz p v1 v2 v3 v4 v5 v6 v7) (hs:PrbSm p):
 GFn prog 27 [.agg #[.string p.name,.string p.domain,v1,v2,v3,.string p.goal.op,.string p.goal.name,v4,v5,v6,v7]] fz [] (WrR (FVal p.goal/\Ybs p/\XVal (prbX p)) (prbX p)):=by
 obtain ⟨A1,n1,b1,rfl,io⟩:=h.objects;obtain ⟨A2,n2,b2,rfl,ii⟩:=h.init;obtain ⟨A3,n3,b3,rfl,iv⟩:=h.values;obtain ⟨A4,n4,b4,rfl,_⟩:=h.goal.args;obtain ⟨A5,n5,b5,rfl,_⟩:=h.goal.params;obtain ⟨A6,n6,b6,rfl,_⟩:=h.goal.exprs;obtain ⟨A7,n7,b7,rfl,i7⟩:=h.goal.kids;have lo:=io.len;have li:=ii.len;have lv:=iv.len;have mo:=hs.objects;have mi:=hs.init;have mv:=hs.values;refine zF Tryz.func27 Tryz.ntmps27 (fun w0=>?_);refine Yj (Yq (Ya Zz (Xb _ Zz Zz (fun g1=>?_))));refine zWO ?_;intros;rename_i g2;refine wG ?_;refine Yo (vs:=[.string p.goal.op,.string p.goal.name,.slice A4 n4 b4,.slice A5 n5 b5,.slice A6 n6 b6,.slice A7 n7 b7]) T 1 Zz Zz Zz Zz Zz Zz ?_;refine wK (q:=Yk9 h.goal hs.goal) (h:=fun v8 fz8 H8 hle8 hR8=>?_);obtain ⟨rfl,u,y,rfl,⟨cs,rfl,hr⟩,hyx⟩:=hR8;obtain ⟨vk6,rfl,hX⟩:=Yi hr;obtain ⟨A8,n8,b8,rfl,i8⟩:=hX.kids;by_cases hP:FVal p.goal
 ·obtain rfl:=hyx hP;rw [if_pos hP];refine zW ?_;intros;rename_i g4;refine zb (YhK (h.mono hle8)) (fun f1=>?_) (fun f1=>?_)
  ·have hE:=Zt f1;refine zWX ?_;refine Yj (Wp.mid (fun σ fz' H'=>∃ (g6:Nat) (v:Value) (Hs:HP),σ=[(6,Zp g6),(4,Zp g4),(2,Zp g2),(1,Zp g1)]/\Le fz8 fz'/\H'=(g6,lsO v)::(g1,.cells #[.string p.name,.string p.domain,.slice A1 n1 b1,.slice A2 n2 b2,.slice A3 n3 b3,.string p.goal.op,.string p.goal.name,.slice A4 n4 b4,.slice A5 n5 b5,.slice A6 n6 b6,.slice A7 n7 b7] 40 (0,0))::(g2,.cells #[Zk 0,Zk 0,Zk 0,Zk 0,Ze,Zn] 57 (0,0))::(g4,glO (Xc p.goal) (.slice A8 n8 b8))::Hs/\Grow Yz 57 fz' v 3 Hs [Yg YB,YD [Yg Xk,Yg p.name],YD [Yg YH,Yg p.domain]]) ?_ ?_)
   ·have hnm:=h.name;have hdm:=h.domain;refine Wp.drawP [] (Hq:=[(g1,_)]) T.mixed Zj Zj Zb ?_;refine wc (Yah (s:=YB)) ?_;refine wc (Yah (s:=Xk)) ?_;refine wc (Yah (s:=p.name)) ?_;refine zW ?_;refine Ye ?_;refine Ye ?_;refine Ye ?_;refine wc (Yah (s:=p.domain)) ?_;unfold sxV;refine Ye ?_;refine Ye ?_;refine Ye ?_;refine Ye ?_;refine Ye ?_;refine Ye ?_;refine PK.done ⟨by kernel_rfl,?_⟩;refine YI Zz Zz Zz ?_ ?_
    ·refine Yd (Yb T (cs:=Yr Xk++Yr p.name) Zz Zz Zz Zz Zz Zz Zz Zz (fun gb=>⟨(⟨(Le.refl _),Zx⟩),?_⟩));refine YI Zz Zz Zz ?_ ?_
     ·refine PoS.qk (⟨(Le.refl _),Zx⟩) (Yv Zz Zz X2 ?_);unfold sxV;refine YI Zz Zz Zz ?_ ?_
      ·refine PoS.qk (⟨(Le.refl _),Zx⟩) (Yv Zz Zz (Yah (s:=YH)) ?_);unfold sxV;refine YI Zz Zz Zz ?_ ?_
       ·refine Yd (Yb T (cs:=Yr YH++Yr p.domain) Zz Zz Zz Zz Zz Zz Zz Zz (fun gc=>⟨(⟨(Le.refl _),Zx⟩),?_⟩));refine YI Zz Zz Zz ?_ ?_
        ·refine PoS.qk (⟨(Le.refl _),Zx⟩) (Yv Zz Zz X2 ?_);unfold sxV;refine YI Zz Zz Zz ?_ ?_
         ·refine Yd (Yb T (cs:=Yr YB++([Zk 3,Zk 0,Zk 0,Zk 0,Ze,Zv gb 2 2]++ [Zk 3,Zk 0,Zk 0,Zk 0,Ze,Zv gc 2 2])) Zz Zz Zz Zz Zz Zz Zz Zz (fun gd=>⟨(⟨(Le.refl _),Zx⟩),?_⟩));refine YI Zz Zz Zz ?_ ?_
          ·refine PoS.qk (⟨(Le.refl _),Zx⟩) (Yv Zz Zz X2 ?_);unfold sxV;refine Yc Zz Zz ?_;refine Yd (Y6 T Zz Zz (fun g6=>⟨(⟨(Le.refl _),Zx⟩),?_⟩));refine Yc Zz Zz ?_;refine PoS.hard0 Zj (Does.perm (X3 [0,6,5,4,1,2,3] Zz Zz) (YV T Zz Zz Zz Zz Zz Zz ?_));refine Po.done ?_;refine zW ?_;refine midF (H':=[(g6,_),(g1,_),(g2,_),(g4,_),(gd,_)]) (H2:=[(gb,_),(gc,_)]) (X3 [0,1,2,3,4,6,5] Zz Zz) (fun fz3 hl3 hf3=>⟨g6,_,[(gd,_)],rfl,hl3,rfl,Grow.block (m:=3) (ys:=[(Yg YB,Yr YB),(YD [Yg Xk,Yg p.name],[Zk 3,Zk 0,Zk 0,Zk 0,Ze,Zv gb 2 2]),(YD [Yg YH,Yg p.domain],[Zk 3,Zk 0,Zk 0,Zk 0,Ze,Zv gc 2 2])]) rfl rfl ?_ rfl Zh⟩) Zw;exact Ybx hnm hdm (hf3 _ (.head _)) (hf3 _ (.tail _ (.head _)))
          refine Yd (Y6 T Zz Zz (fun g6=>⟨(⟨(Le.refl _),Zx⟩),?_⟩));refine Yc Zz Zz ?_;refine PoS.qk (⟨(Le.refl _),Zx⟩) (Yv Zz Zz X2 ?_);unfold sxV;refine Yc Zz Zz ?_;refine PoS.hard0 Zj (Does.perm (X3 [0,6,5,4,1,2,3] Zz Zz) (YV T Zz Zz Zz Zz Zz Zz ?_));refine Po.done ?_;refine zW ?_;refine midF (H':=[(g6,_),(g1,_),(g2,_),(g4,_),(gd,_)]) (H2:=[(gb,_),(gc,_)]) (X3 [0,1,2,3,4,6,5] Zz Zz) (fun fz3 hl3 hf3=>⟨g6,_,[(gd,_)],rfl,hl3,rfl,Grow.block (m:=3) (ys:=[(Yg YB,Yr YB),(YD [Yg Xk,Yg p.name],[Zk 3,Zk 0,Zk 0,Zk 0,Ze,Zv gb 2 2]),(YD [Yg YH,Yg p.domain],[Zk 3,Zk 0,Zk 0,Zk 0,Ze,Zv gc 2 2])]) rfl rfl ?_ rfl Zh⟩) Zw;exact Ybx hnm hdm (hf3 _ (.head _)) (hf3 _ (.tail _ (.head _)))
         refine Yd (Y6 T Zz Zz (fun g6=>⟨(⟨(Le.refl _),Zx⟩),?_⟩));refine Yc Zz Zz ?_;refine Yd (Yb T (cs:=Yr YB++([Zk 3,Zk 0,Zk 0,Zk 0,Ze,Zv gb 2 2]++ [Zk 3,Zk 0,Zk 0,Zk 0,Ze,Zv gc 2 2])) Zz Zz Zz Zz Zz Zz Zz Zz (fun gd=>⟨(⟨(Le.refl _),Zx⟩),?_⟩));refine Yc Zz Zz ?_;refine PoS.qk (⟨(Le.refl _),Zx⟩) (Yv Zz Zz X2 ?_);unfold sxV;refine Yc Zz Zz ?_;refine PoS.hard0 Zj (Does.perm (X3 [1,6,5,4,0,2,3] Zz Zz) (YV T Zz Zz Zz Zz Zz Zz ?_));refine Po.done ?_;refine zW ?_;refine midF (H':=[(g6,_),(g1,_),(g2,_),(g4,_),(gd,_)]) (H2:=[(gb,_),(gc,_)]) (X3 [0,1,2,3,4,6,5] Zz Zz) (fun fz3 hl3 hf3=>⟨g6,_,[(gd,_)],rfl,hl3,rfl,Grow.block (m:=3) (ys:=[(Yg YB,Yr YB),(YD [Yg Xk,Yg p.name],[Zk 3,Zk 0,Zk 0,Zk 0,Ze,Zv gb 2 2]),(YD [Yg YH,Yg p.domain],[Zk 3,Zk 0,Zk 0,Zk 0,Ze,Zv gc 2 2])]) rfl rfl ?_ rfl Zh⟩) Zw;exact Ybx hnm hdm (hf3 _ (.head _)) (hf3 _ (.tail _ (.head _)))
        refine Yd (Y6 T Zz Zz (fun g6=>⟨(⟨(Le.refl _),Zx⟩),?_⟩));refine Yc Zz Zz ?_;refine PoS.qk (⟨(Le.refl _),Zx⟩) (Yv Zz Zz X2 ?_);unfold sxV;refine Yc Zz Zz ?_;refine Yd (Yb T (cs:=Yr YB++([Zk 3,Zk 0,Zk 0,Zk 0,Ze,Zv gb 2 2]++ [Zk 3,Zk 0,Zk 0,Zk 0,Ze,Zv gc 2 2])) Zz Zz Zz Zz Zz Zz Zz Zz (fun gd=>⟨(⟨(Le.refl _),Zx⟩),?_⟩));refine Yc Zz Zz ?_;refine PoS.qk (⟨(Le.refl _),Zx⟩) (Yv Zz Zz X2 ?_);unfold sxV;refine Yc Zz Zz ?_;refine PoS.hard0 Zj (Does.perm (X3 [1,6,5,4,0,2,3] Zz Zz) (YV T Zz Zz Zz Zz Zz Zz ?_));refine Po.done ?_;refine zW ?_;refine midF (H':=[(g6,_),(g1,_),(g2,_),(g4,_),(gd,_)]) (H2:=[(gb,_),(gc,_)]) (X3 [0,1,2,3,4,6,5] Zz Zz) (fun fz3 hl3 hf3=>⟨g6,_,[(gd,_)],rfl,hl3,rfl,Grow.block (m:=3) (ys:=[(Yg YB,Yr YB),(YD [Yg Xk,Yg p.name],[Zk 3,Zk 0,Zk 0,Zk 0,Ze,Zv gb 2 2]),(YD [Yg YH,Yg p.domain],[Zk 3,Zk 0,Zk 0,Zk 0,Ze,Zv gc 2 2])]) rfl rfl ?_ rfl Zh⟩) Zw;exact Ybx hnm hdm (hf3 _ (.head _)) (hf3 _ (.tail _ (.head _)))
       refine Yd (Y6 T Zz Zz (fun g6=>⟨(⟨(Le.refl _),Zx⟩),?_⟩));refine Yc Zz Zz ?_;refine Yd (Yb T (cs:=Yr YH++Yr p.domain) Zz Zz Zz Zz Zz Zz Zz Zz (fun gc=>⟨(⟨(Le.refl _),Zx⟩),?_⟩));refine Yc Zz Zz ?_;refine PoS.qk (⟨(Le.refl _),Zx⟩) (Yv Zz Zz X2 ?_);unfold sxV;refine Yc Zz Zz ?_;refine Yd (Yb T (cs:=Yr YB++([Zk 3,Zk 0,Zk 0,Zk 0,Ze,Zv gb 2 2]++ [Zk 3,Zk 0,Zk 0,Zk 0,Ze,Zv gc 2 2])) Zz Zz Zz Zz Zz Zz Zz Zz (fun gd=>⟨(⟨(Le.refl _),Zx⟩),?_⟩));refine Yc Zz Zz ?_;refine PoS.qk (⟨(Le.refl _),Zx⟩) (Yv Zz Zz X2 ?_);unfold sxV;refine Yc Zz Zz ?_;refine PoS.hard0 Zj (Does.perm (X3 [2,6,5,4,0,1,3] Zz Zz) (YV T Zz Zz Zz Zz Zz Zz ?_));refine Po.done ?_;refine zW ?_;refine midF (H':=[(g6,_),(g1,_),(g2,_),(g4,_),(gd,_)]) (H2:=[(gb,_),(gc,_)]) (X3 [0,1,2,3,4,6,5] Zz Zz) (fun fz3 hl3 hf3=>⟨g6,_,[(gd,_)],rfl,hl3,rfl,Grow.block (m:=3) (ys:=[(Yg YB,Yr YB),(YD [Yg Xk,Yg p.name],[Zk 3,Zk 0,Zk 0,Zk 0,Ze,Zv gb 2 2]),(YD [Yg YH,Yg p.domain],[Zk 3,Zk 0,Zk 0,Zk 0,Ze,Zv gc 2 2])]) rfl rfl ?_ rfl Zh⟩) Zw;exact Ybx hnm hdm (hf3 _ (.head _)) (hf3 _ (.tail _ (.head _)))
      refine Yd (Y6 T Zz Zz (fun g6=>⟨(⟨(Le.refl _),Zx⟩),?_⟩));refine Yc Zz Zz ?_;refine PoS.qk (⟨(Le.refl _),Zx⟩) (Yv Zz Zz (Yah (s:=YH)) ?_);unfold sxV;refine Yc Zz Zz ?_;refine Yd (Yb T (cs:=Yr YH++Yr p.domain) Zz Zz Zz Zz Zz Zz Zz Zz (fun gc=>⟨(⟨(Le.refl _),Zx⟩),?_⟩));refine Yc Zz Zz ?_;refine PoS.qk (⟨(Le.refl _),Zx⟩) (Yv Zz Zz X2 ?_);unfold sxV;refine Yc Zz Zz ?_;refine Yd (Yb T (cs:=Yr YB++([Zk 3,Zk 0,Zk 0,Zk 0,Ze,Zv gb 2 2]++ [Zk 3,Zk 0,Zk 0,Zk 0,Ze,Zv gc 2 2])) Zz Zz Zz Zz Zz Zz Zz Zz (fun gd=>⟨(⟨(Le.refl _),Zx⟩),?_⟩));refine Yc Zz Zz ?_;refine PoS.qk (⟨(Le.refl _),Zx⟩) (Yv Zz Zz X2 ?_);unfold sxV;refine Yc Zz Zz ?_;refine PoS.hard0 Zj (Does.perm (X3 [2,6,5,4,0,1,3] Zz Zz) (YV T Zz Zz Zz Zz Zz Zz ?_));refine Po.done ?_;refine zW ?_;refine midF (H':=[(g6,_),(g1,_),(g2,_),(g4,_),(gd,_)]) (H2:=[(gb,_),(gc,_)]) (X3 [0,1,2,3,4,6,5] Zz Zz) (fun fz3 hl3 hf3=>⟨g6,_,[(gd,_)],rfl,hl3,rfl,Grow.block (m:=3) (ys:=[(Yg YB,Yr YB),(YD [Yg Xk,Yg p.name],[Zk 3,Zk 0,Zk 0,Zk 0,Ze,Zv gb 2 2]),(YD [Yg YH,Yg p.domain],[Zk 3,Zk 0,Zk 0,Zk 0,Ze,Zv gc 2 2])]) rfl rfl ?_ rfl Zh⟩) Zw;exact Ybx hnm hdm (hf3 _ (.head _)) (hf3 _ (.tail _ (.head _)))
     refine Yd (Y6 T Zz Zz (fun g6=>⟨(⟨(Le.refl _),Zx⟩),?_⟩));refine Yc Zz Zz ?_;refine PoS.qk (⟨(Le.refl _),Zx⟩) (Yv Zz Zz X2 ?_);unfold sxV;refine Yc Zz Zz ?_;refine PoS.qk (⟨(Le.refl _),Zx⟩) (Yv Zz Zz (Yah (s:=YH)) ?_);unfold sxV;refine Yc Zz Zz ?_;refine Yd (Yb T (cs:=Yr YH++Yr p.domain) Zz Zz Zz Zz Zz Zz Zz Zz (fun gc=>⟨(⟨(Le.refl _),Zx⟩),?_⟩));refine Yc Zz Zz ?_;refine PoS.qk (⟨(Le.refl _),Zx⟩) (Yv Zz Zz X2 ?_);unfold sxV;refine Yc Zz Zz ?_;refine Yd (Yb T (cs:=Yr YB++([Zk 3,Zk 0,Zk 0,Zk 0,Ze,Zv gb 2 2]++ [Zk 3,Zk 0,Zk 0,Zk 0,Ze,Zv gc 2 2])) Zz Zz Zz Zz Zz Zz Zz Zz (fun gd=>⟨(⟨(Le.refl _),Zx⟩),?_⟩));refine Yc Zz Zz ?_;refine PoS.qk (⟨(Le.refl _),Zx⟩) (Yv Zz Zz X2 ?_);unfold sxV;refine Yc Zz Zz ?_;refine PoS.hard0 Zj (Does.perm (X3 [2,6,5,4,0,1,3] Zz Zz) (YV T Zz Zz Zz Zz Zz Zz ?_));refine Po.done ?_;refine zW ?_;refine midF (H':=[(g6,_),(g1,_),(g2,_),(g4,_),(gd,_)]) (H2:=[(gb,_),(gc,_)]) (X3 [0,1,2,3,4,6,5] Zz Zz) (fun fz3 hl3 hf3=>⟨g6,_,[(gd,_)],rfl,hl3,rfl,Grow.block (m:=3) (ys:=[(Yg YB,Yr YB),(YD [Yg Xk,Yg p.name],[Zk 3,Zk 0,Zk 0,Zk 0,Ze,Zv gb 2 2]),(YD [Yg YH,Yg p.domain],[Zk 3,Zk 0,Zk 0,Zk 0,Ze,Zv gc 2 2])]) rfl rfl ?_ rfl Zh⟩) Zw;exact Ybx hnm hdm (hf3 _ (.head _)) (hf3 _ (.tail _ (.head _)))
    refine Yd (Y6 T Zz Zz (fun g6=>⟨(⟨(Le.refl _),Zx⟩),?_⟩));refine Yc Zz Zz ?_;refine Yd (Yb T (cs:=Yr Xk++Yr p.name) Zz Zz Zz Zz Zz Zz Zz Zz (fun gb=>⟨(⟨(Le.refl _),Zx⟩),?_⟩));refine Yc Zz Zz ?_;refine PoS.qk (⟨(Le.refl _),Zx⟩) (Yv Zz Zz X2 ?_);unfold sxV;refine Yc Zz Zz ?_;refine PoS.qk (⟨(Le.refl _),Zx⟩) (Yv Zz Zz (Yah (s:=YH)) ?_);unfold sxV;refine Yc Zz Zz ?_;refine Yd (Yb T (cs:=Yr YH++Yr p.domain) Zz Zz Zz Zz Zz Zz Zz Zz (fun gc=>⟨(⟨(Le.refl _),Zx⟩),?_⟩));refine Yc Zz Zz ?_;refine PoS.qk (⟨(Le.refl _),Zx⟩) (Yv Zz Zz X2 ?_);unfold sxV;refine Yc Zz Zz ?_;refine Yd (Yb T (cs:=Yr YB++([Zk 3,Zk 0,Zk 0,Zk 0,Ze,Zv gb 2 2]++ [Zk 3,Zk 0,Zk 0,Zk 0,Ze,Zv gc 2 2])) Zz Zz Zz Zz Zz Zz Zz Zz (fun gd=>⟨(⟨(Le.refl _),Zx⟩),?_⟩));refine Yc Zz Zz ?_;refine PoS.qk (⟨(Le.refl _),Zx⟩) (Yv Zz Zz X2 ?_);unfold sxV;refine Yc Zz Zz ?_;refine PoS.hard0 Zj (Does.perm (X3 [3,6,5,4,0,1,2] Zz Zz) (YV T Zz Zz Zz Zz Zz Zz ?_));refine Po.done ?_;refine zW ?_;refine midF (H':=[(g6,_),(g1,_),(g2,_),(g4,_),(gd,_)]) (H2:=[(gb,_),(gc,_)]) (X3 [0,1,2,3,4,6,5] Zz Zz) (fun fz3 hl3 hf3=>⟨g6,_,[(gd,_)],rfl,hl3,rfl,Grow.block (m:=3) (ys:=[(Yg YB,Yr YB),(YD [Yg Xk,Yg p.name],[Zk 3,Zk 0,Zk 0,Zk 0,Ze,Zv gb 2 2]),(YD [Yg YH,Yg p.domain],[Zk 3,Zk 0,Zk 0,Zk 0,Ze,Zv gc 2 2])]) rfl rfl ?_ rfl Zh⟩) Zw;exact Ybx hnm hdm (hf3 _ (.head _)) (hf3 _ (.tail _ (.head _)))
   rintro σ fz9 H' ⟨g6,v,Hs,rfl,hle9,rfl,hG⟩;obtain ⟨Av,cv,rfl,_,_⟩:=hG.form;refine zWX ?_;refine Yj (Wp.mid (fun σ fz' H'=>∃ (m:Nat) (v:Value) (Hs:HP),σ=[(6,Zp g6),(4,Zp g4),(2,Zp g2),(1,Zp g1)]/\Le fz9 fz'/\H'=(g6,lsO v)::(g1,.cells #[.string p.name,.string p.domain,.slice A1 n1 b1,.slice A2 n2 b2,.slice A3 n3 b3,.string p.goal.op,.string p.goal.name,.slice A4 n4 b4,.slice A5 n5 b5,.slice A6 n6 b6,.slice A7 n7 b7] 40 (0,0))::(g2,.cells #[Zk 0,Zk 0,Zk 0,Zk 0,Ze,Zn] 57 (0,0))::(g4,glO (Xc p.goal) (.slice A8 n8 b8))::Hs/\m<=4/\Grow Yz 57 fz' v m Hs ([Yg YB,YD [Yg Xk,Yg p.name],YD [Yg YH,Yg p.domain]]++grp XP (WD p.objects))) ?_ ?_)
   ·have i1m:=io.mono (hle8.trans hle9);refine wC (fun c1=>?_) (fun c1=>?_)
    ·have hne:WD p.objects≠ []:=fun h0=>by have:=YiC (l:=p.objects);rw [h0] at this;simp at this;omega
     refine zW ?_;refine Wp.drawP [] (Hq:=[(g6,_),(g1,_)]) T.mixed Zj Zj Zb ?_;refine wc (Yah (s:=XP)) ?_;refine Ye ?_;refine zW ?_;unfold sxV;refine Ye ?_;refine Ye ?_;refine Ye ?_;refine Ye ?_;refine Ye ?_;refine zW ?_;refine Ye ?_;refine PK.done ⟨by kernel_rfl,?_⟩;refine YI Zz Zz Zz ?_ ?_
     ·refine Yd (Yb T (cs:=Yr XP) Zz Zz Zz Zz Zz Zz Zz Zz (fun gb=>⟨(⟨(Le.refl _),Zx⟩),?_⟩));refine Yc Zz Zz ?_;refine Yd (Yx [] _ Zz Zz Zz (YdK i1m Zi) (fun v7 fz7 H7 hle7 hR7=>?_));obtain ⟨rfl,B7,cc7,rfl,hsl7⟩:=hR7;refine ⟨(⟨hle7,Zx⟩),?_⟩;refine Yc Zz Zz ?_;refine Yd (WX T (n:=1) (l:=[Yg XP]) (Hr:=(g6,_)::(g1,_)::(g2,_)::(g4,_)::Hs) (Hs:=[(gb,_)]) Zz Zz Zz Zz Zz Zz Zz Zz ((List.perm_append_singleton _ _).symm) (Grow.block (ys:=[(Yg XP,Yr XP)]) rfl rfl (by simpa using Yu (YO Zh)) rfl Zh) Ys hsl7 (by show _*72<=_;omega) Zi (fun v8 Hs1 hO1=>⟨(⟨hle7,Zx⟩),?_⟩));obtain ⟨Ao,co,rfl,_,_⟩:=hO1.form;refine Yc Zz Zz ?_;refine PoS.qk (⟨hle7,Zx⟩) (Yv Zz Zz X2 ?_);unfold sxV;refine Yc Zz Zz ?_;refine Yd (Yb T (cs:=[Zk 3,Zk 0,Zk 0,Zk 0,Ze,.slice Ao (1+3*n1) co]) Zz Zz Zz Zz Zz Zz Zz Zz (fun gc=>⟨(⟨hle7,Zx⟩),?_⟩));refine Yc Zz Zz ?_;refine Yd (Does.freezeAll (H1:=(gc,_)::(g6,_)::(g1,_)::(g2,_)::(g4,_)::Hs) (H2:=Hs1) (Zr _) (fun fzb hle10 hf10=>?_));obtain ⟨A2x,c2x,he2,hsl9⟩:=hO1.sl hle10 hf10 Zi;injection he2 with x1 x2 x3
      subst x1 x3;refine YP T (Hr:=(gc,_)::(g6,_)::(g1,_)::(g2,_):: [(g4,_)]) (d:=YD (Yg XP::WD p.objects)) Zz Zz Zz Zz Zz Zz Zz Zz (Zr _) (hG.mono (hle7.trans hle10)) Ys (.head _) (Yh (Ws hsl9)) (by show _*72<=_;omega) Zi (fun v9 Hp9 hO9=>⟨(⟨(hle7.trans hle10),Zx⟩),?_⟩);obtain ⟨A9,c9,rfl,_,_⟩:=hO9.form;refine Yc Zz Zz ?_;refine PoS.hard0 Zj (YU T Zz Zz Zz Zz Zz Zz ?_);refine Po.done ?_;exact wN (h:=by exact ⟨4,_,Hp9,rfl,hle7.trans hle10,rfl,by omega,hO9.of (by rw [YjY hne]) rfl⟩)
     refine Yd (Yx [] _ Zz Zz Zz (YdK i1m Zi) (fun v7 fz7 H7 hle7 hR7=>?_));obtain ⟨rfl,B7,cc7,rfl,hsl7⟩:=hR7;refine ⟨(⟨hle7,Zx⟩),?_⟩;refine Yc Zz Zz ?_;refine Yd (Yb T (cs:=Yr XP) Zz Zz Zz Zz Zz Zz Zz Zz (fun gb=>⟨(⟨hle7,Zx⟩),?_⟩));refine Yc Zz Zz ?_;refine Yd (WX T (n:=1) (l:=[Yg XP]) (Hr:=(g6,_)::(g1,_)::(g2,_)::(g4,_)::Hs) (Hs:=[(gb,_)]) Zz Zz Zz Zz Zz Zz Zz Zz ((List.perm_append_singleton _ _).symm) (Grow.block (ys:=[(Yg XP,Yr XP)]) rfl rfl (by simpa using Yu (YO Zh)) rfl Zh) Ys hsl7 (by show _*72<=_;omega) Zi (fun v8 Hs1 hO1=>⟨(⟨hle7,Zx⟩),?_⟩));obtain ⟨Ao,co,rfl,_,_⟩:=hO1.form;refine Yc Zz Zz ?_;refine PoS.qk (⟨hle7,Zx⟩) (Yv Zz Zz X2 ?_);unfold sxV;refine Yc Zz Zz ?_;refine Yd (Yb T (cs:=[Zk 3,Zk 0,Zk 0,Zk 0,Ze,.slice Ao (1+3*n1) co]) Zz Zz Zz Zz Zz Zz Zz Zz (fun gc=>⟨(⟨hle7,Zx⟩),?_⟩));refine Yc Zz Zz ?_;refine Yd (Does.freezeAll (H1:=(gc,_)::(g6,_)::(g1,_)::(g2,_)::(g4,_)::Hs) (H2:=Hs1) (Zr _) (fun fzb hle10 hf10=>?_));obtain ⟨A2x,c2x,he2,hsl9⟩:=hO1.sl hle10 hf10 Zi;injection he2 with x1 x2 x3
     subst x1 x3;refine YP T (Hr:=(gc,_)::(g6,_)::(g1,_)::(g2,_):: [(g4,_)]) (d:=YD (Yg XP::WD p.objects)) Zz Zz Zz Zz Zz Zz Zz Zz (Zr _) (hG.mono (hle7.trans hle10)) Ys (.head _) (Yh (Ws hsl9)) (by show _*72<=_;omega) Zi (fun v9 Hp9 hO9=>⟨(⟨(hle7.trans hle10),Zx⟩),?_⟩);obtain ⟨A9,c9,rfl,_,_⟩:=hO9.form;refine Yc Zz Zz ?_;refine PoS.hard0 Zj (YU T Zz Zz Zz Zz Zz Zz ?_);refine Po.done ?_;exact wN (h:=by exact ⟨4,_,Hp9,rfl,hle7.trans hle10,rfl,by omega,hO9.of (by rw [YjY hne]) rfl⟩)
    have hnil:WD p.objects=[]:=List.eq_nil_of_length_eq_zero (by rw [YiC];omega);exact wN (h:=by exact ⟨3,_,Hs,rfl,Le.refl _,rfl,by omega,hG.of (by rw [hnil,Ynr];simp) rfl⟩)
   rintro σ fz10 H' ⟨m1,v,Hs,rfl,hle10,rfl,hm1,hG⟩;obtain ⟨Av,cv,rfl,_,_⟩:=hG.form;refine zWX ?_;refine Yj (Wp.mid (fun σ fz' H'=>∃ (m:Nat) (v:Value) (Hs:HP),σ=[(6,Zp g6),(4,Zp g4),(2,Zp g2),(1,Zp g1)]/\Le fz10 fz'/\H'=(g6,lsO v)::(g1,.cells #[.string p.name,.string p.domain,.slice A1 n1 b1,.slice A2 n2 b2,.slice A3 n3 b3,.string p.goal.op,.string p.goal.name,.slice A4 n4 b4,.slice A5 n5 b5,.slice A6 n6 b6,.slice A7 n7 b7] 40 (0,0))::(g2,.cells #[Zk 0,Zk 0,Zk 0,Zk 0,Ze,Zn] 57 (0,0))::(g4,glO (Xc p.goal) (.slice A8 n8 b8))::Hs/\m<=5/\Grow Yz 57 fz' v m Hs ([Yg YB,YD [Yg Xk,Yg p.name],YD [Yg YH,Yg p.domain]]++grp XP (WD p.objects)++grp YcH (p.init.map Yaq++p.values.map valX))) ?_ ?_)
   ·have hleA:=(hle8.trans hle9).trans hle10;have i2m:=ii.mono hleA;have i3m:=iv.mono hleA;refine wC (fun c2=>?_) (fun c2=>?_)
    ·refine wc (Yah (s:=YcH)) ?_;refine Ya Zz (Yb T (cs:=Yr YcH) Zz Zz Zz Zz Zz Zz Zz Zz (fun gb=>?_));refine zc X2 ?_;refine zW ?_;intros;rename_i g7;refine Wp.perm (List.Perm.cons _ (List.perm_append_singleton _ ((g6,_)::(g1,_)::(g2,_)::(g4,_)::Hs))) ?_;refine Ym (fun q σ fz' H'=>∃ (k:Nat) (v7:Value) (Hi:HP),k<=n2/\q=n2 - k/\σ=[(72,Zk k),(71,Zk n2),(70,.slice A2 n2 b2),(7,Zp g7),(6,Zp g6),(4,Zp g4),(2,Zp g2),(1,Zp g1)]/\Le fz10 fz'/\H'=(g7,lsO v7)::(g6,lsO (.slice Av m1 cv))::(g1,.cells #[.string p.name,.string p.domain,.slice A1 n1 b1,.slice A2 n2 b2,.slice A3 n3 b3,.string p.goal.op,.string p.goal.name,.slice A4 n4 b4,.slice A5 n5 b5,.slice A6 n6 b6,.slice A7 n7 b7] 40 (0,0))::(g2,.cells #[Zk 0,Zk 0,Zk 0,Zk 0,Ze,Zn] 57 (0,0))::(g4,glO (Xc p.goal) (.slice A8 n8 b8))::(Hs++Hi)/\Grow Yz 57 fz' v7 (k+1) Hi (Yg YcH::(p.init.take k).map Yaq)) ⟨0,_,[_],Z0 _,rfl,rfl,Le.refl _,rfl,Grow.block (ys:=[(Yg YcH,Yr YcH)]) rfl rfl (by simpa using Yu (YO Zh)) rfl Zh⟩ Zw Zb ?_;rintro q σ fz' H' ⟨k,v7,Hi,hk,rfl,rfl,hle,rfl,hO⟩;obtain ⟨Ai,ci,rfl,_,_⟩:=hO.form;refine wC (fun e1=>?_) (fun e1=>?_)
     ·obtain ⟨x,hx⟩:=Yl (l:=p.init) (k:=k) Zi;have hxm:=Zm hx;have i2k:=i2m.mono hle;refine wI i2k hx (fun a ha=>?_);refine zL ha ?_;intro cs hcs;obtain ⟨va,rfl,hRx⟩:=WF hcs;obtain ⟨Aa,na,ca,rfl,ia⟩:=hRx.args;refine zW ?_;intros;rename_i g9;refine Wp.drawP [] (Hq:=[(g9,_),(g7,_)]) T.mixed Zj Zj Zb ?_;refine zW ?_;refine Ye ?_;refine Ye ?_;refine Ye ?_;refine zW ?_;refine Ye ?_;refine PK.done ⟨by kernel_rfl,?_⟩;refine Yc Zz Zz ?_;refine Yd (Yx [] _ Zz Zz Zz (Yff hRx (hs.inits x hxm)) (fun v7 fz7 H7 hle7 hR7=>?_));obtain ⟨rfl,cs7,rfl,hr7⟩:=hR7;obtain ⟨vk7,rfl,hX7⟩:=Yi (x:=Yaq x) hr7;refine ⟨(⟨hle7,Zx⟩),?_⟩;refine Yc Zz Zz ?_;refine Yd (Yb T (cs:=[Zk (Yaq x).kind,Zk (Yaq x).value,Zk (Yaq x).line,Zk (Yaq x).column,.string (Yaq x).text,vk7]) Zz Zz Zz Zz Zz Zz Zz Zz (fun gc=>⟨(⟨hle7,Zx⟩),?_⟩));refine Yc Zz Zz ?_;refine Yd (YP T (Hr:=(gc,_)::(g9,_)::(g7,_)::(g6,_)::(g1,_)::(g2,_)::(g4,_)::Hs) (d:=Yaq x) Zz Zz Zz Zz Zz Zz Zz Zz (Zr _) (hO.mono hle7) Ys (.head _) (Yh hX7) (by show _*72<=_;omega) Zi (fun v9 Hi9 hO9=>⟨(⟨hle7,Zx⟩),?_⟩));obtain ⟨A9,c9,rfl,_,_⟩:=hO9.form;refine Yc Zz Zz ?_;refine PoS.hard0 Zj (Wk T Zz Zz Zz Zz Zz Zz ?_);refine Po.done ?_;exact wP (h:=by exact ⟨k+1,_,Hi9,by omega,rfl,rfl,hle.trans hle7,rfl,hO9.of (by rw [List.take_add_one,hx];simp) rfl⟩)
     have hkn:n2=k:=by omega
     subst hkn;rw [Zl Zi] at hO;refine zW ?_;refine Ym (fun q σ fz'' H'=>∃ (j:Nat) (v7:Value) (Hi:HP),j<=n3/\q=n3 - j/\σ=[(87,Zk j),(86,Zk n3),(85,.slice A3 n3 b3),(7,Zp g7),(6,Zp g6),(4,Zp g4),(2,Zp g2),(1,Zp g1)]/\Le fz' fz''/\H'=(g7,lsO v7)::(g6,lsO (.slice Av m1 cv))::(g1,.cells #[.string p.name,.string p.domain,.slice A1 n1 b1,.slice A2 n2 b2,.slice A3 n3 b3,.string p.goal.op,.string p.goal.name,.slice A4 n4 b4,.slice A5 n5 b5,.slice A6 n6 b6,.slice A7 n7 b7] 40 (0,0))::(g2,.cells #[Zk 0,Zk 0,Zk 0,Zk 0,Ze,Zn] 57 (0,0))::(g4,glO (Xc p.goal) (.slice A8 n8 b8))::(Hs++Hi)/\Grow Yz 57 fz'' v7 (n2+1+j) Hi (Yg YcH::p.init.map Yaq++(p.values.take j).map valX)) ⟨0,_,Hi,Z0 _,rfl,rfl,Le.refl _,rfl,hO.of (by simp) rfl⟩ Zw Zb ?_;rintro q σ fz'' H' ⟨j,v7,Hi,hj,rfl,rfl,hle5,rfl,hO⟩;obtain ⟨Ai,ci,rfl,_,_⟩:=hO.form;refine wC (fun e2=>?_) (fun e2=>?_)
     ·obtain ⟨x,hx⟩:=Yl (l:=p.values) (k:=j) Zi;have hxm:=Zm hx;have i3k:=i3m.mono (hle.trans hle5);refine wI i3k hx (fun a ha=>?_);refine zL ha ?_;intro cs hcs;obtain ⟨va,rfl,hRx⟩:=Yav hcs;obtain ⟨Aa,na,ca,rfl,ia⟩:=hRx.fluent.args;refine zW ?_;intros;rename_i g9;refine Wp.drawP [] (Hq:=[(g9,_),(g7,_)]) T.mixed Zj Zj Zb ?_;refine wc (Yah (s:=kEq)) ?_;refine wG ?_;refine Yo (vs:=[.string x.fluent.name,.slice Aa na ca]) T 0 Zz Zz Zz Zz Zz Zz ?_;refine Ye ?_;refine zW ?_;unfold sxV;refine Ye ?_;refine Ye ?_;refine Ye ?_;refine Ye ?_;refine zW ?_;refine Ye ?_;refine PK.done ⟨by kernel_rfl,?_⟩;refine Yc Zz Zz ?_;refine Yd (Yx [] _ Zz Zz Zz (Yff hRx.fluent (hs.vals x hxm)) (fun v7 fz7 H7 hle7 hR7=>?_));obtain ⟨rfl,cs7,rfl,hr7⟩:=hR7;obtain ⟨vk7,rfl,hX7⟩:=Yi (x:=Yaq x.fluent) hr7;refine ⟨(⟨hle7,Zx⟩),?_⟩;refine Yc Zz Zz ?_;refine Yd (Yb T (cs:=Yr kEq++([Zk (Yaq x.fluent).kind,Zk (Yaq x.fluent).value,Zk (Yaq x.fluent).line,Zk (Yaq x.fluent).column,.string (Yaq x.fluent).text,vk7]++ [Zk 2,Zk x.n,Zk 0,Zk 0,Ze,Zn])) Zz Zz Zz Zz Zz Zz Zz Zz (fun gb=>⟨(⟨hle7,Zx⟩),?_⟩));refine Yc Zz Zz ?_;refine PoS.qk (⟨hle7,Zx⟩) (Yv Zz Zz X2 ?_);unfold sxV;refine Yc Zz Zz ?_;refine Yd (Yb T (cs:=[Zk 3,Zk 0,Zk 0,Zk 0,Ze,Zv gb 3 3]) Zz Zz Zz Zz Zz Zz Zz Zz (fun gc=>⟨(⟨hle7,Zx⟩),?_⟩));refine Yc Zz Zz ?_;refine Yd (Does.freezeAll (H1:=(gc,_)::(g9,_)::(g7,_)::(g6,_)::(g1,_)::(g2,_)::(g4,_)::(Hs++Hi)) (H2:=[(gb,_)]) (List.Perm.cons _ (List.perm_append_singleton _ _).symm) (fun fzb hle10' hf10=>?_));have hrep:Yz.rep fzb (valX x) [Zk 3,Zk 0,Zk 0,Zk 0,Ze,Zv gb 3 3]:=Yh (Ws (Xz (ys:=[(Yg kEq,Yr kEq),(Yaq x.fluent,[Zk (Yaq x.fluent).kind,Zk (Yaq x.fluent).value,Zk (Yaq x.fluent).line,Zk (Yaq x.fluent).column,.string (Yaq x.fluent).text,vk7]),(numE x.n,[Zk 2,Zk x.n,Zk 0,Zk 0,Ze,Zn])]) (hf10 _ (.head _)) rfl rfl (by intro p hp;simp only [List.mem_cons,List.not_mem_nil,or_false] at hp;rcases hp with rfl | rfl | rfl;exact Yu (YO Zh);exact Yh (hX7.mono hle10');exact Yh (YiJ hRx.n)) rfl Zh));refine YP T (Hr:=(gc,_)::(g9,_)::(g7,_)::(g6,_)::(g1,_)::(g2,_)::(g4,_)::Hs) (d:=valX x) Zz Zz Zz Zz Zz Zz Zz Zz (Zr _) (hO.mono (hle7.trans hle10')) Ys (.head _) hrep (by show _*72<=_;omega) Zi (fun v9 Hi9 hO9=>⟨(⟨(hle7.trans hle10'),Zx⟩),?_⟩);obtain ⟨A9,c9,rfl,_,_⟩:=hO9.form;refine Yc Zz Zz ?_;refine PoS.hard0 Zj (Wk T Zz Zz Zz Zz Zz Zz ?_);refine Po.done ?_;exact wP (h:=by exact ⟨j+1,_,Hi9,by omega,rfl,rfl,hle5.trans (hle7.trans hle10'),rfl,hO9.of (by rw [List.take_add_one,hx];simp) rfl⟩)
     have hjn:n3=j:=by omega
     subst hjn;rw [Zl Zi] at hO;refine Seq.freezeAll (H1:=(g7,_)::(g6,_)::(g1,_)::(g2,_)::(g4,_)::Hs) (H2:=Hi) (Zr _) (fun fzp hlp hfp=>?_);obtain ⟨A2x,c2x,he2,hslp⟩:=hO.sl hlp hfp Zi;injection he2 with x1 x2 x3
     subst x1 x3;have hleB:=(hle.trans hle5).trans hlp;have hne:p.init.map Yaq++p.values.map valX≠ []:=fun h0=>by have:=congrArg List.length h0;simp only [List.length_append,List.length_map,List.length_nil] at this;omega
     refine zW ?_;refine Ya Zz (Yb T (cs:=[Zk 3,Zk 0,Zk 0,Zk 0,Ze,.slice Ai (n2+1+n3) ci]) Zz Zz Zz Zz Zz Zz Zz Zz (fun gc=>?_));refine Ya Zz (YP T (Hr:=(gc,_)::(g7,_)::(g6,_)::(g1,_)::(g2,_):: [(g4,_)]) (d:=YD (Yg YcH::p.init.map Yaq++p.values.map valX)) Zz Zz Zz Zz Zz Zz Zz Zz (Zr _) (hG.mono hleB) Ys (.head _) (Yh (Ws hslp)) (by show _*72<=_;omega) Zi (fun v9 Hs9 hO9=>?_));obtain ⟨A9,c9,rfl,_,_⟩:=hO9.form;exact wN (h:=by exact ⟨m1+1,_,Hs9,rfl,hleB,rfl,by omega,hO9.of (by rw [YjY hne];simp) rfl⟩)
    have hi0:p.init=[]:=List.eq_nil_of_length_eq_zero Zi;have hv0:p.values=[]:=List.eq_nil_of_length_eq_zero Zi;exact wN (h:=by exact ⟨m1,_,Hs,rfl,Le.refl _,rfl,by omega,hG.of (by rw [hi0,hv0];simp [Ynr]) rfl⟩)
   rintro σ fz11 H' ⟨m2,v,Hs,rfl,hle11,rfl,hm2,hG⟩;obtain ⟨Av,cv,rfl,_,_⟩:=hG.form;have hleC:=(hle9.trans hle10).trans hle11;refine zWX ?_;refine Yj (Wp.mid (fun σ fz' H'=>∃ (m:Nat) (v:Value) (Hs:HP),σ=[(6,Zp g6),(4,Zp g4),(2,Zp g2),(1,Zp g1)]/\Le fz11 fz'/\H'=(g6,lsO v)::(g1,.cells #[.string p.name,.string p.domain,.slice A1 n1 b1,.slice A2 n2 b2,.slice A3 n3 b3,.string p.goal.op,.string p.goal.name,.slice A4 n4 b4,.slice A5 n5 b5,.slice A6 n6 b6,.slice A7 n7 b7] 40 (0,0))::(g2,.cells #[Zk 0,Zk 0,Zk 0,Zk 0,Ze,Zn] 57 (0,0))::(g4,glO (Xc p.goal) (.slice A8 n8 b8))::Hs/\m<=6/\Grow Yz 57 fz' v m Hs ([Yg YB,YD [Yg Xk,Yg p.name],YD [Yg YH,Yg p.domain]]++grp XP (WD p.objects)++grp YcH (p.init.map Yaq++p.values.map valX)++YjZ p.goal)) ?_ ?_)
   ·refine wC (fun e1=>?_) (fun e1=>?_)
    ·have hgo:YjZ p.goal=[YD [Yg YbT,Xc p.goal]]:=if_neg (fun h0=>e1 h0.1);refine zW ?_;refine Wp.drawP [] (Hq:=[(g6,_),(g4,_)]) T.mixed Zj Zj Zb ?_;refine wc (Yah (s:=YbT)) ?_;refine zW ?_;unfold sxV;refine Ye ?_;refine Ye ?_;refine Ye ?_;refine Ye ?_;refine zW ?_;refine Ye ?_;refine PK.done ⟨by kernel_rfl,?_⟩;refine Yc Zz Zz ?_;refine Yd (Yb T (cs:=Yr YbT++ [Zk (Xc p.goal).kind,Zk (Xc p.goal).value,Zk (Xc p.goal).line,Zk (Xc p.goal).column,.string (Xc p.goal).text,.slice A8 n8 b8]) Zz Zz Zz Zz Zz Zz Zz Zz (fun gb=>⟨(⟨(Le.refl _),Zx⟩),?_⟩));refine Yc Zz Zz ?_;refine PoS.qk (⟨(Le.refl _),Zx⟩) (Yv Zz Zz X2 ?_);unfold sxV;refine Yc Zz Zz ?_;refine Yd (Yb T (cs:=[Zk 3,Zk 0,Zk 0,Zk 0,Ze,Zv gb 2 2]) Zz Zz Zz Zz Zz Zz Zz Zz (fun gc=>⟨(⟨(Le.refl _),Zx⟩),?_⟩));refine Yc Zz Zz ?_;refine Yd (Does.freezeAll (H1:=(gc,_)::(g6,_)::(g1,_)::(g2,_)::(g4,_)::Hs) (H2:=[(gb,_)]) (List.Perm.cons _ (List.perm_append_singleton _ _).symm) (fun fzb hlb hfb=>?_));have hrep:Yz.rep fzb (YD [Yg YbT,Xc p.goal]) [Zk 3,Zk 0,Zk 0,Zk 0,Ze,Zv gb 2 2]:=Yh (Ws (Xz (ys:=[(Yg YbT,Yr YbT),(Xc p.goal,[Zk (Xc p.goal).kind,Zk (Xc p.goal).value,Zk (Xc p.goal).line,Zk (Xc p.goal).column,.string (Xc p.goal).text,.slice A8 n8 b8])]) (hfb _ (.head _)) rfl rfl (by intro p hp;simp only [List.mem_cons,List.not_mem_nil,or_false] at hp;rcases hp with rfl | rfl;exact Yu (YO Zh);exact Yh (hX.mono (hleC.trans hlb))) rfl Zh));refine YP T (Hr:=(gc,_)::(g6,_)::(g1,_)::(g2,_):: [(g4,_)]) (d:=YD [Yg YbT,Xc p.goal]) Zz Zz Zz Zz Zz Zz Zz Zz (Zr _) (hG.mono hlb) Ys (.head _) hrep (by show _*72<=_;omega) Zi (fun v9 Hs9 hO9=>⟨(⟨hlb,Zx⟩),?_⟩);obtain ⟨A9,c9,rfl,_,_⟩:=hO9.form;refine Yc Zz Zz ?_;refine PoS.hard0 Zj (YU T Zz Zz Zz Zz Zz Zz ?_);refine Po.done ?_;exact wN (h:=by exact ⟨m2+1,_,Hs9,rfl,hlb,rfl,by omega,hO9.of (by rw [hgo]) rfl⟩)
    refine wC (fun e2=>?_) (fun e2=>?_)
    ·have hgo:YjZ p.goal=[YD [Yg YbT,Xc p.goal]]:=if_neg (fun h0=>by have:=i7.len;rw [h0.2] at this;simp at this;omega);refine zW ?_;refine Wp.drawP [] (Hq:=[(g6,_),(g4,_)]) T.mixed Zj Zj Zb ?_;refine wc (Yah (s:=YbT)) ?_;refine zW ?_;unfold sxV;refine Ye ?_;refine Ye ?_;refine Ye ?_;refine Ye ?_;refine zW ?_;refine Ye ?_;refine PK.done ⟨by kernel_rfl,?_⟩;refine Yc Zz Zz ?_;refine Yd (Yb T (cs:=Yr YbT++ [Zk (Xc p.goal).kind,Zk (Xc p.goal).value,Zk (Xc p.goal).line,Zk (Xc p.goal).column,.string (Xc p.goal).text,.slice A8 n8 b8]) Zz Zz Zz Zz Zz Zz Zz Zz (fun gb=>⟨(⟨(Le.refl _),Zx⟩),?_⟩));refine Yc Zz Zz ?_;refine PoS.qk (⟨(Le.refl _),Zx⟩) (Yv Zz Zz X2 ?_);unfold sxV;refine Yc Zz Zz ?_;refine Yd (Yb T (cs:=[Zk 3,Zk 0,Zk 0,Zk 0,Ze,Zv gb 2 2]) Zz Zz Zz Zz Zz Zz Zz Zz (fun gc=>⟨(⟨(Le.refl _),Zx⟩),?_⟩));refine Yc Zz Zz ?_;refine Yd (Does.freezeAll (H1:=(gc,_)::(g6,_)::(g1,_)::(g2,_)::(g4,_)::Hs) (H2:=[(gb,_)]) (List.Perm.cons _ (List.perm_append_singleton _ _).symm) (fun fzb hlb hfb=>?_));have hrep:Yz.rep fzb (YD [Yg YbT,Xc p.goal]) [Zk 3,Zk 0,Zk 0,Zk 0,Ze,Zv gb 2 2]:=Yh (Ws (Xz (ys:=[(Yg YbT,Yr YbT),(Xc p.goal,[Zk (Xc p.goal).kind,Zk (Xc p.goal).value,Zk (Xc p.goal).line,Zk (Xc p.goal).column,.string (Xc p.goal).text,.slice A8 n8 b8])]) (hfb _ (.head _)) rfl rfl (by intro p hp;simp only [List.mem_cons,List.not_mem_nil,or_false] at hp;rcases hp with rfl | rfl;exact Yu (YO Zh);exact Yh (hX.mono (hleC.trans hlb))) rfl Zh));refine YP T (Hr:=(gc,_)::(g6,_)::(g1,_)::(g2,_):: [(g4,_)]) (d:=YD [Yg YbT,Xc p.goal]) Zz Zz Zz Zz Zz Zz Zz Zz (Zr _) (hG.mono hlb) Ys (.head _) hrep (by show _*72<=_;omega) Zi (fun v9 Hs9 hO9=>⟨(⟨hlb,Zx⟩),?_⟩);obtain ⟨A9,c9,rfl,_,_⟩:=hO9.form;refine Yc Zz Zz ?_;refine PoS.hard0 Zj (YU T Zz Zz Zz Zz Zz Zz ?_);refine Po.done ?_;exact wN (h:=by exact ⟨m2+1,_,Hs9,rfl,hlb,rfl,by omega,hO9.of (by rw [hgo]) rfl⟩)
    have hgo:YjZ p.goal=[]:=if_pos ⟨e1,List.eq_nil_of_length_eq_zero (by have:=i7.len;omega)⟩;exact wN (h:=by exact ⟨m2,_,Hs,rfl,Le.refl _,rfl,by omega,hG.of (by rw [hgo];simp) rfl⟩)
   rintro σ fz12 H' ⟨m3,v,Hs,rfl,hle12,rfl,hm3,hG⟩;obtain ⟨Av,cv,rfl,_,_⟩:=hG.form;refine zW ?_;refine Seq.freezeAll (H1:=[(g6,_),(g1,_),(g2,_),(g4,_)]) (H2:=Hs) (Zr _) (fun fzr hlr hfr=>?_);obtain ⟨A2w,c2w,he5,hsl⟩:=hG.sl hlr hfr Zi;injection he5 with x1 x2 x3
   subst x1 x3;have hXX:=Ws hsl;refine zb (WZ (x:=prbX p) hXX) (fun f2=>?_) (fun f2=>?_)
   ·have hY:FVal p.goal/\Ybs p/\XVal (prbX p):=⟨hP,hE,Zt f2⟩;refine zW ?_;refine YN T (vs:=[.agg #[_,_,_,_,_,_],.nilIface]) Zz ⟨⟨_,_,2,_,_,_,rfl,rfl,rfl,rfl,rfl,rfl⟩,rfl,trivial⟩ (fun fz3 hle3 hf3=>?_);exact ⟨rfl,_,_,by rw [if_pos hY];rfl,SxIs.mono hle3 ⟨_,rfl,Yh hXX⟩,fun _=>rfl⟩
   have hN:¬(FVal p.goal/\Ybs p/\XVal (prbX p)):=fun h0=>Zf f2 h0.2.2
   refine zW ?_;refine YN T (vs:=[.agg #[_,_,_,_,_,_],_]) Zz ⟨⟨_,_,2,_,_,_,rfl,rfl,rfl,rfl,rfl,rfl⟩,rfl,trivial⟩ (fun fz3 hle3 hf3=>?_);exact ⟨rfl,_,_,by rw [if_neg hN,Yk Zh];rfl,YaX,fun h0=>absurd h0 hN⟩
  have hN:¬(FVal p.goal/\Ybs p/\XVal (prbX p)):=fun h0=>Zf f1 h0.2.1
  refine zW ?_;refine YN T (vs:=[.agg #[_,_,_,_,_,_],_]) Zz ⟨⟨_,_,1,_,_,_,rfl,rfl,rfl,rfl,rfl,rfl⟩,rfl,trivial⟩ (fun fz3 hle3 hf3=>?_);exact ⟨rfl,_,_,by rw [if_neg hN,Yk Zh];rfl,YaX,fun h0=>absurd h0 hN⟩
 rw [if_neg hP];have hN:¬(FVal p.goal/\Ybs p/\XVal (prbX p)):=fun h0=>hP h0.1
 refine zW ?_;intros;refine YN T (vs:=[.agg #[_,_,_,_,_,_],_]) Zz ⟨⟨_,_,1,_,_,_,rfl,rfl,rfl,rfl,rfl,rfl⟩,rfl,trivial⟩ (fun fz3 hle3 hf3=>?_);exact ⟨rfl,_,_,by rw [if_neg hN,Yk Zh];rfl,YaX,fun h0=>absurd h0 hN⟩
theorem YeY:∀ {l:List Param} {seen:List Bs},repM seen l=none->(∀ x∈l,x.name ∉ seen)/\Once (fun q:Param=>q.name) l
 | [],_,_=>⟨by simp,fun i j x y _ h=>by simp at h⟩
 | x::r,seen,h=>by
  rw [repM] at h;by_cases hx:x.name∈seen
  ·rw [if_pos hx] at h;cases h
  rw [if_neg hx] at h;obtain ⟨h1,h2⟩:=YeY h;refine ⟨fun y hy=>?_,fun i j a b hij ha hb=>?_⟩
  ·rcases List.mem_cons.1 hy with rfl | hy
   ·exact hx
   exact fun h0=>h1 y hy (by simp [h0])
  cases j with
  | zero=>omega
  | succ j=>
   have hb':r[j]?=some b:=by simpa using hb
   cases i with
   | zero=>
    simp at ha;subst ha;have:=h1 b (Zm hb');exact fun e=>this (by simp [e])
   | succ i=>exact h2 i j a b Zi (by simpa using ha) hb'
theorem Yfz {α:Type} {f:α->Param} {nm:α->Bs} (hf:∀ x,(f x).name=nm x) {l:List α} {r:List Param} (h:Once (fun q:Param=>q.name) (l.map f++r)):Once nm l:=fun i j x y hij hx hy=>by
 have h1:=(Zg hx).1;have h2:=(Zg hy).1;have:=h i j (f x) (f y) hij (by rw [List.getElem?_append_left (by simpa using h1),List.getElem?_map,hx];rfl) (by rw [List.getElem?_append_left (by simpa using h2),List.getElem?_map,hy];rfl);rw [<- hf x,<- hf y];exact this
theorem YgE {α:Type} {f:α->Param} {nm:α->Bs} (hf:∀ x,(f x).name=nm x) {l:List α} {r:List Param} (h:Once (fun q:Param=>q.name) (r++l.map f)):Once nm l:=fun i j x y hij hx hy=>by
 have:=h (r.length+i) (r.length+j) (f x) (f y) Zi (by rw [List.getElem?_append_right Zi,Nat.add_sub_cancel_left,List.getElem?_map,hx];rfl) (by rw [List.getElem?_append_right Zi,Nat.add_sub_cancel_left,List.getElem?_map,hy];rfl);rw [<- hf x,<- hf y];exact this
variable {all:List Param} {d:Domain}
theorem Ylx (h:Ybu d all=none):Once (·.name) d.predicates/\Once (·.name) d.functions/\Once (·.name) all/\Once (·.name) d.actions/\Once (·.name) d.duratives:=by
 unfold Ybu at h;cases h0:repM [] (YfB d) with
 | some s=>rw [h0] at h;cases h
 | none=>
  rw [h0] at h;cases h1:repM [] (YeH all) with
  | some s=>rw [h1] at h;cases h
  | none=>
   rw [h1] at h;have o0:=(YeY h0).2;have o1:=(YeY h1).2;have o2:=(YeY h).2;exact ⟨Yfz (f:=fun x:Predicate=>nmd X7 x.name) (fun _=>rfl) o0,YgE (f:=fun x:Function=>nmd XH x.name) (fun _=>rfl) o0,
    Yfz (r:=[]) (f:=fun x:Param=>nmd Yb3 x.name) (fun _=>rfl) (by simpa [YeH] using o1),Yfz (f:=fun x:Action=>nmd WN x.name) (fun _=>rfl) o2,YgE (f:=fun x:Durative=>nmd XI x.name) (fun _=>rfl) o2⟩
def YfP (f:Nat->Bs × Int):Nat->Nat->Bs × Int
 | 0,_=>(⟨#[]⟩,0)
 | n+1,k=>if (f k).2=0 then YfP f n (k+1) else f k
def Yaj (d:Domain) (p:Problem):Bs × Int:=
 if ¬(Ybt d/\XVal (domX d)) then (wDomainP,2)
 else if ¬(FVal p.goal/\Ybs p/\XVal (prbX p)) then (Yh7,2)
 else if Yd4 d p (Yar d p) then (wLimitsP,5)
 else if newM d.types≠0 then (wTypesP,newM d.types)
 else YfP (X1 d (Yar d p) p) 8 0
structure ChkS (d:Domain) (p:Problem):Prop where
 dsm:DomSm d
 psm:PrbSm p
 wa:∀ a∈d.actions,actW a<=1000000000
 wd:∀ a∈d.duratives,durW a<=1000000000
 wg:fW p.goal<=1000000000
theorem Ybv {s:Bs} (h:YX s):s.size<=1000:=Nat.le_trans h.2.2.1 Zh
theorem nms_of (h1:Ybt d) (h2:Ybs p):NmS d (Yar d p) where
 p:=fun x hx=>Ybv (h1.2.2.2.1 x hx).1
 f:=fun x hx=>Ybv (h1.2.2.2.2.1 x hx).1
 o:=fun x hx=>by
  rcases List.mem_append.1 hx with hx | hx
  ·have:=(h1.2.2.1 x hx).1;exact Ybv (by simpa using this)
  have:=(h2.2.2.1 x hx).1;exact Ybv (by simpa using this)
 a:=fun x hx=>Ybv (h1.2.2.2.2.2.1 x hx).1
 u:=fun x hx=>Ybv (h1.2.2.2.2.2.2 x hx).1
theorem nums_of (h:XVal (domX d)):∀ f∈d.functions,NumOk f.lo/\NumOk f.hi:=fun f hf=>by
 have h1:YD (Yg Xm::d.functions.map funX)∈(domX d).kids:=by
  have hne:d.functions.map funX≠ []:=by intro h0;rw [List.map_eq_nil_iff] at h0;rw [h0] at hf;cases hf
  show _∈([Yg YB,YD [Yg Y7,Yg d.name]]++grp W7 (WD d.types)++grp Xn (WD d.constants)++grp Xe (d.predicates.map YeO)++grp Xm (d.functions.map funX)++d.actions.map actX++d.duratives.map durX);simp only [List.mem_append];refine .inl (.inl (.inr ?_));unfold grp;rw [if_neg hne];simp
 have h2:=Wb h h1;have h3:=Yfe (k:=funX f) h2 (by simp;exact .inr ⟨f,hf,rfl⟩);exact ⟨num_ok (Yfe h3 (by simp)),num_ok (Yfe h3 (by simp))⟩
theorem lens_of (h:¬Yd4 d p (Yar d p)):LenS d (Yar d p)/\d.types.length<=64/\∀ f∈d.functions,f.params.length<=6:=by
 unfold Yd4 at h;refine ⟨⟨?_,?_,?_,?_,?_⟩,?_,fun f hf=>?_⟩
 ·exact Classical.byContradiction fun h0=>h (.inr (.inr (.inl Zi)))
 ·exact Classical.byContradiction fun h0=>h (.inr (.inr (.inr (.inl Zi))))
 ·exact Classical.byContradiction fun h0=>h (.inl Zi)
 ·exact Classical.byContradiction fun h0=>h (.inr (.inr (.inr (.inr (.inl Zi)))))
 ·exact Classical.byContradiction fun h0=>h (.inr (.inr (.inr (.inr (.inr (.inl Zi))))))
 ·exact Classical.byContradiction fun h0=>h (.inr (.inl Zi))
 exact Classical.byContradiction fun h0=>h (.inr (.inr (.inr (.inr (.inr (.inr (.inr (.inr (.inl ⟨f,hf,by omega⟩)))))))))
theorem forest_f (hM:MaxF fz) (hD:DomainR fz d v1 v2 v3 v4 v5 v6) (hl:d.types.length<=64) (hok:∀ p∈d.types,YX p.name/\YcT p.typ):
 GFn prog 30 [.agg #[.string d.name,v1,v2,v3,v4,v5,v6]] fz [] (fun v fz' H'=>H'=[]/\∃ vf,v=.tuple #[vf,errV (newM d.types)]/\(newM d.types=0->ForR fz' vf d.types)):=by
 obtain ⟨A1,n1,b1,rfl,i1⟩:=hD.types;obtain ⟨A2,n2,b2,rfl,i2⟩:=hD.constants;obtain ⟨A3,n3,b3,rfl,i3⟩:=hD.predicates;obtain ⟨A4,n4,b4,rfl,i4⟩:=hD.functions;obtain ⟨A5,n5,b5,rfl,i5⟩:=hD.actions;obtain ⟨A6,n6,b6,rfl,i6⟩:=hD.duratives;refine zF Tryz.func30 Tryz.ntmps30 (fun w0=>?_);refine Yj (Yq (Ya Zz (Xb _ Zz Zz (fun g2=>?_))));refine vK (q:=tnew_q hM i1 hl hok) (h:=fun v6 fz6 H6 hle6 hR6=>?_);obtain ⟨rfl,vf,z,rfl,hv⟩:=hR6;exact vS (h:=by exact ⟨rfl,vf,rfl,hv⟩)
variable {u1 u2 u3 u4 u5 u6 u7 vp:Value}
theorem ckR_mk {gc:Nat} {vf vg vo:Value} {Aa:Option Addr} {na ca:Nat} (hc:fz gc=some (ckO d p v1 v2 v3 v4 v5 v6 u1 u2 u3 u4 u5 u6 u7 vf vp vg vo (.slice Aa na ca))) (hD:DomainR fz d v1 v2 v3 v4 v5 v6) (hP:ProblemR fz p u1 u2 u3 u4 u5 u6 u7) (hall:Sl paramL fz Aa na ca all):
 CkR fz (Zp gc) d p all vf vp vg vo:=⟨gc,v1,v2,v3,v4,v5,v6,u1,u2,u3,u4,u5,u6,u7,Aa,na,ca,rfl,hc,hD,hP,hall⟩
set_option maxHeartbeats 16000000 in
theorem Yn4 (hM:MaxF fz) (hD:DomainR fz d v1 v2 v3 v4 v5 v6) (hP:ProblemR fz p u1 u2 u3 u4 u5 u6 u7) (hS:ChkS d p):
 QFn prog 12 [.agg #[.string d.name,v1,v2,v3,v4,v5,v6],.agg #[.string p.name,.string p.domain,u1,u2,u3,.string p.goal.op,.string p.goal.name,u4,u5,u6,u7]] fz (resV (Yaj d p)):=by
 obtain ⟨A1,n1,b1,rfl,i1⟩:=hD.types;obtain ⟨A2,n2,b2,rfl,i2⟩:=hD.constants;obtain ⟨A3,n3,b3,rfl,i3⟩:=hD.predicates;obtain ⟨A4,n4,b4,rfl,i4⟩:=hD.functions;obtain ⟨A5,n5,b5,rfl,i5⟩:=hD.actions;obtain ⟨A6,n6,b6,rfl,i6⟩:=hD.duratives;obtain ⟨B1,m1,d1,rfl,j1⟩:=hP.objects;obtain ⟨B2,m2,d2,rfl,j2⟩:=hP.init;obtain ⟨B3,m3,d3,rfl,j3⟩:=hP.values;obtain ⟨B4,m4,d4,rfl,_⟩:=hP.goal.args;obtain ⟨B5,m5,d5,rfl,_⟩:=hP.goal.params;obtain ⟨B6,m6,d6,rfl,_⟩:=hP.goal.exprs;obtain ⟨B7,m7,d7,rfl,_⟩:=hP.goal.kids;refine GFn.quiet ?_;refine zF Tryz.func12 Tryz.ntmps12 (fun w0=>?_);refine Yj (Yq (Ya Zz (Xb _ Zz Zz (fun g2=>?_))));refine Ya Zz (Xb _ Zz Zz (fun g3=>?_));refine zWO ?_;refine vK (q:=YhQ hD hS.dsm) (h:=fun v6' fz6 H6 hle6 hR6=>?_);obtain ⟨rfl,u,y,rfl,⟨cs6,rfl,hr6⟩,_⟩:=hR6;obtain ⟨vk6,rfl,hx6⟩:=Yi hr6;obtain ⟨Ak6,nk6,ck6,rfl,_⟩:=hx6.kids;by_cases hdo:Ybt d/\XVal (domX d)
 ·rw [if_pos hdo,show errV 0=.nilIface from rfl];refine zV ?_;intros;refine wK (q:=Yhp (hP.mono hle6) hS.psm) (h:=fun v7' fz7 H7 hle7 hR7=>?_);obtain ⟨rfl,u',y',rfl,⟨cs7,rfl,hr7⟩,_⟩:=hR7;obtain ⟨vk7,rfl,hx7⟩:=Yi hr7;obtain ⟨Ak7,nk7,ck7,rfl,_⟩:=hx7.kids;by_cases hpo:FVal p.goal/\Ybs p/\XVal (prbX p)
  ·rw [if_pos hpo,show errV 0=.nilIface from rfl];have hle67:=hle6.trans hle7;have hD7:=hD.mono hle67;have hP7:=hP.mono hle67;refine zWN ?_;intros;refine Wp.drawK (Hq:=[_,_,_,_]) T.mixed Zj Zj Zb ?_;refine zW ?_;refine Yf ?_;refine Yf ?_;refine Yf ?_;refine Yf ?_;refine YM ⟨by kernel_rfl,?_⟩;refine Yt (Yx [] [_,_,_,_] Zz Zz Zz (Ym0 hD7 hP7 hS.dsm.constants hS.psm.objects) (fun v8' fz8 H8 hle8 hR8=>⟨(⟨hle8,Zx⟩),?_⟩));obtain ⟨Aa,ca,rfl,_,_⟩:=hR8.form;refine Ch.qk (⟨hle8,Zx⟩) (Yee T Zz Zz Zz Zz Zz ?_);refine Yt (Xb _ Zz Zz (fun gc=>⟨(⟨hle8,Zx⟩),?_⟩));refine Ch.qk (⟨hle8,Zx⟩) (YY Zz ?_);refine Ch.done ?_;refine YdD ?_;refine Wp.freezeAll (H1:=(gc,_):: [_,_,_,_]) (H2:=H8) (List.Perm.cons _ Zq) (fun fz9 hle9 hf9=>?_);obtain ⟨Aa',ca',ea,hall⟩:=hR8.sl hle9 hf9 (by have:=hS.dsm.constants;have:=hS.psm.objects;omega);injection ea with ea1 ea2 ea3
   subst ea1;subst ea3;have hle89:=hle8.trans hle9;have hD9:=hD7.mono hle89;have hP9:=hP7.mono hle89;have hS9:∀ {vf:Value} {fz':FZ},Le fz9 fz'->fz' gc=some (ckO d p (.slice A1 n1 b1) (.slice A2 n2 b2) (.slice A3 n3 b3) (.slice A4 n4 b4) (.slice A5 n5 b5) (.slice A6 n6 b6) (.slice B1 m1 d1) (.slice B2 m2 d2) (.slice B3 m3 d3) (.slice B4 m4 d4) (.slice B5 m5 d5) (.slice B6 m6 d6) (.slice B7 m7 d7) vf (.map none) (.map none) (.map none) (.slice Aa (d.constants.length+p.objects.length) ca))->CkR fz' (Zp gc) d p (Yar d p) vf (.map none) (.map none) (.map none):=fun hl hg=>ckR_mk hg (hD9.mono hl) (hP9.mono hl) (hall.mono hl)
   refine vG ?_;refine q_callBU (b:=decide (Yd4 d p (Yar d p))) Zz Zz (fun fz' hl hf=>large_q (hS9 (vf:=.pointer none) hl (hf (gc,_) (by simp)))) (fun f1=>?_) (fun f1=>?_)
   ·have hlg:=Zt f1;exact vS (h:=by exact (by rw [Yaj,if_neg (by simpa using hdo),if_neg (by simpa using hpo),if_pos hlg];rfl))
   have hlg:=Zf f1;obtain ⟨hL,hT64,hp6⟩:=lens_of hlg;have hns:=nms_of hdo.1 hpo.2.1;have hM9:=hM.mono (hle67.trans hle89);have htok:∀ q∈d.types,YX q.name/\YcT q.typ:=fun q hq=>by have:=hdo.1.2.1 q hq;exact ⟨by simpa using this.1,this.2⟩
   refine vK (q:=forest_f hM9 hD9 hT64 htok) (h:=fun v10' fz10 H10 hle10 hR10=>?_);obtain ⟨rfl,vf,rfl,hvf⟩:=hR10;by_cases hn0:newM d.types=0
   ·obtain ⟨gf,gm,evf,hf1,hf2⟩:=hvf hn0;subst evf;have hF:ForR fz10 (Zp gf) d.types:=⟨gf,gm,rfl,hf1,hf2⟩;have hle910:=hle10;rw [hn0,show errV 0=.nilIface from rfl];have hW:WFT d.types:=newM_wft hn0 (fun q hq=>(YcB i1 q hq).2) hT64;have hck:Yaj d p=YfP (X1 d (Yar d p) p) 8 0:=by rw [Yaj,if_neg (by simpa using hdo),if_neg (by simpa using hpo),if_neg hlg,if_neg (by simpa using hn0)]
    refine zV ?_;refine Ya Zz (Yb T (cs:=[Zk 0,Zk 1,Zk 2,Zk 3,Zk 4,Zk 5,Zk 6,Zk 7]) Zz Zz Zz Zz Zz Zz Zz Zz (fun gs=>?_));refine zV ?_;refine Ym (fun q σ fz' H'=>∃ k:Nat,k<=8/\q=8 - k/\σ=[(57,Zk k),(56,Zk 8),(55,Zv gs 8 8),(10,Zp gc)]/\((k<=5/\fz10=fz'/\H'=[(gs,.cells #[Zk 0,Zk 1,Zk 2,Zk 3,Zk 4,Zk 5,Zk 6,Zk 7] 3 (0,0)),(gc,ckO d p (.slice A1 n1 b1) (.slice A2 n2 b2) (.slice A3 n3 b3) (.slice A4 n4 b4) (.slice A5 n5 b5) (.slice A6 n6 b6) (.slice B1 m1 d1) (.slice B2 m2 d2) (.slice B3 m3 d3) (.slice B4 m4 d4) (.slice B5 m5 d5) (.slice B6 m6 d6) (.slice B7 m7 d7) (Zp gf) (.map none) (.map none) (.map none) (.slice Aa (d.constants.length+p.objects.length) ca))])\/(6<=k/\Le fz10 fz'/\H'=[(gs,.cells #[Zk 0,Zk 1,Zk 2,Zk 3,Zk 4,Zk 5,Zk 6,Zk 7] 3 (0,0))]/\CkG fz' (Zp gc) d p (Yar d p)))/\(∀ i,i<k->(X1 d (Yar d p) p i).2=0)/\Yaj d p=YfP (X1 d (Yar d p) p) (8 - k) k) ⟨0,by omega,rfl,rfl,.inl ⟨by omega,rfl,rfl⟩,fun i hi=>absurd hi Zi,hck⟩ Zw Zb ?_;rintro q σ fz1 H' ⟨k,hk,rfl,rfl,hph,hst,hcm⟩;rcases hph with ⟨hk5,rfl,rfl⟩ | ⟨hk6,hl1,rfl,hG⟩
    ·refine vC (fun c1=>?_) (fun c1=>?_)
     ·rw [show 8 - k=(8 - (k+1))+1 from by omega,YfP] at hcm;refine zV ?_;obtain rfl | rfl | rfl | rfl | rfl | rfl:k=0\/k=1\/k=2\/k=3\/k=4\/k=5:=by omega
      ·refine zG ?_;refine XJ T Zz Zz Zz Zz Zz Zz Zi Zi ?_;refine zG ?_;refine Y0 T 0 Zz Zz Zz Zz Zz ?_;refine vG ?_;refine Yb9 (v:=resV (X1 d (Yar d p) p 0)) Zz Zz (fun fz' hl hf=>stepA0_q (hS9 (vf:=Zp gf) (hle10.trans hl) (hf (gc,_) (by simp [ckO]))) hns hL) ?_;generalize hgs:X1 d (Yar d p) p 0=st at hcm;obtain ⟨pl,ec⟩:=st;rw [show resV (pl,ec)=.tuple #[.string pl,errV ec] from rfl];by_cases hz:ec=0
       ·subst hz;rw [show errV 0=.nilIface from rfl];refine zV ?_;exact WO ⟨0+1,by omega,rfl,rfl,.inl ⟨by omega,rfl,rfl⟩,fun i hi=>by
         by_cases hi2:i=0
         ·subst hi2;rw [hgs]
         exact hst i Zi,by rw [hcm,if_pos rfl]⟩ Zi Zw Zb
       rw [Yk hz];exact vS (h:=by exact (by rw [hcm,if_neg hz,resV,Yk hz];rfl))
      ·refine zG ?_;refine XJ T Zz Zz Zz Zz Zz Zz Zi Zi ?_;refine zG ?_;refine Y0 T 0 Zz Zz Zz Zz Zz ?_;refine vG ?_;refine Yb9 (v:=resV (X1 d (Yar d p) p 1)) Zz Zz (fun fz' hl hf=>stepA1_q (hS9 (vf:=Zp gf) (hle10.trans hl) (hf (gc,_) (by simp [ckO]))) hns) ?_;generalize hgs:X1 d (Yar d p) p 1=st at hcm;obtain ⟨pl,ec⟩:=st;rw [show resV (pl,ec)=.tuple #[.string pl,errV ec] from rfl];by_cases hz:ec=0
       ·subst hz;rw [show errV 0=.nilIface from rfl];refine zV ?_;exact WO ⟨1+1,by omega,rfl,rfl,.inl ⟨by omega,rfl,rfl⟩,fun i hi=>by
         by_cases hi2:i=1
         ·subst hi2;rw [hgs]
         exact hst i Zi,by rw [hcm,if_pos rfl]⟩ Zi Zw Zb
       rw [Yk hz];exact vS (h:=by exact (by rw [hcm,if_neg hz,resV,Yk hz];rfl))
      ·refine zG ?_;refine XJ T Zz Zz Zz Zz Zz Zz Zi Zi ?_;refine zG ?_;refine Y0 T 0 Zz Zz Zz Zz Zz ?_;refine vG ?_;refine Yb9 (v:=resV (X1 d (Yar d p) p 2)) Zz Zz (fun fz' hl hf=>stepA2_q (hS9 (vf:=Zp gf) (hle10.trans hl) (hf (gc,_) (by simp [ckO]))) (hF.mono hl) hns) ?_;generalize hgs:X1 d (Yar d p) p 2=st at hcm;obtain ⟨pl,ec⟩:=st;rw [show resV (pl,ec)=.tuple #[.string pl,errV ec] from rfl];by_cases hz:ec=0
       ·subst hz;rw [show errV 0=.nilIface from rfl];refine zV ?_;exact WO ⟨2+1,by omega,rfl,rfl,.inl ⟨by omega,rfl,rfl⟩,fun i hi=>by
         by_cases hi2:i=2
         ·subst hi2;rw [hgs]
         exact hst i Zi,by rw [hcm,if_pos rfl]⟩ Zi Zw Zb
       rw [Yk hz];exact vS (h:=by exact (by rw [hcm,if_neg hz,resV,Yk hz];rfl))
      ·refine zG ?_;refine XJ T Zz Zz Zz Zz Zz Zz Zi Zi ?_;refine zG ?_;refine Y0 T 0 Zz Zz Zz Zz Zz ?_;refine vG ?_;refine Yb9 (v:=resV (X1 d (Yar d p) p 3)) Zz Zz (fun fz' hl hf=>stepA3_q (hS9 (vf:=Zp gf) (hle10.trans hl) (hf (gc,_) (by simp [ckO]))) hns) ?_;generalize hgs:X1 d (Yar d p) p 3=st at hcm;obtain ⟨pl,ec⟩:=st;rw [show resV (pl,ec)=.tuple #[.string pl,errV ec] from rfl];by_cases hz:ec=0
       ·subst hz;rw [show errV 0=.nilIface from rfl];refine zV ?_;exact WO ⟨3+1,by omega,rfl,rfl,.inl ⟨by omega,rfl,rfl⟩,fun i hi=>by
         by_cases hi2:i=3
         ·subst hi2;rw [hgs]
         exact hst i Zi,by rw [hcm,if_pos rfl]⟩ Zi Zw Zb
       rw [Yk hz];exact vS (h:=by exact (by rw [hcm,if_neg hz,resV,Yk hz];rfl))
      ·refine zG ?_;refine XJ T Zz Zz Zz Zz Zz Zz Zi Zi ?_;refine zG ?_;refine Y0 T 0 Zz Zz Zz Zz Zz ?_;refine vG ?_;refine Yb9 (v:=resV (X1 d (Yar d p) p 4)) Zz Zz (fun fz' hl hf=>stepA4_q (hS9 (vf:=Zp gf) (hle10.trans hl) (hf (gc,_) (by simp [ckO]))) hns (nums_of hdo.2)) ?_;generalize hgs:X1 d (Yar d p) p 4=st at hcm;obtain ⟨pl,ec⟩:=st;rw [show resV (pl,ec)=.tuple #[.string pl,errV ec] from rfl];by_cases hz:ec=0
       ·subst hz;rw [show errV 0=.nilIface from rfl];refine zV ?_;exact WO ⟨4+1,by omega,rfl,rfl,.inl ⟨by omega,rfl,rfl⟩,fun i hi=>by
         by_cases hi2:i=4
         ·subst hi2;rw [hgs]
         exact hst i Zi,by rw [hcm,if_pos rfl]⟩ Zi Zw Zb
       rw [Yk hz];exact vS (h:=by exact (by rw [hcm,if_neg hz,resV,Yk hz];rfl))
      have hno:Ybu d (Yar d p)=none:=by
       have:=hst 0 Zi;unfold X1 at this;cases hn9:Ybu d (Yar d p) with
       | none=>rfl
       | some s=>rw [hn9] at this;cases this
      obtain ⟨o1,o2,o3,_,_⟩:=Ylx hno;refine zG ?_;refine XJ T Zz Zz Zz Zz Zz Zz Zi Zi ?_;refine zG ?_;refine Y0 T 0 Zz Zz Zz Zz Zz ?_;refine zV ?_
      first | refine Wp.perm (List.Perm.swap _ _ _) ?_ | refine Seq.perm (List.Perm.swap _ _ _) ?_
      refine Ya Zz (Yx [_] [_] Zz Zz Zz (stepA5_f (hD9.mono hle10) (hP9.mono hle10) (hall.mono hle10) hF hW o1 o2 o3 hns hS.wa hS.wd) (fun v11' fz11 H11 hle11 hR11=>?_));obtain ⟨rfl,rfl,hG⟩:=hR11;generalize hgs:X1 d (Yar d p) p 5=st at hcm;obtain ⟨pl,ec⟩:=st;rw [show resV (pl,ec)=.tuple #[.string pl,errV ec] from rfl];by_cases hz:ec=0
      ·subst hz;rw [show errV 0=.nilIface from rfl];refine zV ?_;exact WO ⟨5+1,by omega,rfl,rfl,.inr ⟨by omega,hle11,rfl,hG⟩,fun i hi=>by
        by_cases hi2:i=5
        ·subst hi2;rw [hgs]
        exact hst i Zi,by rw [hcm,if_pos rfl]⟩ Zi Zw Zb
      rw [Yk hz];exact vS (h:=by exact (by rw [hcm,if_neg hz,resV,Yk hz];rfl))
     omega
    refine vC (fun c1=>?_) (fun c1=>?_)
    ·rw [show 8 - k=(8 - (k+1))+1 from by omega,YfP] at hcm;refine zV ?_;obtain rfl | rfl:k=6\/k=7:=by omega
     ·refine zG ?_;refine XJ T Zz Zz Zz Zz Zz Zz Zi Zi ?_;refine zG ?_;refine Y0 T 0 Zz Zz Zz Zz Zz ?_;refine vG ?_;refine Yv Zz Zz (stepA6_q hG hns (fun f hf=>by have:=hp6 f hf;omega) (fun x hx=>by have:=(hpo.2.1.2.2.2.1 x hx).1;exact ⟨Ybv this.1,fun a ha=>Ybv (this.2 a ha)⟩) (by have:=hL.o;omega)) ?_;generalize hgs:X1 d (Yar d p) p 6=st at hcm;obtain ⟨pl,ec⟩:=st;rw [show resV (pl,ec)=.tuple #[.string pl,errV ec] from rfl];by_cases hz:ec=0
      ·subst hz;rw [show errV 0=.nilIface from rfl];refine zV ?_;exact WO ⟨6+1,by omega,rfl,rfl,.inr ⟨by omega,hl1,rfl,hG⟩,fun i hi=>by
        by_cases hi2:i=6
        ·subst hi2;rw [hgs]
        exact hst i Zi,by rw [hcm,if_pos rfl]⟩ Zi Zw Zb
      rw [Yk hz];exact vS (h:=by exact (by rw [hcm,if_neg hz,resV,Yk hz];rfl))
     refine zG ?_;refine XJ T Zz Zz Zz Zz Zz Zz Zi Zi ?_;refine zG ?_;refine Y0 T 0 Zz Zz Zz Zz Zz ?_;refine vc (stepA7_q hG hS.wg) ?_;generalize hgs:X1 d (Yar d p) p 7=st at hcm;obtain ⟨pl,ec⟩:=st;rw [show resV (pl,ec)=.tuple #[.string pl,errV ec] from rfl];by_cases hz:ec=0
     ·subst hz;rw [show errV 0=.nilIface from rfl];refine zV ?_;exact WO ⟨7+1,by omega,rfl,rfl,.inr ⟨by omega,hl1,rfl,hG⟩,fun i hi=>by
       by_cases hi2:i=7
       ·subst hi2;rw [hgs]
       exact hst i Zi,by rw [hcm,if_pos rfl]⟩ Zi Zw Zb
     rw [Yk hz];exact vS (h:=by exact (by rw [hcm,if_neg hz,resV,Yk hz];rfl))
    have hk8:k=8:=by omega
    subst hk8;exact vS (h:=by rw [hcm];rfl)
   rw [Yk hn0];exact vS (h:=by exact (by rw [Yaj,if_neg (by simpa using hdo),if_neg (by simpa using hpo),if_neg hlg,if_pos hn0,resV,Yk hn0];rfl))
  rw [if_neg hpo,show errV 2=.iface 65 (Zk 2) from rfl];refine zV ?_;intros;exact wS (h:=by exact (by rw [Yaj,if_neg (by simpa using hdo),if_pos hpo];rfl))
 rw [if_neg hdo,show errV 2=.iface 65 (Zk 2) from rfl];refine zV ?_;intros;exact wS (h:=by exact (by rw [Yaj,if_pos hdo];rfl))
end Go.Proofs.YtfjopfinkdhmaaaGreatDoor
namespace Go.Proofs.YtfjopfinkdhmaaaGreatDoor
open Go.Lx Go.RowKit
attribute [local instance 10] Classical.propDecidable
theorem YnI:∀ (s:Nat) {e:Lx.Expr},SizeOf.sizeOf e<=s->eW e<=1000000000->ESm e
 | 0,e,h,_=>by cases e;simp at h
 | s+1,e,h,hw=>by
  rw [eW_eq] at hw;refine W0.2 ⟨by unfold ESmN;omega,fun k hk=>YnI s (by have:=Lx.Expr.kids_lt hk;omega) (by have:=Yaw (w:=eW) hk;omega)⟩
theorem YfJ:∀ (s:Nat) {f:Formula},SizeOf.sizeOf f<=s->fW f<=1000000000->FSm f
 | 0,e,h,_=>by cases e;simp at h
 | s+1,f,h,hw=>by
  rw [YlG] at hw;have hl:=Yax fW_pos f.kids;refine Wc.2 ⟨by unfold FSmN;omega,fun e he=>YnI _ (Zs _) (by have:=Yaw (w:=eW) he;omega),fun k hk=>YfJ s (by have:=Formula.kids_lt hk;omega) (by have:=Yaw (w:=fW) hk;omega)⟩
theorem chsq_w {c:Change} (h:XS c<=100000000):ChSm c:=by
 unfold XS at h;exact ⟨by omega,by omega,YfJ _ (Zs _) Zi,YnI _ (Zs _) Zi⟩
theorem Yj5 {l:List Change} (h:(l.map XS).sum<=100000000):Yjo l:=by
 have:=Yax Ykc l;exact ⟨by omega,fun c hc=>chsq_w (by have:=Yaw (w:=XS) hc;omega)⟩
variable {d:Domain} {p:Problem}
theorem chkq_of (hd:domW d<=1300000) (hp:prbW p<=1300000):ChkS d p:=by
 unfold domW at hd;unfold prbW at hp;have l3:=Yax YiA d.predicates;have l4:=Yax Yk1 d.functions;have l5:=Yax actW_pos d.actions;have l6:=Yax durW_pos d.duratives;have l7:=Yax Yji p.init;have l8:=Yax Ygr p.values;have p3:∀ p∈d.predicates,p.params.length<=100000000:=fun p hp=>by have:=Yaw (w:=YiB) hp;have e:YiB p=1+p.params.length:=rfl;omega
 have p4:∀ p∈d.functions,p.params.length<=100000000:=fun p hp=>by have:=Yaw (w:=funW) hp;have e:funW p=1+p.params.length:=rfl;omega
 have p5:∀ x∈d.actions,actW x<=100000000:=fun p hp=>by have:=Yaw (w:=actW) hp;omega
 have p6:∀ x∈d.duratives,durW x<=100000000:=fun p hp=>by have:=Yaw (w:=durW) hp;omega
 refine ⟨⟨by omega,by omega,by omega,fun p hp=>Nat.le_trans (p3 p hp) Zh,by omega,fun p hp=>Nat.le_trans (p4 p hp) Zh,by omega,fun x hx=>?_,by omega,fun x hx=>?_⟩,⟨by omega,by omega,fun a ha=>?_,by omega,fun v hv=>?_,YfJ _ (Zs _) Zi⟩,fun a ha=>Nat.le_trans (p5 a ha) Zh,fun a ha=>Nat.le_trans (p6 a ha) Zh,by omega⟩
 ·have:=p5 x hx;unfold actW at this;exact ⟨by omega,YfJ _ (Zs _) Zi,Yj5 Zi⟩
 ·have:=p6 x hx;unfold durW at this;exact ⟨by omega,YfJ _ (Zs _) Zi,YfJ _ (Zs _) Zi,YfJ _ (Zs _) Zi,Yj5 Zi,Yj5 Zi⟩
 ·have:=Yaw (w:=Yf5) ha;have e:Yf5 a=1+a.args.length:=rfl;omega
 have:=Yaw (w:=YeD) hv;have e:YeD v=1+Yf5 v.fluent:=rfl;have e2:Yf5 v.fluent=1+v.fluent.args.length:=rfl;omega
end Go.Proofs.YtfjopfinkdhmaaaGreatDoor
namespace Go.Proofs.YtfjopfinkdhmaaaGreatDoor
open Go.Lx Go.RowKit
attribute [local instance 10] Classical.propDecidable
open Go.Proofs.Tryz (prog)
def TabF (fz:FZ):Prop:=∀ w,Hp fz [] w→Lib.TabIs prog w "internal/strconv.uint64pow10" .u64 Lib.pow10Tab
variable {fz fz':FZ}
theorem TabF.mono (hle:Le fz fz') (h:TabF fz):TabF fz':=fun w hw=>h w ⟨fun b o hb=>hw.keep b o (hle b o hb),by simp,by simp⟩
theorem Ynk {n:Int} (hT:TabF fz) (h:NumOk n):QFn prog 34 [Zk n] fz (.string (strOf (Lib.itoa n))):=by
 unfold QFn;refine ⟨⟨_,Tryz.func34,by decide,by decide⟩,fun w hw=>?_⟩;unfold NumOk at h;refine (Tryz.strconv_Itoa n Zi Zi w (hT w hw)).mono fun e w' ⟨he,k,os,hw'⟩=>⟨he,?_⟩
 subst hw';exact ⟨rfl,rfl,rfl,by show w.heap.size<=(w.heap++os).size;rw [Array.size_append];omega,fun b hb _=>Sort.heap_grow_old (w.drewN k) os hb,fun h=>h.elim⟩
variable {n:Nat}
theorem repeat_q (h:n<=1000000000):QFn prog 175 [.string ⟨#[32]⟩,Zk n] fz (.string (strOf (List.replicate n 32))):=by
 unfold QFn;refine ⟨⟨_,Tryz.func175,by decide,by decide⟩,fun w hw=>?_⟩;refine (Tryz.strings_Repeat ⟨#[32]⟩ n w Zi (by show 1*n<=_;omega)).mono fun e w' ⟨he,hb⟩=>⟨?_,YhB hb⟩
 rw [he,<- Yin];rfl
variable {Hs:HP} {v:Value}
theorem join_q {l:List (List UInt8)} (hg:Grow strL 9 fz v n Hs (l.map strOf)) (hf:∀ p∈Hs,fz' p.1=some p.2) (hn:n<=1000000000) (hlen:(Lib.join l [32]).length<=1000000000):
 QFn prog 170 [v,.string ⟨#[32]⟩] fz' (.string (strOf (Lib.join l [32]))):=by
 unfold QFn;refine ⟨⟨_,Tryz.func170,by decide,by decide⟩,fun w hw=>?_⟩;have hd:(l.map strOf).map (fun x=>x.data.toList)=l:=by
  rw [List.map_map]
  calc l.map _=l.map id:=List.map_congr_left fun t _=>X8 t
   _=l:=List.map_id l
 obtain ⟨xs,h1,h2,h3,h4⟩:=hg;rcases h4.2 with ⟨rfl,h0,_⟩ | ⟨g,cap,cur,rfl,hH,h6,h7,h8,h9⟩
 ·have hl:l=[]:=List.eq_nil_of_length_eq_zero (by have:=h3;rw [List.length_map] at this;omega);subst hl;refine (Tryz.strings_Join_none none 0 ⟨#[32]⟩ w).mono fun e w' ⟨he,hb⟩=>⟨?_,by subst hb;exact Fr.refl _ _⟩
  rw [he];rfl
 have hb:=hw.keep _ _ (hf (g,.cells cur 9 (0,0)) (by rw [hH];simp));have hsh:∀ p∈xs,p.2=[Value.string p.1]:=fun p hp=>(h2 p hp).1
 have hfl:xs.flatMap Prod.snd=(l.map strOf).map Value.string:=by
  rw [<- h1,List.map_map];clear h1 h3 h4 h9 h2
  induction xs with
  | nil=>rfl
  | cons a r ih=>rw [List.flatMap_cons,hsh a (by simp),ih (fun p hp=>hsh p (by simp [hp]))];rfl
 have hcells:∀ (j:Nat) x,(l.map strOf)[j]?=some x->w.cell? ⟨g,0+j,none⟩=some (.string x):=by
  intro j x hx;have hj:j<n:=by have:=(Zg hx).1;omega
  have h10:(cur.toList.take (n*1))[j]?=some (.string x):=by
   have h9':cur.toList.take (n*1)=xs.flatMap Prod.snd:=h9;rw [h9',hfl,List.getElem?_map,hx];rfl
  rw [List.getElem?_take,if_pos Zi] at h10;rw [Nat.zero_add];simp only [World.cell?,hb];simpa using h10
 have hll:(l.map strOf).length=n:=h3;have:=Tryz.strings_Join g 0 cap (l.map strOf) ⟨#[32]⟩ w hcells (lt_of_heap hb) Zi Zi (by rw [hd];exact Nat.le_trans hlen Zh);rw [hd,hll] at this;exact this.mono fun e w' ⟨he,hb⟩=>⟨he,YhB hb⟩
def bldO (p v:Value):Obj:=.cells #[p,v] 249 (0,0)
def Bld (b:Nat) (l:List UInt8) (H:HP):Prop:=∃ (p v:Value) (Hs:HP),H=(b,bldO p v)::Hs/\(p=.pointer none\/p=Zp b)/\OwnS 5 1 v l.length (l.map Ycn) Hs
theorem Bld.new (b:Nat):Bld b [] [(b,bldO (.pointer none) Zn)]:=⟨_,_,_,rfl,.inl rfl,OwnS.nil _ _⟩
theorem Yj8 {b:Nat} {p:Value} (hp:p=.pointer none\/p=Zp b):
 GFn prog 203 [Zp b] fz [(b,bldO p v)] (fun r fz' H'=>r=.tuple #[]/\fz=fz'/\H'=[(b,bldO (Zp b) v)]):=by
 refine GFn.of ⟨_,Tryz.func203,by decide,by decide⟩ fun w hw=>?_
 obtain ⟨hb,hz⟩:=hw.own (b,bldO p v) (by simp);simp only at hb hz;have c0:w.cell? ⟨b,0,none⟩=some p:=by simp [World.cell?,hb,bldO]
 rcases hp with rfl | rfl
 ·refine (Any.Builder_copyCheck_fresh (ρ:=Tryz.lays156_ren) {Tryz.lays156 with} Tryz.Builder_Extra_156.toX72 b w c0 (by simp [World.shape?,hb,bldO];rfl) (by simp [World.frozen?,hb,bldO])).mono fun e w' ⟨he,hw'⟩=>?_
  subst hw';refine ⟨_,fz,_,he,⟨rfl,rfl,rfl⟩,⟨fun k o hk=>?_,fun q hq=>?_,by simp⟩,⟨rfl,rfl,rfl,by simp [World.setCell],fun k _ hn=>?_,fun h=>h.elim⟩,⟨fun _ _ h=>h,fun _ _ _=>rfl,fun q hq=>.inl (by simp at hq;subst hq;simp)⟩⟩
  ·rw [Below.heap_setCell _ _ _ _ (fun h=>by subst h;rw [hz] at hk;cases hk)];exact hw.keep k o hk
  ·simp only [List.mem_singleton] at hq;subst hq;refine ⟨?_,hz⟩;simp [World.setCell,Array.getElem?_modify,hb,bldO]
  exact Below.heap_setCell _ _ _ _ (fun h=>hn (by simp [h]))
 refine (Any.Builder_copyCheck_used (ρ:=Tryz.lays156_ren) {Tryz.lays156 with} Tryz.Builder_Extra_156.toX72 b w c0).mono fun e w' ⟨he,hw'⟩=>?_
 subst hw';exact ⟨_,fz,_,he,⟨rfl,rfl,rfl⟩,hw,Fr.refl _ _,⟨fun _ _ h=>h,fun _ _ _=>rfl,fun q hq=>.inl (by simp at hq;subst hq;simp)⟩⟩
variable {H:HP}
set_option maxHeartbeats 1000000 in
theorem Ygq {b:Nat} {l:List UInt8} {s:Bs} (hb:Bld b l H) (hs:l.length+s.size<=1000000000):
 GFn prog 174 [Zp b,.string s] fz H (fun r fz' H'=>fz=fz'/\r=.tuple #[Zk s.size,.nilIface]/\Bld b (l++s.data.toList) H'):=by
 obtain ⟨p,v,Hs,rfl,hp,hO⟩:=hb;refine zF Tryz.func174 Tryz.ntmps174 (fun w0=>?_);refine zW ?_;refine Ya Zz (Yx [_] _ Zz Zz Zz (Yj8 hp) (fun r1 fz1 H1 hle1 hR1=>?_));obtain ⟨rfl,rfl,rfl⟩:=hR1;unfold bldO;refine zW ?_;refine Ya Zz (YjU T (Hr:=[_]) Zz Zz Zz Zz Zz Zz Zz Zz Zz Zz (Zr _) hO Zi (fun v' Hs' hO'=>?_));obtain ⟨A',c',rfl,_,_⟩:=hO'.form;refine zW ?_;refine ret2 rfl rfl rfl (List.Sublist.refl _) ⟨rfl,rfl,_,_,Hs',rfl,.inr rfl,?_⟩;have e:(l++s.data.toList).length=l.length+s.size:=by rw [List.length_append,Array.length_toList];rfl
 rw [e,List.map_append];exact hO'
set_option maxHeartbeats 1000000 in
theorem Yob {b:Nat} {l:List UInt8} (hb:Bld b l H) (h0:l≠ []) (hn:l.length<=1000000000):
 GFn prog 176 [Zp b] fz H (fun r fz' H'=>fz=fz'/\r=.string (strOf l)/\H'=[]):=by
 obtain ⟨p,v,Hs,rfl,hp,hO⟩:=hb;have hl0:l.length≠0:=by simpa using h0
 rcases hO.2 with ⟨_,h1,_⟩ | ⟨g,cap,cur,rfl,rfl,h3,h4,h5,h6⟩
 ·exact absurd h1 hl0
 obtain ⟨curl,rfl⟩:∃ cl:List Value,cur=cl.toArray:=⟨cur.toList,by simp⟩;unfold bldO;refine zF Tryz.func176 Tryz.ntmps176 (fun w0=>?_);refine zWO ?_;refine Yj (Yq ?_);refine zWO ?_;refine Yj ?_;refine Wp.drawK (Hq:=[_]) T.mixed Zj Zj Zb ?_;refine wG ?_;refine Yip Zz Zi ?_;refine zW ?_;refine Yf ?_;refine Yf ?_;refine YM ⟨by kernel_rfl,?_⟩;refine Yt (Ygi T (pre:=[_]) (post:=[]) Zz Zz Zz Zz Zz Zz h0 (by simp at h5;omega) Zi (by simpa using h6) ⟨(⟨Le.refl _,Zx⟩),?_⟩);refine Ch.qk (⟨Le.refl _,Zx⟩) (YY Zz ?_);refine Ch.done ?_;refine zW ?_;exact ret1 rfl rfl (List.nil_sublist _) ⟨rfl,rfl,rfl⟩
theorem Ykl {p q:Sexpr->Prop} (h:∀ x,p x->q x):∀ (s:Nat) {x:Sexpr},SizeOf.sizeOf x<=s->XAll p x->XAll q x
 | 0,x,hs,_=>by cases x;simp at hs
 | s+1,x,hs,hx=>by
  have h1:=Y2.1 hx;exact Y2.2 ⟨h _ h1.1,fun k hk=>Ykl h s (by have:=Sexpr.kids_lt hk;omega) (h1.2 k hk)⟩
theorem xnode_sm {x:Sexpr} (h:YeA x):Lx.XSm x:=by
 rcases h with ⟨h1,h2,_⟩ | ⟨h1,_,_,h2⟩ | ⟨h1,_⟩
 ·exact ⟨fun _=>h2.2.1,fun h0=>by omega⟩
 ·exact ⟨fun h0=>by omega,fun _=>h2⟩
 exact ⟨fun h0=>by omega,fun h0=>by omega⟩
theorem Ykk {x:Sexpr} (h:XOk x):XAll Lx.XSm x:=Ykl (fun _=>xnode_sm) _ (Zs _) h
theorem YlQ {x:Sexpr} (h:XOk x):(txt x).length<=36*xcount x:=by have:=txt_len (Ykk h);omega
theorem strO_one:OneC strL:=by
 intro fz d cs h u hu;obtain ⟨rfl,_⟩:=h;simp at hu;subst hu;rfl
theorem Ymi {l:List UInt8} (h:l.length<=1000000000):strL.rep fz (strOf l) [.string (strOf l)]:=⟨rfl,by rw [XF];omega⟩
theorem Yni {x:Sexpr} (h:XOk x):(Lib.join (x.kids.map txt) [32]).length<=36*xcount x:=by
 cases x with
 | mk k v l c t ks=>
  have h1:=(Y2.1 (Ykk h)).2;have h2:=txtL_len (Yf7.2 h1);have h3:=join_len (l:=ks.map txt);rw [<- Ykr] at h3 ⊢;simp only [Sexpr.kids] at h2 ⊢;rw [xcount];omega
set_option maxHeartbeats 1000000 in
theorem Ykj:∀ (s:Nat) {fz:FZ} {x:Sexpr} {vk:Value},SizeOf.sizeOf x<=s->YS fz x vk->XOk x->xcount x<=4096->TabF fz->
 QFn prog 173 [.agg #[Zk x.kind,Zk x.value,Zk x.line,Zk x.column,.string x.text,vk]] fz (.string (strOf (txt x)))
 | 0,_,x,_,hs,_,_,_,_=>by cases x;simp at hs
 | s+1,fz,x,vk,hs,h,hX,hc,hT=>by
  refine GFn.quiet ?_;obtain ⟨A,n,ca,rfl,hk⟩:=h.kids;have l1:=hk.len;have l2:=hk.short;have hN:=Y2.1 hX;have e:=Yl9 x;have ec:=Y4 x;refine zF Tryz.func173 Tryz.ntmps173 (fun w0=>?_);refine Yj (Yq (Ya Zz (Xb _ Zz Zz (fun g0=>?_))));refine wC (fun x1=>?_) (fun y1=>?_)
  ·exact wR (h:=by rw [e,if_pos (show x.kind=1 from x1),Yky])
  refine wC (fun x2=>?_) (fun y2=>?_)
  ·have hNum:NumOk x.value:=by
    rcases hN.1 with ⟨h1,_⟩ | ⟨_,_,_,h1⟩ | ⟨h1,_⟩
    ·omega
    ·exact h1
    omega
   refine wc (Ynk hT hNum) ?_;exact wR (h:=by rw [e,if_neg (show ¬x.kind=1 from y1),if_pos (show x.kind=2 from x2)])
  have hlen:=Yni hX;have hln:=X9 (l:=x.kids);refine zW ?_;refine Ym (fun q σ fz' H'=>∃ (k:Nat) (v:Value) (Hs:HP),k<=n/\q=n - k/\σ=[(20,Zk k),(19,Zk n),(18,.slice A n ca),(3,v)]/\fz=fz'/\H'=Hs/\Grow strL 9 fz' v k Hs (((x.kids.map txt).take k).map strOf))
   ⟨0,_,[],Z0 _,rfl,rfl,rfl,rfl,Grow.nil _ _ _⟩ Zw Zb ?_
  rintro q σ fz' H' ⟨k,v,Hs,hk',rfl,rfl,rfl,rfl,hG⟩;obtain ⟨Av,cv,rfl,_,_⟩:=hG.form;refine wC (fun c1=>?_) (fun c1=>?_)
  ·obtain ⟨y,hy⟩:=Yl (l:=x.kids) (k:=k) Zi;have hym:=Zm hy;have hlt:=Sexpr.kids_lt hym;have hcy:=XX hym;have hyo:=hN.2 y hym;have hyl:=YlQ hyo;refine wI hk hy (fun p hp=>?_);refine zL hp ?_;intro cs hcs;obtain ⟨vk2,rfl,hR⟩:=Yi hcs;obtain ⟨A2,n2,c2,rfl,_⟩:=hR.kids;refine zW ?_;intros
   ((refine zG ?_);refine Yv Zz Zz (Ykj s Zi hR hyo Zi hT) ?_);refine Ya Zz (Yb T (cs:=[.string (strOf (txt y))]) Zz Zz Zz Zz Zz Zz Zz Zz (fun gb=>?_));refine Ya Zz (YP T (Hr:=[_,_]) Zz Zz Zz Zz Zz Zz Zz Zz (Zr _) hG strO_one (.head _) (Ymi Zi) (by show _*16<=_;omega) Zi (fun v' Hs' hO'=>?_));obtain ⟨Av',cv',rfl,_,_⟩:=hO'.form;exact wP (h:=by exact ⟨k+1,_,Hs',by omega,rfl,rfl,rfl,rfl,hO'.of (by rw [List.take_add_one,List.getElem?_map,hy];simp) rfl⟩)
  have hk1:n=k:=by omega
  subst hk1;rw [Zl (by rw [List.length_map];omega)] at hG;refine zW ?_;refine Seq.freezeAll (H1:=[]) (Zr _) (fun fz3 hle3 hf3=>?_)
  ((refine zG ?_);refine Yv Zz Zz (join_q hG hf3 Zi Zi) ?_);refine zG ?_;refine Yfq (a:=[40]) Zz Zz (by simp;omega) ?_;refine zG ?_;refine Yfq (b:=[41]) Zz Zz (by simp;omega) ?_;exact wR (h:=by rw [e,if_neg (show ¬x.kind=1 from y1),if_neg (show ¬x.kind=2 from y2)];rfl)
variable {vk:Value}
theorem xwrite_q {x:Sexpr} (h:YS fz x vk) (hX:XOk x) (hc:xcount x<=4096) (hT:TabF fz):
 QFn prog 173 [.agg #[Zk x.kind,Zk x.value,Zk x.line,Zk x.column,.string x.text,vk]] fz (.string (strOf (txt x))):=Ykj _ (Zs _) h hX hc hT
variable {i:Nat}
theorem Yjq {x:Sexpr} {w:Nat} (h:XOk x) (hi:i+2*xdepth x<=66):(lay w x i).length<=102*xcount x:=by
 have:=lay_len (w:=w) (M:=66) (Ykk h) hi;omega
set_option maxHeartbeats 2000000 in
theorem YlR:∀ (s:Nat) {fz:FZ} {x:Sexpr} {vk:Value} {w i:Nat},SizeOf.sizeOf x<=s->YS fz x vk->XOk x->xcount x<=4096->i+2*xdepth x<=66->w<=200->TabF fz->
 QFn prog 131 [.agg #[Zk x.kind,Zk x.value,Zk x.line,Zk x.column,.string x.text,vk],Zk w,Zk i] fz (.string (strOf (lay w x i)))
 | 0,_,x,_,_,_,hs,_,_,_,_,_,_=>by cases x;simp at hs
 | s+1,fz,x,vk,w,i,hs,h,hX,hc,hi,hw,hT=>by
  refine GFn.quiet ?_;obtain ⟨A,n,ca,rfl,hk⟩:=h.kids;have l1:=hk.len;have l2:=hk.short;have hN:=Y2.1 hX;have ec:=Y4 x;have ed:=Ybd x;have htl:=YlQ hX;have hsz:=XF (txt x);refine zF Tryz.func131 Tryz.ntmps131 (fun w0=>?_);refine Yj (Yq (Ya Zz (Xb _ Zz Zz (fun g0=>?_))));refine wc (xwrite_q h hX hc hT) ?_;refine wC (fun x3=>?_) (fun y3=>?_)
  ·exact wR (h:=by rw [YdO (.inl x3)])
  refine wC (fun e1=>?_) (fun e1=>?_)
  ·exact wR (h:=by rw [YdO (.inr (.inl Zi))])
  refine wC (fun e2=>?_) (fun e2=>?_)
  ·exact wR (h:=by rw [YdO (.inr (.inr Zi))])
  have hl:=YkV (w:=w) (i:=i) (x:=x) (fun h0=>by omega);obtain ⟨y,hy⟩:=Yl (l:=x.kids) (k:=0) Zi;have hym:=Zm hy;have hlt:=Sexpr.kids_lt hym;have hcy:=XX hym;have hdy:=Yat.1 (Zs _) y hym;have hd0:i+2+2*xdepthL x.kids<=66:=by rw [if_pos Zi] at ed;omega
  have hyo:=hN.2 y hym;have hyl:=Yjq (w:=w) (i:=i+1) hyo Zi;refine zW ?_;intros;rename_i gb;refine zI hk hy (fun p hp=>?_);refine zL hp ?_;intro cs hcs;obtain ⟨vk2,rfl,hR⟩:=Yi hcs;obtain ⟨A2,n2,c2,rfl,_⟩:=hR.kids;refine wG ?_;refine Yv Zz Zz (YlR s (i:=i+1) Zi hR hyo Zi Zi hw hT) ?_;refine zG ?_;refine Yfq (a:=[40]) Zz Zz (by simp;omega) ?_;refine Ya Zz (Yx [_] [_] Zz Zz Zz (Ygq (Bld.new gb) (by rw [XF];simp;omega)) (fun r1 fz1 H1 hle1 hR1=>?_));obtain ⟨rfl,rfl,hB⟩:=hR1;refine Seq.perm (Zq (l₁:=[_])) ?_;have hkk:x.kids=y::x.kids.drop 1:=by
   cases hq:x.kids with
   | nil=>simp [hq] at hy
   | cons a b=>simp [hq] at hy;subst hy;rfl
  have hcr:xcountL (x.kids.drop 1)<=xcountL x.kids:=by
   have h0:xcountL x.kids=xcountL (y::x.kids.drop 1):=congrArg xcountL hkk;rw [xcountL] at h0;omega
  have hB2:Bld gb (40::(lay w y (i+1)++layT w ((x.kids.drop 1).take 0) (i+2))) H1:=by simpa [X8,layT] using hB
  have hlT:∀ k,(layT w ((x.kids.drop 1).take k) (i+2)).length<=102*4096:=fun k=>by
   have h0:=layT_len (w:=w) (M:=66) (l:=(x.kids.drop 1).take k) (i:=i+2) (Yf7.2 (fun z hz=>Ykk (hN.2 z (List.mem_of_mem_drop (List.mem_of_mem_take hz))))) (by
    have:xdepthL ((x.kids.drop 1).take k)<=xdepthL x.kids:=Yat.2 (fun z hz=>Yat.1 (Zs _) z (List.mem_of_mem_drop (List.mem_of_mem_take hz)));omega)
   have h1:=YeC (l:=x.kids.drop 1) (k:=k);omega
  refine wG ?_;refine XC T (j:=1) Zz Zz Zz Zz Zz Zz hk Zi (fun B hS=>?_);refine zW ?_;refine Ym (fun q σ fz' H'=>∃ k:Nat,k<=n - 1/\q=n - 1 - k/\σ=[(45,Zk k),(44,Zk ((n - 1:Nat):Int)),(43,.slice B (n - 1) (ca - 1)),(8,Zp gb),(2,Zk i),(1,Zk w)]/\fz=fz'/\Bld gb (40::(lay w y (i+1)++layT w ((x.kids.drop 1).take k) (i+2))) H')
   ⟨0,Z0 _,rfl,rfl,rfl,hB2⟩ Zw Zb ?_
  rintro q σ fz' H' ⟨k,hk',rfl,rfl,rfl,hBk⟩;have hdl:(x.kids.drop 1).length=n - 1:=by rw [List.length_drop,l1]
  refine wC (fun c1=>?_) (fun c1=>?_)
  ·obtain ⟨z,hz⟩:=Yl (l:=x.kids.drop 1) (k:=k) Zi;have hzm:z∈x.kids:=List.mem_of_mem_drop (Zm hz);have hltz:=Sexpr.kids_lt hzm;have hcz:=XX hzm;have hdz:=Yat.1 (Zs _) z hzm;have hzo:=hN.2 z hzm;have hzl:=Yjq (w:=w) (i:=i+2) hzo Zi;have hlk:=hlT k;refine wI hS hz (fun p2 hp2=>?_);refine zL hp2 ?_;intro cs2 hcs2;obtain ⟨vk3,rfl,hR3⟩:=Yi hcs2;obtain ⟨A3,n3,c3,rfl,_⟩:=hR3.kids;refine zWO ?_;intros;rename_i gk;refine Wp.drawK (Hq:=[_]) T.mixed Zj Zj Zb ?_;refine wG ?_;refine Yv Zz Zz (repeat_q (n:=i+2) Zi) ?_;refine zG ?_;refine Yfq (a:=[10]) Zz Zz (by simp;omega) ?_;refine wG ?_;refine Yv Zz Zz (YlR s (i:=i+2) Zi hR3 hzo Zi Zi hw hT) ?_;refine zG ?_;refine Yfq Zz Zz (by simp;omega) ?_;refine Yf ?_;refine YM ⟨by kernel_rfl,?_⟩;refine Yt (Does.perm (Zq (l₂:=[_])) (Yx _ [_] Zz Zz Zz (Ygq hBk (by rw [XF];simp only [List.length_cons,List.length_append,List.length_replicate,List.length_nil];omega)) (fun r2 fz2 H2 hle2 hR2=>?_)));obtain ⟨rfl,rfl,hB3⟩:=hR2;refine ⟨⟨Le.refl _,by intro p hp;simp only [List.mem_singleton] at hp;subst hp;simp⟩,?_⟩;refine Ch.done ?_;have hB4:Bld gb (40::(lay w y (i+1)++layT w ((x.kids.drop 1).take (k+1)) (i+2))) H2:=by
    rw [Ynf hz];rw [X8] at hB3;simpa only [List.cons_append,List.append_assoc,List.nil_append] using hB3
   refine zW ?_;exact WO ⟨k+1,by omega,rfl,rfl,rfl,hB4⟩ Zi Zw (List.sublist_append_left _ _)
  have hk1:k=n - 1:=by omega
  subst hk1;rw [Zl Zi] at hBk;have hll:=hlT (n - 1);rw [Zl Zi] at hll;refine zW ?_;refine Ya Zz (Yx _ [] (List.append_nil _).symm Zz Zz (Yob hBk (by simp) (by simp only [List.length_cons,List.length_append];omega)) (fun r2 fz2 H2 hle2 hR2=>?_));obtain ⟨rfl,rfl,rfl⟩:=hR2;refine zG ?_;refine Yfq (b:=[41]) Zz Zz (by simp only [List.length_cons,List.length_append,List.length_nil];omega) ?_;exact wR (h:=by rw [hl,hkk];rfl)
set_option maxHeartbeats 1000000 in
theorem YlS {x:Sexpr} (h:YS fz x vk) (hT:TabF fz):
 QFn prog 84 [.agg #[Zk x.kind,Zk x.value,Zk x.line,Zk x.column,.string x.text,vk],Zk 80] fz (if XVal x then .tuple #[.string (strOf (lay 80 x 0)),.nilIface] else .tuple #[Ze,errV 2]):=by
 refine GFn.quiet ?_;obtain ⟨A,n,ca,rfl,hk⟩:=h.kids;refine zF Tryz.func84 Tryz.ntmps84 (fun w0=>?_);refine Yj (Yq (Ya Zz (Xb _ Zz Zz (fun g0=>?_))));refine wb (WZ h) (fun f1=>?_) (fun f1=>?_)
 ·have hv:=Zt f1;refine wG ?_;refine q_min Zz Zz ?_;refine wG ?_;refine Yv Zz Zz (YlR (w:=80) (i:=0) _ (Zs _) h hv.1 hv.2.2 (by have:=hv.2.1;omega) Zi hT) ?_;exact wS (h:=by exact (if_pos hv).symm)
 have hv:=Zf f1;exact wS (h:=by exact (if_neg hv).symm)
theorem sx_x {x:Sexpr} (h:SxIs fz v x):∃ A n c,v=.agg #[Zk x.kind,Zk x.value,Zk x.line,Zk x.column,.string x.text,.slice A n c]/\YS fz x (.slice A n c):=by
 obtain ⟨cs,rfl,hr⟩:=h;obtain ⟨vk,rfl,hX⟩:=Yi hr;obtain ⟨A,n,c,rfl,_⟩:=hX.kids;exact ⟨A,n,c,rfl,hX⟩
theorem YgD {x:Sexpr} (h:YS fz x vk) (hv:XVal x) (hT:TabF fz):
 QFn prog 32 [.agg #[Zk x.kind,Zk x.value,Zk x.line,Zk x.column,.string x.text,vk],.nilIface] fz (.tuple #[.string (strOf (lay 80 x 0++ [10])),.nilIface]):=by
 obtain ⟨A,n,c,rfl,_⟩:=h.kids;have hL:=YlS h hT;rw [if_pos hv] at hL;have hl:=Yjq (w:=80) (i:=0) hv.1 (by have:=hv.2.1;omega);have hc:=hv.2.2;refine GFn.quiet ?_;refine zF Tryz.func32 Tryz.ntmps32 (fun w0=>?_);refine Yj (Yq (Ya Zz (Xb _ Zz Zz (fun g0=>?_))));refine wc hL ?_;refine wG ?_;refine Yfq (b:=[10]) Zz Zz (by simp;omega) ?_;exact wS (h:=rfl)
theorem Yfs {x:Sexpr} (h:YS fz x vk):
 QFn prog 32 [.agg #[Zk x.kind,Zk x.value,Zk x.line,Zk x.column,.string x.text,vk],.iface 65 (Zk 2)] fz (.tuple #[Ze,.iface 65 (Zk 2)]):=by
 obtain ⟨A,n,c,rfl,_⟩:=h.kids;refine GFn.quiet ?_;refine zF Tryz.func32 Tryz.ntmps32 (fun w0=>?_);refine Yj (Yq (Ya Zz (Xb _ Zz Zz (fun g0=>?_))));exact wS (h:=rfl)
def Yiy (P:Prop) (l:List UInt8):Value:=.tuple #[.string (if P then strOf l else ⟨#[]⟩),errV (if P then 0 else 2)]
variable {d:Domain} {v1 v2 v3 v4 v5 v6:Value}
theorem pdom_q (h:DomainR fz d v1 v2 v3 v4 v5 v6) (hs:DomSm d) (hT:TabF fz):
 QFn prog 13 [.agg #[.string d.name,v1,v2,v3,v4,v5,v6]] fz (Yiy (Ybt d/\XVal (domX d)) (lay 80 (domX d) 0++ [10])):=by
 obtain ⟨A1,n1,b1,rfl,i1⟩:=h.types;obtain ⟨A2,n2,b2,rfl,i2⟩:=h.constants;obtain ⟨A3,n3,b3,rfl,i3⟩:=h.predicates;obtain ⟨A4,n4,b4,rfl,i4⟩:=h.functions;obtain ⟨A5,n5,b5,rfl,i5⟩:=h.actions;obtain ⟨A6,n6,b6,rfl,i6⟩:=h.duratives;refine GFn.quiet ?_;refine zF Tryz.func13 Tryz.ntmps13 (fun w0=>?_);refine Yj (Yq (Ya Zz (Xb _ Zz Zz (fun g0=>?_))));refine wK (q:=YhQ h hs) (h:=fun v6 fz6 H6 hle6 hR6=>?_);obtain ⟨rfl,u,y,rfl,hy,hyx⟩:=hR6;obtain ⟨A7,m7,c7,rfl,hX7⟩:=sx_x hy;by_cases hP:Ybt d/\XVal (domX d)
 ·have e:=hyx hP;subst e;rw [if_pos hP,show errV 0=.nilIface from rfl];refine wc (YgD hX7 hP.2 (hT.mono hle6)) ?_;exact wS (h:=by exact (by rw [Yiy,if_pos hP,if_pos hP];rfl))
 rw [if_neg hP,Yk Zh];refine wc (Yfs hX7) ?_;exact wS (h:=by exact (by rw [Yiy,if_neg hP,if_neg hP,Yk Zh];rfl))
variable {p:Problem} {v7:Value}
theorem pprb_q (h:ProblemR fz p v1 v2 v3 v4 v5 v6 v7) (hs:PrbSm p) (hT:TabF fz):
 QFn prog 14 [.agg #[.string p.name,.string p.domain,v1,v2,v3,.string p.goal.op,.string p.goal.name,v4,v5,v6,v7]] fz (Yiy (FVal p.goal/\Ybs p/\XVal (prbX p)) (lay 80 (prbX p) 0++ [10])):=by
 obtain ⟨A1,n1,b1,rfl,io⟩:=h.objects;obtain ⟨A2,n2,b2,rfl,ii⟩:=h.init;obtain ⟨A3,n3,b3,rfl,iv⟩:=h.values;obtain ⟨A4,n4,b4,rfl,_⟩:=h.goal.args;obtain ⟨A5,n5,b5,rfl,_⟩:=h.goal.params;obtain ⟨A6,n6,b6,rfl,_⟩:=h.goal.exprs;obtain ⟨A7,n7,b7,rfl,i7⟩:=h.goal.kids;refine GFn.quiet ?_;refine zF Tryz.func14 Tryz.ntmps14 (fun w0=>?_);refine Yj (Yq (Ya Zz (Xb _ Zz Zz (fun g0=>?_))));refine wK (q:=Yhp h hs) (h:=fun v8 fz8 H8 hle8 hR8=>?_);obtain ⟨rfl,u,y,rfl,hy,hyx⟩:=hR8;obtain ⟨C7,m7,c7,rfl,hX7⟩:=sx_x hy;by_cases hP:FVal p.goal/\Ybs p/\XVal (prbX p)
 ·have e:=hyx hP;subst e;rw [if_pos hP,show errV 0=.nilIface from rfl];refine wc (YgD hX7 hP.2.2 (hT.mono hle8)) ?_;exact wS (h:=by exact (by rw [Yiy,if_pos hP,if_pos hP];rfl))
 rw [if_neg hP,Yk Zh];refine wc (Yfs hX7) ?_;exact wS (h:=by exact (by rw [Yiy,if_neg hP,if_neg hP,Yk Zh];rfl))
end Go.Proofs.YtfjopfinkdhmaaaGreatDoor
