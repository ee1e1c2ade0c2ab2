/- The texts PWalkP, PWalkQ, PWalkR, PWalkS, PWalkT, PGrp, laid together. Conditions: none. -/
import Derived.Test.YtbnpeechpebmeaaGreatDoorRBM
set_option linter.all false
noncomputable section
set_option maxRecDepth 20000
namespace Go.Proofs.YtbnpeechpebmeaaGreatDoor
open Go.Lx Go.RowKit
attribute [local instance 10] Classical.propDecidable
open Go.Proofs.Tryz (prog)
def YQ:Bs:=⟨#[100,101,102,105,110,101]⟩
def Xl:Bs:=⟨#[100,111,109,97,105,110]⟩
def YdJ:Bs:=⟨#[58,116,121,112,101,115]⟩
def Yaa:Bs:=⟨#[58,99,111,110,115,116,97,110,116,115]⟩
def WA:Bs:=⟨#[58,112,114,101,100,105,99,97,116,101,115]⟩
def W9:Bs:=⟨#[58,102,117,110,99,116,105,111,110,115]⟩
def grp (kw:Bs) (ks:List Sexpr):List Sexpr:=if ks=[] then [] else [YH (Yh kw::ks)]
def WV (l:List Param):List Sexpr:=(l.flatMap WX).map Yh
def Ygd (p:Predicate):Sexpr:=YH (Yh p.name::WV p.params)
def funX (f:Function):Sexpr:=YH (Yh f.name::WV f.params++ [numE f.lo,numE f.hi])
def YjQ (p:Predicate):Prop:=Xk p.name∧∀ q∈p.params,Wb true q
def YmH (f:Function):Prop:=Xk f.name∧∀ q∈f.params,Wb true q
def domX (d:Domain):Sexpr:=YH ([Yh YQ,YH [Yh Xl,Yh d.name]]++grp YdJ (WV d.types)++grp Yaa (WV d.constants)++grp WA (d.predicates.map Ygd)++grp W9 (d.functions.map funX)++d.actions.map actX++d.duratives.map durX)
def DomOk (d:Domain):Prop:=Xk d.name∧(∀ p∈d.types,Wb false p)∧(∀ p∈d.constants,Wb false p)∧(∀ p∈d.predicates,YjQ p)∧(∀ f∈d.functions,YmH f)∧(∀ x∈d.actions,Ykx x)∧(∀ x∈d.duratives,Ykq x)
structure DomSm (d:Domain):Prop where
 types:d.types.length≤1000000000
 constants:d.constants.length≤1000000000
 predicates:d.predicates.length≤1000000000
 predp:∀ p∈d.predicates,p.params.length≤1000000000
 functions:d.functions.length≤1000000000
 funp:∀ f∈d.functions,f.params.length≤1000000000
 actions:d.actions.length≤1000000000
 acts:∀ x∈d.actions,actSm x
 duratives:d.duratives.length≤1000000000
 durs:∀ x∈d.duratives,durSm x
theorem Yhe {l:List Param}:(WV l).length=3*l.length:=by simp only [WV,List.length_map,Ydg]
variable {d:Domain} {fz:FZ} {v1 v2 v3 v4 v5 v6:Value}
set_option maxHeartbeats 8000000 in
theorem dWrite_q (h:DomainR fz d v1 v2 v3 v4 v5 v6) (hs:DomSm d):
 GFn prog 17 [.agg #[.string d.name,v1,v2,v3,v4,v5,v6]] fz [] (WrR (DomOk d∧XVal (domX d)) (domX d)):=by
 obtain ⟨A1,n1,c1,rfl,i1⟩:=h.types
 obtain ⟨A2,n2,c2,rfl,i2⟩:=h.constants
 obtain ⟨A3,n3,c3,rfl,i3⟩:=h.predicates
 obtain ⟨A4,n4,c4,rfl,i4⟩:=h.functions
 obtain ⟨A5,n5,c5,rfl,i5⟩:=h.actions
 obtain ⟨A6,n6,c6,rfl,i6⟩:=h.duratives
 have k1:=i1.len
 have k2:=i2.len
 have k3:=i3.len
 have k4:=i4.len
 have k5:=i5.len
 have k6:=i6.len
 have m1:=hs.types
 have m2:=hs.constants
 have m3:=hs.predicates
 have m4:=hs.functions
 have m5:=hs.actions
 have m6:=hs.duratives
 refine zF Tryz.func17 Tryz.ntmps17 (fun w0=>?_)
 refine Yp (Yq (Yb Zz (Y3 _ Zz Zz (fun g1=>?_))))
 refine zWO ?_;intros
 rename_i g2
 refine Yp (Yq ?_)
 refine zWO ?_;intros
 rename_i g
 refine Yp (Wp.mid (fun σ fz' H'=>∃ (bb:Bool) (g5:Nat) (v:Value) (Hs:HP),σ=[(5,.pointer (some ⟨g5,0,none⟩)),(4,.pointer (some ⟨g,0,none⟩)),(2,.pointer (some ⟨g2,0,none⟩)),(1,.pointer (some ⟨g1,0,none⟩))]∧Le fz fz'∧H'=(g,wrO bb)::(g1,.cells #[.string d.name,.slice A1 n1 c1,.slice A2 n2 c2,.slice A3 n3 c3,.slice A4 n4 c4,.slice A5 n5 c5,.slice A6 n6 c6] 46 (0,0))::(g2,.cells #[.int .i64 0,.int .i64 0,.int .i64 0,.int .i64 0,.string ⟨#[]⟩,.slice none 0 0] 74 (0,0))::(g5,lsO v)::Hs∧Grow YL 74 fz' v 2 Hs [Yh YQ,YH [Yh Xl,Yh d.name]]∧(bb=false↔Xk d.name)) ?_ ?_)
 ·refine Wp.drawP [] (Hq:=[(g2,_),(g1,_)]) T.mixed Zj Zj Zb ?_
  refine zc (WB (s:=YQ)) ?_
  refine zc (WB (s:=Xl)) ?_
  unfold sxV
  refine zW ?_;intros
  refine Yf ?_
  refine Yf ?_
  refine Yf ?_
  refine Yf ?_
  refine Yf ?_
  refine Yf ?_
  refine Yf ?_
  refine PK.done ⟨by kernel_rfl,?_⟩
  refine Ys Zz Zz Zz ?_ ?_
  ·refine Yd (Does.perm (Xb [0,1,2] Zz Zz) (Yl [_] _ Zz Zz Zz (Ybp (b:=false) h.name) (fun v6 fz6 H6 hle6 hR6=>?_)))
   obtain ⟨_,rfl,b1,rfl,hb1⟩:=hR6
   refine ⟨(⟨hle6,Zx⟩),?_⟩
   unfold sxV
   refine Ys Zz Zz Zz ?_ ?_
   ·refine Yd (Yc T (cs:=Yr Xl++Yr d.name) Zz Zz Zz Zz Zz Zz Zz Zz (fun gb=>⟨(⟨hle6,Zx⟩),?_⟩))
    refine Ys Zz Zz Zz ?_ ?_
    ·refine PoS.qk (⟨hle6,Zx⟩) (YB Zz Zz Xe ?_)
     unfold sxV
     refine Ys Zz Zz Zz ?_ ?_
     ·refine Yd (Yc T (cs:=Yr YQ++ [.int .i64 3,.int .i64 0,.int .i64 0,.int .i64 0,.string ⟨#[]⟩,.slice (some ⟨gb,0,none⟩) 2 2]) Zz Zz Zz Zz Zz Zz Zz Zz (fun gc=>⟨(⟨hle6,Zx⟩),?_⟩))
      refine Ys Zz Zz Zz ?_ ?_
      ·refine PoS.qk (⟨hle6,Zx⟩) (YB Zz Zz Xe ?_)
       unfold sxV
       refine Ya Zz Zz ?_
       refine Yd (YI T Zz Zz (fun g5=>⟨(⟨hle6,Zx⟩),?_⟩))
       refine Ya Zz Zz ?_
       refine PoS.hard0 Zj (Does.perm (Xb [0,3,5,4,1,2] Zz Zz) (Yy T Zz Zz Zz Zz Zz Zz ?_))
       refine Po.done ?_
       refine zW ?_;intros
       refine midF (H':=[(g,wrO b1),(g1,_),(g2,_),(g5,_),(gc,_)]) (H2:=[(gb,_)]) (Xb [1,2,3,0,4,5] Zz Zz) (fun fz3 hl3 hf3=>⟨b1,g5,_,[(gc,_)],rfl,hle6.trans hl3,rfl,Grow.block (m:=2) (ys:=[(Yh YQ,Yr YQ),(YH [Yh Xl,Yh d.name],[.int .i64 3,.int .i64 0,.int .i64 0,.int .i64 0,.string ⟨#[]⟩,.slice (some ⟨gb,0,none⟩) 2 2])]) rfl rfl ?_ rfl Zh,by rw [hb1];simp⟩) Zw
       have hg:=hf3 _ (.head _)
       intro p hp
       simp only [List.mem_cons,List.not_mem_nil,or_false] at hp
       rcases hp with rfl | rfl
       ·exact Yv (YR Zh)
       ·exact Yi (XR (Xg (ys:=[(Yh Xl,Yr Xl),(Yh d.name,Yr d.name)]) hg rfl rfl (by intro p hp;simp only [List.mem_cons,List.not_mem_nil,or_false] at hp;rcases hp with rfl | rfl;exact Yv (YR Zh);exact Yv h.name) rfl Zh))
      ·refine Yd (YI T Zz Zz (fun g5=>⟨(⟨hle6,Zx⟩),?_⟩))
       refine Ya Zz Zz ?_
       refine PoS.qk (⟨hle6,Zx⟩) (YB Zz Zz Xe ?_)
       unfold sxV
       refine Ya Zz Zz ?_
       refine PoS.hard0 Zj (Does.perm (Xb [0,3,5,4,1,2] Zz Zz) (Yy T Zz Zz Zz Zz Zz Zz ?_))
       refine Po.done ?_
       refine zW ?_;intros
       refine midF (H':=[(g,wrO b1),(g1,_),(g2,_),(g5,_),(gc,_)]) (H2:=[(gb,_)]) (Xb [1,2,3,0,4,5] Zz Zz) (fun fz3 hl3 hf3=>⟨b1,g5,_,[(gc,_)],rfl,hle6.trans hl3,rfl,Grow.block (m:=2) (ys:=[(Yh YQ,Yr YQ),(YH [Yh Xl,Yh d.name],[.int .i64 3,.int .i64 0,.int .i64 0,.int .i64 0,.string ⟨#[]⟩,.slice (some ⟨gb,0,none⟩) 2 2])]) rfl rfl ?_ rfl Zh,by rw [hb1];simp⟩) Zw
       have hg:=hf3 _ (.head _)
       intro p hp
       simp only [List.mem_cons,List.not_mem_nil,or_false] at hp
       rcases hp with rfl | rfl
       ·exact Yv (YR Zh)
       ·exact Yi (XR (Xg (ys:=[(Yh Xl,Yr Xl),(Yh d.name,Yr d.name)]) hg rfl rfl (by intro p hp;simp only [List.mem_cons,List.not_mem_nil,or_false] at hp;rcases hp with rfl | rfl;exact Yv (YR Zh);exact Yv h.name) rfl Zh))
     ·refine Yd (YI T Zz Zz (fun g5=>⟨(⟨hle6,Zx⟩),?_⟩))
      refine Ya Zz Zz ?_
      refine Yd (Yc T (cs:=Yr YQ++ [.int .i64 3,.int .i64 0,.int .i64 0,.int .i64 0,.string ⟨#[]⟩,.slice (some ⟨gb,0,none⟩) 2 2]) Zz Zz Zz Zz Zz Zz Zz Zz (fun gc=>⟨(⟨hle6,Zx⟩),?_⟩))
      refine Ya Zz Zz ?_
      refine PoS.qk (⟨hle6,Zx⟩) (YB Zz Zz Xe ?_)
      unfold sxV
      refine Ya Zz Zz ?_
      refine PoS.hard0 Zj (Does.perm (Xb [1,3,5,4,0,2] Zz Zz) (Yy T Zz Zz Zz Zz Zz Zz ?_))
      refine Po.done ?_
      refine zW ?_;intros
      refine midF (H':=[(g,wrO b1),(g1,_),(g2,_),(g5,_),(gc,_)]) (H2:=[(gb,_)]) (Xb [1,2,3,0,4,5] Zz Zz) (fun fz3 hl3 hf3=>⟨b1,g5,_,[(gc,_)],rfl,hle6.trans hl3,rfl,Grow.block (m:=2) (ys:=[(Yh YQ,Yr YQ),(YH [Yh Xl,Yh d.name],[.int .i64 3,.int .i64 0,.int .i64 0,.int .i64 0,.string ⟨#[]⟩,.slice (some ⟨gb,0,none⟩) 2 2])]) rfl rfl ?_ rfl Zh,by rw [hb1];simp⟩) Zw
      have hg:=hf3 _ (.head _)
      intro p hp
      simp only [List.mem_cons,List.not_mem_nil,or_false] at hp
      rcases hp with rfl | rfl
      ·exact Yv (YR Zh)
      ·exact Yi (XR (Xg (ys:=[(Yh Xl,Yr Xl),(Yh d.name,Yr d.name)]) hg rfl rfl (by intro p hp;simp only [List.mem_cons,List.not_mem_nil,or_false] at hp;rcases hp with rfl | rfl;exact Yv (YR Zh);exact Yv h.name) rfl Zh))
    ·refine Yd (YI T Zz Zz (fun g5=>⟨(⟨hle6,Zx⟩),?_⟩))
     refine Ya Zz Zz ?_
     refine PoS.qk (⟨hle6,Zx⟩) (YB Zz Zz Xe ?_)
     unfold sxV
     refine Ya Zz Zz ?_
     refine Yd (Yc T (cs:=Yr YQ++ [.int .i64 3,.int .i64 0,.int .i64 0,.int .i64 0,.string ⟨#[]⟩,.slice (some ⟨gb,0,none⟩) 2 2]) Zz Zz Zz Zz Zz Zz Zz Zz (fun gc=>⟨(⟨hle6,Zx⟩),?_⟩))
     refine Ya Zz Zz ?_
     refine PoS.qk (⟨hle6,Zx⟩) (YB Zz Zz Xe ?_)
     unfold sxV
     refine Ya Zz Zz ?_
     refine PoS.hard0 Zj (Does.perm (Xb [1,3,5,4,0,2] Zz Zz) (Yy T Zz Zz Zz Zz Zz Zz ?_))
     refine Po.done ?_
     refine zW ?_;intros
     refine midF (H':=[(g,wrO b1),(g1,_),(g2,_),(g5,_),(gc,_)]) (H2:=[(gb,_)]) (Xb [1,2,3,0,4,5] Zz Zz) (fun fz3 hl3 hf3=>⟨b1,g5,_,[(gc,_)],rfl,hle6.trans hl3,rfl,Grow.block (m:=2) (ys:=[(Yh YQ,Yr YQ),(YH [Yh Xl,Yh d.name],[.int .i64 3,.int .i64 0,.int .i64 0,.int .i64 0,.string ⟨#[]⟩,.slice (some ⟨gb,0,none⟩) 2 2])]) rfl rfl ?_ rfl Zh,by rw [hb1];simp⟩) Zw
     have hg:=hf3 _ (.head _)
     intro p hp
     simp only [List.mem_cons,List.not_mem_nil,or_false] at hp
     rcases hp with rfl | rfl
     ·exact Yv (YR Zh)
     ·exact Yi (XR (Xg (ys:=[(Yh Xl,Yr Xl),(Yh d.name,Yr d.name)]) hg rfl rfl (by intro p hp;simp only [List.mem_cons,List.not_mem_nil,or_false] at hp;rcases hp with rfl | rfl;exact Yv (YR Zh);exact Yv h.name) rfl Zh))
   ·refine Yd (YI T Zz Zz (fun g5=>⟨(⟨hle6,Zx⟩),?_⟩))
    refine Ya Zz Zz ?_
    refine Yd (Yc T (cs:=Yr Xl++Yr d.name) Zz Zz Zz Zz Zz Zz Zz Zz (fun gb=>⟨(⟨hle6,Zx⟩),?_⟩))
    refine Ya Zz Zz ?_
    refine PoS.qk (⟨hle6,Zx⟩) (YB Zz Zz Xe ?_)
    unfold sxV
    refine Ya Zz Zz ?_
    refine Yd (Yc T (cs:=Yr YQ++ [.int .i64 3,.int .i64 0,.int .i64 0,.int .i64 0,.string ⟨#[]⟩,.slice (some ⟨gb,0,none⟩) 2 2]) Zz Zz Zz Zz Zz Zz Zz Zz (fun gc=>⟨(⟨hle6,Zx⟩),?_⟩))
    refine Ya Zz Zz ?_
    refine PoS.qk (⟨hle6,Zx⟩) (YB Zz Zz Xe ?_)
    unfold sxV
    refine Ya Zz Zz ?_
    refine PoS.hard0 Zj (Does.perm (Xb [2,3,5,4,0,1] Zz Zz) (Yy T Zz Zz Zz Zz Zz Zz ?_))
    refine Po.done ?_
    refine zW ?_;intros
    refine midF (H':=[(g,wrO b1),(g1,_),(g2,_),(g5,_),(gc,_)]) (H2:=[(gb,_)]) (Xb [1,2,3,0,4,5] Zz Zz) (fun fz3 hl3 hf3=>⟨b1,g5,_,[(gc,_)],rfl,hle6.trans hl3,rfl,Grow.block (m:=2) (ys:=[(Yh YQ,Yr YQ),(YH [Yh Xl,Yh d.name],[.int .i64 3,.int .i64 0,.int .i64 0,.int .i64 0,.string ⟨#[]⟩,.slice (some ⟨gb,0,none⟩) 2 2])]) rfl rfl ?_ rfl Zh,by rw [hb1];simp⟩) Zw
    have hg:=hf3 _ (.head _)
    intro p hp
    simp only [List.mem_cons,List.not_mem_nil,or_false] at hp
    rcases hp with rfl | rfl
    ·exact Yv (YR Zh)
    ·exact Yi (XR (Xg (ys:=[(Yh Xl,Yr Xl),(Yh d.name,Yr d.name)]) hg rfl rfl (by intro p hp;simp only [List.mem_cons,List.not_mem_nil,or_false] at hp;rcases hp with rfl | rfl;exact Yv (YR Zh);exact Yv h.name) rfl Zh))
  ·refine Yd (YI T Zz Zz (fun g5=>⟨(⟨(Le.refl _),Zx⟩),?_⟩))
   refine Ya Zz Zz ?_
   refine Yd (Does.perm (Xb [1,0,2,3] Zz Zz) (Yl [_] _ Zz Zz Zz (Ybp (b:=false) h.name) (fun v6 fz6 H6 hle6 hR6=>?_)))
   obtain ⟨_,rfl,b1,rfl,hb1⟩:=hR6
   refine ⟨(⟨hle6,Zx⟩),?_⟩
   unfold sxV
   refine Ya Zz Zz ?_
   refine Yd (Yc T (cs:=Yr Xl++Yr d.name) Zz Zz Zz Zz Zz Zz Zz Zz (fun gb=>⟨(⟨hle6,Zx⟩),?_⟩))
   refine Ya Zz Zz ?_
   refine PoS.qk (⟨hle6,Zx⟩) (YB Zz Zz Xe ?_)
   unfold sxV
   refine Ya Zz Zz ?_
   refine Yd (Yc T (cs:=Yr YQ++ [.int .i64 3,.int .i64 0,.int .i64 0,.int .i64 0,.string ⟨#[]⟩,.slice (some ⟨gb,0,none⟩) 2 2]) Zz Zz Zz Zz Zz Zz Zz Zz (fun gc=>⟨(⟨hle6,Zx⟩),?_⟩))
   refine Ya Zz Zz ?_
   refine PoS.qk (⟨hle6,Zx⟩) (YB Zz Zz Xe ?_)
   unfold sxV
   refine Ya Zz Zz ?_
   refine PoS.hard0 Zj (Does.perm (Xb [3,2,5,4,0,1] Zz Zz) (Yy T Zz Zz Zz Zz Zz Zz ?_))
   refine Po.done ?_
   refine zW ?_;intros
   refine midF (H':=[(g,wrO b1),(g1,_),(g2,_),(g5,_),(gc,_)]) (H2:=[(gb,_)]) (Xb [1,2,3,0,4,5] Zz Zz) (fun fz3 hl3 hf3=>⟨b1,g5,_,[(gc,_)],rfl,hle6.trans hl3,rfl,Grow.block (m:=2) (ys:=[(Yh YQ,Yr YQ),(YH [Yh Xl,Yh d.name],[.int .i64 3,.int .i64 0,.int .i64 0,.int .i64 0,.string ⟨#[]⟩,.slice (some ⟨gb,0,none⟩) 2 2])]) rfl rfl ?_ rfl Zh,by rw [hb1];simp⟩) Zw
   have hg:=hf3 _ (.head _)
   intro p hp
   simp only [List.mem_cons,List.not_mem_nil,or_false] at hp
   rcases hp with rfl | rfl
   ·exact Yv (YR Zh)
   ·exact Yi (XR (Xg (ys:=[(Yh Xl,Yr Xl),(Yh d.name,Yr d.name)]) hg rfl rfl (by intro p hp;simp only [List.mem_cons,List.not_mem_nil,or_false] at hp;rcases hp with rfl | rfl;exact Yv (YR Zh);exact Yv h.name) rfl Zh))
 ·rintro σ fz1 H' ⟨b0,g5,w0',Hs0,rfl,hle0,rfl,hG0,hb0⟩
  have hys0:b0=false→[Yh YQ,YH [Yh Xl,Yh d.name]]=[Yh YQ,YH [Yh Xl,Yh d.name]]:=fun _=>rfl
  refine zW ?_;intros
  refine Yb Zz (Yl [_] _ Zz Zz Zz (WG (vars:=false) (i1.mono hle0) Zi) (fun v6 fy3 H6 hly3 hR6=>?_))
  obtain ⟨_,⟨B3,cc3,rfl,hsl3⟩,bb3,rfl,hc3⟩:=hR6
  refine Yb Zz (Does.perm (H':=((g5,_)::Hs0)++ [_,_,_]) Zq (Does.after (Yl ((g5,_)::Hs0) _ Zz Zz Zz (Ygn (kw:=YdJ) (hG0.mono hly3) hsl3 (YR Zh) Zi Zi) (fun v7 fz_3 H7 hlz3 hR7=>?_))))
  obtain ⟨_,_,v_3,n_3,Hs_3,rfl,hG_3,hn_3⟩:=hR7
  refine ⟨(g,wrO bb3)::(g1,_)::(g2,_)::(g5,lsO v_3)::Hs_3,Zq (l₁:=[_,_,_]) (l₂:=(g5,lsO v_3)::Hs_3),?_⟩
  replace hG_3:Grow YL 74 fz_3 v_3 n_3 Hs_3 ([Yh YQ,YH [Yh Xl,Yh d.name]]++grp YdJ (WV d.types)):=hG_3
  obtain ⟨l_3,hl3⟩:∃ l',l'=[Yh YQ,YH [Yh Xl,Yh d.name]]++grp YdJ (WV d.types):=⟨_,rfl⟩
  rw [← hl3] at hG_3
  have hle_3:=(hle0.trans hly3).trans hlz3
  have hb_3:bb3=false↔Xk d.name∧(∀ p∈d.types,Wb false p):=by rw [hc3,hb0]<;>simp only [and_assoc]
  have hys_3:bb3=false→l_3=[Yh YQ,YH [Yh Xl,Yh d.name]]++grp YdJ (WV d.types):=fun h0=>by rw [hl3]
  refine zW ?_;intros
  refine Yb Zz (Yl [_] _ Zz Zz Zz (WG (vars:=false) (i2.mono hle_3) Zi) (fun v6 fy4 H6 hly4 hR6=>?_))
  obtain ⟨_,⟨B4,cc4,rfl,hsl4⟩,bb4,rfl,hc4⟩:=hR6
  refine Yb Zz (Does.perm (H':=((g5,_)::Hs_3)++ [_,_,_]) Zq (Does.after (Yl ((g5,_)::Hs_3) _ Zz Zz Zz (Ygn (kw:=Yaa) (hG_3.mono hly4) hsl4 (YR Zh) Zi Zi) (fun v7 fz_4 H7 hlz4 hR7=>?_))))
  obtain ⟨_,_,v_4,n_4,Hs_4,rfl,hG_4,hn_4⟩:=hR7
  refine ⟨(g,wrO bb4)::(g1,_)::(g2,_)::(g5,lsO v_4)::Hs_4,Zq (l₁:=[_,_,_]) (l₂:=(g5,lsO v_4)::Hs_4),?_⟩
  replace hG_4:Grow YL 74 fz_4 v_4 n_4 Hs_4 (l_3++grp Yaa (WV d.constants)):=hG_4
  obtain ⟨l_4,hl4⟩:∃ l',l'=l_3++grp Yaa (WV d.constants):=⟨_,rfl⟩
  rw [← hl4] at hG_4
  have hle_4:=(hle_3.trans hly4).trans hlz4
  have hb_4:bb4=false↔Xk d.name∧(∀ p∈d.types,Wb false p)∧(∀ p∈d.constants,Wb false p):=by rw [hc4,hb_3]<;>simp only [and_assoc]
  have hys_4:bb4=false→l_4=[Yh YQ,YH [Yh Xl,Yh d.name]]++grp YdJ (WV d.types)++grp Yaa (WV d.constants):=fun h0=>by rw [hl4,hys_3 (hc4.1 h0).1]
  refine zW ?_;intros
  refine Yk (fun q σ fz' H'=>∃ (k:Nat) (b':Bool) (vp:Value) (Hp:HP) (ys:List Sexpr),k≤n3∧q=n3 - k∧σ=[(42,.int .i64 k),(41,.int .i64 n3),(40,.slice A3 n3 c3),(7,.slice none 0 0),(6,vp),(5,.pointer (some ⟨g5,0,none⟩)),(4,.pointer (some ⟨g,0,none⟩)),(2,.pointer (some ⟨g2,0,none⟩)),(1,.pointer (some ⟨g1,0,none⟩))]∧Le fz_4 fz'∧H'=(g,wrO b')::(g1,.cells #[.string d.name,.slice A1 n1 c1,.slice A2 n2 c2,.slice A3 n3 c3,.slice A4 n4 c4,.slice A5 n5 c5,.slice A6 n6 c6] 46 (0,0))::(g2,.cells #[.int .i64 0,.int .i64 0,.int .i64 0,.int .i64 0,.string ⟨#[]⟩,.slice none 0 0] 74 (0,0))::(g5,lsO v_4)::(Hs_4++Hp)∧Grow YL 74 fz' vp k Hp ys∧(b'=false↔bb4=false∧∀ i,i<k→∀ x,d.predicates[i]?=some x→YjQ x)∧(b'=false→ys=(d.predicates.take k).map Ygd)) (H0:=(g,wrO bb4)::(g1,.cells #[.string d.name,.slice A1 n1 c1,.slice A2 n2 c2,.slice A3 n3 c3,.slice A4 n4 c4,.slice A5 n5 c5,.slice A6 n6 c6] 46 (0,0))::(g2,.cells #[.int .i64 0,.int .i64 0,.int .i64 0,.int .i64 0,.string ⟨#[]⟩,.slice none 0 0] 74 (0,0))::(g5,lsO v_4)::(Hs_4++ [])) ⟨0,bb4,_,[],[],Z0 _,rfl,rfl,Le.refl _,rfl,Grow.nil _ _ _,⟨fun h=>⟨h,fun i hi=>absurd hi Zi⟩,fun h=>h.1⟩,by simp⟩ Zw (by simp) ?_
  rintro q σ fz' H' ⟨k,b',vp,Hp,ys,hk,rfl,rfl,hle,rfl,hP,hb,hys⟩
  obtain ⟨Ap,cp,rfl,_,_⟩:=hP.form
  have i3m:=i3.mono (hle_4.trans hle)
  refine zW ?_;intros
  refine zC (fun e1=>?_) (fun e1=>?_)
  ·obtain ⟨x,hx⟩:=Yg (l:=d.predicates) (k:=k) Zi
   have hxm:=Zm hx
   refine zW ?_;intros
   refine zI i3m hx (fun p hp=>?_)
   refine zL hp ?_
   intro cs hcs
   obtain ⟨vpp,rfl,hRx⟩:=X0 hcs
   obtain ⟨P1,p1,q1,rfl,ip⟩:=hRx.params
   have hpm:=hs.predp x hxm
   have hpl:=ip.len
   refine zW ?_;intros
   rename_i g9
   refine Wp.drawP [] (Hq:=[(g9,_)]) T.mixed Zj Zj Zb ?_
   refine zW ?_;intros
   refine Yf ?_
   refine Yf ?_
   refine zW ?_;intros
   refine Yf ?_
   refine Yf ?_
   refine Yf ?_
   refine Yf ?_
   refine Yf ?_
   refine Yf ?_
   refine PK.done ⟨by kernel_rfl,?_⟩
   refine Ya Zz Zz ?_
   refine Yd (Does.perm (List.Perm.swap _ _ _) (Yl [_] _ Zz Zz Zz (Ybp hRx.name) (fun v6 fz6 H6 hle6 hR6=>?_)))
   obtain ⟨_,rfl,b6,rfl,hb6⟩:=hR6
   refine ⟨(⟨hle6,Zx⟩),?_⟩
   unfold sxV
   refine Ys Zz Zz Zz ?_ ?_
   ·refine Yd (Yc T (cs:=Yr x.name) Zz Zz Zz Zz Zz Zz Zz Zz (fun gb=>⟨(⟨hle6,Zx⟩),?_⟩))
    refine Ya Zz Zz ?_
    refine Yd (Does.perm (List.Perm.swap _ _ _) (Yl [_] _ Zz Zz Zz (WG (vars:=true) (ip.mono hle6) Zi) (fun v7 fz7 H7 hle7 hR7=>?_)))
    obtain ⟨_,⟨B7,cc7,rfl,hsl7⟩,b7,rfl,hb7⟩:=hR7
    refine ⟨(⟨(hle6.trans hle7),Zx⟩),?_⟩
    refine Ya Zz Zz ?_
    refine Yd (X8 T (n:=1) (l:=[Yh x.name]) (Hr:=(g,_)::(g9,_)::(g1,_)::(g2,_)::(g5,_)::(Hs_4++Hp)) (Hs:=[(gb,_)]) Zz Zz Zz Zz Zz Zz Zz Zz (List.Perm.cons _ (List.perm_append_singleton _ _).symm) (Grow.block (ys:=[(Yh x.name,Yr x.name)]) rfl rfl (by simpa using Yv hRx.name) rfl Zh) Yu hsl7 (by show _*72≤_;omega) Zi (fun v8 Hs1 hO1=>⟨(⟨(hle6.trans hle7),Zx⟩),?_⟩))
    obtain ⟨A8,c8,rfl,_,_⟩:=hO1.form
    refine Ya Zz Zz ?_
    refine PoS.qk (⟨(hle6.trans hle7),Zx⟩) (YB Zz Zz Xe ?_)
    unfold sxV
    refine Ya Zz Zz ?_
    refine Yd (Yc T (cs:=[.int .i64 3,.int .i64 0,.int .i64 0,.int .i64 0,.string ⟨#[]⟩,.slice A8 (1+3*p1) c8]) Zz Zz Zz Zz Zz Zz Zz Zz (fun gc=>⟨(⟨(hle6.trans hle7),Zx⟩),?_⟩))
    refine Ya Zz Zz ?_
    refine Yd (Does.freezeAll (H1:=(gc,_)::(g,_)::(g9,_)::(g1,_)::(g2,_)::(g5,_)::(Hs_4++Hp)) (H2:=Hs1) (Zr _) (fun fz9 hle9 hf9=>?_))
    obtain ⟨A2x,c2x,he2,hsl9⟩:=hO1.sl hle9 hf9 Zi
    injection he2 with x1 x2 x3
    subst x1 x3
    refine YK T (Hr:=(gc,_)::(g,_)::(g9,_)::(g1,_)::(g2,_)::(g5,_)::Hs_4) (d:=Ygd x) Zz Zz Zz Zz Zz Zz Zz Zz (Zr _) (hP.mono ((hle6.trans hle7).trans hle9)) Yu (.head _) (Yi (XR hsl9)) (by show _*72≤_;omega) Zi (fun v9 Hp9 hO9=>⟨(⟨((hle6.trans hle7).trans hle9),Zx⟩),?_⟩)
    obtain ⟨A9,c9,rfl,_,_⟩:=hO9.form
    refine Ya Zz Zz ?_
    refine PoS.qk (⟨((hle6.trans hle7).trans hle9),Zx⟩) (Yz Zz ?_)
    refine Po.done ?_
    refine zW ?_;intros
    refine YA ⟨k+1,b7,_,Hp9,ys++ [Ygd x],by omega,rfl,rfl,hle.trans ((hle6.trans hle7).trans hle9),rfl,hO9,?_,fun h0=>?_⟩ Zi Zw Zb
    ·rw [hb7,hb6,hb]
     exact ⟨fun h0=>⟨h0.1.1.1,YO h0.1.1.2 hx ⟨h0.1.2,h0.2⟩⟩,fun h0=>⟨⟨⟨h0.1,fun i hi=>h0.2 i Zi⟩,(h0.2 k Zi x hx).1⟩,(h0.2 k Zi x hx).2⟩⟩
    ·rw [hys (hb6.1 (hb7.1 h0).1).1,List.take_add_one,hx];simp
   ·refine Yd (Yl [_] _ Zz Zz Zz (WG (vars:=true) (ip.mono hle6) Zi) (fun v7 fz7 H7 hle7 hR7=>?_))
    obtain ⟨_,⟨B7,cc7,rfl,hsl7⟩,b7,rfl,hb7⟩:=hR7
    refine ⟨(⟨(hle6.trans hle7),Zx⟩),?_⟩
    refine Ya Zz Zz ?_
    refine Yd (Yc T (cs:=Yr x.name) Zz Zz Zz Zz Zz Zz Zz Zz (fun gb=>⟨(⟨(hle6.trans hle7),Zx⟩),?_⟩))
    refine Ya Zz Zz ?_
    refine Yd (X8 T (n:=1) (l:=[Yh x.name]) (Hr:=(g,_)::(g9,_)::(g1,_)::(g2,_)::(g5,_)::(Hs_4++Hp)) (Hs:=[(gb,_)]) Zz Zz Zz Zz Zz Zz Zz Zz (List.perm_append_singleton _ _).symm (Grow.block (ys:=[(Yh x.name,Yr x.name)]) rfl rfl (by simpa using Yv hRx.name) rfl Zh) Yu hsl7 (by show _*72≤_;omega) Zi (fun v8 Hs1 hO1=>⟨(⟨(hle6.trans hle7),Zx⟩),?_⟩))
    obtain ⟨A8,c8,rfl,_,_⟩:=hO1.form
    refine Ya Zz Zz ?_
    refine PoS.qk (⟨(hle6.trans hle7),Zx⟩) (YB Zz Zz Xe ?_)
    unfold sxV
    refine Ya Zz Zz ?_
    refine Yd (Yc T (cs:=[.int .i64 3,.int .i64 0,.int .i64 0,.int .i64 0,.string ⟨#[]⟩,.slice A8 (1+3*p1) c8]) Zz Zz Zz Zz Zz Zz Zz Zz (fun gc=>⟨(⟨(hle6.trans hle7),Zx⟩),?_⟩))
    refine Ya Zz Zz ?_
    refine Yd (Does.freezeAll (H1:=(gc,_)::(g,_)::(g9,_)::(g1,_)::(g2,_)::(g5,_)::(Hs_4++Hp)) (H2:=Hs1) (Zr _) (fun fz9 hle9 hf9=>?_))
    obtain ⟨A2x,c2x,he2,hsl9⟩:=hO1.sl hle9 hf9 Zi
    injection he2 with x1 x2 x3
    subst x1 x3
    refine YK T (Hr:=(gc,_)::(g,_)::(g9,_)::(g1,_)::(g2,_)::(g5,_)::Hs_4) (d:=Ygd x) Zz Zz Zz Zz Zz Zz Zz Zz (Zr _) (hP.mono ((hle6.trans hle7).trans hle9)) Yu (.head _) (Yi (XR hsl9)) (by show _*72≤_;omega) Zi (fun v9 Hp9 hO9=>⟨(⟨((hle6.trans hle7).trans hle9),Zx⟩),?_⟩)
    obtain ⟨A9,c9,rfl,_,_⟩:=hO9.form
    refine Ya Zz Zz ?_
    refine PoS.qk (⟨((hle6.trans hle7).trans hle9),Zx⟩) (Yz Zz ?_)
    refine Po.done ?_
    refine zW ?_;intros
    refine YA ⟨k+1,b7,_,Hp9,ys++ [Ygd x],by omega,rfl,rfl,hle.trans ((hle6.trans hle7).trans hle9),rfl,hO9,?_,fun h0=>?_⟩ Zi Zw Zb
    ·rw [hb7,hb6,hb]
     exact ⟨fun h0=>⟨h0.1.1.1,YO h0.1.1.2 hx ⟨h0.1.2,h0.2⟩⟩,fun h0=>⟨⟨⟨h0.1,fun i hi=>h0.2 i Zi⟩,(h0.2 k Zi x hx).1⟩,(h0.2 k Zi x hx).2⟩⟩
    ·rw [hys (hb6.1 (hb7.1 h0).1).1,List.take_add_one,hx];simp
  ·have hkn:n3=k:=by omega
   subst hkn
   rw [show d.predicates.take n3=d.predicates from Zl Zi] at hys
   have hbp:b'=false↔bb4=false∧∀ x∈d.predicates,YjQ x:=by rw [hb];exact ⟨fun h0=>⟨h0.1,Xf h0.2 Zi⟩,fun h0=>⟨h0.1,fun i _ x hx=>h0.2 x (Zm hx)⟩⟩
   refine Seq.freezeAll (H1:=(g,_)::(g1,_)::(g2,_)::(g5,_)::Hs_4) (H2:=Hp) (Zr _) (fun fzp hlp hfp=>?_)
   obtain ⟨A2x,c2x,he2,hslp⟩:=hP.sl hlp hfp Zi
   injection he2 with x1 x2 x3
   subst x1 x3
   have hG5:=hG_4.mono (hle.trans hlp)
   have hle5:=(hle_4.trans hle).trans hlp
   refine zW ?_;intros
   refine Yk (fun q σ fz' H'=>∃ (j:Nat) (b2:Bool) (vf:Value) (Hf:HP) (zs:List Sexpr),j≤n4∧q=n4 - j∧σ=[(64,.int .i64 j),(63,.int .i64 n4),(62,.slice A4 n4 c4),(7,vf),(6,.slice Ap n3 cp),(5,.pointer (some ⟨g5,0,none⟩)),(4,.pointer (some ⟨g,0,none⟩)),(2,.pointer (some ⟨g2,0,none⟩)),(1,.pointer (some ⟨g1,0,none⟩))]∧Le fzp fz'∧H'=(g,wrO b2)::(g1,.cells #[.string d.name,.slice A1 n1 c1,.slice A2 n2 c2,.slice A3 n3 c3,.slice A4 n4 c4,.slice A5 n5 c5,.slice A6 n6 c6] 46 (0,0))::(g2,.cells #[.int .i64 0,.int .i64 0,.int .i64 0,.int .i64 0,.string ⟨#[]⟩,.slice none 0 0] 74 (0,0))::(g5,lsO v_4)::(Hs_4++Hf)∧Grow YL 74 fz' vf j Hf zs∧(b2=false↔b'=false∧∀ i,i<j→∀ x,d.functions[i]?=some x→YmH x)∧(b2=false→zs=(d.functions.take j).map funX)) (H0:=(g,wrO b')::(g1,.cells #[.string d.name,.slice A1 n1 c1,.slice A2 n2 c2,.slice A3 n3 c3,.slice A4 n4 c4,.slice A5 n5 c5,.slice A6 n6 c6] 46 (0,0))::(g2,.cells #[.int .i64 0,.int .i64 0,.int .i64 0,.int .i64 0,.string ⟨#[]⟩,.slice none 0 0] 74 (0,0))::(g5,lsO v_4)::(Hs_4++ [])) ⟨0,b',_,[],[],Z0 _,rfl,rfl,Le.refl _,rfl,Grow.nil _ _ _,⟨fun h=>⟨h,fun i hi=>absurd hi Zi⟩,fun h=>h.1⟩,by simp⟩ Zw (by simp) ?_
   rintro q σ fz' H' ⟨j,b2,vf,Hf,zs,hj,rfl,rfl,hle6f,rfl,hF,hb2,hzs⟩
   obtain ⟨Af,cf,rfl,_,_⟩:=hF.form
   have i4m:=i4.mono (hle5.trans hle6f)
   refine zW ?_;intros
   refine zC (fun e2=>?_) (fun e2=>?_)
   ·obtain ⟨x,hx⟩:=Yg (l:=d.functions) (k:=j) Zi
    have hxm:=Zm hx
    refine zW ?_;intros
    refine zI i4m hx (fun p hp=>?_)
    refine zL hp ?_
    intro cs hcs
    obtain ⟨vpp,rfl,hRx⟩:=XD hcs
    obtain ⟨P1,p1,q1,rfl,ip⟩:=hRx.params
    have hpm:=hs.funp x hxm
    have hpl:=ip.len
    refine zWO ?_;intros
    rename_i g9
    refine Yp (Wp.mid (fun σ fz7 H'=>∃ (b7:Bool) (v1:Value) (Hs1:HP),σ=[(12,v1),(64,.int .i64 j),(63,.int .i64 n4),(62,.slice A4 n4 c4),(11,.pointer (some ⟨g9,0,none⟩)),(7,.slice Af j cf),(6,.slice Ap n3 cp),(5,.pointer (some ⟨g5,0,none⟩)),(4,.pointer (some ⟨g,0,none⟩)),(2,.pointer (some ⟨g2,0,none⟩)),(1,.pointer (some ⟨g1,0,none⟩))]∧Le fz' fz7∧H'=((g,wrO b7)::(g9,.cells #[.string x.name,.slice P1 p1 q1,.int .i64 x.lo,.int .i64 x.hi] 123 (0,0))::(g1,.cells #[.string d.name,.slice A1 n1 c1,.slice A2 n2 c2,.slice A3 n3 c3,.slice A4 n4 c4,.slice A5 n5 c5,.slice A6 n6 c6] 46 (0,0))::(g2,.cells #[.int .i64 0,.int .i64 0,.int .i64 0,.int .i64 0,.string ⟨#[]⟩,.slice none 0 0] 74 (0,0))::(g5,lsO v_4)::(Hs_4++Hf))++Hs1∧Grow YL 74 fz7 v1 (1+3*p1) Hs1 (Yh x.name::WV x.params)∧(b7=false↔b2=false∧YmH x)) ?_ ?_)
    ·refine Wp.drawP [] (Hq:=[(g9,_)]) T.mixed Zj Zj Zb ?_
     refine zW ?_;intros
     refine Yf ?_
     refine Yf ?_
     refine zW ?_;intros
     refine Yf ?_
     refine Yf ?_
     refine Yf ?_
     refine PK.done ⟨by kernel_rfl,?_⟩
     refine Ya Zz Zz ?_
     refine Yd (Does.perm (List.Perm.swap _ _ _) (Yl [_] _ Zz Zz Zz (Ybp hRx.name) (fun v6 fz6 H6 hle6 hR6=>?_)))
     obtain ⟨_,rfl,b6,rfl,hb6⟩:=hR6
     refine ⟨(⟨hle6,Zx⟩),?_⟩
     unfold sxV
     refine Ys Zz Zz Zz ?_ ?_
     ·refine Yd (Yc T (cs:=Yr x.name) Zz Zz Zz Zz Zz Zz Zz Zz (fun gb=>⟨(⟨hle6,Zx⟩),?_⟩))
      refine Ya Zz Zz ?_
      refine Yd (Does.perm (List.Perm.swap _ _ _) (Yl [_] _ Zz Zz Zz (WG (vars:=true) (ip.mono hle6) Zi) (fun v7 fz7 H7 hle7 hR7=>?_)))
      obtain ⟨_,⟨B7,cc7,rfl,hsl7⟩,b7,rfl,hb7⟩:=hR7
      refine ⟨(⟨(hle6.trans hle7),Zx⟩),?_⟩
      refine Ya Zz Zz ?_
      refine Yd (X8 T (n:=1) (l:=[Yh x.name]) (Hr:=(g,_)::(g9,_)::(g1,_)::(g2,_)::(g5,_)::(Hs_4++Hf)) (Hs:=[(gb,_)]) Zz Zz Zz Zz Zz Zz Zz Zz (List.Perm.cons _ (List.perm_append_singleton _ _).symm) (Grow.block (ys:=[(Yh x.name,Yr x.name)]) rfl rfl (by simpa using Yv hRx.name) rfl Zh) Yu hsl7 (by show _*72≤_;omega) Zi (fun v8 Hs1 hO1=>⟨(⟨(hle6.trans hle7),Zx⟩),?_⟩))
      obtain ⟨A8,c8,rfl,_,_⟩:=hO1.form
      refine Ya Zz Zz ?_
      refine PoS.qk (⟨(hle6.trans hle7),Zx⟩) (Yz Zz ?_)
      refine Po.done ?_
      refine zW ?_;intros
      exact midN ⟨b7,_,Hs1,rfl,hle6.trans hle7,rfl,hO1,by rw [hb7,hb6,and_assoc];rfl⟩ Zw Zb
     ·refine Yd (Yl [_] _ Zz Zz Zz (WG (vars:=true) (ip.mono hle6) Zi) (fun v7 fz7 H7 hle7 hR7=>?_))
      obtain ⟨_,⟨B7,cc7,rfl,hsl7⟩,b7,rfl,hb7⟩:=hR7
      refine ⟨(⟨(hle6.trans hle7),Zx⟩),?_⟩
      refine Ya Zz Zz ?_
      refine Yd (Yc T (cs:=Yr x.name) Zz Zz Zz Zz Zz Zz Zz Zz (fun gb=>⟨(⟨(hle6.trans hle7),Zx⟩),?_⟩))
      refine Ya Zz Zz ?_
      refine Yd (X8 T (n:=1) (l:=[Yh x.name]) (Hr:=(g,_)::(g9,_)::(g1,_)::(g2,_)::(g5,_)::(Hs_4++Hf)) (Hs:=[(gb,_)]) Zz Zz Zz Zz Zz Zz Zz Zz (List.perm_append_singleton _ _).symm (Grow.block (ys:=[(Yh x.name,Yr x.name)]) rfl rfl (by simpa using Yv hRx.name) rfl Zh) Yu hsl7 (by show _*72≤_;omega) Zi (fun v8 Hs1 hO1=>⟨(⟨(hle6.trans hle7),Zx⟩),?_⟩))
      obtain ⟨A8,c8,rfl,_,_⟩:=hO1.form
      refine Ya Zz Zz ?_
      refine PoS.qk (⟨(hle6.trans hle7),Zx⟩) (Yz Zz ?_)
      refine Po.done ?_
      refine zW ?_;intros
      exact midN ⟨b7,_,Hs1,rfl,hle6.trans hle7,rfl,hO1,by rw [hb7,hb6,and_assoc];rfl⟩ Zw Zb
    ·rintro σ fz7 H' ⟨b7,v1,Hs1,rfl,hle7,rfl,hO1,hb7⟩
     obtain ⟨A8,c8,rfl,_,_⟩:=hO1.form
     refine Wp.drawK (Hq:=[(g9,_)]) T.mixed Zj Zj (List.Sublist.cons _ (List.Sublist.cons_cons _ (List.nil_sublist _))) ?_
     refine zW ?_;intros
     refine zc Yd5 ?_
     refine zW ?_;intros
     refine zc Yd5 ?_
     unfold sxV
     refine Ye ?_
     refine Ye ?_
     refine Ye ?_
     refine Ye ?_
     refine Ye ?_
     refine Ye ?_
     refine YD ⟨by kernel_rfl,?_⟩
     refine Yj (Yc T (cs:=[.int .i64 2,.int .i64 x.lo,.int .i64 0,.int .i64 0,.string ⟨#[]⟩,.slice none 0 0,.int .i64 2,.int .i64 x.hi,.int .i64 0,.int .i64 0,.string ⟨#[]⟩,.slice none 0 0]) Zz Zz Zz Zz Zz Zz Zz Zz (fun gb=>⟨(⟨Le.refl _,Zx⟩),?_⟩))
     refine Yj (YlQ T (Hr:=(gb,_)::(g,_)::(g9,_)::(g1,_)::(g2,_)::(g5,_)::(Hs_4++Hf)) (ys:=[(numE x.lo,[.int .i64 2,.int .i64 x.lo,.int .i64 0,.int .i64 0,.string ⟨#[]⟩,.slice none 0 0]),(numE x.hi,[.int .i64 2,.int .i64 x.hi,.int .i64 0,.int .i64 0,.string ⟨#[]⟩,.slice none 0 0])]) (l2:=[numE x.lo,numE x.hi]) (m:=2) Zz Zz Zz Zz Zz Zz Zz Zz (Zr _) hO1 Yu (.head _) rfl rfl (by intro p hp;simp only [List.mem_cons,List.not_mem_nil,or_false] at hp;rcases hp with rfl | rfl;exact Yi (Yhh hRx.lo);exact Yi (Yhh hRx.hi)) rfl (by show _*72≤_;omega) Zi (fun v8 Hs2 hO2=>⟨(⟨Le.refl _,Zx⟩),?_⟩))
     obtain ⟨A9,c9,rfl,_,_⟩:=hO2.form
     refine Ch.qk (⟨Le.refl _,Zx⟩) (YB Zz Zz Xe ?_)
     unfold sxV
     refine Yj (Yc T (cs:=[.int .i64 3,.int .i64 0,.int .i64 0,.int .i64 0,.string ⟨#[]⟩,.slice A9 (1+3*p1+2) c9]) Zz Zz Zz Zz Zz Zz Zz Zz (fun gc=>⟨(⟨Le.refl _,Zx⟩),?_⟩))
     refine Yj (Does.freezeAll (H1:=(gc,_)::(gb,_)::(g,_)::(g9,_)::(g1,_)::(g2,_)::(g5,_)::(Hs_4++Hf)) (H2:=Hs2) (Zr _) (fun fz9 hle9 hf9=>?_))
     obtain ⟨A2y,c2y,he3,hsl9⟩:=hO2.sl hle9 hf9 Zi
     injection he3 with x1 x2 x3
     subst x1 x3
     refine YK T (Hr:=(gc,_)::(gb,_)::(g,_)::(g9,_)::(g1,_)::(g2,_)::(g5,_)::Hs_4) (d:=funX x) Zz Zz Zz Zz Zz Zz Zz Zz (Zr _) (hF.mono (hle7.trans hle9)) Yu (.head _) (Yi (XR hsl9)) (by show _*72≤_;omega) Zi (fun v9 Hf9 hO9=>⟨(⟨hle9,Zx⟩),?_⟩)
     obtain ⟨A9f,c9f,rfl,_,_⟩:=hO9.form
     refine Ch.qk (⟨hle9,Zx⟩) (Yz Zz ?_)
     refine Ch.done ?_
     refine zW ?_;intros
     refine YA ⟨j+1,b7,_,Hf9,zs++ [funX x],by omega,rfl,rfl,hle6f.trans (hle7.trans hle9),rfl,hO9,?_,fun h0=>?_⟩ Zi Zw Zb
     ·rw [hb7,hb2]
      exact ⟨fun h0=>⟨h0.1.1,YO h0.1.2 hx h0.2⟩,fun h0=>⟨⟨h0.1,fun i hi=>h0.2 i Zi⟩,h0.2 j Zi x hx⟩⟩
     ·rw [hzs (hb7.1 h0).1,List.take_add_one,hx];simp
   ·have hjn:n4=j:=by omega
    subst hjn
    rw [show d.functions.take n4=d.functions from Zl Zi] at hzs
    have hbf:b2=false↔b'=false∧∀ x∈d.functions,YmH x:=by rw [hb2];exact ⟨fun h0=>⟨h0.1,Xf h0.2 Zi⟩,fun h0=>⟨h0.1,fun i _ x hx=>h0.2 x (Zm hx)⟩⟩
    refine Seq.freezeAll (H1:=(g,_)::(g1,_)::(g2,_)::(g5,_)::Hs_4) (H2:=Hf) (Zr _) (fun fzq hlq hfq=>?_)
    obtain ⟨A2z,c2z,he4,hslf⟩:=hF.sl hlq hfq Zi
    injection he4 with x1 x2 x3
    subst x1 x3
    have hG6:=hG5.mono (hle6f.trans hlq)
    have hslp2:=hslp.mono (hle6f.trans hlq)
    have hle7:=(hle5.trans hle6f).trans hlq
    refine zW ?_;intros
    refine Yb Zz (Does.perm (H':=((g5,_)::Hs_4)++ [_,_,_]) Zq (Does.after (Yl ((g5,_)::Hs_4) _ Zz Zz Zz (Ygn (kw:=WA) hG6 hslp2 (YR Zh) Zi Zi) (fun v7 fz_5 H7 hlz5 hR7=>?_))))
    obtain ⟨_,_,v_5,n_5,Hs_5,rfl,hG_5,hn_5⟩:=hR7
    refine ⟨(g,wrO b2)::(g1,_)::(g2,_)::(g5,lsO v_5)::Hs_5,Zq (l₁:=[_,_,_]) (l₂:=(g5,lsO v_5)::Hs_5),?_⟩
    replace hG_5:Grow YL 74 fz_5 v_5 n_5 Hs_5 (l_4++grp WA (ys)):=hG_5
    obtain ⟨l_5,hl5⟩:∃ l',l'=l_4++grp WA (ys):=⟨_,rfl⟩
    rw [← hl5] at hG_5
    refine zW ?_;intros
    refine Yb Zz (Does.perm (H':=((g5,_)::Hs_5)++ [_,_,_]) Zq (Does.after (Yl ((g5,_)::Hs_5) _ Zz Zz Zz (Ygn (kw:=W9) hG_5 (hslf.mono hlz5) (YR Zh) Zi Zi) (fun v7 fz_6 H7 hlz6 hR7=>?_))))
    obtain ⟨_,_,v_6,n_6,Hs_6,rfl,hG_6,hn_6⟩:=hR7
    refine ⟨(g,wrO b2)::(g1,_)::(g2,_)::(g5,lsO v_6)::Hs_6,Zq (l₁:=[_,_,_]) (l₂:=(g5,lsO v_6)::Hs_6),?_⟩
    replace hG_6:Grow YL 74 fz_6 v_6 n_6 Hs_6 (l_5++grp W9 (zs)):=hG_6
    obtain ⟨l_6,hl6⟩:∃ l',l'=l_5++grp W9 (zs):=⟨_,rfl⟩
    rw [← hl6] at hG_6
    have hle_6:=(hle7.trans hlz5).trans hlz6
    have hb_6:b2=false↔Xk d.name∧(∀ p∈d.types,Wb false p)∧(∀ p∈d.constants,Wb false p)∧(∀ p∈d.predicates,YjQ p)∧(∀ f∈d.functions,YmH f):=by rw [hbf,hbp,hb_4];simp only [and_assoc]
    have hys_6:b2=false→l_6=[Yh YQ,YH [Yh Xl,Yh d.name]]++grp YdJ (WV d.types)++grp Yaa (WV d.constants)++grp WA (d.predicates.map Ygd)++grp W9 (d.functions.map funX):=fun h0=>by rw [hl6,hl5,hys_4 (hbp.1 (hbf.1 h0).1).1,hys (hbf.1 h0).1,hzs h0]
    refine zW ?_;intros
    refine Yk (fun q σ fz' H'=>∃ (k2:Nat) (bb:Bool) (v:Value) (nn:Nat) (Hs:HP) (us:List Sexpr),k2≤n5∧q=n5 - k2∧σ=[(99,.int .i64 k2),(98,.int .i64 n5),(97,.slice A5 n5 c5),(5,.pointer (some ⟨g5,0,none⟩)),(4,.pointer (some ⟨g,0,none⟩)),(2,.pointer (some ⟨g2,0,none⟩)),(1,.pointer (some ⟨g1,0,none⟩))]∧Le fz_6 fz'∧H'=(g,wrO bb)::(g1,.cells #[.string d.name,.slice A1 n1 c1,.slice A2 n2 c2,.slice A3 n3 c3,.slice A4 n4 c4,.slice A5 n5 c5,.slice A6 n6 c6] 46 (0,0))::(g2,.cells #[.int .i64 0,.int .i64 0,.int .i64 0,.int .i64 0,.string ⟨#[]⟩,.slice none 0 0] 74 (0,0))::(g5,lsO v)::Hs∧Grow YL 74 fz' v nn Hs (l_6++us)∧nn≤10+k2∧(bb=false↔b2=false∧∀ i,i<k2→∀ x,d.actions[i]?=some x→Ykx x)∧(bb=false→us=(d.actions.take k2).map actX)) ⟨0,b2,_,_,Hs_6,[],Z0 _,rfl,rfl,Le.refl _,rfl,by rw [List.append_nil];exact hG_6,by omega,⟨fun h=>⟨h,fun i hi=>absurd hi Zi⟩,fun h=>h.1⟩,by simp⟩ Zw Zb ?_
    rintro q σ fzx H' ⟨k2,bbx,vx,nnx,Hsx,usx,hkx,rfl,rfl,hlex,rfl,hGx,hnnx,hbx,husx⟩
    obtain ⟨Avx,cvx,rfl,_,_⟩:=hGx.form
    have imx:=i5.mono (hle_6.trans hlex)
    refine zW ?_;intros
    refine zC (fun ecx=>?_) (fun ecx=>?_)
    ·obtain ⟨x,hx⟩:=Yg (l:=d.actions) (k:=k2) Zi
     have hxm:=Zm hx
     refine zWO ?_;intros
     refine Yp ?_
     refine Wp.cond_true Zz ?_
     refine Ya3 ?_
     refine Yck ?_
     refine Yp (Wp.mid (fun σ fz' H'=>∃ (b6:Bool) (y6:Sexpr) (v:Value) (Hs:HP),σ=[(99,.int .i64 k2),(98,.int .i64 n5),(97,.slice A5 n5 c5),(5,.pointer (some ⟨g5,0,none⟩)),(4,.pointer (some ⟨g,0,none⟩)),(2,.pointer (some ⟨g2,0,none⟩)),(1,.pointer (some ⟨g1,0,none⟩))]∧Le fzx fz'∧H'=(g,wrO b6)::(g1,.cells #[.string d.name,.slice A1 n1 c1,.slice A2 n2 c2,.slice A3 n3 c3,.slice A4 n4 c4,.slice A5 n5 c5,.slice A6 n6 c6] 46 (0,0))::(g2,.cells #[.int .i64 0,.int .i64 0,.int .i64 0,.int .i64 0,.string ⟨#[]⟩,.slice none 0 0] 74 (0,0))::(g5,lsO v)::Hs∧Grow YL 74 fz' v (nnx+1) Hs (l_6++(usx++ [y6]))∧(b6=false↔bbx=false∧Ykx x)∧(b6=false→y6=actX x)) ?_ ?_)
     ·refine zW ?_;intros
      refine zI imx hx (fun p hp=>?_)
      refine zL hp ?_
      intro cs hcs
      obtain ⟨u0,u1,u2,u3,u4,u5,rfl,hRx⟩:=XO hcs
      obtain ⟨U0,w0,z0,rfl,_⟩:=hRx.params
      obtain ⟨U1,w1,z1,rfl,_⟩:=hRx.pre.args
      obtain ⟨U2,w2,z2,rfl,_⟩:=hRx.pre.params
      obtain ⟨U3,w3,z3,rfl,_⟩:=hRx.pre.exprs
      obtain ⟨U4,w4,z4,rfl,_⟩:=hRx.pre.kids
      obtain ⟨U5,w5,z5,rfl,_⟩:=hRx.changes
      refine zW ?_;intros
      rename_i g14
      refine Wp.drawP [] (Hq:=[(g14,_),(g5,_)]) T.mixed Zj Zj Zb ?_
      refine zW ?_;intros
      refine Yf ?_
      refine zW ?_;intros
      refine Yf ?_
      refine Yf ?_
      refine Yf ?_
      refine Yf ?_
      refine zW ?_;intros
      refine Yf ?_
      refine PK.done ⟨by kernel_rfl,?_⟩
      refine Ys Zz Zz Zz ?_ ?_
      ·refine Yd (Does.perm (List.Perm.swap _ _ _) (Yl [_] _ Zz Zz Zz (YgT hRx (hs.acts x hxm)) (fun v6 fz6 H6 hle6 hR6=>?_)))
       obtain ⟨_,b6,y6,rfl,⟨cs6,rfl,hr6⟩,hb6,hy6⟩:=hR6
       obtain ⟨vk6,rfl,hX6⟩:=YG hr6
       refine ⟨(⟨hle6,Zx⟩),?_⟩
       refine Ya Zz Zz ?_
       refine Yd (Yc T (cs:=Ya8) Zz Zz Zz Zz Zz Zz Zz Zz (fun gz=>⟨(⟨hle6,Zx⟩),?_⟩))
       refine Ya Zz Zz ?_
       refine Yd (YK T (Hr:=[_,_,_,_,_,_]) Zz Zz Zz Zz Zz Zz Zz Zz (Zr _) (hGx.mono hle6) Yu (.head _) Wh (by show _*72≤_;omega) Zi (fun v' Hs' hO'=>⟨(⟨hle6,Zx⟩),?_⟩))
       obtain ⟨gk,cap,cur,rfl,rfl,hB⟩:=hO'.b Zi
       refine Ys Zz Zz Zz ?_ ?_
       ·refine PoS.qk (⟨hle6,Zx⟩) (Yo T Zz Zz Zz Zz Zz rfl Zi Zi ?_)
        refine Ys Zz Zz Zz ?_ ?_
        ·refine PoS.soft0 (YE T (pre:=[_,_,_,_,_,_]) (L:=YL) (j:=nnx) Zz Zz Zz rfl rfl Zz Yu (Yi hX6) hB Zi (fun cur1 hB1=>⟨(⟨hle6,Zx⟩),?_⟩))
         refine Ya Zz Zz ?_
         refine PoS.hard0 Zj (YU T (pre:=[_,_,_,_,_]) Zz Zz Zz rfl Zz Zz Zz ?_)
         refine Po.done ?_
         refine zW ?_;intros
         exact midN ⟨b6,y6,_,[_],rfl,hle6,rfl,hB1.grow.of (by rw [set1 hGx.len,List.append_assoc]) rfl,hb6,hy6⟩ Zw Zb
        ·refine PoS.hard0 Zj (YU T (pre:=[_,_,_,_,_]) Zz Zz Zz rfl Zz Zz Zz ?_)
         refine Ya Zz Zz ?_
         refine PoS.hard0 Zj (YE T (pre:=[_,_,_,_,_,_]) (L:=YL) (j:=nnx) Zz Zz Zz rfl rfl Zz Yu (Yi hX6) hB Zi (fun cur1 hB1=>?_))
         refine Po.done ?_
         refine zW ?_;intros
         exact midN ⟨b6,y6,_,[_],rfl,hle6,rfl,hB1.grow.of (by rw [set1 hGx.len,List.append_assoc]) rfl,hb6,hy6⟩ Zw Zb
       ·refine PoS.hard0 Zj (YU T (pre:=[_,_,_,_,_]) Zz Zz Zz rfl Zz Zz Zz ?_)
        refine Ya Zz Zz ?_
        refine PoS.hard Zj (DoesQ.does (Yo T Zz Zz Zz Zz Zz rfl Zi Zi ?_))
        refine Ya Zz Zz ?_
        refine PoS.hard0 Zj (YE T (pre:=[_,_,_,_,_,_]) (L:=YL) (j:=nnx) Zz Zz Zz rfl rfl Zz Yu (Yi hX6) hB Zi (fun cur1 hB1=>?_))
        refine Po.done ?_
        refine zW ?_;intros
        exact midN ⟨b6,y6,_,[_],rfl,hle6,rfl,hB1.grow.of (by rw [set1 hGx.len,List.append_assoc]) rfl,hb6,hy6⟩ Zw Zb
      ·refine Yd (Yc T (cs:=Ya8) Zz Zz Zz Zz Zz Zz Zz Zz (fun gz=>⟨(⟨(Le.refl _),Zx⟩),?_⟩))
       refine Ya Zz Zz ?_
       refine Yd (Does.perm (@List.perm_middle _ _ [_,_] _).symm (Yl [_] _ Zz Zz Zz (YgT hRx (hs.acts x hxm)) (fun v6 fz6 H6 hle6 hR6=>?_)))
       obtain ⟨_,b6,y6,rfl,⟨cs6,rfl,hr6⟩,hb6,hy6⟩:=hR6
       obtain ⟨vk6,rfl,hX6⟩:=YG hr6
       refine ⟨(⟨hle6,Zx⟩),?_⟩
       refine Ya Zz Zz ?_
       refine Yd (YK T (Hr:=[_,_,_,_,_,_]) Zz Zz Zz Zz Zz Zz Zz Zz (Zr _) (hGx.mono hle6) Yu (.tail _ (.head _)) Wh (by show _*72≤_;omega) Zi (fun v' Hs' hO'=>⟨(⟨hle6,Zx⟩),?_⟩))
       obtain ⟨gk,cap,cur,rfl,rfl,hB⟩:=hO'.b Zi
       refine Ys Zz Zz Zz ?_ ?_
       ·refine PoS.qk (⟨hle6,Zx⟩) (Yo T Zz Zz Zz Zz Zz rfl Zi Zi ?_)
        refine Ys Zz Zz Zz ?_ ?_
        ·refine PoS.soft0 (YE T (pre:=[_,_,_,_,_,_]) (L:=YL) (j:=nnx) Zz Zz Zz rfl rfl Zz Yu (Yi hX6) hB Zi (fun cur1 hB1=>⟨(⟨hle6,Zx⟩),?_⟩))
         refine Ya Zz Zz ?_
         refine PoS.hard0 Zj (YU T (pre:=[_,_,_,_,_]) Zz Zz Zz rfl Zz Zz Zz ?_)
         refine Po.done ?_
         refine zW ?_;intros
         exact midN ⟨b6,y6,_,[_],rfl,hle6,rfl,hB1.grow.of (by rw [set1 hGx.len,List.append_assoc]) rfl,hb6,hy6⟩ Zw Zb
        ·refine PoS.hard0 Zj (YU T (pre:=[_,_,_,_,_]) Zz Zz Zz rfl Zz Zz Zz ?_)
         refine Ya Zz Zz ?_
         refine PoS.hard0 Zj (YE T (pre:=[_,_,_,_,_,_]) (L:=YL) (j:=nnx) Zz Zz Zz rfl rfl Zz Yu (Yi hX6) hB Zi (fun cur1 hB1=>?_))
         refine Po.done ?_
         refine zW ?_;intros
         exact midN ⟨b6,y6,_,[_],rfl,hle6,rfl,hB1.grow.of (by rw [set1 hGx.len,List.append_assoc]) rfl,hb6,hy6⟩ Zw Zb
       ·refine PoS.hard0 Zj (YU T (pre:=[_,_,_,_,_]) Zz Zz Zz rfl Zz Zz Zz ?_)
        refine Ya Zz Zz ?_
        refine PoS.hard Zj (DoesQ.does (Yo T Zz Zz Zz Zz Zz rfl Zi Zi ?_))
        refine Ya Zz Zz ?_
        refine PoS.hard0 Zj (YE T (pre:=[_,_,_,_,_,_]) (L:=YL) (j:=nnx) Zz Zz Zz rfl rfl Zz Yu (Yi hX6) hB Zi (fun cur1 hB1=>?_))
        refine Po.done ?_
        refine zW ?_;intros
        exact midN ⟨b6,y6,_,[_],rfl,hle6,rfl,hB1.grow.of (by rw [set1 hGx.len,List.append_assoc]) rfl,hb6,hy6⟩ Zw Zb
     ·rintro σ fz' H' ⟨b6,y6,v6,Hs6,rfl,hle6,rfl,hG6,hb6,hy6⟩
      refine zW ?_;intros
      refine YA ⟨k2+1,b6,v6,nnx+1,Hs6,usx++ [y6],by omega,rfl,rfl,hlex.trans hle6,rfl,hG6,by omega,?_,fun h0=>?_⟩ Zi Zw Zb
      ·rw [hb6,hbx]
       exact ⟨fun h0=>⟨h0.1.1,YO h0.1.2 hx h0.2⟩,fun h0=>⟨⟨h0.1,fun i hi=>h0.2 i Zi⟩,h0.2 k2 Zi x hx⟩⟩
      ·rw [husx (hb6.1 h0).1,hy6 h0,List.take_add_one,hx];simp
    ·have hknx:n5=k2:=by omega
     subst hknx
     rw [show d.actions.take n5=d.actions from Zl Zi] at husx
     have hbxx:bbx=false↔b2=false∧∀ x∈d.actions,Ykx x:=by rw [hbx];exact ⟨fun h0=>⟨h0.1,Xf h0.2 Zi⟩,fun h0=>⟨h0.1,fun i _ x hx=>h0.2 x (Zm hx)⟩⟩
     refine zW ?_;intros
     refine Yk (fun q σ fz' H'=>∃ (k7:Nat) (bb:Bool) (v:Value) (nn:Nat) (Hs:HP) (us:List Sexpr),k7≤n6∧q=n6 - k7∧σ=[(117,.int .i64 k7),(116,.int .i64 n6),(115,.slice A6 n6 c6),(5,.pointer (some ⟨g5,0,none⟩)),(4,.pointer (some ⟨g,0,none⟩)),(2,.pointer (some ⟨g2,0,none⟩)),(1,.pointer (some ⟨g1,0,none⟩))]∧Le fzx fz'∧H'=(g,wrO bb)::(g1,.cells #[.string d.name,.slice A1 n1 c1,.slice A2 n2 c2,.slice A3 n3 c3,.slice A4 n4 c4,.slice A5 n5 c5,.slice A6 n6 c6] 46 (0,0))::(g2,.cells #[.int .i64 0,.int .i64 0,.int .i64 0,.int .i64 0,.string ⟨#[]⟩,.slice none 0 0] 74 (0,0))::(g5,lsO v)::Hs∧Grow YL 74 fz' v nn Hs ((l_6++usx)++us)∧nn≤nnx+k7∧(bb=false↔bbx=false∧∀ i,i<k7→∀ x,d.duratives[i]?=some x→Ykq x)∧(bb=false→us=(d.duratives.take k7).map durX)) ⟨0,bbx,_,_,Hsx,[],Z0 _,rfl,rfl,Le.refl _,rfl,by rw [List.append_nil];exact hGx,by omega,⟨fun h=>⟨h,fun i hi=>absurd hi Zi⟩,fun h=>h.1⟩,by simp⟩ Zw Zb ?_
     rintro q σ fzy H' ⟨k7,bby,vy,nny,Hsy,usy,hky,rfl,rfl,hley,rfl,hGy,hnny,hby,husy⟩
     obtain ⟨Avy,cvy,rfl,_,_⟩:=hGy.form
     have imy:=i6.mono ((hle_6.trans hlex).trans hley)
     refine zW ?_;intros
     refine zC (fun ecy=>?_) (fun ecy=>?_)
     ·obtain ⟨x,hx⟩:=Yg (l:=d.duratives) (k:=k7) Zi
      have hxm:=Zm hx
      refine zWO ?_;intros
      refine Yp ?_
      refine Wp.cond_true Zz ?_
      refine Ya3 ?_
      refine Yck ?_
      refine Yp (Wp.mid (fun σ fz' H'=>∃ (b6:Bool) (y6:Sexpr) (v:Value) (Hs:HP),σ=[(117,.int .i64 k7),(116,.int .i64 n6),(115,.slice A6 n6 c6),(5,.pointer (some ⟨g5,0,none⟩)),(4,.pointer (some ⟨g,0,none⟩)),(2,.pointer (some ⟨g2,0,none⟩)),(1,.pointer (some ⟨g1,0,none⟩))]∧Le fzy fz'∧H'=(g,wrO b6)::(g1,.cells #[.string d.name,.slice A1 n1 c1,.slice A2 n2 c2,.slice A3 n3 c3,.slice A4 n4 c4,.slice A5 n5 c5,.slice A6 n6 c6] 46 (0,0))::(g2,.cells #[.int .i64 0,.int .i64 0,.int .i64 0,.int .i64 0,.string ⟨#[]⟩,.slice none 0 0] 74 (0,0))::(g5,lsO v)::Hs∧Grow YL 74 fz' v (nny+1) Hs ((l_6++usx)++(usy++ [y6]))∧(b6=false↔bby=false∧Ykq x)∧(b6=false→y6=durX x)) ?_ ?_)
      ·refine zW ?_;intros
       refine zI imy hx (fun p hp=>?_)
       refine zL hp ?_
       intro cs hcs
       obtain ⟨u0,u1,u2,u3,u4,u5,u6,u7,u8,u9,u10,u11,u12,u13,u14,rfl,hRx⟩:=XE hcs
       obtain ⟨U0,w0,z0,rfl,_⟩:=hRx.params
       obtain ⟨U1,w1,z1,rfl,_⟩:=hRx.start.args
       obtain ⟨U2,w2,z2,rfl,_⟩:=hRx.start.params
       obtain ⟨U3,w3,z3,rfl,_⟩:=hRx.start.exprs
       obtain ⟨U4,w4,z4,rfl,_⟩:=hRx.start.kids
       obtain ⟨U5,w5,z5,rfl,_⟩:=hRx.over.args
       obtain ⟨U6,w6,z6,rfl,_⟩:=hRx.over.params
       obtain ⟨U7,w7,z7,rfl,_⟩:=hRx.over.exprs
       obtain ⟨U8,w8,z8,rfl,_⟩:=hRx.over.kids
       obtain ⟨U9,w9,z9,rfl,_⟩:=hRx.fin.args
       obtain ⟨U10,w10,z10,rfl,_⟩:=hRx.fin.params
       obtain ⟨U11,w11,z11,rfl,_⟩:=hRx.fin.exprs
       obtain ⟨U12,w12,z12,rfl,_⟩:=hRx.fin.kids
       obtain ⟨U13,w13,z13,rfl,_⟩:=hRx.atStart
       obtain ⟨U14,w14,z14,rfl,_⟩:=hRx.atEnd
       refine zW ?_;intros
       rename_i g14
       refine Wp.drawP [] (Hq:=[(g14,_),(g5,_)]) T.mixed Zj Zj Zb ?_
       refine zW ?_;intros
       refine Yf ?_
       refine zW ?_;intros
       refine Yf ?_
       refine Yf ?_
       refine Yf ?_
       refine Yf ?_
       refine zW ?_;intros
       refine Yf ?_
       refine PK.done ⟨by kernel_rfl,?_⟩
       refine Ys Zz Zz Zz ?_ ?_
       ·refine Yd (Does.perm (List.Perm.swap _ _ _) (Yl [_] _ Zz Zz Zz (Yed hRx (hs.durs x hxm)) (fun v6 fz6 H6 hle6 hR6=>?_)))
        obtain ⟨_,b6,y6,rfl,⟨cs6,rfl,hr6⟩,hb6,hy6⟩:=hR6
        obtain ⟨vk6,rfl,hX6⟩:=YG hr6
        refine ⟨(⟨hle6,Zx⟩),?_⟩
        refine Ya Zz Zz ?_
        refine Yd (Yc T (cs:=Ya8) Zz Zz Zz Zz Zz Zz Zz Zz (fun gz=>⟨(⟨hle6,Zx⟩),?_⟩))
        refine Ya Zz Zz ?_
        refine Yd (YK T (Hr:=[_,_,_,_,_,_]) Zz Zz Zz Zz Zz Zz Zz Zz (Zr _) (hGy.mono hle6) Yu (.head _) Wh (by show _*72≤_;omega) Zi (fun v' Hs' hO'=>⟨(⟨hle6,Zx⟩),?_⟩))
        obtain ⟨gk,cap,cur,rfl,rfl,hB⟩:=hO'.b Zi
        refine Ys Zz Zz Zz ?_ ?_
        ·refine PoS.qk (⟨hle6,Zx⟩) (Yo T Zz Zz Zz Zz Zz rfl Zi Zi ?_)
         refine Ys Zz Zz Zz ?_ ?_
         ·refine PoS.soft0 (YE T (pre:=[_,_,_,_,_,_]) (L:=YL) (j:=nny) Zz Zz Zz rfl rfl Zz Yu (Yi hX6) hB Zi (fun cur1 hB1=>⟨(⟨hle6,Zx⟩),?_⟩))
          refine Ya Zz Zz ?_
          refine PoS.hard0 Zj (YU T (pre:=[_,_,_,_,_]) Zz Zz Zz rfl Zz Zz Zz ?_)
          refine Po.done ?_
          refine zW ?_;intros
          exact midN ⟨b6,y6,_,[_],rfl,hle6,rfl,hB1.grow.of (by rw [set1 hGy.len,List.append_assoc]) rfl,hb6,hy6⟩ Zw Zb
         ·refine PoS.hard0 Zj (YU T (pre:=[_,_,_,_,_]) Zz Zz Zz rfl Zz Zz Zz ?_)
          refine Ya Zz Zz ?_
          refine PoS.hard0 Zj (YE T (pre:=[_,_,_,_,_,_]) (L:=YL) (j:=nny) Zz Zz Zz rfl rfl Zz Yu (Yi hX6) hB Zi (fun cur1 hB1=>?_))
          refine Po.done ?_
          refine zW ?_;intros
          exact midN ⟨b6,y6,_,[_],rfl,hle6,rfl,hB1.grow.of (by rw [set1 hGy.len,List.append_assoc]) rfl,hb6,hy6⟩ Zw Zb
        ·refine PoS.hard0 Zj (YU T (pre:=[_,_,_,_,_]) Zz Zz Zz rfl Zz Zz Zz ?_)
         refine Ya Zz Zz ?_
         refine PoS.hard Zj (DoesQ.does (Yo T Zz Zz Zz Zz Zz rfl Zi Zi ?_))
         refine Ya Zz Zz ?_
         refine PoS.hard0 Zj (YE T (pre:=[_,_,_,_,_,_]) (L:=YL) (j:=nny) Zz Zz Zz rfl rfl Zz Yu (Yi hX6) hB Zi (fun cur1 hB1=>?_))
         refine Po.done ?_
         refine zW ?_;intros
         exact midN ⟨b6,y6,_,[_],rfl,hle6,rfl,hB1.grow.of (by rw [set1 hGy.len,List.append_assoc]) rfl,hb6,hy6⟩ Zw Zb
       ·refine Yd (Yc T (cs:=Ya8) Zz Zz Zz Zz Zz Zz Zz Zz (fun gz=>⟨(⟨(Le.refl _),Zx⟩),?_⟩))
        refine Ya Zz Zz ?_
        refine Yd (Does.perm (@List.perm_middle _ _ [_,_] _).symm (Yl [_] _ Zz Zz Zz (Yed hRx (hs.durs x hxm)) (fun v6 fz6 H6 hle6 hR6=>?_)))
        obtain ⟨_,b6,y6,rfl,⟨cs6,rfl,hr6⟩,hb6,hy6⟩:=hR6
        obtain ⟨vk6,rfl,hX6⟩:=YG hr6
        refine ⟨(⟨hle6,Zx⟩),?_⟩
        refine Ya Zz Zz ?_
        refine Yd (YK T (Hr:=[_,_,_,_,_,_]) Zz Zz Zz Zz Zz Zz Zz Zz (Zr _) (hGy.mono hle6) Yu (.tail _ (.head _)) Wh (by show _*72≤_;omega) Zi (fun v' Hs' hO'=>⟨(⟨hle6,Zx⟩),?_⟩))
        obtain ⟨gk,cap,cur,rfl,rfl,hB⟩:=hO'.b Zi
        refine Ys Zz Zz Zz ?_ ?_
        ·refine PoS.qk (⟨hle6,Zx⟩) (Yo T Zz Zz Zz Zz Zz rfl Zi Zi ?_)
         refine Ys Zz Zz Zz ?_ ?_
         ·refine PoS.soft0 (YE T (pre:=[_,_,_,_,_,_]) (L:=YL) (j:=nny) Zz Zz Zz rfl rfl Zz Yu (Yi hX6) hB Zi (fun cur1 hB1=>⟨(⟨hle6,Zx⟩),?_⟩))
          refine Ya Zz Zz ?_
          refine PoS.hard0 Zj (YU T (pre:=[_,_,_,_,_]) Zz Zz Zz rfl Zz Zz Zz ?_)
          refine Po.done ?_
          refine zW ?_;intros
          exact midN ⟨b6,y6,_,[_],rfl,hle6,rfl,hB1.grow.of (by rw [set1 hGy.len,List.append_assoc]) rfl,hb6,hy6⟩ Zw Zb
         ·refine PoS.hard0 Zj (YU T (pre:=[_,_,_,_,_]) Zz Zz Zz rfl Zz Zz Zz ?_)
          refine Ya Zz Zz ?_
          refine PoS.hard0 Zj (YE T (pre:=[_,_,_,_,_,_]) (L:=YL) (j:=nny) Zz Zz Zz rfl rfl Zz Yu (Yi hX6) hB Zi (fun cur1 hB1=>?_))
          refine Po.done ?_
          refine zW ?_;intros
          exact midN ⟨b6,y6,_,[_],rfl,hle6,rfl,hB1.grow.of (by rw [set1 hGy.len,List.append_assoc]) rfl,hb6,hy6⟩ Zw Zb
        ·refine PoS.hard0 Zj (YU T (pre:=[_,_,_,_,_]) Zz Zz Zz rfl Zz Zz Zz ?_)
         refine Ya Zz Zz ?_
         refine PoS.hard Zj (DoesQ.does (Yo T Zz Zz Zz Zz Zz rfl Zi Zi ?_))
         refine Ya Zz Zz ?_
         refine PoS.hard0 Zj (YE T (pre:=[_,_,_,_,_,_]) (L:=YL) (j:=nny) Zz Zz Zz rfl rfl Zz Yu (Yi hX6) hB Zi (fun cur1 hB1=>?_))
         refine Po.done ?_
         refine zW ?_;intros
         exact midN ⟨b6,y6,_,[_],rfl,hle6,rfl,hB1.grow.of (by rw [set1 hGy.len,List.append_assoc]) rfl,hb6,hy6⟩ Zw Zb
      ·rintro σ fz' H' ⟨b6,y6,v6,Hs6,rfl,hle6,rfl,hG6,hb6,hy6⟩
       refine zW ?_;intros
       refine YA ⟨k7+1,b6,v6,nny+1,Hs6,usy++ [y6],by omega,rfl,rfl,hley.trans hle6,rfl,hG6,by omega,?_,fun h0=>?_⟩ Zi Zw Zb
       ·rw [hb6,hby]
        exact ⟨fun h0=>⟨h0.1.1,YO h0.1.2 hx h0.2⟩,fun h0=>⟨⟨h0.1,fun i hi=>h0.2 i Zi⟩,h0.2 k7 Zi x hx⟩⟩
       ·rw [husy (hb6.1 h0).1,hy6 h0,List.take_add_one,hx];simp
     ·have hkny:n6=k7:=by omega
      subst hkny
      rw [show d.duratives.take n6=d.duratives from Zl Zi] at husy
      have hbxy:bby=false↔bbx=false∧∀ x∈d.duratives,Ykq x:=by rw [hby];exact ⟨fun h0=>⟨h0.1,Xf h0.2 Zi⟩,fun h0=>⟨h0.1,fun i _ x hx=>h0.2 x (Zm hx)⟩⟩
      refine Seq.freezeAll (H1:=[(g,_),(g1,_),(g2,_),(g5,_)]) (H2:=Hsy) (Zr _) (fun fzr hlr hfr=>?_)
      obtain ⟨A2w,c2w,he5,hsl⟩:=hGy.sl hlr hfr Zi
      injection he5 with x1 x2 x3
      subst x1 x3
      have hX:=XR hsl
      have hOk:bby=false↔DomOk d:=by rw [hbxy,hbxx,hb_6];unfold DomOk;simp only [and_assoc]
      have hEq:bby=false→YH ((l_6++usx)++usy)=domX d:=fun h0=>by rw [domX,hys_6 (hbxx.1 (hbxy.1 h0).1).1,husx (hbxy.1 h0).1,husy h0]
      unfold lsO wrO
      cases bby
      ·refine zW ?_;intros
       refine zb (YdV (x:=YH ((l_6++usx)++usy)) hX) (fun f1=>?_) (fun f1=>?_)
       ·have hP:DomOk d∧XVal (domX d):=⟨hOk.1 rfl,by rw [← hEq rfl];exact Zt f1⟩
        refine zW ?_;intros
        refine Yem T (vs:=[.agg #[_,_,_,_,_,_],.nilIface]) Zz ⟨⟨_,_,2,_,_,_,rfl,rfl,rfl,rfl,rfl,rfl⟩,rfl,trivial⟩ (fun fz3 hle3 hf3=>?_)
        exact ⟨rfl,_,_,by rw [if_pos hP];rfl,SxIs.mono hle3 ⟨_,rfl,Yi hX⟩,fun _=>hEq rfl⟩
       ·have hP:¬(DomOk d∧XVal (domX d)):=fun h0=>Zf f1 (by rw [hEq rfl];exact h0.2)
        refine zW ?_;intros
        refine Yem T (vs:=[.agg #[_,_,_,_,_,_],_]) Zz ⟨⟨_,_,2,_,_,_,rfl,rfl,rfl,rfl,rfl,rfl⟩,rfl,trivial⟩ (fun fz3 hle3 hf3=>?_)
        exact ⟨rfl,_,_,by rw [if_neg hP,YF Zh];rfl,Ybo,fun h0=>absurd h0 hP⟩
      ·have hP:¬(DomOk d∧XVal (domX d)):=fun h0=>by simpa using hOk.2 h0.1
       refine zW ?_;intros
       refine Yem T (vs:=[.agg #[_,_,_,_,_,_],_]) Zz ⟨⟨_,_,2,_,_,_,rfl,rfl,rfl,rfl,rfl,rfl⟩,rfl,trivial⟩ (fun fz3 hle3 hf3=>?_)
       exact ⟨rfl,_,_,by rw [if_neg hP,YF Zh];rfl,Ybo,fun h0=>absurd h0 hP⟩
theorem right1_q {s:Bs} (hs:Short s):QFn prog 144 [.string s] fz (.bool (decide (¬Xk s))):=by
 refine GFn.quiet ?_
 refine zF Tryz.func144 Tryz.ntmps144 (fun w0=>?_)
 refine zW ?_;intros
 refine zb (Yah hs) (fun f1=>?_) (fun f1=>?_)
 ·refine zW ?_;intros
  exact ret1 rfl rfl Zb (Ym (fun h0=>h0 (Zt f1)))
 ·refine zW ?_;intros
  exact ret1 rfl rfl Zb (YC (Zf f1))
variable {va:Value}
theorem Yld {a:Atom} (h:AtomR fz a va):QFn prog 88 [.agg #[.string a.name,va]] fz (.bool (decide (GrdA a))):=by
 obtain ⟨A,n,c,rfl,ia⟩:=h.args
 refine GFn.quiet ?_
 refine zF Tryz.func88 Tryz.ntmps88 (fun w0=>?_)
 refine Yp (Yq (Yb Zz (Y3 _ Zz Zz (fun g0=>?_))))
 refine zW ?_;intros
 refine zb (Yah h.name) (fun f1=>?_) (fun f1=>?_)
 ·refine zW ?_;intros
  ((refine zG ?_);refine XY Zz Zz (YbE ia (fun x hx=>right1_q hx)) (fun f2=>?_) (fun f2=>?_))
  ·refine zW ?_;intros
   (exact ret1 rfl rfl Zb (Ym (fun h0=>by
    obtain ⟨x,hx,hx2⟩:=Zt f2
    exact hx2 (h0.2 x hx))))
  ·refine zW ?_;intros
   exact ret1 rfl rfl Zb (YC ⟨Zt f1,fun x hx=>Classical.byContradiction fun h0=>Zf f2 ⟨x,hx,h0⟩⟩)
 ·refine zW ?_;intros
  exact ret1 rfl rfl Zb (Ym (fun h0=>Zf f1 h0.1))
set_option maxHeartbeats 1000000 in
theorem Yea {a:Atom} (h:AtomR fz a va) (hn:a.args.length≤1000000000):
 GFn prog 45 [.agg #[.string a.name,va]] fz [] (fun v fz' H'=>H'=[]∧SxIs fz' v (XT a.name a.args)):=by
 obtain ⟨A,n,c,rfl,h1⟩:=h.args
 have l1:=h1.len
 refine zF Tryz.func45 Tryz.ntmps45 (fun w0=>?_)
 refine Yp (Yq (Yb Zz (Y3 _ Zz Zz (fun g0=>?_))))
 refine zW ?_;intros
 rename_i g4
 refine zc (Wy (s:=a.name)) ?_
 refine Yb Zz (Yc T (cs:=Yr a.name) Zz Zz Zz Zz Zz Zz Zz Zz (fun gb=>?_))
 refine zc XB ?_
 refine zW ?_;intros
 rename_i g5
 refine Wp.perm (Xb [0,2,1,3] rfl rfl) ?_
 refine Yk (fun q σ fz' H'=>∃ (k:Nat) (v:Value) (Hs:HP),k≤n∧q=n - k∧σ=[(14,.int .i64 k),(13,.int .i64 n),(12,.slice A n c),(3,.pointer (some ⟨g5,0,none⟩)),(2,.pointer (some ⟨g4,0,none⟩))]∧fz=fz'∧
  H'=(g5,.cells #[.int .i64 3,.int .i64 0,.int .i64 0,.int .i64 0,.string ⟨#[]⟩,v] 74 (0,0))::(g4,.cells #[.int .i64 0,.int .i64 0,.int .i64 0,.int .i64 0,.string ⟨#[]⟩,.slice none 0 0] 74 (0,0))::Hs∧Grow YL 74 fz' v (k+1) Hs (Yh a.name::(a.args.take k).map Yh))
  ⟨0,_,[_],Z0 _,rfl,rfl,rfl,rfl,Grow.block (ys:=[(Yh a.name,Yr a.name)]) rfl rfl (by simpa using Yv h.name) rfl Zh⟩ Zw Zb ?_
 rintro q σ fz' H' ⟨k,v,Hs,hk,rfl,rfl,rfl,rfl,hO⟩
 refine zW ?_;intros
 refine zC (fun c1=>?_) (fun c1=>?_)
 ·obtain ⟨x,hx⟩:=Yg (l:=a.args) (k:=k) Zi
  obtain ⟨Av,cv,rfl,_,_⟩:=hO.form
  refine zW ?_;intros
  refine zI h1 hx (fun p hp=>?_)
  refine zH hp (fun ix=>?_)
  refine zW ?_;intros
  refine Wp.drawK (Hq:=[_,_]) T.mixed Zj Zj Zb ?_
  refine zW ?_;intros
  refine zc (Wy (s:=x)) ?_
  unfold sxV
  refine Ye ?_
  refine Ye ?_
  refine zW ?_;intros
  refine Ye ?_
  refine YD ⟨by kernel_rfl,?_⟩
  refine Yj (Yc T (cs:=Yr x) Zz Zz Zz Zz Zz Zz Zz Zz (fun gb=>⟨(⟨Le.refl _,Zx⟩),?_⟩))
  refine Yj (YK T (Hr:=[_,_,_]) (d:=Yh x) Zz Zz Zz Zz Zz Zz Zz Zz (Zr _) hO Yu (.head _) (Yv ix) (by show _*72≤_;omega) Zi (fun v' Hs' hO'=>⟨(⟨Le.refl _,Zx⟩),?_⟩))
  obtain ⟨Av',cv',rfl,_,_⟩:=hO'.form
  refine Ch.hard0 Zj (YZ T Zz Zz Zz Zz Zz Zz ?_)
  refine Ch.done ?_
  refine zW ?_;intros
  exact YA ⟨k+1,_,Hs',by omega,rfl,rfl,rfl,rfl,hO'.of (by rw [List.take_add_one,hx];simp) rfl⟩ Zi Zw Zb
 ·have hk1:k=n:=by omega
  subst hk1
  obtain ⟨Av,cv,rfl,_,_⟩:=hO.form
  rw [Zl Zi] at hO
  refine zW ?_;intros
  refine Y1 T (i:=1) rfl Zz Zz Zz Zz Zz (fun fz3 hle3 hf3=>⟨rfl,?_⟩)
  obtain ⟨A',c',he,hsl⟩:=hO.sl hle3 (fun p hp=>hf3 p (by simp [hp])) Zi
  injection he with he1 he2 he3
  subst he1 he3
  exact Wu hsl
variable {A:Option Addr} {c n:Nat}
theorem YlV {l:List Atom} {ff:FuncId} {p:Atom→Prop} [DecidablePred p] (h1:Sl atomL fz A n c l) (hq:∀ x va,AtomR fz x va→QFn prog ff [.agg #[.string x.name,va]] fz (.bool (decide (p x)))):
 QFn prog 145 [.slice A n c,.func (.func ff) #[] #[]] fz (.int .i64 (WZ p l 0)):=by
 refine GFn.quiet ?_
 refine zF Tryz.func145 Tryz.ntmps145 (fun w0=>?_)
 have l1:=h1.len
 have hm:=h1.short
 refine zW ?_;intros
 refine Yk (fun q σ fz' H'=>∃ k:Nat,k≤n∧q=n - k∧σ=[(8,.int .i64 k),(7,.int .i64 n),(0,.slice A n c),(1,.func (.func ff) #[] #[])]∧fz=fz'∧H'=[]∧(∀ i,i<k→∀ x,l[i]?=some x→¬p x)) ⟨0,Z0 _,rfl,rfl,rfl,rfl,(fun i hi=>absurd hi Zi)⟩ Zw Zb ?_;rintro q σ fz' H' ⟨k,hk,rfl,rfl,rfl,rfl,hh⟩
 refine zW ?_;intros
 refine zC (fun hlt=>?_) (fun hge=>?_)
 ·refine zW ?_;intros
  obtain ⟨x,hx⟩:=Yg (l:=l) (k:=k) Zi
  refine zI h1 hx (fun a ha=>?_)
  refine zL ha ?_
  intro cs hcs
  obtain ⟨va,rfl,hR⟩:=WF hcs
  refine zW ?_;intros
  ((refine zG ?_);refine Wt Zz Zz Zz (hq x va hR) (fun c1=>?_) (fun c1=>?_))
  ·refine zW ?_;intros
   exact zR (h:=by rw [Wo hh hx c1,Int.zero_add])
  ·refine zW ?_;intros
   exact YA ⟨k+1,by omega,rfl,rfl,rfl,rfl,(YO hh hx c1)⟩ Zi Zw Zb
 ·refine zW ?_;intros
  exact zR (h:=by rw [XS (Xf hh Zi)])
theorem YhV {l:List Atom} {ff:FuncId} {p:Atom→Prop} [DecidablePred p] (h1:Sl atomL fz A n c l) (hq:∀ x va,AtomR fz x va→QFn prog ff [.agg #[.string x.name,va]] fz (.bool (decide (p x)))):
 QFn prog 89 [.slice A n c,.func (.func ff) #[] #[]] fz (.bool (decide (∃ x∈l,p x))):=by
 refine GFn.quiet ?_
 refine zF Tryz.func89 Tryz.ntmps89 (fun w0=>?_)
 refine zW ?_;intros
 refine zc (YlV h1 hq) ?_
 refine zC (fun c1=>?_) (fun c1=>?_)
 ·refine zW ?_;intros
  exact ret1 rfl rfl Zb (YC ((Xj (Int.le_refl 0)).1 c1))
 ·refine zW ?_;intros
  exact ret1 rfl rfl Zb (Ym (fun h=>c1 ((Xj (Int.le_refl 0)).2 h)))
theorem expr1_q {a:Atom} (h:AtomR fz a va):QFn prog 90 [.agg #[.string a.name,va]] fz (.bool (decide (¬GrdA a))):=by
 have h0:=h
 obtain ⟨A,n,c,rfl,ia⟩:=h.args
 refine GFn.quiet ?_
 refine zF Tryz.func90 Tryz.ntmps90 (fun w0=>?_)
 refine Yp (Yq (Yb Zz (Y3 _ Zz Zz (fun g0=>?_))))
 refine zW ?_;intros
 refine zb (Yld h0) (fun f1=>?_) (fun f1=>?_)
 ·refine zW ?_;intros
  exact ret1 rfl rfl Zb (Ym (fun h0=>h0 (Zt f1)))
 ·refine zW ?_;intros
  exact ret1 rfl rfl Zb (YC (Zf f1))
def ValOk (v:Value_):Prop:=GrdA v.fluent∧Yc0 v.n
def PrbOk (p:Problem):Prop:=Xk p.name∧Xk p.domain∧(∀ o∈p.objects,Wb false o)∧(∀ v∈p.values,ValOk v)∧∀ a∈p.init,GrdA a
variable {p:Problem} {v7:Value}
set_option maxHeartbeats 2000000 in
theorem Ygw (h:ProblemR fz p v1 v2 v3 v4 v5 v6 v7):
 QFn prog 41 [.agg #[.string p.name,.string p.domain,v1,v2,v3,.string p.goal.op,.string p.goal.name,v4,v5,v6,v7]] fz (.bool (decide (PrbOk p))):=by
 obtain ⟨A1,n1,b1,rfl,io⟩:=h.objects
 obtain ⟨A2,n2,b2,rfl,ii⟩:=h.init
 obtain ⟨A3,n3,b3,rfl,iv⟩:=h.values
 obtain ⟨A4,n4,b4,rfl,_⟩:=h.goal.args
 obtain ⟨A5,n5,b5,rfl,_⟩:=h.goal.params
 obtain ⟨A6,n6,b6,rfl,_⟩:=h.goal.exprs
 obtain ⟨A7,n7,b7,rfl,_⟩:=h.goal.kids
 have lo:=io.len
 have lv:=iv.len
 have so:=io.short
 have sv:=iv.short
 refine GFn.quiet ?_
 refine zF Tryz.func41 Tryz.ntmps41 (fun w0=>?_)
 refine Yp (Yq (Yb Zz (Y3 _ Zz Zz (fun g0=>?_))))
 refine zW ?_;intros
 refine zb (Yah h.name) (fun f1=>?_) (fun f1=>?_)
 ·refine zW ?_;intros
  refine zb (Yah h.domain) (fun f2=>?_) (fun f2=>?_)
  ·refine zW ?_;intros
   refine Yk (fun q σ fz' H'=>∃ k:Nat,k≤n1∧q=n1 - k∧σ=[(20,.int .i64 k),(19,.int .i64 n1),(18,.slice A1 n1 b1),(1,.pointer (some ⟨g0,0,none⟩))]∧fz=fz'∧H'=[(g0,.cells #[.string p.name,.string p.domain,.slice A1 n1 b1,.slice A2 n2 b2,.slice A3 n3 b3,.string p.goal.op,.string p.goal.name,.slice A4 n4 b4,.slice A5 n5 b5,.slice A6 n6 b6,.slice A7 n7 b7] 52 (0,0))]∧(∀ i,i<k→∀ x,p.objects[i]?=some x→Wb false x)) ⟨0,Z0 _,rfl,rfl,rfl,rfl,fun i hi=>absurd hi Zi⟩ Zw Zb ?_
   rintro q σ fz' H' ⟨k,hk,rfl,rfl,rfl,rfl,hh⟩
   refine zW ?_;intros
   refine zC (fun c1=>?_) (fun c1=>?_)
   ·obtain ⟨x,hx⟩:=Yg (l:=p.objects) (k:=k) Zi
    have bad:¬Wb false x→¬PrbOk p:=fun h0 h=>h0 (h.2.2.1 x (Zm hx))
    refine zW ?_;intros
    refine zI io hx (fun a ha=>?_)
    refine zL ha ?_
    intro cs hcs
    obtain ⟨rfl,hR⟩:=YT hcs
    refine zW ?_;intros
    refine zb (Yah hR.name) (fun f3=>?_) (fun f3=>?_)
    ·refine zW ?_;intros
     refine zb (Yah hR.typ) (fun f4=>?_) (fun f4=>?_)
     ·refine zW ?_;intros
      exact YA ⟨k+1,by omega,rfl,rfl,rfl,rfl,YO hh hx ⟨Zt f3,.inl (Zt f4)⟩⟩ Zi Zw Zb
     ·refine zW ?_;intros
      refine zC (fun e1=>?_) (fun e1=>?_)
      ·refine zW ?_;intros
       exact ret1 rfl rfl Zb (Ym (bad (fun h0=>h0.2.elim (Zf f4) e1)))
      ·refine zW ?_;intros
       exact YA ⟨k+1,by omega,rfl,rfl,rfl,rfl,YO hh hx ⟨Zt f3,.inr e1⟩⟩ Zi Zw Zb
    ·refine zW ?_;intros
     exact ret1 rfl rfl Zb (Ym (bad (fun h0=>Zf f3 h0.1)))
   ·have hO:=Xf hh Zi
    refine zW ?_;intros
    refine Yk (fun q σ fz' H'=>∃ k:Nat,k≤n3∧q=n3 - k∧σ=[(43,.int .i64 k),(42,.int .i64 n3),(41,.slice A3 n3 b3),(1,.pointer (some ⟨g0,0,none⟩))]∧fz=fz'∧H'=[(g0,.cells #[.string p.name,.string p.domain,.slice A1 n1 b1,.slice A2 n2 b2,.slice A3 n3 b3,.string p.goal.op,.string p.goal.name,.slice A4 n4 b4,.slice A5 n5 b5,.slice A6 n6 b6,.slice A7 n7 b7] 52 (0,0))]∧(∀ i,i<k→∀ x,p.values[i]?=some x→ValOk x)) ⟨0,Z0 _,rfl,rfl,rfl,rfl,fun i hi=>absurd hi Zi⟩ Zw Zb ?_
    rintro q σ fz' H' ⟨k2,hk2,rfl,rfl,rfl,rfl,hh2⟩
    refine zW ?_;intros
    refine zC (fun c2=>?_) (fun c2=>?_)
    ·obtain ⟨x,hx⟩:=Yg (l:=p.values) (k:=k2) Zi
     have bad:¬ValOk x→¬PrbOk p:=fun h0 h=>h0 (h.2.2.2.1 x (Zm hx))
     refine zW ?_;intros
     refine zI iv hx (fun a ha=>?_)
     refine zL ha ?_
     intro cs hcs
     obtain ⟨w1,rfl,hR⟩:=Ycj hcs
     have hA:=hR.fluent
     obtain ⟨U,w,z,rfl,_⟩:=hR.fluent.args
     refine zW ?_;intros
     ((refine zG ?_);refine Yn (vs:=[.string x.fluent.name,.slice U w z]) T 0 Zz Zz Zz Zz Zz Zz ?_)
     refine zb (Yld hA) (fun f3=>?_) (fun f3=>?_)
     ·refine zW ?_;intros
      (((refine zC (fun m1=>?_) (fun m1=>?_));((refine zW ?_;intros);(exact ret1 rfl rfl Zb (Ym (bad (fun h0=>by have:=h0.2.1;omega)))));(refine zW ?_;intros)))
      (((refine zC (fun m2=>?_) (fun m2=>?_));((refine zW ?_;intros);(exact ret1 rfl rfl Zb (Ym (bad (fun h0=>by have:=h0.2.2;omega)))));(refine zW ?_;intros)))
      exact YA ⟨k2+1,by omega,rfl,rfl,rfl,rfl,YO hh2 hx ⟨Zt f3,by omega,by omega⟩⟩ Zi Zw Zb
     ·refine zW ?_;intros
      exact ret1 rfl rfl Zb (Ym (bad (fun h0=>Zf f3 h0.1)))
    ·have hV:=Xf hh2 Zi
     refine zW ?_;intros
     ((refine zG ?_);refine XY Zz Zz (YhV ii (fun x va hx=>expr1_q hx)) (fun f3=>?_) (fun f3=>?_))
     ·refine zW ?_;intros
      (exact ret1 rfl rfl Zb (Ym (fun h0=>by
       obtain ⟨x,hx,hx2⟩:=Zt f3
       exact hx2 (h0.2.2.2.2 x hx))))
     ·refine zW ?_;intros
      exact ret1 rfl rfl Zb (YC ⟨Zt f1,Zt f2,hO,hV,fun x hx=>Classical.byContradiction fun h0=>Zf f3 ⟨x,hx,h0⟩⟩)
  ·refine zW ?_;intros
   exact ret1 rfl rfl Zb (Ym (fun h0=>Zf f2 h0.2.1))
 ·refine zW ?_;intros
  exact ret1 rfl rfl Zb (Ym (fun h0=>Zf f1 h0.1))
end Go.Proofs.YtbnpeechpebmeaaGreatDoor
namespace Go.Proofs.YtbnpeechpebmeaaGreatDoor
open Go.Lx Go.RowKit
attribute [local instance 10] Classical.propDecidable
theorem YiA {kw:Bs} {ks:List Sexpr} (h:ks≠ []):grp kw ks=[YH (Yh kw::ks)]:=if_neg h
theorem YlZ {kw:Bs}:grp kw []=[]:=if_pos rfl
end Go.Proofs.YtbnpeechpebmeaaGreatDoor
