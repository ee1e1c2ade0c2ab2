/- The texts PWalkP, RV, laid together. Conditions: none. -/
import Derived.Test.YtfjopfinkdhmaaaGreatDoorRYN
set_option linter.all false
noncomputable section
set_option maxRecDepth 20000
namespace Go.Proofs.YtfjopfinkdhmaaaGreatDoor
open Go.Lx Go.RowKit
attribute [local instance 10] Classical.propDecidable
open Go.Proofs.Tryz (prog)
def YB:Bs:=⟨#[100,101,102,105,110,101]⟩
def Y7:Bs:=⟨#[100,111,109,97,105,110]⟩
def Yaz:Bs:=⟨#[58,116,121,112,101,115]⟩
def XN:Bs:=⟨#[58,99,111,110,115,116,97,110,116,115]⟩
def XE:Bs:=⟨#[58,112,114,101,100,105,99,97,116,101,115]⟩
def XM:Bs:=⟨#[58,102,117,110,99,116,105,111,110,115]⟩
def grp (kw:Bs) (ks:List Sexpr):List Sexpr:=if ks=[] then [] else [YF (Yi kw::ks)]
def WJ (l:List Param):List Sexpr:=(l.flatMap W2).map Yi
def Ygl (p:Predicate):Sexpr:=YF (Yi p.name::WJ p.params)
def funX (f:Function):Sexpr:=YF (Yi f.name::WJ f.params++ [numE f.lo,numE f.hi])
def Yj4 (p:Predicate):Prop:=Y5 p.name∧∀ q∈p.params,Wz true q
def YmE (f:Function):Prop:=Y5 f.name∧∀ q∈f.params,Wz true q
def domX (d:Domain):Sexpr:=YF ([Yi YB,YF [Yi Y7,Yi d.name]]++grp Yaz (WJ d.types)++grp XN (WJ d.constants)++grp XE (d.predicates.map Ygl)++grp XM (d.functions.map funX)++d.actions.map actX++d.duratives.map durX)
def Yck (d:Domain):Prop:=Y5 d.name∧(∀ p∈d.types,Wz false p)∧(∀ p∈d.constants,Wz false p)∧(∀ p∈d.predicates,Yj4 p)∧(∀ f∈d.functions,YmE f)∧(∀ x∈d.actions,YkA x)∧(∀ x∈d.duratives,Yku x)
structure DomSm (d:Domain):Prop where
 types:d.types.length≤1000000000
 constants:d.constants.length≤1000000000
 predicates:d.predicates.length≤1000000000
 predp:∀ p∈d.predicates,p.params.length≤1000000000
 functions:d.functions.length≤1000000000
 funp:∀ f∈d.functions,f.params.length≤1000000000
 actions:d.actions.length≤1000000000
 acts:∀ x∈d.actions,actSm x
 duratives:d.duratives.length≤1000000000
 durs:∀ x∈d.duratives,durSm x
theorem Yhv {l:List Param}:(WJ l).length=3*l.length:=by simp only [WJ,List.length_map,Ycq]
variable {d:Domain} {fz:FZ} {v1 v2 v3 v4 v5 v6:Value}
set_option maxHeartbeats 8000000 in
theorem YgP (h:DomainR fz d v1 v2 v3 v4 v5 v6) (hs:DomSm d):
 GFn prog 26 [.agg #[.string d.name,v1,v2,v3,v4,v5,v6]] fz [] (WrR (Yck d∧XVal (domX d)) (domX d)):=by
 obtain ⟨A1,n1,c1,rfl,i1⟩:=h.types
 obtain ⟨A2,n2,c2,rfl,i2⟩:=h.constants
 obtain ⟨A3,n3,c3,rfl,i3⟩:=h.predicates
 obtain ⟨A4,n4,c4,rfl,i4⟩:=h.functions
 obtain ⟨A5,n5,c5,rfl,i5⟩:=h.actions
 obtain ⟨A6,n6,c6,rfl,i6⟩:=h.duratives
 have k1:=i1.len
 have k2:=i2.len
 have k3:=i3.len
 have k4:=i4.len
 have k5:=i5.len
 have k6:=i6.len
 have m1:=hs.types
 have m2:=hs.constants
 have m3:=hs.predicates
 have m4:=hs.functions
 have m5:=hs.actions
 have m6:=hs.duratives
 refine zF Tryz.func26 Tryz.ntmps26 (fun w0=>?_)
 refine Yk (Yr (Ya Zz (Xc _ Zz Zz (fun g1=>?_))))
 refine zWO ?_;intros
 rename_i g2
 refine Yk (Yr ?_)
 refine zWO ?_;intros
 rename_i g
 refine Yk (Wp.mid (fun σ fz' H'=>∃ (bb:Bool) (g5:Nat) (v:Value) (Hs:HP),σ=[(5,.pointer (some ⟨g5,0,none⟩)),(4,.pointer (some ⟨g,0,none⟩)),(2,.pointer (some ⟨g2,0,none⟩)),(1,.pointer (some ⟨g1,0,none⟩))]∧Le fz fz'∧H'=(g,wrO bb)::(g1,.cells #[.string d.name,.slice A1 n1 c1,.slice A2 n2 c2,.slice A3 n3 c3,.slice A4 n4 c4,.slice A5 n5 c5,.slice A6 n6 c6] 31 (0,0))::(g2,.cells #[.int .i64 0,.int .i64 0,.int .i64 0,.int .i64 0,.string ⟨#[]⟩,.slice none 0 0] 57 (0,0))::(g5,lsO v)::Hs∧Grow Yy 57 fz' v 2 Hs [Yi YB,YF [Yi Y7,Yi d.name]]∧(bb=false↔Y5 d.name)) ?_ ?_)
 ·refine Wp.drawP [] (Hq:=[(g2,_),(g1,_)]) T.mixed Zj Zj Zb ?_
  refine zc (WY (s:=YB)) ?_
  refine zc (WY (s:=Y7)) ?_
  unfold sxV
  refine zW ?_;intros
  refine Ye ?_
  refine Ye ?_
  refine Ye ?_
  refine Ye ?_
  refine Ye ?_
  refine Ye ?_
  refine Ye ?_
  refine PK.done ⟨by kernel_rfl,?_⟩
  refine YG Zz Zz Zz ?_ ?_
  ·refine Yd (Does.perm (XY [0,1,2] Zz Zz) (Ym [_] _ Zz Zz Zz (YbC (b:=false) h.name) (fun v6 fz6 H6 hle6 hR6=>?_)))
   obtain ⟨_,rfl,b1,rfl,hb1⟩:=hR6
   refine ⟨(⟨hle6,Zx⟩),?_⟩
   unfold sxV
   refine YG Zz Zz Zz ?_ ?_
   ·refine Yd (Yc T (cs:=Yq Y7++Yq d.name) Zz Zz Zz Zz Zz Zz Zz Zz (fun gb=>⟨(⟨hle6,Zx⟩),?_⟩))
    refine YG Zz Zz Zz ?_ ?_
    ·refine PoS.qk (⟨hle6,Zx⟩) (Yw Zz Zz Xk ?_)
     unfold sxV
     refine YG Zz Zz Zz ?_ ?_
     ·refine Yd (Yc T (cs:=Yq YB++ [.int .i64 3,.int .i64 0,.int .i64 0,.int .i64 0,.string ⟨#[]⟩,.slice (some ⟨gb,0,none⟩) 2 2]) Zz Zz Zz Zz Zz Zz Zz Zz (fun gc=>⟨(⟨hle6,Zx⟩),?_⟩))
      refine YG Zz Zz Zz ?_ ?_
      ·refine PoS.qk (⟨hle6,Zx⟩) (Yw Zz Zz Xk ?_)
       unfold sxV
       refine Yb Zz Zz ?_
       refine Yd (YX T Zz Zz (fun g5=>⟨(⟨hle6,Zx⟩),?_⟩))
       refine Yb Zz Zz ?_
       refine PoS.hard0 Zj (Does.perm (XY [0,3,5,4,1,2] Zz Zz) (YP T Zz Zz Zz Zz Zz Zz ?_))
       refine Po.done ?_
       refine zW ?_;intros
       refine midF (H':=[(g,wrO b1),(g1,_),(g2,_),(g5,_),(gc,_)]) (H2:=[(gb,_)]) (XY [1,2,3,0,4,5] Zz Zz) (fun fz3 hl3 hf3=>⟨b1,g5,_,[(gc,_)],rfl,hle6.trans hl3,rfl,Grow.block (m:=2) (ys:=[(Yi YB,Yq YB),(YF [Yi Y7,Yi d.name],[.int .i64 3,.int .i64 0,.int .i64 0,.int .i64 0,.string ⟨#[]⟩,.slice (some ⟨gb,0,none⟩) 2 2])]) rfl rfl ?_ rfl Zh,by rw [hb1];simp⟩) Zw
       have hg:=hf3 _ (.head _)
       intro p hp
       simp only [List.mem_cons,List.not_mem_nil,or_false] at hp
       rcases hp with rfl | rfl
       ·exact Yu (YR Zh)
       ·exact Yg (Wg (Xt (ys:=[(Yi Y7,Yq Y7),(Yi d.name,Yq d.name)]) hg rfl rfl (by intro p hp;simp only [List.mem_cons,List.not_mem_nil,or_false] at hp;rcases hp with rfl | rfl;exact Yu (YR Zh);exact Yu h.name) rfl Zh))
      ·refine Yd (YX T Zz Zz (fun g5=>⟨(⟨hle6,Zx⟩),?_⟩))
       refine Yb Zz Zz ?_
       refine PoS.qk (⟨hle6,Zx⟩) (Yw Zz Zz Xk ?_)
       unfold sxV
       refine Yb Zz Zz ?_
       refine PoS.hard0 Zj (Does.perm (XY [0,3,5,4,1,2] Zz Zz) (YP T Zz Zz Zz Zz Zz Zz ?_))
       refine Po.done ?_
       refine zW ?_;intros
       refine midF (H':=[(g,wrO b1),(g1,_),(g2,_),(g5,_),(gc,_)]) (H2:=[(gb,_)]) (XY [1,2,3,0,4,5] Zz Zz) (fun fz3 hl3 hf3=>⟨b1,g5,_,[(gc,_)],rfl,hle6.trans hl3,rfl,Grow.block (m:=2) (ys:=[(Yi YB,Yq YB),(YF [Yi Y7,Yi d.name],[.int .i64 3,.int .i64 0,.int .i64 0,.int .i64 0,.string ⟨#[]⟩,.slice (some ⟨gb,0,none⟩) 2 2])]) rfl rfl ?_ rfl Zh,by rw [hb1];simp⟩) Zw
       have hg:=hf3 _ (.head _)
       intro p hp
       simp only [List.mem_cons,List.not_mem_nil,or_false] at hp
       rcases hp with rfl | rfl
       ·exact Yu (YR Zh)
       ·exact Yg (Wg (Xt (ys:=[(Yi Y7,Yq Y7),(Yi d.name,Yq d.name)]) hg rfl rfl (by intro p hp;simp only [List.mem_cons,List.not_mem_nil,or_false] at hp;rcases hp with rfl | rfl;exact Yu (YR Zh);exact Yu h.name) rfl Zh))
     ·refine Yd (YX T Zz Zz (fun g5=>⟨(⟨hle6,Zx⟩),?_⟩))
      refine Yb Zz Zz ?_
      refine Yd (Yc T (cs:=Yq YB++ [.int .i64 3,.int .i64 0,.int .i64 0,.int .i64 0,.string ⟨#[]⟩,.slice (some ⟨gb,0,none⟩) 2 2]) Zz Zz Zz Zz Zz Zz Zz Zz (fun gc=>⟨(⟨hle6,Zx⟩),?_⟩))
      refine Yb Zz Zz ?_
      refine PoS.qk (⟨hle6,Zx⟩) (Yw Zz Zz Xk ?_)
      unfold sxV
      refine Yb Zz Zz ?_
      refine PoS.hard0 Zj (Does.perm (XY [1,3,5,4,0,2] Zz Zz) (YP T Zz Zz Zz Zz Zz Zz ?_))
      refine Po.done ?_
      refine zW ?_;intros
      refine midF (H':=[(g,wrO b1),(g1,_),(g2,_),(g5,_),(gc,_)]) (H2:=[(gb,_)]) (XY [1,2,3,0,4,5] Zz Zz) (fun fz3 hl3 hf3=>⟨b1,g5,_,[(gc,_)],rfl,hle6.trans hl3,rfl,Grow.block (m:=2) (ys:=[(Yi YB,Yq YB),(YF [Yi Y7,Yi d.name],[.int .i64 3,.int .i64 0,.int .i64 0,.int .i64 0,.string ⟨#[]⟩,.slice (some ⟨gb,0,none⟩) 2 2])]) rfl rfl ?_ rfl Zh,by rw [hb1];simp⟩) Zw
      have hg:=hf3 _ (.head _)
      intro p hp
      simp only [List.mem_cons,List.not_mem_nil,or_false] at hp
      rcases hp with rfl | rfl
      ·exact Yu (YR Zh)
      ·exact Yg (Wg (Xt (ys:=[(Yi Y7,Yq Y7),(Yi d.name,Yq d.name)]) hg rfl rfl (by intro p hp;simp only [List.mem_cons,List.not_mem_nil,or_false] at hp;rcases hp with rfl | rfl;exact Yu (YR Zh);exact Yu h.name) rfl Zh))
    ·refine Yd (YX T Zz Zz (fun g5=>⟨(⟨hle6,Zx⟩),?_⟩))
     refine Yb Zz Zz ?_
     refine PoS.qk (⟨hle6,Zx⟩) (Yw Zz Zz Xk ?_)
     unfold sxV
     refine Yb Zz Zz ?_
     refine Yd (Yc T (cs:=Yq YB++ [.int .i64 3,.int .i64 0,.int .i64 0,.int .i64 0,.string ⟨#[]⟩,.slice (some ⟨gb,0,none⟩) 2 2]) Zz Zz Zz Zz Zz Zz Zz Zz (fun gc=>⟨(⟨hle6,Zx⟩),?_⟩))
     refine Yb Zz Zz ?_
     refine PoS.qk (⟨hle6,Zx⟩) (Yw Zz Zz Xk ?_)
     unfold sxV
     refine Yb Zz Zz ?_
     refine PoS.hard0 Zj (Does.perm (XY [1,3,5,4,0,2] Zz Zz) (YP T Zz Zz Zz Zz Zz Zz ?_))
     refine Po.done ?_
     refine zW ?_;intros
     refine midF (H':=[(g,wrO b1),(g1,_),(g2,_),(g5,_),(gc,_)]) (H2:=[(gb,_)]) (XY [1,2,3,0,4,5] Zz Zz) (fun fz3 hl3 hf3=>⟨b1,g5,_,[(gc,_)],rfl,hle6.trans hl3,rfl,Grow.block (m:=2) (ys:=[(Yi YB,Yq YB),(YF [Yi Y7,Yi d.name],[.int .i64 3,.int .i64 0,.int .i64 0,.int .i64 0,.string ⟨#[]⟩,.slice (some ⟨gb,0,none⟩) 2 2])]) rfl rfl ?_ rfl Zh,by rw [hb1];simp⟩) Zw
     have hg:=hf3 _ (.head _)
     intro p hp
     simp only [List.mem_cons,List.not_mem_nil,or_false] at hp
     rcases hp with rfl | rfl
     ·exact Yu (YR Zh)
     ·exact Yg (Wg (Xt (ys:=[(Yi Y7,Yq Y7),(Yi d.name,Yq d.name)]) hg rfl rfl (by intro p hp;simp only [List.mem_cons,List.not_mem_nil,or_false] at hp;rcases hp with rfl | rfl;exact Yu (YR Zh);exact Yu h.name) rfl Zh))
   ·refine Yd (YX T Zz Zz (fun g5=>⟨(⟨hle6,Zx⟩),?_⟩))
    refine Yb Zz Zz ?_
    refine Yd (Yc T (cs:=Yq Y7++Yq d.name) Zz Zz Zz Zz Zz Zz Zz Zz (fun gb=>⟨(⟨hle6,Zx⟩),?_⟩))
    refine Yb Zz Zz ?_
    refine PoS.qk (⟨hle6,Zx⟩) (Yw Zz Zz Xk ?_)
    unfold sxV
    refine Yb Zz Zz ?_
    refine Yd (Yc T (cs:=Yq YB++ [.int .i64 3,.int .i64 0,.int .i64 0,.int .i64 0,.string ⟨#[]⟩,.slice (some ⟨gb,0,none⟩) 2 2]) Zz Zz Zz Zz Zz Zz Zz Zz (fun gc=>⟨(⟨hle6,Zx⟩),?_⟩))
    refine Yb Zz Zz ?_
    refine PoS.qk (⟨hle6,Zx⟩) (Yw Zz Zz Xk ?_)
    unfold sxV
    refine Yb Zz Zz ?_
    refine PoS.hard0 Zj (Does.perm (XY [2,3,5,4,0,1] Zz Zz) (YP T Zz Zz Zz Zz Zz Zz ?_))
    refine Po.done ?_
    refine zW ?_;intros
    refine midF (H':=[(g,wrO b1),(g1,_),(g2,_),(g5,_),(gc,_)]) (H2:=[(gb,_)]) (XY [1,2,3,0,4,5] Zz Zz) (fun fz3 hl3 hf3=>⟨b1,g5,_,[(gc,_)],rfl,hle6.trans hl3,rfl,Grow.block (m:=2) (ys:=[(Yi YB,Yq YB),(YF [Yi Y7,Yi d.name],[.int .i64 3,.int .i64 0,.int .i64 0,.int .i64 0,.string ⟨#[]⟩,.slice (some ⟨gb,0,none⟩) 2 2])]) rfl rfl ?_ rfl Zh,by rw [hb1];simp⟩) Zw
    have hg:=hf3 _ (.head _)
    intro p hp
    simp only [List.mem_cons,List.not_mem_nil,or_false] at hp
    rcases hp with rfl | rfl
    ·exact Yu (YR Zh)
    ·exact Yg (Wg (Xt (ys:=[(Yi Y7,Yq Y7),(Yi d.name,Yq d.name)]) hg rfl rfl (by intro p hp;simp only [List.mem_cons,List.not_mem_nil,or_false] at hp;rcases hp with rfl | rfl;exact Yu (YR Zh);exact Yu h.name) rfl Zh))
  ·refine Yd (YX T Zz Zz (fun g5=>⟨(⟨(Le.refl _),Zx⟩),?_⟩))
   refine Yb Zz Zz ?_
   refine Yd (Does.perm (XY [1,0,2,3] Zz Zz) (Ym [_] _ Zz Zz Zz (YbC (b:=false) h.name) (fun v6 fz6 H6 hle6 hR6=>?_)))
   obtain ⟨_,rfl,b1,rfl,hb1⟩:=hR6
   refine ⟨(⟨hle6,Zx⟩),?_⟩
   unfold sxV
   refine Yb Zz Zz ?_
   refine Yd (Yc T (cs:=Yq Y7++Yq d.name) Zz Zz Zz Zz Zz Zz Zz Zz (fun gb=>⟨(⟨hle6,Zx⟩),?_⟩))
   refine Yb Zz Zz ?_
   refine PoS.qk (⟨hle6,Zx⟩) (Yw Zz Zz Xk ?_)
   unfold sxV
   refine Yb Zz Zz ?_
   refine Yd (Yc T (cs:=Yq YB++ [.int .i64 3,.int .i64 0,.int .i64 0,.int .i64 0,.string ⟨#[]⟩,.slice (some ⟨gb,0,none⟩) 2 2]) Zz Zz Zz Zz Zz Zz Zz Zz (fun gc=>⟨(⟨hle6,Zx⟩),?_⟩))
   refine Yb Zz Zz ?_
   refine PoS.qk (⟨hle6,Zx⟩) (Yw Zz Zz Xk ?_)
   unfold sxV
   refine Yb Zz Zz ?_
   refine PoS.hard0 Zj (Does.perm (XY [3,2,5,4,0,1] Zz Zz) (YP T Zz Zz Zz Zz Zz Zz ?_))
   refine Po.done ?_
   refine zW ?_;intros
   refine midF (H':=[(g,wrO b1),(g1,_),(g2,_),(g5,_),(gc,_)]) (H2:=[(gb,_)]) (XY [1,2,3,0,4,5] Zz Zz) (fun fz3 hl3 hf3=>⟨b1,g5,_,[(gc,_)],rfl,hle6.trans hl3,rfl,Grow.block (m:=2) (ys:=[(Yi YB,Yq YB),(YF [Yi Y7,Yi d.name],[.int .i64 3,.int .i64 0,.int .i64 0,.int .i64 0,.string ⟨#[]⟩,.slice (some ⟨gb,0,none⟩) 2 2])]) rfl rfl ?_ rfl Zh,by rw [hb1];simp⟩) Zw
   have hg:=hf3 _ (.head _)
   intro p hp
   simp only [List.mem_cons,List.not_mem_nil,or_false] at hp
   rcases hp with rfl | rfl
   ·exact Yu (YR Zh)
   ·exact Yg (Wg (Xt (ys:=[(Yi Y7,Yq Y7),(Yi d.name,Yq d.name)]) hg rfl rfl (by intro p hp;simp only [List.mem_cons,List.not_mem_nil,or_false] at hp;rcases hp with rfl | rfl;exact Yu (YR Zh);exact Yu h.name) rfl Zh))
 ·rintro σ fz1 H' ⟨b0,g5,w0',Hs0,rfl,hle0,rfl,hG0,hb0⟩
  have hys0:b0=false→[Yi YB,YF [Yi Y7,Yi d.name]]=[Yi YB,YF [Yi Y7,Yi d.name]]:=fun _=>rfl
  refine zW ?_;intros
  refine Ya Zz (Ym [_] _ Zz Zz Zz (W4 (vars:=false) (i1.mono hle0) Zi) (fun v6 fy3 H6 hly3 hR6=>?_))
  obtain ⟨_,⟨B3,cc3,rfl,hsl3⟩,bb3,rfl,hc3⟩:=hR6
  refine Ya Zz (Does.perm (H':=((g5,_)::Hs0)++ [_,_,_]) Zq (Does.after (Ym ((g5,_)::Hs0) _ Zz Zz Zz (Ygw (kw:=Yaz) (hG0.mono hly3) hsl3 (YR Zh) Zi Zi) (fun v7 fz_3 H7 hlz3 hR7=>?_))))
  obtain ⟨_,_,v_3,n_3,Hs_3,rfl,hG_3,hn_3⟩:=hR7
  refine ⟨(g,wrO bb3)::(g1,_)::(g2,_)::(g5,lsO v_3)::Hs_3,Zq (l₁:=[_,_,_]) (l₂:=(g5,lsO v_3)::Hs_3),?_⟩
  replace hG_3:Grow Yy 57 fz_3 v_3 n_3 Hs_3 ([Yi YB,YF [Yi Y7,Yi d.name]]++grp Yaz (WJ d.types)):=hG_3
  obtain ⟨l_3,hl3⟩:∃ l',l'=[Yi YB,YF [Yi Y7,Yi d.name]]++grp Yaz (WJ d.types):=⟨_,rfl⟩
  rw [← hl3] at hG_3
  have hle_3:=(hle0.trans hly3).trans hlz3
  have hb_3:bb3=false↔Y5 d.name∧(∀ p∈d.types,Wz false p):=by rw [hc3,hb0]<;>simp only [and_assoc]
  have hys_3:bb3=false→l_3=[Yi YB,YF [Yi Y7,Yi d.name]]++grp Yaz (WJ d.types):=fun h0=>by rw [hl3]
  refine zW ?_;intros
  refine Ya Zz (Ym [_] _ Zz Zz Zz (W4 (vars:=false) (i2.mono hle_3) Zi) (fun v6 fy4 H6 hly4 hR6=>?_))
  obtain ⟨_,⟨B4,cc4,rfl,hsl4⟩,bb4,rfl,hc4⟩:=hR6
  refine Ya Zz (Does.perm (H':=((g5,_)::Hs_3)++ [_,_,_]) Zq (Does.after (Ym ((g5,_)::Hs_3) _ Zz Zz Zz (Ygw (kw:=XN) (hG_3.mono hly4) hsl4 (YR Zh) Zi Zi) (fun v7 fz_4 H7 hlz4 hR7=>?_))))
  obtain ⟨_,_,v_4,n_4,Hs_4,rfl,hG_4,hn_4⟩:=hR7
  refine ⟨(g,wrO bb4)::(g1,_)::(g2,_)::(g5,lsO v_4)::Hs_4,Zq (l₁:=[_,_,_]) (l₂:=(g5,lsO v_4)::Hs_4),?_⟩
  replace hG_4:Grow Yy 57 fz_4 v_4 n_4 Hs_4 (l_3++grp XN (WJ d.constants)):=hG_4
  obtain ⟨l_4,hl4⟩:∃ l',l'=l_3++grp XN (WJ d.constants):=⟨_,rfl⟩
  rw [← hl4] at hG_4
  have hle_4:=(hle_3.trans hly4).trans hlz4
  have hb_4:bb4=false↔Y5 d.name∧(∀ p∈d.types,Wz false p)∧(∀ p∈d.constants,Wz false p):=by rw [hc4,hb_3]<;>simp only [and_assoc]
  have hys_4:bb4=false→l_4=[Yi YB,YF [Yi Y7,Yi d.name]]++grp Yaz (WJ d.types)++grp XN (WJ d.constants):=fun h0=>by rw [hl4,hys_3 (hc4.1 h0).1]
  refine zW ?_;intros
  refine Yl (fun q σ fz' H'=>∃ (k:Nat) (b':Bool) (vp:Value) (Hp:HP) (ys:List Sexpr),k≤n3∧q=n3 - k∧σ=[(42,.int .i64 k),(41,.int .i64 n3),(40,.slice A3 n3 c3),(7,.slice none 0 0),(6,vp),(5,.pointer (some ⟨g5,0,none⟩)),(4,.pointer (some ⟨g,0,none⟩)),(2,.pointer (some ⟨g2,0,none⟩)),(1,.pointer (some ⟨g1,0,none⟩))]∧Le fz_4 fz'∧H'=(g,wrO b')::(g1,.cells #[.string d.name,.slice A1 n1 c1,.slice A2 n2 c2,.slice A3 n3 c3,.slice A4 n4 c4,.slice A5 n5 c5,.slice A6 n6 c6] 31 (0,0))::(g2,.cells #[.int .i64 0,.int .i64 0,.int .i64 0,.int .i64 0,.string ⟨#[]⟩,.slice none 0 0] 57 (0,0))::(g5,lsO v_4)::(Hs_4++Hp)∧Grow Yy 57 fz' vp k Hp ys∧(b'=false↔bb4=false∧∀ i,i<k→∀ x,d.predicates[i]?=some x→Yj4 x)∧(b'=false→ys=(d.predicates.take k).map Ygl)) (H0:=(g,wrO bb4)::(g1,.cells #[.string d.name,.slice A1 n1 c1,.slice A2 n2 c2,.slice A3 n3 c3,.slice A4 n4 c4,.slice A5 n5 c5,.slice A6 n6 c6] 31 (0,0))::(g2,.cells #[.int .i64 0,.int .i64 0,.int .i64 0,.int .i64 0,.string ⟨#[]⟩,.slice none 0 0] 57 (0,0))::(g5,lsO v_4)::(Hs_4++ [])) ⟨0,bb4,_,[],[],Z0 _,rfl,rfl,Le.refl _,rfl,Grow.nil _ _ _,⟨fun h=>⟨h,fun i hi=>absurd hi Zi⟩,fun h=>h.1⟩,by simp⟩ Zw (by simp) ?_
  rintro q σ fz' H' ⟨k,b',vp,Hp,ys,hk,rfl,rfl,hle,rfl,hP,hb,hys⟩
  obtain ⟨Ap,cp,rfl,_,_⟩:=hP.form
  have i3m:=i3.mono (hle_4.trans hle)
  refine zW ?_;intros
  refine zC (fun e1=>?_) (fun e1=>?_)
  ·obtain ⟨x,hx⟩:=Yn (l:=d.predicates) (k:=k) Zi
   have hxm:=Zm hx
   refine zW ?_;intros
   refine zI i3m hx (fun p hp=>?_)
   refine zL hp ?_
   intro cs hcs
   obtain ⟨vpp,rfl,hRx⟩:=XD hcs
   obtain ⟨P1,p1,q1,rfl,ip⟩:=hRx.params
   have hpm:=hs.predp x hxm
   have hpl:=ip.len
   refine zW ?_;intros
   rename_i g9
   refine Wp.drawP [] (Hq:=[(g9,_)]) T.mixed Zj Zj Zb ?_
   refine zW ?_;intros
   refine Ye ?_
   refine Ye ?_
   refine zW ?_;intros
   refine Ye ?_
   refine Ye ?_
   refine Ye ?_
   refine Ye ?_
   refine Ye ?_
   refine Ye ?_
   refine PK.done ⟨by kernel_rfl,?_⟩
   refine Yb Zz Zz ?_
   refine Yd (Does.perm (List.Perm.swap _ _ _) (Ym [_] _ Zz Zz Zz (YbC hRx.name) (fun v6 fz6 H6 hle6 hR6=>?_)))
   obtain ⟨_,rfl,b6,rfl,hb6⟩:=hR6
   refine ⟨(⟨hle6,Zx⟩),?_⟩
   unfold sxV
   refine YG Zz Zz Zz ?_ ?_
   ·refine Yd (Yc T (cs:=Yq x.name) Zz Zz Zz Zz Zz Zz Zz Zz (fun gb=>⟨(⟨hle6,Zx⟩),?_⟩))
    refine Yb Zz Zz ?_
    refine Yd (Does.perm (List.Perm.swap _ _ _) (Ym [_] _ Zz Zz Zz (W4 (vars:=true) (ip.mono hle6) Zi) (fun v7 fz7 H7 hle7 hR7=>?_)))
    obtain ⟨_,⟨B7,cc7,rfl,hsl7⟩,b7,rfl,hb7⟩:=hR7
    refine ⟨(⟨(hle6.trans hle7),Zx⟩),?_⟩
    refine Yb Zz Zz ?_
    refine Yd (WF T (n:=1) (l:=[Yi x.name]) (Hr:=(g,_)::(g9,_)::(g1,_)::(g2,_)::(g5,_)::(Hs_4++Hp)) (Hs:=[(gb,_)]) Zz Zz Zz Zz Zz Zz Zz Zz (List.Perm.cons _ (List.perm_append_singleton _ _).symm) (Grow.block (ys:=[(Yi x.name,Yq x.name)]) rfl rfl (by simpa using Yu hRx.name) rfl Zh) Ys hsl7 (by show _*72≤_;omega) Zi (fun v8 Hs1 hO1=>⟨(⟨(hle6.trans hle7),Zx⟩),?_⟩))
    obtain ⟨A8,c8,rfl,_,_⟩:=hO1.form
    refine Yb Zz Zz ?_
    refine PoS.qk (⟨(hle6.trans hle7),Zx⟩) (Yw Zz Zz Xk ?_)
    unfold sxV
    refine Yb Zz Zz ?_
    refine Yd (Yc T (cs:=[.int .i64 3,.int .i64 0,.int .i64 0,.int .i64 0,.string ⟨#[]⟩,.slice A8 (1+3*p1) c8]) Zz Zz Zz Zz Zz Zz Zz Zz (fun gc=>⟨(⟨(hle6.trans hle7),Zx⟩),?_⟩))
    refine Yb Zz Zz ?_
    refine Yd (Does.freezeAll (H1:=(gc,_)::(g,_)::(g9,_)::(g1,_)::(g2,_)::(g5,_)::(Hs_4++Hp)) (H2:=Hs1) (Zr _) (fun fz9 hle9 hf9=>?_))
    obtain ⟨A2x,c2x,he2,hsl9⟩:=hO1.sl hle9 hf9 Zi
    injection he2 with x1 x2 x3
    subst x1 x3
    refine YS T (Hr:=(gc,_)::(g,_)::(g9,_)::(g1,_)::(g2,_)::(g5,_)::Hs_4) (d:=Ygl x) Zz Zz Zz Zz Zz Zz Zz Zz (Zr _) (hP.mono ((hle6.trans hle7).trans hle9)) Ys (.head _) (Yg (Wg hsl9)) (by show _*72≤_;omega) Zi (fun v9 Hp9 hO9=>⟨(⟨((hle6.trans hle7).trans hle9),Zx⟩),?_⟩)
    obtain ⟨A9,c9,rfl,_,_⟩:=hO9.form
    refine Yb Zz Zz ?_
    refine PoS.qk (⟨((hle6.trans hle7).trans hle9),Zx⟩) (YJ Zz ?_)
    refine Po.done ?_
    refine zW ?_;intros
    refine Yz ⟨k+1,b7,_,Hp9,ys++ [Ygl x],by omega,rfl,rfl,hle.trans ((hle6.trans hle7).trans hle9),rfl,hO9,?_,fun h0=>?_⟩ Zi Zw Zb
    ·rw [hb7,hb6,hb]
     exact ⟨fun h0=>⟨h0.1.1.1,YL h0.1.1.2 hx ⟨h0.1.2,h0.2⟩⟩,fun h0=>⟨⟨⟨h0.1,fun i hi=>h0.2 i Zi⟩,(h0.2 k Zi x hx).1⟩,(h0.2 k Zi x hx).2⟩⟩
    ·rw [hys (hb6.1 (hb7.1 h0).1).1,List.take_add_one,hx];simp
   ·refine Yd (Ym [_] _ Zz Zz Zz (W4 (vars:=true) (ip.mono hle6) Zi) (fun v7 fz7 H7 hle7 hR7=>?_))
    obtain ⟨_,⟨B7,cc7,rfl,hsl7⟩,b7,rfl,hb7⟩:=hR7
    refine ⟨(⟨(hle6.trans hle7),Zx⟩),?_⟩
    refine Yb Zz Zz ?_
    refine Yd (Yc T (cs:=Yq x.name) Zz Zz Zz Zz Zz Zz Zz Zz (fun gb=>⟨(⟨(hle6.trans hle7),Zx⟩),?_⟩))
    refine Yb Zz Zz ?_
    refine Yd (WF T (n:=1) (l:=[Yi x.name]) (Hr:=(g,_)::(g9,_)::(g1,_)::(g2,_)::(g5,_)::(Hs_4++Hp)) (Hs:=[(gb,_)]) Zz Zz Zz Zz Zz Zz Zz Zz (List.perm_append_singleton _ _).symm (Grow.block (ys:=[(Yi x.name,Yq x.name)]) rfl rfl (by simpa using Yu hRx.name) rfl Zh) Ys hsl7 (by show _*72≤_;omega) Zi (fun v8 Hs1 hO1=>⟨(⟨(hle6.trans hle7),Zx⟩),?_⟩))
    obtain ⟨A8,c8,rfl,_,_⟩:=hO1.form
    refine Yb Zz Zz ?_
    refine PoS.qk (⟨(hle6.trans hle7),Zx⟩) (Yw Zz Zz Xk ?_)
    unfold sxV
    refine Yb Zz Zz ?_
    refine Yd (Yc T (cs:=[.int .i64 3,.int .i64 0,.int .i64 0,.int .i64 0,.string ⟨#[]⟩,.slice A8 (1+3*p1) c8]) Zz Zz Zz Zz Zz Zz Zz Zz (fun gc=>⟨(⟨(hle6.trans hle7),Zx⟩),?_⟩))
    refine Yb Zz Zz ?_
    refine Yd (Does.freezeAll (H1:=(gc,_)::(g,_)::(g9,_)::(g1,_)::(g2,_)::(g5,_)::(Hs_4++Hp)) (H2:=Hs1) (Zr _) (fun fz9 hle9 hf9=>?_))
    obtain ⟨A2x,c2x,he2,hsl9⟩:=hO1.sl hle9 hf9 Zi
    injection he2 with x1 x2 x3
    subst x1 x3
    refine YS T (Hr:=(gc,_)::(g,_)::(g9,_)::(g1,_)::(g2,_)::(g5,_)::Hs_4) (d:=Ygl x) Zz Zz Zz Zz Zz Zz Zz Zz (Zr _) (hP.mono ((hle6.trans hle7).trans hle9)) Ys (.head _) (Yg (Wg hsl9)) (by show _*72≤_;omega) Zi (fun v9 Hp9 hO9=>⟨(⟨((hle6.trans hle7).trans hle9),Zx⟩),?_⟩)
    obtain ⟨A9,c9,rfl,_,_⟩:=hO9.form
    refine Yb Zz Zz ?_
    refine PoS.qk (⟨((hle6.trans hle7).trans hle9),Zx⟩) (YJ Zz ?_)
    refine Po.done ?_
    refine zW ?_;intros
    refine Yz ⟨k+1,b7,_,Hp9,ys++ [Ygl x],by omega,rfl,rfl,hle.trans ((hle6.trans hle7).trans hle9),rfl,hO9,?_,fun h0=>?_⟩ Zi Zw Zb
    ·rw [hb7,hb6,hb]
     exact ⟨fun h0=>⟨h0.1.1.1,YL h0.1.1.2 hx ⟨h0.1.2,h0.2⟩⟩,fun h0=>⟨⟨⟨h0.1,fun i hi=>h0.2 i Zi⟩,(h0.2 k Zi x hx).1⟩,(h0.2 k Zi x hx).2⟩⟩
    ·rw [hys (hb6.1 (hb7.1 h0).1).1,List.take_add_one,hx];simp
  ·have hkn:n3=k:=by omega
   subst hkn
   rw [show d.predicates.take n3=d.predicates from Zl Zi] at hys
   have hbp:b'=false↔bb4=false∧∀ x∈d.predicates,Yj4 x:=by rw [hb];exact ⟨fun h0=>⟨h0.1,Xs h0.2 Zi⟩,fun h0=>⟨h0.1,fun i _ x hx=>h0.2 x (Zm hx)⟩⟩
   refine Seq.freezeAll (H1:=(g,_)::(g1,_)::(g2,_)::(g5,_)::Hs_4) (H2:=Hp) (Zr _) (fun fzp hlp hfp=>?_)
   obtain ⟨A2x,c2x,he2,hslp⟩:=hP.sl hlp hfp Zi
   injection he2 with x1 x2 x3
   subst x1 x3
   have hG5:=hG_4.mono (hle.trans hlp)
   have hle5:=(hle_4.trans hle).trans hlp
   refine zW ?_;intros
   refine Yl (fun q σ fz' H'=>∃ (j:Nat) (b2:Bool) (vf:Value) (Hf:HP) (zs:List Sexpr),j≤n4∧q=n4 - j∧σ=[(64,.int .i64 j),(63,.int .i64 n4),(62,.slice A4 n4 c4),(7,vf),(6,.slice Ap n3 cp),(5,.pointer (some ⟨g5,0,none⟩)),(4,.pointer (some ⟨g,0,none⟩)),(2,.pointer (some ⟨g2,0,none⟩)),(1,.pointer (some ⟨g1,0,none⟩))]∧Le fzp fz'∧H'=(g,wrO b2)::(g1,.cells #[.string d.name,.slice A1 n1 c1,.slice A2 n2 c2,.slice A3 n3 c3,.slice A4 n4 c4,.slice A5 n5 c5,.slice A6 n6 c6] 31 (0,0))::(g2,.cells #[.int .i64 0,.int .i64 0,.int .i64 0,.int .i64 0,.string ⟨#[]⟩,.slice none 0 0] 57 (0,0))::(g5,lsO v_4)::(Hs_4++Hf)∧Grow Yy 57 fz' vf j Hf zs∧(b2=false↔b'=false∧∀ i,i<j→∀ x,d.functions[i]?=some x→YmE x)∧(b2=false→zs=(d.functions.take j).map funX)) (H0:=(g,wrO b')::(g1,.cells #[.string d.name,.slice A1 n1 c1,.slice A2 n2 c2,.slice A3 n3 c3,.slice A4 n4 c4,.slice A5 n5 c5,.slice A6 n6 c6] 31 (0,0))::(g2,.cells #[.int .i64 0,.int .i64 0,.int .i64 0,.int .i64 0,.string ⟨#[]⟩,.slice none 0 0] 57 (0,0))::(g5,lsO v_4)::(Hs_4++ [])) ⟨0,b',_,[],[],Z0 _,rfl,rfl,Le.refl _,rfl,Grow.nil _ _ _,⟨fun h=>⟨h,fun i hi=>absurd hi Zi⟩,fun h=>h.1⟩,by simp⟩ Zw (by simp) ?_
   rintro q σ fz' H' ⟨j,b2,vf,Hf,zs,hj,rfl,rfl,hle6f,rfl,hF,hb2,hzs⟩
   obtain ⟨Af,cf,rfl,_,_⟩:=hF.form
   have i4m:=i4.mono (hle5.trans hle6f)
   refine zW ?_;intros
   refine zC (fun e2=>?_) (fun e2=>?_)
   ·obtain ⟨x,hx⟩:=Yn (l:=d.functions) (k:=j) Zi
    have hxm:=Zm hx
    refine zW ?_;intros
    refine zI i4m hx (fun p hp=>?_)
    refine zL hp ?_
    intro cs hcs
    obtain ⟨vpp,rfl,hRx⟩:=Y6 hcs
    obtain ⟨P1,p1,q1,rfl,ip⟩:=hRx.params
    have hpm:=hs.funp x hxm
    have hpl:=ip.len
    refine zWO ?_;intros
    rename_i g9
    refine Yk (Wp.mid (fun σ fz7 H'=>∃ (b7:Bool) (v1:Value) (Hs1:HP),σ=[(12,v1),(64,.int .i64 j),(63,.int .i64 n4),(62,.slice A4 n4 c4),(11,.pointer (some ⟨g9,0,none⟩)),(7,.slice Af j cf),(6,.slice Ap n3 cp),(5,.pointer (some ⟨g5,0,none⟩)),(4,.pointer (some ⟨g,0,none⟩)),(2,.pointer (some ⟨g2,0,none⟩)),(1,.pointer (some ⟨g1,0,none⟩))]∧Le fz' fz7∧H'=((g,wrO b7)::(g9,.cells #[.string x.name,.slice P1 p1 q1,.int .i64 x.lo,.int .i64 x.hi] 71 (0,0))::(g1,.cells #[.string d.name,.slice A1 n1 c1,.slice A2 n2 c2,.slice A3 n3 c3,.slice A4 n4 c4,.slice A5 n5 c5,.slice A6 n6 c6] 31 (0,0))::(g2,.cells #[.int .i64 0,.int .i64 0,.int .i64 0,.int .i64 0,.string ⟨#[]⟩,.slice none 0 0] 57 (0,0))::(g5,lsO v_4)::(Hs_4++Hf))++Hs1∧Grow Yy 57 fz7 v1 (1+3*p1) Hs1 (Yi x.name::WJ x.params)∧(b7=false↔b2=false∧YmE x)) ?_ ?_)
    ·refine Wp.drawP [] (Hq:=[(g9,_)]) T.mixed Zj Zj Zb ?_
     refine zW ?_;intros
     refine Ye ?_
     refine Ye ?_
     refine zW ?_;intros
     refine Ye ?_
     refine Ye ?_
     refine Ye ?_
     refine PK.done ⟨by kernel_rfl,?_⟩
     refine Yb Zz Zz ?_
     refine Yd (Does.perm (List.Perm.swap _ _ _) (Ym [_] _ Zz Zz Zz (YbC hRx.name) (fun v6 fz6 H6 hle6 hR6=>?_)))
     obtain ⟨_,rfl,b6,rfl,hb6⟩:=hR6
     refine ⟨(⟨hle6,Zx⟩),?_⟩
     unfold sxV
     refine YG Zz Zz Zz ?_ ?_
     ·refine Yd (Yc T (cs:=Yq x.name) Zz Zz Zz Zz Zz Zz Zz Zz (fun gb=>⟨(⟨hle6,Zx⟩),?_⟩))
      refine Yb Zz Zz ?_
      refine Yd (Does.perm (List.Perm.swap _ _ _) (Ym [_] _ Zz Zz Zz (W4 (vars:=true) (ip.mono hle6) Zi) (fun v7 fz7 H7 hle7 hR7=>?_)))
      obtain ⟨_,⟨B7,cc7,rfl,hsl7⟩,b7,rfl,hb7⟩:=hR7
      refine ⟨(⟨(hle6.trans hle7),Zx⟩),?_⟩
      refine Yb Zz Zz ?_
      refine Yd (WF T (n:=1) (l:=[Yi x.name]) (Hr:=(g,_)::(g9,_)::(g1,_)::(g2,_)::(g5,_)::(Hs_4++Hf)) (Hs:=[(gb,_)]) Zz Zz Zz Zz Zz Zz Zz Zz (List.Perm.cons _ (List.perm_append_singleton _ _).symm) (Grow.block (ys:=[(Yi x.name,Yq x.name)]) rfl rfl (by simpa using Yu hRx.name) rfl Zh) Ys hsl7 (by show _*72≤_;omega) Zi (fun v8 Hs1 hO1=>⟨(⟨(hle6.trans hle7),Zx⟩),?_⟩))
      obtain ⟨A8,c8,rfl,_,_⟩:=hO1.form
      refine Yb Zz Zz ?_
      refine PoS.qk (⟨(hle6.trans hle7),Zx⟩) (YJ Zz ?_)
      refine Po.done ?_
      refine zW ?_;intros
      exact midN ⟨b7,_,Hs1,rfl,hle6.trans hle7,rfl,hO1,by rw [hb7,hb6,and_assoc];rfl⟩ Zw Zb
     ·refine Yd (Ym [_] _ Zz Zz Zz (W4 (vars:=true) (ip.mono hle6) Zi) (fun v7 fz7 H7 hle7 hR7=>?_))
      obtain ⟨_,⟨B7,cc7,rfl,hsl7⟩,b7,rfl,hb7⟩:=hR7
      refine ⟨(⟨(hle6.trans hle7),Zx⟩),?_⟩
      refine Yb Zz Zz ?_
      refine Yd (Yc T (cs:=Yq x.name) Zz Zz Zz Zz Zz Zz Zz Zz (fun gb=>⟨(⟨(hle6.trans hle7),Zx⟩),?_⟩))
      refine Yb Zz Zz ?_
      refine Yd (WF T (n:=1) (l:=[Yi x.name]) (Hr:=(g,_)::(g9,_)::(g1,_)::(g2,_)::(g5,_)::(Hs_4++Hf)) (Hs:=[(gb,_)]) Zz Zz Zz Zz Zz Zz Zz Zz (List.perm_append_singleton _ _).symm (Grow.block (ys:=[(Yi x.name,Yq x.name)]) rfl rfl (by simpa using Yu hRx.name) rfl Zh) Ys hsl7 (by show _*72≤_;omega) Zi (fun v8 Hs1 hO1=>⟨(⟨(hle6.trans hle7),Zx⟩),?_⟩))
      obtain ⟨A8,c8,rfl,_,_⟩:=hO1.form
      refine Yb Zz Zz ?_
      refine PoS.qk (⟨(hle6.trans hle7),Zx⟩) (YJ Zz ?_)
      refine Po.done ?_
      refine zW ?_;intros
      exact midN ⟨b7,_,Hs1,rfl,hle6.trans hle7,rfl,hO1,by rw [hb7,hb6,and_assoc];rfl⟩ Zw Zb
    ·rintro σ fz7 H' ⟨b7,v1,Hs1,rfl,hle7,rfl,hO1,hb7⟩
     obtain ⟨A8,c8,rfl,_,_⟩:=hO1.form
     refine Wp.drawK (Hq:=[(g9,_)]) T.mixed Zj Zj (List.Sublist.cons _ (List.Sublist.cons_cons _ (List.nil_sublist _))) ?_
     refine zW ?_;intros
     refine zc Yem ?_
     refine zW ?_;intros
     refine zc Yem ?_
     unfold sxV
     refine Yf ?_
     refine Yf ?_
     refine Yf ?_
     refine Yf ?_
     refine Yf ?_
     refine Yf ?_
     refine YM ⟨by kernel_rfl,?_⟩
     refine Yt (Yc T (cs:=[.int .i64 2,.int .i64 x.lo,.int .i64 0,.int .i64 0,.string ⟨#[]⟩,.slice none 0 0,.int .i64 2,.int .i64 x.hi,.int .i64 0,.int .i64 0,.string ⟨#[]⟩,.slice none 0 0]) Zz Zz Zz Zz Zz Zz Zz Zz (fun gb=>⟨(⟨Le.refl _,Zx⟩),?_⟩))
     refine Yt (YhG T (Hr:=(gb,_)::(g,_)::(g9,_)::(g1,_)::(g2,_)::(g5,_)::(Hs_4++Hf)) (ys:=[(numE x.lo,[.int .i64 2,.int .i64 x.lo,.int .i64 0,.int .i64 0,.string ⟨#[]⟩,.slice none 0 0]),(numE x.hi,[.int .i64 2,.int .i64 x.hi,.int .i64 0,.int .i64 0,.string ⟨#[]⟩,.slice none 0 0])]) (l2:=[numE x.lo,numE x.hi]) (m:=2) Zz Zz Zz Zz Zz Zz Zz Zz (Zr _) hO1 Ys (.head _) rfl rfl (by intro p hp;simp only [List.mem_cons,List.not_mem_nil,or_false] at hp;rcases hp with rfl | rfl;exact Yg (Yhz hRx.lo);exact Yg (Yhz hRx.hi)) rfl (by show _*72≤_;omega) Zi (fun v8 Hs2 hO2=>⟨(⟨Le.refl _,Zx⟩),?_⟩))
     obtain ⟨A9,c9,rfl,_,_⟩:=hO2.form
     refine Ch.qk (⟨Le.refl _,Zx⟩) (Yw Zz Zz Xk ?_)
     unfold sxV
     refine Yt (Yc T (cs:=[.int .i64 3,.int .i64 0,.int .i64 0,.int .i64 0,.string ⟨#[]⟩,.slice A9 (1+3*p1+2) c9]) Zz Zz Zz Zz Zz Zz Zz Zz (fun gc=>⟨(⟨Le.refl _,Zx⟩),?_⟩))
     refine Yt (Does.freezeAll (H1:=(gc,_)::(gb,_)::(g,_)::(g9,_)::(g1,_)::(g2,_)::(g5,_)::(Hs_4++Hf)) (H2:=Hs2) (Zr _) (fun fz9 hle9 hf9=>?_))
     obtain ⟨A2y,c2y,he3,hsl9⟩:=hO2.sl hle9 hf9 Zi
     injection he3 with x1 x2 x3
     subst x1 x3
     refine YS T (Hr:=(gc,_)::(gb,_)::(g,_)::(g9,_)::(g1,_)::(g2,_)::(g5,_)::Hs_4) (d:=funX x) Zz Zz Zz Zz Zz Zz Zz Zz (Zr _) (hF.mono (hle7.trans hle9)) Ys (.head _) (Yg (Wg hsl9)) (by show _*72≤_;omega) Zi (fun v9 Hf9 hO9=>⟨(⟨hle9,Zx⟩),?_⟩)
     obtain ⟨A9f,c9f,rfl,_,_⟩:=hO9.form
     refine Ch.qk (⟨hle9,Zx⟩) (YJ Zz ?_)
     refine Ch.done ?_
     refine zW ?_;intros
     refine Yz ⟨j+1,b7,_,Hf9,zs++ [funX x],by omega,rfl,rfl,hle6f.trans (hle7.trans hle9),rfl,hO9,?_,fun h0=>?_⟩ Zi Zw Zb
     ·rw [hb7,hb2]
      exact ⟨fun h0=>⟨h0.1.1,YL h0.1.2 hx h0.2⟩,fun h0=>⟨⟨h0.1,fun i hi=>h0.2 i Zi⟩,h0.2 j Zi x hx⟩⟩
     ·rw [hzs (hb7.1 h0).1,List.take_add_one,hx];simp
   ·have hjn:n4=j:=by omega
    subst hjn
    rw [show d.functions.take n4=d.functions from Zl Zi] at hzs
    have hbf:b2=false↔b'=false∧∀ x∈d.functions,YmE x:=by rw [hb2];exact ⟨fun h0=>⟨h0.1,Xs h0.2 Zi⟩,fun h0=>⟨h0.1,fun i _ x hx=>h0.2 x (Zm hx)⟩⟩
    refine Seq.freezeAll (H1:=(g,_)::(g1,_)::(g2,_)::(g5,_)::Hs_4) (H2:=Hf) (Zr _) (fun fzq hlq hfq=>?_)
    obtain ⟨A2z,c2z,he4,hslf⟩:=hF.sl hlq hfq Zi
    injection he4 with x1 x2 x3
    subst x1 x3
    have hG6:=hG5.mono (hle6f.trans hlq)
    have hslp2:=hslp.mono (hle6f.trans hlq)
    have hle7:=(hle5.trans hle6f).trans hlq
    refine zW ?_;intros
    refine Ya Zz (Does.perm (H':=((g5,_)::Hs_4)++ [_,_,_]) Zq (Does.after (Ym ((g5,_)::Hs_4) _ Zz Zz Zz (Ygw (kw:=XE) hG6 hslp2 (YR Zh) Zi Zi) (fun v7 fz_5 H7 hlz5 hR7=>?_))))
    obtain ⟨_,_,v_5,n_5,Hs_5,rfl,hG_5,hn_5⟩:=hR7
    refine ⟨(g,wrO b2)::(g1,_)::(g2,_)::(g5,lsO v_5)::Hs_5,Zq (l₁:=[_,_,_]) (l₂:=(g5,lsO v_5)::Hs_5),?_⟩
    replace hG_5:Grow Yy 57 fz_5 v_5 n_5 Hs_5 (l_4++grp XE (ys)):=hG_5
    obtain ⟨l_5,hl5⟩:∃ l',l'=l_4++grp XE (ys):=⟨_,rfl⟩
    rw [← hl5] at hG_5
    refine zW ?_;intros
    refine Ya Zz (Does.perm (H':=((g5,_)::Hs_5)++ [_,_,_]) Zq (Does.after (Ym ((g5,_)::Hs_5) _ Zz Zz Zz (Ygw (kw:=XM) hG_5 (hslf.mono hlz5) (YR Zh) Zi Zi) (fun v7 fz_6 H7 hlz6 hR7=>?_))))
    obtain ⟨_,_,v_6,n_6,Hs_6,rfl,hG_6,hn_6⟩:=hR7
    refine ⟨(g,wrO b2)::(g1,_)::(g2,_)::(g5,lsO v_6)::Hs_6,Zq (l₁:=[_,_,_]) (l₂:=(g5,lsO v_6)::Hs_6),?_⟩
    replace hG_6:Grow Yy 57 fz_6 v_6 n_6 Hs_6 (l_5++grp XM (zs)):=hG_6
    obtain ⟨l_6,hl6⟩:∃ l',l'=l_5++grp XM (zs):=⟨_,rfl⟩
    rw [← hl6] at hG_6
    have hle_6:=(hle7.trans hlz5).trans hlz6
    have hb_6:b2=false↔Y5 d.name∧(∀ p∈d.types,Wz false p)∧(∀ p∈d.constants,Wz false p)∧(∀ p∈d.predicates,Yj4 p)∧(∀ f∈d.functions,YmE f):=by rw [hbf,hbp,hb_4];simp only [and_assoc]
    have hys_6:b2=false→l_6=[Yi YB,YF [Yi Y7,Yi d.name]]++grp Yaz (WJ d.types)++grp XN (WJ d.constants)++grp XE (d.predicates.map Ygl)++grp XM (d.functions.map funX):=fun h0=>by rw [hl6,hl5,hys_4 (hbp.1 (hbf.1 h0).1).1,hys (hbf.1 h0).1,hzs h0]
    refine zW ?_;intros
    refine Yl (fun q σ fz' H'=>∃ (k2:Nat) (bb:Bool) (v:Value) (nn:Nat) (Hs:HP) (us:List Sexpr),k2≤n5∧q=n5 - k2∧σ=[(99,.int .i64 k2),(98,.int .i64 n5),(97,.slice A5 n5 c5),(5,.pointer (some ⟨g5,0,none⟩)),(4,.pointer (some ⟨g,0,none⟩)),(2,.pointer (some ⟨g2,0,none⟩)),(1,.pointer (some ⟨g1,0,none⟩))]∧Le fz_6 fz'∧H'=(g,wrO bb)::(g1,.cells #[.string d.name,.slice A1 n1 c1,.slice A2 n2 c2,.slice A3 n3 c3,.slice A4 n4 c4,.slice A5 n5 c5,.slice A6 n6 c6] 31 (0,0))::(g2,.cells #[.int .i64 0,.int .i64 0,.int .i64 0,.int .i64 0,.string ⟨#[]⟩,.slice none 0 0] 57 (0,0))::(g5,lsO v)::Hs∧Grow Yy 57 fz' v nn Hs (l_6++us)∧nn≤10+k2∧(bb=false↔b2=false∧∀ i,i<k2→∀ x,d.actions[i]?=some x→YkA x)∧(bb=false→us=(d.actions.take k2).map actX)) ⟨0,b2,_,_,Hs_6,[],Z0 _,rfl,rfl,Le.refl _,rfl,by rw [List.append_nil];exact hG_6,by omega,⟨fun h=>⟨h,fun i hi=>absurd hi Zi⟩,fun h=>h.1⟩,by simp⟩ Zw Zb ?_
    rintro q σ fzx H' ⟨k2,bbx,vx,nnx,Hsx,usx,hkx,rfl,rfl,hlex,rfl,hGx,hnnx,hbx,husx⟩
    obtain ⟨Avx,cvx,rfl,_,_⟩:=hGx.form
    have imx:=i5.mono (hle_6.trans hlex)
    refine zW ?_;intros
    refine zC (fun ecx=>?_) (fun ecx=>?_)
    ·obtain ⟨x,hx⟩:=Yn (l:=d.actions) (k:=k2) Zi
     have hxm:=Zm hx
     refine zWO ?_;intros
     refine Yk ?_
     refine Wp.cond_true Zz ?_
     refine Ybg ?_
     refine Yc0 ?_
     refine Yk (Wp.mid (fun σ fz' H'=>∃ (b6:Bool) (y6:Sexpr) (v:Value) (Hs:HP),σ=[(99,.int .i64 k2),(98,.int .i64 n5),(97,.slice A5 n5 c5),(5,.pointer (some ⟨g5,0,none⟩)),(4,.pointer (some ⟨g,0,none⟩)),(2,.pointer (some ⟨g2,0,none⟩)),(1,.pointer (some ⟨g1,0,none⟩))]∧Le fzx fz'∧H'=(g,wrO b6)::(g1,.cells #[.string d.name,.slice A1 n1 c1,.slice A2 n2 c2,.slice A3 n3 c3,.slice A4 n4 c4,.slice A5 n5 c5,.slice A6 n6 c6] 31 (0,0))::(g2,.cells #[.int .i64 0,.int .i64 0,.int .i64 0,.int .i64 0,.string ⟨#[]⟩,.slice none 0 0] 57 (0,0))::(g5,lsO v)::Hs∧Grow Yy 57 fz' v (nnx+1) Hs (l_6++(usx++ [y6]))∧(b6=false↔bbx=false∧YkA x)∧(b6=false→y6=actX x)) ?_ ?_)
     ·refine zW ?_;intros
      refine zI imx hx (fun p hp=>?_)
      refine zL hp ?_
      intro cs hcs
      obtain ⟨u0,u1,u2,u3,u4,u5,rfl,hRx⟩:=Xz hcs
      obtain ⟨U0,w0,z0,rfl,_⟩:=hRx.params
      obtain ⟨U1,w1,z1,rfl,_⟩:=hRx.pre.args
      obtain ⟨U2,w2,z2,rfl,_⟩:=hRx.pre.params
      obtain ⟨U3,w3,z3,rfl,_⟩:=hRx.pre.exprs
      obtain ⟨U4,w4,z4,rfl,_⟩:=hRx.pre.kids
      obtain ⟨U5,w5,z5,rfl,_⟩:=hRx.changes
      refine zW ?_;intros
      rename_i g14
      refine Wp.drawP [] (Hq:=[(g14,_),(g5,_)]) T.mixed Zj Zj Zb ?_
      refine zW ?_;intros
      refine Ye ?_
      refine zW ?_;intros
      refine Ye ?_
      refine Ye ?_
      refine Ye ?_
      refine Ye ?_
      refine zW ?_;intros
      refine Ye ?_
      refine PK.done ⟨by kernel_rfl,?_⟩
      refine YG Zz Zz Zz ?_ ?_
      ·refine Yd (Does.perm (List.Perm.swap _ _ _) (Ym [_] _ Zz Zz Zz (Yg4 hRx (hs.acts x hxm)) (fun v6 fz6 H6 hle6 hR6=>?_)))
       obtain ⟨_,b6,y6,rfl,⟨cs6,rfl,hr6⟩,hb6,hy6⟩:=hR6
       obtain ⟨vk6,rfl,hX6⟩:=Yh hr6
       refine ⟨(⟨hle6,Zx⟩),?_⟩
       refine Yb Zz Zz ?_
       refine Yd (Yc T (cs:=Ybp) Zz Zz Zz Zz Zz Zz Zz Zz (fun gz=>⟨(⟨hle6,Zx⟩),?_⟩))
       refine Yb Zz Zz ?_
       refine Yd (YS T (Hr:=[_,_,_,_,_,_]) Zz Zz Zz Zz Zz Zz Zz Zz (Zr _) (hGx.mono hle6) Ys (.head _) WG (by show _*72≤_;omega) Zi (fun v' Hs' hO'=>⟨(⟨hle6,Zx⟩),?_⟩))
       obtain ⟨gk,cap,cur,rfl,rfl,hB⟩:=hO'.b Zi
       refine YG Zz Zz Zz ?_ ?_
       ·refine PoS.qk (⟨hle6,Zx⟩) (YC T Zz Zz Zz Zz Zz rfl Zi Zi ?_)
        refine YG Zz Zz Zz ?_ ?_
        ·refine PoS.soft0 (Yx T (pre:=[_,_,_,_,_,_]) (L:=Yy) (j:=nnx) Zz Zz Zz rfl rfl Zz Ys (Yg hX6) hB Zi (fun cur1 hB1=>⟨(⟨hle6,Zx⟩),?_⟩))
         refine Yb Zz Zz ?_
         refine PoS.hard0 Zj (XU T (pre:=[_,_,_,_,_]) Zz Zz Zz rfl Zz Zz Zz ?_)
         refine Po.done ?_
         refine zW ?_;intros
         exact midN ⟨b6,y6,_,[_],rfl,hle6,rfl,hB1.grow.of (by rw [set1 hGx.len,List.append_assoc]) rfl,hb6,hy6⟩ Zw Zb
        ·refine PoS.hard0 Zj (XU T (pre:=[_,_,_,_,_]) Zz Zz Zz rfl Zz Zz Zz ?_)
         refine Yb Zz Zz ?_
         refine PoS.hard0 Zj (Yx T (pre:=[_,_,_,_,_,_]) (L:=Yy) (j:=nnx) Zz Zz Zz rfl rfl Zz Ys (Yg hX6) hB Zi (fun cur1 hB1=>?_))
         refine Po.done ?_
         refine zW ?_;intros
         exact midN ⟨b6,y6,_,[_],rfl,hle6,rfl,hB1.grow.of (by rw [set1 hGx.len,List.append_assoc]) rfl,hb6,hy6⟩ Zw Zb
       ·refine PoS.hard0 Zj (XU T (pre:=[_,_,_,_,_]) Zz Zz Zz rfl Zz Zz Zz ?_)
        refine Yb Zz Zz ?_
        refine PoS.hard Zj (DoesQ.does (YC T Zz Zz Zz Zz Zz rfl Zi Zi ?_))
        refine Yb Zz Zz ?_
        refine PoS.hard0 Zj (Yx T (pre:=[_,_,_,_,_,_]) (L:=Yy) (j:=nnx) Zz Zz Zz rfl rfl Zz Ys (Yg hX6) hB Zi (fun cur1 hB1=>?_))
        refine Po.done ?_
        refine zW ?_;intros
        exact midN ⟨b6,y6,_,[_],rfl,hle6,rfl,hB1.grow.of (by rw [set1 hGx.len,List.append_assoc]) rfl,hb6,hy6⟩ Zw Zb
      ·refine Yd (Yc T (cs:=Ybp) Zz Zz Zz Zz Zz Zz Zz Zz (fun gz=>⟨(⟨(Le.refl _),Zx⟩),?_⟩))
       refine Yb Zz Zz ?_
       refine Yd (Does.perm (@List.perm_middle _ _ [_,_] _).symm (Ym [_] _ Zz Zz Zz (Yg4 hRx (hs.acts x hxm)) (fun v6 fz6 H6 hle6 hR6=>?_)))
       obtain ⟨_,b6,y6,rfl,⟨cs6,rfl,hr6⟩,hb6,hy6⟩:=hR6
       obtain ⟨vk6,rfl,hX6⟩:=Yh hr6
       refine ⟨(⟨hle6,Zx⟩),?_⟩
       refine Yb Zz Zz ?_
       refine Yd (YS T (Hr:=[_,_,_,_,_,_]) Zz Zz Zz Zz Zz Zz Zz Zz (Zr _) (hGx.mono hle6) Ys (.tail _ (.head _)) WG (by show _*72≤_;omega) Zi (fun v' Hs' hO'=>⟨(⟨hle6,Zx⟩),?_⟩))
       obtain ⟨gk,cap,cur,rfl,rfl,hB⟩:=hO'.b Zi
       refine YG Zz Zz Zz ?_ ?_
       ·refine PoS.qk (⟨hle6,Zx⟩) (YC T Zz Zz Zz Zz Zz rfl Zi Zi ?_)
        refine YG Zz Zz Zz ?_ ?_
        ·refine PoS.soft0 (Yx T (pre:=[_,_,_,_,_,_]) (L:=Yy) (j:=nnx) Zz Zz Zz rfl rfl Zz Ys (Yg hX6) hB Zi (fun cur1 hB1=>⟨(⟨hle6,Zx⟩),?_⟩))
         refine Yb Zz Zz ?_
         refine PoS.hard0 Zj (XU T (pre:=[_,_,_,_,_]) Zz Zz Zz rfl Zz Zz Zz ?_)
         refine Po.done ?_
         refine zW ?_;intros
         exact midN ⟨b6,y6,_,[_],rfl,hle6,rfl,hB1.grow.of (by rw [set1 hGx.len,List.append_assoc]) rfl,hb6,hy6⟩ Zw Zb
        ·refine PoS.hard0 Zj (XU T (pre:=[_,_,_,_,_]) Zz Zz Zz rfl Zz Zz Zz ?_)
         refine Yb Zz Zz ?_
         refine PoS.hard0 Zj (Yx T (pre:=[_,_,_,_,_,_]) (L:=Yy) (j:=nnx) Zz Zz Zz rfl rfl Zz Ys (Yg hX6) hB Zi (fun cur1 hB1=>?_))
         refine Po.done ?_
         refine zW ?_;intros
         exact midN ⟨b6,y6,_,[_],rfl,hle6,rfl,hB1.grow.of (by rw [set1 hGx.len,List.append_assoc]) rfl,hb6,hy6⟩ Zw Zb
       ·refine PoS.hard0 Zj (XU T (pre:=[_,_,_,_,_]) Zz Zz Zz rfl Zz Zz Zz ?_)
        refine Yb Zz Zz ?_
        refine PoS.hard Zj (DoesQ.does (YC T Zz Zz Zz Zz Zz rfl Zi Zi ?_))
        refine Yb Zz Zz ?_
        refine PoS.hard0 Zj (Yx T (pre:=[_,_,_,_,_,_]) (L:=Yy) (j:=nnx) Zz Zz Zz rfl rfl Zz Ys (Yg hX6) hB Zi (fun cur1 hB1=>?_))
        refine Po.done ?_
        refine zW ?_;intros
        exact midN ⟨b6,y6,_,[_],rfl,hle6,rfl,hB1.grow.of (by rw [set1 hGx.len,List.append_assoc]) rfl,hb6,hy6⟩ Zw Zb
     ·rintro σ fz' H' ⟨b6,y6,v6,Hs6,rfl,hle6,rfl,hG6,hb6,hy6⟩
      refine zW ?_;intros
      refine Yz ⟨k2+1,b6,v6,nnx+1,Hs6,usx++ [y6],by omega,rfl,rfl,hlex.trans hle6,rfl,hG6,by omega,?_,fun h0=>?_⟩ Zi Zw Zb
      ·rw [hb6,hbx]
       exact ⟨fun h0=>⟨h0.1.1,YL h0.1.2 hx h0.2⟩,fun h0=>⟨⟨h0.1,fun i hi=>h0.2 i Zi⟩,h0.2 k2 Zi x hx⟩⟩
      ·rw [husx (hb6.1 h0).1,hy6 h0,List.take_add_one,hx];simp
    ·have hknx:n5=k2:=by omega
     subst hknx
     rw [show d.actions.take n5=d.actions from Zl Zi] at husx
     have hbxx:bbx=false↔b2=false∧∀ x∈d.actions,YkA x:=by rw [hbx];exact ⟨fun h0=>⟨h0.1,Xs h0.2 Zi⟩,fun h0=>⟨h0.1,fun i _ x hx=>h0.2 x (Zm hx)⟩⟩
     refine zW ?_;intros
     refine Yl (fun q σ fz' H'=>∃ (k7:Nat) (bb:Bool) (v:Value) (nn:Nat) (Hs:HP) (us:List Sexpr),k7≤n6∧q=n6 - k7∧σ=[(117,.int .i64 k7),(116,.int .i64 n6),(115,.slice A6 n6 c6),(5,.pointer (some ⟨g5,0,none⟩)),(4,.pointer (some ⟨g,0,none⟩)),(2,.pointer (some ⟨g2,0,none⟩)),(1,.pointer (some ⟨g1,0,none⟩))]∧Le fzx fz'∧H'=(g,wrO bb)::(g1,.cells #[.string d.name,.slice A1 n1 c1,.slice A2 n2 c2,.slice A3 n3 c3,.slice A4 n4 c4,.slice A5 n5 c5,.slice A6 n6 c6] 31 (0,0))::(g2,.cells #[.int .i64 0,.int .i64 0,.int .i64 0,.int .i64 0,.string ⟨#[]⟩,.slice none 0 0] 57 (0,0))::(g5,lsO v)::Hs∧Grow Yy 57 fz' v nn Hs ((l_6++usx)++us)∧nn≤nnx+k7∧(bb=false↔bbx=false∧∀ i,i<k7→∀ x,d.duratives[i]?=some x→Yku x)∧(bb=false→us=(d.duratives.take k7).map durX)) ⟨0,bbx,_,_,Hsx,[],Z0 _,rfl,rfl,Le.refl _,rfl,by rw [List.append_nil];exact hGx,by omega,⟨fun h=>⟨h,fun i hi=>absurd hi Zi⟩,fun h=>h.1⟩,by simp⟩ Zw Zb ?_
     rintro q σ fzy H' ⟨k7,bby,vy,nny,Hsy,usy,hky,rfl,rfl,hley,rfl,hGy,hnny,hby,husy⟩
     obtain ⟨Avy,cvy,rfl,_,_⟩:=hGy.form
     have imy:=i6.mono ((hle_6.trans hlex).trans hley)
     refine zW ?_;intros
     refine zC (fun ecy=>?_) (fun ecy=>?_)
     ·obtain ⟨x,hx⟩:=Yn (l:=d.duratives) (k:=k7) Zi
      have hxm:=Zm hx
      refine zWO ?_;intros
      refine Yk ?_
      refine Wp.cond_true Zz ?_
      refine Ybg ?_
      refine Yc0 ?_
      refine Yk (Wp.mid (fun σ fz' H'=>∃ (b6:Bool) (y6:Sexpr) (v:Value) (Hs:HP),σ=[(117,.int .i64 k7),(116,.int .i64 n6),(115,.slice A6 n6 c6),(5,.pointer (some ⟨g5,0,none⟩)),(4,.pointer (some ⟨g,0,none⟩)),(2,.pointer (some ⟨g2,0,none⟩)),(1,.pointer (some ⟨g1,0,none⟩))]∧Le fzy fz'∧H'=(g,wrO b6)::(g1,.cells #[.string d.name,.slice A1 n1 c1,.slice A2 n2 c2,.slice A3 n3 c3,.slice A4 n4 c4,.slice A5 n5 c5,.slice A6 n6 c6] 31 (0,0))::(g2,.cells #[.int .i64 0,.int .i64 0,.int .i64 0,.int .i64 0,.string ⟨#[]⟩,.slice none 0 0] 57 (0,0))::(g5,lsO v)::Hs∧Grow Yy 57 fz' v (nny+1) Hs ((l_6++usx)++(usy++ [y6]))∧(b6=false↔bby=false∧Yku x)∧(b6=false→y6=durX x)) ?_ ?_)
      ·refine zW ?_;intros
       refine zI imy hx (fun p hp=>?_)
       refine zL hp ?_
       intro cs hcs
       obtain ⟨u0,u1,u2,u3,u4,u5,u6,u7,u8,u9,u10,u11,u12,u13,u14,rfl,hRx⟩:=Xm hcs
       obtain ⟨U0,w0,z0,rfl,_⟩:=hRx.params
       obtain ⟨U1,w1,z1,rfl,_⟩:=hRx.start.args
       obtain ⟨U2,w2,z2,rfl,_⟩:=hRx.start.params
       obtain ⟨U3,w3,z3,rfl,_⟩:=hRx.start.exprs
       obtain ⟨U4,w4,z4,rfl,_⟩:=hRx.start.kids
       obtain ⟨U5,w5,z5,rfl,_⟩:=hRx.over.args
       obtain ⟨U6,w6,z6,rfl,_⟩:=hRx.over.params
       obtain ⟨U7,w7,z7,rfl,_⟩:=hRx.over.exprs
       obtain ⟨U8,w8,z8,rfl,_⟩:=hRx.over.kids
       obtain ⟨U9,w9,z9,rfl,_⟩:=hRx.fin.args
       obtain ⟨U10,w10,z10,rfl,_⟩:=hRx.fin.params
       obtain ⟨U11,w11,z11,rfl,_⟩:=hRx.fin.exprs
       obtain ⟨U12,w12,z12,rfl,_⟩:=hRx.fin.kids
       obtain ⟨U13,w13,z13,rfl,_⟩:=hRx.atStart
       obtain ⟨U14,w14,z14,rfl,_⟩:=hRx.atEnd
       refine zW ?_;intros
       rename_i g14
       refine Wp.drawP [] (Hq:=[(g14,_),(g5,_)]) T.mixed Zj Zj Zb ?_
       refine zW ?_;intros
       refine Ye ?_
       refine zW ?_;intros
       refine Ye ?_
       refine Ye ?_
       refine Ye ?_
       refine Ye ?_
       refine zW ?_;intros
       refine Ye ?_
       refine PK.done ⟨by kernel_rfl,?_⟩
       refine YG Zz Zz Zz ?_ ?_
       ·refine Yd (Does.perm (List.Perm.swap _ _ _) (Ym [_] _ Zz Zz Zz (Yep hRx (hs.durs x hxm)) (fun v6 fz6 H6 hle6 hR6=>?_)))
        obtain ⟨_,b6,y6,rfl,⟨cs6,rfl,hr6⟩,hb6,hy6⟩:=hR6
        obtain ⟨vk6,rfl,hX6⟩:=Yh hr6
        refine ⟨(⟨hle6,Zx⟩),?_⟩
        refine Yb Zz Zz ?_
        refine Yd (Yc T (cs:=Ybp) Zz Zz Zz Zz Zz Zz Zz Zz (fun gz=>⟨(⟨hle6,Zx⟩),?_⟩))
        refine Yb Zz Zz ?_
        refine Yd (YS T (Hr:=[_,_,_,_,_,_]) Zz Zz Zz Zz Zz Zz Zz Zz (Zr _) (hGy.mono hle6) Ys (.head _) WG (by show _*72≤_;omega) Zi (fun v' Hs' hO'=>⟨(⟨hle6,Zx⟩),?_⟩))
        obtain ⟨gk,cap,cur,rfl,rfl,hB⟩:=hO'.b Zi
        refine YG Zz Zz Zz ?_ ?_
        ·refine PoS.qk (⟨hle6,Zx⟩) (YC T Zz Zz Zz Zz Zz rfl Zi Zi ?_)
         refine YG Zz Zz Zz ?_ ?_
         ·refine PoS.soft0 (Yx T (pre:=[_,_,_,_,_,_]) (L:=Yy) (j:=nny) Zz Zz Zz rfl rfl Zz Ys (Yg hX6) hB Zi (fun cur1 hB1=>⟨(⟨hle6,Zx⟩),?_⟩))
          refine Yb Zz Zz ?_
          refine PoS.hard0 Zj (XU T (pre:=[_,_,_,_,_]) Zz Zz Zz rfl Zz Zz Zz ?_)
          refine Po.done ?_
          refine zW ?_;intros
          exact midN ⟨b6,y6,_,[_],rfl,hle6,rfl,hB1.grow.of (by rw [set1 hGy.len,List.append_assoc]) rfl,hb6,hy6⟩ Zw Zb
         ·refine PoS.hard0 Zj (XU T (pre:=[_,_,_,_,_]) Zz Zz Zz rfl Zz Zz Zz ?_)
          refine Yb Zz Zz ?_
          refine PoS.hard0 Zj (Yx T (pre:=[_,_,_,_,_,_]) (L:=Yy) (j:=nny) Zz Zz Zz rfl rfl Zz Ys (Yg hX6) hB Zi (fun cur1 hB1=>?_))
          refine Po.done ?_
          refine zW ?_;intros
          exact midN ⟨b6,y6,_,[_],rfl,hle6,rfl,hB1.grow.of (by rw [set1 hGy.len,List.append_assoc]) rfl,hb6,hy6⟩ Zw Zb
        ·refine PoS.hard0 Zj (XU T (pre:=[_,_,_,_,_]) Zz Zz Zz rfl Zz Zz Zz ?_)
         refine Yb Zz Zz ?_
         refine PoS.hard Zj (DoesQ.does (YC T Zz Zz Zz Zz Zz rfl Zi Zi ?_))
         refine Yb Zz Zz ?_
         refine PoS.hard0 Zj (Yx T (pre:=[_,_,_,_,_,_]) (L:=Yy) (j:=nny) Zz Zz Zz rfl rfl Zz Ys (Yg hX6) hB Zi (fun cur1 hB1=>?_))
         refine Po.done ?_
         refine zW ?_;intros
         exact midN ⟨b6,y6,_,[_],rfl,hle6,rfl,hB1.grow.of (by rw [set1 hGy.len,List.append_assoc]) rfl,hb6,hy6⟩ Zw Zb
       ·refine Yd (Yc T (cs:=Ybp) Zz Zz Zz Zz Zz Zz Zz Zz (fun gz=>⟨(⟨(Le.refl _),Zx⟩),?_⟩))
        refine Yb Zz Zz ?_
        refine Yd (Does.perm (@List.perm_middle _ _ [_,_] _).symm (Ym [_] _ Zz Zz Zz (Yep hRx (hs.durs x hxm)) (fun v6 fz6 H6 hle6 hR6=>?_)))
        obtain ⟨_,b6,y6,rfl,⟨cs6,rfl,hr6⟩,hb6,hy6⟩:=hR6
        obtain ⟨vk6,rfl,hX6⟩:=Yh hr6
        refine ⟨(⟨hle6,Zx⟩),?_⟩
        refine Yb Zz Zz ?_
        refine Yd (YS T (Hr:=[_,_,_,_,_,_]) Zz Zz Zz Zz Zz Zz Zz Zz (Zr _) (hGy.mono hle6) Ys (.tail _ (.head _)) WG (by show _*72≤_;omega) Zi (fun v' Hs' hO'=>⟨(⟨hle6,Zx⟩),?_⟩))
        obtain ⟨gk,cap,cur,rfl,rfl,hB⟩:=hO'.b Zi
        refine YG Zz Zz Zz ?_ ?_
        ·refine PoS.qk (⟨hle6,Zx⟩) (YC T Zz Zz Zz Zz Zz rfl Zi Zi ?_)
         refine YG Zz Zz Zz ?_ ?_
         ·refine PoS.soft0 (Yx T (pre:=[_,_,_,_,_,_]) (L:=Yy) (j:=nny) Zz Zz Zz rfl rfl Zz Ys (Yg hX6) hB Zi (fun cur1 hB1=>⟨(⟨hle6,Zx⟩),?_⟩))
          refine Yb Zz Zz ?_
          refine PoS.hard0 Zj (XU T (pre:=[_,_,_,_,_]) Zz Zz Zz rfl Zz Zz Zz ?_)
          refine Po.done ?_
          refine zW ?_;intros
          exact midN ⟨b6,y6,_,[_],rfl,hle6,rfl,hB1.grow.of (by rw [set1 hGy.len,List.append_assoc]) rfl,hb6,hy6⟩ Zw Zb
         ·refine PoS.hard0 Zj (XU T (pre:=[_,_,_,_,_]) Zz Zz Zz rfl Zz Zz Zz ?_)
          refine Yb Zz Zz ?_
          refine PoS.hard0 Zj (Yx T (pre:=[_,_,_,_,_,_]) (L:=Yy) (j:=nny) Zz Zz Zz rfl rfl Zz Ys (Yg hX6) hB Zi (fun cur1 hB1=>?_))
          refine Po.done ?_
          refine zW ?_;intros
          exact midN ⟨b6,y6,_,[_],rfl,hle6,rfl,hB1.grow.of (by rw [set1 hGy.len,List.append_assoc]) rfl,hb6,hy6⟩ Zw Zb
        ·refine PoS.hard0 Zj (XU T (pre:=[_,_,_,_,_]) Zz Zz Zz rfl Zz Zz Zz ?_)
         refine Yb Zz Zz ?_
         refine PoS.hard Zj (DoesQ.does (YC T Zz Zz Zz Zz Zz rfl Zi Zi ?_))
         refine Yb Zz Zz ?_
         refine PoS.hard0 Zj (Yx T (pre:=[_,_,_,_,_,_]) (L:=Yy) (j:=nny) Zz Zz Zz rfl rfl Zz Ys (Yg hX6) hB Zi (fun cur1 hB1=>?_))
         refine Po.done ?_
         refine zW ?_;intros
         exact midN ⟨b6,y6,_,[_],rfl,hle6,rfl,hB1.grow.of (by rw [set1 hGy.len,List.append_assoc]) rfl,hb6,hy6⟩ Zw Zb
      ·rintro σ fz' H' ⟨b6,y6,v6,Hs6,rfl,hle6,rfl,hG6,hb6,hy6⟩
       refine zW ?_;intros
       refine Yz ⟨k7+1,b6,v6,nny+1,Hs6,usy++ [y6],by omega,rfl,rfl,hley.trans hle6,rfl,hG6,by omega,?_,fun h0=>?_⟩ Zi Zw Zb
       ·rw [hb6,hby]
        exact ⟨fun h0=>⟨h0.1.1,YL h0.1.2 hx h0.2⟩,fun h0=>⟨⟨h0.1,fun i hi=>h0.2 i Zi⟩,h0.2 k7 Zi x hx⟩⟩
       ·rw [husy (hb6.1 h0).1,hy6 h0,List.take_add_one,hx];simp
     ·have hkny:n6=k7:=by omega
      subst hkny
      rw [show d.duratives.take n6=d.duratives from Zl Zi] at husy
      have hbxy:bby=false↔bbx=false∧∀ x∈d.duratives,Yku x:=by rw [hby];exact ⟨fun h0=>⟨h0.1,Xs h0.2 Zi⟩,fun h0=>⟨h0.1,fun i _ x hx=>h0.2 x (Zm hx)⟩⟩
      refine Seq.freezeAll (H1:=[(g,_),(g1,_),(g2,_),(g5,_)]) (H2:=Hsy) (Zr _) (fun fzr hlr hfr=>?_)
      obtain ⟨A2w,c2w,he5,hsl⟩:=hGy.sl hlr hfr Zi
      injection he5 with x1 x2 x3
      subst x1 x3
      have hX:=Wg hsl
      have hOk:bby=false↔Yck d:=by rw [hbxy,hbxx,hb_6];unfold Yck;simp only [and_assoc]
      have hEq:bby=false→YF ((l_6++usx)++usy)=domX d:=fun h0=>by rw [domX,hys_6 (hbxx.1 (hbxy.1 h0).1).1,husx (hbxy.1 h0).1,husy h0]
      unfold lsO wrO
      cases bby
      ·refine zW ?_;intros
       refine zb (WH (x:=YF ((l_6++usx)++usy)) hX) (fun f1=>?_) (fun f1=>?_)
       ·have hP:Yck d∧XVal (domX d):=⟨hOk.1 rfl,by rw [← hEq rfl];exact Zt f1⟩
        refine zW ?_;intros
        refine YQ T (vs:=[.agg #[_,_,_,_,_,_],.nilIface]) Zz ⟨⟨_,_,2,_,_,_,rfl,rfl,rfl,rfl,rfl,rfl⟩,rfl,trivial⟩ (fun fz3 hle3 hf3=>?_)
        exact ⟨rfl,_,_,by rw [if_pos hP];rfl,SxIs.mono hle3 ⟨_,rfl,Yg hX⟩,fun _=>hEq rfl⟩
       ·have hP:¬(Yck d∧XVal (domX d)):=fun h0=>Zf f1 (by rw [hEq rfl];exact h0.2)
        refine zW ?_;intros
        refine YQ T (vs:=[.agg #[_,_,_,_,_,_],_]) Zz ⟨⟨_,_,2,_,_,_,rfl,rfl,rfl,rfl,rfl,rfl⟩,rfl,trivial⟩ (fun fz3 hle3 hf3=>?_)
        exact ⟨rfl,_,_,by rw [if_neg hP,Yj Zh];rfl,YaB,fun h0=>absurd h0 hP⟩
      ·have hP:¬(Yck d∧XVal (domX d)):=fun h0=>by simpa using hOk.2 h0.1
       refine zW ?_;intros
       refine YQ T (vs:=[.agg #[_,_,_,_,_,_],_]) Zz ⟨⟨_,_,2,_,_,_,rfl,rfl,rfl,rfl,rfl,rfl⟩,rfl,trivial⟩ (fun fz3 hle3 hf3=>?_)
       exact ⟨rfl,_,_,by rw [if_neg hP,Yj Zh];rfl,YaB,fun h0=>absurd h0 hP⟩
def YbT:Bs:=⟨#[58,114,101,113,117,105,114,101,109,101,110,116,115]⟩
theorem pred_one:OneC predicateL:=by
 intro fz d cs h u hu
 obtain ⟨v1,rfl,hR⟩:=XD h
 obtain ⟨A1,n1,c1,rfl,_⟩:=hR.params
 simp at hu
 rcases hu with rfl | rfl<;>rfl
theorem func_one:OneC functionL:=by
 intro fz d cs h u hu
 obtain ⟨v1,rfl,hR⟩:=Y6 h
 obtain ⟨A1,n1,c1,rfl,_⟩:=hR.params
 simp at hu
 rcases hu with rfl | rfl | rfl | rfl<;>rfl
theorem act_one:OneC actionL:=by
 intro fz d cs h u hu
 obtain ⟨v1,v2,v3,v4,v5,v6,rfl,hR⟩:=Xz h
 obtain ⟨A1,n1,c1,rfl,_⟩:=hR.params
 obtain ⟨A2,n2,c2,rfl,_⟩:=hR.pre.args
 obtain ⟨A3,n3,c3,rfl,_⟩:=hR.pre.params
 obtain ⟨A4,n4,c4,rfl,_⟩:=hR.pre.exprs
 obtain ⟨A5,n5,c5,rfl,_⟩:=hR.pre.kids
 obtain ⟨A6,n6,c6,rfl,_⟩:=hR.changes
 simp at hu
 rcases hu with rfl | rfl | rfl | rfl | rfl | rfl | rfl | rfl | rfl | rfl<;>rfl
theorem dur_one:OneC durativeL:=by
 intro fz d cs h u hu
 obtain ⟨v1,v2,v3,v4,v5,v6,v7,v8,v9,v10,v11,v12,v13,v14,v15,rfl,hR⟩:=Xm h
 obtain ⟨A1,n1,c1,rfl,_⟩:=hR.params
 obtain ⟨A2,n2,c2,rfl,_⟩:=hR.start.args
 obtain ⟨A3,n3,c3,rfl,_⟩:=hR.start.params
 obtain ⟨A4,n4,c4,rfl,_⟩:=hR.start.exprs
 obtain ⟨A5,n5,c5,rfl,_⟩:=hR.start.kids
 obtain ⟨A6,n6,c6,rfl,_⟩:=hR.over.args
 obtain ⟨A7,n7,c7,rfl,_⟩:=hR.over.params
 obtain ⟨A8,n8,c8,rfl,_⟩:=hR.over.exprs
 obtain ⟨A9,n9,c9,rfl,_⟩:=hR.over.kids
 obtain ⟨B1,m1,d1,rfl,_⟩:=hR.fin.args
 obtain ⟨B2,m2,d2,rfl,_⟩:=hR.fin.params
 obtain ⟨B3,m3,d3,rfl,_⟩:=hR.fin.exprs
 obtain ⟨B4,m4,d4,rfl,_⟩:=hR.fin.kids
 obtain ⟨B5,m5,d5,rfl,_⟩:=hR.atStart
 obtain ⟨B6,m6,d6,rfl,_⟩:=hR.atEnd
 simp at hu
 rcases hu with rfl | rfl | rfl | rfl | rfl | rfl | rfl | rfl | rfl | rfl | rfl | rfl | rfl | rfl | rfl | rfl | rfl | rfl | rfl | rfl | rfl | rfl | rfl<;>rfl
def DomS (fz:FZ) (g:Nat) (d:Domain) (H:HP):Prop:=
 ∃ v1 v2 vp vf va vd Hp Hf Ha Hd,H.Perm ((g,.cells #[.string d.name,v1,v2,vp,vf,va,vd] 31 (0,0))::(Hp++(Hf++(Ha++Hd))))∧Short d.name∧IsSl paramL fz v1 d.types∧IsSl paramL fz v2 d.constants∧
  Grow predicateL 69 fz vp d.predicates.length Hp d.predicates∧Grow functionL 71 fz vf d.functions.length Hf d.functions∧Grow actionL 75 fz va d.actions.length Ha d.actions∧Grow durativeL 78 fz vd d.duratives.length Hd d.duratives
def secB (d:Domain) (w:Bs) (r:List Sexpr) (x:Sexpr):Except Int Domain:=
 if w=YbT then .ok d
 else if w=Yaz then (match parM false r [] [] with | .error c=>.error c | .ok l=>.ok {d with types:=l})
 else if w=XN then (match parM false r [] [] with | .error c=>.error c | .ok l=>.ok {d with constants:=l})
 else if w=XE then (match mapE Yix r with | .error c=>.error c | .ok l=>.ok {d with predicates:=d.predicates++l})
 else if w=XM then (match mapE funM r with | .error c=>.error c | .ok l=>.ok {d with functions:=d.functions++l})
 else if w=XS then (match actM x with | .error c=>.error c | .ok a=>.ok {d with actions:=d.actions++ [a]})
 else if w=Y3 then (match durM x with | .error c=>.error c | .ok a=>.ok {d with duratives:=d.duratives++ [a]})
 else .error 2
def SecR (g:Nat) (m:Except Int Domain) (v:Value) (fz:FZ) (H:HP):Prop:=match m with
 | .error c=>v=errV c∧c≠0∧H=[]
 | .ok d=>v=.nilIface∧DomS fz g d H
variable {g:Nat}
theorem YbG {m:Except Int Domain} {c:Int} (h:m=.error c) (hc:c≠0):SecR g m (.iface 65 (.int .i64 c)) fz []:=by rw [h];exact ⟨(Yj hc).symm,hc,rfl⟩
section
variable {α:Type} {a b c d:List α}
theorem pm_f:(a++(b++(c++d))).Perm ((a++(c++d))++b):=by
 rw [List.append_assoc]
 exact List.Perm.append_left a Zq
theorem pm_a:(a++(b++(c++d))).Perm ((a++(b++d))++c):=by
 rw [List.append_assoc,List.append_assoc]
 exact List.Perm.append_left a (List.Perm.append_left b Zq)
theorem pm_d:(a++(b++(c++d))).Perm ((a++(b++c))++d):=by
 rw [List.append_assoc,List.append_assoc]
end
variable {H:HP} {vk:Value}
set_option maxHeartbeats 16000000 in
theorem Yle {x:Sexpr} {w:Bs} {r:List Sexpr} (hh:XF x=some (w,r)) (hs:XSm x) (hD:DomS fz g d H) (hR:YW fz x vk)
 (b1:d.predicates.length+r.length≤100000000) (b2:d.functions.length+r.length≤100000000) (b3:d.actions.length≤100000000) (b4:d.duratives.length≤100000000):
 GFn prog 39 [.pointer (some ⟨g,0,none⟩),.agg #[.int .i64 x.kind,.int .i64 x.value,.int .i64 x.line,.int .i64 x.column,.string x.text,vk]] fz H (fun v fz' H'=>Le fz fz'∧SecR g (secB d w r x) v fz' H'):=by
 obtain ⟨v1,v2,vp,vf,va,vd,Hp,Hf,Ha,Hd,hperm,hnm,ht,hcn,hgp,hgf,hga,hgd⟩:=hD
 obtain ⟨y0,hk,rfl,hk3,hk1⟩:=XL hh
 have hrs:=Wm hs hh
 have hRx:=hR
 obtain ⟨A,n,c,rfl,ik⟩:=hR.kids
 have hl:=ik.len
 rw [hk,List.length_cons] at hl
 have hk0:x.kids[0]?=some y0:=by rw [hk];rfl
 obtain ⟨Xp,xp,rfl,_,_⟩:=hgp.form
 obtain ⟨Xf,xf,rfl,_,_⟩:=hgf.form
 obtain ⟨Xa,xa,rfl,_,_⟩:=hga.form
 obtain ⟨Xd,xd,rfl,_,_⟩:=hgd.form
 obtain ⟨T1,t1,z1,rfl,it1⟩:=ht
 obtain ⟨T2,t2,z2,rfl,it2⟩:=hcn
 generalize hM:secB d y0.text r x=M
 unfold secB at hM
 refine zF Tryz.func39 Tryz.ntmps39 (fun w0=>?_)
 refine Wp.perm hperm.symm ?_
 refine zW ?_;intros
 rename_i g3
 refine zG ?_;refine Xu (j:=1) T Zz Zz Zz Zz Zz Zz ik Zi (fun A' hA'=>?_)
 rw [hk,List.drop_one,List.tail_cons] at hA'
 have hrl:=hA'.len
 refine zW ?_;intros
 refine zI ik hk0 (fun p hp=>?_)
 refine zW ?_;intros
 refine zH hp.Sexpr_text (fun hst=>?_)
 refine zW ?_;intros
 refine zC (fun c0=>?_) (fun c0=>?_)
 ·rw [if_pos (show y0.text=YbT from c0)] at hM
  subst hM
  refine zW ?_;intros
  exact ret1 (H':=(g,_)::(Hp++(Hf++(Ha++Hd)))) rfl rfl Zb ⟨Le.refl _,rfl,_,_,_,_,_,_,Hp,Hf,Ha,Hd,Zr _,hnm,⟨_,_,_,rfl,it1⟩,⟨_,_,_,rfl,it2⟩,hgp,hgf,hga,hgd⟩
 rw [if_neg (show ¬y0.text=YbT from c0)] at hM
 refine zW ?_;intros
 refine zC (fun c1=>?_) (fun c1=>?_)
 ·rw [if_pos (show y0.text=Yaz from c1)] at hM
  refine zW ?_;intros
  refine Ya Zz (Ym [] _ Zz Zz Zz (Yar (b:=false) hA' Zi) (fun r5 fz5 H5 hle5 hR5=>?_))
  obtain ⟨rfl,hR5⟩:=hR5
  rw [List.nil_append]
  cases hps:parM false r [] [] with
  | error c=>
   rw [hps] at hM hR5
   obtain ⟨rfl,hc⟩:=hR5
   subst hM
   rw [Yj hc]
   refine zW ?_;intros
   refine zI (ik.mono hle5) hk0 (fun p2 hp2=>?_)
   refine zW ?_;intros
   refine zH hp2.Sexpr_text (fun hst2=>?_)
   refine zW ?_;intros
   exact ret1 (H':=[]) rfl rfl Zb ⟨hle5,YbG rfl hc⟩
  | ok l=>
   rw [hps] at hM hR5
   obtain ⟨A5,n5,c5,rfl,il⟩:=hR5
   subst hM
   refine zW ?_;intros
   refine zI (ik.mono hle5) hk0 (fun p2 hp2=>?_)
   refine zW ?_;intros
   refine zH hp2.Sexpr_text (fun hst2=>?_)
   refine zW ?_;intros
   exact ret1 (H':=(g,_)::(Hp++(Hf++(Ha++Hd)))) rfl rfl Zb ⟨hle5,rfl,_,_,_,_,_,_,Hp,Hf,Ha,Hd,Zr _,hnm,⟨_,_,_,rfl,il⟩,⟨_,_,_,rfl,it2.mono hle5⟩,hgp.mono hle5,hgf.mono hle5,hga.mono hle5,hgd.mono hle5⟩
 rw [if_neg (show ¬y0.text=Yaz from c1)] at hM
 refine zW ?_;intros
 refine zC (fun c2=>?_) (fun c2=>?_)
 ·rw [if_pos (show y0.text=XN from c2)] at hM
  refine zW ?_;intros
  refine Ya Zz (Ym [] _ Zz Zz Zz (Yar (b:=false) hA' Zi) (fun r5 fz5 H5 hle5 hR5=>?_))
  obtain ⟨rfl,hR5⟩:=hR5
  rw [List.nil_append]
  cases hps:parM false r [] [] with
  | error c=>
   rw [hps] at hM hR5
   obtain ⟨rfl,hc⟩:=hR5
   subst hM
   rw [Yj hc]
   refine zW ?_;intros
   refine zI (ik.mono hle5) hk0 (fun p2 hp2=>?_)
   refine zW ?_;intros
   refine zH hp2.Sexpr_text (fun hst2=>?_)
   refine zW ?_;intros
   exact ret1 (H':=[]) rfl rfl Zb ⟨hle5,YbG rfl hc⟩
  | ok l=>
   rw [hps] at hM hR5
   obtain ⟨A5,n5,c5,rfl,il⟩:=hR5
   subst hM
   refine zW ?_;intros
   refine zI (ik.mono hle5) hk0 (fun p2 hp2=>?_)
   refine zW ?_;intros
   refine zH hp2.Sexpr_text (fun hst2=>?_)
   refine zW ?_;intros
   exact ret1 (H':=(g,_)::(Hp++(Hf++(Ha++Hd)))) rfl rfl Zb ⟨hle5,rfl,_,_,_,_,_,_,Hp,Hf,Ha,Hd,Zr _,hnm,⟨_,_,_,rfl,it1.mono hle5⟩,⟨_,_,_,rfl,il⟩,hgp.mono hle5,hgf.mono hle5,hga.mono hle5,hgd.mono hle5⟩
 rw [if_neg (show ¬y0.text=XN from c2)] at hM
 refine zW ?_;intros
 refine zC (fun c3=>?_) (fun c3=>?_)
 ·rw [if_pos (show y0.text=XE from c3)] at hM
  refine Seq.perm (List.Perm.cons _ (List.Perm.cons _ Zq.symm)) ?_
  generalize hReq:Hf++(Ha++Hd)=R
  have hRR:∀ Hs:HP,(R++Hs).Perm (Hs++(Hf++(Ha++Hd))):=fun Hs=>by rw [← hReq];exact Zq.symm
  refine zW ?_;intros
  refine Yl (fun q σ fz' H'=>∃ (k:Nat) (v:Value) (Hs:HP) (out:List Predicate),k≤n - 1∧q=n - 1 - k∧σ=[(57,.int .i64 k),(56,.int .i64 (n - 1:Nat)),(55,.slice A' (n - 1) (c - 1)),(0,.pointer (some ⟨g,0,none⟩))]∧Le fz fz'∧H'=(g,.cells #[.string d.name,.slice T1 t1 z1,.slice T2 t2 z2,v,.slice Xf d.functions.length xf,.slice Xa d.actions.length xa,.slice Xd d.duratives.length xd] 31 (0,0))::(R++Hs)∧Grow predicateL 69 fz' v (d.predicates.length+k) Hs (d.predicates++out)∧mapE Yix r=exA out (mapE Yix (r.drop k))) ⟨0,_,_,[],Z0 _,rfl,rfl,Le.refl _,rfl,by rw [List.append_nil];exact hgp,by rw [Ycg];rfl⟩ Zw Zb ?_
  rintro q σ fz' H' ⟨k,v,Hs,out,hkn,rfl,rfl,hle,rfl,hG,hT⟩
  obtain ⟨Av,cv,rfl,_,_⟩:=hG.form
  refine zW ?_;intros
  refine zC (fun e1=>?_) (fun e1=>?_)
  ·obtain ⟨z,hz⟩:=Yn (l:=r) (k:=k) Zi
   refine zW ?_;intros
   refine zI (hA'.mono hle) hz (fun p2 hp2=>?_)
   refine zL hp2 ?_
   intro cs hcs
   obtain ⟨vz,rfl,hRz⟩:=Yh hcs
   have hRz':=hRz
   obtain ⟨Az,nz,cz,rfl,iz⟩:=hRz.kids
   refine zW ?_;intros
   rename_i g9
   refine Ya Zz (Ym [] _ Zz Zz Zz (Yiw (X7 hs hh (Zm hz)) hRz') (fun r5 fz5 H5 hle5 hR5=>?_))
   obtain ⟨rfl,y,cs5,hy5,hR5⟩:=hR5
   rw [List.nil_append]
   have hy5':=hy5
   obtain ⟨x1,rfl,hY⟩:=XD hy5'
   obtain ⟨E1,e1,q1,rfl,_⟩:=hY.params
   cases hx:Yix z with
   | error c=>
    rw [hx] at hR5
    obtain ⟨rfl,hc⟩:=hR5
    have hm:=Yed hz hT hx
    rw [hm] at hM
    subst hM
    rw [Yj hc]
    refine zW ?_;intros
    exact ret1 (H':=[]) rfl rfl Zb ⟨hle.trans hle5,YbG rfl hc⟩
   | ok y2=>
    rw [hx] at hR5
    obtain ⟨rfl,rfl⟩:=hR5
    have hm:=Ygr hz hT hx
    have hG:=hG.mono hle5
    refine zWN ?_;intros
    rename_i g10
    refine Wp.drawP [8,9] (Hq:=[_,_,_]) T.mixed Zj Zj Zb ?_
    refine zW ?_;intros
    refine Ye ?_
    refine Ye ?_
    refine PK.p Zz (fun fz'=>by first | exact X5 Zz rfl | exact Xx Zz rfl | exact YZ T Zz Zz Zz Zz Zz Zz rfl | exact Yaf Zz Zz (Xw Zi) rfl | exact YU T Zz Zz Zz rfl) ?_
    refine PK.p Zz (fun fz'=>by first | exact X5 Zz rfl | exact Xx Zz rfl | exact YZ T Zz Zz Zz Zz Zz Zz rfl | exact Yaf Zz Zz (Xw Zi) rfl | exact YU T Zz Zz Zz rfl) ?_
    refine Ye ?_
    refine PK.done ⟨by kernel_rfl,?_⟩
    refine Yb Zz Zz ?_
    refine Yd (Yc T (cs:=[.string y2.name,.slice E1 e1 q1]) Zz Zz Zz Zz Zz Zz Zz Zz (fun gb=>⟨(⟨(Le.refl _),Zx⟩),?_⟩))
    refine Yb Zz Zz ?_
    refine Yd (YS T (d:=y2) (cs:=[.string y2.name,.slice E1 e1 q1]) (Hr:=(gb,_)::(g10,_)::(g9,_)::(g,_)::R) Zz Zz Zz Zz Zz Zz Zz Zz (Zr _) hG pred_one (.head _) hy5 (by show _*40≤_;omega) Zi (fun v' Hs' hG'=>⟨(⟨(Le.refl _),Zx⟩),?_⟩))
    obtain ⟨Av',cv',rfl,_,_⟩:=hG'.form
    refine Yb Zz Zz ?_
    refine PoS.hard0 Zj (Wl T Zz Zz Zz Zz Zz Zz ?_)
    refine Po.done ?_
    refine zW ?_;intros
    exact Yz (H':=(g,_)::(R++Hs')) ⟨k+1,_,Hs',out++ [y2],by omega,rfl,rfl,hle.trans hle5,rfl,hG'.of (by rw [List.append_assoc]) Zi,hm⟩ Zi Zw Zb
  ·have hm:=Yee Zi hT
   rw [hm] at hM
   subst hM
   refine zW ?_;intros
   have hlen:=hG.len
   rw [← hlen] at hG ⊢
   exact ret1 (H':=(g,_)::(R++Hs)) rfl rfl Zb ⟨hle,rfl,_,_,_,_,_,_,Hs,Hf,Ha,Hd,List.Perm.cons _ (hRR Hs),hnm,⟨_,_,_,rfl,it1.mono hle⟩,⟨_,_,_,rfl,it2.mono hle⟩,hG,hgf.mono hle,hga.mono hle,hgd.mono hle⟩
 rw [if_neg (show ¬y0.text=XE from c3)] at hM
 refine zW ?_;intros
 refine zC (fun c4=>?_) (fun c4=>?_)
 ·rw [if_pos (show y0.text=XM from c4)] at hM
  refine Seq.perm (List.Perm.cons _ (List.Perm.cons _ (pm_f).symm)) ?_
  generalize hReq:Hp++(Ha++Hd)=R
  have hRR:∀ Hs:HP,(R++Hs).Perm (Hp++(Hs++(Ha++Hd))):=fun Hs=>by rw [← hReq];exact (pm_f).symm
  refine zW ?_;intros
  refine Yl (fun q σ fz' H'=>∃ (k:Nat) (v:Value) (Hs:HP) (out:List Function),k≤n - 1∧q=n - 1 - k∧σ=[(84,.int .i64 k),(83,.int .i64 (n - 1:Nat)),(82,.slice A' (n - 1) (c - 1)),(0,.pointer (some ⟨g,0,none⟩))]∧Le fz fz'∧H'=(g,.cells #[.string d.name,.slice T1 t1 z1,.slice T2 t2 z2,.slice Xp d.predicates.length xp,v,.slice Xa d.actions.length xa,.slice Xd d.duratives.length xd] 31 (0,0))::(R++Hs)∧Grow functionL 71 fz' v (d.functions.length+k) Hs (d.functions++out)∧mapE funM r=exA out (mapE funM (r.drop k))) ⟨0,_,_,[],Z0 _,rfl,rfl,Le.refl _,rfl,by rw [List.append_nil];exact hgf,by rw [Ycg];rfl⟩ Zw Zb ?_
  rintro q σ fz' H' ⟨k,v,Hs,out,hkn,rfl,rfl,hle,rfl,hG,hT⟩
  obtain ⟨Av,cv,rfl,_,_⟩:=hG.form
  refine zW ?_;intros
  refine zC (fun e1=>?_) (fun e1=>?_)
  ·obtain ⟨z,hz⟩:=Yn (l:=r) (k:=k) Zi
   refine zW ?_;intros
   refine zI (hA'.mono hle) hz (fun p2 hp2=>?_)
   refine zL hp2 ?_
   intro cs hcs
   obtain ⟨vz,rfl,hRz⟩:=Yh hcs
   have hRz':=hRz
   obtain ⟨Az,nz,cz,rfl,iz⟩:=hRz.kids
   refine zW ?_;intros
   rename_i g9
   refine Ya Zz (Ym [] _ Zz Zz Zz (Yko (X7 hs hh (Zm hz)) hRz') (fun r5 fz5 H5 hle5 hR5=>?_))
   obtain ⟨rfl,y,cs5,hy5,hR5⟩:=hR5
   rw [List.nil_append]
   have hy5':=hy5
   obtain ⟨x1,rfl,hY⟩:=Y6 hy5'
   obtain ⟨E1,e1,q1,rfl,_⟩:=hY.params
   cases hx:funM z with
   | error c=>
    rw [hx] at hR5
    obtain ⟨rfl,hc⟩:=hR5
    have hm:=Yed hz hT hx
    rw [hm] at hM
    subst hM
    rw [Yj hc]
    refine zW ?_;intros
    exact ret1 (H':=[]) rfl rfl Zb ⟨hle.trans hle5,YbG rfl hc⟩
   | ok y2=>
    rw [hx] at hR5
    obtain ⟨rfl,rfl⟩:=hR5
    have hm:=Ygr hz hT hx
    have hG:=hG.mono hle5
    refine zWN ?_;intros
    rename_i g10
    refine Wp.drawP [8,9] (Hq:=[_,_,_]) T.mixed Zj Zj Zb ?_
    refine zW ?_;intros
    refine Ye ?_
    refine Ye ?_
    refine PK.p Zz (fun fz'=>by first | exact X5 Zz rfl | exact Xx Zz rfl | exact YZ T Zz Zz Zz Zz Zz Zz rfl | exact Yaf Zz Zz (Xw Zi) rfl | exact YU T Zz Zz Zz rfl) ?_
    refine PK.p Zz (fun fz'=>by first | exact X5 Zz rfl | exact Xx Zz rfl | exact YZ T Zz Zz Zz Zz Zz Zz rfl | exact Yaf Zz Zz (Xw Zi) rfl | exact YU T Zz Zz Zz rfl) ?_
    refine Ye ?_
    refine PK.done ⟨by kernel_rfl,?_⟩
    refine Yb Zz Zz ?_
    refine Yd (Yc T (cs:=[.string y2.name,.slice E1 e1 q1,.int .i64 y2.lo,.int .i64 y2.hi]) Zz Zz Zz Zz Zz Zz Zz Zz (fun gb=>⟨(⟨(Le.refl _),Zx⟩),?_⟩))
    refine Yb Zz Zz ?_
    refine Yd (YS T (d:=y2) (cs:=[.string y2.name,.slice E1 e1 q1,.int .i64 y2.lo,.int .i64 y2.hi]) (Hr:=(gb,_)::(g10,_)::(g9,_)::(g,_)::R) Zz Zz Zz Zz Zz Zz Zz Zz (Zr _) hG func_one (.head _) hy5 (by show _*56≤_;omega) Zi (fun v' Hs' hG'=>⟨(⟨(Le.refl _),Zx⟩),?_⟩))
    obtain ⟨Av',cv',rfl,_,_⟩:=hG'.form
    refine Yb Zz Zz ?_
    refine PoS.hard0 Zj (Wl T Zz Zz Zz Zz Zz Zz ?_)
    refine Po.done ?_
    refine zW ?_;intros
    exact Yz (H':=(g,_)::(R++Hs')) ⟨k+1,_,Hs',out++ [y2],by omega,rfl,rfl,hle.trans hle5,rfl,hG'.of (by rw [List.append_assoc]) Zi,hm⟩ Zi Zw Zb
  ·have hm:=Yee Zi hT
   rw [hm] at hM
   subst hM
   refine zW ?_;intros
   have hlen:=hG.len
   rw [← hlen] at hG ⊢
   exact ret1 (H':=(g,_)::(R++Hs)) rfl rfl Zb ⟨hle,rfl,_,_,_,_,_,_,Hp,Hs,Ha,Hd,List.Perm.cons _ (hRR Hs),hnm,⟨_,_,_,rfl,it1.mono hle⟩,⟨_,_,_,rfl,it2.mono hle⟩,hgp.mono hle,hG,hga.mono hle,hgd.mono hle⟩
 rw [if_neg (show ¬y0.text=XM from c4)] at hM
 refine zW ?_;intros
 refine zC (fun c5=>?_) (fun c5=>?_)
 ·rw [if_pos (show y0.text=XS from c5)] at hM
  refine Seq.perm (List.Perm.cons _ (List.Perm.cons _ (pm_a).symm)) ?_
  generalize hReq:Hp++(Hf++Hd)=R
  have hRR:∀ Hs:HP,(R++Hs).Perm (Hp++(Hf++(Hs++Hd))):=fun Hs=>by rw [← hReq];exact (pm_a).symm
  refine zW ?_;intros
  refine Ya Zz (Ym [] _ Zz Zz Zz (action_f hs hRx) (fun r5 fz5 H5 hle5 hR5=>?_))
  obtain ⟨rfl,y,cs5,hy5,hR5⟩:=hR5
  rw [List.nil_append]
  have hy5':=hy5
  obtain ⟨x1,x2,x3,x4,x5,x6,rfl,hY⟩:=Xz hy5'
  obtain ⟨E1,e1,q1,rfl,_⟩:=hY.params
  obtain ⟨E2,e2,q2,rfl,_⟩:=hY.pre.args
  obtain ⟨E3,e3,q3,rfl,_⟩:=hY.pre.params
  obtain ⟨E4,e4,q4,rfl,_⟩:=hY.pre.exprs
  obtain ⟨E5,e5,q5,rfl,_⟩:=hY.pre.kids
  obtain ⟨E6,e6,q6,rfl,_⟩:=hY.changes
  have hG:=hga.mono hle5
  obtain ⟨ev,rfl,hev⟩:∃ ev,r5=.tuple #[.agg (List.toArray [.string y.name,.slice E1 e1 q1,.int .i64 y.cost,.string y.pre.op,.string y.pre.name,.slice E2 e2 q2,.slice E3 e3 q3,.slice E4 e4 q4,.slice E5 e5 q5,.slice E6 e6 q6]),ev]∧(match actM x with | .error c=>ev=errV c∧c≠0 | .ok b=>b=y∧ev=.nilIface):=by
   cases hx:actM x with
   | error c=>rw [hx] at hR5;exact ⟨_,hR5.1,rfl,hR5.2⟩
   | ok b=>rw [hx] at hR5;exact ⟨_,hR5.2,hR5.1,rfl⟩
  refine zWN ?_;intros
  rename_i g16
  refine Wp.drawP [8,9] (Hq:=[_,_,_]) T.mixed Zj Zj Zb ?_
  refine zW ?_;intros
  refine Ye ?_
  refine Ye ?_
  refine PK.p Zz (fun fz'=>by first | exact X5 Zz rfl | exact Xx Zz rfl | exact YZ T Zz Zz Zz Zz Zz Zz rfl | exact Yaf Zz Zz (Xw Zi) rfl | exact YU T Zz Zz Zz rfl) ?_
  refine PK.p Zz (fun fz'=>by first | exact X5 Zz rfl | exact Xx Zz rfl | exact YZ T Zz Zz Zz Zz Zz Zz rfl | exact Yaf Zz Zz (Xw Zi) rfl | exact YU T Zz Zz Zz rfl) ?_
  refine Ye ?_
  refine PK.done ⟨by kernel_rfl,?_⟩
  refine Yb Zz Zz ?_
  refine Yd (Yc T (cs:=[.string y.name,.slice E1 e1 q1,.int .i64 y.cost,.string y.pre.op,.string y.pre.name,.slice E2 e2 q2,.slice E3 e3 q3,.slice E4 e4 q4,.slice E5 e5 q5,.slice E6 e6 q6]) Zz Zz Zz Zz Zz Zz Zz Zz (fun gb=>⟨(⟨(Le.refl _),Zx⟩),?_⟩))
  refine Yb Zz Zz ?_
  refine Yd (YS T (d:=y) (cs:=[.string y.name,.slice E1 e1 q1,.int .i64 y.cost,.string y.pre.op,.string y.pre.name,.slice E2 e2 q2,.slice E3 e3 q3,.slice E4 e4 q4,.slice E5 e5 q5,.slice E6 e6 q6]) (Hr:=(gb,_)::(g16,_)::(g3,_)::(g,_)::R) Zz Zz Zz Zz Zz Zz Zz Zz (Zr _) hG act_one (.head _) hy5 (by show _*200≤_;omega) Zi (fun v' Hs' hG'=>⟨(⟨(Le.refl _),Zx⟩),?_⟩))
  obtain ⟨Av',cv',rfl,_,_⟩:=hG'.form
  refine Yb Zz Zz ?_
  refine PoS.hard0 Zj (Wl T Zz Zz Zz Zz Zz Zz ?_)
  refine Po.done ?_
  refine zW ?_;intros
  cases hx:actM x with
  | error c=>
   rw [hx] at hev hM
   obtain ⟨rfl,hc⟩:=hev
   subst hM
   exact ret1 (H':=[]) rfl rfl Zb ⟨hle5,by rw [Yj hc];exact YbG rfl hc⟩
  | ok b=>
   rw [hx] at hev hM
   obtain ⟨rfl,rfl⟩:=hev
   subst hM
   have hlen:=hG'.len
   rw [← hlen] at hG' ⊢
   exact ret1 (H':=(g,_)::(R++Hs')) rfl rfl Zb ⟨hle5,rfl,_,_,_,_,_,_,Hp,Hf,Hs',Hd,List.Perm.cons _ (hRR Hs'),hnm,⟨_,_,_,rfl,it1.mono hle5⟩,⟨_,_,_,rfl,it2.mono hle5⟩,hgp.mono hle5,hgf.mono hle5,hG',hgd.mono hle5⟩
 rw [if_neg (show ¬y0.text=XS from c5)] at hM
 refine zW ?_;intros
 refine zC (fun c6=>?_) (fun c6=>?_)
 ·rw [if_pos (show y0.text=Y3 from c6)] at hM
  refine Seq.perm (List.Perm.cons _ (List.Perm.cons _ (pm_d).symm)) ?_
  generalize hReq:Hp++(Hf++Ha)=R
  have hRR:∀ Hs:HP,(R++Hs).Perm (Hp++(Hf++(Ha++Hs))):=fun Hs=>by rw [← hReq];exact (pm_d).symm
  refine zW ?_;intros
  refine Ya Zz (Ym [] _ Zz Zz Zz (Ykt hs hRx) (fun r5 fz5 H5 hle5 hR5=>?_))
  obtain ⟨rfl,y,cs5,hy5,hR5⟩:=hR5
  rw [List.nil_append]
  have hy5':=hy5
  obtain ⟨x1,x2,x3,x4,x5,x6,x7,x8,x9,x10,x11,x12,x13,x14,x15,rfl,hY⟩:=Xm hy5'
  obtain ⟨E1,e1,q1,rfl,_⟩:=hY.params
  obtain ⟨E2,e2,q2,rfl,_⟩:=hY.start.args
  obtain ⟨E3,e3,q3,rfl,_⟩:=hY.start.params
  obtain ⟨E4,e4,q4,rfl,_⟩:=hY.start.exprs
  obtain ⟨E5,e5,q5,rfl,_⟩:=hY.start.kids
  obtain ⟨E6,e6,q6,rfl,_⟩:=hY.over.args
  obtain ⟨E7,e7,q7,rfl,_⟩:=hY.over.params
  obtain ⟨E8,e8,q8,rfl,_⟩:=hY.over.exprs
  obtain ⟨E9,e9,q9,rfl,_⟩:=hY.over.kids
  obtain ⟨E10,e10,q10,rfl,_⟩:=hY.fin.args
  obtain ⟨E11,e11,q11,rfl,_⟩:=hY.fin.params
  obtain ⟨E12,e12,q12,rfl,_⟩:=hY.fin.exprs
  obtain ⟨E13,e13,q13,rfl,_⟩:=hY.fin.kids
  obtain ⟨E14,e14,q14,rfl,_⟩:=hY.atStart
  obtain ⟨E15,e15,q15,rfl,_⟩:=hY.atEnd
  have hG:=hgd.mono hle5
  obtain ⟨ev,rfl,hev⟩:∃ ev,r5=.tuple #[.agg (List.toArray [.string y.name,.slice E1 e1 q1,.int .i64 y.duration,.string y.start.op,.string y.start.name,.slice E2 e2 q2,.slice E3 e3 q3,.slice E4 e4 q4,.slice E5 e5 q5,.string y.over.op,.string y.over.name,.slice E6 e6 q6,.slice E7 e7 q7,.slice E8 e8 q8,.slice E9 e9 q9,.string y.fin.op,.string y.fin.name,.slice E10 e10 q10,.slice E11 e11 q11,.slice E12 e12 q12,.slice E13 e13 q13,.slice E14 e14 q14,.slice E15 e15 q15]),ev]∧(match durM x with | .error c=>ev=errV c∧c≠0 | .ok b=>b=y∧ev=.nilIface):=by
   cases hx:durM x with
   | error c=>rw [hx] at hR5;exact ⟨_,hR5.1,rfl,hR5.2⟩
   | ok b=>rw [hx] at hR5;exact ⟨_,hR5.2,hR5.1,rfl⟩
  refine zWN ?_;intros
  rename_i g16
  refine Wp.drawP [8,9] (Hq:=[_,_,_]) T.mixed Zj Zj Zb ?_
  refine zW ?_;intros
  refine Ye ?_
  refine Ye ?_
  refine PK.p Zz (fun fz'=>by first | exact X5 Zz rfl | exact Xx Zz rfl | exact YZ T Zz Zz Zz Zz Zz Zz rfl | exact Yaf Zz Zz (Xw Zi) rfl | exact YU T Zz Zz Zz rfl) ?_
  refine PK.p Zz (fun fz'=>by first | exact X5 Zz rfl | exact Xx Zz rfl | exact YZ T Zz Zz Zz Zz Zz Zz rfl | exact Yaf Zz Zz (Xw Zi) rfl | exact YU T Zz Zz Zz rfl) ?_
  refine Ye ?_
  refine PK.done ⟨by kernel_rfl,?_⟩
  refine Yb Zz Zz ?_
  refine Yd (Yc T (cs:=[.string y.name,.slice E1 e1 q1,.int .i64 y.duration,.string y.start.op,.string y.start.name,.slice E2 e2 q2,.slice E3 e3 q3,.slice E4 e4 q4,.slice E5 e5 q5,.string y.over.op,.string y.over.name,.slice E6 e6 q6,.slice E7 e7 q7,.slice E8 e8 q8,.slice E9 e9 q9,.string y.fin.op,.string y.fin.name,.slice E10 e10 q10,.slice E11 e11 q11,.slice E12 e12 q12,.slice E13 e13 q13,.slice E14 e14 q14,.slice E15 e15 q15]) Zz Zz Zz Zz Zz Zz Zz Zz (fun gb=>⟨(⟨(Le.refl _),Zx⟩),?_⟩))
  refine Yb Zz Zz ?_
  refine Yd (YS T (d:=y) (cs:=[.string y.name,.slice E1 e1 q1,.int .i64 y.duration,.string y.start.op,.string y.start.name,.slice E2 e2 q2,.slice E3 e3 q3,.slice E4 e4 q4,.slice E5 e5 q5,.string y.over.op,.string y.over.name,.slice E6 e6 q6,.slice E7 e7 q7,.slice E8 e8 q8,.slice E9 e9 q9,.string y.fin.op,.string y.fin.name,.slice E10 e10 q10,.slice E11 e11 q11,.slice E12 e12 q12,.slice E13 e13 q13,.slice E14 e14 q14,.slice E15 e15 q15]) (Hr:=(gb,_)::(g16,_)::(g3,_)::(g,_)::R) Zz Zz Zz Zz Zz Zz Zz Zz (Zr _) hG dur_one (.head _) hy5 (by show _*480≤_;omega) Zi (fun v' Hs' hG'=>⟨(⟨(Le.refl _),Zx⟩),?_⟩))
  obtain ⟨Av',cv',rfl,_,_⟩:=hG'.form
  refine Yb Zz Zz ?_
  refine PoS.hard0 Zj (Wl T Zz Zz Zz Zz Zz Zz ?_)
  refine Po.done ?_
  refine zW ?_;intros
  cases hx:durM x with
  | error c=>
   rw [hx] at hev hM
   obtain ⟨rfl,hc⟩:=hev
   subst hM
   exact ret1 (H':=[]) rfl rfl Zb ⟨hle5,by rw [Yj hc];exact YbG rfl hc⟩
  | ok b=>
   rw [hx] at hev hM
   obtain ⟨rfl,rfl⟩:=hev
   subst hM
   have hlen:=hG'.len
   rw [← hlen] at hG' ⊢
   exact ret1 (H':=(g,_)::(R++Hs')) rfl rfl Zb ⟨hle5,rfl,_,_,_,_,_,_,Hp,Hf,Ha,Hs',List.Perm.cons _ (hRR Hs'),hnm,⟨_,_,_,rfl,it1.mono hle5⟩,⟨_,_,_,rfl,it2.mono hle5⟩,hgp.mono hle5,hgf.mono hle5,hga.mono hle5,hG'⟩
 rw [if_neg (show ¬y0.text=Y3 from c6)] at hM
 refine zW ?_;intros
 exact ret1 (H':=[]) rfl rfl Zb ⟨Le.refl _,YbG hM.symm Zh⟩
end Go.Proofs.YtfjopfinkdhmaaaGreatDoor
