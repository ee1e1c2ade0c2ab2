/- The texts PWalkL, SMap, PCA, PCB, PCC, PCU, PCD, laid together. Conditions: none. -/
import Derived.Test.YtfjopfinkdhmaaaGreatDoorRYJ
set_option linter.all false
noncomputable section
set_option maxRecDepth 20000
namespace Go.Proofs.YtfjopfinkdhmaaaGreatDoor
open Go.Lx Go.RowKit
attribute [local instance 10] Classical.propDecidable
open Go.Proofs.Tryz (prog)
def YcK:Bs:=⟨#[97,115,115,105,103,110]⟩
def YaV:Bs:=⟨#[105,110,99,114,101,97,115,101]⟩
def YaW:Bs:=⟨#[100,101,99,114,101,97,115,101]⟩
def YhH:Bs:=⟨#[119,104,101,110]⟩
def nilE:Lx.Expr:=.mk ⟨#[]⟩ ⟨#[]⟩ 0 [] []
def Num5 (k:Int):Prop:=k=3∨k=4∨k=5
def YhF (k:Int):Bs:=if k=3 then YcK else if k=4 then YaV else YaW
def Ydn (c:Change):Prop:=((c.kind=1∨c.kind=2)∧c.value=nilE)∨(Num5 c.kind∧EVal c.value)
def WhenOk (c:Change):Prop:=c.when_=XJ∨FVal c.when_
def ChOk (c:Change):Prop:=Yf0 c.name c.args∧Ydn c∧WhenOk c∧∀ p∈c.params,Wz true p
def ChSm (c:Change):Prop:=c.params.length≤1000000000∧c.args.length≤1000000000∧FSm c.when_∧ESm c.value
def chX1 (c:Change):Sexpr:=if c.kind=2 then YF [Yi kNot,W0 c.name c.args] else if Num5 c.kind then YF [Yi (YhF c.kind),W0 c.name c.args,X3 c.value] else W0 c.name c.args
def chX2 (c:Change):Sexpr:=if c.when_=XJ then chX1 c else YF [Yi YhH,Xh c.when_,chX1 c]
def chX (c:Change):Sexpr:=if c.params=[] then chX2 c else YF [Yi XZ,YF ((c.params.flatMap W2).map Yi),chX2 c]
theorem Ymp {fz3:FZ} {gb:Nat} {o:Bs} {X:Sexpr} {vk3:Value} (ho:Short o) (hg:fz3 gb=some (.cells (Yq o++ [.int .i64 X.kind,.int .i64 X.value,.int .i64 X.line,.int .i64 X.column,.string X.text,vk3]).toArray 57 (0,0))) (hX:YW fz3 X vk3):
 YW fz3 (YF [Yi o,X]) (.slice (some ⟨gb,0,none⟩) 2 2):=
 ⟨YeT,X6,X6,X6,Xq,(Xt (ys:=[(Yi o,Yq o),(X,[.int .i64 X.kind,.int .i64 X.value,.int .i64 X.line,.int .i64 X.column,.string X.text,vk3])]) hg rfl rfl (by
  intro p hp
  simp only [List.mem_cons,List.not_mem_nil,or_false] at hp
  rcases hp with rfl | rfl
  ·exact Yu ho
  ·exact Yg hX) rfl (by simp)).is⟩
theorem Ydq {fz3:FZ} {gb:Nat} {o:Bs} {X Y:Sexpr} {vk3 vk5:Value} (ho:Short o) (hg:fz3 gb=some (.cells (Yq o++ [.int .i64 X.kind,.int .i64 X.value,.int .i64 X.line,.int .i64 X.column,.string X.text,vk3]++ [.int .i64 Y.kind,.int .i64 Y.value,.int .i64 Y.line,.int .i64 Y.column,.string Y.text,vk5]).toArray 57 (0,0))) (hX:YW fz3 X vk3) (hY:YW fz3 Y vk5):
 YW fz3 (YF [Yi o,X,Y]) (.slice (some ⟨gb,0,none⟩) 3 3):=
 ⟨YeT,X6,X6,X6,Xq,(Xt (ys:=[(Yi o,Yq o),(X,[.int .i64 X.kind,.int .i64 X.value,.int .i64 X.line,.int .i64 X.column,.string X.text,vk3]),(Y,[.int .i64 Y.kind,.int .i64 Y.value,.int .i64 Y.line,.int .i64 Y.column,.string Y.text,vk5])]) hg rfl rfl (by
  intro p hp
  simp only [List.mem_cons,List.not_mem_nil,or_false] at hp
  rcases hp with rfl | rfl | rfl
  ·exact Yu ho
  ·exact Yg hX
  ·exact Yg hY) rfl (by simp)).is⟩
theorem YbE {o:Bs} (h:o=kNot∨o=YcK∨o=YaV∨o=YaW∨o=YhH∨o=XZ):Short o:=by
 rcases h with rfl | rfl | rfl | rfl | rfl | rfl<;>(unfold Short;decide)
variable {fz:FZ} {g:Nat} {v1 v2 v3 v4 v5 v6 v7:Value}
set_option maxHeartbeats 4000000 in
theorem YkJ {b:Bool} {c:Change} {v8:Value} (h:ChangeR fz c v1 v2 v3 v4 v5 v6 v7 v8) (hs:ChSm c):
 GFn prog 153 [.pointer (some ⟨g,0,none⟩),.agg #[.int .i64 c.kind,v1,.string c.when_.op,.string c.when_.name,v2,v3,v4,v5,.string c.name,v6,.string c.value.op,.string c.value.name,.int .i64 c.value.n,v7,v8]] fz [(g,wrO b)] (MkR g b (ChOk c) (chX c) fz):=by
 obtain ⟨A1,n1,b1,rfl,ip⟩:=h.params
 obtain ⟨A2,n2,b2,rfl,iw1⟩:=h.when_.args
 obtain ⟨A3,n3,b3,rfl,iw2⟩:=h.when_.params
 obtain ⟨A4,n4,b4,rfl,iw3⟩:=h.when_.exprs
 obtain ⟨A5,n5,b5,rfl,iw4⟩:=h.when_.kids
 obtain ⟨A6,n6,b6,rfl,ia⟩:=h.args
 obtain ⟨A7,n7,b7,rfl,iv1⟩:=h.value.args
 obtain ⟨A8,n8,b8,rfl,iv2⟩:=h.value.kids
 refine zF Tryz.func153 Tryz.ntmps153 (fun w0=>?_)
 refine Yk (Yr (Ya Zz (Xc _ Zz Zz (fun g3=>?_))))
 refine zW ?_;intros
 rename_i g4
 refine Seq.perm (@List.perm_middle _ _ [_,_] []).symm ?_
 refine Ya Zz (Ym [_] _ Zz Zz Zz (watom_q h.name ia (by rw [← ia.len];exact hs.2.1)) (fun v9 fz1 H1 hle1 hR1=>?_))
 obtain ⟨_,ba,y0,rfl,⟨cs0,rfl,hr0⟩,hba,hya⟩:=hR1
 obtain ⟨vy0,rfl,hY0⟩:=Yh hr0
 obtain ⟨Ay0,ny0,by0,rfl,_⟩:=hY0.kids
 refine zWO ?_;intros
 rename_i g5
 refine Wp.perm (List.Perm.swap _ _ _) ?_
 refine Yk (Wp.mid (fun σ fz' H'=>∃ (bb:Bool) (y:Sexpr) (Ay:Option Addr) (ny by_:Nat),σ=[(5,.pointer (some ⟨g5,0,none⟩)),(4,.pointer (some ⟨g4,0,none⟩)),(3,.pointer (some ⟨g3,0,none⟩)),(0,.pointer (some ⟨g,0,none⟩))]∧Le fz1 fz'∧H'=[(g,wrO bb),(g5,.cells #[.int .i64 y.kind,.int .i64 y.value,.int .i64 y.line,.int .i64 y.column,.string y.text,.slice Ay ny by_] 57 (0,0)),(g4,.cells #[.int .i64 0,.int .i64 0,.int .i64 0,.int .i64 0,.string ⟨#[]⟩,.slice none 0 0] 57 (0,0)),(g3,.cells #[.int .i64 c.kind,.slice A1 n1 b1,.string c.when_.op,.string c.when_.name,.slice A2 n2 b2,.slice A3 n3 b3,.slice A4 n4 b4,.slice A5 n5 b5,.string c.name,.slice A6 n6 b6,.string c.value.op,.string c.value.name,.int .i64 c.value.n,.slice A7 n7 b7,.slice A8 n8 b8] 123 (0,0))]∧YW fz' y (.slice Ay ny by_)∧(bb=false↔b=false∧Yf0 c.name c.args∧Ydn c)∧(bb=false→y=chX1 c)) ?_ ?_)
 ·have hM:∀ {fz':FZ},Le fz1 fz'→ExprR fz' c.value (.slice A7 n7 b7) (.slice A8 n8 b8):=fun hle=>h.value.mono (hle1.trans hle)
  refine zW ?_;intros
  refine zC (fun k1=>?_) (fun k1=>?_)
  ·have k2:¬c.kind=2:=by omega
   have hx1:chX1 c=W0 c.name c.args:=by unfold chX1 Num5;rw [if_neg k2,if_neg Zi]
   have hk0:Ydn c↔c.value=nilE:=⟨fun h0=>h0.elim (fun h0=>h0.2) (fun h0=>by have:=h0.1;unfold Num5 at this;omega),fun h0=>.inl ⟨.inl k1,h0⟩⟩
   refine zW ?_;intros
   cases ba
   ·refine zW ?_;intros
    ((refine zG ?_);refine Yp (vs:=[.string c.value.op,.string c.value.name,.int .i64 c.value.n,.slice A7 n7 b7,.slice A8 n8 b8]) T 3 Zz Zz Zz Zz Zz Zz ?_)
    refine zW ?_;intros
    ((refine zG ?_);refine Wf Zz Zz (Yfe (b:=nilE) (hM (Le.refl _)) YhV) (fun f1=>?_) (fun f1=>?_))
    ·refine zW ?_;intros
     exact midN ⟨false,y0,Ay0,ny0,by0,rfl,Le.refl _,rfl,hY0,iff_of_true rfl ⟨(hba.1 rfl).1,(hba.1 rfl).2,hk0.2 (Zt f1)⟩,fun _=>by rw [hx1];exact hya rfl⟩ Zw Zb
    ·refine zW ?_;intros
     exact midN ⟨true,y0,Ay0,ny0,by0,rfl,Le.refl _,rfl,hY0,iff_of_false (by simp) (fun h0=>Zf f1 (hk0.1 h0.2.2)),fun h0=>by cases h0⟩ Zw Zb
   ·refine zW ?_;intros
    exact midN ⟨true,y0,Ay0,ny0,by0,rfl,Le.refl _,rfl,hY0,iff_of_false (by simp) (fun h0=>by simpa using hba.2 ⟨h0.1,h0.2.1⟩),fun h0=>by cases h0⟩ Zw Zb
  ·refine zW ?_;intros
   refine zC (fun k2=>?_) (fun k2=>?_)
   ·have hx1:chX1 c=YF [Yi kNot,W0 c.name c.args]:=by unfold chX1;rw [if_pos k2]
    have hk0:Ydn c↔c.value=nilE:=⟨fun h0=>h0.elim (fun h0=>h0.2) (fun h0=>by have:=h0.1;unfold Num5 at this;omega),fun h0=>.inl ⟨.inr k2,h0⟩⟩
    refine zWO ?_;intros
    refine Wp.cond_true Zz ?_
    refine Yk (Wp.mid (fun σ fz' H'=>∃ bb:Bool,σ=[(5,.pointer (some ⟨g5,0,none⟩)),(4,.pointer (some ⟨g4,0,none⟩)),(3,.pointer (some ⟨g3,0,none⟩)),(0,.pointer (some ⟨g,0,none⟩))]∧fz1=fz'∧H'=[(g,wrO bb),(g5,.cells #[.int .i64 y0.kind,.int .i64 y0.value,.int .i64 y0.line,.int .i64 y0.column,.string y0.text,.slice Ay0 ny0 by0] 57 (0,0)),(g4,.cells #[.int .i64 0,.int .i64 0,.int .i64 0,.int .i64 0,.string ⟨#[]⟩,.slice none 0 0] 57 (0,0)),(g3,.cells #[.int .i64 c.kind,.slice A1 n1 b1,.string c.when_.op,.string c.when_.name,.slice A2 n2 b2,.slice A3 n3 b3,.slice A4 n4 b4,.slice A5 n5 b5,.string c.name,.slice A6 n6 b6,.string c.value.op,.string c.value.name,.int .i64 c.value.n,.slice A7 n7 b7,.slice A8 n8 b8] 123 (0,0))]∧(bb=false↔b=false∧Yf0 c.name c.args∧Ydn c)) ?_ ?_)
    ·cases ba
     ·refine zW ?_;intros
      ((refine zG ?_);refine Yp (vs:=[.string c.value.op,.string c.value.name,.int .i64 c.value.n,.slice A7 n7 b7,.slice A8 n8 b8]) T 3 Zz Zz Zz Zz Zz Zz ?_)
      refine zW ?_;intros
      ((refine zG ?_);refine Wf Zz Zz (Yfe (b:=nilE) (hM (Le.refl _)) YhV) (fun f1=>?_) (fun f1=>?_))
      ·refine zW ?_;intros
       exact midN ⟨false,rfl,rfl,rfl,iff_of_true rfl ⟨(hba.1 rfl).1,(hba.1 rfl).2,hk0.2 (Zt f1)⟩⟩ Zw Zb
      ·refine zW ?_;intros
       exact midN ⟨true,rfl,rfl,rfl,iff_of_false (by simp) (fun h0=>Zf f1 (hk0.1 h0.2.2))⟩ Zw Zb
     ·refine zW ?_;intros
      exact midN ⟨true,rfl,rfl,rfl,iff_of_false (by simp) (fun h0=>by simpa using hba.2 ⟨h0.1,h0.2.1⟩)⟩ Zw Zb
    ·rintro σ fz' H' ⟨bb,rfl,rfl,rfl,hbb⟩
     refine zW ?_;intros
     refine Wp.drawK (Hq:=[_,_,_,_]) T.mixed Zj Zj Zb ?_
     refine zc (WY (s:=kNot)) ?_
     refine zW ?_;intros
     refine Yf ?_
     refine Yf ?_
     refine Yf ?_
     refine YM ⟨by kernel_rfl,?_⟩
     refine Yt (Yc T (cs:=Yq kNot++ [.int .i64 y0.kind,.int .i64 y0.value,.int .i64 y0.line,.int .i64 y0.column,.string y0.text,.slice Ay0 ny0 by0]) Zz Zz Zz Zz Zz Zz Zz Zz (fun gb=>⟨(⟨Le.refl _,Zx⟩),?_⟩))
     refine Ch.qk (⟨Le.refl _,Zx⟩) (Yw Zz Zz Xk ?_)
     unfold sxV
     refine Ch.hard0 Zj (Wa T Zz Zz Zz Zz Zz Zz ?_)
     refine Ch.done ?_
     refine zW ?_;intros
     refine midF (H':=[(g,wrO bb),(g5,_),(g4,_),(g3,_)]) (H2:=[(gb,_)]) Zq (fun fz2 hl2 hf2=>⟨bb,YF [Yi kNot,y0],_,_,_,rfl,hl2,rfl,Ymp (YbE (.inl rfl)) (hf2 _ (.head _)) (hY0.mono hl2),hbb,fun h0=>?_⟩) Zw
     rw [hx1,hya (hba.2 ⟨(hbb.1 h0).1,(hbb.1 h0).2.1⟩)]
   ·refine zWO ?_;intros
    refine Wp.cond_false Zz ?_
    refine Yk (Wp.mid (fun σ fz' H'=>∃ bq:Bool,σ=(43,.bool bq):: [(5,.pointer (some ⟨g5,0,none⟩)),(4,.pointer (some ⟨g4,0,none⟩)),(3,.pointer (some ⟨g3,0,none⟩)),(0,.pointer (some ⟨g,0,none⟩))]∧fz1=fz'∧H'=[(g,wrO ba),(g5,.cells #[.int .i64 y0.kind,.int .i64 y0.value,.int .i64 y0.line,.int .i64 y0.column,.string y0.text,.slice Ay0 ny0 by0] 57 (0,0)),(g4,.cells #[.int .i64 0,.int .i64 0,.int .i64 0,.int .i64 0,.string ⟨#[]⟩,.slice none 0 0] 57 (0,0)),(g3,.cells #[.int .i64 c.kind,.slice A1 n1 b1,.string c.when_.op,.string c.when_.name,.slice A2 n2 b2,.slice A3 n3 b3,.slice A4 n4 b4,.slice A5 n5 b5,.string c.name,.slice A6 n6 b6,.string c.value.op,.string c.value.name,.int .i64 c.value.n,.slice A7 n7 b7,.slice A8 n8 b8] 123 (0,0))]∧(bq=true↔Num5 c.kind)) ?_ ?_)
    ·refine zW ?_;intros
     refine zC (fun k3=>?_) (fun k3=>?_)
     ·refine zW ?_;intros
      exact midN ⟨true,rfl,rfl,rfl,iff_of_true rfl (.inl k3)⟩ Zw Zb
     ·refine zW ?_;intros
      refine zC (fun k4=>?_) (fun k4=>?_)
      ·refine zW ?_;intros
       exact midN ⟨true,rfl,rfl,rfl,iff_of_true rfl (.inr (.inl k4))⟩ Zw Zb
      ·refine zW ?_;intros
       refine zC (fun k5=>?_) (fun k5=>?_)
       ·refine zW ?_;intros
        exact midN ⟨true,rfl,rfl,rfl,iff_of_true rfl (.inr (.inr k5))⟩ Zw Zb
       ·refine zW ?_;intros
        exact midN ⟨false,rfl,rfl,rfl,iff_of_false (by simp) (fun h0=>h0.elim k3 (fun h0=>h0.elim k4 k5))⟩ Zw Zb
    ·rintro σ fz' H' ⟨bq,rfl,rfl,rfl,hb5⟩
     cases bq
     ·have hk0:¬Ydn c:=fun h0=>h0.elim (fun h0=>h0.1.elim k1 k2) (fun h0=>by simpa using hb5.2 h0.1)
      refine zW ?_;intros
      exact midN ⟨true,y0,Ay0,ny0,by0,rfl,Le.refl _,rfl,hY0,iff_of_false (by simp) (fun h0=>hk0 h0.2.2),fun h0=>by cases h0⟩ Zw Zb
     ·have hn5:=hb5.1 rfl
      have hk0:Ydn c↔EVal c.value:=⟨fun h0=>h0.elim (fun h0=>(h0.1.elim k1 k2).elim) (fun h0=>h0.2),fun h0=>.inr ⟨hn5,h0⟩⟩
      have hx1:chX1 c=YF [Yi (YhF c.kind),W0 c.name c.args,X3 c.value]:=by unfold chX1;rw [if_neg k2,if_pos hn5]
      have hw:([.string YcK,.string YaV,.string YaW]:List Value)[(c.kind - 3).toNat]?=some (.string (YhF c.kind)):=by
       rcases hn5 with h0 | h0 | h0<;>rw [h0]<;>rfl
      have hsw:Short (YhF c.kind):=by
       refine YbE ?_
       unfold YhF
       split
       ·exact .inr (.inl rfl)
       ·split
        ·exact .inr (.inr (.inl rfl))
        ·exact .inr (.inr (.inr (.inl rfl)))
      have hn6:3≤c.kind∧c.kind≤5:=by unfold Num5 at hn5;omega
      refine Wp.cond_true Zz ?_
      refine zW ?_;intros
      ((refine zG ?_);refine Yp (vs:=[.string c.value.op,.string c.value.name,.int .i64 c.value.n,.slice A7 n7 b7,.slice A8 n8 b8]) T 3 Zz Zz Zz Zz Zz Zz ?_)
      refine Ya Zz (Ym [] _ Zz Zz Zz (eWrite_q (hM (Le.refl _)) hs.2.2.2) (fun v8 fz2 H2 hle2 hR2=>?_))
      obtain ⟨rfl,u,ye,rfl,⟨cse,rfl,hre⟩,hye⟩:=hR2
      obtain ⟨vke,rfl,hE⟩:=Yh hre
      obtain ⟨Ae,ne,be,rfl,_⟩:=hE.kids
      refine zWO ?_;intros
      rename_i g6
      refine Yk (Wp.mid (fun σ fz' H'=>∃ bb:Bool,σ=(6,.pointer (some ⟨g6,0,none⟩)):: [(5,.pointer (some ⟨g5,0,none⟩)),(4,.pointer (some ⟨g4,0,none⟩)),(3,.pointer (some ⟨g3,0,none⟩)),(0,.pointer (some ⟨g,0,none⟩))]∧fz2=fz'∧H'=[(g,wrO bb),(g6,.cells #[.int .i64 ye.kind,.int .i64 ye.value,.int .i64 ye.line,.int .i64 ye.column,.string ye.text,.slice Ae ne be] 57 (0,0)),(g5,.cells #[.int .i64 y0.kind,.int .i64 y0.value,.int .i64 y0.line,.int .i64 y0.column,.string y0.text,.slice Ay0 ny0 by0] 57 (0,0)),(g4,.cells #[.int .i64 0,.int .i64 0,.int .i64 0,.int .i64 0,.string ⟨#[]⟩,.slice none 0 0] 57 (0,0)),(g3,.cells #[.int .i64 c.kind,.slice A1 n1 b1,.string c.when_.op,.string c.when_.name,.slice A2 n2 b2,.slice A3 n3 b3,.slice A4 n4 b4,.slice A5 n5 b5,.string c.name,.slice A6 n6 b6,.string c.value.op,.string c.value.name,.int .i64 c.value.n,.slice A7 n7 b7,.slice A8 n8 b8] 123 (0,0))]∧(bb=false↔b=false∧Yf0 c.name c.args∧Ydn c)) ?_ ?_)
      ·by_cases hP:EVal c.value
       ·rw [if_pos hP]
        cases ba
        ·refine zW ?_;intros
         exact midP (List.Perm.swap _ _ _) ⟨false,rfl,rfl,rfl,iff_of_true rfl ⟨(hba.1 rfl).1,(hba.1 rfl).2,hk0.2 hP⟩⟩ Zw Zb
        ·refine zW ?_;intros
         exact midP (List.Perm.swap _ _ _) ⟨true,rfl,rfl,rfl,iff_of_false (by simp) (fun h0=>by simpa using hba.2 ⟨h0.1,h0.2.1⟩)⟩ Zw Zb
       ·rw [if_neg hP]
        cases ba
        ·refine zW ?_;intros
         exact midP (List.Perm.swap _ _ _) ⟨true,rfl,rfl,rfl,iff_of_false (by simp) (fun h0=>hP (hk0.1 h0.2.2))⟩ Zw Zb
        ·refine zW ?_;intros
         exact midP (List.Perm.swap _ _ _) ⟨true,rfl,rfl,rfl,iff_of_false (by simp) (fun h0=>by simpa using hba.2 ⟨h0.1,h0.2.1⟩)⟩ Zw Zb
      ·rintro σ fz' H' ⟨bb,rfl,rfl,rfl,hbb⟩
       refine Wp.drawK (Hq:=[_,_,_,_,_]) T.mixed Zj Zj Zb ?_
       refine Yf ?_
       refine zW ?_;intros
       refine Yf ?_
       refine Yf ?_
       refine Yf ?_
       refine zW ?_;intros
       refine Yf ?_
       refine Yf ?_
       refine Yf ?_
       refine YM ⟨by kernel_rfl,?_⟩
       refine Yt (Yc T (cs:=[.string YcK,.string YaV,.string YaW]) Zz Zz Zz Zz Zz Zz Zz Zz (fun gs=>⟨(⟨Le.refl _,Zx⟩),?_⟩))
       refine Ch.qk (⟨Le.refl _,Zx⟩) (Y9 T Zz Zz Zz Zz Zz Zz Zi Zi ?_)
       refine Ch.qk (⟨Le.refl _,Zx⟩) (Y0 T 0 Zz Zz Zz Zz hw ?_)
       refine Ch.qk (⟨Le.refl _,Zx⟩) (Yw Zz Zz (WY (s:=YhF c.kind)) ?_)
       refine Yt (Yc T (cs:=Yq (YhF c.kind)++ [.int .i64 y0.kind,.int .i64 y0.value,.int .i64 y0.line,.int .i64 y0.column,.string y0.text,.slice Ay0 ny0 by0]++ [.int .i64 ye.kind,.int .i64 ye.value,.int .i64 ye.line,.int .i64 ye.column,.string ye.text,.slice Ae ne be]) Zz Zz Zz Zz Zz Zz Zz Zz (fun gb=>⟨(⟨Le.refl _,Zx⟩),?_⟩))
       refine Ch.qk (⟨Le.refl _,Zx⟩) (Yw Zz Zz Xk ?_)
       unfold sxV
       refine Ch.hard0 Zj (XU T (pre:=[_,_,_,_]) Zz Zz Zz rfl Zz Zz Zz ?_)
       refine Ch.done ?_
       refine zW ?_;intros
       refine midF (H':=[(g,wrO bb),(g5,_),(g4,_),(g3,_)]) (H2:=[(gb,_),(gs,_),(g6,_)]) (XY [2,4,5,6,0,1,3] Zz Zz) (fun fz3 hl3 hf3=>⟨bb,YF [Yi (YhF c.kind),y0,ye],_,_,_,rfl,hle2.trans hl3,rfl,Ydq hsw (hf3 _ (.head _)) (hY0.mono (hle2.trans hl3)) (hE.mono hl3),hbb,fun h0=>?_⟩) Zw
       rw [hx1,hya (hba.2 ⟨(hbb.1 h0).1,(hbb.1 h0).2.1⟩),hye (hk0.1 (hbb.1 h0).2.2)]
 ·rintro σ fz9 H' ⟨bb,y,Ay,ny,by_,rfl,hle2,rfl,hY,hbb,hyb⟩
  refine Yk (Wp.mid (fun σ fz' H'=>∃ (bb:Bool) (y:Sexpr) (Ay:Option Addr) (ny by_:Nat),σ=[(5,.pointer (some ⟨g5,0,none⟩)),(4,.pointer (some ⟨g4,0,none⟩)),(3,.pointer (some ⟨g3,0,none⟩)),(0,.pointer (some ⟨g,0,none⟩))]∧Le fz9 fz'∧H'=[(g,wrO bb),(g5,.cells #[.int .i64 y.kind,.int .i64 y.value,.int .i64 y.line,.int .i64 y.column,.string y.text,.slice Ay ny by_] 57 (0,0)),(g4,.cells #[.int .i64 0,.int .i64 0,.int .i64 0,.int .i64 0,.string ⟨#[]⟩,.slice none 0 0] 57 (0,0)),(g3,.cells #[.int .i64 c.kind,.slice A1 n1 b1,.string c.when_.op,.string c.when_.name,.slice A2 n2 b2,.slice A3 n3 b3,.slice A4 n4 b4,.slice A5 n5 b5,.string c.name,.slice A6 n6 b6,.string c.value.op,.string c.value.name,.int .i64 c.value.n,.slice A7 n7 b7,.slice A8 n8 b8] 123 (0,0))]∧YW fz' y (.slice Ay ny by_)∧(bb=false↔b=false∧Yf0 c.name c.args∧Ydn c∧WhenOk c)∧(bb=false→y=chX2 c)) ?_ ?_)
  ·refine Yk ?_
   refine Wp.drawK (Hq:=[(g,_),(g5,_),(g4,_),(g3,_)]) T.mixed Zj Zj Zb ?_
   refine zW ?_;intros
   ((refine zG ?_);refine Yp (vs:=[.string c.when_.op,.string c.when_.name,.slice A2 n2 b2,.slice A3 n3 b3,.slice A4 n4 b4,.slice A5 n5 b5]) T 3 Zz Zz Zz Zz Zz Zz ?_)
   refine zc WU ?_
   unfold Ycw
   refine zb (Yew (b:=XJ) ((h.when_.mono hle1).mono hle2) Yb5) (fun f1=>?_) (fun f1=>?_)
   ·have hw:=Zt f1
    refine zW ?_;intros
    refine YM ⟨by kernel_rfl,Ch.done ?_⟩
    refine zW ?_;intros
    exact midN ⟨bb,y,Ay,ny,by_,rfl,Le.refl _,rfl,hY,by rw [hbb];exact ⟨fun h0=>⟨h0.1,h0.2.1,h0.2.2,.inl hw⟩,fun h0=>⟨h0.1,h0.2.1,h0.2.2.1⟩⟩,fun h0=>by rw [chX2,if_pos hw];exact hyb h0⟩ Zw Zb
   ·have hw:=Zf f1
    refine zW ?_;intros
    refine YM ⟨by kernel_rfl,Ch.done ?_⟩
    refine zW ?_;intros
    refine Wp.drawK (Hq:=[(g5,_),(g4,_),(g3,_)]) T.mixed Zj Zj Zb ?_
    refine zc (WY (s:=YhH)) ?_
    refine zW ?_;intros
    ((refine zG ?_);refine Yp (vs:=[.string c.when_.op,.string c.when_.name,.slice A2 n2 b2,.slice A3 n3 b3,.slice A4 n4 b4,.slice A5 n5 b5]) T 2 Zz Zz Zz Zz Zz Zz ?_)
    refine Yf ?_
    refine zW ?_;intros
    refine Yf ?_
    refine Yf ?_
    refine Yf ?_
    refine YM ⟨by kernel_rfl,?_⟩
    refine Yt (Ym [_] _ Zz Zz Zz (Ybq ((h.when_.mono hle1).mono hle2) hs.2.2.1) (fun v6 fz6 H6 hle6 hR6=>?_))
    obtain ⟨_,b9,y6,rfl,⟨cs6,rfl,hr6⟩,hb6,hy6⟩:=hR6
    obtain ⟨vk6,rfl,hX6⟩:=Yh hr6
    obtain ⟨Ae,ne,be,rfl,_⟩:=hX6.kids
    refine ⟨(⟨hle6,Zx⟩),?_⟩
    refine Yt (Yc T (cs:=Yq YhH++ [.int .i64 y6.kind,.int .i64 y6.value,.int .i64 y6.line,.int .i64 y6.column,.string y6.text,.slice Ae ne be]++ [.int .i64 y.kind,.int .i64 y.value,.int .i64 y.line,.int .i64 y.column,.string y.text,.slice Ay ny by_]) Zz Zz Zz Zz Zz Zz Zz Zz (fun gb=>⟨(⟨hle6,Zx⟩),?_⟩))
    refine Ch.qk (⟨hle6,Zx⟩) (Yw Zz Zz Xk ?_)
    unfold sxV
    refine Ch.hard0 Zj (Wa T Zz Zz Zz Zz Zz Zz ?_)
    refine Ch.done ?_
    refine zW ?_;intros
    refine midF (H':=[(g,wrO b9),(g5,_),(g4,_),(g3,_)]) (H2:=[(gb,_)]) Zq (fun fz3 hl3 hf3=>⟨b9,YF [Yi YhH,y6,y],_,_,_,rfl,hle6.trans hl3,rfl,Ydq (YbE (.inr (.inr (.inr (.inr (.inl rfl)))))) (hf3 _ (.head _)) (hX6.mono hl3) ((hY.mono hle6).mono hl3),?_,fun h0=>?_⟩) Zw
    ·rw [hb6,hbb]
     exact ⟨fun h0=>⟨h0.1.1,h0.1.2.1,h0.1.2.2,.inr h0.2⟩,fun h0=>⟨⟨h0.1,h0.2.1,h0.2.2.1⟩,h0.2.2.2.resolve_left hw⟩⟩
    ·rw [chX2,if_neg hw,hy6 h0,hyb (hb6.1 h0).1]
  ·rintro σ fz7 H' ⟨bb,y,Ay,ny,by_,rfl,hle7,rfl,hY,hbb,hyb⟩
   have hip:=((ip.mono hle1).mono hle2).mono hle7
   refine Yk (Wp.mid (fun σ fz' H'=>∃ (bb:Bool) (y:Sexpr) (Ay:Option Addr) (ny by_:Nat),σ=[(5,.pointer (some ⟨g5,0,none⟩)),(4,.pointer (some ⟨g4,0,none⟩)),(3,.pointer (some ⟨g3,0,none⟩)),(0,.pointer (some ⟨g,0,none⟩))]∧Le fz7 fz'∧H'=[(g,wrO bb),(g5,.cells #[.int .i64 y.kind,.int .i64 y.value,.int .i64 y.line,.int .i64 y.column,.string y.text,.slice Ay ny by_] 57 (0,0)),(g4,.cells #[.int .i64 0,.int .i64 0,.int .i64 0,.int .i64 0,.string ⟨#[]⟩,.slice none 0 0] 57 (0,0)),(g3,.cells #[.int .i64 c.kind,.slice A1 n1 b1,.string c.when_.op,.string c.when_.name,.slice A2 n2 b2,.slice A3 n3 b3,.slice A4 n4 b4,.slice A5 n5 b5,.string c.name,.slice A6 n6 b6,.string c.value.op,.string c.value.name,.int .i64 c.value.n,.slice A7 n7 b7,.slice A8 n8 b8] 123 (0,0))]∧YW fz' y (.slice Ay ny by_)∧(bb=false↔b=false∧ChOk c)∧(bb=false→y=chX c)) ?_ ?_)
   ·refine zW ?_;intros
    refine zC (fun p1=>?_) (fun p1=>?_)
    ·have hp0:=(Yag ip.len).1 p1
     refine zW ?_;intros
     refine Wp.drawK (Hq:=[(g5,_),(g4,_),(g3,_)]) T.mixed Zj Zj Zb ?_
     refine zc (WY (s:=XZ)) ?_
     refine zW ?_;intros
     refine Yf ?_
     refine Yf ?_
     refine zW ?_;intros
     refine Yf ?_
     refine Yf ?_
     refine Yf ?_
     refine YM ⟨by kernel_rfl,?_⟩
     refine Yt (Ym [_] _ Zz Zz Zz (W4 (vars:=true) hip (by rw [← ip.len];exact hs.1)) (fun v6 fz6 H6 hle6 hR6=>?_))
     obtain ⟨_,⟨Ae,ce,rfl,hsl6⟩,b9,rfl,hb6⟩:=hR6
     refine ⟨(⟨hle6,Zx⟩),?_⟩
     refine Ch.qk (⟨hle6,Zx⟩) (Yw Zz Zz Xk ?_)
     unfold sxV
     refine Yt (Yc T (cs:=Yq XZ++ [.int .i64 3,.int .i64 0,.int .i64 0,.int .i64 0,.string ⟨#[]⟩,.slice Ae (3*n1) ce]++ [.int .i64 y.kind,.int .i64 y.value,.int .i64 y.line,.int .i64 y.column,.string y.text,.slice Ay ny by_]) Zz Zz Zz Zz Zz Zz Zz Zz (fun gb=>⟨(⟨hle6,Zx⟩),?_⟩))
     refine Ch.qk (⟨hle6,Zx⟩) (Yw Zz Zz Xk ?_)
     unfold sxV
     refine Ch.hard0 Zj (Wa T Zz Zz Zz Zz Zz Zz ?_)
     refine Ch.done ?_
     refine zW ?_;intros
     refine midF (H':=[(g,wrO b9),(g5,_),(g4,_),(g3,_)]) (H2:=[(gb,_)]) Zq (fun fz3 hl3 hf3=>⟨b9,YF [Yi XZ,YF ((c.params.flatMap W2).map Yi),y],_,_,_,rfl,hle6.trans hl3,rfl,Ydq (X:=YF ((c.params.flatMap W2).map Yi)) (YbE (.inr (.inr (.inr (.inr (.inr rfl)))))) (hf3 _ (.head _)) ⟨YeT,X6,X6,X6,Xq,(hsl6.mono hl3).is⟩ ((hY.mono hle6).mono hl3),?_,fun h0=>?_⟩) Zw
     ·rw [hb6,hbb]
      exact ⟨fun h0=>⟨h0.1.1,h0.1.2.1,h0.1.2.2.1,h0.1.2.2.2,h0.2⟩,fun h0=>⟨⟨h0.1,h0.2.1,h0.2.2.1,h0.2.2.2.1⟩,h0.2.2.2.2⟩⟩
     ·rw [chX,if_neg hp0,hyb (hb6.1 h0).1]
    ·have hp0:c.params=[]:=Classical.byContradiction fun h0=>p1 ((Yag ip.len).2 h0)
     refine zW ?_;intros
     exact midN ⟨bb,y,Ay,ny,by_,rfl,Le.refl _,rfl,hY,by rw [hbb];exact ⟨fun h0=>⟨h0.1,h0.2.1,h0.2.2.1,h0.2.2.2,by rw [hp0];simp⟩,fun h0=>⟨h0.1,h0.2.1,h0.2.2.1,h0.2.2.2.1⟩⟩,fun h0=>by rw [chX,if_pos hp0];exact hyb h0⟩ Zw Zb
   ·rintro σ fz8 H' ⟨bb,y,Ay,ny,by_,rfl,hle8,rfl,hY,hbb,hyb⟩
    refine zW ?_;intros
    refine W6 T (i:=2) (H':=[(g,wrO bb)]) rfl Zz Zz Zz Zz Zz Zb ?_
    exact ⟨hle1.trans (hle2.trans (hle7.trans hle8)),bb,y,rfl,⟨_,rfl,Yg hY⟩,hbb,hyb⟩
end Go.Proofs.YtfjopfinkdhmaaaGreatDoor
namespace Go.Lx
open Go.RowKit
def Wj:List (Bs × Value)→Nat→List MapEntry
 | [],_=>[]
 | (k,v)::r,i=>⟨.string k,v,i⟩::Wj r (i+1)
def mapS (m:List (Bs × Value)):Obj:=.map (Wj m 0).toArray m.length
theorem Ye8:∀ (m:List (Bs × Value)) (i:Nat),(Wj m i).length=m.length
 | [],_=>rfl
 | (k,v)::r,i=>by simp [Wj,Ye8 r]
theorem Ye9:∀ (m:List (Bs × Value)) (i j:Nat),(Wj m i)[j]?=(m[j]?).map fun p=>⟨.string p.1,p.2,i+j⟩
 | [],_,_=>by simp [Wj]
 | (k,v)::r,i,0=>by simp [Wj]
 | (k,v)::r,i,j+1=>by
  simp only [Wj,List.getElem?_cons_succ,Ye9 r (i+1) j]
  rw [show i+1+j=i+(j+1) from by omega]
theorem YcC:∀ (m:List (Bs × Value)) (k:Bs) (v:Value) (i:Nat),Wj (m++ [(k,v)]) i=Wj m i++ [⟨.string k,v,i+m.length⟩]
 | [],k,v,i=>by simp [Wj]
 | (a,b)::r,k,v,i=>by
  simp only [List.cons_append,Wj,YcC r k v (i+1),List.length_cons]
  rw [show i+1+r.length=i+(r.length+1) from by omega]
def fndS:List (Bs × Value)→Bs→Nat→Option (Nat × Value)
 | [],_,_=>none
 | (k,v)::r,x,i=>if x=k then some (i,v) else fndS r x (i+1)
theorem YeY:∀ (m:List (Bs × Value)) (x:Bs) (i j:Nat) (v:Value),fndS m x i=some (j,v)→i≤j∧m[j - i]?=some (x,v)
 | [],_,_,_,_,h=>by cases h
 | (k,u)::r,x,i,j,v,h=>by
  unfold fndS at h
  split at h
  ·rename_i hk;injection h with h;injection h with h1 h2;subst h1 h2 hk;simp
  ·obtain ⟨h1,h2⟩:=YeY r x (i+1) j v h
   exact ⟨by omega,by rw [show j - i=(j - (i+1))+1 from by omega];simpa using h2⟩
theorem bytes_beq (a b:Bs):(a==b)=decide (a=b):=by
 have h1:(a==b)=(a.data==b.data):=rfl
 rw [h1,Bool.eq_iff_iff,beq_iff_eq,decide_eq_true_iff]
 exact ⟨fun h=>by cases a;cases b;simp at h;rw [h],fun h=>by rw [h]⟩
theorem Ye2:∀ (m:List (Bs × Value)) (x:Bs) (i j:Nat),Instr.findNow .string (.string x) (Wj m j) i=some (fndS m x i)
 | [],_,_,_=>rfl
 | (k,v)::r,x,i,j=>by
  simp only [Wj,Instr.findNow,Instr.sameNow,fndS]
  by_cases h:x=k
  ·subst h;simp [bytes_beq]
  ·have:(x==k)=false:=by rw [bytes_beq];simpa using h
   simp only [this,if_neg h]
   exact Ye2 r x (i+1) (j+1)
def updS (m:List (Bs × Value)) (x:Bs) (v:Value):List (Bs × Value):=match fndS m x 0 with
 | some (i,_)=>m.set i (x,v)
 | none=>m++ [(x,v)]
theorem Ye7:∀ (m:List (Bs × Value)) (i j:Nat) (x:Bs) (v:Value),Wj (m.set i (x,v)) j=(Wj m j).modify i fun e=>{e with key:=.string x,val:=v}
 | [],i,j,x,v=>by simp [Wj]
 | (a,b)::r,0,j,x,v=>by simp [Wj]
 | (a,b)::r,i+1,j,x,v=>by simp [Wj,Ye7 r i (j+1) x v]
def valS (m:List (Bs × Value)) (x:Bs):Option Value:=(fndS m x 0).map (·.2)
theorem YfR:∀ (m:List (Bs × Value)) (x:Bs) (i j:Nat),(fndS m x i).map (·.2)=(fndS m x j).map (·.2)
 | [],_,_,_=>rfl
 | (k,v)::r,x,i,j=>by
  unfold fndS
  split
  ·rfl
  ·exact YfR r x (i+1) (j+1)
theorem valS_nil (x:Bs):valS [] x=none:=rfl
theorem Yan (k:Bs) (v:Value) (r:List (Bs × Value)) (x:Bs):valS ((k,v)::r) x=if x=k then some v else valS r x:=by
 unfold valS
 rw [fndS]
 split
 ·rfl
 ·exact YfR r x 1 0
theorem Yig (m:List (Bs × Value)) (k:Bs) (v:Value) (x:Bs) (h:valS m k=none):valS (m++ [(k,v)]) x=if x=k then some v else valS m x:=by
 induction m with
 | nil=>rw [List.nil_append,Yan]
 | cons p r ih=>
  obtain ⟨a,u⟩:=p
  rw [Yan] at h
  split at h
  ·cases h
  ·rename_i hk
   rw [List.cons_append,Yan,Yan,ih h]
   split
   ·rename_i hx;rw [if_neg (fun h0=>hk (by rw [← h0,hx]))]
   ·rfl
theorem valS_set (m:List (Bs × Value)) (i:Nat) (k:Bs) (v u:Value) (x:Bs) (h:fndS m k 0=some (i,u)):valS (m.set i (k,v)) x=if x=k then some v else valS m x:=by
 have key:∀ (m:List (Bs × Value)) (i j:Nat),fndS m k j=some (i+j,u)→valS (m.set i (k,v)) x=if x=k then some v else valS m x:=by
  intro m
  induction m with
  | nil=>intro i j h;cases h
  | cons p r ih=>
   obtain ⟨a,w⟩:=p
   intro i j h
   unfold fndS at h
   split at h
   ·rename_i hk
    injection h with h;injection h with h1 h2
    have:i=0:=by omega
    subst this hk
    rw [List.set_cons_zero,Yan,Yan]
    split<;>rfl
   ·rename_i hk
    have h3:=YeY r k (j+1) (i+j) u h
    obtain ⟨i',rfl⟩:∃ i',i=i'+1:=⟨i - 1,by omega⟩
    rw [List.set_cons_succ,Yan,Yan,ih i' (j+1) (by rw [h];congr 2;omega)]
    split
    ·rename_i hx;rw [if_neg (fun h0=>hk (by rw [← h0,hx]))]
    ·rfl
 exact key m i 0 (by simpa using h)
theorem Yd7 (m:List (Bs × Value)) (k:Bs) (v:Value) (x:Bs):valS (updS m k v) x=if x=k then some v else valS m x:=by
 unfold updS
 cases h:fndS m k 0 with
 | none=>exact Yig m k v x (by unfold valS;rw [h];rfl)
 | some p=>obtain ⟨i,u⟩:=p;exact valS_set m i k v u x h
theorem YiT (m:List (Bs × Value)) (x:Bs) (z:Value):(fndS m x 0).elim z (·.2)=(valS m x).getD z:=by unfold valS;cases fndS m x 0<;>rfl
theorem YeR (m:List (Bs × Value)) (x:Bs):(fndS m x 0).isSome=(valS m x).isSome:=by unfold valS;cases fndS m x 0<;>rfl
section
variable {P:Program} {cx:Cx} {r:Operand→Option Value} {fz:FZ} {H:HP} {dst:Option Nat} {ty:TypeId} {pos:String} {af:Array Edge} {gd:Option (Nat × Bool)} {V:Value→Prop}
variable {g:Nat} {w:World}
theorem YbH {m:List (Bs × Value)} (h:w.heap[g]?=some (mapS m)):(getObj g).run P w=.ok (mapS m) w:=by
 simp [getObj,Sem.run,h,mapS]
theorem Yaw (T:Tab P) {k:TypeId} {K:Ty} (hK:T.inf k=some K) (hd:K.desc=.string) (b:Bool) (x:Bs) (w:World):(Instr.checkKey b 10000 k (.string x)).run P w=.ok () w:=by
 have hu:=run_underlying (und_plain T hK hd rfl) w
 have:∀ n:Nat,(Instr.checkKey b (n+1) k (.string x)).run P w=.ok () w:=fun n=>by
  unfold Instr.checkKey
  simp only [Sem.run_bind,hu,Result.andThen_ok,Sem.run_pure]
 exact this 9999
theorem YaQ (T:Tab P) {k:TypeId} {K:Ty} (hK:T.inf k=some K) (hd:K.desc=.string) (x:Bs) (m:List (Bs × Value)) (w:World):(Instr.findKey k (.string x) (Wj m 0)).run P w=.ok (fndS m x 0) w:=by
 have hu:=run_underlying (und_plain T hK hd rfl) w
 simp only [Instr.findKey,Sem.run_bind,hu,Result.andThen_ok,Ye2,Sem.run_pure]
variable {X:Ty} {t:TypeId}
theorem Yex (T:Tab P) {k e:TypeId} {K E:Ty} {m:List (Bs × Value)} {x:Bs} (hT:T.inf t=some X) (hd:X.desc=.map k e) (hK:T.inf k=some K) (hkd:K.desc=.string) (hE:T.inf e=some E)
 (hg:w.heap[g]?=some (mapS m)):(Instr.lookup t (.map (some g)) (.string x) false).run P w=.ok ((fndS m x 0).elim E.zero (·.2)) w:=by
 have hu:=run_underlying (und_plain T hT hd rfl) w
 have hz:=Ycp T hE w
 simp only [Instr.lookup,Sem.run_bind,hu,Result.andThen_ok,YbH hg,mapS,Sem.run_pure,Yaw T hK hkd,YaQ T hK hkd]
 cases hf:fndS m x 0 with
 | none=>simp [hz]
 | some p=>simp
variable {y:Operand}
theorem Ygf (T:Tab P) {k e:TypeId} {z:Operand} {K E:Ty} {m:List (Bs × Value)} {x:Bs} (i:Nat) (hT:T.inf t=some X) (hd:X.desc=.map k e) (hK:T.inf k=some K) (hkd:K.desc=.string) (hE:T.inf e=some E)
 (hy:r y=some (.map (some g))) (hz:r z=some (.string x)) (hH:H[i]?=some (g,mapS m)) (h:V ((fndS m x 0).elim E.zero (·.2))):DoesQ P cx ⟨dst,.lookup t y z false,ty,pos,af,gd⟩ r fz H V:=
 DoesQ.of h fun ρ w hr hi=>by
  have hg:=(hi.hp.own _ (Zm hH)).1
  simp only [execOp,hr _ _ hy,hr _ _ hz,Sem.run_bind,Yex T hT hd hK hkd hE hg,Result.andThen_ok,Sem.run_pure]
  exact ⟨rfl,Fr.refl _ _⟩
theorem Yhp (T:Tab P) {k e:TypeId} {z:Operand} {K E:Ty} {m:List (Bs × Value)} {x:Bs} (hT:T.inf t=some X) (hd:X.desc=.map k e) (hK:T.inf k=some K) (hkd:K.desc=.string) (hE:T.inf e=some E)
 (hy:r y=some (.map (some g))) (hz:r z=some (.string x)) (hH:fz g=some (mapS m)) (h:V ((fndS m x 0).elim E.zero (·.2))):DoesQ P cx ⟨dst,.lookup t y z false,ty,pos,af,gd⟩ r fz H V:=
 DoesQ.of h fun ρ w hr hi=>by
  have hg:=hi.hp.keep _ _ hH
  simp only [execOp,hr _ _ hy,hr _ _ hz,Sem.run_bind,Yex T hT hd hK hkd hE hg,Result.andThen_ok,Sem.run_pure]
  exact ⟨rfl,Fr.refl _ _⟩
theorem Yc1 (T:Tab P) {k e:TypeId} {K E:Ty} {m:List (Bs × Value)} {x:Bs} (hT:T.inf t=some X) (hd:X.desc=.map k e) (hK:T.inf k=some K) (hkd:K.desc=.string) (hE:T.inf e=some E)
 (hg:w.heap[g]?=some (mapS m)):(Instr.lookup t (.map (some g)) (.string x) true).run P w=.ok (.tuple #[(fndS m x 0).elim E.zero (·.2),.bool (fndS m x 0).isSome]) w:=by
 have hu:=run_underlying (und_plain T hT hd rfl) w
 have hz:=Ycp T hE w
 simp only [Instr.lookup,Sem.run_bind,hu,Result.andThen_ok,YbH hg,mapS,Sem.run_pure,Yaw T hK hkd,YaQ T hK hkd]
 cases hf:fndS m x 0 with
 | none=>simp [hz]
 | some p=>simp
theorem YeB (T:Tab P) {k e:TypeId} {z:Operand} {K E:Ty} {m:List (Bs × Value)} {x:Bs} (i:Nat) (hT:T.inf t=some X) (hd:X.desc=.map k e) (hK:T.inf k=some K) (hkd:K.desc=.string) (hE:T.inf e=some E)
 (hy:r y=some (.map (some g))) (hz:r z=some (.string x)) (hH:H[i]?=some (g,mapS m)) (h:V (.tuple #[(fndS m x 0).elim E.zero (·.2),.bool (fndS m x 0).isSome])):DoesQ P cx ⟨dst,.lookup t y z true,ty,pos,af,gd⟩ r fz H V:=
 DoesQ.of h fun ρ w hr hi=>by
  have hg:=(hi.hp.own _ (Zm hH)).1
  simp only [execOp,hr _ _ hy,hr _ _ hz,Sem.run_bind,Yc1 T hT hd hK hkd hE hg,Result.andThen_ok,Sem.run_pure]
  exact ⟨rfl,Fr.refl _ _⟩
theorem Yfp (T:Tab P) {k e:TypeId} {z:Operand} {K E:Ty} {m:List (Bs × Value)} {x:Bs} (hT:T.inf t=some X) (hd:X.desc=.map k e) (hK:T.inf k=some K) (hkd:K.desc=.string) (hE:T.inf e=some E)
 (hy:r y=some (.map (some g))) (hz:r z=some (.string x)) (hH:fz g=some (mapS m)) (h:V (.tuple #[(fndS m x 0).elim E.zero (·.2),.bool (fndS m x 0).isSome])):DoesQ P cx ⟨dst,.lookup t y z true,ty,pos,af,gd⟩ r fz H V:=
 DoesQ.of h fun ρ w hr hi=>by
  have hg:=hi.hp.keep _ _ hH
  simp only [execOp,hr _ _ hy,hr _ _ hz,Sem.run_bind,Yc1 T hT hd hK hkd hE hg,Result.andThen_ok,Sem.run_pure]
  exact ⟨rfl,Fr.refl _ _⟩
variable {v:Value}
theorem Yak (T:Tab P) {k e:TypeId} {z:Operand} {K E:Ty} {m:List (Bs × Value)} {x:Bs} (i:Nat) (hT:T.inf t=some X) (hd:X.desc=.map k e) (hK:T.inf k=some K) (hkd:K.desc=.string) (hE:T.inf e=some E)
 (hy:r y=some (.map (some g))) (hz:r z=some (.string x)) (hH:H[i]?=some (g,mapS m)) (hv:(fndS m x 0).elim E.zero (·.2)=v) (h:V v):DoesQ P cx ⟨dst,.lookup t y z false,ty,pos,af,gd⟩ r fz H V:=
 Ygf T i hT hd hK hkd hE hy hz hH (by rw [hv];exact h)
theorem YaD (T:Tab P) {k e:TypeId} {z:Operand} {K E:Ty} {m:List (Bs × Value)} {x:Bs} (hT:T.inf t=some X) (hd:X.desc=.map k e) (hK:T.inf k=some K) (hkd:K.desc=.string) (hE:T.inf e=some E)
 (hy:r y=some (.map (some g))) (hz:r z=some (.string x)) (hH:fz g=some (mapS m)) (hv:(fndS m x 0).elim E.zero (·.2)=v) (h:V v):DoesQ P cx ⟨dst,.lookup t y z false,ty,pos,af,gd⟩ r fz H V:=
 Yhp T hT hd hK hkd hE hy hz hH (by rw [hv];exact h)
theorem Yd2 (T:Tab P) {k e:TypeId} {z:Operand} {K E:Ty} {m:List (Bs × Value)} {x:Bs} (i:Nat) (hT:T.inf t=some X) (hd:X.desc=.map k e) (hK:T.inf k=some K) (hkd:K.desc=.string) (hE:T.inf e=some E)
 (hy:r y=some (.map (some g))) (hz:r z=some (.string x)) (hH:H[i]?=some (g,mapS m)) {b:Bool} (hv:(fndS m x 0).elim E.zero (·.2)=v) (hb:(fndS m x 0).isSome=b) (h:V (.tuple #[v,.bool b])):DoesQ P cx ⟨dst,.lookup t y z true,ty,pos,af,gd⟩ r fz H V:=
 YeB T i hT hd hK hkd hE hy hz hH (by rw [hv,hb];exact h)
theorem Wq (T:Tab P) {k e:TypeId} {z:Operand} {K E:Ty} {m:List (Bs × Value)} {x:Bs} (hT:T.inf t=some X) (hd:X.desc=.map k e) (hK:T.inf k=some K) (hkd:K.desc=.string) (hE:T.inf e=some E)
 (hy:r y=some (.map (some g))) (hz:r z=some (.string x)) (hH:fz g=some (mapS m)) {b:Bool} (hv:(fndS m x 0).elim E.zero (·.2)=v) (hb:(fndS m x 0).isSome=b) (h:V (.tuple #[v,.bool b])):DoesQ P cx ⟨dst,.lookup t y z true,ty,pos,af,gd⟩ r fz H V:=
 Yfp T hT hd hK hkd hE hy hz hH (by rw [hv,hb];exact h)
theorem Wb (T:Tab P) {k e:TypeId} {z u:Operand} {K:Ty} {m:List (Bs × Value)} {x:Bs} {pre post:HP} {KK:Value→FZ→HP→Prop} (hT:T.inf t=some X) (hd:X.desc=.map k e) (hK:T.inf k=some K) (hkd:K.desc=.string)
 (hy:r y=some (.map (some g))) (hz:r z=some (.string x)) (hu:r u=some v) (hp:H.Perm (pre++(g,mapS m)::post)) (h:KK undef fz (pre++(g,mapS (updS m x v))::post)):Does P cx ⟨dst,.mapUpdate t y z u,ty,pos,af,gd⟩ r fz H KK:=
 Does.of fun ρ w hr hi=>by
  have hi':=hi.perm hp.symm
  have hg:=(hi'.hp.own (g,mapS m) (by simp)).1
  have hund:=run_underlying (und_plain T hT hd rfl) w
  have hset:∀ o',(Go.setObj g o').run P w=.ok () {w with heap:=w.heap.setIfInBounds g o'}:=fun o'=>by
   simp [Go.setObj,Sem.run,hg,mapS]
  have:(execOp ρ ⟨dst,.mapUpdate t y z u,ty,pos,af,gd⟩).run P w=.ok .skip {w with heap:=w.heap.setIfInBounds g (mapS (updS m x v))}:=by
   simp only [execOp,hr _ _ hy,hr _ _ hz,hr _ _ hu,Sem.run_bind,Instr.mapUpdate,hund,Result.andThen_ok,YbH hg,mapS,Yaw T hK hkd,YaQ T hK hkd]
   cases hf:fndS m x 0 with
   | none=>
    have hupd:updS m x v=m++ [(x,v)]:=by simp [updS,hf]
    simp only [hset,hupd,YcC,Nat.zero_add,Result.andThen_ok,Sem.run_pure,List.length_append,List.length_cons,List.length_nil,List.push_toArray]
   | some p=>
    obtain ⟨i,u'⟩:=p
    have hupd:updS m x v=m.set i (x,v):=by simp [updS,hf]
    have hfs:=YeY m x 0 i u' hf
    have hkey:(((Wj m 0).toArray[i]?).map (·.key)).getD (.string x)=.string x:=by
     have:=Ye9 m 0 i
     simp only [Nat.sub_zero] at hfs
     rw [hfs.2] at this
     simp [this]
    have hstay:(Instr.keyThatStays (.string x) (.string x)).run P w=.ok (.string x) w:=by
     simp [Instr.keyThatStays,Instr.sameBits,bytes_beq]
    simp only [hkey,hstay,Sem.run_bind,Result.andThen_ok,hset,hupd,Ye7,Sem.run_pure,List.length_set,List.modify_toArray]
  rw [this]
  exact ⟨fz,_,hi'.setObj,h⟩
variable {x:Operand}
theorem Ygg (T:Tab P) {k e:TypeId} {m:List (Bs × Value)} (hT:T.inf t=some X) (hd:X.desc=.map k e) (hx:r x=some (.map (some g))) (hH:fz g=some (mapS m)) (h:V (.int .i64 m.length)):
 DoesQ P cx ⟨dst,.call {callee:=.builtin .len,args:=#[x],argTypes:=#[t]},ty,pos,af,gd⟩ r fz H V:=
 DoesQ.of h fun ρ w hr hi=>by
  have hg:=hi.hp.keep _ _ hH
  have hu:=run_underlying (und_plain T hT hd rfl) w
  have:(execOp ρ ⟨dst,.call {callee:=.builtin .len,args:=#[x],argTypes:=#[t]},ty,pos,af,gd⟩).run P w=.ok (.value (.int .i64 m.length)) w:=by
   simp [execOp,resolve,invoke,builtin,hr _ _ hx,Builtin.len_,hu,goInt,YbH hg,mapS,Ye8]
  rw [this]
  exact ⟨rfl,Fr.refl _ _⟩
end
section
variable {P:Program} {cx:Cx} {r:Operand→Option Value} {fz:FZ} {H:HP} {dst:Option Nat} {ty:TypeId} {pos:String} {af:Array Edge} {gd:Option (Nat × Bool)} {V:Value→Prop}
variable {X:Ty} {t:TypeId} {x y:Operand}
theorem Yhs (T:Tab P) {t':TypeId} {e:TypeId} {p:Option Addr} (hT:T.inf t=some X) (hd:X.desc=.pointer e) (hx:r x=some (.pointer p)) (hy:r y=some (.pointer none)) (h:V (.bool p.isNone)):
 DoesQ P cx ⟨dst,.binOp .eql t x y t',ty,pos,af,gd⟩ r fz H V:=
 YH (fun ρ w hr=>by
  have hu:P.underlying t=some (.pointer (P.pointee t)):=by rw [Program.pointee,und_plain T hT hd rfl]
  simp only [execOp,hr _ _ hx,hr _ _ hy,Sem.run_bind,eqGuard_at_pointer,Sem.run_pure,Result.andThen_ok,run_eql_pointer_nil w t p hu]) h
end
end Go.Lx
namespace Go.Proofs.YtfjopfinkdhmaaaGreatDoor
open Go.Lx Go.RowKit
attribute [local instance 10] Classical.propDecidable
open Go.Proofs.Tryz (prog)
def tyM (l:List Param):List (Bs × Value):=l.map fun p=>(p.name,.string p.typ)
def tyF:List Param→Bs→Option Bs
 | [],_=>none
 | p::r,t=>if t=p.name then some p.typ else tyF r t
theorem YgF (t:Bs):∀ (l:List Param) (i:Nat),(fndS (tyM l) t i).map (·.2)=(tyF l t).map Value.string
 | [],_=>rfl
 | p::r,i=>by
  rw [show tyM (p::r)=(p.name,.string p.typ)::tyM r from rfl,fndS,tyF]
  split
  ·rfl
  ·exact YgF t r (i+1)
variable {i:Nat}
theorem fndS_val {m:List (Bs × Value)} {t:Bs} {z:Value}:(fndS m t i).elim z (·.2)=((fndS m t i).map (·.2)).getD z:=by cases fndS m t i<;>rfl
theorem fndS_ok {m:List (Bs × Value)} {t:Bs}:(fndS m t i).isSome=((fndS m t i).map (·.2)).isSome:=by cases fndS m t i<;>rfl
theorem Yf8 {l:List Param} {t:Bs}:(fndS (tyM l) t 0).elim (.string ⟨#[]⟩) (·.2)=.string ((tyF l t).getD ⟨#[]⟩):=by
 rw [fndS_val,YgF];cases tyF l t<;>rfl
theorem YkW {l:List Param} {t:Bs}:(fndS (tyM l) t 0).isSome=(tyF l t).isSome:=by
 rw [fndS_ok,YgF];cases tyF l t<;>rfl
def ForR (fz:FZ) (v:Value) (l:List Param):Prop:=∃ gf gm,v=.pointer (some ⟨gf,0,none⟩)∧fz gf=some (.cells #[.map (some gm)] 195 (0,0))∧fz gm=some (mapS (tyM l))
variable {fz fz':FZ} {v:Value}
theorem ForR.mono {l:List Param} (h:ForR fz v l) (hle:Le fz fz'):ForR fz' v l:=by
 obtain ⟨gf,gm,h1,h2,h3⟩:=h
 exact ⟨gf,gm,h1,hle _ _ h2,hle _ _ h3⟩
def HasT (l:List Param) (t:Bs):Prop:=t=Wh∨(tyF l t).isSome=true
theorem has_q {l:List Param} {t:Bs} (h:ForR fz v l):QFn prog 121 [v,.string t] fz (.bool (decide (HasT l t))):=by
 obtain ⟨gf,gm,rfl,h1,h2⟩:=h
 refine GFn.quiet ?_
 refine zF Tryz.func121 Tryz.ntmps121 (fun w0=>?_)
 refine zV ?_;intros
 refine zG ?_;refine Wq T Zz Zz Zz Zz Zz Zz Zz h2 Yf8 YkW ?_
 refine zV ?_;intros
 cases hs:(tyF l t).isSome with
 | true=>
  refine zV ?_;intros
  exact ret1 rfl rfl Zb (Yv (.inr hs))
 | false=>
  refine zV ?_;intros
  refine zC (fun c1=>?_) (fun c1=>?_)
  ·refine zV ?_;intros
   exact ret1 rfl rfl Zb (Yv (.inl c1))
  ·refine zV ?_;intros
   exact ret1 rfl rfl Zb (Yo (fun h0=>h0.elim c1 (fun h0=>by rw [hs] at h0;cases h0)))
def upT (l:List Param) (t:Bs):Bs:=(tyF l t).getD ⟨#[]⟩
def cycM (l:List Param) (t:Bs):Nat→Bs→Bool
 | 0,_=>false
 | n+1,a=>if upT l a=t then true else if upT l a=Wh then false else cycM l t n (upT l a)
theorem cycle_q {l:List Param} {t:Bs} (h:ForR fz v l) (hn:l.length≤1000000000):QFn prog 122 [v,.string t] fz (.bool (cycM l t l.length t)):=by
 obtain ⟨gf,gm,rfl,h1,h2⟩:=h
 have hlen:(tyM l).length=l.length:=by unfold tyM;simp
 refine GFn.quiet ?_
 refine zF Tryz.func122 Tryz.ntmps122 (fun w0=>?_)
 refine zV ?_;intros
 refine zG ?_;refine Ygg T Zz Zz Zz h2 ?_
 rw [hlen]
 refine zV ?_;intros
 refine Yl (fun q σ fz' H'=>∃ (k:Nat) (a:Bs),k≤l.length∧q=l.length - k∧σ=[(12,.int .i64 k),(11,.int .i64 l.length),(5,.string a),(0,.pointer (some ⟨gf,0,none⟩)),(1,.string t)]∧fz=fz'∧H'=[]∧cycM l t (l.length - k) a=cycM l t l.length t) ⟨0,t,Z0 _,rfl,rfl,rfl,rfl,rfl⟩ Zw Zb ?_
 rintro q σ fz' H' ⟨k,a,hk,rfl,rfl,rfl,rfl,hh⟩
 refine zV ?_;intros
 refine zC (fun c1=>?_) (fun c1=>?_)
 ·have e1:l.length - k=(l.length - (k+1))+1:=by omega
  rw [e1,cycM] at hh
  refine zV ?_;intros
  refine zG ?_;refine YaD T Zz Zz Zz Zz Zz Zz Zz h2 Yf8 ?_
  rw [show (tyF l a).getD ⟨#[]⟩=upT l a from rfl]
  refine zV ?_;intros
  refine zC (fun c2=>?_) (fun c2=>?_)
  ·rw [if_pos c2] at hh
   refine zV ?_;intros
   exact zR (h:=by rw [← hh])
  ·rw [if_neg c2] at hh
   refine zV ?_;intros
   refine zC (fun c3=>?_) (fun c3=>?_)
   ·rw [if_pos (show upT l a=Wh from c3)] at hh
    refine zV ?_;intros
    exact zR (h:=by rw [← hh])
   ·rw [if_neg (show ¬upT l a=Wh from c3)] at hh
    refine zV ?_;intros
    exact Yz ⟨k+1,upT l a,by omega,rfl,rfl,rfl,rfl,hh⟩ Zi Zw Zb
 ·have e1:l.length - k=0:=by omega
  rw [e1] at hh
  refine zV ?_;intros
  exact zR (h:=by rw [← hh];rfl)
def upN (l:List Param):Nat→Bs→Prop
 | 0,t=>t=Wh
 | n+1,t=>t≠Wh∧upN l n (upT l t)
def chN (l:List Param):Nat→Bs→List Bs
 | 0,t=>[t]
 | n+1,t=>t::chN l n (upT l t)
theorem YkU {l:List Param}:∀ {n m:Nat} {t:Bs},upN l n t→upN l m t→n=m
 | 0,0,_,_,_=>rfl
 | 0,m+1,t,h1,h2=>absurd h1 h2.1
 | n+1,0,t,h1,h2=>absurd h2 h1.1
 | n+1,m+1,t,h1,h2=>by rw [YkU h1.2 h2.2]
theorem YkT {l:List Param} (hs:∀ p∈l,Short p.typ) {t:Bs}:Short (upT l t):=by
 unfold upT
 induction l with
 | nil=>show Short ⟨#[]⟩;unfold Short;decide
 | cons p r ih=>
  rw [tyF]
  split
  ·exact hs p (by simp)
  ·exact ih (fun q hq=>hs q (by simp [hq]))
theorem Ydr:OneC strL:=by
 intro fz d cs h u hu
 obtain ⟨rfl,_⟩:=h
 simp at hu
 subst hu
 rfl
set_option maxHeartbeats 1000000 in
theorem above_q {l:List Param} {t:Bs} {m:Nat} (h:ForR fz v l) (hs:∀ p∈l,Short p.typ) (ht:Short t) (hm:m≤1000000000) (hu:upN l m t):
 GFn prog 230 [v,.string t] fz [] (fun v fz' H'=>H'=[]∧∃ A c,v=.slice A (m+1) c∧Sl strL fz' A (m+1) c (chN l m t)):=by
 obtain ⟨gf,gm,rfl,h1,h2⟩:=h
 refine zF Tryz.func230 Tryz.ntmps230 (fun w0=>?_)
 refine zV ?_;intros
 refine Ya Zz (Yc T (cs:=[.string t]) Zz Zz Zz Zz Zz Zz Zz Zz (fun gb=>?_))
 refine zV ?_;intros
 refine Yl (fun q σ fz' H'=>∃ (k n:Nat) (a:Bs) (vo:Value) (Ho:HP) (out:List Bs),k≤m∧q=m - k∧n=k+1∧σ=[(5,vo),(0,.pointer (some ⟨gf,0,none⟩)),(1,.string a)]∧fz=fz'∧H'=Ho∧Short a∧upN l (m - k) a∧Grow strL 9 fz vo n Ho (out++ [a])∧out++chN l (m - k) a=chN l m t)
  ⟨0,1,t,_,_,[],Z0 _,rfl,rfl,rfl,rfl,rfl,ht,hu,Grow.block (ys:=[(t,[.string t])]) rfl rfl (by intro p hp;simp only [List.mem_singleton] at hp;subst hp;exact ⟨rfl,ht⟩) rfl Zh,rfl⟩ Zw Zb ?_
 rintro q σ fz' H' ⟨k,n,a,vo,Ho,out,hk,rfl,rfl,rfl,rfl,rfl,ha,hua,hG,hh⟩
 obtain ⟨Ao,co,rfl,_,_⟩:=hG.form
 refine zV ?_;intros
 refine zC (fun c1=>?_) (fun c1=>?_)
 ·have e1:m - k=(m - (k+1))+1:=by
   have:m - k≠0:=fun h0=>by rw [h0] at hua;exact c1 hua
   omega
  rw [e1] at hua hh
  refine zV ?_;intros
  refine zG ?_;refine YaD T Zz Zz Zz Zz Zz Zz Zz h2 Yf8 ?_
  rw [show (tyF l a).getD ⟨#[]⟩=upT l a from rfl]
  have hsu:=YkT hs (t:=a)
  refine zV ?_;intros
  refine Ya Zz (Yc T (cs:=[.string (upT l a)]) Zz Zz Zz Zz Zz Zz Zz Zz (fun gc=>?_))
  refine Ya Zz (YS T (Hr:=[_]) (d:=upT l a) Zz Zz Zz Zz Zz Zz Zz Zz (Zr _) hG Ydr (.head _) ⟨rfl,hsu⟩ (by show _*16≤_;omega) Zi (fun v' Hs' hO'=>?_))
  obtain ⟨Av',cv',rfl,_,_⟩:=hO'.form
  refine zV ?_;intros
  exact Yz ⟨k+1,_,upT l a,_,Hs',out++ [a],by omega,rfl,rfl,rfl,rfl,rfl,hsu,hua.2,hO',by rw [← hh,chN];simp⟩ Zi Zw Zb
 ·have e1:m - k=0:=by
   cases hd:m - k with
   | zero=>rfl
   | succ j=>rw [hd] at hua;exact absurd c1 hua.1
  rw [e1] at hh
  have hkm:k=m:=by omega
  subst hkm
  refine zV ?_;intros
  refine ret1F rfl rfl (fun fz3 hle3 hf3=>?_)
  obtain ⟨A',c',he,hsl⟩:=hG.sl hle3 hf3 Zi
  injection he with x1 x2 x3
  subst x1 x3
  exact ⟨rfl,_,_,rfl,by rw [← hh];exact hsl⟩
def WFT (l:List Param):Prop:=(∀ p∈l,Short p.typ)∧∀ t,HasT l t→∃ m,m≤1000∧upN l m t
def IsT (l:List Param) (a b:Bs):Prop:=HasT l a∧HasT l b∧∃ m,upN l m a∧b∈chN l m a
theorem YlX {l:List Param} {a b:Bs} {m:Nat} (h:upN l m a):(∃ m,upN l m a∧b∈chN l m a)↔b∈chN l m a:=
 ⟨fun ⟨k,h1,h2⟩=>by rw [YkU h h1];exact h2,fun h2=>⟨m,h,h2⟩⟩
theorem is_q {l:List Param} {a b:Bs} (h:ForR fz v l) (hw:WFT l) (ha:Short a):QFn prog 201 [v,.string a,.string b] fz (.bool (decide (IsT l a b))):=by
 have h0:=h
 obtain ⟨gf,gm,rfl,h1,h2⟩:=h
 refine GFn.quiet ?_
 refine zF Tryz.func201 Tryz.ntmps201 (fun w0=>?_)
 refine zV ?_;intros
 refine zb (has_q h0) (fun f1=>?_) (fun f1=>?_)
 ·have hA:=Zt f1
  refine zV ?_;intros
  refine zb (has_q h0) (fun f2=>?_) (fun f2=>?_)
  ·have hB:=Zt f2
   obtain ⟨m,hm,hu⟩:=hw.2 a hA
   refine zV ?_;intros
   refine Seq.guard_yesK Zz Zz Zz (Ym [] _ Zz Zz Zz (above_q h0 hw.1 ha Zi hu) (fun v6 fz6 H6 hle6 hR6=>?_))
   obtain ⟨rfl,B6,cc6,rfl,hs6⟩:=hR6
   refine zV ?_;intros
   refine zb (YcQ (x:=b) hs6) (fun f3=>?_) (fun f3=>?_)
   ·refine zV ?_;intros
    exact ret1 rfl rfl Zb (Yv ⟨hA,hB,(YlX hu).2 (Zt f3)⟩)
   ·refine zV ?_;intros
    exact ret1 rfl rfl Zb (Yo (fun h=>Zf f3 ((YlX hu).1 h.2.2)))
  ·refine zV ?_;intros
   exact ret1 rfl rfl Zb (Yo (fun h=>Zf f2 h.2.1))
 ·refine zV ?_;intros
  exact ret1 rfl rfl Zb (Yo (fun h=>Zf f1 h.1))
def ofT (l:List Param) (t:Bs) (os:List Param):List Bs:=(os.filter fun o=>decide (IsT l o.typ t)).map (·.name)
variable {A:Option Addr} {c n:Nat}
set_option maxHeartbeats 1000000 in
theorem of_q {l os:List Param} {t:Bs} (h:ForR fz v l) (hw:WFT l) (ho:Sl paramL fz A n c os) (hn:n≤1000000000):
 GFn prog 171 [v,.slice A n c,.string t] fz [] (fun v fz' H'=>H'=[]∧∃ B m cc,v=.slice B m cc∧Sl strL fz' B m cc (ofT l t os)):=by
 have h0:=h
 obtain ⟨gf,gm,rfl,h1,h2⟩:=h
 have lo:=ho.len
 have so:=ho.short
 refine zF Tryz.func171 Tryz.ntmps171 (fun w0=>?_)
 refine zV ?_;intros
 refine Yl (fun q σ fz' H'=>∃ (k m:Nat) (vo:Value) (Ho:HP),k≤n∧q=n - k∧m≤k∧σ=[(12,.int .i64 k),(11,.int .i64 n),(10,.slice A n c),(7,vo),(0,.pointer (some ⟨gf,0,none⟩)),(2,.string t)]∧Le fz fz'∧H'=Ho∧Grow strL 9 fz' vo m Ho (ofT l t (os.take k)))
  ⟨0,0,_,[],Z0 _,rfl,Zs _,rfl,Le.refl _,rfl,Grow.nil _ _ _⟩ Zw Zb ?_
 rintro q σ fz' H' ⟨k,m,vo,Ho,hk,rfl,hmk,rfl,hlk,rfl,hG⟩
 obtain ⟨Ao,co,rfl,_,_⟩:=hG.form
 have ok:=ho.mono hlk
 refine zV ?_;intros
 refine zC (fun c1=>?_) (fun c1=>?_)
 ·obtain ⟨x,hx⟩:=Yn (l:=os) (k:=k) Zi
  refine zV ?_;intros
  refine zI ok hx (fun p hp=>?_)
  refine zL hp ?_
  intro cs hcs
  obtain ⟨rfl,hR⟩:=YV hcs
  refine zV ?_;intros
  refine zb (is_q (h0.mono hlk) hw hR.typ) (fun f1=>?_) (fun f1=>?_)
  ·have e1:ofT l t (os.take (k+1))=ofT l t (os.take k)++ [x.name]:=by
    rw [List.take_add_one,hx]
    simp [ofT,Zt f1]
   refine zV ?_;intros
   refine Ya Zz (Yc T (cs:=[.string x.name]) Zz Zz Zz Zz Zz Zz Zz Zz (fun gc=>?_))
   refine Ya Zz (YS T (Hr:=[_,_]) (d:=x.name) Zz Zz Zz Zz Zz Zz Zz Zz (Zr _) hG Ydr (.head _) ⟨rfl,hR.name⟩ (by show _*16≤_;omega) Zi (fun v' Hs' hO'=>?_))
   obtain ⟨Av',cv',rfl,_,_⟩:=hO'.form
   refine zV ?_;intros
   exact Yz ⟨k+1,m+1,_,Hs',by omega,rfl,by omega,rfl,hlk,rfl,hO'.of e1.symm rfl⟩ Zi Zw Zb
  ·have e1:ofT l t (os.take (k+1))=ofT l t (os.take k):=by
    rw [List.take_add_one,hx]
    simp [ofT,Zf f1]
   refine zV ?_;intros
   exact Yz ⟨k+1,m,_,_,by omega,rfl,by omega,rfl,hlk,rfl,hG.of e1.symm rfl⟩ Zi Zw Zb
 ·have hk1:n=k:=by omega
  subst hk1
  rw [show os.take n=os from Zl Zi] at hG
  refine zV ?_;intros
  refine ret1F rfl rfl (fun fz3 hle3 hf3=>?_)
  obtain ⟨A',c',he,hsl⟩:=hG.sl hle3 hf3 Zi
  injection he with x1 x2 x3
  subst x1 x3
  exact ⟨rfl,_,_,_,rfl,hsl⟩
def Yb4 (m:List (Bs × Value)) (ks:List Bs):Prop:=∀ x,Lx.valS m x=if x∈ks then some (.bool true) else none
theorem Yb4.nil:Yb4 [] []:=fun x=>by rw [valS_nil,if_neg (by simp)]
theorem Yb4.add {m:List (Bs × Value)} {ks:List Bs} (h:Yb4 m ks) (x:Bs):Yb4 (updS m x (.bool true)) (ks++ [x]):=fun y=>by
 rw [Yd7,h y]
 by_cases h1:y=x
 ·rw [if_pos h1,if_pos (by simp [h1])]
 ·rw [if_neg h1]
  by_cases h2:y∈ks
  ·rw [if_pos h2,if_pos (by simp [h2])]
  ·rw [if_neg h2,if_neg (by simp [h1,h2])]
theorem Yb4.get {m:List (Bs × Value)} {ks:List Bs} (h:Yb4 m ks) {x:Bs}:(fndS m x 0).elim (.bool false) (·.2)=.bool (decide (x∈ks)):=by
 rw [YiT,h x]
 by_cases h2:x∈ks
 ·rw [if_pos h2,decide_eq_true h2];rfl
 ·rw [if_neg h2,decide_eq_false h2];rfl
def TwP (others l:List Bs):Prop:=∃ k x,l[k]?=some x∧x∈others++l.take k
variable {k:Nat}
theorem Yjk {others l:List Bs} (hh:∀ i,i<k→∀ x,l[i]?=some x→x ∉ others++l.take i) (hk:l.length≤k):¬TwP others l:=by
 rintro ⟨i,x,h1,h2⟩
 have:=(Zg h1).1
 exact hh i Zi x h1 h2
def parN (l:List Param):List Bs:=l.map (·.name)
theorem YjC {l:List Param} {x:Param} (h:l[k]?=some x):(parN l)[k]?=some x.name:=by unfold parN;rw [List.getElem?_map,h];rfl
theorem Ygq {l:List Param}:(parN l).length=l.length:=List.length_map ..
theorem Ybv {l:List Param}:parN (l.take k)=(parN l).take k:=List.map_take ..
variable {B:Option Addr}
set_option maxHeartbeats 1000000 in
theorem Yii {m d:Nat} {l others:List Param} (h1:Sl paramL fz A n c l) (h2:Sl paramL fz B m d others):
 QFn prog 76 [.slice A n c,.slice B m d] fz (errV (if TwP (parN others) (parN l) then 4 else 0)):=by
 have l1:=h1.len
 have l2:=h2.len
 have s1:=h1.short
 have s2:=h2.short
 refine GFn.quiet ?_
 refine zF Tryz.func76 Tryz.ntmps76 (fun w0=>?_)
 refine zV ?_;intros
 refine Ya Zz (Yat (fun gm=>?_))
 refine zV ?_;intros
 refine Yl (fun q σ fz' H'=>∃ (k:Nat) (ms:List (Bs × Value)),k≤m∧q=m - k∧σ=[(13,.int .i64 k),(12,.int .i64 m),(11,.slice B m d),(5,.map (some gm)),(0,.slice A n c)]∧fz=fz'∧H'=[(gm,mapS ms)]∧Yb4 ms (parN (others.take k))) ⟨0,[],Z0 _,rfl,rfl,rfl,rfl,Yb4.nil⟩ Zw Zb ?_
 rintro q σ fz' H' ⟨k,ms,hk,rfl,rfl,rfl,rfl,hS⟩
 refine zV ?_;intros
 refine zC (fun c1=>?_) (fun c1=>?_)
 ·obtain ⟨x,hx⟩:=Yn (l:=others) (k:=k) Zi
  refine zV ?_;intros
  refine zI h2 hx (fun p hp=>?_)
  refine zL hp ?_
  intro cs hcs
  obtain ⟨rfl,hR⟩:=YV hcs
  refine zV ?_;intros
  refine YE (Wb T (pre:=[_]) Zz Zz Zz Zz Zz Zz Zz (Zr _) ?_)
  refine zV ?_;intros
  exact Yz ⟨k+1,_,by omega,rfl,rfl,rfl,rfl,by rw [List.take_add_one,hx];simpa [parN] using hS.add x.name⟩ Zi Zw Zb
 ·rw [Zl Zi] at hS
  refine zV ?_;intros
  refine Yl (fun q σ fz' H'=>∃ (k:Nat) (ms:List (Bs × Value)),k≤n∧q=n - k∧σ=[(23,.int .i64 k),(22,.int .i64 n),(21,.slice A n c),(5,.map (some gm))]∧fz=fz'∧H'=[(gm,mapS ms)]∧Yb4 ms (parN others++parN (l.take k))∧(∀ i,i<k→∀ x,(parN l)[i]?=some x→x ∉ parN others++(parN l).take i)) ⟨0,ms,Z0 _,rfl,rfl,rfl,rfl,by simpa [parN] using hS,fun i hi=>absurd hi Zi⟩ Zw Zb ?_
  rintro q σ fz' H' ⟨k,ms,hk,rfl,rfl,rfl,rfl,hS,hh⟩
  refine zV ?_;intros
  refine zC (fun c2=>?_) (fun c2=>?_)
  ·obtain ⟨x,hx⟩:=Yn (l:=l) (k:=k) Zi
   have hxn:=YjC hx
   refine zV ?_;intros
   refine zI h1 hx (fun p hp=>?_)
   refine zL hp ?_
   intro cs hcs
   obtain ⟨rfl,hR⟩:=YV hcs
   refine zV ?_;intros
   refine zG ?_;refine Yak T 1 Zz Zz Zz Zz Zz Zz Zz Zz hS.get ?_
   refine zV ?_;intros
   by_cases hm:x.name∈parN others++parN (l.take k)
   ·rw [decide_eq_true hm]
    refine zV ?_;intros
    exact zR (h:=by rw [if_pos ⟨k,x.name,hxn,by rw [← Ybv];exact hm⟩];rfl)
   ·rw [decide_eq_false hm]
    refine zV ?_;intros
    refine YE (Wb T (pre:=[_]) Zz Zz Zz Zz Zz Zz Zz (Zr _) ?_)
    refine zV ?_;intros
    exact Yz ⟨k+1,_,by omega,rfl,rfl,rfl,rfl,by rw [List.take_add_one,hx];simpa [parN] using hS.add x.name,Ya2 (p:=fun i x=>x ∉ parN others++(parN l).take i) hh hxn (by rw [← Ybv];exact hm)⟩ Zi Zw Zb
  ·refine zV ?_;intros
   exact zR (h:=by rw [if_neg (Yjk hh (by rw [Ygq];omega))];rfl)
def CkR (fz:FZ) (v:Value) (d:Domain) (p:Problem) (all:List Param) (vf vp vg vo:Value):Prop:=∃ gc v1 v2 v3 v4 v5 v6 u1 u2 u3 u4 u5 u6 u7 Aa na ca,v=.pointer (some ⟨gc,0,none⟩)∧
 fz gc=some (.cells #[.string d.name,v1,v2,v3,v4,v5,v6,.string p.name,.string p.domain,u1,u2,u3,.string p.goal.op,.string p.goal.name,u4,u5,u6,u7,vf,vp,vg,vo,.slice Aa na ca] 94 (0,0))∧
 DomainR fz d v1 v2 v3 v4 v5 v6∧ProblemR fz p u1 u2 u3 u4 u5 u6 u7∧Sl paramL fz Aa na ca all
variable {d:Domain} {vp:Value}
theorem CkR.mono {p:Problem} {all:List Param} {vf vg vo:Value} (h:CkR fz v d p all vf vp vg vo) (hle:Le fz fz'):CkR fz' v d p all vf vp vg vo:=by
 obtain ⟨gc,v1,v2,v3,v4,v5,v6,u1,u2,u3,u4,u5,u6,u7,Aa,na,ca,h1,h2,h3,h4,h5⟩:=h
 exact ⟨gc,v1,v2,v3,v4,v5,v6,u1,u2,u3,u4,u5,u6,u7,Aa,na,ca,h1,hle _ _ h2,h3.mono hle,h4.mono hle,h5.mono hle⟩
def ExP (tys l:List Param):Prop:=∀ p∈l,HasT tys p.typ
theorem YiS {p:Problem} {all l tys:List Param} {vf vg vo:Value} (h:CkR fz v d p all vf vp vg vo) (hf:ForR fz vf tys) (h1:Sl paramL fz A n c l):
 QFn prog 77 [v,.slice A n c] fz (errV (if ExP tys l then 0 else 3)):=by
 obtain ⟨gc,v1,v2,v3,v4,v5,v6,u1,u2,u3,u4,u5,u6,u7,Aa,na,ca,rfl,hc,hD,hP,hall⟩:=h
 have hf0:=hf
 obtain ⟨gf,gm,rfl,hf1,hf2⟩:=hf
 have l1:=h1.len
 have s1:=h1.short
 refine GFn.quiet ?_
 refine zF Tryz.func77 Tryz.ntmps77 (fun w0=>?_)
 refine zV ?_;intros
 refine Yl (fun q σ fz' H'=>∃ k:Nat,k≤n∧q=n - k∧σ=[(9,.int .i64 k),(8,.int .i64 n),(7,.slice A n c),(0,.pointer (some ⟨gc,0,none⟩))]∧fz=fz'∧H'=[]∧(∀ i,i<k→∀ x,l[i]?=some x→HasT tys x.typ)) ⟨0,Z0 _,rfl,rfl,rfl,rfl,fun i hi=>absurd hi Zi⟩ Zw Zb ?_
 rintro q σ fz' H' ⟨k,hk,rfl,rfl,rfl,rfl,hh⟩
 refine zV ?_;intros
 refine zC (fun c1=>?_) (fun c1=>?_)
 ·obtain ⟨x,hx⟩:=Yn (l:=l) (k:=k) Zi
  refine zV ?_;intros
  refine zI h1 hx (fun p1 hp=>?_)
  refine zL hp ?_
  intro cs hcs
  obtain ⟨rfl,hR⟩:=YV hcs
  refine zV ?_;intros
  refine zb (has_q hf0) (fun f1=>?_) (fun f1=>?_)
  ·refine zV ?_;intros
   exact Yz ⟨k+1,by omega,rfl,rfl,rfl,rfl,YL hh hx (Zt f1)⟩ Zi Zw Zb
  ·refine zV ?_;intros
   exact zR (h:=by rw [if_neg (fun h0=>Zf f1 (h0 x (Zm hx)))];rfl)
 ·have hA:=Xs hh Zi
  refine zV ?_;intros
  exact zR (h:=by rw [if_pos (show ExP tys l from hA)];rfl)
def repM:List Bs→List Param→Option Bs
 | _,[]=>none
 | seen,x::r=>if x.name∈seen then some x.typ else repM (seen++ [x.name]) r
theorem Ylj:∀ {l:List Param} {k:Nat} {x:Param} {seen:List Bs},l[k]?=some x→(∀ i,i<k→∀ y,l[i]?=some y→y.name ∉ seen++(parN l).take i)→repM seen l=repM (seen++(parN l).take k) (l.drop k)
 | [],k,x,_,h,_=>by simp at h
 | y::r,0,x,seen,h,_=>by simp
 | y::r,k+1,x,seen,h,hh=>by
  have h0:=hh 0 Zi y rfl
  rw [List.take_zero,List.append_nil] at h0
  rw [repM,if_neg h0,Ylj (l:=r) (k:=k) (x:=x) (seen:=seen++ [y.name]) (by simpa using h) (fun i hi z hz=>by
   have:=hh (i+1) Zi z (by simpa using hz)
   simpa [parN] using this)]
  simp [parN]
theorem Yhj:∀ {l:List Param} {seen:List Bs},(∀ i x,l[i]?=some x→x.name ∉ seen++(parN l).take i)→repM seen l=none
 | [],_,_=>rfl
 | y::r,seen,hh=>by
  have h0:=hh 0 y rfl
  rw [List.take_zero,List.append_nil] at h0
  rw [repM,if_neg h0]
  exact Yhj (fun i z hz=>by
   have:=hh (i+1) z (by simpa using hz)
   simpa [parN] using this)
def repV (o:Option Bs):Value:=.tuple #[.string (o.getD ⟨#[]⟩),errV (if o.isSome=true then 4 else 0)]
theorem Ydt {l:List Param} (h1:Sl paramL fz A n c l):
 QFn prog 123 [.slice A n c] fz (repV (repM [] l)):=by
 have l1:=h1.len
 have s1:=h1.short
 refine GFn.quiet ?_
 refine zF Tryz.func123 Tryz.ntmps123 (fun w0=>?_)
 refine zV ?_;intros
 refine Ya Zz (Yat (fun gm=>?_))
 refine zV ?_;intros
 refine Yl (fun q σ fz' H'=>∃ (k:Nat) (ms:List (Bs × Value)),k≤n∧q=n - k∧σ=[(10,.int .i64 k),(9,.int .i64 n),(8,.slice A n c),(4,.map (some gm))]∧fz=fz'∧H'=[(gm,mapS ms)]∧Yb4 ms (parN (l.take k))∧(∀ i,i<k→∀ x,l[i]?=some x→x.name ∉ []++(parN l).take i)) ⟨0,[],Z0 _,rfl,rfl,rfl,rfl,Yb4.nil,fun i hi=>absurd hi Zi⟩ Zw Zb ?_
 rintro q σ fz' H' ⟨k,ms,hk,rfl,rfl,rfl,rfl,hS,hh⟩
 refine zV ?_;intros
 refine zC (fun c2=>?_) (fun c2=>?_)
 ·obtain ⟨x,hx⟩:=Yn (l:=l) (k:=k) Zi
  refine zV ?_;intros
  refine zI h1 hx (fun p hp=>?_)
  refine zL hp ?_
  intro cs hcs
  obtain ⟨rfl,hR⟩:=YV hcs
  refine zV ?_;intros
  refine zG ?_;refine Yak T 1 Zz Zz Zz Zz Zz Zz Zz Zz hS.get ?_
  refine zV ?_;intros
  by_cases hm:x.name∈parN (l.take k)
  ·have e1:repM [] l=some x.typ:=by
    rw [Ylj hx hh]
    have hd:l.drop k=x::l.drop (k+1):=by
     have:=List.drop_eq_getElem_cons (l:=l) (i:=k) (Zg hx).1
     rw [this,(Zg hx).2]
    rw [hd,repM,if_pos (by rw [List.nil_append,← Ybv];exact hm)]
   rw [decide_eq_true hm]
   refine zV ?_;intros
   exact ret2 rfl rfl rfl Zb (by rw [e1];rfl)
  ·rw [decide_eq_false hm]
   refine zV ?_;intros
   refine YE (Wb T (pre:=[_]) Zz Zz Zz Zz Zz Zz Zz (Zr _) ?_)
   refine zV ?_;intros
   exact Yz ⟨k+1,_,by omega,rfl,rfl,rfl,rfl,by rw [List.take_add_one,hx];simpa [parN] using hS.add x.name,Ya2 (p:=fun i x=>x.name ∉ []++(parN l).take i) hh hx (by rw [List.nil_append,← Ybv];exact hm)⟩ Zi Zw Zb
 ·have e1:repM [] l=none:=Yhj (fun i x hx=>hh i (by have:=(Zg hx).1;omega) x hx)
  refine zV ?_;intros
  exact ret2 rfl rfl rfl Zb (by rw [e1];rfl)
end Go.Proofs.YtfjopfinkdhmaaaGreatDoor
namespace Go.Lx
open Go.RowKit
section
variable {P:Program} {cx:Cx} {r:Operand→Option Value} {fz:FZ} {H:HP} {dst:Option Nat} {ty:TypeId} {pos:String} {af:Array Edge} {gd:Option (Nat × Bool)} {V:Value→Prop}
def updH (fz:FZ):HP→FZ
 | []=>fz
 | p::r=>upd (updH fz r) p.1 p.2
theorem Yji {fz:FZ}:∀ {H:HP},(H.map Prod.fst).Nodup→∀ p∈H,updH fz H p.1=some p.2
 | [],_,p,hp=>by cases hp
 | q::r,hn,p,hp=>by
  rw [List.map_cons,List.nodup_cons] at hn
  rw [updH,upd]
  rcases List.mem_cons.1 hp with rfl | hp
  ·rw [if_pos rfl]
  ·rw [if_neg (fun h0=>hn.1 (by rw [← h0];exact List.mem_map_of_mem hp)),Yji hn.2 p hp]
theorem YkP {fz:FZ}:∀ {H:HP},(∀ p∈H,fz p.1=none)→Le fz (updH fz H)
 | [],_=>Le.refl _
 | q::r,h=>fun b o hb=>by
  rw [updH,upd,if_neg (fun h0=>by rw [h0,h q (by simp)] at hb;cases hb)]
  exact YkP (fun p hp=>h p (by simp [hp])) b o hb
theorem YkQ {fz:FZ}:∀ {H:HP} {b:Nat} {o:Obj},updH fz H b=some o→fz b=some o∨(b,o)∈H
 | [],_,_,h=>.inl h
 | q::r,b,o,h=>by
  rw [updH,upd] at h
  split at h
  ·rename_i hb;injection h with h;subst hb h;exact .inr (by simp)
  ·rcases YkQ h with h | h
   ·exact .inl h
   ·exact .inr (by simp [h])
variable {w:World}
theorem Hp.all (h:Hp fz H w):Hp (updH fz H) [] w:=
 ⟨fun b o hb=>(YkQ hb).elim (h.keep b o) (fun hm=>(h.own _ hm).1),by simp,by simp⟩
theorem Hp.allLe (h:Hp fz H w):Le fz (updH fz H)∧∀ p∈H,updH fz H p.1=some p.2:=⟨YkP fun p hp=>(h.own p hp).2,Yji h.nd⟩
variable {v:Value}
theorem YbL {f:FuncId} {xs:List Operand} {ats:Array TypeId} {vs:List Value} (hx:rds r xs=some vs) (hf:r (.func f)=some (.func (.func f) #[] #[])) (hq:∀ fz',Le fz fz'→(∀ p∈H,fz' p.1=some p.2)→QFn P f vs fz' v) (h:V v):
 DoesQ P cx ⟨dst,.call {callee:=.value (.func f),args:=xs.toArray,argTypes:=ats},ty,pos,af,gd⟩ r fz H V:=
 DoesQ.of h fun ρ w hr hw=>by
  have hq':=hq _ hw.hp.allLe.1 hw.hp.allLe.2
  unfold QFn at hq'
  rw [Yc2 hr (first:=[]) (capt:=[]) hf hx (vs:=vs) (by simp) hq'.1]
  exact (hq'.2 w hw.hp.all).mono fun e w' ⟨he,hfr⟩=>⟨v,he,rfl,hfr⟩
theorem q_callBU {f:FuncId} {xs:List Operand} {ats:Array TypeId} {vs:List Value} {b:Bool} (hx:rds r xs=some vs) (hf:r (.func f)=some (.func (.func f) #[] #[])) (hq:∀ fz',Le fz fz'→(∀ p∈H,fz' p.1=some p.2)→QFn P f vs fz' (.bool b)) (h1:b=true→V (.bool true)) (h2:b=false→V (.bool false)):
 DoesQ P cx ⟨dst,.call {callee:=.value (.func f),args:=xs.toArray,argTypes:=ats},ty,pos,af,gd⟩ r fz H V:=
 YbL hx hf hq (v_bool h1 h2)
theorem q_callvU {f:FuncId} {ff:Operand} {xs:List Operand} {ats:Array TypeId} {us vs first capt:List Value} (hf:r ff=some (.func (.func f) first.toArray capt.toArray)) (hx:rds r xs=some us) (hv:first++us++capt=vs) (hq:∀ fz',Le fz fz'→(∀ p∈H,fz' p.1=some p.2)→QFn P f vs fz' v) (h:V v):
 DoesQ P cx ⟨dst,.call {callee:=.value ff,args:=xs.toArray,argTypes:=ats},ty,pos,af,gd⟩ r fz H V:=
 DoesQ.of h fun ρ w hr hw=>by
  have hq':=hq _ hw.hp.allLe.1 hw.hp.allLe.2
  unfold QFn at hq'
  rw [Yc2 hr hf hx hv hq'.1]
  exact (hq'.2 w hw.hp.all).mono fun e w' ⟨he,hfr⟩=>⟨v,he,rfl,hfr⟩
variable {X Y:Ty} {g n:Nat} {x:Operand}
theorem We (T:Tab P) {t e:Nat} {i:Operand} {k:IntKind} {j:Int} (hT:T.inf t=some X) (hd:X.desc=.array n e) (hY:T.inf e=some Y)
 (hx:r x=some (.pointer (some ⟨g,0,none⟩))) (hi:r i=some (.int k j)) (h0:0≤j) (hn:j<n) (h:V (.pointer (some ((⟨g,0,none⟩:Addr).add (j.toNat*Y.size))))):DoesQ P cx ⟨dst,.indexAddr t x i,ty,pos,af,gd⟩ r fz H V:=
 YH (fun ρ w hr=>by
  have hu:=run_underlying (und_plain T hT hd rfl) w
  have hs:=Lx.run_sizeOf T hY w
  simp [execOp,hr _ _ hx,hr _ _ hi,Instr.indexAt,asIntOf,hu,hs,h0,hn,Instr.sureAddr]) h
variable {cs:List Value}
theorem Ygi (T:Tab P) {t e:Nat} {i:Operand} {k:IntKind} {j:Int} (hT:T.inf t=some X) (hd:X.desc=.array n e) (hY:T.inf e=some Y) (hY1:Y.size=1) (hA:WK Y.desc=false)
 (hx:r x=some (.agg cs.toArray)) (hi:r i=some (.int k j)) (h0:0≤j) (hn:j<n) (hv:cs[j.toNat]?=some v) (h:V v):DoesQ P cx ⟨dst,.index t x i,ty,pos,af,gd⟩ r fz H V:=
 YH (fun ρ w hr=>by
  have hu:=run_underlying (und_plain T hT hd rfl) w
  have hs:=Lx.run_sizeOf T hY w
  have hv2:=Lx.run_isAgg T hY w
  rw [hA] at hv2
  simp [execOp,hr _ _ hx,hr _ _ hi,Instr.index,asIntOf,hu,hs,h0,hn,hY1,part,hv2,hv]) h
end
end Go.Lx
namespace Go.Proofs.YtfjopfinkdhmaaaGreatDoor
open Go.Lx Go.RowKit
attribute [local instance 10] Classical.propDecidable
open Go.Proofs.Tryz (prog)
def X2:Bs:=⟨#[112,114,101,100,105,99,97,116,101,32]⟩
def XB:Bs:=⟨#[102,117,110,99,116,105,111,110,32]⟩
def YbD:Bs:=⟨#[111,98,106,101,99,116,32]⟩
def Wx:Bs:=⟨#[97,99,116,105,111,110,32]⟩
def XC:Bs:=⟨#[100,117,114,97,116,105,118,101,32]⟩
def Xr {α:Type} (E:α→Int):List (Bs × α)→Bs × Int
 | []=>(⟨#[]⟩,0)
 | p::r=>if E p.2=0 then Xr E r else (p.1,E p.2)
theorem Y4 {α β:Type} {E:β→Int} {f:α→Bs} {g:α→β} {r:List (Bs × β)}:∀ {l:List α},(∀ x∈l,E (g x)=0)→Xr E (l.map (fun x=>(f x,g x))++r)=Xr E r
 | [],_=>rfl
 | x::l,h=>by
  rw [List.map_cons,List.cons_append,Xr,if_pos (h x (by simp))]
  exact Y4 (fun y hy=>h y (by simp [hy]))
theorem Ws {α β:Type} {E:β→Int} {f:α→Bs} {g:α→β} {r:List (Bs × β)}:∀ {l:List α} {k:Nat} {x:α},l[k]?=some x→(∀ i,i<k→∀ y,l[i]?=some y→E (g y)=0)→E (g x)≠0→Xr E (l.map (fun x=>(f x,g x))++r)=(f x,E (g x))
 | [],k,x,h,_,_=>by simp at h
 | y::l,0,x,h,_,hx=>by
  simp at h;subst h
  rw [List.map_cons,List.cons_append,Xr,if_neg hx]
 | y::l,k+1,x,h,hh,hx=>by
  rw [List.map_cons,List.cons_append,Xr,if_pos (hh 0 Zi y rfl)]
  exact Ws (k:=k) (by simpa using h) (fun i hi z hz=>hh (i+1) Zi z (by simpa using hz)) hx
def resV (a:Bs × Int):Value:=.tuple #[.string a.1,errV a.2]
structure NmS (d:Domain) (all:List Param):Prop where
 p:∀ x∈d.predicates,x.name.size≤1000
 f:∀ x∈d.functions,x.name.size≤1000
 o:∀ x∈all,x.name.size≤1000
 a:∀ x∈d.actions,x.name.size≤1000
 u:∀ x∈d.duratives,x.name.size≤1000
def Ybw (d:Domain) (all:List Param):List (Bs × List Param):=
 d.predicates.map (fun x=>(X2++x.name,x.params))++(d.functions.map (fun x=>(XB++x.name,x.params))++(all.map (fun x=>(YbD++x.name,[x]))++(d.actions.map (fun x=>(Wx++x.name,x.params))++(d.duratives.map (fun x=>(XC++x.name,x.params))++ []))))
variable {d:Domain} {fz:FZ} {v vp:Value}
set_option maxHeartbeats 4000000 in
/-- lists, without the objects (ob false) or with them: fv is the check -/
theorem YlQ {p:Problem} {all:List Param} {vf vg vo:Value} {ob:Bool} {f:FuncId} {first capt:List Value} {E:List Param→Int} (h:CkR fz v d p all vf vp vg vo) (hs:NmS d all)
 (hE:∀ {A:Option Addr} {n c:Nat} {l:List Param} {fz':FZ},Le fz fz'→Sl paramL fz' A n c l→QFn prog f (first++ [.slice A n c]++capt) fz' (errV (E l))):
 QFn prog 74 [v,.func (.func f) first.toArray capt.toArray,.bool ob] fz (resV (Xr E (Ybw d (if ob=true then all else [])))):=by
 obtain ⟨gc,v1,v2,v3,v4,v5,v6,u1,u2,u3,u4,u5,u6,u7,Aa,na,ca,rfl,hc,hD,hP,hall⟩:=h
 obtain ⟨A1,n1,b1,rfl,i1⟩:=hD.types
 obtain ⟨A2,n2,b2,rfl,i2⟩:=hD.constants
 obtain ⟨A3,n3,b3,rfl,i3⟩:=hD.predicates
 obtain ⟨A4,n4,b4,rfl,i4⟩:=hD.functions
 obtain ⟨A5,n5,b5,rfl,i5⟩:=hD.actions
 obtain ⟨A6,n6,b6,rfl,i6⟩:=hD.duratives
 have l3:=i3.len
 have l4:=i4.len
 have l5:=i5.len
 have l6:=i6.len
 have la:=hall.len
 have s3:=i3.short
 have s4:=i4.short
 have s5:=i5.short
 have s6:=i6.short
 have sa:=hall.short
 refine GFn.quiet ?_
 refine zF Tryz.func74 Tryz.ntmps74 (fun w0=>?_)
 refine zV ?_;intros
 refine Yl (fun q σ fz' H'=>∃ k:Nat,k≤n3∧q=n3 - k∧σ=[(29,.int .i64 k),(28,.int .i64 n3),(27,.slice A3 n3 b3),(0,.pointer (some ⟨gc,0,none⟩)),(1,.func (.func f) first.toArray capt.toArray),(2,.bool ob)]∧fz=fz'∧H'=[]∧(∀ i,i<k→∀ x,d.predicates[i]?=some x→E x.params=0)) ⟨0,Z0 _,rfl,rfl,rfl,rfl,fun i hi=>absurd hi Zi⟩ Zw Zb ?_
 rintro q σ fz' H' ⟨k,hk,rfl,rfl,rfl,rfl,hh⟩
 refine zV ?_;intros
 refine zC (fun c1=>?_) (fun c1=>?_)
 ·obtain ⟨x,hx⟩:=Yn (l:=d.predicates) (k:=k) Zi
  have hxs:=hs.p x (Zm hx)
  refine zV ?_;intros
  refine zI i3 hx (fun p1 hp=>?_)
  refine zL hp ?_
  intro cs hcs
  obtain ⟨w1,rfl,hR⟩:=XD hcs
  obtain ⟨Ap,np,cp,rfl,ip⟩:=hR.params
  refine zV ?_;intros
  refine zG ?_;refine Yb9 Zz Zz Zz (hE (Le.refl _) ip) ?_
  by_cases hz:E x.params=0
  ·rw [hz,show errV 0=.nilIface from rfl]
   refine zV ?_;intros
   exact Yz ⟨k+1,by omega,rfl,rfl,rfl,rfl,YL hh hx hz⟩ Zi Zw Zb
  ·rw [Yj hz]
   refine zV ?_;intros
   refine zG ?_;refine XK Zz Zz (by show _+_≤_;exact Nat.le_trans (Nat.add_le_add_left hxs _) Zh) ?_
   refine zV ?_;intros
   exact ret2 rfl rfl rfl Zb (by rw [Ybw,Ws (l:=d.predicates) (E:=E) (f:=fun x=>X2++x.name) (g:=fun x=>x.params) hx hh hz];rw [resV,Yj hz];rfl)
 ·have hzp:=fun x (hx:x∈d.predicates)=>(by obtain ⟨i,hi⟩:=List.getElem?_of_mem hx;exact Xs hh Zi x hx:E x.params=0)
  refine zV ?_;intros
  refine Yl (fun q σ fz' H'=>∃ k:Nat,k≤n4∧q=n4 - k∧σ=[(50,.int .i64 k),(49,.int .i64 n4),(48,.slice A4 n4 b4),(0,.pointer (some ⟨gc,0,none⟩)),(1,.func (.func f) first.toArray capt.toArray),(2,.bool ob)]∧fz=fz'∧H'=[]∧(∀ i,i<k→∀ x,d.functions[i]?=some x→E x.params=0)) ⟨0,Z0 _,rfl,rfl,rfl,rfl,fun i hi=>absurd hi Zi⟩ Zw Zb ?_
  rintro q σ fz' H' ⟨k,hk,rfl,rfl,rfl,rfl,hh⟩
  refine zV ?_;intros
  refine zC (fun c1=>?_) (fun c1=>?_)
  ·obtain ⟨x,hx⟩:=Yn (l:=d.functions) (k:=k) Zi
   have hxs:=hs.f x (Zm hx)
   refine zV ?_;intros
   refine zI i4 hx (fun p1 hp=>?_)
   refine zL hp ?_
   intro cs hcs
   obtain ⟨w1,rfl,hR⟩:=Y6 hcs
   obtain ⟨Ap,np,cp,rfl,ip⟩:=hR.params
   refine zV ?_;intros
   refine zG ?_;refine Yb9 Zz Zz Zz (hE (Le.refl _) ip) ?_
   by_cases hz:E x.params=0
   ·rw [hz,show errV 0=.nilIface from rfl]
    refine zV ?_;intros
    exact Yz ⟨k+1,by omega,rfl,rfl,rfl,rfl,YL hh hx hz⟩ Zi Zw Zb
   ·rw [Yj hz]
    refine zV ?_;intros
    refine zG ?_;refine XK Zz Zz (by show _+_≤_;exact Nat.le_trans (Nat.add_le_add_left hxs _) Zh) ?_
    refine zV ?_;intros
    exact ret2 rfl rfl rfl Zb (by rw [Ybw,Y4 (l:=d.predicates) (E:=E) (f:=fun x=>X2++x.name) (g:=fun x=>x.params) hzp,Ws (l:=d.functions) (E:=E) (f:=fun x=>XB++x.name) (g:=fun x=>x.params) hx hh hz];rw [resV,Yj hz];rfl)
  ·have hzf:=fun x (hx:x∈d.functions)=>(by obtain ⟨i,hi⟩:=List.getElem?_of_mem hx;exact Xs hh Zi x hx:E x.params=0)
   refine zVX ?_;intros
   refine Yk ?_
   refine zVX ?_;intros
   refine Yk (Wp.mid (fun σ fz' H'=>σ=[(0,.pointer (some ⟨gc,0,none⟩)),(1,.func (.func f) first.toArray capt.toArray)]∧fz=fz'∧H'=[]∧(∀ r,Xr E ((if ob=true then all else []).map (fun x=>(YbD++x.name,[x]))++r)=Xr E r)) ?_ ?_)
   ·refine zV ?_;intros
    refine Yl (fun q σ fz' H'=>∃ k:Nat,k≤na∧q=na - k∧σ=[(70,.int .i64 k),(69,.int .i64 na),(68,.slice Aa na ca),(0,.pointer (some ⟨gc,0,none⟩)),(1,.func (.func f) first.toArray capt.toArray),(2,.bool ob)]∧fz=fz'∧H'=[]∧(∀ i,i<k→∀ x,all[i]?=some x→E [x]=0)∧(ob=false→k=0)) ⟨0,Z0 _,rfl,rfl,rfl,rfl,fun i hi=>absurd hi Zi,fun _=>rfl⟩ Zw Zb ?_
    rintro q σ fz' H' ⟨k,hk,rfl,rfl,rfl,rfl,hh,hob⟩
    refine zV ?_;intros
    refine zC (fun c1=>?_) (fun c1=>?_)
    ·obtain ⟨x,hx⟩:=Yn (l:=all) (k:=k) Zi
     have hxs:=hs.o x (Zm hx)
     refine zV ?_;intros
     refine zI hall hx (fun p1 hp=>?_)
     refine zL hp ?_
     intro cs hcs
     obtain ⟨rfl,hR⟩:=YV hcs
     cases ob with
     | false=>
      refine zV ?_;intros
      exact midN ⟨rfl,rfl,rfl,fun r=>rfl⟩ Zw Zb
     | true=>
      refine zV ?_;intros
      refine Ya Zz (Yc T (cs:=[.string x.name,.string x.typ]) Zz Zz Zz Zz Zz Zz Zz Zz (fun gb=>?_))
      refine zG ?_;refine q_callvU Zz Zz Zz (fun fz' hl hf=>hE hl (Xt (l:=[x]) (ys:=[(x,[.string x.name,.string x.typ])]) (hf _ (.head _)) rfl rfl (by simpa using YbM (hR.mono hl)) rfl (by simp))) ?_
      by_cases hz:E [x]=0
      ·rw [hz,show errV 0=.nilIface from rfl]
       refine zV ?_;intros
       exact Yz ⟨k+1,by omega,rfl,rfl,rfl,rfl,YL hh hx hz,fun h0=>by cases h0⟩ Zi Zw Zb
      ·rw [Yj hz]
       refine zV ?_;intros
       refine zG ?_;refine XK Zz Zz (by show _+_≤_;exact Nat.le_trans (Nat.add_le_add_left hxs _) Zh) ?_
       refine zV ?_;intros
       exact ret2 rfl rfl rfl Zb (by rw [Ybw,Y4 (l:=d.predicates) (E:=E) (f:=fun x=>X2++x.name) (g:=fun x=>x.params) hzp,Y4 (l:=d.functions) (E:=E) (f:=fun x=>XB++x.name) (g:=fun x=>x.params) hzf,if_pos rfl,Ws (l:=all) (E:=E) (f:=fun x=>YbD++x.name) (g:=fun x=>[x]) hx hh hz];rw [resV,Yj hz];rfl)
    ·have hzo:∀ x∈all,E [x]=0∨ob=false:=fun x hx=>by
      cases ob with
      | false=>exact .inr rfl
      | true=>obtain ⟨i,hi⟩:=List.getElem?_of_mem hx;exact .inl (Xs (p:=fun x=>E [x]=0) hh Zi x hx)
     refine zV ?_;intros
     exact midN ⟨rfl,rfl,rfl,fun r=>by
      cases ob with
      | false=>rfl
      | true=>exact Y4 (l:=all) (E:=E) (f:=fun x=>YbD++x.name) (g:=fun x=>[x]) (fun x hx=>(hzo x hx).elim (fun h=>h) (fun h=>by cases h))⟩ Zw Zb
   ·rintro σ fz' H' ⟨rfl,rfl,rfl,hzo⟩
    refine zV ?_;intros
    refine Yl (fun q σ fz' H'=>∃ k:Nat,k≤n5∧q=n5 - k∧σ=[(93,.int .i64 k),(92,.int .i64 n5),(91,.slice A5 n5 b5),(0,.pointer (some ⟨gc,0,none⟩)),(1,.func (.func f) first.toArray capt.toArray)]∧fz=fz'∧H'=[]∧(∀ i,i<k→∀ x,d.actions[i]?=some x→E x.params=0)) ⟨0,Z0 _,rfl,rfl,rfl,rfl,fun i hi=>absurd hi Zi⟩ Zw Zb ?_
    rintro q σ fz' H' ⟨k,hk,rfl,rfl,rfl,rfl,hh⟩
    refine zV ?_;intros
    refine zC (fun c1=>?_) (fun c1=>?_)
    ·obtain ⟨x,hx⟩:=Yn (l:=d.actions) (k:=k) Zi
     have hxs:=hs.a x (Zm hx)
     refine zV ?_;intros
     refine zI i5 hx (fun p1 hp=>?_)
     refine zL hp ?_
     intro cs hcs
     obtain ⟨w1,w2,w3,w4,w5,w6,rfl,hR⟩:=Xz hcs
     obtain ⟨Ap,np,cp,rfl,ip⟩:=hR.params
     obtain ⟨B0,e0,j0,rfl,_⟩:=hR.pre.args
     obtain ⟨B1,e1,j1,rfl,_⟩:=hR.pre.params
     obtain ⟨B2,e2,j2,rfl,_⟩:=hR.pre.exprs
     obtain ⟨B3,e3,j3,rfl,_⟩:=hR.pre.kids
     obtain ⟨B4,e4,j4,rfl,_⟩:=hR.changes
     refine zV ?_;intros
     refine zG ?_;refine Yb9 Zz Zz Zz (hE (Le.refl _) ip) ?_
     by_cases hz:E x.params=0
     ·rw [hz,show errV 0=.nilIface from rfl]
      refine zV ?_;intros
      exact Yz ⟨k+1,by omega,rfl,rfl,rfl,rfl,YL hh hx hz⟩ Zi Zw Zb
     ·rw [Yj hz]
      refine zV ?_;intros
      refine zG ?_;refine XK Zz Zz (by show _+_≤_;exact Nat.le_trans (Nat.add_le_add_left hxs _) Zh) ?_
      refine zV ?_;intros
      exact ret2 rfl rfl rfl Zb (by rw [Ybw,Y4 (l:=d.predicates) (E:=E) (f:=fun x=>X2++x.name) (g:=fun x=>x.params) hzp,Y4 (l:=d.functions) (E:=E) (f:=fun x=>XB++x.name) (g:=fun x=>x.params) hzf,hzo,Ws (l:=d.actions) (E:=E) (f:=fun x=>Wx++x.name) (g:=fun x=>x.params) hx hh hz];rw [resV,Yj hz];rfl)
    ·have hza:=fun x (hx:x∈d.actions)=>(by obtain ⟨i,hi⟩:=List.getElem?_of_mem hx;exact Xs hh Zi x hx:E x.params=0)
     refine zV ?_;intros
     refine Yl (fun q σ fz' H'=>∃ k:Nat,k≤n6∧q=n6 - k∧σ=[(114,.int .i64 k),(113,.int .i64 n6),(112,.slice A6 n6 b6),(1,.func (.func f) first.toArray capt.toArray)]∧fz=fz'∧H'=[]∧(∀ i,i<k→∀ x,d.duratives[i]?=some x→E x.params=0)) ⟨0,Z0 _,rfl,rfl,rfl,rfl,fun i hi=>absurd hi Zi⟩ Zw Zb ?_
     rintro q σ fz' H' ⟨k,hk,rfl,rfl,rfl,rfl,hh⟩
     refine zV ?_;intros
     refine zC (fun c1=>?_) (fun c1=>?_)
     ·obtain ⟨x,hx⟩:=Yn (l:=d.duratives) (k:=k) Zi
      have hxs:=hs.u x (Zm hx)
      refine zV ?_;intros
      refine zI i6 hx (fun p1 hp=>?_)
      refine zL hp ?_
      intro cs hcs
      obtain ⟨w0,w1,w2,w3,w4,w5,w6,w7,w8,w9,w10,w11,w12,w13,w14,rfl,hR⟩:=Xm hcs
      obtain ⟨Ap,np,cp,rfl,ip⟩:=hR.params
      obtain ⟨B0,e0,j0,rfl,_⟩:=hR.start.args
      obtain ⟨B1,e1,j1,rfl,_⟩:=hR.start.params
      obtain ⟨B2,e2,j2,rfl,_⟩:=hR.start.exprs
      obtain ⟨B3,e3,j3,rfl,_⟩:=hR.start.kids
      obtain ⟨B4,e4,j4,rfl,_⟩:=hR.over.args
      obtain ⟨B5,e5,j5,rfl,_⟩:=hR.over.params
      obtain ⟨B6,e6,j6,rfl,_⟩:=hR.over.exprs
      obtain ⟨B7,e7,j7,rfl,_⟩:=hR.over.kids
      obtain ⟨B8,e8,j8,rfl,_⟩:=hR.fin.args
      obtain ⟨B9,e9,j9,rfl,_⟩:=hR.fin.params
      obtain ⟨B10,e10,j10,rfl,_⟩:=hR.fin.exprs
      obtain ⟨B11,e11,j11,rfl,_⟩:=hR.fin.kids
      obtain ⟨B12,e12,j12,rfl,_⟩:=hR.atStart
      obtain ⟨B13,e13,j13,rfl,_⟩:=hR.atEnd
      refine zV ?_;intros
      refine zG ?_;refine Yb9 Zz Zz Zz (hE (Le.refl _) ip) ?_
      by_cases hz:E x.params=0
      ·rw [hz,show errV 0=.nilIface from rfl]
       refine zV ?_;intros
       exact Yz ⟨k+1,by omega,rfl,rfl,rfl,rfl,YL hh hx hz⟩ Zi Zw Zb
      ·rw [Yj hz]
       refine zV ?_;intros
       refine zG ?_;refine XK Zz Zz (by show _+_≤_;exact Nat.le_trans (Nat.add_le_add_left hxs _) Zh) ?_
       refine zV ?_;intros
       exact ret2 rfl rfl rfl Zb (by rw [Ybw,Y4 (l:=d.predicates) (E:=E) (f:=fun x=>X2++x.name) (g:=fun x=>x.params) hzp,Y4 (l:=d.functions) (E:=E) (f:=fun x=>XB++x.name) (g:=fun x=>x.params) hzf,hzo,Y4 (l:=d.actions) (E:=E) (f:=fun x=>Wx++x.name) (g:=fun x=>x.params) hza,Ws (l:=d.duratives) (E:=E) (f:=fun x=>XC++x.name) (g:=fun x=>x.params) hx hh hz];rw [resV,Yj hz];rfl)
     ·have hzu:=fun x (hx:x∈d.duratives)=>(by obtain ⟨i,hi⟩:=List.getElem?_of_mem hx;exact Xs hh Zi x hx:E x.params=0)
      refine zV ?_;intros
      exact ret2 rfl rfl rfl Zb (by rw [Ybw,Y4 (l:=d.predicates) (E:=E) (f:=fun x=>X2++x.name) (g:=fun x=>x.params) hzp,Y4 (l:=d.functions) (E:=E) (f:=fun x=>XB++x.name) (g:=fun x=>x.params) hzf,hzo,Y4 (l:=d.actions) (E:=E) (f:=fun x=>Wx++x.name) (g:=fun x=>x.params) hza,Y4 (l:=d.duratives) (E:=E) (f:=fun x=>XC++x.name) (g:=fun x=>x.params) hzu];rfl)
end Go.Proofs.YtfjopfinkdhmaaaGreatDoor
