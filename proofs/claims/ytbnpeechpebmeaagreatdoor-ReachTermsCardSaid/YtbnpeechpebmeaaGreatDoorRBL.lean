/- The texts PWalkL, PWalkM, PGrowB, PWalkN, laid together. Conditions: none. -/
import Derived.Test.YtbnpeechpebmeaaGreatDoorRBK
set_option linter.all false
noncomputable section
set_option maxRecDepth 20000
namespace Go.Proofs.YtbnpeechpebmeaaGreatDoor
open Go.Lx Go.RowKit
attribute [local instance 10] Classical.propDecidable
open Go.Proofs.Tryz (prog)
def Ygj:Bs:=⟨#[97,115,115,105,103,110]⟩
def YcM:Bs:=⟨#[105,110,99,114,101,97,115,101]⟩
def YcN:Bs:=⟨#[100,101,99,114,101,97,115,101]⟩
def YlR:Bs:=⟨#[119,104,101,110]⟩
def nilE:Lx.Expr:=.mk ⟨#[]⟩ ⟨#[]⟩ 0 [] []
def Num5 (k:Int):Prop:=k=3∨k=4∨k=5
def Yhr (k:Int):Bs:=if k=3 then Ygj else if k=4 then YcM else YcN
def Yc1 (c:Change):Prop:=((c.kind=1∨c.kind=2)∧c.value=nilE)∨(Num5 c.kind∧EVal c.value)
def WhenOk (c:Change):Prop:=c.when_=Y8∨FVal c.when_
def ChOk (c:Change):Prop:=YfS c.name c.args∧Yc1 c∧WhenOk c∧∀ p∈c.params,Wb true p
def ChSm (c:Change):Prop:=c.params.length≤1000000000∧c.args.length≤1000000000∧FSm c.when_∧ESm c.value
def chX1 (c:Change):Sexpr:=if c.kind=2 then YH [Yh kNot,XT c.name c.args] else if Num5 c.kind then YH [Yh (Yhr c.kind),XT c.name c.args,XN c.value] else XT c.name c.args
def chX2 (c:Change):Sexpr:=if c.when_=Y8 then chX1 c else YH [Yh YlR,Y9 c.when_,chX1 c]
def chX (c:Change):Sexpr:=if c.params=[] then chX2 c else YH [Yh kForall,YH ((c.params.flatMap WX).map Yh),chX2 c]
theorem Ymf {fz3:FZ} {gb:Nat} {o:Bs} {X:Sexpr} {vk3:Value} (ho:Short o) (hg:fz3 gb=some (.cells (Yr o++ [.int .i64 X.kind,.int .i64 X.value,.int .i64 X.line,.int .i64 X.column,.string X.text,vk3]).toArray 74 (0,0))) (hX:XU fz3 X vk3):
 XU fz3 (YH [Yh o,X]) (.slice (some ⟨gb,0,none⟩) 2 2):=
 ⟨YeI,XH,XH,XH,Y5,(Xg (ys:=[(Yh o,Yr o),(X,[.int .i64 X.kind,.int .i64 X.value,.int .i64 X.line,.int .i64 X.column,.string X.text,vk3])]) hg rfl rfl (by
  intro p hp
  simp only [List.mem_cons,List.not_mem_nil,or_false] at hp
  rcases hp with rfl | rfl
  ·exact Yv ho
  ·exact Yi hX) rfl (by simp)).is⟩
theorem Yc7 {fz3:FZ} {gb:Nat} {o:Bs} {X Y:Sexpr} {vk3 vk5:Value} (ho:Short o) (hg:fz3 gb=some (.cells (Yr o++ [.int .i64 X.kind,.int .i64 X.value,.int .i64 X.line,.int .i64 X.column,.string X.text,vk3]++ [.int .i64 Y.kind,.int .i64 Y.value,.int .i64 Y.line,.int .i64 Y.column,.string Y.text,vk5]).toArray 74 (0,0))) (hX:XU fz3 X vk3) (hY:XU fz3 Y vk5):
 XU fz3 (YH [Yh o,X,Y]) (.slice (some ⟨gb,0,none⟩) 3 3):=
 ⟨YeI,XH,XH,XH,Y5,(Xg (ys:=[(Yh o,Yr o),(X,[.int .i64 X.kind,.int .i64 X.value,.int .i64 X.line,.int .i64 X.column,.string X.text,vk3]),(Y,[.int .i64 Y.kind,.int .i64 Y.value,.int .i64 Y.line,.int .i64 Y.column,.string Y.text,vk5])]) hg rfl rfl (by
  intro p hp
  simp only [List.mem_cons,List.not_mem_nil,or_false] at hp
  rcases hp with rfl | rfl | rfl
  ·exact Yv ho
  ·exact Yi hX
  ·exact Yi hY) rfl (by simp)).is⟩
theorem Ybt {o:Bs} (h:o=kNot∨o=Ygj∨o=YcM∨o=YcN∨o=YlR∨o=kForall):Short o:=by
 rcases h with rfl | rfl | rfl | rfl | rfl | rfl<;>(unfold Short;decide)
variable {fz:FZ} {g:Nat} {v1 v2 v3 v4 v5 v6 v7:Value}
set_option maxHeartbeats 4000000 in
theorem YkF {b:Bool} {c:Change} {v8:Value} (h:ChangeR fz c v1 v2 v3 v4 v5 v6 v7 v8) (hs:ChSm c):
 GFn prog 136 [.pointer (some ⟨g,0,none⟩),.agg #[.int .i64 c.kind,v1,.string c.when_.op,.string c.when_.name,v2,v3,v4,v5,.string c.name,v6,.string c.value.op,.string c.value.name,.int .i64 c.value.n,v7,v8]] fz [(g,wrO b)] (MkR g b (ChOk c) (chX c) fz):=by
 obtain ⟨A1,n1,b1,rfl,ip⟩:=h.params
 obtain ⟨A2,n2,b2,rfl,iw1⟩:=h.when_.args
 obtain ⟨A3,n3,b3,rfl,iw2⟩:=h.when_.params
 obtain ⟨A4,n4,b4,rfl,iw3⟩:=h.when_.exprs
 obtain ⟨A5,n5,b5,rfl,iw4⟩:=h.when_.kids
 obtain ⟨A6,n6,b6,rfl,ia⟩:=h.args
 obtain ⟨A7,n7,b7,rfl,iv1⟩:=h.value.args
 obtain ⟨A8,n8,b8,rfl,iv2⟩:=h.value.kids
 refine zF Tryz.func136 Tryz.ntmps136 (fun w0=>?_)
 refine Yp (Yq (Yb Zz (Y3 _ Zz Zz (fun g3=>?_))))
 refine zW ?_;intros
 rename_i g4
 refine Seq.perm (@List.perm_middle _ _ [_,_] []).symm ?_
 refine Yb Zz (Yl [_] _ Zz Zz Zz (watom_q h.name ia (by rw [← ia.len];exact hs.2.1)) (fun v9 fz1 H1 hle1 hR1=>?_))
 obtain ⟨_,ba,y0,rfl,⟨cs0,rfl,hr0⟩,hba,hya⟩:=hR1
 obtain ⟨vy0,rfl,hY0⟩:=YG hr0
 obtain ⟨Ay0,ny0,by0,rfl,_⟩:=hY0.kids
 refine zWO ?_;intros
 rename_i g5
 refine Wp.perm (List.Perm.swap _ _ _) ?_
 refine Yp (Wp.mid (fun σ fz' H'=>∃ (bb:Bool) (y:Sexpr) (Ay:Option Addr) (ny by_:Nat),σ=[(5,.pointer (some ⟨g5,0,none⟩)),(4,.pointer (some ⟨g4,0,none⟩)),(3,.pointer (some ⟨g3,0,none⟩)),(0,.pointer (some ⟨g,0,none⟩))]∧Le fz1 fz'∧H'=[(g,wrO bb),(g5,.cells #[.int .i64 y.kind,.int .i64 y.value,.int .i64 y.line,.int .i64 y.column,.string y.text,.slice Ay ny by_] 74 (0,0)),(g4,.cells #[.int .i64 0,.int .i64 0,.int .i64 0,.int .i64 0,.string ⟨#[]⟩,.slice none 0 0] 74 (0,0)),(g3,.cells #[.int .i64 c.kind,.slice A1 n1 b1,.string c.when_.op,.string c.when_.name,.slice A2 n2 b2,.slice A3 n3 b3,.slice A4 n4 b4,.slice A5 n5 b5,.string c.name,.slice A6 n6 b6,.string c.value.op,.string c.value.name,.int .i64 c.value.n,.slice A7 n7 b7,.slice A8 n8 b8] 38 (0,0))]∧XU fz' y (.slice Ay ny by_)∧(bb=false↔b=false∧YfS c.name c.args∧Yc1 c)∧(bb=false→y=chX1 c)) ?_ ?_)
 ·have hM:∀ {fz':FZ},Le fz1 fz'→ExprR fz' c.value (.slice A7 n7 b7) (.slice A8 n8 b8):=fun hle=>h.value.mono (hle1.trans hle)
  refine zW ?_;intros
  refine zC (fun k1=>?_) (fun k1=>?_)
  ·have k2:¬c.kind=2:=by omega
   have hx1:chX1 c=XT c.name c.args:=by unfold chX1 Num5;rw [if_neg k2,if_neg Zi]
   have hk0:Yc1 c↔c.value=nilE:=⟨fun h0=>h0.elim (fun h0=>h0.2) (fun h0=>by have:=h0.1;unfold Num5 at this;omega),fun h0=>.inl ⟨.inl k1,h0⟩⟩
   refine zW ?_;intros
   cases ba
   ·refine zW ?_;intros
    ((refine zG ?_);refine Yn (vs:=[.string c.value.op,.string c.value.name,.int .i64 c.value.n,.slice A7 n7 b7,.slice A8 n8 b8]) T 3 Zz Zz Zz Zz Zz Zz ?_)
    refine zW ?_;intros
    ((refine zG ?_);refine XY Zz Zz (YeY (b:=nilE) (hM (Le.refl _)) YhK) (fun f1=>?_) (fun f1=>?_))
    ·refine zW ?_;intros
     exact midN ⟨false,y0,Ay0,ny0,by0,rfl,Le.refl _,rfl,hY0,iff_of_true rfl ⟨(hba.1 rfl).1,(hba.1 rfl).2,hk0.2 (Zt f1)⟩,fun _=>by rw [hx1];exact hya rfl⟩ Zw Zb
    ·refine zW ?_;intros
     exact midN ⟨true,y0,Ay0,ny0,by0,rfl,Le.refl _,rfl,hY0,iff_of_false (by simp) (fun h0=>Zf f1 (hk0.1 h0.2.2)),fun h0=>by cases h0⟩ Zw Zb
   ·refine zW ?_;intros
    exact midN ⟨true,y0,Ay0,ny0,by0,rfl,Le.refl _,rfl,hY0,iff_of_false (by simp) (fun h0=>by simpa using hba.2 ⟨h0.1,h0.2.1⟩),fun h0=>by cases h0⟩ Zw Zb
  ·refine zW ?_;intros
   refine zC (fun k2=>?_) (fun k2=>?_)
   ·have hx1:chX1 c=YH [Yh kNot,XT c.name c.args]:=by unfold chX1;rw [if_pos k2]
    have hk0:Yc1 c↔c.value=nilE:=⟨fun h0=>h0.elim (fun h0=>h0.2) (fun h0=>by have:=h0.1;unfold Num5 at this;omega),fun h0=>.inl ⟨.inr k2,h0⟩⟩
    refine zWO ?_;intros
    refine Wp.cond_true Zz ?_
    refine Yp (Wp.mid (fun σ fz' H'=>∃ bb:Bool,σ=[(5,.pointer (some ⟨g5,0,none⟩)),(4,.pointer (some ⟨g4,0,none⟩)),(3,.pointer (some ⟨g3,0,none⟩)),(0,.pointer (some ⟨g,0,none⟩))]∧fz1=fz'∧H'=[(g,wrO bb),(g5,.cells #[.int .i64 y0.kind,.int .i64 y0.value,.int .i64 y0.line,.int .i64 y0.column,.string y0.text,.slice Ay0 ny0 by0] 74 (0,0)),(g4,.cells #[.int .i64 0,.int .i64 0,.int .i64 0,.int .i64 0,.string ⟨#[]⟩,.slice none 0 0] 74 (0,0)),(g3,.cells #[.int .i64 c.kind,.slice A1 n1 b1,.string c.when_.op,.string c.when_.name,.slice A2 n2 b2,.slice A3 n3 b3,.slice A4 n4 b4,.slice A5 n5 b5,.string c.name,.slice A6 n6 b6,.string c.value.op,.string c.value.name,.int .i64 c.value.n,.slice A7 n7 b7,.slice A8 n8 b8] 38 (0,0))]∧(bb=false↔b=false∧YfS c.name c.args∧Yc1 c)) ?_ ?_)
    ·cases ba
     ·refine zW ?_;intros
      ((refine zG ?_);refine Yn (vs:=[.string c.value.op,.string c.value.name,.int .i64 c.value.n,.slice A7 n7 b7,.slice A8 n8 b8]) T 3 Zz Zz Zz Zz Zz Zz ?_)
      refine zW ?_;intros
      ((refine zG ?_);refine XY Zz Zz (YeY (b:=nilE) (hM (Le.refl _)) YhK) (fun f1=>?_) (fun f1=>?_))
      ·refine zW ?_;intros
       exact midN ⟨false,rfl,rfl,rfl,iff_of_true rfl ⟨(hba.1 rfl).1,(hba.1 rfl).2,hk0.2 (Zt f1)⟩⟩ Zw Zb
      ·refine zW ?_;intros
       exact midN ⟨true,rfl,rfl,rfl,iff_of_false (by simp) (fun h0=>Zf f1 (hk0.1 h0.2.2))⟩ Zw Zb
     ·refine zW ?_;intros
      exact midN ⟨true,rfl,rfl,rfl,iff_of_false (by simp) (fun h0=>by simpa using hba.2 ⟨h0.1,h0.2.1⟩)⟩ Zw Zb
    ·rintro σ fz' H' ⟨bb,rfl,rfl,rfl,hbb⟩
     refine zW ?_;intros
     refine Wp.drawK (Hq:=[_,_,_,_]) T.mixed Zj Zj Zb ?_
     refine zc (WB (s:=kNot)) ?_
     refine zW ?_;intros
     refine Ye ?_
     refine Ye ?_
     refine Ye ?_
     refine YD ⟨by kernel_rfl,?_⟩
     refine Yj (Yc T (cs:=Yr kNot++ [.int .i64 y0.kind,.int .i64 y0.value,.int .i64 y0.line,.int .i64 y0.column,.string y0.text,.slice Ay0 ny0 by0]) Zz Zz Zz Zz Zz Zz Zz Zz (fun gb=>⟨(⟨Le.refl _,Zx⟩),?_⟩))
     refine Ch.qk (⟨Le.refl _,Zx⟩) (YB Zz Zz Xe ?_)
     unfold sxV
     refine Ch.hard0 Zj (XK T Zz Zz Zz Zz Zz Zz ?_)
     refine Ch.done ?_
     refine zW ?_;intros
     refine midF (H':=[(g,wrO bb),(g5,_),(g4,_),(g3,_)]) (H2:=[(gb,_)]) Zq (fun fz2 hl2 hf2=>⟨bb,YH [Yh kNot,y0],_,_,_,rfl,hl2,rfl,Ymf (Ybt (.inl rfl)) (hf2 _ (.head _)) (hY0.mono hl2),hbb,fun h0=>?_⟩) Zw
     rw [hx1,hya (hba.2 ⟨(hbb.1 h0).1,(hbb.1 h0).2.1⟩)]
   ·refine zWO ?_;intros
    refine Wp.cond_false Zz ?_
    refine Yp (Wp.mid (fun σ fz' H'=>∃ bq:Bool,σ=(43,.bool bq):: [(5,.pointer (some ⟨g5,0,none⟩)),(4,.pointer (some ⟨g4,0,none⟩)),(3,.pointer (some ⟨g3,0,none⟩)),(0,.pointer (some ⟨g,0,none⟩))]∧fz1=fz'∧H'=[(g,wrO ba),(g5,.cells #[.int .i64 y0.kind,.int .i64 y0.value,.int .i64 y0.line,.int .i64 y0.column,.string y0.text,.slice Ay0 ny0 by0] 74 (0,0)),(g4,.cells #[.int .i64 0,.int .i64 0,.int .i64 0,.int .i64 0,.string ⟨#[]⟩,.slice none 0 0] 74 (0,0)),(g3,.cells #[.int .i64 c.kind,.slice A1 n1 b1,.string c.when_.op,.string c.when_.name,.slice A2 n2 b2,.slice A3 n3 b3,.slice A4 n4 b4,.slice A5 n5 b5,.string c.name,.slice A6 n6 b6,.string c.value.op,.string c.value.name,.int .i64 c.value.n,.slice A7 n7 b7,.slice A8 n8 b8] 38 (0,0))]∧(bq=true↔Num5 c.kind)) ?_ ?_)
    ·refine zW ?_;intros
     refine zC (fun k3=>?_) (fun k3=>?_)
     ·refine zW ?_;intros
      exact midN ⟨true,rfl,rfl,rfl,iff_of_true rfl (.inl k3)⟩ Zw Zb
     ·refine zW ?_;intros
      refine zC (fun k4=>?_) (fun k4=>?_)
      ·refine zW ?_;intros
       exact midN ⟨true,rfl,rfl,rfl,iff_of_true rfl (.inr (.inl k4))⟩ Zw Zb
      ·refine zW ?_;intros
       refine zC (fun k5=>?_) (fun k5=>?_)
       ·refine zW ?_;intros
        exact midN ⟨true,rfl,rfl,rfl,iff_of_true rfl (.inr (.inr k5))⟩ Zw Zb
       ·refine zW ?_;intros
        exact midN ⟨false,rfl,rfl,rfl,iff_of_false (by simp) (fun h0=>h0.elim k3 (fun h0=>h0.elim k4 k5))⟩ Zw Zb
    ·rintro σ fz' H' ⟨bq,rfl,rfl,rfl,hb5⟩
     cases bq
     ·have hk0:¬Yc1 c:=fun h0=>h0.elim (fun h0=>h0.1.elim k1 k2) (fun h0=>by simpa using hb5.2 h0.1)
      refine zW ?_;intros
      exact midN ⟨true,y0,Ay0,ny0,by0,rfl,Le.refl _,rfl,hY0,iff_of_false (by simp) (fun h0=>hk0 h0.2.2),fun h0=>by cases h0⟩ Zw Zb
     ·have hn5:=hb5.1 rfl
      have hk0:Yc1 c↔EVal c.value:=⟨fun h0=>h0.elim (fun h0=>(h0.1.elim k1 k2).elim) (fun h0=>h0.2),fun h0=>.inr ⟨hn5,h0⟩⟩
      have hx1:chX1 c=YH [Yh (Yhr c.kind),XT c.name c.args,XN c.value]:=by unfold chX1;rw [if_neg k2,if_pos hn5]
      have hw:([.string Ygj,.string YcM,.string YcN]:List Value)[(c.kind - 3).toNat]?=some (.string (Yhr c.kind)):=by
       rcases hn5 with h0 | h0 | h0<;>rw [h0]<;>rfl
      have hsw:Short (Yhr c.kind):=by
       refine Ybt ?_
       unfold Yhr
       split
       ·exact .inr (.inl rfl)
       ·split
        ·exact .inr (.inr (.inl rfl))
        ·exact .inr (.inr (.inr (.inl rfl)))
      have hn6:3≤c.kind∧c.kind≤5:=by unfold Num5 at hn5;omega
      refine Wp.cond_true Zz ?_
      refine zW ?_;intros
      ((refine zG ?_);refine Yn (vs:=[.string c.value.op,.string c.value.name,.int .i64 c.value.n,.slice A7 n7 b7,.slice A8 n8 b8]) T 3 Zz Zz Zz Zz Zz Zz ?_)
      refine Yb Zz (Yl [] _ Zz Zz Zz (eWrite_q (hM (Le.refl _)) hs.2.2.2) (fun v8 fz2 H2 hle2 hR2=>?_))
      obtain ⟨rfl,u,ye,rfl,⟨cse,rfl,hre⟩,hye⟩:=hR2
      obtain ⟨vke,rfl,hE⟩:=YG hre
      obtain ⟨Ae,ne,be,rfl,_⟩:=hE.kids
      refine zWO ?_;intros
      rename_i g6
      refine Yp (Wp.mid (fun σ fz' H'=>∃ bb:Bool,σ=(6,.pointer (some ⟨g6,0,none⟩)):: [(5,.pointer (some ⟨g5,0,none⟩)),(4,.pointer (some ⟨g4,0,none⟩)),(3,.pointer (some ⟨g3,0,none⟩)),(0,.pointer (some ⟨g,0,none⟩))]∧fz2=fz'∧H'=[(g,wrO bb),(g6,.cells #[.int .i64 ye.kind,.int .i64 ye.value,.int .i64 ye.line,.int .i64 ye.column,.string ye.text,.slice Ae ne be] 74 (0,0)),(g5,.cells #[.int .i64 y0.kind,.int .i64 y0.value,.int .i64 y0.line,.int .i64 y0.column,.string y0.text,.slice Ay0 ny0 by0] 74 (0,0)),(g4,.cells #[.int .i64 0,.int .i64 0,.int .i64 0,.int .i64 0,.string ⟨#[]⟩,.slice none 0 0] 74 (0,0)),(g3,.cells #[.int .i64 c.kind,.slice A1 n1 b1,.string c.when_.op,.string c.when_.name,.slice A2 n2 b2,.slice A3 n3 b3,.slice A4 n4 b4,.slice A5 n5 b5,.string c.name,.slice A6 n6 b6,.string c.value.op,.string c.value.name,.int .i64 c.value.n,.slice A7 n7 b7,.slice A8 n8 b8] 38 (0,0))]∧(bb=false↔b=false∧YfS c.name c.args∧Yc1 c)) ?_ ?_)
      ·by_cases hP:EVal c.value
       ·rw [if_pos hP]
        cases ba
        ·refine zW ?_;intros
         exact midP (List.Perm.swap _ _ _) ⟨false,rfl,rfl,rfl,iff_of_true rfl ⟨(hba.1 rfl).1,(hba.1 rfl).2,hk0.2 hP⟩⟩ Zw Zb
        ·refine zW ?_;intros
         exact midP (List.Perm.swap _ _ _) ⟨true,rfl,rfl,rfl,iff_of_false (by simp) (fun h0=>by simpa using hba.2 ⟨h0.1,h0.2.1⟩)⟩ Zw Zb
       ·rw [if_neg hP]
        cases ba
        ·refine zW ?_;intros
         exact midP (List.Perm.swap _ _ _) ⟨true,rfl,rfl,rfl,iff_of_false (by simp) (fun h0=>hP (hk0.1 h0.2.2))⟩ Zw Zb
        ·refine zW ?_;intros
         exact midP (List.Perm.swap _ _ _) ⟨true,rfl,rfl,rfl,iff_of_false (by simp) (fun h0=>by simpa using hba.2 ⟨h0.1,h0.2.1⟩)⟩ Zw Zb
      ·rintro σ fz' H' ⟨bb,rfl,rfl,rfl,hbb⟩
       refine Wp.drawK (Hq:=[_,_,_,_,_]) T.mixed Zj Zj Zb ?_
       refine Ye ?_
       refine zW ?_;intros
       refine Ye ?_
       refine Ye ?_
       refine Ye ?_
       refine zW ?_;intros
       refine Ye ?_
       refine Ye ?_
       refine Ye ?_
       refine YD ⟨by kernel_rfl,?_⟩
       refine Yj (Yc T (cs:=[.string Ygj,.string YcM,.string YcN]) Zz Zz Zz Zz Zz Zz Zz Zz (fun gs=>⟨(⟨Le.refl _,Zx⟩),?_⟩))
       refine Ch.qk (⟨Le.refl _,Zx⟩) (Xu T Zz Zz Zz Zz Zz Zz Zi Zi ?_)
       refine Ch.qk (⟨Le.refl _,Zx⟩) (Yt T 0 Zz Zz Zz Zz hw ?_)
       refine Ch.qk (⟨Le.refl _,Zx⟩) (YB Zz Zz (WB (s:=Yhr c.kind)) ?_)
       refine Yj (Yc T (cs:=Yr (Yhr c.kind)++ [.int .i64 y0.kind,.int .i64 y0.value,.int .i64 y0.line,.int .i64 y0.column,.string y0.text,.slice Ay0 ny0 by0]++ [.int .i64 ye.kind,.int .i64 ye.value,.int .i64 ye.line,.int .i64 ye.column,.string ye.text,.slice Ae ne be]) Zz Zz Zz Zz Zz Zz Zz Zz (fun gb=>⟨(⟨Le.refl _,Zx⟩),?_⟩))
       refine Ch.qk (⟨Le.refl _,Zx⟩) (YB Zz Zz Xe ?_)
       unfold sxV
       refine Ch.hard0 Zj (YU T (pre:=[_,_,_,_]) Zz Zz Zz rfl Zz Zz Zz ?_)
       refine Ch.done ?_
       refine zW ?_;intros
       refine midF (H':=[(g,wrO bb),(g5,_),(g4,_),(g3,_)]) (H2:=[(gb,_),(gs,_),(g6,_)]) (Xb [2,4,5,6,0,1,3] Zz Zz) (fun fz3 hl3 hf3=>⟨bb,YH [Yh (Yhr c.kind),y0,ye],_,_,_,rfl,hle2.trans hl3,rfl,Yc7 hsw (hf3 _ (.head _)) (hY0.mono (hle2.trans hl3)) (hE.mono hl3),hbb,fun h0=>?_⟩) Zw
       rw [hx1,hya (hba.2 ⟨(hbb.1 h0).1,(hbb.1 h0).2.1⟩),hye (hk0.1 (hbb.1 h0).2.2)]
 ·rintro σ fz9 H' ⟨bb,y,Ay,ny,by_,rfl,hle2,rfl,hY,hbb,hyb⟩
  refine Yp (Wp.mid (fun σ fz' H'=>∃ (bb:Bool) (y:Sexpr) (Ay:Option Addr) (ny by_:Nat),σ=[(5,.pointer (some ⟨g5,0,none⟩)),(4,.pointer (some ⟨g4,0,none⟩)),(3,.pointer (some ⟨g3,0,none⟩)),(0,.pointer (some ⟨g,0,none⟩))]∧Le fz9 fz'∧H'=[(g,wrO bb),(g5,.cells #[.int .i64 y.kind,.int .i64 y.value,.int .i64 y.line,.int .i64 y.column,.string y.text,.slice Ay ny by_] 74 (0,0)),(g4,.cells #[.int .i64 0,.int .i64 0,.int .i64 0,.int .i64 0,.string ⟨#[]⟩,.slice none 0 0] 74 (0,0)),(g3,.cells #[.int .i64 c.kind,.slice A1 n1 b1,.string c.when_.op,.string c.when_.name,.slice A2 n2 b2,.slice A3 n3 b3,.slice A4 n4 b4,.slice A5 n5 b5,.string c.name,.slice A6 n6 b6,.string c.value.op,.string c.value.name,.int .i64 c.value.n,.slice A7 n7 b7,.slice A8 n8 b8] 38 (0,0))]∧XU fz' y (.slice Ay ny by_)∧(bb=false↔b=false∧YfS c.name c.args∧Yc1 c∧WhenOk c)∧(bb=false→y=chX2 c)) ?_ ?_)
  ·refine Yp ?_
   refine Wp.drawK (Hq:=[(g,_),(g5,_),(g4,_),(g3,_)]) T.mixed Zj Zj Zb ?_
   refine zW ?_;intros
   ((refine zG ?_);refine Yn (vs:=[.string c.when_.op,.string c.when_.name,.slice A2 n2 b2,.slice A3 n3 b3,.slice A4 n4 b4,.slice A5 n5 b5]) T 3 Zz Zz Zz Zz Zz Zz ?_)
   refine zc YcW ?_
   unfold Yav
   refine zb (Yei (b:=Y8) ((h.when_.mono hle1).mono hle2) Ww) (fun f1=>?_) (fun f1=>?_)
   ·have hw:=Zt f1
    refine zW ?_;intros
    refine YD ⟨by kernel_rfl,Ch.done ?_⟩
    refine zW ?_;intros
    exact midN ⟨bb,y,Ay,ny,by_,rfl,Le.refl _,rfl,hY,by rw [hbb];exact ⟨fun h0=>⟨h0.1,h0.2.1,h0.2.2,.inl hw⟩,fun h0=>⟨h0.1,h0.2.1,h0.2.2.1⟩⟩,fun h0=>by rw [chX2,if_pos hw];exact hyb h0⟩ Zw Zb
   ·have hw:=Zf f1
    refine zW ?_;intros
    refine YD ⟨by kernel_rfl,Ch.done ?_⟩
    refine zW ?_;intros
    refine Wp.drawK (Hq:=[(g5,_),(g4,_),(g3,_)]) T.mixed Zj Zj Zb ?_
    refine zc (WB (s:=YlR)) ?_
    refine zW ?_;intros
    ((refine zG ?_);refine Yn (vs:=[.string c.when_.op,.string c.when_.name,.slice A2 n2 b2,.slice A3 n3 b3,.slice A4 n4 b4,.slice A5 n5 b5]) T 2 Zz Zz Zz Zz Zz Zz ?_)
    refine Ye ?_
    refine zW ?_;intros
    refine Ye ?_
    refine Ye ?_
    refine Ye ?_
    refine YD ⟨by kernel_rfl,?_⟩
    refine Yj (Yl [_] _ Zz Zz Zz (Ya9 ((h.when_.mono hle1).mono hle2) hs.2.2.1) (fun v6 fz6 H6 hle6 hR6=>?_))
    obtain ⟨_,b9,y6,rfl,⟨cs6,rfl,hr6⟩,hb6,hy6⟩:=hR6
    obtain ⟨vk6,rfl,hX6⟩:=YG hr6
    obtain ⟨Ae,ne,be,rfl,_⟩:=hX6.kids
    refine ⟨(⟨hle6,Zx⟩),?_⟩
    refine Yj (Yc T (cs:=Yr YlR++ [.int .i64 y6.kind,.int .i64 y6.value,.int .i64 y6.line,.int .i64 y6.column,.string y6.text,.slice Ae ne be]++ [.int .i64 y.kind,.int .i64 y.value,.int .i64 y.line,.int .i64 y.column,.string y.text,.slice Ay ny by_]) Zz Zz Zz Zz Zz Zz Zz Zz (fun gb=>⟨(⟨hle6,Zx⟩),?_⟩))
    refine Ch.qk (⟨hle6,Zx⟩) (YB Zz Zz Xe ?_)
    unfold sxV
    refine Ch.hard0 Zj (XK T Zz Zz Zz Zz Zz Zz ?_)
    refine Ch.done ?_
    refine zW ?_;intros
    refine midF (H':=[(g,wrO b9),(g5,_),(g4,_),(g3,_)]) (H2:=[(gb,_)]) Zq (fun fz3 hl3 hf3=>⟨b9,YH [Yh YlR,y6,y],_,_,_,rfl,hle6.trans hl3,rfl,Yc7 (Ybt (.inr (.inr (.inr (.inr (.inl rfl)))))) (hf3 _ (.head _)) (hX6.mono hl3) ((hY.mono hle6).mono hl3),?_,fun h0=>?_⟩) Zw
    ·rw [hb6,hbb]
     exact ⟨fun h0=>⟨h0.1.1,h0.1.2.1,h0.1.2.2,.inr h0.2⟩,fun h0=>⟨⟨h0.1,h0.2.1,h0.2.2.1⟩,h0.2.2.2.resolve_left hw⟩⟩
    ·rw [chX2,if_neg hw,hy6 h0,hyb (hb6.1 h0).1]
  ·rintro σ fz7 H' ⟨bb,y,Ay,ny,by_,rfl,hle7,rfl,hY,hbb,hyb⟩
   have hip:=((ip.mono hle1).mono hle2).mono hle7
   refine Yp (Wp.mid (fun σ fz' H'=>∃ (bb:Bool) (y:Sexpr) (Ay:Option Addr) (ny by_:Nat),σ=[(5,.pointer (some ⟨g5,0,none⟩)),(4,.pointer (some ⟨g4,0,none⟩)),(3,.pointer (some ⟨g3,0,none⟩)),(0,.pointer (some ⟨g,0,none⟩))]∧Le fz7 fz'∧H'=[(g,wrO bb),(g5,.cells #[.int .i64 y.kind,.int .i64 y.value,.int .i64 y.line,.int .i64 y.column,.string y.text,.slice Ay ny by_] 74 (0,0)),(g4,.cells #[.int .i64 0,.int .i64 0,.int .i64 0,.int .i64 0,.string ⟨#[]⟩,.slice none 0 0] 74 (0,0)),(g3,.cells #[.int .i64 c.kind,.slice A1 n1 b1,.string c.when_.op,.string c.when_.name,.slice A2 n2 b2,.slice A3 n3 b3,.slice A4 n4 b4,.slice A5 n5 b5,.string c.name,.slice A6 n6 b6,.string c.value.op,.string c.value.name,.int .i64 c.value.n,.slice A7 n7 b7,.slice A8 n8 b8] 38 (0,0))]∧XU fz' y (.slice Ay ny by_)∧(bb=false↔b=false∧ChOk c)∧(bb=false→y=chX c)) ?_ ?_)
   ·refine zW ?_;intros
    refine zC (fun p1=>?_) (fun p1=>?_)
    ·have hp0:=(W6 ip.len).1 p1
     refine zW ?_;intros
     refine Wp.drawK (Hq:=[(g5,_),(g4,_),(g3,_)]) T.mixed Zj Zj Zb ?_
     refine zc (WB (s:=kForall)) ?_
     refine zW ?_;intros
     refine Ye ?_
     refine Ye ?_
     refine zW ?_;intros
     refine Ye ?_
     refine Ye ?_
     refine Ye ?_
     refine YD ⟨by kernel_rfl,?_⟩
     refine Yj (Yl [_] _ Zz Zz Zz (WG (vars:=true) hip (by rw [← ip.len];exact hs.1)) (fun v6 fz6 H6 hle6 hR6=>?_))
     obtain ⟨_,⟨Ae,ce,rfl,hsl6⟩,b9,rfl,hb6⟩:=hR6
     refine ⟨(⟨hle6,Zx⟩),?_⟩
     refine Ch.qk (⟨hle6,Zx⟩) (YB Zz Zz Xe ?_)
     unfold sxV
     refine Yj (Yc T (cs:=Yr kForall++ [.int .i64 3,.int .i64 0,.int .i64 0,.int .i64 0,.string ⟨#[]⟩,.slice Ae (3*n1) ce]++ [.int .i64 y.kind,.int .i64 y.value,.int .i64 y.line,.int .i64 y.column,.string y.text,.slice Ay ny by_]) Zz Zz Zz Zz Zz Zz Zz Zz (fun gb=>⟨(⟨hle6,Zx⟩),?_⟩))
     refine Ch.qk (⟨hle6,Zx⟩) (YB Zz Zz Xe ?_)
     unfold sxV
     refine Ch.hard0 Zj (XK T Zz Zz Zz Zz Zz Zz ?_)
     refine Ch.done ?_
     refine zW ?_;intros
     refine midF (H':=[(g,wrO b9),(g5,_),(g4,_),(g3,_)]) (H2:=[(gb,_)]) Zq (fun fz3 hl3 hf3=>⟨b9,YH [Yh kForall,YH ((c.params.flatMap WX).map Yh),y],_,_,_,rfl,hle6.trans hl3,rfl,Yc7 (X:=YH ((c.params.flatMap WX).map Yh)) (Ybt (.inr (.inr (.inr (.inr (.inr rfl)))))) (hf3 _ (.head _)) ⟨YeI,XH,XH,XH,Y5,(hsl6.mono hl3).is⟩ ((hY.mono hle6).mono hl3),?_,fun h0=>?_⟩) Zw
     ·rw [hb6,hbb]
      exact ⟨fun h0=>⟨h0.1.1,h0.1.2.1,h0.1.2.2.1,h0.1.2.2.2,h0.2⟩,fun h0=>⟨⟨h0.1,h0.2.1,h0.2.2.1,h0.2.2.2.1⟩,h0.2.2.2.2⟩⟩
     ·rw [chX,if_neg hp0,hyb (hb6.1 h0).1]
    ·have hp0:c.params=[]:=Classical.byContradiction fun h0=>p1 ((W6 ip.len).2 h0)
     refine zW ?_;intros
     exact midN ⟨bb,y,Ay,ny,by_,rfl,Le.refl _,rfl,hY,by rw [hbb];exact ⟨fun h0=>⟨h0.1,h0.2.1,h0.2.2.1,h0.2.2.2,by rw [hp0];simp⟩,fun h0=>⟨h0.1,h0.2.1,h0.2.2.1,h0.2.2.2.1⟩⟩,fun h0=>by rw [chX,if_pos hp0];exact hyb h0⟩ Zw Zb
   ·rintro σ fz8 H' ⟨bb,y,Ay,ny,by_,rfl,hle8,rfl,hY,hbb,hyb⟩
    refine zW ?_;intros
    refine WJ T (i:=2) (H':=[(g,wrO bb)]) rfl Zz Zz Zz Zz Zz Zb ?_
    exact ⟨hle1.trans (hle2.trans (hle7.trans hle8)),bb,y,rfl,⟨_,rfl,Yi hY⟩,hbb,hyb⟩
def effX (l:List Change):Sexpr:=if l=[] then YH [] else YH (Yh kAnd::l.map chX)
def Yc3 (l:List Change):Prop:=∀ c∈l,ChOk c
def YmK (l:List Change):Prop:=l.length≤1000000000∧∀ c∈l,ChSm c
theorem Yk6:Short kAnd:=by unfold Short;decide
variable {A:Option Addr} {c n:Nat}
set_option maxHeartbeats 2000000 in
theorem Yec {b:Bool} {l:List Change} (h1:Sl changeL fz A n c l) (hs:YmK l):
 GFn prog 84 [.pointer (some ⟨g,0,none⟩),.slice A n c] fz [(g,wrO b)] (MkR g b (Yc3 l) (effX l) fz):=by
 have l1:=h1.len
 have hn:=hs.1
 refine zF Tryz.func84 Tryz.ntmps84 (fun w0=>?_)
 refine zW ?_;intros
 rename_i g4
 refine zC (fun c0=>?_) (fun c0=>?_)
 ·have hl:=(len0 l1).1 c0
  refine zW ?_;intros
  refine zc (Xe (A:=none) (n:=0) (c:=0)) ?_
  unfold sxV
  refine zW ?_;intros
  refine WJ T (i:=0) (H':=[(g,wrO b)]) rfl Zz Zz Zz Zz Zz Zb ?_
  exact ⟨Le.refl _,b,_,rfl,Wu (Sl.nil Zi),by rw [hl];unfold Yc3;simp,fun _=>by rw [effX,if_pos hl]⟩
 ·have hl:l≠ []:=fun h0=>c0 ((len0 l1).2 h0)
  refine zW ?_;intros
  refine zc (WB (s:=kAnd)) ?_
  unfold sxV
  refine Yb Zz (Yc T (cs:=Yr kAnd) Zz Zz Zz Zz Zz Zz Zz Zz (fun gb=>?_))
  refine zc Xe ?_
  unfold sxV
  refine zW ?_;intros
  rename_i g5
  refine Wp.perm (Xb [3,0,2,1] Zz Zz) ?_
  refine Yk (fun q σ fz' H'=>∃ (k:Nat) (v:Value) (Hs:HP) (b':Bool) (ys:List Sexpr),k≤n∧q=n - k∧σ=[(17,.int .i64 k),(16,.int .i64 n),(15,.slice A n c),(5,.pointer (some ⟨g5,0,none⟩)),(4,.pointer (some ⟨g4,0,none⟩)),(0,.pointer (some ⟨g,0,none⟩))]∧Le fz fz'∧
   H'=(g,wrO b')::(g5,.cells #[.int .i64 3,.int .i64 0,.int .i64 0,.int .i64 0,.string ⟨#[]⟩,v] 74 (0,0))::(g4,.cells #[.int .i64 0,.int .i64 0,.int .i64 0,.int .i64 0,.string ⟨#[]⟩,.slice none 0 0] 74 (0,0))::Hs∧Grow YL 74 fz' v (k+1) Hs (Yh kAnd::ys)∧(b'=false↔b=false∧∀ i,i<k→∀ a,l[i]?=some a→ChOk a)∧(b'=false→ys=(l.take k).map chX))
   ⟨0,_,[_],b,[],Z0 _,rfl,rfl,Le.refl _,rfl,Grow.block (ys:=[(Yh kAnd,Yr kAnd)]) rfl rfl (by simpa using Yv Yk6) rfl Zh,⟨fun h=>⟨h,fun i hi=>absurd hi Zi⟩,fun h=>h.1⟩,by simp⟩ Zw Zb ?_
  rintro q σ fz' H' ⟨k,v,Hs,b',ys,hk,rfl,rfl,hle,rfl,hG,hb,hys⟩
  obtain ⟨Av,cv,rfl,_,_⟩:=hG.form
  have h2:=h1.mono hle
  refine zW ?_;intros
  refine zC (fun c1=>?_) (fun c1=>?_)
  ·obtain ⟨x,hx⟩:=Yg (l:=l) (k:=k) Zi
   refine zW ?_;intros
   refine zI h2 hx (fun p hp=>?_)
   refine zL hp ?_
   intro cs hcs
   obtain ⟨v1,v2,v3,v4,v5,v6,v7,v8,rfl,hRx⟩:=XF hcs
   obtain ⟨A1,n1,b1,rfl,_⟩:=hRx.params
   obtain ⟨A2,n2,b2,rfl,_⟩:=hRx.when_.args
   obtain ⟨A3,n3,b3,rfl,_⟩:=hRx.when_.params
   obtain ⟨A4,n4,b4,rfl,_⟩:=hRx.when_.exprs
   obtain ⟨A5,n5,b5,rfl,_⟩:=hRx.when_.kids
   obtain ⟨A6,n6,b6,rfl,_⟩:=hRx.args
   obtain ⟨A7,n7,b7,rfl,_⟩:=hRx.value.args
   obtain ⟨A8,n8,b8,rfl,_⟩:=hRx.value.kids
   refine zW ?_;intros
   rename_i g7
   refine Wp.drawK (Hq:=[(g7,_),(g5,_),(g4,_)]) T.mixed Zj Zj Zb ?_
   refine zW ?_;intros
   refine Ye ?_
   refine Ye ?_
   refine Ye ?_
   refine zW ?_;intros
   refine Ye ?_
   refine YD ⟨by kernel_rfl,?_⟩
   refine Yj (Does.perm (List.Perm.swap _ _ _) (Yl [_] _ Zz Zz Zz (YkF hRx (hs.2 x (Zm hx))) (fun v9 fz6 H6 hle6 hR6=>?_)))
   obtain ⟨_,b9,y6,rfl,⟨cs6,rfl,hr6⟩,hb6,hy6⟩:=hR6
   obtain ⟨vk6,rfl,hX6⟩:=YG hr6
   refine ⟨(⟨hle6,Zx⟩),?_⟩
   refine Yj (Yc T (cs:=[.int .i64 y6.kind,.int .i64 y6.value,.int .i64 y6.line,.int .i64 y6.column,.string y6.text,vk6]) Zz Zz Zz Zz Zz Zz Zz Zz (fun gb=>⟨(⟨hle6,Zx⟩),?_⟩))
   refine Yj (YK T (Hr:=[_,_,_,_,_]) Zz Zz Zz Zz Zz Zz Zz Zz (Zr _) (hG.mono hle6) Yu (.head _) (Yi hX6) (by show _*72≤_;omega) Zi (fun v' Hs' hO'=>⟨(⟨hle6,Zx⟩),?_⟩))
   obtain ⟨Av',cv',rfl,_,_⟩:=hO'.form
   refine Ch.hard0 Zj (Xi T Zz Zz Zz Zz Zz Zz ?_)
   refine Ch.done ?_
   refine zW ?_;intros
   refine YA ⟨k+1,_,Hs',b9,ys++ [y6],by omega,rfl,rfl,hle.trans hle6,rfl,hO',?_,fun h0=>?_⟩ Zi Zw Zb
   ·rw [hb6,hb]
    exact ⟨fun h0=>⟨h0.1.1,YO h0.1.2 hx h0.2⟩,fun h0=>⟨⟨h0.1,fun i hi=>h0.2 i Zi⟩,h0.2 k Zi x hx⟩⟩
   ·rw [hys (hb6.1 h0).1,hy6 h0,List.take_add_one,hx];simp
  ·have hk1:k=n:=by omega
   subst hk1
   refine zW ?_;intros
   refine YcC T (i:=2) (H':=[(g,wrO b')]) rfl Zz Zz Zz Zz Zz (Zr _) (fun fz3 hle3 hf3=>?_)
   obtain ⟨A',c',he,hsl⟩:=hG.sl hle3 (fun p hp=>hf3 p (by simp [hp])) Zi
   injection he with he1 he2 he3
   subst he1 he3
   refine ⟨hle.trans hle3,b',_,rfl,Wu hsl,by rw [hb];exact ⟨fun h=>⟨h.1,Xf h.2 Zi⟩,fun h=>⟨h.1,fun i _ a ha=>h.2 a (Zm ha)⟩⟩,fun h0=>?_⟩
   rw [effX,if_neg hl,hys h0,Zl Zi]
end Go.Proofs.YtbnpeechpebmeaaGreatDoor
namespace Go.Lx
open Go.RowKit
theorem Ygt {α:Type} {z:Nat} {d:α × List Value} (hd:d.2.length=z):∀ {xs:List (α × List Value)} {i:Nat},(∀ p∈xs,p.2.length=z)→i<xs.length→
 (xs.flatMap Prod.snd).take (i*z)++d.2++(xs.flatMap Prod.snd).drop (i*z+z)=(xs.set i d).flatMap Prod.snd
 | [],i,_,hi=>by simp at hi
 | x::r,0,h,_=>by
  have hx:=h x (by simp)
  simp only [List.flatMap_cons,Nat.zero_mul,List.take_zero,List.nil_append,Nat.zero_add,List.set_cons_zero]
  rw [← hx,List.drop_left]
 | x::r,i+1,h,hi=>by
  have hx:=h x (by simp)
  have ih:=Ygt hd (xs:=r) (i:=i) (fun p hp=>h p (by simp [hp])) (by simpa using hi)
  simp only [List.flatMap_cons,List.set_cons_succ]
  rw [← ih,Nat.succ_mul]
  have e1:i*z+z=x.2.length+i*z:=by omega
  have e2:i*z+z+z=x.2.length+(i*z+z):=by omega
  rw [e2,List.drop_append,e1,List.take_append]
  simp only [Zl (show x.2.length≤x.2.length+i*z by omega),Nat.add_sub_cancel_left,List.append_assoc]
  have e3:List.drop (x.2.length+(x.2.length+i*z)) x.2=[]:=List.drop_eq_nil_of_le Zi
  simp [e3]
structure GrowB {α:Type} (L:Lay α) (e:Nat) (fz:FZ) (g n cap:Nat) (cur:List Value) (l:List α):Prop where
 pairs:∃ xs:List (α × List Value),xs.map Prod.fst=l∧(∀ p∈xs,L.rep fz p.1 p.2)∧cur.take (n*L.size)=xs.flatMap Prod.snd
 len:l.length=n
 capn:n≤cap
 max:cap≤maxLen
 size:cur.length=cap*L.size
variable {Hs:HP} {fz:FZ} {n:Nat} {v:Value}
theorem Grow.b {α:Type} {L:Lay α} {e:Nat} {l:List α} (hg:Grow L e fz v n Hs l) (hn:0<n):∃ g cap cur,v=.slice (some ⟨g,0,none⟩) n cap∧Hs=[(g,.cells (List.toArray cur) e (0,0))]∧GrowB L e fz g n cap cur l:=by
 obtain ⟨xs,h1,h2,h3,h4⟩:=hg
 rcases h4.2 with ⟨_,h0,_⟩ | ⟨g,cap,cur,h5,h6,h7,h8,h9,h10⟩
 ·omega
 ·exact ⟨g,cap,cur.toList,h5,by rw [h6],⟨xs,h1,h2,h10⟩,h3,h7,h8,by simpa using h9⟩
variable {g:Nat}
theorem GrowB.grow {α:Type} {L:Lay α} {e:Nat} {cap:Nat} {cur:List Value} {l:List α} (h:GrowB L e fz g n cap cur l):Grow L e fz (.slice (some ⟨g,0,none⟩) n cap) n [(g,.cells (List.toArray cur) e (0,0))] l:=by
 obtain ⟨xs,h1,h2,h3⟩:=h.pairs
 have hl:xs.length=n:=by have:=h.len;rw [← h1,List.length_map] at this;exact this
 exact ⟨xs,h1,h2,h.len,by rw [Ya1 (fun p hp=>L.len (h2 p hp)),hl],.inr ⟨g,cap,cur.toArray,rfl,rfl,h.capn,h.max,by simpa using h.size,by simpa using h3⟩⟩
variable {fz':FZ}
theorem GrowB.mono {α:Type} {L:Lay α} {e:Nat} (hle:Le fz fz') {cap:Nat} {cur:List Value} {l:List α} (h:GrowB L e fz g n cap cur l):GrowB L e fz' g n cap cur l:=by
 obtain ⟨xs,h1,h2,h3⟩:=h.pairs
 exact ⟨⟨xs,h1,fun p hp=>L.mono hle (h2 p hp),h3⟩,h.len,h.capn,h.max,h.size⟩
section
variable {P:Program} {cx:Cx} {r:Operand→Option Value} {fz:FZ} {H:HP} {V:Value→Prop} {dst:Option Nat} {ty:TypeId} {pos:String} {af:Array Edge} {gd:Option (Nat × Bool)}
variable {X Y:Ty} {c:Nat} {t:TypeId} {x:Operand}
theorem Yo (T:Tab P) {e:TypeId} {i:Operand} {z:Nat} {k:IntKind} {j:Int} (hT:T.inf t=some X) (hd:X.desc=.slice e) (hY:T.inf e=some Y)
 (hx:r x=some (.slice (some ⟨g,0,none⟩) n c)) (hi:r i=some (.int k j)) (hs:Y.size=z) (h0:0≤j) (hn:j<n) (h:V (.pointer (some ⟨g,j.toNat*z,none⟩))):DoesQ P cx ⟨dst,.indexAddr t x i,ty,pos,af,gd⟩ r fz H V:=by
 refine Yco T hT hd hY hx hi h0 hn ?_
 have hadd:(⟨g,0,none⟩:Addr).add (j.toNat*Y.size)=⟨g,j.toNat*z,none⟩:=by rw [hs];unfold Addr.add;split<;>simp_all
 rw [hadd]
 exact h
variable {cs:List Value} {j:Nat} {y:Operand}
theorem YE (T:Tab P) {t':TypeId} {pre post:HP} {cap:Nat} {cur:List Value} {α:Type} {L:Lay α} {l:List α} {d:α} {K:Value→FZ→HP→Prop} (hT:T.inf t=some X)
 (hx:r x=some (.pointer (some ⟨g,j*L.size,none⟩))) (hy:r y=some v) (hH:H=pre++(g,.cells cur.toArray t' (0,0))::post) (hv:v.cells=cs.toArray) (hs:X.size=L.size) (h1:OneC L) (hr:L.rep fz d cs) (hb:GrowB L t' fz g n cap cur l) (hj:j<n)
 (h:∀ cur',GrowB L t' fz g n cap cur' (l.set j d)→K undef fz (pre++(g,.cells cur'.toArray t' (0,0))::post)):Does P cx ⟨dst,.store t x y,ty,pos,af,gd⟩ r fz H K:=by
 refine Does.of fun ρ w hrd hw=>?_
 subst hH
 have hcs:=L.len hr
 have hgb:=(hw.hp.own (g,.cells cur.toArray t' (0,0)) (by simp)).1
 obtain ⟨xs,e1,e2,e3⟩:=hb.pairs
 have hxl:xs.length=n:=by have:=hb.len;rw [← e1,List.length_map] at this;exact this
 have hsz:=hb.size
 have hcap:=hb.capn
 have hjn:j*L.size+L.size≤n*L.size:=by rw [← Nat.succ_mul];exact Nat.mul_le_mul_right _ hj
 have hnc:n*L.size≤cap*L.size:=Nat.mul_le_mul_right _ hcap
 have hle:j*L.size+0+cs.length≤cur.toArray.size:=by simp;omega
 have hst:=run_storeCells_at (P:=P) g (j*L.size) t' cs 0 cur.toArray w hgb hle (fun u hu=>h1 _ _ _ hr u hu)
 simp only [Nat.add_zero] at hst
 have hz:=run_sizeOf T hT w
 rw [hs,← hcs] at hz
 have hvl:v.cells.toList=cs:=by rw [hv]
 have:(execOp ρ ⟨dst,.store t x y,ty,pos,af,gd⟩).run P w=.ok .skip (w.setRow g (cur.take (j*L.size)++cs++cur.drop (j*L.size+cs.length)).toArray):=by
  simp only [execOp,hrd _ _ hx,hrd _ _ hy,Instr.storeAt,Instr.sureAddr,Sem.run_bind,Sem.run_pure,Result.andThen_ok,storeVar,hz,hvl]
  simp [hst,hv]
 rw [this]
 have hflat:(xs.flatMap Prod.snd).length=n*L.size:=by rw [Ya1 (fun p hp=>L.len (e2 p hp)),hxl]
 have hcur:cur=xs.flatMap Prod.snd++cur.drop (n*L.size):=by rw [← e3,List.take_append_drop]
 have hnew:(cur.take (j*L.size)++cs++cur.drop (j*L.size+cs.length)).take (n*L.size)=(xs.set j (d,cs)).flatMap Prod.snd:=by
  rw [← Ygt (z:=L.size) (d:=(d,cs)) hcs (fun p hp=>L.len (e2 p hp)) Zi,hcs]
  generalize hf:xs.flatMap Prod.snd=fl at*
  generalize hT':cur.drop (n*L.size)=tl at*
  subst hcur
  have a1:(fl++tl).take (j*L.size)=fl.take (j*L.size):=List.take_append_of_le_length Zi
  have a2:(fl++tl).drop (j*L.size+L.size)=fl.drop (j*L.size+L.size)++tl:=List.drop_append_of_le_length Zi
  rw [a1,a2,← List.append_assoc,List.take_append_of_le_length (by simp only [List.length_append,List.length_take,List.length_drop];omega),Zl (by simp only [List.length_append,List.length_take,List.length_drop];omega)]
 refine ⟨fz,_,hw.write (o':=.cells (cur.take (j*L.size)++cs++cur.drop (j*L.size+cs.length)).toArray t' (0,0)) rfl rfl rfl (by simp) ?_ (fun k hk=>?_),h _ ⟨⟨xs.set j (d,cs),?_,fun p hp=>?_,hnew⟩,by rw [List.length_set];exact hb.len,hcap,hb.max,?_⟩⟩
 ·simp [World.setRow,Array.getElem?_modify,hgb]
 ·simp only [World.setRow,Array.getElem?_modify]
  rw [if_neg Zi]
 ·rw [← e1,List.map_set]
 ·rcases List.mem_or_eq_of_mem_set hp with hp | rfl
  ·exact e2 p hp
  ·exact hr
 ·simp only [List.length_append,List.length_take,List.length_drop];omega
end
end Go.Lx
namespace Go.Proofs.YtbnpeechpebmeaaGreatDoor
open Go.Lx Go.RowKit
attribute [local instance 10] Classical.propDecidable
open Go.Proofs.Tryz (prog)
def lsO (v:Value):Obj:=.cells #[.int .i64 3,.int .i64 0,.int .i64 0,.int .i64 0,.string ⟨#[]⟩,v] 74 (0,0)
def Ya8:List Value:=[.int .i64 0,.int .i64 0,.int .i64 0,.int .i64 0,.string ⟨#[]⟩,.slice none 0 0]
variable {fz:FZ}
theorem Wh:YL.rep fz YgM Ya8:=Yi (x:=YgM) ⟨XH,XH,XH,XH,Y5,IsSl.nil⟩
variable {n:Nat}
theorem set2 {α:Type} {l:List α} {z w y:α} (hn:l.length=n):((l++ [z,z]).set n w).set (n+1) y=l++ [w,y]:=by
 subst hn
 rw [List.set_append_right _ _ (Zs _),Nat.sub_self,List.set_append_right _ _ Zi,Nat.add_sub_cancel_left]
 rfl
theorem set1 {α:Type} {l:List α} {z w:α} (hn:l.length=n):(l++ [z]).set n w=l++ [w]:=by
 subst hn
 rw [List.set_append_right _ _ (Zs _),Nat.sub_self]
 rfl
def PartR (gx n:Nat) (l:List Sexpr) (fz:FZ) (v:Value) (fz':FZ) (H':HP):Prop:=v=.tuple #[]∧Le fz fz'∧∃ (v':Value) (n':Nat) (Hs':HP),H'=(gx,lsO v')::Hs'∧Grow YL 74 fz' v' n' Hs' l∧n'≤n+2
variable {Hs:HP} {v:Value}
set_option maxHeartbeats 2000000 in
theorem YbP {gx:Nat} {vy:Value} {l:List Sexpr} {mi:Bool} {kw:Bs} {y:Sexpr} (hG:Grow YL 74 fz v n Hs l) (hY:XU fz y vy) (hkw:Short kw) (hn:n≤100000000000):
 GFn prog 80 [.pointer (some ⟨gx,0,none⟩),.bool mi,.string kw,.agg #[.int .i64 y.kind,.int .i64 y.value,.int .i64 y.line,.int .i64 y.column,.string y.text,vy]] fz ((gx,lsO v)::Hs) (PartR gx n (l++if mi=true then [] else [Yh kw,y]) fz):=by
 obtain ⟨Ay,ny,cy,rfl,_⟩:=hY.kids
 have hlen:=hG.len
 obtain ⟨Av,cv,rfl,_,_⟩:=hG.form
 unfold lsO
 refine zF Tryz.func80 Tryz.ntmps80 (fun w0=>?_)
 cases mi
 ·refine Yp (Yq (Yb Zz (Y3 _ Zz Zz (fun g7=>?_))))
  refine zW ?_;intros
  refine Wp.drawP [12,15,16] (Hq:=[(g7,_),(gx,_)]) T.mixed Zj Zj Zb ?_
  refine zW ?_;intros
  refine zc (WB (s:=kw)) ?_
  refine zW ?_;intros
  refine Yf ?_
  refine Yf ?_
  refine Yf ?_
  refine Yf ?_
  refine PK.p Zz (fun fz'=>by first | exact Wc Zz rfl | exact Wr Zz rfl | exact Y2 T Zz Zz Zz Zz Zz Zz rfl | exact Ydf Zz Zz (Xx Zi) rfl | exact Xt T Zz Zz Zz rfl) ?_
  refine Yf ?_
  refine Yf ?_
  refine PK.p Zz (fun fz'=>by first | exact Wc Zz rfl | exact Wr Zz rfl | exact Y2 T Zz Zz Zz Zz Zz Zz rfl | exact Ydf Zz Zz (Xx Zi) rfl | exact Xt T Zz Zz Zz rfl) ?_
  refine PK.p Zz (fun fz'=>by first | exact Wc Zz rfl | exact Wr Zz rfl | exact Y2 T Zz Zz Zz Zz Zz Zz rfl | exact Ydf Zz Zz (Xx Zi) rfl | exact Xt T Zz Zz Zz rfl) ?_
  refine Yf ?_
  refine PK.done ⟨by kernel_rfl,?_⟩
  refine Ya Zz Zz ?_
  refine Yd (Yc T (cs:=Ya8++Ya8) Zz Zz Zz Zz Zz Zz Zz Zz (fun gb=>⟨(⟨Le.refl _,Zx⟩),?_⟩))
  refine Ya Zz Zz ?_
  refine Yd (YlQ T (Hr:=[_,_,_]) (ys:=[(YgM,Ya8),(YgM,Ya8)]) (l2:=[YgM,YgM]) (m:=2) Zz Zz Zz Zz Zz Zz Zz Zz (Zr _) hG Yu (.head _) rfl rfl (by intro p hp;simp at hp;subst hp;exact Wh) rfl (by show _*72≤_;omega) Zi (fun v' Hs' hO'=>⟨(⟨Le.refl _,Zx⟩),?_⟩))
  obtain ⟨gk,cap,cur,rfl,rfl,hB⟩:=hO'.b Zi
  refine Ys Zz Zz Zz ?_ ?_
  ·refine PoS.hard Zj (DoesQ.does (Yo T Zz Zz Zz Zz Zz rfl Zi Zi ?_))
   refine Ys Zz Zz Zz ?_ ?_
   ·refine PoS.hard0 Zj (YE T (pre:=[_,_,_]) (L:=YL) (j:=n) Zz Zz Zz rfl rfl Zz Yu (Yv hkw) hB Zi (fun cur1 hB1=>?_))
    refine Ys Zz Zz Zz ?_ ?_
    ·refine PoS.hard Zj (DoesQ.does (Yo T Zz Zz Zz Zz Zz rfl Zi Zi ?_))
     refine Ys Zz Zz Zz ?_ ?_
     ·refine PoS.hard0 Zj (YE T (pre:=[_,_,_]) (L:=YL) (j:=n+1) Zz Zz Zz rfl rfl Zz Yu (Yi hY) hB1 Zi (fun cur2 hB2=>?_))
      refine Ya Zz Zz ?_
      refine PoS.hard0 Zj (XK T Zz Zz Zz Zz Zz Zz ?_)
      refine Po.done ?_
      refine zW ?_;intros
      exact Yba rfl (H':=[(gx,lsO _),(gk,.cells (List.toArray cur2) 74 (0,0))]) Zb ⟨rfl,Le.refl _,_,_,[_],rfl,hB2.grow.of (by rw [set2 hlen];rfl) rfl,by omega⟩
     ·refine PoS.hard0 Zj (XK T Zz Zz Zz Zz Zz Zz ?_)
      refine Ya Zz Zz ?_
      refine PoS.hard0 Zj (YE T (pre:=[_,_,_]) (L:=YL) (j:=n+1) Zz Zz Zz rfl rfl Zz Yu (Yi hY) hB1 Zi (fun cur2 hB2=>?_))
      refine Po.done ?_
      refine zW ?_;intros
      exact Yba rfl (H':=[(gx,lsO _),(gk,.cells (List.toArray cur2) 74 (0,0))]) Zb ⟨rfl,Le.refl _,_,_,[_],rfl,hB2.grow.of (by rw [set2 hlen];rfl) rfl,by omega⟩
    ·refine PoS.hard0 Zj (XK T Zz Zz Zz Zz Zz Zz ?_)
     refine Ya Zz Zz ?_
     refine PoS.hard Zj (DoesQ.does (Yo T Zz Zz Zz Zz Zz rfl Zi Zi ?_))
     refine Ya Zz Zz ?_
     refine PoS.hard0 Zj (YE T (pre:=[_,_,_]) (L:=YL) (j:=n+1) Zz Zz Zz rfl rfl Zz Yu (Yi hY) hB1 Zi (fun cur2 hB2=>?_))
     refine Po.done ?_
     refine zW ?_;intros
     exact Yba rfl (H':=[(gx,lsO _),(gk,.cells (List.toArray cur2) 74 (0,0))]) Zb ⟨rfl,Le.refl _,_,_,[_],rfl,hB2.grow.of (by rw [set2 hlen];rfl) rfl,by omega⟩
   ·refine PoS.hard0 Zj (XK T Zz Zz Zz Zz Zz Zz ?_)
    refine Ya Zz Zz ?_
    refine PoS.hard0 Zj (YE T (pre:=[_,_,_]) (L:=YL) (j:=n) Zz Zz Zz rfl rfl Zz Yu (Yv hkw) hB Zi (fun cur1 hB1=>?_))
    refine Ya Zz Zz ?_
    refine PoS.hard Zj (DoesQ.does (Yo T Zz Zz Zz Zz Zz rfl Zi Zi ?_))
    refine Ya Zz Zz ?_
    refine PoS.hard0 Zj (YE T (pre:=[_,_,_]) (L:=YL) (j:=n+1) Zz Zz Zz rfl rfl Zz Yu (Yi hY) hB1 Zi (fun cur2 hB2=>?_))
    refine Po.done ?_
    refine zW ?_;intros
    exact Yba rfl (H':=[(gx,lsO _),(gk,.cells (List.toArray cur2) 74 (0,0))]) Zb ⟨rfl,Le.refl _,_,_,[_],rfl,hB2.grow.of (by rw [set2 hlen];rfl) rfl,by omega⟩
  ·refine PoS.hard0 Zj (XK T Zz Zz Zz Zz Zz Zz ?_)
   refine Ya Zz Zz ?_
   refine PoS.hard Zj (DoesQ.does (Yo T Zz Zz Zz Zz Zz rfl Zi Zi ?_))
   refine Ya Zz Zz ?_
   refine PoS.hard0 Zj (YE T (pre:=[_,_,_]) (L:=YL) (j:=n) Zz Zz Zz rfl rfl Zz Yu (Yv hkw) hB Zi (fun cur1 hB1=>?_))
   refine Ya Zz Zz ?_
   refine PoS.hard Zj (DoesQ.does (Yo T Zz Zz Zz Zz Zz rfl Zi Zi ?_))
   refine Ya Zz Zz ?_
   refine PoS.hard0 Zj (YE T (pre:=[_,_,_]) (L:=YL) (j:=n+1) Zz Zz Zz rfl rfl Zz Yu (Yi hY) hB1 Zi (fun cur2 hB2=>?_))
   refine Po.done ?_
   refine zW ?_;intros
   exact Yba rfl (H':=[(gx,lsO _),(gk,.cells (List.toArray cur2) 74 (0,0))]) Zb ⟨rfl,Le.refl _,_,_,[_],rfl,hB2.grow.of (by rw [set2 hlen];rfl) rfl,by omega⟩
 ·refine Yp (Yq (Yb Zz (Y3 _ Zz Zz (fun g7=>?_))))
  refine zW ?_;intros
  exact Yba rfl (H':=(gx,lsO _)::Hs) Zb ⟨rfl,Le.refl _,_,_,Hs,rfl,hG.of (by simp) rfl,by omega⟩
variable {B:Option Addr} {c:Nat}
set_option maxHeartbeats 2000000 in
theorem Ygn {gx m:Nat} {l ks:List Sexpr} {kw:Bs} (hG:Grow YL 74 fz v n Hs l) (hK:Sl YL fz B m c ks) (hkw:Short kw) (hn:n≤100000000000) (hm:m≤100000000000):
 GFn prog 34 [.pointer (some ⟨gx,0,none⟩),.string kw,.slice B m c] fz ((gx,lsO v)::Hs) (PartR gx n (l++if ks=[] then [] else [YH (Yh kw::ks)]) fz):=by
 have hlen:=hG.len
 obtain ⟨Av,cv,rfl,_,_⟩:=hG.form
 unfold lsO
 refine zF Tryz.func34 Tryz.ntmps34 (fun w0=>?_)
 refine zW ?_;intros
 refine zC (fun c0=>?_) (fun c0=>?_)
 ·have hks:ks≠ []:=(W6 hK.len).1 c0
  refine zW ?_;intros
  refine Wp.drawP [15,16] (Hq:=[(gx,_)]) T.mixed Zj Zj Zb ?_
  refine zW ?_;intros
  refine zc (WB (s:=kw)) ?_
  refine Yf ?_
  refine zW ?_;intros
  refine Yf ?_
  refine Yf ?_
  refine zW ?_;intros
  refine Yf ?_
  refine Yf ?_
  refine Yf ?_
  refine Yf ?_
  refine PK.p Zz (fun fz'=>by first | exact Wc Zz rfl | exact Wr Zz rfl | exact Y2 T Zz Zz Zz Zz Zz Zz rfl | exact Ydf Zz Zz (Xx Zi) rfl | exact Xt T Zz Zz Zz rfl) ?_
  refine PK.p Zz (fun fz'=>by first | exact Wc Zz rfl | exact Wr Zz rfl | exact Y2 T Zz Zz Zz Zz Zz Zz rfl | exact Ydf Zz Zz (Xx Zi) rfl | exact Xt T Zz Zz Zz rfl) ?_
  refine Yf ?_
  refine PK.done ⟨by kernel_rfl,?_⟩
  refine Ys Zz Zz Zz ?_ ?_
  ·refine Yd (Yc T (cs:=Yr kw) Zz Zz Zz Zz Zz Zz Zz Zz (fun gb1=>⟨(⟨Le.refl _,Zx⟩),?_⟩))
   refine Ys Zz Zz Zz ?_ ?_
   ·refine Yd (X8 T (n:=1) (l:=[Yh kw]) (Hr:=(gx,_)::Hs) (Hs:=[(gb1,_)]) Zz Zz Zz Zz Zz Zz Zz Zz (List.perm_append_singleton _ _).symm (Grow.block (ys:=[(Yh kw,Yr kw)]) rfl rfl (by simpa using Yv hkw) rfl Zh) Yu hK (by show _*72≤_;omega) Zi (fun v1 Hs1 hO1=>⟨(⟨Le.refl _,Zx⟩),?_⟩))
    obtain ⟨A1,c1,rfl,_,_⟩:=hO1.form
    refine Ys Zz Zz Zz ?_ ?_
    ·refine PoS.qk (⟨Le.refl _,Zx⟩) (YB Zz Zz Xe ?_)
     unfold sxV
     refine Ya Zz Zz ?_
     refine Yd (Yc T (cs:=Ya8) Zz Zz Zz Zz Zz Zz Zz Zz (fun gz=>⟨(⟨Le.refl _,Zx⟩),?_⟩))
     refine Ya Zz Zz ?_
     refine PoS.hard Zj (Does.freezeAll (H1:=(gz,_)::(gx,_)::Hs) (H2:=Hs1) (Zr _) (fun fz2 hl2 hf2=>YK T (Hr:=[_,_]) Zz Zz Zz Zz Zz Zz Zz Zz (Zr _) (hG.mono hl2) Yu (.head _) Wh (by show _*72≤_;omega) Zi (fun v' Hs' hO'=>?_)))
     obtain ⟨gk,cap,cur,rfl,rfl,hB⟩:=hO'.b Zi
     obtain ⟨A2,c2,he2,hsl⟩:=hO1.sl hl2 hf2 Zi
     injection he2 with e1 e2 e3
     subst e1 e3
     have hX:XU fz2 (YH (Yh kw::ks)) (.slice A1 (1+m) c1):=⟨YeI,XH,XH,XH,Y5,hsl.is⟩
     refine Ys Zz Zz Zz ?_ ?_
     ·refine PoS.hard Zj (DoesQ.does (Yo T Zz Zz Zz Zz Zz rfl Zi Zi ?_))
      refine Ys Zz Zz Zz ?_ ?_
      ·refine PoS.hard0 Zj (YE T (pre:=[_,_]) (L:=YL) (j:=n) Zz Zz Zz rfl rfl Zz Yu (Yi (x:=YH (Yh kw::ks)) hX) hB Zi (fun cur1 hB1=>?_))
       refine Ya Zz Zz ?_
       refine PoS.hard0 Zj (YZ T Zz Zz Zz Zz Zz Zz ?_)
       refine Po.done ?_
       refine zW ?_;intros
       exact Yba rfl (H':=[(gx,lsO _),(gk,.cells (List.toArray cur1) 74 (0,0))]) Zb ⟨rfl,hl2,_,_,[_],rfl,hB1.grow.of (by rw [set1 hlen,if_neg hks]) rfl,by omega⟩
      ·refine PoS.hard0 Zj (YZ T Zz Zz Zz Zz Zz Zz ?_)
       refine Ya Zz Zz ?_
       refine PoS.hard0 Zj (YE T (pre:=[_,_]) (L:=YL) (j:=n) Zz Zz Zz rfl rfl Zz Yu (Yi (x:=YH (Yh kw::ks)) hX) hB Zi (fun cur1 hB1=>?_))
       refine Po.done ?_
       refine zW ?_;intros
       exact Yba rfl (H':=[(gx,lsO _),(gk,.cells (List.toArray cur1) 74 (0,0))]) Zb ⟨rfl,hl2,_,_,[_],rfl,hB1.grow.of (by rw [set1 hlen,if_neg hks]) rfl,by omega⟩
     ·refine PoS.hard0 Zj (YZ T Zz Zz Zz Zz Zz Zz ?_)
      refine Ya Zz Zz ?_
      refine PoS.hard Zj (DoesQ.does (Yo T Zz Zz Zz Zz Zz rfl Zi Zi ?_))
      refine Ya Zz Zz ?_
      refine PoS.hard0 Zj (YE T (pre:=[_,_]) (L:=YL) (j:=n) Zz Zz Zz rfl rfl Zz Yu (Yi (x:=YH (Yh kw::ks)) hX) hB Zi (fun cur1 hB1=>?_))
      refine Po.done ?_
      refine zW ?_;intros
      exact Yba rfl (H':=[(gx,lsO _),(gk,.cells (List.toArray cur1) 74 (0,0))]) Zb ⟨rfl,hl2,_,_,[_],rfl,hB1.grow.of (by rw [set1 hlen,if_neg hks]) rfl,by omega⟩
    ·refine Yd (Yc T (cs:=Ya8) Zz Zz Zz Zz Zz Zz Zz Zz (fun gz=>⟨(⟨Le.refl _,Zx⟩),?_⟩))
     refine Ya Zz Zz ?_
     refine PoS.qk (⟨Le.refl _,Zx⟩) (YB Zz Zz Xe ?_)
     unfold sxV
     refine Ya Zz Zz ?_
     refine PoS.hard Zj (Does.freezeAll (H1:=(gz,_)::(gx,_)::Hs) (H2:=Hs1) (Zr _) (fun fz2 hl2 hf2=>YK T (Hr:=[_,_]) Zz Zz Zz Zz Zz Zz Zz Zz (Zr _) (hG.mono hl2) Yu (.head _) Wh (by show _*72≤_;omega) Zi (fun v' Hs' hO'=>?_)))
     obtain ⟨gk,cap,cur,rfl,rfl,hB⟩:=hO'.b Zi
     obtain ⟨A2,c2,he2,hsl⟩:=hO1.sl hl2 hf2 Zi
     injection he2 with e1 e2 e3
     subst e1 e3
     have hX:XU fz2 (YH (Yh kw::ks)) (.slice A1 (1+m) c1):=⟨YeI,XH,XH,XH,Y5,hsl.is⟩
     refine Ys Zz Zz Zz ?_ ?_
     ·refine PoS.hard Zj (DoesQ.does (Yo T Zz Zz Zz Zz Zz rfl Zi Zi ?_))
      refine Ys Zz Zz Zz ?_ ?_
      ·refine PoS.hard0 Zj (YE T (pre:=[_,_]) (L:=YL) (j:=n) Zz Zz Zz rfl rfl Zz Yu (Yi (x:=YH (Yh kw::ks)) hX) hB Zi (fun cur1 hB1=>?_))
       refine Ya Zz Zz ?_
       refine PoS.hard0 Zj (YZ T Zz Zz Zz Zz Zz Zz ?_)
       refine Po.done ?_
       refine zW ?_;intros
       exact Yba rfl (H':=[(gx,lsO _),(gk,.cells (List.toArray cur1) 74 (0,0))]) Zb ⟨rfl,hl2,_,_,[_],rfl,hB1.grow.of (by rw [set1 hlen,if_neg hks]) rfl,by omega⟩
      ·refine PoS.hard0 Zj (YZ T Zz Zz Zz Zz Zz Zz ?_)
       refine Ya Zz Zz ?_
       refine PoS.hard0 Zj (YE T (pre:=[_,_]) (L:=YL) (j:=n) Zz Zz Zz rfl rfl Zz Yu (Yi (x:=YH (Yh kw::ks)) hX) hB Zi (fun cur1 hB1=>?_))
       refine Po.done ?_
       refine zW ?_;intros
       exact Yba rfl (H':=[(gx,lsO _),(gk,.cells (List.toArray cur1) 74 (0,0))]) Zb ⟨rfl,hl2,_,_,[_],rfl,hB1.grow.of (by rw [set1 hlen,if_neg hks]) rfl,by omega⟩
     ·refine PoS.hard0 Zj (YZ T Zz Zz Zz Zz Zz Zz ?_)
      refine Ya Zz Zz ?_
      refine PoS.hard Zj (DoesQ.does (Yo T Zz Zz Zz Zz Zz rfl Zi Zi ?_))
      refine Ya Zz Zz ?_
      refine PoS.hard0 Zj (YE T (pre:=[_,_]) (L:=YL) (j:=n) Zz Zz Zz rfl rfl Zz Yu (Yi (x:=YH (Yh kw::ks)) hX) hB Zi (fun cur1 hB1=>?_))
      refine Po.done ?_
      refine zW ?_;intros
      exact Yba rfl (H':=[(gx,lsO _),(gk,.cells (List.toArray cur1) 74 (0,0))]) Zb ⟨rfl,hl2,_,_,[_],rfl,hB1.grow.of (by rw [set1 hlen,if_neg hks]) rfl,by omega⟩
   ·refine Yd (Yc T (cs:=Ya8) Zz Zz Zz Zz Zz Zz Zz Zz (fun gz=>⟨(⟨Le.refl _,Zx⟩),?_⟩))
    refine Ya Zz Zz ?_
    refine Yd (X8 T (n:=1) (l:=[Yh kw]) (Hr:=(gz,_)::(gx,_)::Hs) (Hs:=[(gb1,_)]) Zz Zz Zz Zz Zz Zz Zz Zz (List.Perm.cons _ (List.perm_append_singleton _ _).symm) (Grow.block (ys:=[(Yh kw,Yr kw)]) rfl rfl (by simpa using Yv hkw) rfl Zh) Yu hK (by show _*72≤_;omega) Zi (fun v1 Hs1 hO1=>⟨(⟨Le.refl _,Zx⟩),?_⟩))
    obtain ⟨A1,c1,rfl,_,_⟩:=hO1.form
    refine Ya Zz Zz ?_
    refine PoS.qk (⟨Le.refl _,Zx⟩) (YB Zz Zz Xe ?_)
    unfold sxV
    refine Ya Zz Zz ?_
    refine PoS.hard Zj (Does.freezeAll (H1:=(gz,_)::(gx,_)::Hs) (H2:=Hs1) (Zr _) (fun fz2 hl2 hf2=>YK T (Hr:=[_,_]) Zz Zz Zz Zz Zz Zz Zz Zz (Zr _) (hG.mono hl2) Yu (.head _) Wh (by show _*72≤_;omega) Zi (fun v' Hs' hO'=>?_)))
    obtain ⟨gk,cap,cur,rfl,rfl,hB⟩:=hO'.b Zi
    obtain ⟨A2,c2,he2,hsl⟩:=hO1.sl hl2 hf2 Zi
    injection he2 with e1 e2 e3
    subst e1 e3
    have hX:XU fz2 (YH (Yh kw::ks)) (.slice A1 (1+m) c1):=⟨YeI,XH,XH,XH,Y5,hsl.is⟩
    refine Ys Zz Zz Zz ?_ ?_
    ·refine PoS.hard Zj (DoesQ.does (Yo T Zz Zz Zz Zz Zz rfl Zi Zi ?_))
     refine Ys Zz Zz Zz ?_ ?_
     ·refine PoS.hard0 Zj (YE T (pre:=[_,_]) (L:=YL) (j:=n) Zz Zz Zz rfl rfl Zz Yu (Yi (x:=YH (Yh kw::ks)) hX) hB Zi (fun cur1 hB1=>?_))
      refine Ya Zz Zz ?_
      refine PoS.hard0 Zj (YZ T Zz Zz Zz Zz Zz Zz ?_)
      refine Po.done ?_
      refine zW ?_;intros
      exact Yba rfl (H':=[(gx,lsO _),(gk,.cells (List.toArray cur1) 74 (0,0))]) Zb ⟨rfl,hl2,_,_,[_],rfl,hB1.grow.of (by rw [set1 hlen,if_neg hks]) rfl,by omega⟩
     ·refine PoS.hard0 Zj (YZ T Zz Zz Zz Zz Zz Zz ?_)
      refine Ya Zz Zz ?_
      refine PoS.hard0 Zj (YE T (pre:=[_,_]) (L:=YL) (j:=n) Zz Zz Zz rfl rfl Zz Yu (Yi (x:=YH (Yh kw::ks)) hX) hB Zi (fun cur1 hB1=>?_))
      refine Po.done ?_
      refine zW ?_;intros
      exact Yba rfl (H':=[(gx,lsO _),(gk,.cells (List.toArray cur1) 74 (0,0))]) Zb ⟨rfl,hl2,_,_,[_],rfl,hB1.grow.of (by rw [set1 hlen,if_neg hks]) rfl,by omega⟩
    ·refine PoS.hard0 Zj (YZ T Zz Zz Zz Zz Zz Zz ?_)
     refine Ya Zz Zz ?_
     refine PoS.hard Zj (DoesQ.does (Yo T Zz Zz Zz Zz Zz rfl Zi Zi ?_))
     refine Ya Zz Zz ?_
     refine PoS.hard0 Zj (YE T (pre:=[_,_]) (L:=YL) (j:=n) Zz Zz Zz rfl rfl Zz Yu (Yi (x:=YH (Yh kw::ks)) hX) hB Zi (fun cur1 hB1=>?_))
     refine Po.done ?_
     refine zW ?_;intros
     exact Yba rfl (H':=[(gx,lsO _),(gk,.cells (List.toArray cur1) 74 (0,0))]) Zb ⟨rfl,hl2,_,_,[_],rfl,hB1.grow.of (by rw [set1 hlen,if_neg hks]) rfl,by omega⟩
  ·refine Yd (Yc T (cs:=Ya8) Zz Zz Zz Zz Zz Zz Zz Zz (fun gz=>⟨(⟨Le.refl _,Zx⟩),?_⟩))
   refine Ya Zz Zz ?_
   refine Yd (Yc T (cs:=Yr kw) Zz Zz Zz Zz Zz Zz Zz Zz (fun gb1=>⟨(⟨Le.refl _,Zx⟩),?_⟩))
   refine Ya Zz Zz ?_
   refine Yd (X8 T (n:=1) (l:=[Yh kw]) (Hr:=(gz,_)::(gx,_)::Hs) (Hs:=[(gb1,_)]) Zz Zz Zz Zz Zz Zz Zz Zz (List.perm_append_singleton _ _).symm (Grow.block (ys:=[(Yh kw,Yr kw)]) rfl rfl (by simpa using Yv hkw) rfl Zh) Yu hK (by show _*72≤_;omega) Zi (fun v1 Hs1 hO1=>⟨(⟨Le.refl _,Zx⟩),?_⟩))
   obtain ⟨A1,c1,rfl,_,_⟩:=hO1.form
   refine Ya Zz Zz ?_
   refine PoS.qk (⟨Le.refl _,Zx⟩) (YB Zz Zz Xe ?_)
   unfold sxV
   refine Ya Zz Zz ?_
   refine PoS.hard Zj (Does.freezeAll (H1:=(gz,_)::(gx,_)::Hs) (H2:=Hs1) (Zr _) (fun fz2 hl2 hf2=>YK T (Hr:=[_,_]) Zz Zz Zz Zz Zz Zz Zz Zz (Zr _) (hG.mono hl2) Yu (.head _) Wh (by show _*72≤_;omega) Zi (fun v' Hs' hO'=>?_)))
   obtain ⟨gk,cap,cur,rfl,rfl,hB⟩:=hO'.b Zi
   obtain ⟨A2,c2,he2,hsl⟩:=hO1.sl hl2 hf2 Zi
   injection he2 with e1 e2 e3
   subst e1 e3
   have hX:XU fz2 (YH (Yh kw::ks)) (.slice A1 (1+m) c1):=⟨YeI,XH,XH,XH,Y5,hsl.is⟩
   refine Ys Zz Zz Zz ?_ ?_
   ·refine PoS.hard Zj (DoesQ.does (Yo T Zz Zz Zz Zz Zz rfl Zi Zi ?_))
    refine Ys Zz Zz Zz ?_ ?_
    ·refine PoS.hard0 Zj (YE T (pre:=[_,_]) (L:=YL) (j:=n) Zz Zz Zz rfl rfl Zz Yu (Yi (x:=YH (Yh kw::ks)) hX) hB Zi (fun cur1 hB1=>?_))
     refine Ya Zz Zz ?_
     refine PoS.hard0 Zj (YZ T Zz Zz Zz Zz Zz Zz ?_)
     refine Po.done ?_
     refine zW ?_;intros
     exact Yba rfl (H':=[(gx,lsO _),(gk,.cells (List.toArray cur1) 74 (0,0))]) Zb ⟨rfl,hl2,_,_,[_],rfl,hB1.grow.of (by rw [set1 hlen,if_neg hks]) rfl,by omega⟩
    ·refine PoS.hard0 Zj (YZ T Zz Zz Zz Zz Zz Zz ?_)
     refine Ya Zz Zz ?_
     refine PoS.hard0 Zj (YE T (pre:=[_,_]) (L:=YL) (j:=n) Zz Zz Zz rfl rfl Zz Yu (Yi (x:=YH (Yh kw::ks)) hX) hB Zi (fun cur1 hB1=>?_))
     refine Po.done ?_
     refine zW ?_;intros
     exact Yba rfl (H':=[(gx,lsO _),(gk,.cells (List.toArray cur1) 74 (0,0))]) Zb ⟨rfl,hl2,_,_,[_],rfl,hB1.grow.of (by rw [set1 hlen,if_neg hks]) rfl,by omega⟩
   ·refine PoS.hard0 Zj (YZ T Zz Zz Zz Zz Zz Zz ?_)
    refine Ya Zz Zz ?_
    refine PoS.hard Zj (DoesQ.does (Yo T Zz Zz Zz Zz Zz rfl Zi Zi ?_))
    refine Ya Zz Zz ?_
    refine PoS.hard0 Zj (YE T (pre:=[_,_]) (L:=YL) (j:=n) Zz Zz Zz rfl rfl Zz Yu (Yi (x:=YH (Yh kw::ks)) hX) hB Zi (fun cur1 hB1=>?_))
    refine Po.done ?_
    refine zW ?_;intros
    exact Yba rfl (H':=[(gx,lsO _),(gk,.cells (List.toArray cur1) 74 (0,0))]) Zb ⟨rfl,hl2,_,_,[_],rfl,hB1.grow.of (by rw [set1 hlen,if_neg hks]) rfl,by omega⟩
 ·have hks:ks=[]:=Classical.byContradiction fun h0=>c0 ((W6 hK.len).2 h0)
  refine zW ?_;intros
  exact Yba rfl (H':=(gx,lsO _)::Hs) Zb ⟨rfl,Le.refl _,_,_,Hs,rfl,hG.of (by rw [if_pos hks,List.append_nil]) rfl,by omega⟩
end Go.Proofs.YtbnpeechpebmeaaGreatDoor
