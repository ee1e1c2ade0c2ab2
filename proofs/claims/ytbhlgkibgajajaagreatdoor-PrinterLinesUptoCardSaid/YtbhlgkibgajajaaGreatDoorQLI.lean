/- The texts PWalkK, PRefC, PRefD, PRefE, PRefF, PRefG, PWalkL, PWalkM, PWalkN, PRefH, PRefI, laid together. Conditions: none. -/
import Derived.Test.YtbhlgkibgajajaaGreatDoorQLB
import Derived.Test.YtbhlgkibgajajaaGreatDoorQLC
import Derived.Test.YtbhlgkibgajajaaGreatDoorQLD
import Derived.Test.YtbhlgkibgajajaaGreatDoorQLE
import Derived.Test.YtbhlgkibgajajaaGreatDoorQLH
import Derived.Test.YtbhlgkibgajajaaGreatDoorQLF
import Derived.Test.YtbhlgkibgajajaaGreatDoorQLG
set_option maxRecDepth 20000
namespace Go.Proofs.YtbhlgkibgajajaaGreatDoor
open Go.Lx Go.RowKit
attribute [local instance 10] Classical.propDecidable
def wrO (b:Bool):Obj:=.cells #[.bool b] 88 (0,0)
def MkR (g:Nat) (b:Bool) (P:Prop) (x:Sexpr) (fz:FZ) (v:Value) (fz':FZ) (H':HP):Prop:=Le fz fz'∧∃ (b':Bool) (y:Sexpr),H'=[(g,wrO b')]∧SxIs fz' v y∧(b'=false↔b=false∧P)∧(b'=false→y=x)
theorem Yaq {fz:FZ} {g:Nat} {b:Bool} {s:ByteArray} (hs:Short s):GFn Tryz.prog 31 [.pointer (some ⟨g,0,none⟩),.string s] fz [(g,wrO b)] (fun v fz' H'=>Le fz fz'∧v=sxV 1 0 s (.slice none 0 0)∧∃ b':Bool,H'=[(g,wrO b')]∧(b'=false↔b=false∧Xn s)):=by
 unfold wrO
 (refine GFn.of_wp Tryz.func31 rfl Tryz.ntmps31 rfl rfl (fun w0=>?_))
 cases b
 ·((repeat (first | refine zS ?_ | refine zA fun _=>?_)))
  (((refine zG ?_));refine YO Zz Zz (YaW hs) (fun f1=>?_) (fun f1=>?_))
  ·((repeat (first | refine zS ?_ | refine zA fun _=>?_)))
   (((refine zG ?_));refine Yl Zz Zz (XY (s:=s)) ?_)
   unfold sxV
   ((repeat (first | refine zS ?_ | refine zA fun _=>?_)))
   refine X7 T (i:=0) (H':=[(g,wrO false)]) rfl Zz Zz Zz Zz Zz (Zb) ?_
   exact ⟨Le.refl _,rfl,false,rfl,iff_of_true rfl ⟨rfl,of_decide_eq_true f1⟩⟩
  ·((repeat (first | refine zS ?_ | refine zA fun _=>?_)))
   (((refine zG ?_));refine Yl Zz Zz (XY (s:=s)) ?_)
   unfold sxV
   ((repeat (first | refine zS ?_ | refine zA fun _=>?_)))
   refine X7 T (i:=0) (H':=[(g,wrO true)]) rfl Zz Zz Zz Zz Zz (Zb) ?_
   exact ⟨Le.refl _,rfl,true,rfl,iff_of_false (by simp) (fun h=>of_decide_eq_false f1 h.2)⟩
 ·((repeat (first | refine zS ?_ | refine zA fun _=>?_)))
  (((refine zG ?_));refine Yl Zz Zz (XY (s:=s)) ?_)
  unfold sxV
  ((repeat (first | refine zS ?_ | refine zA fun _=>?_)))
  refine X7 T (i:=0) (H':=[(g,wrO true)]) rfl Zz Zz Zz Zz Zz (Zb) ?_
  exact ⟨Le.refl _,rfl,true,rfl,iff_of_false (by simp) (fun h=>by cases h.1)⟩
def XM (vars:Bool) (p:Param):Prop:=(if vars=true then VarP p.name else Xn p.name)∧YfC p.typ
set_option maxHeartbeats 1000000 in
theorem X6 {fz:FZ} {g:Nat} {b vars:Bool} {A:Option Addr} {n c:Nat} {l:List Param} (h1:Sl paramL fz A n c l) (hn:n≤1000000000):
 GFn Tryz.prog 33 [.pointer (some ⟨g,0,none⟩),.slice A n c,.bool vars] fz [(g,wrO b)] (fun v fz' H'=>Le fz fz'∧(∃ B cc,v=.slice B (3*n) cc∧Sl YB fz' B (3*n) cc ((l.flatMap Wh).map Yi))∧∃ b':Bool,H'=[(g,wrO b')]∧(b'=false↔b=false∧∀ p∈l,XM vars p)):=by
 have l1:=h1.len
 (refine GFn.of_wp Tryz.func33 rfl Tryz.ntmps33 rfl rfl (fun w0=>?_))
 ((repeat (first | refine zS ?_ | refine zA fun _=>?_)))
 refine YI (fun q σ fz' H'=>∃ (k:Nat) (b':Bool),k≤n∧q=n - k∧σ=[(12,.int .i64 k),(11,.int .i64 n),(10,.slice A n c),(2,.bool vars),(1,.slice A n c),(0,.pointer (some ⟨g,0,none⟩))]∧fz=fz'∧H'=[(g,wrO b')]∧(b'=false↔b=false∧∀ i,i<k→∀ p,l[i]?=some p→XM vars p)) ⟨0,b,Nat.zero_le _,rfl,rfl,rfl,rfl,⟨fun h=>⟨h,fun i hi=>absurd hi Zi⟩,fun h=>h.1⟩⟩ (Zw) (Zb) ?_
 rintro q σ fz' H' ⟨k,b',hk,rfl,rfl,rfl,rfl,hb⟩
 ((repeat (first | refine zS ?_ | refine zA fun _=>?_)))
 ((refine zG ?_;refine zC (fun c1=>?_) (fun c1=>?_)))
 ·obtain ⟨x,hx⟩:=YH (l:=l) (k:=k) Zi
  have step:∀ b2:Bool,(b2=false↔b'=false∧XM vars x)→(b2=false↔b=false∧∀ i,i<k+1→∀ p,l[i]?=some p→XM vars p):=fun b2 h=>by
   rw [h,hb]
   exact ⟨fun h0=>⟨h0.1.1,Xw h0.1.2 hx h0.2⟩,fun h0=>⟨⟨h0.1,fun i hi=>h0.2 i Zi⟩,h0.2 k Zi x hx⟩⟩
  ((repeat (first | refine zS ?_ | refine zA fun _=>?_)))
  (((refine zG ?_));refine YG T k Zz Zz Zz Zz Zz Zz h1 (by first | rfl | omega) hx (fun p hp=>?_))
  (((refine zG ?_));refine YA T Zz Zz Zz hp Zz ?_)
  intro cs hcs
  obtain ⟨rfl,hR⟩:=Wm hcs
  cases vars
  ·((repeat (first | refine zS ?_ | refine zA fun _=>?_)))
   rename_i g5
   (((refine zG ?_));refine YO Zz Zz (YaW hR.name) (fun f1=>?_) (fun f1=>?_))
   ·((repeat (first | refine zS ?_ | refine zA fun _=>?_)))
    cases b'
    ·((repeat (first | refine zS ?_ | refine zA fun _=>?_)))
     ((refine zG ?_;refine zC (fun e1=>?_) (fun e1=>?_)))
     ·((repeat (first | refine zS ?_ | refine zA fun _=>?_)))
      (((refine zG ?_));refine YO Zz Zz (YaW hR.typ) (fun f2=>?_) (fun f2=>?_))
      ·((repeat (first | refine zS ?_ | refine zA fun _=>?_)))
       exact YY ⟨k+1,false,by omega,rfl,rfl,rfl,rfl,step false (iff_of_true rfl ⟨rfl,of_decide_eq_true f1,.inl (of_decide_eq_true f2)⟩)⟩ Zi (Zw) (Zb)
      ·((repeat (first | refine zS ?_ | refine zA fun _=>?_)))
       exact YY ⟨k+1,true,by omega,rfl,rfl,rfl,rfl,step true (iff_of_false (by simp) (fun h=>h.2.2.elim (of_decide_eq_false f2) e1))⟩ Zi (Zw) (Zb)
     ·((repeat (first | refine zS ?_ | refine zA fun _=>?_)))
      exact YY ⟨k+1,false,by omega,rfl,rfl,rfl,rfl,step false (iff_of_true rfl ⟨rfl,of_decide_eq_true f1,.inr e1⟩)⟩ Zi (Zw) (Zb)
    ·((repeat (first | refine zS ?_ | refine zA fun _=>?_)))
     exact YY ⟨k+1,true,by omega,rfl,rfl,rfl,rfl,step true (iff_of_false (by simp) (fun h=>by cases h.1))⟩ Zi (Zw) (Zb)
   ·((repeat (first | refine zS ?_ | refine zA fun _=>?_)))
    cases b'
    ·((repeat (first | refine zS ?_ | refine zA fun _=>?_)))
     exact YY ⟨k+1,true,by omega,rfl,rfl,rfl,rfl,step true (iff_of_false (by simp) (fun h=>of_decide_eq_false f1 h.2.1))⟩ Zi (Zw) (Zb)
    ·((repeat (first | refine zS ?_ | refine zA fun _=>?_)))
     exact YY ⟨k+1,true,by omega,rfl,rfl,rfl,rfl,step true (iff_of_false (by simp) (fun h=>by cases h.1))⟩ Zi (Zw) (Zb)
  ·((repeat (first | refine zS ?_ | refine zA fun _=>?_)))
   rename_i g5
   (((refine zG ?_));refine Yl Zz Zz (YaW hR.name) ?_)
   ((repeat (first | refine zS ?_ | refine zA fun _=>?_)))
   (((refine zG ?_));refine YO Zz Zz (Ya7 hR.name) (fun f1=>?_) (fun f1=>?_))
   ·((repeat (first | refine zS ?_ | refine zA fun _=>?_)))
    cases b'
    ·((repeat (first | refine zS ?_ | refine zA fun _=>?_)))
     ((refine zG ?_;refine zC (fun e1=>?_) (fun e1=>?_)))
     ·((repeat (first | refine zS ?_ | refine zA fun _=>?_)))
      (((refine zG ?_));refine YO Zz Zz (YaW hR.typ) (fun f2=>?_) (fun f2=>?_))
      ·((repeat (first | refine zS ?_ | refine zA fun _=>?_)))
       exact YY ⟨k+1,false,by omega,rfl,rfl,rfl,rfl,step false (iff_of_true rfl ⟨rfl,of_decide_eq_true f1,.inl (of_decide_eq_true f2)⟩)⟩ Zi (Zw) (Zb)
      ·((repeat (first | refine zS ?_ | refine zA fun _=>?_)))
       exact YY ⟨k+1,true,by omega,rfl,rfl,rfl,rfl,step true (iff_of_false (by simp) (fun h=>h.2.2.elim (of_decide_eq_false f2) e1))⟩ Zi (Zw) (Zb)
     ·((repeat (first | refine zS ?_ | refine zA fun _=>?_)))
      exact YY ⟨k+1,false,by omega,rfl,rfl,rfl,rfl,step false (iff_of_true rfl ⟨rfl,of_decide_eq_true f1,.inr e1⟩)⟩ Zi (Zw) (Zb)
    ·((repeat (first | refine zS ?_ | refine zA fun _=>?_)))
     exact YY ⟨k+1,true,by omega,rfl,rfl,rfl,rfl,step true (iff_of_false (by simp) (fun h=>by cases h.1))⟩ Zi (Zw) (Zb)
   ·((repeat (first | refine zS ?_ | refine zA fun _=>?_)))
    cases b'
    ·((repeat (first | refine zS ?_ | refine zA fun _=>?_)))
     exact YY ⟨k+1,true,by omega,rfl,rfl,rfl,rfl,step true (iff_of_false (by simp) (fun h=>of_decide_eq_false f1 h.2.1))⟩ Zi (Zw) (Zb)
    ·((repeat (first | refine zS ?_ | refine zA fun _=>?_)))
     exact YY ⟨k+1,true,by omega,rfl,rfl,rfl,rfl,step true (iff_of_false (by simp) (fun h=>by cases h.1))⟩ Zi (Zw) (Zb)
 ·have hk1:k=n:=by omega
  subst hk1
  ((repeat (first | refine zS ?_ | refine zA fun _=>?_)))
  (refine Yd Zz (Yz [] _ Zz Zz Zz (Yep h1 hn) (fun v2 fz2 H2 hle2 hR2=>?_)))
  obtain ⟨rfl,B2,cc2,rfl,hsl2⟩:=hR2
  ((repeat (first | refine zS ?_ | refine zA fun _=>?_)))
  exact ret1 rfl rfl (Zb) ⟨hle2,⟨B2,cc2,rfl,hsl2⟩,b',rfl,by rw [hb];exact ⟨fun h=>⟨h.1,Yan h.2 Zi⟩,fun h=>⟨h.1,fun i _ p hp=>h.2 p (List.mem_of_getElem? hp)⟩⟩⟩
theorem Yac {fz:FZ} {g:Nat} {b:Bool} {f:Formula} {va vp ve vk:Value} (h:FormulaR fz f va vp ve vk) (hs:FSm f):GFn Tryz.prog 70 [.pointer (some ⟨g,0,none⟩),.agg #[.string f.op,.string f.name,va,vp,ve,vk]] fz [(g,wrO b)] (MkR g b (FVal f) (XL f) fz):=by
 obtain ⟨A,n,ca,rfl,ha⟩:=h.args
 obtain ⟨B,m,cb,rfl,hp⟩:=h.params
 obtain ⟨C,r,cr,rfl,he⟩:=h.exprs
 obtain ⟨D,q,cq,rfl,hk⟩:=h.kids
 (refine GFn.of_wp Tryz.func70 rfl Tryz.ntmps70 rfl rfl (fun w0=>?_))
 (refine Yu (Yy (Yd Zz (XB _ Zz Zz (fun g0=>?_)))))
 ((repeat (first | refine zS ?_ | refine zA fun _=>?_)))
 rename_i g1
 (refine Yd Zz (Yz [] _ Zz Zz Zz (fWrite_q h hs) (fun v6 fz6 H6 hle6 hR6=>?_)))
 obtain ⟨rfl,u,y,rfl,⟨cs,rfl,hr⟩,hyx⟩:=hR6
 obtain ⟨vk6,rfl,hX⟩:=Yx hr
 obtain ⟨A6,n6,b6,rfl,_⟩:=hX.kids
 by_cases hP:FVal f
 ·rw [if_pos hP]
  cases b
  ·((repeat (first | refine zS ?_ | refine zA fun _=>?_)))
   refine X7 T (i:=1) (H':=[(g,wrO false)]) rfl Zz Zz Zz Zz Zz (Zb) ?_
   exact ⟨hle6,false,y,rfl,⟨_,rfl,Yf hX⟩,iff_of_true rfl ⟨rfl,hP⟩,fun _=>hyx hP⟩
  ·((repeat (first | refine zS ?_ | refine zA fun _=>?_)))
   refine X7 T (i:=1) (H':=[(g,wrO true)]) rfl Zz Zz Zz Zz Zz (Zb) ?_
   exact ⟨hle6,true,y,rfl,⟨_,rfl,Yf hX⟩,iff_of_false (by simp) (fun h0=>by cases h0.1),fun h0=>by cases h0⟩
 ·rw [if_neg hP]
  cases b
  ·((repeat (first | refine zS ?_ | refine zA fun _=>?_)))
   refine X7 T (i:=1) (H':=[(g,wrO true)]) rfl Zz Zz Zz Zz Zz (Zb) ?_
   exact ⟨hle6,true,y,rfl,⟨_,rfl,Yf hX⟩,iff_of_false (by simp) (fun h0=>hP h0.2),fun h0=>by cases h0⟩
  ·((repeat (first | refine zS ?_ | refine zA fun _=>?_)))
   refine X7 T (i:=1) (H':=[(g,wrO true)]) rfl Zz Zz Zz Zz Zz (Zb) ?_
   exact ⟨hle6,true,y,rfl,⟨_,rfl,Yf hX⟩,iff_of_false (by simp) (fun h0=>by cases h0.1),fun h0=>by cases h0⟩
def Yd1 (name:ByteArray) (args:List ByteArray):Prop:=Xn name∧∀ a∈args,YcA a
set_option maxHeartbeats 2000000 in
theorem watom_q {fz:FZ} {g:Nat} {b:Bool} {f0:ByteArray} {A:Option Addr} {n c:Nat} {l:List ByteArray} (hf:Short f0) (h1:Sl strL fz A n c l) (hn:n≤1000000000):
 GFn Tryz.prog 203 [.pointer (some ⟨g,0,none⟩),.string f0,.slice A n c] fz [(g,wrO b)] (MkR g b (Yd1 f0 l) (Wy f0 l) fz):=by
 have l1:=h1.len
 (refine GFn.of_wp Tryz.func203 rfl Tryz.ntmps203 rfl rfl (fun w0=>?_))
 ((repeat (first | refine zS ?_ | refine zA fun _=>?_)))
 rename_i g4
 (first | refine Wp.perm (List.Perm.swap _ _ _) ?_ | refine Seq.perm (List.Perm.swap _ _ _) ?_)
 (refine Yd Zz (Yz [_] [_] Zz Zz Zz (Yaq hf) (fun v6 fz6 H6 hle6 hR6=>?_)))
 obtain ⟨_,rfl,b1,rfl,hb1⟩:=hR6
 unfold sxV
 refine Yd Zz (Ye T (cs:=Yv f0) Zz Zz Zz Zz Zz Zz Zz Zz (fun gb=>?_))
 (((refine zG ?_));refine Yl Zz Zz YW ?_)
 unfold sxV
 ((repeat (first | refine zS ?_ | refine zA fun _=>?_)))
 rename_i g5
 refine Wp.perm (List.Perm.cons _ (List.reverse_perm [_,_,_])) ?_
 refine YI (fun q σ fz' H'=>∃ (k:Nat) (v:Value) (Hs:HP) (b':Bool),k≤n∧q=n - k∧σ=[(17,.int .i64 k),(16,.int .i64 n),(15,.slice A n c),(7,.pointer (some ⟨g5,0,none⟩)),(6,.pointer (some ⟨g4,0,none⟩)),(0,.pointer (some ⟨g,0,none⟩))]∧fz6=fz'∧
  H'=(g5,.cells #[.int .i64 3,.int .i64 0,.int .i64 0,.int .i64 0,.string ⟨#[]⟩,v] 64 (0,0))::(g4,.cells #[.int .i64 0,.int .i64 0,.int .i64 0,.int .i64 0,.string ⟨#[]⟩,.slice none 0 0] 64 (0,0))::(g,wrO b')::Hs∧Grow YB 64 fz' v (k+1) Hs (Yi f0::(l.take k).map Yi)∧(b'=false↔b=false∧Xn f0∧∀ i,i<k→∀ a,l[i]?=some a→YcA a))
  ⟨0,_,[_],b1,Nat.zero_le _,rfl,rfl,rfl,rfl,Grow.block (ys:=[(Yi f0,Yv f0)]) rfl rfl (by simpa using Ys hf) rfl Zh,by rw [hb1];exact ⟨fun h=>⟨h.1,h.2,fun i hi=>absurd hi Zi⟩,fun h=>⟨h.1,h.2.1⟩⟩⟩ (Zw) (Zb) ?_
 rintro q σ fz' H' ⟨k,v,Hs,b',hk,rfl,rfl,rfl,rfl,hG,hb⟩
 obtain ⟨Av,cv,rfl,_,_⟩:=hG.form
 have h2:=h1.mono hle6
 ((repeat (first | refine zS ?_ | refine zA fun _=>?_)))
 ((refine zG ?_;refine zC (fun c1=>?_) (fun c1=>?_)))
 ·obtain ⟨x,hx⟩:=YH (l:=l) (k:=k) Zi
  have step:∀ b2:Bool,(b2=false↔b'=false∧YcA x)→(b2=false↔b=false∧Xn f0∧∀ i,i<k+1→∀ a,l[i]?=some a→YcA a):=fun b2 h=>by
   rw [h,hb]
   exact ⟨fun h0=>⟨h0.1.1,h0.1.2.1,Xw h0.1.2.2 hx h0.2⟩,fun h0=>⟨⟨h0.1,h0.2.1,fun i hi=>h0.2.2 i Zi⟩,h0.2.2 k Zi x hx⟩⟩
  ((repeat (first | refine zS ?_ | refine zA fun _=>?_)))
  (((refine zG ?_));refine YG T k Zz Zz Zz Zz Zz Zz h2 (by first | rfl | omega) hx (fun p hp=>?_))
  (((refine zG ?_));refine WJ T Zz Zz Zz hp (fun ix=>?_))
  ((repeat (first | refine zSO ?_ | refine zA fun _=>?_)))
  refine Yu (Wp.mid (fun σ fz' H'=>∃ b2:Bool,σ=[(9,.string x),(17,.int .i64 k),(16,.int .i64 n),(15,.slice A n c),(7,.pointer (some ⟨g5,0,none⟩)),(6,.pointer (some ⟨g4,0,none⟩)),(0,.pointer (some ⟨g,0,none⟩))]∧fz6=fz'∧
   H'=(g5,.cells #[.int .i64 3,.int .i64 0,.int .i64 0,.int .i64 0,.string ⟨#[]⟩,.slice Av (k+1) cv] 64 (0,0))::(g4,.cells #[.int .i64 0,.int .i64 0,.int .i64 0,.int .i64 0,.string ⟨#[]⟩,.slice none 0 0] 64 (0,0))::(g,wrO b2)::Hs∧(b2=false↔b'=false∧YcA x)) ?_ ?_)
  ·cases b'
   ·((repeat (first | refine zS ?_ | refine zA fun _=>?_)))
    (((refine zG ?_));refine YO Zz Zz (dterm_q ix) (fun f1=>?_) (fun f1=>?_))
    ·((repeat (first | refine zS ?_ | refine zA fun _=>?_)))
     exact midN ⟨false,rfl,rfl,rfl,iff_of_true rfl ⟨rfl,of_decide_eq_true f1⟩⟩ (Zw) (Zb)
    ·((repeat (first | refine zS ?_ | refine zA fun _=>?_)))
     exact midN ⟨true,rfl,rfl,rfl,iff_of_false (by simp) (fun h=>of_decide_eq_false f1 h.2)⟩ (Zw) (Zb)
   ·((repeat (first | refine zS ?_ | refine zA fun _=>?_)))
    exact midN ⟨true,rfl,rfl,rfl,iff_of_false (by simp) (fun h=>by cases h.1)⟩ (Zw) (Zb)
  ·rintro σ fz' H' ⟨b2,rfl,rfl,rfl,hb2⟩
   (refine Wp.drawK (Hq:=[_,_,_]) T.mixed Zj Zj (Zb) ?_)
   ((repeat (first | refine zS ?_ | refine zA fun _=>?_)))
   (refine Ya ?_)
   (refine Ya ?_)
   (refine Ya ?_)
   ((repeat (first | refine zS ?_ | refine zA fun _=>?_)))
   (refine Ya ?_)
   (refine YN ⟨by kernel_rfl,?_⟩)
   refine Ch.qk (⟨Le.refl _,Zx⟩) (Yl Zz Zz (XY (s:=x)) ?_)
   refine Yq (Ye T (cs:=Yv x) Zz Zz Zz Zz Zz Zz Zz Zz (fun gb=>⟨(⟨Le.refl _,Zx⟩),?_⟩))
   refine Yq (Xs T (Hr:=[_,_,_,_]) Zz Zz Zz Zz Zz Zz Zz Zz (List.Perm.refl _) hG Yn (.head _) (Ys ix) (by show _*72≤_;omega) Zi (fun v' Hs' hO'=>⟨(⟨Le.refl _,Zx⟩),?_⟩))
   obtain ⟨Av',cv',rfl,_,_⟩:=hO'.form
   refine Ch.hard0 Zj (YU T Zz Zz Zz Zz Zz Zz ?_)
   refine Ch.done ?_
   ((repeat (first | refine zS ?_ | refine zA fun _=>?_)))
   exact YY ⟨k+1,_,Hs',b2,by omega,rfl,rfl,rfl,rfl,hO'.of (by rw [List.take_add_one,hx];simp) rfl,step b2 hb2⟩ Zi (Zw) (Zb)
 ·have hk1:k=n:=by omega
  subst hk1
  rw [List.take_of_length_le Zi] at hG
  ((repeat (first | refine zS ?_ | refine zA fun _=>?_)))
  refine YbB T (i:=1) (H':=[(g,wrO b')]) rfl Zz Zz Zz Zz Zz (@List.perm_middle _ _ [_,_] _).symm (fun fz3 hle3 hf3=>?_)
  obtain ⟨A',c',he,hsl⟩:=hG.sl hle3 (fun p hp=>hf3 p (by simp [hp])) Zi
  injection he with he1 he2 he3
  subst he1 he3
  exact ⟨hle6.trans hle3,b',_,rfl,Wb hsl,by rw [hb];exact ⟨fun h=>⟨h.1,h.2.1,Yan h.2.2 Zi⟩,fun h=>⟨h.1,h.2.1,fun i _ a ha=>h.2.2 a (List.mem_of_getElem? ha)⟩⟩,fun _=>rfl⟩
end Go.Proofs.YtbhlgkibgajajaaGreatDoor
set_option maxRecDepth 20000
namespace Go.Proofs.YtbhlgkibgajajaaGreatDoor
open Go.Lx Go.RowKit
attribute [local instance 10] Classical.propDecidable
end Go.Proofs.YtbhlgkibgajajaaGreatDoor
set_option maxRecDepth 20000
namespace Go.Proofs.YtbhlgkibgajajaaGreatDoor
open Go.Lx Go.RowKit
attribute [local instance 10] Classical.propDecidable
end Go.Proofs.YtbhlgkibgajajaaGreatDoor
set_option maxRecDepth 20000
namespace Go.Proofs.YtbhlgkibgajajaaGreatDoor
open Go.Lx Go.RowKit
attribute [local instance 10] Classical.propDecidable
end Go.Proofs.YtbhlgkibgajajaaGreatDoor
set_option maxRecDepth 20000
namespace Go.Proofs.YtbhlgkibgajajaaGreatDoor
open Go.Lx Go.RowKit
attribute [local instance 10] Classical.propDecidable
theorem size0 {s:ByteArray}:s=X4↔s.size=0:=by
 constructor
 ·intro h;rw [h];rfl
 ·intro h
  rcases s with ⟨⟨l⟩⟩
  cases l with
  | nil=>rfl
  | cons a r=>simp [ByteArray.size] at h
theorem pre_dash {s:ByteArray} (h:0<s.size):PreP s YaD↔(W3 s 0:Int)=45:=by
 rcases s with ⟨⟨l⟩⟩
 cases l with
 | nil=>simp [ByteArray.size] at h
 | cons a r=>
  have e:(ByteArray.mk ⟨a::r⟩).extract 0 1=⟨#[a]⟩:=by
   apply ByteArray.ext
   simp [ByteArray.data_extract]
  have hb:W3 (ByteArray.mk ⟨a::r⟩) 0=a.toNat:=by
   obtain ⟨b,hb,hb2⟩:=Ya5 (s:=ByteArray.mk ⟨a::r⟩) (k:=0) h
   rw [hb2]
   rw [getElem?_pos _ 0 h] at hb
   have:(ByteArray.mk ⟨a::r⟩)[0]=a:=rfl
   rw [this] at hb
   cases hb;rfl
  rw [hb]
  unfold PreP YaD
  constructor
  ·rintro ⟨_,h2⟩
   have h3:(ByteArray.mk ⟨a::r⟩).extract 0 1=⟨#[45]⟩:=h2
   rw [e] at h3
   simp at h3
   subst h3;rfl
  ·intro h2
   have h3:a=45:=by rw [← UInt8.toNat_inj];show a.toNat=45;omega
   subst h3
   exact ⟨h,e⟩
end Go.Proofs.YtbhlgkibgajajaaGreatDoor
set_option maxRecDepth 20000
namespace Go.Proofs.YtbhlgkibgajajaaGreatDoor
open Go.Lx Go.RowKit
attribute [local instance 10] Classical.propDecidable
end Go.Proofs.YtbhlgkibgajajaaGreatDoor
set_option maxRecDepth 20000
namespace Go.Proofs.YtbhlgkibgajajaaGreatDoor
open Go.Lx Go.RowKit
attribute [local instance 10] Classical.propDecidable
def Yew:ByteArray:=⟨#[97,115,115,105,103,110]⟩
def YbD:ByteArray:=⟨#[105,110,99,114,101,97,115,101]⟩
def YbE:ByteArray:=⟨#[100,101,99,114,101,97,115,101]⟩
def Yii:ByteArray:=⟨#[119,104,101,110]⟩
def nilE:Lx.Expr:=.mk ⟨#[]⟩ ⟨#[]⟩ 0 [] []
def Num5 (k:Int):Prop:=k=3∨k=4∨k=5
def Yfk (k:Int):ByteArray:=if k=3 then Yew else if k=4 then YbD else YbE
def Wz (c:Change):Prop:=((c.kind=1∨c.kind=2)∧c.value=nilE)∨(Num5 c.kind∧EVal c.value)
def WhenOk (c:Change):Prop:=c.when_=XV∨FVal c.when_
def ChOk (c:Change):Prop:=Yd1 c.name c.args∧Wz c∧WhenOk c∧∀ p∈c.params,XM true p
def ChSm (c:Change):Prop:=c.params.length≤1000000000∧c.args.length≤1000000000∧FSm c.when_∧ESm c.value
noncomputable def chX1 (c:Change):Sexpr:=if c.kind=2 then YM [Yi kNot,Wy c.name c.args] else if Num5 c.kind then YM [Yi (Yfk c.kind),Wy c.name c.args,Xi c.value] else Wy c.name c.args
noncomputable def chX2 (c:Change):Sexpr:=if c.when_=XV then chX1 c else YM [Yi Yii,XL c.when_,chX1 c]
noncomputable def chX (c:Change):Sexpr:=if c.params=[] then chX2 c else YM [Yi Wo,YM ((c.params.flatMap Wh).map Yi),chX2 c]
theorem YiG {fz3:FZ} {gb:Nat} {o:ByteArray} {X:Sexpr} {vk3:Value} (ho:Short o) (hg:fz3 gb=some (.cells (Yv o++ [.int .i64 X.kind,.int .i64 X.value,.int .i64 X.line,.int .i64 X.column,.string X.text,vk3]).toArray 64 (0,0))) (hX:Y4 fz3 X vk3):
 Y4 fz3 (YM [Yi o,X]) (.slice (some ⟨gb,0,none⟩) 2 2):=
 ⟨Ydb,Xf,Xf,Xf,YP,(Wr (ys:=[(Yi o,Yv o),(X,[.int .i64 X.kind,.int .i64 X.value,.int .i64 X.line,.int .i64 X.column,.string X.text,vk3])]) hg rfl rfl (by
  intro p hp
  simp only [List.mem_cons,List.not_mem_nil,or_false] at hp
  rcases hp with rfl | rfl
  ·exact Ys ho
  ·exact Yf hX) rfl (by simp)).is⟩
theorem YbW {fz3:FZ} {gb:Nat} {o:ByteArray} {X Y:Sexpr} {vk3 vk5:Value} (ho:Short o) (hg:fz3 gb=some (.cells (Yv o++ [.int .i64 X.kind,.int .i64 X.value,.int .i64 X.line,.int .i64 X.column,.string X.text,vk3]++ [.int .i64 Y.kind,.int .i64 Y.value,.int .i64 Y.line,.int .i64 Y.column,.string Y.text,vk5]).toArray 64 (0,0))) (hX:Y4 fz3 X vk3) (hY:Y4 fz3 Y vk5):
 Y4 fz3 (YM [Yi o,X,Y]) (.slice (some ⟨gb,0,none⟩) 3 3):=
 ⟨Ydb,Xf,Xf,Xf,YP,(Wr (ys:=[(Yi o,Yv o),(X,[.int .i64 X.kind,.int .i64 X.value,.int .i64 X.line,.int .i64 X.column,.string X.text,vk3]),(Y,[.int .i64 Y.kind,.int .i64 Y.value,.int .i64 Y.line,.int .i64 Y.column,.string Y.text,vk5])]) hg rfl rfl (by
  intro p hp
  simp only [List.mem_cons,List.not_mem_nil,or_false] at hp
  rcases hp with rfl | rfl | rfl
  ·exact Ys ho
  ·exact Yf hX
  ·exact Yf hY) rfl (by simp)).is⟩
theorem Yas {o:ByteArray} (h:o=kNot∨o=Yew∨o=YbD∨o=YbE∨o=Yii∨o=Wo):Short o:=by
 rcases h with rfl | rfl | rfl | rfl | rfl | rfl<;>(unfold Short;decide)
set_option maxHeartbeats 4000000 in
theorem Yht {fz:FZ} {g:Nat} {b:Bool} {c:Change} {v1 v2 v3 v4 v5 v6 v7 v8:Value} (h:ChangeR fz c v1 v2 v3 v4 v5 v6 v7 v8) (hs:ChSm c):
 GFn Tryz.prog 148 [.pointer (some ⟨g,0,none⟩),.agg #[.int .i64 c.kind,v1,.string c.when_.op,.string c.when_.name,v2,v3,v4,v5,.string c.name,v6,.string c.value.op,.string c.value.name,.int .i64 c.value.n,v7,v8]] fz [(g,wrO b)] (MkR g b (ChOk c) (chX c) fz):=by
 obtain ⟨A1,n1,b1,rfl,ip⟩:=h.params
 obtain ⟨A2,n2,b2,rfl,iw1⟩:=h.when_.args
 obtain ⟨A3,n3,b3,rfl,iw2⟩:=h.when_.params
 obtain ⟨A4,n4,b4,rfl,iw3⟩:=h.when_.exprs
 obtain ⟨A5,n5,b5,rfl,iw4⟩:=h.when_.kids
 obtain ⟨A6,n6,b6,rfl,ia⟩:=h.args
 obtain ⟨A7,n7,b7,rfl,iv1⟩:=h.value.args
 obtain ⟨A8,n8,b8,rfl,iv2⟩:=h.value.kids
 (refine GFn.of_wp Tryz.func148 rfl Tryz.ntmps148 rfl rfl (fun w0=>?_))
 (refine Yu (Yy (Yd Zz (XB _ Zz Zz (fun g3=>?_)))))
 ((repeat (first | refine zS ?_ | refine zA fun _=>?_)))
 rename_i g4
 refine Seq.perm (@List.perm_middle _ _ [_,_] []).symm ?_
 (refine Yd Zz (Yz [_] _ Zz Zz Zz (watom_q h.name ia (by rw [← ia.len];exact hs.2.1)) (fun v9 fz1 H1 hle1 hR1=>?_)))
 obtain ⟨_,ba,y0,rfl,⟨cs0,rfl,hr0⟩,hba,hya⟩:=hR1
 obtain ⟨vy0,rfl,hY0⟩:=Yx hr0
 obtain ⟨Ay0,ny0,by0,rfl,_⟩:=hY0.kids
 ((repeat (first | refine zSO ?_ | refine zA fun _=>?_)))
 rename_i g5
 refine Wp.perm (List.Perm.swap _ _ _) ?_
 refine Yu (Wp.mid (fun σ fz' H'=>∃ (bb:Bool) (y:Sexpr) (Ay:Option Addr) (ny by_:Nat),σ=[(5,.pointer (some ⟨g5,0,none⟩)),(4,.pointer (some ⟨g4,0,none⟩)),(3,.pointer (some ⟨g3,0,none⟩)),(0,.pointer (some ⟨g,0,none⟩))]∧Le fz1 fz'∧H'=[(g,wrO bb),(g5,.cells #[.int .i64 y.kind,.int .i64 y.value,.int .i64 y.line,.int .i64 y.column,.string y.text,.slice Ay ny by_] 64 (0,0)),(g4,.cells #[.int .i64 0,.int .i64 0,.int .i64 0,.int .i64 0,.string ⟨#[]⟩,.slice none 0 0] 64 (0,0)),(g3,.cells #[.int .i64 c.kind,.slice A1 n1 b1,.string c.when_.op,.string c.when_.name,.slice A2 n2 b2,.slice A3 n3 b3,.slice A4 n4 b4,.slice A5 n5 b5,.string c.name,.slice A6 n6 b6,.string c.value.op,.string c.value.name,.int .i64 c.value.n,.slice A7 n7 b7,.slice A8 n8 b8] 77 (0,0))]∧Y4 fz' y (.slice Ay ny by_)∧(bb=false↔b=false∧Yd1 c.name c.args∧Wz c)∧(bb=false→y=chX1 c)) ?_ ?_)
 ·have hM:∀ {fz':FZ},Le fz1 fz'→ExprR fz' c.value (.slice A7 n7 b7) (.slice A8 n8 b8):=fun hle=>h.value.mono (hle1.trans hle)
  ((repeat (first | refine zS ?_ | refine zA fun _=>?_)))
  ((refine zG ?_;refine zC (fun k1=>?_) (fun k1=>?_)))
  ·have k2:¬c.kind=2:=by omega
   have hx1:chX1 c=Wy c.name c.args:=by unfold chX1 Num5;rw [if_neg k2,if_neg Zi]
   have hk0:Wz c↔c.value=nilE:=⟨fun h0=>h0.elim (fun h0=>h0.2) (fun h0=>by have:=h0.1;unfold Num5 at this;omega),fun h0=>.inl ⟨.inl k1,h0⟩⟩
   ((repeat (first | refine zS ?_ | refine zA fun _=>?_)))
   cases ba
   ·((repeat (first | refine zS ?_ | refine zA fun _=>?_)))
    (((refine zG ?_));refine YF (vs:=[.string c.value.op,.string c.value.name,.int .i64 c.value.n,.slice A7 n7 b7,.slice A8 n8 b8]) T 3 Zz Zz Zz Zz Zz Zz ?_)
    ((repeat (first | refine zS ?_ | refine zA fun _=>?_)))
    (((refine zG ?_));refine YO Zz Zz (Ydj (b:=nilE) (hM (Le.refl _)) Yfs) (fun f1=>?_) (fun f1=>?_))
    ·((repeat (first | refine zS ?_ | refine zA fun _=>?_)))
     exact midN ⟨false,y0,Ay0,ny0,by0,rfl,Le.refl _,rfl,hY0,iff_of_true rfl ⟨(hba.1 rfl).1,(hba.1 rfl).2,hk0.2 (of_decide_eq_true f1)⟩,fun _=>by rw [hx1];exact hya rfl⟩ (Zw) (Zb)
    ·((repeat (first | refine zS ?_ | refine zA fun _=>?_)))
     exact midN ⟨true,y0,Ay0,ny0,by0,rfl,Le.refl _,rfl,hY0,iff_of_false (by simp) (fun h0=>of_decide_eq_false f1 (hk0.1 h0.2.2)),fun h0=>by cases h0⟩ (Zw) (Zb)
   ·((repeat (first | refine zS ?_ | refine zA fun _=>?_)))
    exact midN ⟨true,y0,Ay0,ny0,by0,rfl,Le.refl _,rfl,hY0,iff_of_false (by simp) (fun h0=>by simpa using hba.2 ⟨h0.1,h0.2.1⟩),fun h0=>by cases h0⟩ (Zw) (Zb)
  ·((repeat (first | refine zS ?_ | refine zA fun _=>?_)))
   ((refine zG ?_;refine zC (fun k2=>?_) (fun k2=>?_)))
   ·have hx1:chX1 c=YM [Yi kNot,Wy c.name c.args]:=by unfold chX1;rw [if_pos k2]
    have hk0:Wz c↔c.value=nilE:=⟨fun h0=>h0.elim (fun h0=>h0.2) (fun h0=>by have:=h0.1;unfold Num5 at this;omega),fun h0=>.inl ⟨.inr k2,h0⟩⟩
    ((repeat (first | refine zSO ?_ | refine zA fun _=>?_)))
    refine Wp.cond_true Zz ?_
    refine Yu (Wp.mid (fun σ fz' H'=>∃ bb:Bool,σ=[(5,.pointer (some ⟨g5,0,none⟩)),(4,.pointer (some ⟨g4,0,none⟩)),(3,.pointer (some ⟨g3,0,none⟩)),(0,.pointer (some ⟨g,0,none⟩))]∧fz1=fz'∧H'=[(g,wrO bb),(g5,.cells #[.int .i64 y0.kind,.int .i64 y0.value,.int .i64 y0.line,.int .i64 y0.column,.string y0.text,.slice Ay0 ny0 by0] 64 (0,0)),(g4,.cells #[.int .i64 0,.int .i64 0,.int .i64 0,.int .i64 0,.string ⟨#[]⟩,.slice none 0 0] 64 (0,0)),(g3,.cells #[.int .i64 c.kind,.slice A1 n1 b1,.string c.when_.op,.string c.when_.name,.slice A2 n2 b2,.slice A3 n3 b3,.slice A4 n4 b4,.slice A5 n5 b5,.string c.name,.slice A6 n6 b6,.string c.value.op,.string c.value.name,.int .i64 c.value.n,.slice A7 n7 b7,.slice A8 n8 b8] 77 (0,0))]∧(bb=false↔b=false∧Yd1 c.name c.args∧Wz c)) ?_ ?_)
    ·cases ba
     ·((repeat (first | refine zS ?_ | refine zA fun _=>?_)))
      (((refine zG ?_));refine YF (vs:=[.string c.value.op,.string c.value.name,.int .i64 c.value.n,.slice A7 n7 b7,.slice A8 n8 b8]) T 3 Zz Zz Zz Zz Zz Zz ?_)
      ((repeat (first | refine zS ?_ | refine zA fun _=>?_)))
      (((refine zG ?_));refine YO Zz Zz (Ydj (b:=nilE) (hM (Le.refl _)) Yfs) (fun f1=>?_) (fun f1=>?_))
      ·((repeat (first | refine zS ?_ | refine zA fun _=>?_)))
       exact midN ⟨false,rfl,rfl,rfl,iff_of_true rfl ⟨(hba.1 rfl).1,(hba.1 rfl).2,hk0.2 (of_decide_eq_true f1)⟩⟩ (Zw) (Zb)
      ·((repeat (first | refine zS ?_ | refine zA fun _=>?_)))
       exact midN ⟨true,rfl,rfl,rfl,iff_of_false (by simp) (fun h0=>of_decide_eq_false f1 (hk0.1 h0.2.2))⟩ (Zw) (Zb)
     ·((repeat (first | refine zS ?_ | refine zA fun _=>?_)))
      exact midN ⟨true,rfl,rfl,rfl,iff_of_false (by simp) (fun h0=>by simpa using hba.2 ⟨h0.1,h0.2.1⟩)⟩ (Zw) (Zb)
    ·rintro σ fz' H' ⟨bb,rfl,rfl,rfl,hbb⟩
     ((repeat (first | refine zS ?_ | refine zA fun _=>?_)))
     (refine Wp.drawK (Hq:=[_,_,_,_]) T.mixed Zj Zj (Zb) ?_)
     (((refine zG ?_));refine Yl Zz Zz (XY (s:=kNot)) ?_)
     ((repeat (first | refine zS ?_ | refine zA fun _=>?_)))
     (refine Ya ?_)
     (refine Ya ?_)
     (refine Ya ?_)
     (refine YN ⟨by kernel_rfl,?_⟩)
     refine Yq (Ye T (cs:=Yv kNot++ [.int .i64 y0.kind,.int .i64 y0.value,.int .i64 y0.line,.int .i64 y0.column,.string y0.text,.slice Ay0 ny0 by0]) Zz Zz Zz Zz Zz Zz Zz Zz (fun gb=>⟨(⟨Le.refl _,Zx⟩),?_⟩))
     refine Ch.qk (⟨Le.refl _,Zx⟩) (Yl Zz Zz YW ?_)
     unfold sxV
     refine Ch.hard0 Zj (Xr T Zz Zz Zz Zz Zz Zz ?_)
     refine Ch.done ?_
     ((repeat (first | refine zS ?_ | refine zA fun _=>?_)))
     refine midF (H':=[(g,wrO bb),(g5,_),(g4,_),(g3,_)]) (H2:=[(gb,_)]) List.perm_append_comm (fun fz2 hl2 hf2=>⟨bb,YM [Yi kNot,y0],_,_,_,rfl,hl2,rfl,YiG (Yas (.inl rfl)) (hf2 _ (.head _)) (hY0.mono hl2),hbb,fun h0=>?_⟩) (Zw)
     rw [hx1,hya (hba.2 ⟨(hbb.1 h0).1,(hbb.1 h0).2.1⟩)]
   ·((repeat (first | refine zSO ?_ | refine zA fun _=>?_)))
    refine Wp.cond_false Zz ?_
    refine Yu (Wp.mid (fun σ fz' H'=>∃ bq:Bool,σ=(43,.bool bq):: [(5,.pointer (some ⟨g5,0,none⟩)),(4,.pointer (some ⟨g4,0,none⟩)),(3,.pointer (some ⟨g3,0,none⟩)),(0,.pointer (some ⟨g,0,none⟩))]∧fz1=fz'∧H'=[(g,wrO ba),(g5,.cells #[.int .i64 y0.kind,.int .i64 y0.value,.int .i64 y0.line,.int .i64 y0.column,.string y0.text,.slice Ay0 ny0 by0] 64 (0,0)),(g4,.cells #[.int .i64 0,.int .i64 0,.int .i64 0,.int .i64 0,.string ⟨#[]⟩,.slice none 0 0] 64 (0,0)),(g3,.cells #[.int .i64 c.kind,.slice A1 n1 b1,.string c.when_.op,.string c.when_.name,.slice A2 n2 b2,.slice A3 n3 b3,.slice A4 n4 b4,.slice A5 n5 b5,.string c.name,.slice A6 n6 b6,.string c.value.op,.string c.value.name,.int .i64 c.value.n,.slice A7 n7 b7,.slice A8 n8 b8] 77 (0,0))]∧(bq=true↔Num5 c.kind)) ?_ ?_)
    ·((repeat (first | refine zS ?_ | refine zA fun _=>?_)))
     ((refine zG ?_;refine zC (fun k3=>?_) (fun k3=>?_)))
     ·((repeat (first | refine zS ?_ | refine zA fun _=>?_)))
      exact midN ⟨true,rfl,rfl,rfl,iff_of_true rfl (.inl k3)⟩ (Zw) (Zb)
     ·((repeat (first | refine zS ?_ | refine zA fun _=>?_)))
      ((refine zG ?_;refine zC (fun k4=>?_) (fun k4=>?_)))
      ·((repeat (first | refine zS ?_ | refine zA fun _=>?_)))
       exact midN ⟨true,rfl,rfl,rfl,iff_of_true rfl (.inr (.inl k4))⟩ (Zw) (Zb)
      ·((repeat (first | refine zS ?_ | refine zA fun _=>?_)))
       ((refine zG ?_;refine zC (fun k5=>?_) (fun k5=>?_)))
       ·((repeat (first | refine zS ?_ | refine zA fun _=>?_)))
        exact midN ⟨true,rfl,rfl,rfl,iff_of_true rfl (.inr (.inr k5))⟩ (Zw) (Zb)
       ·((repeat (first | refine zS ?_ | refine zA fun _=>?_)))
        exact midN ⟨false,rfl,rfl,rfl,iff_of_false (by simp) (fun h0=>h0.elim k3 (fun h0=>h0.elim k4 k5))⟩ (Zw) (Zb)
    ·rintro σ fz' H' ⟨bq,rfl,rfl,rfl,hb5⟩
     cases bq
     ·have hk0:¬Wz c:=fun h0=>h0.elim (fun h0=>h0.1.elim k1 k2) (fun h0=>by simpa using hb5.2 h0.1)
      ((repeat (first | refine zS ?_ | refine zA fun _=>?_)))
      exact midN ⟨true,y0,Ay0,ny0,by0,rfl,Le.refl _,rfl,hY0,iff_of_false (by simp) (fun h0=>hk0 h0.2.2),fun h0=>by cases h0⟩ (Zw) (Zb)
     ·have hn5:=hb5.1 rfl
      have hk0:Wz c↔EVal c.value:=⟨fun h0=>h0.elim (fun h0=>(h0.1.elim k1 k2).elim) (fun h0=>h0.2),fun h0=>.inr ⟨hn5,h0⟩⟩
      have hx1:chX1 c=YM [Yi (Yfk c.kind),Wy c.name c.args,Xi c.value]:=by unfold chX1;rw [if_neg k2,if_pos hn5]
      have hw:([.string Yew,.string YbD,.string YbE]:List Value)[(c.kind - 3).toNat]?=some (.string (Yfk c.kind)):=by
       rcases hn5 with h0 | h0 | h0<;>rw [h0]<;>rfl
      have hsw:Short (Yfk c.kind):=by
       refine Yas ?_
       unfold Yfk
       split
       ·exact .inr (.inl rfl)
       ·split
        ·exact .inr (.inr (.inl rfl))
        ·exact .inr (.inr (.inr (.inl rfl)))
      have hn6:3≤c.kind∧c.kind≤5:=by unfold Num5 at hn5;omega
      refine Wp.cond_true Zz ?_
      ((repeat (first | refine zS ?_ | refine zA fun _=>?_)))
      (((refine zG ?_));refine YF (vs:=[.string c.value.op,.string c.value.name,.int .i64 c.value.n,.slice A7 n7 b7,.slice A8 n8 b8]) T 3 Zz Zz Zz Zz Zz Zz ?_)
      (refine Yd Zz (Yz [] _ Zz Zz Zz (eWrite_q (hM (Le.refl _)) hs.2.2.2) (fun v8 fz2 H2 hle2 hR2=>?_)))
      obtain ⟨rfl,u,ye,rfl,⟨cse,rfl,hre⟩,hye⟩:=hR2
      obtain ⟨vke,rfl,hE⟩:=Yx hre
      obtain ⟨Ae,ne,be,rfl,_⟩:=hE.kids
      ((repeat (first | refine zSO ?_ | refine zA fun _=>?_)))
      rename_i g6
      refine Yu (Wp.mid (fun σ fz' H'=>∃ bb:Bool,σ=(6,.pointer (some ⟨g6,0,none⟩)):: [(5,.pointer (some ⟨g5,0,none⟩)),(4,.pointer (some ⟨g4,0,none⟩)),(3,.pointer (some ⟨g3,0,none⟩)),(0,.pointer (some ⟨g,0,none⟩))]∧fz2=fz'∧H'=[(g,wrO bb),(g6,.cells #[.int .i64 ye.kind,.int .i64 ye.value,.int .i64 ye.line,.int .i64 ye.column,.string ye.text,.slice Ae ne be] 64 (0,0)),(g5,.cells #[.int .i64 y0.kind,.int .i64 y0.value,.int .i64 y0.line,.int .i64 y0.column,.string y0.text,.slice Ay0 ny0 by0] 64 (0,0)),(g4,.cells #[.int .i64 0,.int .i64 0,.int .i64 0,.int .i64 0,.string ⟨#[]⟩,.slice none 0 0] 64 (0,0)),(g3,.cells #[.int .i64 c.kind,.slice A1 n1 b1,.string c.when_.op,.string c.when_.name,.slice A2 n2 b2,.slice A3 n3 b3,.slice A4 n4 b4,.slice A5 n5 b5,.string c.name,.slice A6 n6 b6,.string c.value.op,.string c.value.name,.int .i64 c.value.n,.slice A7 n7 b7,.slice A8 n8 b8] 77 (0,0))]∧(bb=false↔b=false∧Yd1 c.name c.args∧Wz c)) ?_ ?_)
      ·by_cases hP:EVal c.value
       ·rw [if_pos hP]
        cases ba
        ·((repeat (first | refine zS ?_ | refine zA fun _=>?_)))
         exact midP (List.Perm.swap _ _ _) ⟨false,rfl,rfl,rfl,iff_of_true rfl ⟨(hba.1 rfl).1,(hba.1 rfl).2,hk0.2 hP⟩⟩ (Zw) (Zb)
        ·((repeat (first | refine zS ?_ | refine zA fun _=>?_)))
         exact midP (List.Perm.swap _ _ _) ⟨true,rfl,rfl,rfl,iff_of_false (by simp) (fun h0=>by simpa using hba.2 ⟨h0.1,h0.2.1⟩)⟩ (Zw) (Zb)
       ·rw [if_neg hP]
        cases ba
        ·((repeat (first | refine zS ?_ | refine zA fun _=>?_)))
         exact midP (List.Perm.swap _ _ _) ⟨true,rfl,rfl,rfl,iff_of_false (by simp) (fun h0=>hP (hk0.1 h0.2.2))⟩ (Zw) (Zb)
        ·((repeat (first | refine zS ?_ | refine zA fun _=>?_)))
         exact midP (List.Perm.swap _ _ _) ⟨true,rfl,rfl,rfl,iff_of_false (by simp) (fun h0=>by simpa using hba.2 ⟨h0.1,h0.2.1⟩)⟩ (Zw) (Zb)
      ·rintro σ fz' H' ⟨bb,rfl,rfl,rfl,hbb⟩
       (refine Wp.drawK (Hq:=[_,_,_,_,_]) T.mixed Zj Zj (Zb) ?_)
       (refine Ya ?_)
       ((repeat (first | refine zS ?_ | refine zA fun _=>?_)))
       (refine Ya ?_)
       (refine Ya ?_)
       (refine Ya ?_)
       ((repeat (first | refine zS ?_ | refine zA fun _=>?_)))
       (refine Ya ?_)
       (refine Ya ?_)
       (refine Ya ?_)
       (refine YN ⟨by kernel_rfl,?_⟩)
       refine Yq (Ye T (cs:=[.string Yew,.string YbD,.string YbE]) Zz Zz Zz Zz Zz Zz Zz Zz (fun gs=>⟨(⟨Le.refl _,Zx⟩),?_⟩))
       refine Ch.qk (⟨Le.refl _,Zx⟩) (Ybo T Zz Zz Zz Zz Zz Zz Zi Zi ?_)
       refine Ch.qk (⟨Le.refl _,Zx⟩) (Yo T 0 Zz Zz Zz Zz hw ?_)
       refine Ch.qk (⟨Le.refl _,Zx⟩) (Yl Zz Zz (XY (s:=Yfk c.kind)) ?_)
       refine Yq (Ye T (cs:=Yv (Yfk c.kind)++ [.int .i64 y0.kind,.int .i64 y0.value,.int .i64 y0.line,.int .i64 y0.column,.string y0.text,.slice Ay0 ny0 by0]++ [.int .i64 ye.kind,.int .i64 ye.value,.int .i64 ye.line,.int .i64 ye.column,.string ye.text,.slice Ae ne be]) Zz Zz Zz Zz Zz Zz Zz Zz (fun gb=>⟨(⟨Le.refl _,Zx⟩),?_⟩))
       refine Ch.qk (⟨Le.refl _,Zx⟩) (Yl Zz Zz YW ?_)
       unfold sxV
       refine Ch.hard0 Zj (XA T (pre:=[_,_,_,_]) Zz Zz Zz rfl Zz Zz Zz ?_)
       refine Ch.done ?_
       ((repeat (first | refine zS ?_ | refine zA fun _=>?_)))
       refine midF (H':=[(g,wrO bb),(g5,_),(g4,_),(g3,_)]) (H2:=[(gb,_),(gs,_),(g6,_)]) (XP [2,4,5,6,0,1,3] Zz Zz) (fun fz3 hl3 hf3=>⟨bb,YM [Yi (Yfk c.kind),y0,ye],_,_,_,rfl,hle2.trans hl3,rfl,YbW hsw (hf3 _ (.head _)) (hY0.mono (hle2.trans hl3)) (hE.mono hl3),hbb,fun h0=>?_⟩) (Zw)
       rw [hx1,hya (hba.2 ⟨(hbb.1 h0).1,(hbb.1 h0).2.1⟩),hye (hk0.1 (hbb.1 h0).2.2)]
 ·rintro σ fz9 H' ⟨bb,y,Ay,ny,by_,rfl,hle2,rfl,hY,hbb,hyb⟩
  refine Yu (Wp.mid (fun σ fz' H'=>∃ (bb:Bool) (y:Sexpr) (Ay:Option Addr) (ny by_:Nat),σ=[(5,.pointer (some ⟨g5,0,none⟩)),(4,.pointer (some ⟨g4,0,none⟩)),(3,.pointer (some ⟨g3,0,none⟩)),(0,.pointer (some ⟨g,0,none⟩))]∧Le fz9 fz'∧H'=[(g,wrO bb),(g5,.cells #[.int .i64 y.kind,.int .i64 y.value,.int .i64 y.line,.int .i64 y.column,.string y.text,.slice Ay ny by_] 64 (0,0)),(g4,.cells #[.int .i64 0,.int .i64 0,.int .i64 0,.int .i64 0,.string ⟨#[]⟩,.slice none 0 0] 64 (0,0)),(g3,.cells #[.int .i64 c.kind,.slice A1 n1 b1,.string c.when_.op,.string c.when_.name,.slice A2 n2 b2,.slice A3 n3 b3,.slice A4 n4 b4,.slice A5 n5 b5,.string c.name,.slice A6 n6 b6,.string c.value.op,.string c.value.name,.int .i64 c.value.n,.slice A7 n7 b7,.slice A8 n8 b8] 77 (0,0))]∧Y4 fz' y (.slice Ay ny by_)∧(bb=false↔b=false∧Yd1 c.name c.args∧Wz c∧WhenOk c)∧(bb=false→y=chX2 c)) ?_ ?_)
  ·refine Yu ?_
   (refine Wp.drawK (Hq:=[(g,_),(g5,_),(g4,_),(g3,_)]) T.mixed Zj Zj (Zb) ?_)
   ((repeat (first | refine zS ?_ | refine zA fun _=>?_)))
   (((refine zG ?_));refine YF (vs:=[.string c.when_.op,.string c.when_.name,.slice A2 n2 b2,.slice A3 n3 b3,.slice A4 n4 b4,.slice A5 n5 b5]) T 3 Zz Zz Zz Zz Zz Zz ?_)
   (((refine zG ?_));refine Yl Zz Zz YbQ ?_)
   unfold Ybf
   (((refine zG ?_));refine YO Zz Zz (YdK (b:=XV) ((h.when_.mono hle1).mono hle2) YcR) (fun f1=>?_) (fun f1=>?_))
   ·have hw:=of_decide_eq_true f1
    ((repeat (first | refine zS ?_ | refine zA fun _=>?_)))
    refine YN ⟨by kernel_rfl,Ch.done ?_⟩
    ((repeat (first | refine zS ?_ | refine zA fun _=>?_)))
    exact midN ⟨bb,y,Ay,ny,by_,rfl,Le.refl _,rfl,hY,by rw [hbb];exact ⟨fun h0=>⟨h0.1,h0.2.1,h0.2.2,.inl hw⟩,fun h0=>⟨h0.1,h0.2.1,h0.2.2.1⟩⟩,fun h0=>by rw [chX2,if_pos hw];exact hyb h0⟩ (Zw) (Zb)
   ·have hw:=of_decide_eq_false f1
    ((repeat (first | refine zS ?_ | refine zA fun _=>?_)))
    refine YN ⟨by kernel_rfl,Ch.done ?_⟩
    ((repeat (first | refine zS ?_ | refine zA fun _=>?_)))
    (refine Wp.drawK (Hq:=[(g5,_),(g4,_),(g3,_)]) T.mixed Zj Zj (Zb) ?_)
    (((refine zG ?_));refine Yl Zz Zz (XY (s:=Yii)) ?_)
    ((repeat (first | refine zS ?_ | refine zA fun _=>?_)))
    (((refine zG ?_));refine YF (vs:=[.string c.when_.op,.string c.when_.name,.slice A2 n2 b2,.slice A3 n3 b3,.slice A4 n4 b4,.slice A5 n5 b5]) T 2 Zz Zz Zz Zz Zz Zz ?_)
    (refine Ya ?_)
    ((repeat (first | refine zS ?_ | refine zA fun _=>?_)))
    (refine Ya ?_)
    (refine Ya ?_)
    (refine Ya ?_)
    (refine YN ⟨by kernel_rfl,?_⟩)
    refine Yq (Yz [_] _ Zz Zz Zz (Yac ((h.when_.mono hle1).mono hle2) hs.2.2.1) (fun v6 fz6 H6 hle6 hR6=>?_))
    obtain ⟨_,b9,y6,rfl,⟨cs6,rfl,hr6⟩,hb6,hy6⟩:=hR6
    obtain ⟨vk6,rfl,hX6⟩:=Yx hr6
    obtain ⟨Ae,ne,be,rfl,_⟩:=hX6.kids
    refine ⟨(⟨hle6,Zx⟩),?_⟩
    refine Yq (Ye T (cs:=Yv Yii++ [.int .i64 y6.kind,.int .i64 y6.value,.int .i64 y6.line,.int .i64 y6.column,.string y6.text,.slice Ae ne be]++ [.int .i64 y.kind,.int .i64 y.value,.int .i64 y.line,.int .i64 y.column,.string y.text,.slice Ay ny by_]) Zz Zz Zz Zz Zz Zz Zz Zz (fun gb=>⟨(⟨hle6,Zx⟩),?_⟩))
    refine Ch.qk (⟨hle6,Zx⟩) (Yl Zz Zz YW ?_)
    unfold sxV
    refine Ch.hard0 Zj (Xr T Zz Zz Zz Zz Zz Zz ?_)
    refine Ch.done ?_
    ((repeat (first | refine zS ?_ | refine zA fun _=>?_)))
    refine midF (H':=[(g,wrO b9),(g5,_),(g4,_),(g3,_)]) (H2:=[(gb,_)]) List.perm_append_comm (fun fz3 hl3 hf3=>⟨b9,YM [Yi Yii,y6,y],_,_,_,rfl,hle6.trans hl3,rfl,YbW (Yas (.inr (.inr (.inr (.inr (.inl rfl)))))) (hf3 _ (.head _)) (hX6.mono hl3) ((hY.mono hle6).mono hl3),?_,fun h0=>?_⟩) (Zw)
    ·rw [hb6,hbb]
     exact ⟨fun h0=>⟨h0.1.1,h0.1.2.1,h0.1.2.2,.inr h0.2⟩,fun h0=>⟨⟨h0.1,h0.2.1,h0.2.2.1⟩,h0.2.2.2.resolve_left hw⟩⟩
    ·rw [chX2,if_neg hw,hy6 h0,hyb (hb6.1 h0).1]
  ·rintro σ fz7 H' ⟨bb,y,Ay,ny,by_,rfl,hle7,rfl,hY,hbb,hyb⟩
   have hip:=((ip.mono hle1).mono hle2).mono hle7
   refine Yu (Wp.mid (fun σ fz' H'=>∃ (bb:Bool) (y:Sexpr) (Ay:Option Addr) (ny by_:Nat),σ=[(5,.pointer (some ⟨g5,0,none⟩)),(4,.pointer (some ⟨g4,0,none⟩)),(3,.pointer (some ⟨g3,0,none⟩)),(0,.pointer (some ⟨g,0,none⟩))]∧Le fz7 fz'∧H'=[(g,wrO bb),(g5,.cells #[.int .i64 y.kind,.int .i64 y.value,.int .i64 y.line,.int .i64 y.column,.string y.text,.slice Ay ny by_] 64 (0,0)),(g4,.cells #[.int .i64 0,.int .i64 0,.int .i64 0,.int .i64 0,.string ⟨#[]⟩,.slice none 0 0] 64 (0,0)),(g3,.cells #[.int .i64 c.kind,.slice A1 n1 b1,.string c.when_.op,.string c.when_.name,.slice A2 n2 b2,.slice A3 n3 b3,.slice A4 n4 b4,.slice A5 n5 b5,.string c.name,.slice A6 n6 b6,.string c.value.op,.string c.value.name,.int .i64 c.value.n,.slice A7 n7 b7,.slice A8 n8 b8] 77 (0,0))]∧Y4 fz' y (.slice Ay ny by_)∧(bb=false↔b=false∧ChOk c)∧(bb=false→y=chX c)) ?_ ?_)
   ·((repeat (first | refine zS ?_ | refine zA fun _=>?_)))
    ((refine zG ?_;refine zC (fun p1=>?_) (fun p1=>?_)))
    ·have hp0:=(Wl ip.len).1 p1
     ((repeat (first | refine zS ?_ | refine zA fun _=>?_)))
     (refine Wp.drawK (Hq:=[(g5,_),(g4,_),(g3,_)]) T.mixed Zj Zj (Zb) ?_)
     (((refine zG ?_));refine Yl Zz Zz (XY (s:=Wo)) ?_)
     ((repeat (first | refine zS ?_ | refine zA fun _=>?_)))
     (refine Ya ?_)
     (refine Ya ?_)
     ((repeat (first | refine zS ?_ | refine zA fun _=>?_)))
     (refine Ya ?_)
     (refine Ya ?_)
     (refine Ya ?_)
     (refine YN ⟨by kernel_rfl,?_⟩)
     refine Yq (Yz [_] _ Zz Zz Zz (X6 (vars:=true) hip (by rw [← ip.len];exact hs.1)) (fun v6 fz6 H6 hle6 hR6=>?_))
     obtain ⟨_,⟨Ae,ce,rfl,hsl6⟩,b9,rfl,hb6⟩:=hR6
     refine ⟨(⟨hle6,Zx⟩),?_⟩
     refine Ch.qk (⟨hle6,Zx⟩) (Yl Zz Zz YW ?_)
     unfold sxV
     refine Yq (Ye T (cs:=Yv Wo++ [.int .i64 3,.int .i64 0,.int .i64 0,.int .i64 0,.string ⟨#[]⟩,.slice Ae (3*n1) ce]++ [.int .i64 y.kind,.int .i64 y.value,.int .i64 y.line,.int .i64 y.column,.string y.text,.slice Ay ny by_]) Zz Zz Zz Zz Zz Zz Zz Zz (fun gb=>⟨(⟨hle6,Zx⟩),?_⟩))
     refine Ch.qk (⟨hle6,Zx⟩) (Yl Zz Zz YW ?_)
     unfold sxV
     refine Ch.hard0 Zj (Xr T Zz Zz Zz Zz Zz Zz ?_)
     refine Ch.done ?_
     ((repeat (first | refine zS ?_ | refine zA fun _=>?_)))
     refine midF (H':=[(g,wrO b9),(g5,_),(g4,_),(g3,_)]) (H2:=[(gb,_)]) List.perm_append_comm (fun fz3 hl3 hf3=>⟨b9,YM [Yi Wo,YM ((c.params.flatMap Wh).map Yi),y],_,_,_,rfl,hle6.trans hl3,rfl,YbW (X:=YM ((c.params.flatMap Wh).map Yi)) (Yas (.inr (.inr (.inr (.inr (.inr rfl)))))) (hf3 _ (.head _)) ⟨Ydb,Xf,Xf,Xf,YP,(hsl6.mono hl3).is⟩ ((hY.mono hle6).mono hl3),?_,fun h0=>?_⟩) (Zw)
     ·rw [hb6,hbb]
      exact ⟨fun h0=>⟨h0.1.1,h0.1.2.1,h0.1.2.2.1,h0.1.2.2.2,h0.2⟩,fun h0=>⟨⟨h0.1,h0.2.1,h0.2.2.1,h0.2.2.2.1⟩,h0.2.2.2.2⟩⟩
     ·rw [chX,if_neg hp0,hyb (hb6.1 h0).1]
    ·have hp0:c.params=[]:=Classical.byContradiction fun h0=>p1 ((Wl ip.len).2 h0)
     ((repeat (first | refine zS ?_ | refine zA fun _=>?_)))
     exact midN ⟨bb,y,Ay,ny,by_,rfl,Le.refl _,rfl,hY,by rw [hbb];exact ⟨fun h0=>⟨h0.1,h0.2.1,h0.2.2.1,h0.2.2.2,by rw [hp0];simp⟩,fun h0=>⟨h0.1,h0.2.1,h0.2.2.1,h0.2.2.2.1⟩⟩,fun h0=>by rw [chX,if_pos hp0];exact hyb h0⟩ (Zw) (Zb)
   ·rintro σ fz8 H' ⟨bb,y,Ay,ny,by_,rfl,hle8,rfl,hY,hbb,hyb⟩
    ((repeat (first | refine zS ?_ | refine zA fun _=>?_)))
    refine X7 T (i:=2) (H':=[(g,wrO bb)]) rfl Zz Zz Zz Zz Zz (Zb) ?_
    exact ⟨hle1.trans (hle2.trans (hle7.trans hle8)),bb,y,rfl,⟨_,rfl,Yf hY⟩,hbb,hyb⟩
end Go.Proofs.YtbhlgkibgajajaaGreatDoor
set_option maxRecDepth 20000
namespace Go.Proofs.YtbhlgkibgajajaaGreatDoor
open Go.Lx Go.RowKit
attribute [local instance 10] Classical.propDecidable
noncomputable def effX (l:List Change):Sexpr:=if l=[] then YM [] else YM (Yi kAnd::l.map chX)
def Ycj (l:List Change):Prop:=∀ c∈l,ChOk c
def YiX (l:List Change):Prop:=l.length≤1000000000∧∀ c∈l,ChSm c
theorem YhF:Short kAnd:=by unfold Short;decide
set_option maxHeartbeats 2000000 in
theorem YcO {fz:FZ} {g:Nat} {b:Bool} {A:Option Addr} {n c:Nat} {l:List Change} (h1:Sl changeL fz A n c l) (hs:YiX l):
 GFn Tryz.prog 71 [.pointer (some ⟨g,0,none⟩),.slice A n c] fz [(g,wrO b)] (MkR g b (Ycj l) (effX l) fz):=by
 have l1:=h1.len
 have hn:=hs.1
 (refine GFn.of_wp Tryz.func71 rfl Tryz.ntmps71 rfl rfl (fun w0=>?_))
 ((repeat (first | refine zS ?_ | refine zA fun _=>?_)))
 rename_i g4
 ((refine zG ?_;refine zC (fun c0=>?_) (fun c0=>?_)))
 ·have hl:=(len0 l1).1 c0
  ((repeat (first | refine zS ?_ | refine zA fun _=>?_)))
  (((refine zG ?_));refine Yl Zz Zz (YW (A:=none) (n:=0) (c:=0)) ?_)
  unfold sxV
  ((repeat (first | refine zS ?_ | refine zA fun _=>?_)))
  refine X7 T (i:=0) (H':=[(g,wrO b)]) rfl Zz Zz Zz Zz Zz (Zb) ?_
  exact ⟨Le.refl _,b,_,rfl,Wb (Sl.nil Zi),by rw [hl];unfold Ycj;simp,fun _=>by rw [effX,if_pos hl]⟩
 ·have hl:l≠ []:=fun h0=>c0 ((len0 l1).2 h0)
  ((repeat (first | refine zS ?_ | refine zA fun _=>?_)))
  (((refine zG ?_));refine Yl Zz Zz (XY (s:=kAnd)) ?_)
  unfold sxV
  refine Yd Zz (Ye T (cs:=Yv kAnd) Zz Zz Zz Zz Zz Zz Zz Zz (fun gb=>?_))
  (((refine zG ?_));refine Yl Zz Zz YW ?_)
  unfold sxV
  ((repeat (first | refine zS ?_ | refine zA fun _=>?_)))
  rename_i g5
  refine Wp.perm (XP [3,0,2,1] Zz Zz) ?_
  refine YI (fun q σ fz' H'=>∃ (k:Nat) (v:Value) (Hs:HP) (b':Bool) (ys:List Sexpr),k≤n∧q=n - k∧σ=[(17,.int .i64 k),(16,.int .i64 n),(15,.slice A n c),(5,.pointer (some ⟨g5,0,none⟩)),(4,.pointer (some ⟨g4,0,none⟩)),(0,.pointer (some ⟨g,0,none⟩))]∧Le fz fz'∧
   H'=(g,wrO b')::(g5,.cells #[.int .i64 3,.int .i64 0,.int .i64 0,.int .i64 0,.string ⟨#[]⟩,v] 64 (0,0))::(g4,.cells #[.int .i64 0,.int .i64 0,.int .i64 0,.int .i64 0,.string ⟨#[]⟩,.slice none 0 0] 64 (0,0))::Hs∧Grow YB 64 fz' v (k+1) Hs (Yi kAnd::ys)∧(b'=false↔b=false∧∀ i,i<k→∀ a,l[i]?=some a→ChOk a)∧(b'=false→ys=(l.take k).map chX))
   ⟨0,_,[_],b,[],Nat.zero_le _,rfl,rfl,Le.refl _,rfl,Grow.block (ys:=[(Yi kAnd,Yv kAnd)]) rfl rfl (by simpa using Ys YhF) rfl Zh,⟨fun h=>⟨h,fun i hi=>absurd hi Zi⟩,fun h=>h.1⟩,by simp⟩ (Zw) (Zb) ?_
  rintro q σ fz' H' ⟨k,v,Hs,b',ys,hk,rfl,rfl,hle,rfl,hG,hb,hys⟩
  obtain ⟨Av,cv,rfl,_,_⟩:=hG.form
  have h2:=h1.mono hle
  ((repeat (first | refine zS ?_ | refine zA fun _=>?_)))
  ((refine zG ?_;refine zC (fun c1=>?_) (fun c1=>?_)))
  ·obtain ⟨x,hx⟩:=YH (l:=l) (k:=k) Zi
   ((repeat (first | refine zS ?_ | refine zA fun _=>?_)))
   (((refine zG ?_));refine YG T k Zz Zz Zz Zz Zz Zz h2 (by first | rfl | omega) hx (fun p hp=>?_))
   (((refine zG ?_));refine YA T Zz Zz Zz hp Zz ?_)
   intro cs hcs
   obtain ⟨v1,v2,v3,v4,v5,v6,v7,v8,rfl,hRx⟩:=Ws hcs
   obtain ⟨A1,n1,b1,rfl,_⟩:=hRx.params
   obtain ⟨A2,n2,b2,rfl,_⟩:=hRx.when_.args
   obtain ⟨A3,n3,b3,rfl,_⟩:=hRx.when_.params
   obtain ⟨A4,n4,b4,rfl,_⟩:=hRx.when_.exprs
   obtain ⟨A5,n5,b5,rfl,_⟩:=hRx.when_.kids
   obtain ⟨A6,n6,b6,rfl,_⟩:=hRx.args
   obtain ⟨A7,n7,b7,rfl,_⟩:=hRx.value.args
   obtain ⟨A8,n8,b8,rfl,_⟩:=hRx.value.kids
   ((repeat (first | refine zS ?_ | refine zA fun _=>?_)))
   rename_i g7
   (refine Wp.drawK (Hq:=[(g7,_),(g5,_),(g4,_)]) T.mixed Zj Zj (Zb) ?_)
   ((repeat (first | refine zS ?_ | refine zA fun _=>?_)))
   (refine Ya ?_)
   (refine Ya ?_)
   (refine Ya ?_)
   ((repeat (first | refine zS ?_ | refine zA fun _=>?_)))
   (refine Ya ?_)
   (refine YN ⟨by kernel_rfl,?_⟩)
   refine Yq (Does.perm (List.Perm.swap _ _ _) (Yz [_] _ Zz Zz Zz (Yht hRx (hs.2 x (List.mem_of_getElem? hx))) (fun v9 fz6 H6 hle6 hR6=>?_)))
   obtain ⟨_,b9,y6,rfl,⟨cs6,rfl,hr6⟩,hb6,hy6⟩:=hR6
   obtain ⟨vk6,rfl,hX6⟩:=Yx hr6
   refine ⟨(⟨hle6,Zx⟩),?_⟩
   refine Yq (Ye T (cs:=[.int .i64 y6.kind,.int .i64 y6.value,.int .i64 y6.line,.int .i64 y6.column,.string y6.text,vk6]) Zz Zz Zz Zz Zz Zz Zz Zz (fun gb=>⟨(⟨hle6,Zx⟩),?_⟩))
   refine Yq (Xs T (Hr:=[_,_,_,_,_]) Zz Zz Zz Zz Zz Zz Zz Zz (List.Perm.refl _) (hG.mono hle6) Yn (.head _) (Yf hX6) (by show _*72≤_;omega) Zi (fun v' Hs' hO'=>⟨(⟨hle6,Zx⟩),?_⟩))
   obtain ⟨Av',cv',rfl,_,_⟩:=hO'.form
   refine Ch.hard0 Zj (YaC T Zz Zz Zz Zz Zz Zz ?_)
   refine Ch.done ?_
   ((repeat (first | refine zS ?_ | refine zA fun _=>?_)))
   refine YY ⟨k+1,_,Hs',b9,ys++ [y6],by omega,rfl,rfl,hle.trans hle6,rfl,hO',?_,fun h0=>?_⟩ Zi (Zw) (Zb)
   ·rw [hb6,hb]
    exact ⟨fun h0=>⟨h0.1.1,Xw h0.1.2 hx h0.2⟩,fun h0=>⟨⟨h0.1,fun i hi=>h0.2 i Zi⟩,h0.2 k Zi x hx⟩⟩
   ·rw [hys (hb6.1 h0).1,hy6 h0,List.take_add_one,hx];simp
  ·have hk1:k=n:=by omega
   subst hk1
   ((repeat (first | refine zS ?_ | refine zA fun _=>?_)))
   refine YbB T (i:=2) (H':=[(g,wrO b')]) rfl Zz Zz Zz Zz Zz (List.Perm.refl _) (fun fz3 hle3 hf3=>?_)
   obtain ⟨A',c',he,hsl⟩:=hG.sl hle3 (fun p hp=>hf3 p (by simp [hp])) Zi
   injection he with he1 he2 he3
   subst he1 he3
   refine ⟨hle.trans hle3,b',_,rfl,Wb hsl,by rw [hb];exact ⟨fun h=>⟨h.1,Yan h.2 Zi⟩,fun h=>⟨h.1,fun i _ a ha=>h.2 a (List.mem_of_getElem? ha)⟩⟩,fun h0=>?_⟩
   rw [effX,if_neg hl,hys h0,List.take_of_length_le Zi]
end Go.Proofs.YtbhlgkibgajajaaGreatDoor
set_option maxRecDepth 20000
namespace Go.Proofs.YtbhlgkibgajajaaGreatDoor
open Go.Lx Go.RowKit
attribute [local instance 10] Classical.propDecidable
def lsO (v:Value):Obj:=.cells #[.int .i64 3,.int .i64 0,.int .i64 0,.int .i64 0,.string ⟨#[]⟩,v] 64 (0,0)
def Yab:List Value:=[.int .i64 0,.int .i64 0,.int .i64 0,.int .i64 0,.string ⟨#[]⟩,.slice none 0 0]
theorem XD {fz:FZ}:YB.rep fz YeS Yab:=Yf (x:=YeS) ⟨Xf,Xf,Xf,Xf,YP,IsSl.nil⟩
theorem set2 {α:Type} {l:List α} {n:Nat} {z w y:α} (hn:l.length=n):((l++ [z,z]).set n w).set (n+1) y=l++ [w,y]:=by
 subst hn
 rw [List.set_append_right _ _ (Nat.le_refl _),Nat.sub_self,List.set_append_right _ _ Zi,Nat.add_sub_cancel_left]
 rfl
theorem set1 {α:Type} {l:List α} {n:Nat} {z w:α} (hn:l.length=n):(l++ [z]).set n w=l++ [w]:=by
 subst hn
 rw [List.set_append_right _ _ (Nat.le_refl _),Nat.sub_self]
 rfl
def PartR (gx n:Nat) (l:List Sexpr) (fz:FZ) (v:Value) (fz':FZ) (H':HP):Prop:=v=.tuple #[]∧Le fz fz'∧∃ (v':Value) (n':Nat) (Hs':HP),H'=(gx,lsO v')::Hs'∧Grow YB 64 fz' v' n' Hs' l∧n'≤n+2
set_option maxHeartbeats 2000000 in
theorem YaS {fz:FZ} {gx n:Nat} {v vy:Value} {Hs:HP} {l:List Sexpr} {mi:Bool} {kw:ByteArray} {y:Sexpr} (hG:Grow YB 64 fz v n Hs l) (hY:Y4 fz y vy) (hkw:Short kw) (hn:n≤100000000000):
 GFn Tryz.prog 67 [.pointer (some ⟨gx,0,none⟩),.bool mi,.string kw,.agg #[.int .i64 y.kind,.int .i64 y.value,.int .i64 y.line,.int .i64 y.column,.string y.text,vy]] fz ((gx,lsO v)::Hs) (PartR gx n (l++if mi=true then [] else [Yi kw,y]) fz):=by
 obtain ⟨Ay,ny,cy,rfl,_⟩:=hY.kids
 have hlen:=hG.len
 obtain ⟨Av,cv,rfl,_,_⟩:=hG.form
 unfold lsO
 (refine GFn.of_wp Tryz.func67 rfl Tryz.ntmps67 rfl rfl (fun w0=>?_))
 cases mi
 ·(refine Yu (Yy (Yd Zz (XB _ Zz Zz (fun g7=>?_)))))
  ((repeat (first | refine zS ?_ | refine zA fun _=>?_)))
  (refine Wp.drawP [12,15,16] (Hq:=[(g7,_),(gx,_)]) T.mixed Zj Zj (Zb) ?_)
  ((repeat (first | refine zS ?_ | refine zA fun _=>?_)))
  (((refine zG ?_));refine Yl Zz Zz (XY (s:=kw)) ?_)
  ((repeat (first | refine zS ?_ | refine zA fun _=>?_)))
  (refine Yp ?_)
  (refine Yp ?_)
  (refine Yp ?_)
  (refine Yp ?_)
  (refine PK.p Zz (fun fz'=>by first | exact WZ Zz rfl | exact X9 Zz rfl | exact Y7 T Zz Zz Zz Zz Zz Zz rfl | exact Yb1 Zz Zz (Xk Zi) rfl | exact Y6 T Zz Zz Zz rfl) ?_)
  (refine Yp ?_)
  (refine Yp ?_)
  (refine PK.p Zz (fun fz'=>by first | exact WZ Zz rfl | exact X9 Zz rfl | exact Y7 T Zz Zz Zz Zz Zz Zz rfl | exact Yb1 Zz Zz (Xk Zi) rfl | exact Y6 T Zz Zz Zz rfl) ?_)
  (refine PK.p Zz (fun fz'=>by first | exact WZ Zz rfl | exact X9 Zz rfl | exact Y7 T Zz Zz Zz Zz Zz Zz rfl | exact Yb1 Zz Zz (Xk Zi) rfl | exact Y6 T Zz Zz Zz rfl) ?_)
  (refine Yp ?_)
  (refine PK.done ⟨by kernel_rfl,?_⟩)
  (refine Yg Zz Zz ?_)
  refine Yh (Ye T (cs:=Yab++Yab) Zz Zz Zz Zz Zz Zz Zz Zz (fun gb=>⟨(⟨Le.refl _,Zx⟩),?_⟩))
  (refine Yg Zz Zz ?_)
  refine Yh (Yig T (Hr:=[_,_,_]) (ys:=[(YeS,Yab),(YeS,Yab)]) (l2:=[YeS,YeS]) (m:=2) Zz Zz Zz Zz Zz Zz Zz Zz (List.Perm.refl _) hG Yn (.head _) rfl rfl (by intro p hp;simp at hp;subst hp;exact XD) rfl (by show _*72≤_;omega) Zi (fun v' Hs' hO'=>⟨(⟨Le.refl _,Zx⟩),?_⟩))
  obtain ⟨gk,cap,cur,rfl,rfl,hB⟩:=hO'.b Zi
  (refine YQ Zz Zz Zz ?_ ?_)
  ·refine PoS.hard Zj (DoesQ.does (YD T Zz Zz Zz Zz Zz rfl Zi Zi ?_))
   (refine YQ Zz Zz Zz ?_ ?_)
   ·refine PoS.hard0 Zj (Yw T (pre:=[_,_,_]) (L:=YB) (j:=n) Zz Zz Zz rfl rfl Zz Yn (Ys hkw) hB Zi (fun cur1 hB1=>?_))
    (refine YQ Zz Zz Zz ?_ ?_)
    ·refine PoS.hard Zj (DoesQ.does (YD T Zz Zz Zz Zz Zz rfl Zi Zi ?_))
     (refine YQ Zz Zz Zz ?_ ?_)
     ·refine PoS.hard0 Zj (Yw T (pre:=[_,_,_]) (L:=YB) (j:=n+1) Zz Zz Zz rfl rfl Zz Yn (Yf hY) hB1 Zi (fun cur2 hB2=>?_))
      (refine Yg Zz Zz ?_)
      refine PoS.hard0 Zj (Xr T Zz Zz Zz Zz Zz Zz ?_)
      refine Po.done ?_
      ((repeat (first | refine zS ?_ | refine zA fun _=>?_)))
      exact Yau rfl (H':=[(gx,lsO _),(gk,.cells (List.toArray cur2) 64 (0,0))]) (Zb) ⟨rfl,Le.refl _,_,_,[_],rfl,hB2.grow.of (by rw [set2 hlen];rfl) rfl,by omega⟩
     ·refine PoS.hard0 Zj (Xr T Zz Zz Zz Zz Zz Zz ?_)
      (refine Yg Zz Zz ?_)
      refine PoS.hard0 Zj (Yw T (pre:=[_,_,_]) (L:=YB) (j:=n+1) Zz Zz Zz rfl rfl Zz Yn (Yf hY) hB1 Zi (fun cur2 hB2=>?_))
      refine Po.done ?_
      ((repeat (first | refine zS ?_ | refine zA fun _=>?_)))
      exact Yau rfl (H':=[(gx,lsO _),(gk,.cells (List.toArray cur2) 64 (0,0))]) (Zb) ⟨rfl,Le.refl _,_,_,[_],rfl,hB2.grow.of (by rw [set2 hlen];rfl) rfl,by omega⟩
    ·refine PoS.hard0 Zj (Xr T Zz Zz Zz Zz Zz Zz ?_)
     (refine Yg Zz Zz ?_)
     refine PoS.hard Zj (DoesQ.does (YD T Zz Zz Zz Zz Zz rfl Zi Zi ?_))
     (refine Yg Zz Zz ?_)
     refine PoS.hard0 Zj (Yw T (pre:=[_,_,_]) (L:=YB) (j:=n+1) Zz Zz Zz rfl rfl Zz Yn (Yf hY) hB1 Zi (fun cur2 hB2=>?_))
     refine Po.done ?_
     ((repeat (first | refine zS ?_ | refine zA fun _=>?_)))
     exact Yau rfl (H':=[(gx,lsO _),(gk,.cells (List.toArray cur2) 64 (0,0))]) (Zb) ⟨rfl,Le.refl _,_,_,[_],rfl,hB2.grow.of (by rw [set2 hlen];rfl) rfl,by omega⟩
   ·refine PoS.hard0 Zj (Xr T Zz Zz Zz Zz Zz Zz ?_)
    (refine Yg Zz Zz ?_)
    refine PoS.hard0 Zj (Yw T (pre:=[_,_,_]) (L:=YB) (j:=n) Zz Zz Zz rfl rfl Zz Yn (Ys hkw) hB Zi (fun cur1 hB1=>?_))
    (refine Yg Zz Zz ?_)
    refine PoS.hard Zj (DoesQ.does (YD T Zz Zz Zz Zz Zz rfl Zi Zi ?_))
    (refine Yg Zz Zz ?_)
    refine PoS.hard0 Zj (Yw T (pre:=[_,_,_]) (L:=YB) (j:=n+1) Zz Zz Zz rfl rfl Zz Yn (Yf hY) hB1 Zi (fun cur2 hB2=>?_))
    refine Po.done ?_
    ((repeat (first | refine zS ?_ | refine zA fun _=>?_)))
    exact Yau rfl (H':=[(gx,lsO _),(gk,.cells (List.toArray cur2) 64 (0,0))]) (Zb) ⟨rfl,Le.refl _,_,_,[_],rfl,hB2.grow.of (by rw [set2 hlen];rfl) rfl,by omega⟩
  ·refine PoS.hard0 Zj (Xr T Zz Zz Zz Zz Zz Zz ?_)
   (refine Yg Zz Zz ?_)
   refine PoS.hard Zj (DoesQ.does (YD T Zz Zz Zz Zz Zz rfl Zi Zi ?_))
   (refine Yg Zz Zz ?_)
   refine PoS.hard0 Zj (Yw T (pre:=[_,_,_]) (L:=YB) (j:=n) Zz Zz Zz rfl rfl Zz Yn (Ys hkw) hB Zi (fun cur1 hB1=>?_))
   (refine Yg Zz Zz ?_)
   refine PoS.hard Zj (DoesQ.does (YD T Zz Zz Zz Zz Zz rfl Zi Zi ?_))
   (refine Yg Zz Zz ?_)
   refine PoS.hard0 Zj (Yw T (pre:=[_,_,_]) (L:=YB) (j:=n+1) Zz Zz Zz rfl rfl Zz Yn (Yf hY) hB1 Zi (fun cur2 hB2=>?_))
   refine Po.done ?_
   ((repeat (first | refine zS ?_ | refine zA fun _=>?_)))
   exact Yau rfl (H':=[(gx,lsO _),(gk,.cells (List.toArray cur2) 64 (0,0))]) (Zb) ⟨rfl,Le.refl _,_,_,[_],rfl,hB2.grow.of (by rw [set2 hlen];rfl) rfl,by omega⟩
 ·(refine Yu (Yy (Yd Zz (XB _ Zz Zz (fun g7=>?_)))))
  ((repeat (first | refine zS ?_ | refine zA fun _=>?_)))
  exact Yau rfl (H':=(gx,lsO _)::Hs) (Zb) ⟨rfl,Le.refl _,_,_,Hs,rfl,hG.of (by simp) rfl,by omega⟩
set_option maxHeartbeats 2000000 in
theorem YeA {fz:FZ} {gx n m c:Nat} {B:Option Addr} {v:Value} {Hs:HP} {l ks:List Sexpr} {kw:ByteArray} (hG:Grow YB 64 fz v n Hs l) (hK:Sl YB fz B m c ks) (hkw:Short kw) (hn:n≤100000000000) (hm:m≤100000000000):
 GFn Tryz.prog 32 [.pointer (some ⟨gx,0,none⟩),.string kw,.slice B m c] fz ((gx,lsO v)::Hs) (PartR gx n (l++if ks=[] then [] else [YM (Yi kw::ks)]) fz):=by
 have hlen:=hG.len
 obtain ⟨Av,cv,rfl,_,_⟩:=hG.form
 unfold lsO
 (refine GFn.of_wp Tryz.func32 rfl Tryz.ntmps32 rfl rfl (fun w0=>?_))
 ((repeat (first | refine zS ?_ | refine zA fun _=>?_)))
 ((refine zG ?_;refine zC (fun c0=>?_) (fun c0=>?_)))
 ·have hks:ks≠ []:=(Wl hK.len).1 c0
  ((repeat (first | refine zS ?_ | refine zA fun _=>?_)))
  (refine Wp.drawP [15,16] (Hq:=[(gx,_)]) T.mixed Zj Zj (Zb) ?_)
  ((repeat (first | refine zS ?_ | refine zA fun _=>?_)))
  (((refine zG ?_));refine Yl Zz Zz (XY (s:=kw)) ?_)
  (refine Yp ?_)
  ((repeat (first | refine zS ?_ | refine zA fun _=>?_)))
  (refine Yp ?_)
  (refine Yp ?_)
  ((repeat (first | refine zS ?_ | refine zA fun _=>?_)))
  (refine Yp ?_)
  (refine Yp ?_)
  (refine Yp ?_)
  (refine Yp ?_)
  (refine PK.p Zz (fun fz'=>by first | exact WZ Zz rfl | exact X9 Zz rfl | exact Y7 T Zz Zz Zz Zz Zz Zz rfl | exact Yb1 Zz Zz (Xk Zi) rfl | exact Y6 T Zz Zz Zz rfl) ?_)
  (refine PK.p Zz (fun fz'=>by first | exact WZ Zz rfl | exact X9 Zz rfl | exact Y7 T Zz Zz Zz Zz Zz Zz rfl | exact Yb1 Zz Zz (Xk Zi) rfl | exact Y6 T Zz Zz Zz rfl) ?_)
  (refine Yp ?_)
  (refine PK.done ⟨by kernel_rfl,?_⟩)
  (refine YQ Zz Zz Zz ?_ ?_)
  ·refine Yh (Ye T (cs:=Yv kw) Zz Zz Zz Zz Zz Zz Zz Zz (fun gb1=>⟨(⟨Le.refl _,Zx⟩),?_⟩))
   (refine YQ Zz Zz Zz ?_ ?_)
   ·refine Yh (Ybr T (n:=1) (l:=[Yi kw]) (Hr:=(gx,_)::Hs) (Hs:=[(gb1,_)]) Zz Zz Zz Zz Zz Zz Zz Zz (List.perm_append_singleton _ _).symm (Grow.block (ys:=[(Yi kw,Yv kw)]) rfl rfl (by simpa using Ys hkw) rfl Zh) Yn hK (by show _*72≤_;omega) Zi (fun v1 Hs1 hO1=>⟨(⟨Le.refl _,Zx⟩),?_⟩))
    obtain ⟨A1,c1,rfl,_,_⟩:=hO1.form
    (refine YQ Zz Zz Zz ?_ ?_)
    ·refine PoS.qk (⟨Le.refl _,Zx⟩) (Yl Zz Zz YW ?_)
     unfold sxV
     (refine Yg Zz Zz ?_)
     refine Yh (Ye T (cs:=Yab) Zz Zz Zz Zz Zz Zz Zz Zz (fun gz=>⟨(⟨Le.refl _,Zx⟩),?_⟩))
     (refine Yg Zz Zz ?_)
     refine PoS.hard Zj (Does.freezeAll (H1:=(gz,_)::(gx,_)::Hs) (H2:=Hs1) (List.Perm.refl _) (fun fz2 hl2 hf2=>Xs T (Hr:=[_,_]) Zz Zz Zz Zz Zz Zz Zz Zz (List.Perm.refl _) (hG.mono hl2) Yn (.head _) XD (by show _*72≤_;omega) Zi (fun v' Hs' hO'=>?_)))
     obtain ⟨gk,cap,cur,rfl,rfl,hB⟩:=hO'.b Zi
     obtain ⟨A2,c2,he2,hsl⟩:=hO1.sl hl2 hf2 Zi
     injection he2 with e1 e2 e3
     subst e1 e3
     have hX:Y4 fz2 (YM (Yi kw::ks)) (.slice A1 (1+m) c1):=⟨Ydb,Xf,Xf,Xf,YP,hsl.is⟩
     (refine YQ Zz Zz Zz ?_ ?_)
     ·refine PoS.hard Zj (DoesQ.does (YD T Zz Zz Zz Zz Zz rfl Zi Zi ?_))
      (refine YQ Zz Zz Zz ?_ ?_)
      ·refine PoS.hard0 Zj (Yw T (pre:=[_,_]) (L:=YB) (j:=n) Zz Zz Zz rfl rfl Zz Yn (Yf (x:=YM (Yi kw::ks)) hX) hB Zi (fun cur1 hB1=>?_))
       (refine Yg Zz Zz ?_)
       refine PoS.hard0 Zj (YU T Zz Zz Zz Zz Zz Zz ?_)
       refine Po.done ?_
       ((repeat (first | refine zS ?_ | refine zA fun _=>?_)))
       exact Yau rfl (H':=[(gx,lsO _),(gk,.cells (List.toArray cur1) 64 (0,0))]) (Zb) ⟨rfl,hl2,_,_,[_],rfl,hB1.grow.of (by rw [set1 hlen,if_neg hks]) rfl,by omega⟩
      ·refine PoS.hard0 Zj (YU T Zz Zz Zz Zz Zz Zz ?_)
       (refine Yg Zz Zz ?_)
       refine PoS.hard0 Zj (Yw T (pre:=[_,_]) (L:=YB) (j:=n) Zz Zz Zz rfl rfl Zz Yn (Yf (x:=YM (Yi kw::ks)) hX) hB Zi (fun cur1 hB1=>?_))
       refine Po.done ?_
       ((repeat (first | refine zS ?_ | refine zA fun _=>?_)))
       exact Yau rfl (H':=[(gx,lsO _),(gk,.cells (List.toArray cur1) 64 (0,0))]) (Zb) ⟨rfl,hl2,_,_,[_],rfl,hB1.grow.of (by rw [set1 hlen,if_neg hks]) rfl,by omega⟩
     ·refine PoS.hard0 Zj (YU T Zz Zz Zz Zz Zz Zz ?_)
      (refine Yg Zz Zz ?_)
      refine PoS.hard Zj (DoesQ.does (YD T Zz Zz Zz Zz Zz rfl Zi Zi ?_))
      (refine Yg Zz Zz ?_)
      refine PoS.hard0 Zj (Yw T (pre:=[_,_]) (L:=YB) (j:=n) Zz Zz Zz rfl rfl Zz Yn (Yf (x:=YM (Yi kw::ks)) hX) hB Zi (fun cur1 hB1=>?_))
      refine Po.done ?_
      ((repeat (first | refine zS ?_ | refine zA fun _=>?_)))
      exact Yau rfl (H':=[(gx,lsO _),(gk,.cells (List.toArray cur1) 64 (0,0))]) (Zb) ⟨rfl,hl2,_,_,[_],rfl,hB1.grow.of (by rw [set1 hlen,if_neg hks]) rfl,by omega⟩
    ·refine Yh (Ye T (cs:=Yab) Zz Zz Zz Zz Zz Zz Zz Zz (fun gz=>⟨(⟨Le.refl _,Zx⟩),?_⟩))
     (refine Yg Zz Zz ?_)
     refine PoS.qk (⟨Le.refl _,Zx⟩) (Yl Zz Zz YW ?_)
     unfold sxV
     (refine Yg Zz Zz ?_)
     refine PoS.hard Zj (Does.freezeAll (H1:=(gz,_)::(gx,_)::Hs) (H2:=Hs1) (List.Perm.refl _) (fun fz2 hl2 hf2=>Xs T (Hr:=[_,_]) Zz Zz Zz Zz Zz Zz Zz Zz (List.Perm.refl _) (hG.mono hl2) Yn (.head _) XD (by show _*72≤_;omega) Zi (fun v' Hs' hO'=>?_)))
     obtain ⟨gk,cap,cur,rfl,rfl,hB⟩:=hO'.b Zi
     obtain ⟨A2,c2,he2,hsl⟩:=hO1.sl hl2 hf2 Zi
     injection he2 with e1 e2 e3
     subst e1 e3
     have hX:Y4 fz2 (YM (Yi kw::ks)) (.slice A1 (1+m) c1):=⟨Ydb,Xf,Xf,Xf,YP,hsl.is⟩
     (refine YQ Zz Zz Zz ?_ ?_)
     ·refine PoS.hard Zj (DoesQ.does (YD T Zz Zz Zz Zz Zz rfl Zi Zi ?_))
      (refine YQ Zz Zz Zz ?_ ?_)
      ·refine PoS.hard0 Zj (Yw T (pre:=[_,_]) (L:=YB) (j:=n) Zz Zz Zz rfl rfl Zz Yn (Yf (x:=YM (Yi kw::ks)) hX) hB Zi (fun cur1 hB1=>?_))
       (refine Yg Zz Zz ?_)
       refine PoS.hard0 Zj (YU T Zz Zz Zz Zz Zz Zz ?_)
       refine Po.done ?_
       ((repeat (first | refine zS ?_ | refine zA fun _=>?_)))
       exact Yau rfl (H':=[(gx,lsO _),(gk,.cells (List.toArray cur1) 64 (0,0))]) (Zb) ⟨rfl,hl2,_,_,[_],rfl,hB1.grow.of (by rw [set1 hlen,if_neg hks]) rfl,by omega⟩
      ·refine PoS.hard0 Zj (YU T Zz Zz Zz Zz Zz Zz ?_)
       (refine Yg Zz Zz ?_)
       refine PoS.hard0 Zj (Yw T (pre:=[_,_]) (L:=YB) (j:=n) Zz Zz Zz rfl rfl Zz Yn (Yf (x:=YM (Yi kw::ks)) hX) hB Zi (fun cur1 hB1=>?_))
       refine Po.done ?_
       ((repeat (first | refine zS ?_ | refine zA fun _=>?_)))
       exact Yau rfl (H':=[(gx,lsO _),(gk,.cells (List.toArray cur1) 64 (0,0))]) (Zb) ⟨rfl,hl2,_,_,[_],rfl,hB1.grow.of (by rw [set1 hlen,if_neg hks]) rfl,by omega⟩
     ·refine PoS.hard0 Zj (YU T Zz Zz Zz Zz Zz Zz ?_)
      (refine Yg Zz Zz ?_)
      refine PoS.hard Zj (DoesQ.does (YD T Zz Zz Zz Zz Zz rfl Zi Zi ?_))
      (refine Yg Zz Zz ?_)
      refine PoS.hard0 Zj (Yw T (pre:=[_,_]) (L:=YB) (j:=n) Zz Zz Zz rfl rfl Zz Yn (Yf (x:=YM (Yi kw::ks)) hX) hB Zi (fun cur1 hB1=>?_))
      refine Po.done ?_
      ((repeat (first | refine zS ?_ | refine zA fun _=>?_)))
      exact Yau rfl (H':=[(gx,lsO _),(gk,.cells (List.toArray cur1) 64 (0,0))]) (Zb) ⟨rfl,hl2,_,_,[_],rfl,hB1.grow.of (by rw [set1 hlen,if_neg hks]) rfl,by omega⟩
   ·refine Yh (Ye T (cs:=Yab) Zz Zz Zz Zz Zz Zz Zz Zz (fun gz=>⟨(⟨Le.refl _,Zx⟩),?_⟩))
    (refine Yg Zz Zz ?_)
    refine Yh (Ybr T (n:=1) (l:=[Yi kw]) (Hr:=(gz,_)::(gx,_)::Hs) (Hs:=[(gb1,_)]) Zz Zz Zz Zz Zz Zz Zz Zz (List.Perm.cons _ (List.perm_append_singleton _ _).symm) (Grow.block (ys:=[(Yi kw,Yv kw)]) rfl rfl (by simpa using Ys hkw) rfl Zh) Yn hK (by show _*72≤_;omega) Zi (fun v1 Hs1 hO1=>⟨(⟨Le.refl _,Zx⟩),?_⟩))
    obtain ⟨A1,c1,rfl,_,_⟩:=hO1.form
    (refine Yg Zz Zz ?_)
    refine PoS.qk (⟨Le.refl _,Zx⟩) (Yl Zz Zz YW ?_)
    unfold sxV
    (refine Yg Zz Zz ?_)
    refine PoS.hard Zj (Does.freezeAll (H1:=(gz,_)::(gx,_)::Hs) (H2:=Hs1) (List.Perm.refl _) (fun fz2 hl2 hf2=>Xs T (Hr:=[_,_]) Zz Zz Zz Zz Zz Zz Zz Zz (List.Perm.refl _) (hG.mono hl2) Yn (.head _) XD (by show _*72≤_;omega) Zi (fun v' Hs' hO'=>?_)))
    obtain ⟨gk,cap,cur,rfl,rfl,hB⟩:=hO'.b Zi
    obtain ⟨A2,c2,he2,hsl⟩:=hO1.sl hl2 hf2 Zi
    injection he2 with e1 e2 e3
    subst e1 e3
    have hX:Y4 fz2 (YM (Yi kw::ks)) (.slice A1 (1+m) c1):=⟨Ydb,Xf,Xf,Xf,YP,hsl.is⟩
    (refine YQ Zz Zz Zz ?_ ?_)
    ·refine PoS.hard Zj (DoesQ.does (YD T Zz Zz Zz Zz Zz rfl Zi Zi ?_))
     (refine YQ Zz Zz Zz ?_ ?_)
     ·refine PoS.hard0 Zj (Yw T (pre:=[_,_]) (L:=YB) (j:=n) Zz Zz Zz rfl rfl Zz Yn (Yf (x:=YM (Yi kw::ks)) hX) hB Zi (fun cur1 hB1=>?_))
      (refine Yg Zz Zz ?_)
      refine PoS.hard0 Zj (YU T Zz Zz Zz Zz Zz Zz ?_)
      refine Po.done ?_
      ((repeat (first | refine zS ?_ | refine zA fun _=>?_)))
      exact Yau rfl (H':=[(gx,lsO _),(gk,.cells (List.toArray cur1) 64 (0,0))]) (Zb) ⟨rfl,hl2,_,_,[_],rfl,hB1.grow.of (by rw [set1 hlen,if_neg hks]) rfl,by omega⟩
     ·refine PoS.hard0 Zj (YU T Zz Zz Zz Zz Zz Zz ?_)
      (refine Yg Zz Zz ?_)
      refine PoS.hard0 Zj (Yw T (pre:=[_,_]) (L:=YB) (j:=n) Zz Zz Zz rfl rfl Zz Yn (Yf (x:=YM (Yi kw::ks)) hX) hB Zi (fun cur1 hB1=>?_))
      refine Po.done ?_
      ((repeat (first | refine zS ?_ | refine zA fun _=>?_)))
      exact Yau rfl (H':=[(gx,lsO _),(gk,.cells (List.toArray cur1) 64 (0,0))]) (Zb) ⟨rfl,hl2,_,_,[_],rfl,hB1.grow.of (by rw [set1 hlen,if_neg hks]) rfl,by omega⟩
    ·refine PoS.hard0 Zj (YU T Zz Zz Zz Zz Zz Zz ?_)
     (refine Yg Zz Zz ?_)
     refine PoS.hard Zj (DoesQ.does (YD T Zz Zz Zz Zz Zz rfl Zi Zi ?_))
     (refine Yg Zz Zz ?_)
     refine PoS.hard0 Zj (Yw T (pre:=[_,_]) (L:=YB) (j:=n) Zz Zz Zz rfl rfl Zz Yn (Yf (x:=YM (Yi kw::ks)) hX) hB Zi (fun cur1 hB1=>?_))
     refine Po.done ?_
     ((repeat (first | refine zS ?_ | refine zA fun _=>?_)))
     exact Yau rfl (H':=[(gx,lsO _),(gk,.cells (List.toArray cur1) 64 (0,0))]) (Zb) ⟨rfl,hl2,_,_,[_],rfl,hB1.grow.of (by rw [set1 hlen,if_neg hks]) rfl,by omega⟩
  ·refine Yh (Ye T (cs:=Yab) Zz Zz Zz Zz Zz Zz Zz Zz (fun gz=>⟨(⟨Le.refl _,Zx⟩),?_⟩))
   (refine Yg Zz Zz ?_)
   refine Yh (Ye T (cs:=Yv kw) Zz Zz Zz Zz Zz Zz Zz Zz (fun gb1=>⟨(⟨Le.refl _,Zx⟩),?_⟩))
   (refine Yg Zz Zz ?_)
   refine Yh (Ybr T (n:=1) (l:=[Yi kw]) (Hr:=(gz,_)::(gx,_)::Hs) (Hs:=[(gb1,_)]) Zz Zz Zz Zz Zz Zz Zz Zz (List.perm_append_singleton _ _).symm (Grow.block (ys:=[(Yi kw,Yv kw)]) rfl rfl (by simpa using Ys hkw) rfl Zh) Yn hK (by show _*72≤_;omega) Zi (fun v1 Hs1 hO1=>⟨(⟨Le.refl _,Zx⟩),?_⟩))
   obtain ⟨A1,c1,rfl,_,_⟩:=hO1.form
   (refine Yg Zz Zz ?_)
   refine PoS.qk (⟨Le.refl _,Zx⟩) (Yl Zz Zz YW ?_)
   unfold sxV
   (refine Yg Zz Zz ?_)
   refine PoS.hard Zj (Does.freezeAll (H1:=(gz,_)::(gx,_)::Hs) (H2:=Hs1) (List.Perm.refl _) (fun fz2 hl2 hf2=>Xs T (Hr:=[_,_]) Zz Zz Zz Zz Zz Zz Zz Zz (List.Perm.refl _) (hG.mono hl2) Yn (.head _) XD (by show _*72≤_;omega) Zi (fun v' Hs' hO'=>?_)))
   obtain ⟨gk,cap,cur,rfl,rfl,hB⟩:=hO'.b Zi
   obtain ⟨A2,c2,he2,hsl⟩:=hO1.sl hl2 hf2 Zi
   injection he2 with e1 e2 e3
   subst e1 e3
   have hX:Y4 fz2 (YM (Yi kw::ks)) (.slice A1 (1+m) c1):=⟨Ydb,Xf,Xf,Xf,YP,hsl.is⟩
   (refine YQ Zz Zz Zz ?_ ?_)
   ·refine PoS.hard Zj (DoesQ.does (YD T Zz Zz Zz Zz Zz rfl Zi Zi ?_))
    (refine YQ Zz Zz Zz ?_ ?_)
    ·refine PoS.hard0 Zj (Yw T (pre:=[_,_]) (L:=YB) (j:=n) Zz Zz Zz rfl rfl Zz Yn (Yf (x:=YM (Yi kw::ks)) hX) hB Zi (fun cur1 hB1=>?_))
     (refine Yg Zz Zz ?_)
     refine PoS.hard0 Zj (YU T Zz Zz Zz Zz Zz Zz ?_)
     refine Po.done ?_
     ((repeat (first | refine zS ?_ | refine zA fun _=>?_)))
     exact Yau rfl (H':=[(gx,lsO _),(gk,.cells (List.toArray cur1) 64 (0,0))]) (Zb) ⟨rfl,hl2,_,_,[_],rfl,hB1.grow.of (by rw [set1 hlen,if_neg hks]) rfl,by omega⟩
    ·refine PoS.hard0 Zj (YU T Zz Zz Zz Zz Zz Zz ?_)
     (refine Yg Zz Zz ?_)
     refine PoS.hard0 Zj (Yw T (pre:=[_,_]) (L:=YB) (j:=n) Zz Zz Zz rfl rfl Zz Yn (Yf (x:=YM (Yi kw::ks)) hX) hB Zi (fun cur1 hB1=>?_))
     refine Po.done ?_
     ((repeat (first | refine zS ?_ | refine zA fun _=>?_)))
     exact Yau rfl (H':=[(gx,lsO _),(gk,.cells (List.toArray cur1) 64 (0,0))]) (Zb) ⟨rfl,hl2,_,_,[_],rfl,hB1.grow.of (by rw [set1 hlen,if_neg hks]) rfl,by omega⟩
   ·refine PoS.hard0 Zj (YU T Zz Zz Zz Zz Zz Zz ?_)
    (refine Yg Zz Zz ?_)
    refine PoS.hard Zj (DoesQ.does (YD T Zz Zz Zz Zz Zz rfl Zi Zi ?_))
    (refine Yg Zz Zz ?_)
    refine PoS.hard0 Zj (Yw T (pre:=[_,_]) (L:=YB) (j:=n) Zz Zz Zz rfl rfl Zz Yn (Yf (x:=YM (Yi kw::ks)) hX) hB Zi (fun cur1 hB1=>?_))
    refine Po.done ?_
    ((repeat (first | refine zS ?_ | refine zA fun _=>?_)))
    exact Yau rfl (H':=[(gx,lsO _),(gk,.cells (List.toArray cur1) 64 (0,0))]) (Zb) ⟨rfl,hl2,_,_,[_],rfl,hB1.grow.of (by rw [set1 hlen,if_neg hks]) rfl,by omega⟩
 ·have hks:ks=[]:=Classical.byContradiction fun h0=>c0 ((Wl hK.len).2 h0)
  ((repeat (first | refine zS ?_ | refine zA fun _=>?_)))
  exact Yau rfl (H':=(gx,lsO _)::Hs) (Zb) ⟨rfl,Le.refl _,_,_,Hs,rfl,hG.of (by rw [if_pos hks,List.append_nil]) rfl,by omega⟩
end Go.Proofs.YtbhlgkibgajajaaGreatDoor
set_option maxRecDepth 20000
namespace Go.Proofs.YtbhlgkibgajajaaGreatDoor
open Go.Lx Go.RowKit
attribute [local instance 10] Classical.propDecidable
end Go.Proofs.YtbhlgkibgajajaaGreatDoor
set_option maxRecDepth 20000
namespace Go.Proofs.YtbhlgkibgajajaaGreatDoor
open Go.Lx Go.RowKit
attribute [local instance 10] Classical.propDecidable
end Go.Proofs.YtbhlgkibgajajaaGreatDoor
