/- The texts PWalkK, PRefC, PRefD, PRefE, laid together. Conditions: none. -/
import Derived.Test.YtbhlgkibgajajaaGreatDoorQPG
import Derived.Test.YtbhlgkibgajajaaGreatDoorQPE
import Derived.Test.YtbhlgkibgajajaaGreatDoorQPB
import Derived.Test.YtbhlgkibgajajaaGreatDoorQPC
import Derived.Test.YtbhlgkibgajajaaGreatDoorQPD
import Derived.Test.YtbhlgkibgajajaaGreatDoorQPH
import Derived.Test.YtbhlgkibgajajaaGreatDoorQPF
set_option maxRecDepth 20000
namespace Go.Proofs.YtbhlgkibgajajaaGreatDoor
open Go.Lx Go.RowKit
attribute [local instance 10] Classical.propDecidable
def wrO (b:Bool):Obj:=.cells #[.bool b] 88 (0,0)
def MkR (g:Nat) (b:Bool) (P:Prop) (x:Sexpr) (fz:FZ) (v:Value) (fz':FZ) (H':HP):Prop:=Le fz fz'∧∃ (b':Bool) (y:Sexpr),H'=[(g,wrO b')]∧SxIs fz' v y∧(b'=false↔b=false∧P)∧(b'=false→y=x)
theorem YaX {fz:FZ} {g:Nat} {b:Bool} {s:ByteArray} (hs:Short s):GFn Tryz.prog 31 [.pointer (some ⟨g,0,none⟩),.string s] fz [(g,wrO b)] (fun v fz' H'=>Le fz fz'∧v=sxV 1 0 s (.slice none 0 0)∧∃ b':Bool,H'=[(g,wrO b')]∧(b'=false↔b=false∧Xn s)):=by
 unfold wrO
 (refine GFn.of_wp Tryz.func31 rfl Tryz.ntmps31 rfl rfl (fun w0=>?_))
 cases b
 ·((repeat (first | refine zS ?_ | refine zA fun _=>?_)))
  (((refine zG ?_));refine Yz Zz Zz (W6 hs) (fun f1=>?_) (fun f1=>?_))
  ·((repeat (first | refine zS ?_ | refine zA fun _=>?_)))
   (((refine zG ?_));refine Yj Zz Zz (Wq (s:=s)) ?_)
   unfold sxV
   ((repeat (first | refine zS ?_ | refine zA fun _=>?_)))
   refine WF T (i:=0) (H':=[(g,wrO false)]) rfl Zz Zz Zz Zz Zz (Zb) ?_
   exact ⟨Le.refl _,rfl,false,rfl,iff_of_true rfl ⟨rfl,of_decide_eq_true f1⟩⟩
  ·((repeat (first | refine zS ?_ | refine zA fun _=>?_)))
   (((refine zG ?_));refine Yj Zz Zz (Wq (s:=s)) ?_)
   unfold sxV
   ((repeat (first | refine zS ?_ | refine zA fun _=>?_)))
   refine WF T (i:=0) (H':=[(g,wrO true)]) rfl Zz Zz Zz Zz Zz (Zb) ?_
   exact ⟨Le.refl _,rfl,true,rfl,iff_of_false (by simp) (fun h=>of_decide_eq_false f1 h.2)⟩
 ·((repeat (first | refine zS ?_ | refine zA fun _=>?_)))
  (((refine zG ?_));refine Yj Zz Zz (Wq (s:=s)) ?_)
  unfold sxV
  ((repeat (first | refine zS ?_ | refine zA fun _=>?_)))
  refine WF T (i:=0) (H':=[(g,wrO true)]) rfl Zz Zz Zz Zz Zz (Zb) ?_
  exact ⟨Le.refl _,rfl,true,rfl,iff_of_false (by simp) (fun h=>by cases h.1)⟩
def XD (vars:Bool) (p:Param):Prop:=(if vars=true then VarP p.name else Xn p.name)∧Ygz p.typ
set_option maxHeartbeats 1000000 in
theorem WE {fz:FZ} {g:Nat} {b vars:Bool} {A:Option Addr} {n c:Nat} {l:List Param} (h1:Sl paramL fz A n c l) (hn:n≤1000000000):
 GFn Tryz.prog 33 [.pointer (some ⟨g,0,none⟩),.slice A n c,.bool vars] fz [(g,wrO b)] (fun v fz' H'=>Le fz fz'∧(∃ B cc,v=.slice B (3*n) cc∧Sl YF fz' B (3*n) cc ((l.flatMap XO).map Yd))∧∃ b':Bool,H'=[(g,wrO b')]∧(b'=false↔b=false∧∀ p∈l,XD vars p)):=by
 have l1:=h1.len
 (refine GFn.of_wp Tryz.func33 rfl Tryz.ntmps33 rfl rfl (fun w0=>?_))
 ((repeat (first | refine zS ?_ | refine zA fun _=>?_)))
 refine YD (fun q σ fz' H'=>∃ (k:Nat) (b':Bool),k≤n∧q=n - k∧σ=[(12,.int .i64 k),(11,.int .i64 n),(10,.slice A n c),(2,.bool vars),(1,.slice A n c),(0,.pointer (some ⟨g,0,none⟩))]∧fz=fz'∧H'=[(g,wrO b')]∧(b'=false↔b=false∧∀ i,i<k→∀ p,l[i]?=some p→XD vars p)) ⟨0,b,Nat.zero_le _,rfl,rfl,rfl,rfl,⟨fun h=>⟨h,fun i hi=>absurd hi Zi⟩,fun h=>h.1⟩⟩ (Zw) (Zb) ?_
 rintro q σ fz' H' ⟨k,b',hk,rfl,rfl,rfl,rfl,hb⟩
 ((repeat (first | refine zS ?_ | refine zA fun _=>?_)))
 ((refine zG ?_;refine zC (fun c1=>?_) (fun c1=>?_)))
 ·obtain ⟨x,hx⟩:=YG (l:=l) (k:=k) Zi
  have step:∀ b2:Bool,(b2=false↔b'=false∧XD vars x)→(b2=false↔b=false∧∀ i,i<k+1→∀ p,l[i]?=some p→XD vars p):=fun b2 h=>by
   rw [h,hb]
   exact ⟨fun h0=>⟨h0.1.1,YZ h0.1.2 hx h0.2⟩,fun h0=>⟨⟨h0.1,fun i hi=>h0.2 i Zi⟩,h0.2 k Zi x hx⟩⟩
  ((repeat (first | refine zS ?_ | refine zA fun _=>?_)))
  (((refine zG ?_));refine YA T k Zz Zz Zz Zz Zz Zz h1 (by first | rfl | omega) hx (fun p hp=>?_))
  (((refine zG ?_));refine Yx T Zz Zz Zz hp Zz ?_)
  intro cs hcs
  obtain ⟨rfl,hR⟩:=Xy hcs
  cases vars
  ·((repeat (first | refine zS ?_ | refine zA fun _=>?_)))
   rename_i g5
   (((refine zG ?_));refine Yz Zz Zz (W6 hR.name) (fun f1=>?_) (fun f1=>?_))
   ·((repeat (first | refine zS ?_ | refine zA fun _=>?_)))
    cases b'
    ·((repeat (first | refine zS ?_ | refine zA fun _=>?_)))
     ((refine zG ?_;refine zC (fun e1=>?_) (fun e1=>?_)))
     ·((repeat (first | refine zS ?_ | refine zA fun _=>?_)))
      (((refine zG ?_));refine Yz Zz Zz (W6 hR.typ) (fun f2=>?_) (fun f2=>?_))
      ·((repeat (first | refine zS ?_ | refine zA fun _=>?_)))
       exact YP ⟨k+1,false,by omega,rfl,rfl,rfl,rfl,step false (iff_of_true rfl ⟨rfl,of_decide_eq_true f1,.inl (of_decide_eq_true f2)⟩)⟩ Zi (Zw) (Zb)
      ·((repeat (first | refine zS ?_ | refine zA fun _=>?_)))
       exact YP ⟨k+1,true,by omega,rfl,rfl,rfl,rfl,step true (iff_of_false (by simp) (fun h=>h.2.2.elim (of_decide_eq_false f2) e1))⟩ Zi (Zw) (Zb)
     ·((repeat (first | refine zS ?_ | refine zA fun _=>?_)))
      exact YP ⟨k+1,false,by omega,rfl,rfl,rfl,rfl,step false (iff_of_true rfl ⟨rfl,of_decide_eq_true f1,.inr e1⟩)⟩ Zi (Zw) (Zb)
    ·((repeat (first | refine zS ?_ | refine zA fun _=>?_)))
     exact YP ⟨k+1,true,by omega,rfl,rfl,rfl,rfl,step true (iff_of_false (by simp) (fun h=>by cases h.1))⟩ Zi (Zw) (Zb)
   ·((repeat (first | refine zS ?_ | refine zA fun _=>?_)))
    cases b'
    ·((repeat (first | refine zS ?_ | refine zA fun _=>?_)))
     exact YP ⟨k+1,true,by omega,rfl,rfl,rfl,rfl,step true (iff_of_false (by simp) (fun h=>of_decide_eq_false f1 h.2.1))⟩ Zi (Zw) (Zb)
    ·((repeat (first | refine zS ?_ | refine zA fun _=>?_)))
     exact YP ⟨k+1,true,by omega,rfl,rfl,rfl,rfl,step true (iff_of_false (by simp) (fun h=>by cases h.1))⟩ Zi (Zw) (Zb)
  ·((repeat (first | refine zS ?_ | refine zA fun _=>?_)))
   rename_i g5
   (((refine zG ?_));refine Yj Zz Zz (W6 hR.name) ?_)
   ((repeat (first | refine zS ?_ | refine zA fun _=>?_)))
   (((refine zG ?_));refine Yz Zz Zz (YbH hR.name) (fun f1=>?_) (fun f1=>?_))
   ·((repeat (first | refine zS ?_ | refine zA fun _=>?_)))
    cases b'
    ·((repeat (first | refine zS ?_ | refine zA fun _=>?_)))
     ((refine zG ?_;refine zC (fun e1=>?_) (fun e1=>?_)))
     ·((repeat (first | refine zS ?_ | refine zA fun _=>?_)))
      (((refine zG ?_));refine Yz Zz Zz (W6 hR.typ) (fun f2=>?_) (fun f2=>?_))
      ·((repeat (first | refine zS ?_ | refine zA fun _=>?_)))
       exact YP ⟨k+1,false,by omega,rfl,rfl,rfl,rfl,step false (iff_of_true rfl ⟨rfl,of_decide_eq_true f1,.inl (of_decide_eq_true f2)⟩)⟩ Zi (Zw) (Zb)
      ·((repeat (first | refine zS ?_ | refine zA fun _=>?_)))
       exact YP ⟨k+1,true,by omega,rfl,rfl,rfl,rfl,step true (iff_of_false (by simp) (fun h=>h.2.2.elim (of_decide_eq_false f2) e1))⟩ Zi (Zw) (Zb)
     ·((repeat (first | refine zS ?_ | refine zA fun _=>?_)))
      exact YP ⟨k+1,false,by omega,rfl,rfl,rfl,rfl,step false (iff_of_true rfl ⟨rfl,of_decide_eq_true f1,.inr e1⟩)⟩ Zi (Zw) (Zb)
    ·((repeat (first | refine zS ?_ | refine zA fun _=>?_)))
     exact YP ⟨k+1,true,by omega,rfl,rfl,rfl,rfl,step true (iff_of_false (by simp) (fun h=>by cases h.1))⟩ Zi (Zw) (Zb)
   ·((repeat (first | refine zS ?_ | refine zA fun _=>?_)))
    cases b'
    ·((repeat (first | refine zS ?_ | refine zA fun _=>?_)))
     exact YP ⟨k+1,true,by omega,rfl,rfl,rfl,rfl,step true (iff_of_false (by simp) (fun h=>of_decide_eq_false f1 h.2.1))⟩ Zi (Zw) (Zb)
    ·((repeat (first | refine zS ?_ | refine zA fun _=>?_)))
     exact YP ⟨k+1,true,by omega,rfl,rfl,rfl,rfl,step true (iff_of_false (by simp) (fun h=>by cases h.1))⟩ Zi (Zw) (Zb)
 ·have hk1:k=n:=by omega
  subst hk1
  ((repeat (first | refine zS ?_ | refine zA fun _=>?_)))
  (refine Yb Zz (YB [] _ Zz Zz Zz (Ycf h1 hn) (fun v2 fz2 H2 hle2 hR2=>?_)))
  obtain ⟨rfl,B2,cc2,rfl,hsl2⟩:=hR2
  ((repeat (first | refine zS ?_ | refine zA fun _=>?_)))
  exact ret1 rfl rfl (Zb) ⟨hle2,⟨B2,cc2,rfl,hsl2⟩,b',rfl,by rw [hb];exact ⟨fun h=>⟨h.1,XW h.2 Zi⟩,fun h=>⟨h.1,fun i _ p hp=>h.2 p (List.mem_of_getElem? hp)⟩⟩⟩
theorem YaP {fz:FZ} {g:Nat} {b:Bool} {f:Formula} {va vp ve vk:Value} (h:FormulaR fz f va vp ve vk) (hs:FSm f):GFn Tryz.prog 70 [.pointer (some ⟨g,0,none⟩),.agg #[.string f.op,.string f.name,va,vp,ve,vk]] fz [(g,wrO b)] (MkR g b (FVal f) (YN f) fz):=by
 obtain ⟨A,n,ca,rfl,ha⟩:=h.args
 obtain ⟨B,m,cb,rfl,hp⟩:=h.params
 obtain ⟨C,r,cr,rfl,he⟩:=h.exprs
 obtain ⟨D,q,cq,rfl,hk⟩:=h.kids
 (refine GFn.of_wp Tryz.func70 rfl Tryz.ntmps70 rfl rfl (fun w0=>?_))
 (refine Yr (Yp (Yb Zz (Xi _ Zz Zz (fun g0=>?_)))))
 ((repeat (first | refine zS ?_ | refine zA fun _=>?_)))
 rename_i g1
 (refine Yb Zz (YB [] _ Zz Zz Zz (YhU h hs) (fun v6 fz6 H6 hle6 hR6=>?_)))
 obtain ⟨rfl,u,y,rfl,⟨cs,rfl,hr⟩,hyx⟩:=hR6
 obtain ⟨vk6,rfl,hX⟩:=Yt hr
 obtain ⟨A6,n6,b6,rfl,_⟩:=hX.kids
 by_cases hP:FVal f
 ·rw [if_pos hP]
  cases b
  ·((repeat (first | refine zS ?_ | refine zA fun _=>?_)))
   refine WF T (i:=1) (H':=[(g,wrO false)]) rfl Zz Zz Zz Zz Zz (Zb) ?_
   exact ⟨hle6,false,y,rfl,⟨_,rfl,Yg hX⟩,iff_of_true rfl ⟨rfl,hP⟩,fun _=>hyx hP⟩
  ·((repeat (first | refine zS ?_ | refine zA fun _=>?_)))
   refine WF T (i:=1) (H':=[(g,wrO true)]) rfl Zz Zz Zz Zz Zz (Zb) ?_
   exact ⟨hle6,true,y,rfl,⟨_,rfl,Yg hX⟩,iff_of_false (by simp) (fun h0=>by cases h0.1),fun h0=>by cases h0⟩
 ·rw [if_neg hP]
  cases b
  ·((repeat (first | refine zS ?_ | refine zA fun _=>?_)))
   refine WF T (i:=1) (H':=[(g,wrO true)]) rfl Zz Zz Zz Zz Zz (Zb) ?_
   exact ⟨hle6,true,y,rfl,⟨_,rfl,Yg hX⟩,iff_of_false (by simp) (fun h0=>hP h0.2),fun h0=>by cases h0⟩
  ·((repeat (first | refine zS ?_ | refine zA fun _=>?_)))
   refine WF T (i:=1) (H':=[(g,wrO true)]) rfl Zz Zz Zz Zz Zz (Zb) ?_
   exact ⟨hle6,true,y,rfl,⟨_,rfl,Yg hX⟩,iff_of_false (by simp) (fun h0=>by cases h0.1),fun h0=>by cases h0⟩
def YeN (name:ByteArray) (args:List ByteArray):Prop:=Xn name∧∀ a∈args,YbE a
set_option maxHeartbeats 2000000 in
theorem watom_q {fz:FZ} {g:Nat} {b:Bool} {f0:ByteArray} {A:Option Addr} {n c:Nat} {l:List ByteArray} (hf:Short f0) (h1:Sl strL fz A n c l) (hn:n≤1000000000):
 GFn Tryz.prog 203 [.pointer (some ⟨g,0,none⟩),.string f0,.slice A n c] fz [(g,wrO b)] (MkR g b (YeN f0 l) (Xj f0 l) fz):=by
 have l1:=h1.len
 (refine GFn.of_wp Tryz.func203 rfl Tryz.ntmps203 rfl rfl (fun w0=>?_))
 ((repeat (first | refine zS ?_ | refine zA fun _=>?_)))
 rename_i g4
 (first | refine Wp.perm (List.Perm.swap _ _ _) ?_ | refine Seq.perm (List.Perm.swap _ _ _) ?_)
 (refine Yb Zz (YB [_] [_] Zz Zz Zz (YaX hf) (fun v6 fz6 H6 hle6 hR6=>?_)))
 obtain ⟨_,rfl,b1,rfl,hb1⟩:=hR6
 unfold sxV
 refine Yb Zz (Yc T (cs:=Ym f0) Zz Zz Zz Zz Zz Zz Zz Zz (fun gb=>?_))
 (((refine zG ?_));refine Yj Zz Zz Y6 ?_)
 unfold sxV
 ((repeat (first | refine zS ?_ | refine zA fun _=>?_)))
 rename_i g5
 refine Wp.perm (List.Perm.cons _ (List.reverse_perm [_,_,_])) ?_
 refine YD (fun q σ fz' H'=>∃ (k:Nat) (v:Value) (Hs:HP) (b':Bool),k≤n∧q=n - k∧σ=[(17,.int .i64 k),(16,.int .i64 n),(15,.slice A n c),(7,.pointer (some ⟨g5,0,none⟩)),(6,.pointer (some ⟨g4,0,none⟩)),(0,.pointer (some ⟨g,0,none⟩))]∧fz6=fz'∧
  H'=(g5,.cells #[.int .i64 3,.int .i64 0,.int .i64 0,.int .i64 0,.string ⟨#[]⟩,v] 64 (0,0))::(g4,.cells #[.int .i64 0,.int .i64 0,.int .i64 0,.int .i64 0,.string ⟨#[]⟩,.slice none 0 0] 64 (0,0))::(g,wrO b')::Hs∧Grow YF 64 fz' v (k+1) Hs (Yd f0::(l.take k).map Yd)∧(b'=false↔b=false∧Xn f0∧∀ i,i<k→∀ a,l[i]?=some a→YbE a))
  ⟨0,_,[_],b1,Nat.zero_le _,rfl,rfl,rfl,rfl,Grow.block (ys:=[(Yd f0,Ym f0)]) rfl rfl (by simpa using Yq hf) rfl Zh,by rw [hb1];exact ⟨fun h=>⟨h.1,h.2,fun i hi=>absurd hi Zi⟩,fun h=>⟨h.1,h.2.1⟩⟩⟩ (Zw) (Zb) ?_
 rintro q σ fz' H' ⟨k,v,Hs,b',hk,rfl,rfl,rfl,rfl,hG,hb⟩
 obtain ⟨Av,cv,rfl,_,_⟩:=hG.form
 have h2:=h1.mono hle6
 ((repeat (first | refine zS ?_ | refine zA fun _=>?_)))
 ((refine zG ?_;refine zC (fun c1=>?_) (fun c1=>?_)))
 ·obtain ⟨x,hx⟩:=YG (l:=l) (k:=k) Zi
  have step:∀ b2:Bool,(b2=false↔b'=false∧YbE x)→(b2=false↔b=false∧Xn f0∧∀ i,i<k+1→∀ a,l[i]?=some a→YbE a):=fun b2 h=>by
   rw [h,hb]
   exact ⟨fun h0=>⟨h0.1.1,h0.1.2.1,YZ h0.1.2.2 hx h0.2⟩,fun h0=>⟨⟨h0.1,h0.2.1,fun i hi=>h0.2.2 i Zi⟩,h0.2.2 k Zi x hx⟩⟩
  ((repeat (first | refine zS ?_ | refine zA fun _=>?_)))
  (((refine zG ?_));refine YA T k Zz Zz Zz Zz Zz Zz h2 (by first | rfl | omega) hx (fun p hp=>?_))
  (((refine zG ?_));refine Y9 T Zz Zz Zz hp (fun ix=>?_))
  ((repeat (first | refine zSO ?_ | refine zA fun _=>?_)))
  refine Yr (Wp.mid (fun σ fz' H'=>∃ b2:Bool,σ=[(9,.string x),(17,.int .i64 k),(16,.int .i64 n),(15,.slice A n c),(7,.pointer (some ⟨g5,0,none⟩)),(6,.pointer (some ⟨g4,0,none⟩)),(0,.pointer (some ⟨g,0,none⟩))]∧fz6=fz'∧
   H'=(g5,.cells #[.int .i64 3,.int .i64 0,.int .i64 0,.int .i64 0,.string ⟨#[]⟩,.slice Av (k+1) cv] 64 (0,0))::(g4,.cells #[.int .i64 0,.int .i64 0,.int .i64 0,.int .i64 0,.string ⟨#[]⟩,.slice none 0 0] 64 (0,0))::(g,wrO b2)::Hs∧(b2=false↔b'=false∧YbE x)) ?_ ?_)
  ·cases b'
   ·((repeat (first | refine zS ?_ | refine zA fun _=>?_)))
    (((refine zG ?_));refine Yz Zz Zz (dterm_q ix) (fun f1=>?_) (fun f1=>?_))
    ·((repeat (first | refine zS ?_ | refine zA fun _=>?_)))
     exact midN ⟨false,rfl,rfl,rfl,iff_of_true rfl ⟨rfl,of_decide_eq_true f1⟩⟩ (Zw) (Zb)
    ·((repeat (first | refine zS ?_ | refine zA fun _=>?_)))
     exact midN ⟨true,rfl,rfl,rfl,iff_of_false (by simp) (fun h=>of_decide_eq_false f1 h.2)⟩ (Zw) (Zb)
   ·((repeat (first | refine zS ?_ | refine zA fun _=>?_)))
    exact midN ⟨true,rfl,rfl,rfl,iff_of_false (by simp) (fun h=>by cases h.1)⟩ (Zw) (Zb)
  ·rintro σ fz' H' ⟨b2,rfl,rfl,rfl,hb2⟩
   (refine Wp.drawK (Hq:=[_,_,_]) T.mixed Zj Zj (Zb) ?_)
   ((repeat (first | refine zS ?_ | refine zA fun _=>?_)))
   (refine Ye ?_)
   (refine Ye ?_)
   (refine Ye ?_)
   ((repeat (first | refine zS ?_ | refine zA fun _=>?_)))
   (refine Ye ?_)
   (refine YR ⟨by kernel_rfl,?_⟩)
   refine Ch.qk (⟨Le.refl _,Zx⟩) (Yj Zz Zz (Wq (s:=x)) ?_)
   refine Ys (Yc T (cs:=Ym x) Zz Zz Zz Zz Zz Zz Zz Zz (fun gb=>⟨(⟨Le.refl _,Zx⟩),?_⟩))
   refine Ys (Y3 T (Hr:=[_,_,_,_]) Zz Zz Zz Zz Zz Zz Zz Zz (List.Perm.refl _) hG Yn (.head _) (Yq ix) (by show _*72≤_;omega) Zi (fun v' Hs' hO'=>⟨(⟨Le.refl _,Zx⟩),?_⟩))
   obtain ⟨Av',cv',rfl,_,_⟩:=hO'.form
   refine Ch.hard0 Zj (YT T Zz Zz Zz Zz Zz Zz ?_)
   refine Ch.done ?_
   ((repeat (first | refine zS ?_ | refine zA fun _=>?_)))
   exact YP ⟨k+1,_,Hs',b2,by omega,rfl,rfl,rfl,rfl,hO'.of (by rw [List.take_add_one,hx];simp) rfl,step b2 hb2⟩ Zi (Zw) (Zb)
 ·have hk1:k=n:=by omega
  subst hk1
  rw [List.take_of_length_le Zi] at hG
  ((repeat (first | refine zS ?_ | refine zA fun _=>?_)))
  refine Yce T (i:=1) (H':=[(g,wrO b')]) rfl Zz Zz Zz Zz Zz (@List.perm_middle _ _ [_,_] _).symm (fun fz3 hle3 hf3=>?_)
  obtain ⟨A',c',he,hsl⟩:=hG.sl hle3 (fun p hp=>hf3 p (by simp [hp])) Zi
  injection he with he1 he2 he3
  subst he1 he3
  exact ⟨hle6.trans hle3,b',_,rfl,XQ hsl,by rw [hb];exact ⟨fun h=>⟨h.1,h.2.1,XW h.2.2 Zi⟩,fun h=>⟨h.1,h.2.1,fun i _ a ha=>h.2.2 a (List.mem_of_getElem? ha)⟩⟩,fun _=>rfl⟩
end Go.Proofs.YtbhlgkibgajajaaGreatDoor
set_option maxRecDepth 20000
namespace Go.Proofs.YtbhlgkibgajajaaGreatDoor
open Go.Lx Go.RowKit
attribute [local instance 10] Classical.propDecidable
set_option maxHeartbeats 1000000 in
theorem YdL {fz:FZ} {A:Option Addr} {n c:Nat} {l:List Param} (h1:Sl paramL fz A n c l) (hn:n≤1000000000):
 GFn Tryz.prog 80 [.slice A n c] fz [] (fun v fz' H'=>H'=[]∧∃ B cc,v=.slice B (3*n) cc∧Sl YF fz' B (3*n) cc ((l.flatMap XO).map Yd)):=by
 have l1:=h1.len
 (refine GFn.of_wp Tryz.func80 rfl Tryz.ntmps80 rfl rfl (fun w0=>?_))
 ((repeat (first | refine zS ?_ | refine zA fun _=>?_)))
 refine YD (fun q σ fz' H'=>∃ (k:Nat) (v:Value),k≤n∧q=n - k∧σ=[(4,.int .i64 k),(3,v),(0,.slice A n c)]∧fz=fz'∧Grow YF 64 fz' v (3*k) H' (((l.take k).flatMap XO).map Yd))
  ⟨0,_,Nat.zero_le _,rfl,rfl,rfl,Grow.nil _ _ _⟩ (Zw) (Zb) ?_
 rintro q σ fz' H' ⟨k,v,hk,rfl,rfl,rfl,hG⟩
 obtain ⟨Av,cv,rfl,_,_⟩:=hG.form
 ((repeat (first | refine zS ?_ | refine zA fun _=>?_)))
 ((refine zG ?_;refine zC (fun c1=>?_) (fun c1=>?_)))
 ·obtain ⟨x,hx⟩:=YG (l:=l) (k:=k) Zi
  ((repeat (first | refine zS ?_ | refine zA fun _=>?_)))
  (refine Wp.drawK (Hq:=[]) T.mixed Zj Zj (Zb) ?_)
  ((repeat (first | refine zS ?_ | refine zA fun _=>?_)))
  (((refine zG ?_));refine YA T k Zz Zz Zz Zz Zz Zz h1 (by first | rfl | omega) hx (fun p hp=>?_))
  ((repeat (first | refine zS ?_ | refine zA fun _=>?_)))
  (((refine zG ?_));refine Y9 T Zz Zz Zz hp.Param_name (fun i1=>?_))
  (((refine zG ?_));refine Yj Zz Zz (Ybl (s:=x.name)) ?_)
  (((refine zG ?_));refine Yj Zz Zz (Ybl (s:=X7)) ?_)
  ((repeat (first | refine zS ?_ | refine zA fun _=>?_)))
  (((refine zG ?_));refine YA T k Zz Zz Zz Zz Zz Zz h1 (by first | rfl | omega) hx (fun p2 hp2=>?_))
  ((repeat (first | refine zS ?_ | refine zA fun _=>?_)))
  (((refine zG ?_));refine Y9 T Zz Zz Zz hp2.Param_typ (fun i2=>?_))
  (((refine zG ?_));refine Yj Zz Zz (Ybl (s:=x.typ)) ?_)
  unfold sxV
  (refine Ye ?_)
  (refine Ye ?_)
  (refine Ye ?_)
  (refine YR ⟨by kernel_rfl,?_⟩)
  refine Ys (Yc T (cs:=Ym x.name++Ym X7++Ym x.typ) Zz Zz Zz Zz Zz Zz Zz Zz (fun gb=>⟨(⟨(Le.refl _),by intro p hp;cases hp⟩),?_⟩))
  refine Ys (YhI T (Hr:=[_]) (ys:=[(Yd x.name,Ym x.name),(Yd X7,Ym X7),(Yd x.typ,Ym x.typ)]) (l2:=[Yd x.name,Yd X7,Yd x.typ]) (m:=3) Zz Zz Zz Zz Zz Zz Zz Zz (List.Perm.refl _) hG Yn (.head _) rfl rfl (by
   intro p hp
   simp only [List.mem_cons,List.not_mem_nil,or_false] at hp
   rcases hp with rfl | rfl | rfl
   ·exact Yq i1
   ·exact Yq (by unfold Short X7;decide)
   ·exact Yq i2) rfl (by show _*72≤_;omega) Zi (fun v' Hs' hO'=>⟨(⟨(Le.refl _),by intro p hp;cases hp⟩),?_⟩))
  refine Ch.qk (⟨(Le.refl _),by intro p hp;cases hp⟩) (Xk Zz ?_)
  refine Ch.done ?_
  ((repeat (first | refine zS ?_ | refine zA fun _=>?_)))
  exact YP (H':=Hs') ⟨k+1,_,by omega,rfl,rfl,rfl,hO'.of (by rw [List.take_add_one,hx];simp [XO]) Zi⟩ Zi (Zw) (List.Sublist.cons _ (List.Sublist.refl _))
 ·have hk1:n=k:=by omega
  subst hk1
  rw [List.take_of_length_le Zi] at hG
  ((repeat (first | refine zS ?_ | refine zA fun _=>?_)))
  refine ret1F rfl rfl (fun fz3 hle3 hf3=>?_)
  obtain ⟨A',c',he,hsl⟩:=hG.sl hle3 (fun p hp=>hf3 p hp) Zi
  exact ⟨rfl,_,_,he,hsl⟩
set_option maxHeartbeats 1000000 in
theorem YfN:∀ (s:Nat) {fz:FZ} {e:Lx.Expr} {va vk:Value},SizeOf.sizeOf e≤s→ExprR fz e va vk→
 QFn Tryz.prog 96 [.agg #[.string e.op,.string e.name,.int .i64 e.n,va,vk]] fz (.bool (decide (EOk e)))
 | 0,_,e,_,_,hs,_=>by cases e;simp at hs
 | s+1,fz,e,va,vk,hs,h=>by
  obtain ⟨A,n,ca,rfl,ha⟩:=h.args
  obtain ⟨B,m,cb,rfl,hk⟩:=h.kids
  refine GFn.quiet ?_
  have lk:=hk.len
  have sk:=hk.short
  have no:¬Yc1 e→¬EOk e:=fun h0 h1=>h0 (WZ.1 h1).1
  (refine GFn.of_wp Tryz.func96 rfl Tryz.ntmps96 rfl rfl (fun w0=>?_))
  (refine Yr (Yp (Yb Zz (Xi _ Zz Zz (fun g0=>?_)))))
  ((repeat (first | refine zS ?_ | refine zA fun _=>?_)))
  refine YD (fun q σ fz' H'=>∃ k:Nat,k≤m∧q=m - k∧σ=[(3,.int .i64 k),(1,.pointer (some ⟨g0,0,none⟩))]∧fz=fz'∧H'=[(g0,.cells #[.string e.op,.string e.name,.int .i64 e.n,.slice A n ca,.slice B m cb] 75 (0,0))]∧(∀ i,i<k→∀ x,e.kids[i]?=some x→EOk x)) ⟨0,Nat.zero_le _,rfl,rfl,rfl,rfl,fun i hi=>absurd hi Zi⟩ (Zw) (Zb) ?_
  rintro q σ fz' H' ⟨k,hkm,rfl,rfl,rfl,rfl,hh⟩
  ((repeat (first | refine zS ?_ | refine zA fun _=>?_)))
  ((refine zG ?_;refine zC (fun c1=>?_) (fun c1=>?_)))
  ·obtain ⟨x,hx⟩:=YG (l:=e.kids) (k:=k) Zi
   have hxm:=List.mem_of_getElem? hx
   have hlt:=Lx.Expr.kids_lt hxm
   ((repeat (first | refine zS ?_ | refine zA fun _=>?_)))
   (((refine zG ?_));refine YA T k Zz Zz Zz Zz Zz Zz hk (by first | rfl | omega) hx (fun p1 hp1=>?_))
   (((refine zG ?_));refine Yx T Zz Zz Zz hp1 Zz ?_)
   intro cs hcs
   obtain ⟨wa,wk,rfl,hRx⟩:=YU hcs
   ((repeat (first | refine zS ?_ | refine zA fun _=>?_)))
   (((refine zG ?_));refine Yz Zz Zz (YfN s Zi hRx) (fun f1=>?_) (fun f1=>?_))
   ·((repeat (first | refine zS ?_ | refine zA fun _=>?_)))
    exact YP ⟨k+1,by omega,rfl,rfl,rfl,rfl,YZ hh hx (of_decide_eq_true f1)⟩ Zi (Zw) (Zb)
   ·((repeat (first | refine zS ?_ | refine zA fun _=>?_)))
    (exact ret1 rfl rfl (Zb) (Ya (fun h0=>of_decide_eq_false f1 ((WZ.1 h0).2 x hxm))))
  ·have hK:=XW hh Zi
   have yes:Yc1 e→EOk e:=fun h0=>WZ.2 ⟨h0,hK⟩
   ((repeat (first | refine zS ?_ | refine zA fun _=>?_)))
   ((refine zG ?_;refine zC (fun x1=>?_) (fun y1=>?_)))
   ·have hn:=Yd4 (e:=e) x1
    ((repeat (first | refine zS ?_ | refine zA fun _=>?_)))
    ((((refine zG ?_;refine zC (fun n4=>?_) (fun n4=>?_)));rotate_left 1;(((repeat (first | refine zS ?_ | refine zA fun _=>?_)));(exact ret1 rfl rfl (Zb) (Ya (no (fun h0=>n4 (hn.1 h0).2.2.2.1)))));((repeat (first | refine zS ?_ | refine zA fun _=>?_)))))
    ((((refine zG ?_;refine zC (fun n5=>?_) (fun n5=>?_)));rotate_left 1;(((repeat (first | refine zS ?_ | refine zA fun _=>?_)));(exact ret1 rfl rfl (Zb) (Ya (no (fun h0=>n5 (hn.1 h0).2.2.2.2)))));((repeat (first | refine zS ?_ | refine zA fun _=>?_)))))
    ((((refine zG ?_;refine zC (fun n1=>?_) (fun n1=>?_)));rotate_left 1;(((repeat (first | refine zS ?_ | refine zA fun _=>?_)));(exact ret1 rfl rfl (Zb) (Ya (no (fun h0=>n1 (hn.1 h0).1)))));((repeat (first | refine zS ?_ | refine zA fun _=>?_)))))
    ((((refine zG ?_;refine zC (fun n2=>?_) (fun n2=>?_)));rotate_left 1;(((repeat (first | refine zS ?_ | refine zA fun _=>?_)));(exact ret1 rfl rfl (Zb) (Ya (no (fun h0=>n2 ((len0 ha.len).2 (hn.1 h0).2.1))))));((repeat (first | refine zS ?_ | refine zA fun _=>?_)))))
    ((((refine zG ?_;refine zC (fun n3=>?_) (fun n3=>?_)));rotate_left 1;(((repeat (first | refine zS ?_ | refine zA fun _=>?_)));(exact ret1 rfl rfl (Zb) (Ya (no (fun h0=>n3 ((len0 hk.len).2 (hn.1 h0).2.2.1))))));((repeat (first | refine zS ?_ | refine zA fun _=>?_)))))
    (exact ret1 rfl rfl (Zb) (Yw (yes (hn.2 ⟨n1,(len0 ha.len).1 n2,(len0 hk.len).1 n3,n4,n5⟩))))
   ·((repeat (first | refine zS ?_ | refine zA fun _=>?_)))
    ((refine zG ?_;refine zC (fun x2=>?_) (fun y2=>?_)))
    ·have hn:=Yd5 (e:=e) x2
     ((repeat (first | refine zS ?_ | refine zA fun _=>?_)))
     ((((refine zG ?_;refine zC (fun n1=>?_) (fun n1=>?_)));rotate_left 1;(((repeat (first | refine zS ?_ | refine zA fun _=>?_)));(exact ret1 rfl rfl (Zb) (Ya (no (fun h0=>n1 (hn.1 h0).1)))));((repeat (first | refine zS ?_ | refine zA fun _=>?_)))))
     (((refine zG ?_));refine Yz Zz Zz (Yau h.name) (fun f1=>?_) (fun f1=>?_))
     ·((repeat (first | refine zS ?_ | refine zA fun _=>?_)))
      (((refine zG ?_));refine Yz Zz Zz (Yj9 ha) (fun f2=>?_) (fun f2=>?_))
      ·((repeat (first | refine zS ?_ | refine zA fun _=>?_)))
       ((((refine zG ?_;refine zC (fun n2=>?_) (fun n2=>?_)));rotate_left 1;(((repeat (first | refine zS ?_ | refine zA fun _=>?_)));(exact ret1 rfl rfl (Zb) (Ya (no (fun h0=>n2 ((len0 hk.len).2 (hn.1 h0).2.1))))));((repeat (first | refine zS ?_ | refine zA fun _=>?_)))))
       (exact ret1 rfl rfl (Zb) (Yw (yes (hn.2 ⟨n1,(len0 hk.len).1 n2,of_decide_eq_true f1,of_decide_eq_true f2⟩))))
      ·((repeat (first | refine zS ?_ | refine zA fun _=>?_)))
       (exact ret1 rfl rfl (Zb) (Ya (no (fun h0=>of_decide_eq_false f2 (hn.1 h0).2.2.2))))
     ·((repeat (first | refine zS ?_ | refine zA fun _=>?_)))
      (exact ret1 rfl rfl (Zb) (Ya (no (fun h0=>of_decide_eq_false f1 (hn.1 h0).2.2.1))))
    ·have hn:=Yd6 (e:=e) y1 y2
     ((repeat (first | refine zSO ?_ | refine zA fun _=>?_)))
     refine Wp.cond_false Zz ?_
     refine Yr (Wp.mid (fun σ fz' H'=>∃ b:Bool,σ=[(68,.bool b),(1,.pointer (some ⟨g0,0,none⟩))]∧fz=fz'∧H'=[(g0,.cells #[.string e.op,.string e.name,.int .i64 e.n,.slice A n ca,.slice B m cb] 75 (0,0))]∧(b=true↔BinP e.op)) ?_ ?_)
     ·((repeat (first | refine zS ?_ | refine zA fun _=>?_)))
      ((refine zG ?_;refine zC (fun p1=>?_) (fun p1=>?_)))
      ·((repeat (first | refine zS ?_ | refine zA fun _=>?_)))
       exact midN ⟨true,rfl,rfl,rfl,iff_of_true rfl (.inl p1)⟩ (Zw) (Zb)
      ·((repeat (first | refine zS ?_ | refine zA fun _=>?_)))
       ((refine zG ?_;refine zC (fun p2=>?_) (fun p2=>?_)))
       ·((repeat (first | refine zS ?_ | refine zA fun _=>?_)))
        exact midN ⟨true,rfl,rfl,rfl,iff_of_true rfl (.inr (.inl p2))⟩ (Zw) (Zb)
       ·((repeat (first | refine zS ?_ | refine zA fun _=>?_)))
        ((refine zG ?_;refine zC (fun p3=>?_) (fun p3=>?_)))
        ·((repeat (first | refine zS ?_ | refine zA fun _=>?_)))
         exact midN ⟨true,rfl,rfl,rfl,iff_of_true rfl (.inr (.inr p3))⟩ (Zw) (Zb)
        ·((repeat (first | refine zS ?_ | refine zA fun _=>?_)))
         exact midN ⟨false,rfl,rfl,rfl,iff_of_false (by simp) (fun h0=>h0.elim p1 (fun h0=>h0.elim p2 p3))⟩ (Zw) (Zb)
     ·rintro σ fz' H' ⟨b,rfl,rfl,rfl,hbp⟩
      cases b
      ·((repeat (first | refine zS ?_ | refine zA fun _=>?_)))
       (exact ret1 rfl rfl (Zb) (Ya (no (fun h0=>absurd (hbp.2 (hn.1 h0).1) (by simp)))))
      ·((repeat (first | refine zS ?_ | refine zA fun _=>?_)))
       ((((refine zG ?_;refine zC (fun n1=>?_) (fun n1=>?_)));rotate_left 1;(((repeat (first | refine zS ?_ | refine zA fun _=>?_)));(exact ret1 rfl rfl (Zb) (Ya (no (fun h0=>n1 (hn.1 h0).2.1)))));((repeat (first | refine zS ?_ | refine zA fun _=>?_)))))
       ((((refine zG ?_;refine zC (fun n2=>?_) (fun n2=>?_)));rotate_left 1;(((repeat (first | refine zS ?_ | refine zA fun _=>?_)));(exact ret1 rfl rfl (Zb) (Ya (no (fun h0=>n2 (hn.1 h0).2.2.1)))));((repeat (first | refine zS ?_ | refine zA fun _=>?_)))))
       ((((refine zG ?_;refine zC (fun n3=>?_) (fun n3=>?_)));rotate_left 1;(((repeat (first | refine zS ?_ | refine zA fun _=>?_)));(exact ret1 rfl rfl (Zb) (Ya (no (fun h0=>n3 ((len0 ha.len).2 (hn.1 h0).2.2.2.1))))));((repeat (first | refine zS ?_ | refine zA fun _=>?_)))))
       ((((refine zG ?_;refine zC (fun n4=>?_) (fun n4=>?_)));rotate_left 1;(((repeat (first | refine zS ?_ | refine zA fun _=>?_)));(exact ret1 rfl rfl (Zb) (Ya (no (fun h0=>n4 (by have:=(hn.1 h0).2.2.2.2;omega))))));((repeat (first | refine zS ?_ | refine zA fun _=>?_)))))
       (exact ret1 rfl rfl (Zb) (Yw (yes (hn.2 ⟨hbp.1 rfl,n1,n2,(len0 ha.len).1 n3,by omega⟩))))
theorem YiT {fz:FZ} {e:Lx.Expr} {va vk:Value} (h:ExprR fz e va vk):
 QFn Tryz.prog 96 [.agg #[.string e.op,.string e.name,.int .i64 e.n,va,vk]] fz (.bool (decide (EOk e))):=YfN _ (Nat.le_refl _) h
end Go.Proofs.YtbhlgkibgajajaaGreatDoor
set_option maxRecDepth 20000
namespace Go.Proofs.YtbhlgkibgajajaaGreatDoor
open Go.Lx Go.RowKit
attribute [local instance 10] Classical.propDecidable
theorem YfM {fz:FZ} {A:Option Addr} {n c:Nat} {vars:Bool} {l:List Param} (h1:Sl paramL fz A n c l):
 QFn Tryz.prog 49 [.slice A n c,.bool vars] fz (.bool (decide (∀ p∈l,XD vars p))):=by
 refine GFn.quiet ?_
 have l1:=h1.len
 have hm:=h1.short
 (refine GFn.of_wp Tryz.func49 rfl Tryz.ntmps49 rfl rfl (fun w0=>?_))
 ((repeat (first | refine zS ?_ | refine zA fun _=>?_)))
 refine YD (fun q σ fz' H'=>∃ k:Nat,k≤n∧q=n - k∧σ=[(5,.int .i64 k),(1,.bool vars),(0,.slice A n c)]∧fz=fz'∧H'=[]∧(∀ i,i<k→∀ x,l[i]?=some x→XD vars x)) ⟨0,Nat.zero_le _,rfl,rfl,rfl,rfl,fun i hi=>absurd hi Zi⟩ (Zw) (Zb) ?_
 rintro q σ fz' H' ⟨k,hk,rfl,rfl,rfl,rfl,hh⟩
 ((repeat (first | refine zS ?_ | refine zA fun _=>?_)))
 ((refine zG ?_;refine zC (fun hlt=>?_) (fun hge=>?_)))
 ·obtain ⟨x,hx⟩:=YG (l:=l) (k:=k) Zi
  have bad:¬XD vars x→¬∀ p∈l,XD vars p:=fun h0 h=>h0 (h x (List.mem_of_getElem? hx))
  have sn:Short x.name:=by
   obtain ⟨cs,hr⟩:=Yi2 h1 (List.mem_of_getElem? hx)
   exact (Xy hr).2.name
  have st:Short x.typ:=by
   obtain ⟨cs,hr⟩:=Yi2 h1 (List.mem_of_getElem? hx)
   exact (Xy hr).2.typ
  cases vars
  ·((repeat (first | refine zS ?_ | refine zA fun _=>?_)))
   (((refine zG ?_));refine YA T k Zz Zz Zz Zz Zz Zz h1 (by first | rfl | omega) hx (fun p hp=>?_))
   ((repeat (first | refine zS ?_ | refine zA fun _=>?_)))
   (((refine zG ?_));refine Y9 T Zz Zz Zz hp.Param_name (fun i1=>?_))
   (((refine zG ?_));refine Yz Zz Zz (Yau sn) (fun f1=>?_) (fun f1=>?_))
   ·((repeat (first | refine zS ?_ | refine zA fun _=>?_)))
    (((refine zG ?_));refine YA T k Zz Zz Zz Zz Zz Zz h1 (by first | rfl | omega) hx (fun p2 hp2=>?_))
    ((repeat (first | refine zS ?_ | refine zA fun _=>?_)))
    (((refine zG ?_));refine Y9 T Zz Zz Zz hp2.Param_typ (fun i2=>?_))
    ((repeat (first | refine zS ?_ | refine zA fun _=>?_)))
    ((refine zG ?_;refine zC (fun e1=>?_) (fun e1=>?_)))
    ·((repeat (first | refine zS ?_ | refine zA fun _=>?_)))
     (((refine zG ?_));refine YA T k Zz Zz Zz Zz Zz Zz h1 (by first | rfl | omega) hx (fun p3 hp3=>?_))
     ((repeat (first | refine zS ?_ | refine zA fun _=>?_)))
     (((refine zG ?_));refine Y9 T Zz Zz Zz hp3.Param_typ (fun i3=>?_))
     (((refine zG ?_));refine Yz Zz Zz (Yau st) (fun f2=>?_) (fun f2=>?_))
     ·((repeat (first | refine zS ?_ | refine zA fun _=>?_)))
      exact YP ⟨k+1,by omega,rfl,rfl,rfl,rfl,YZ hh hx ⟨of_decide_eq_true f1,.inl (of_decide_eq_true f2)⟩⟩ Zi (Zw) (Zb)
     ·((repeat (first | refine zS ?_ | refine zA fun _=>?_)))
      (exact ret1 rfl rfl (Zb) (Ya (bad (fun h0=>h0.2.elim (of_decide_eq_false f2) e1))))
    ·((repeat (first | refine zS ?_ | refine zA fun _=>?_)))
     exact YP ⟨k+1,by omega,rfl,rfl,rfl,rfl,YZ hh hx ⟨of_decide_eq_true f1,.inr e1⟩⟩ Zi (Zw) (Zb)
   ·((repeat (first | refine zS ?_ | refine zA fun _=>?_)))
    (exact ret1 rfl rfl (Zb) (Ya (bad (fun h0=>of_decide_eq_false f1 h0.1))))
  ·((repeat (first | refine zS ?_ | refine zA fun _=>?_)))
   (((refine zG ?_));refine YA T k Zz Zz Zz Zz Zz Zz h1 (by first | rfl | omega) hx (fun p hp=>?_))
   ((repeat (first | refine zS ?_ | refine zA fun _=>?_)))
   (((refine zG ?_));refine Y9 T Zz Zz Zz hp.Param_name (fun i1=>?_))
   (((refine zG ?_));refine Yz Zz Zz (Ydz sn) (fun f1=>?_) (fun f1=>?_))
   ·((repeat (first | refine zS ?_ | refine zA fun _=>?_)))
    (((refine zG ?_));refine YA T k Zz Zz Zz Zz Zz Zz h1 (by first | rfl | omega) hx (fun p2 hp2=>?_))
    ((repeat (first | refine zS ?_ | refine zA fun _=>?_)))
    (((refine zG ?_));refine Y9 T Zz Zz Zz hp2.Param_typ (fun i2=>?_))
    ((repeat (first | refine zS ?_ | refine zA fun _=>?_)))
    ((refine zG ?_;refine zC (fun e1=>?_) (fun e1=>?_)))
    ·((repeat (first | refine zS ?_ | refine zA fun _=>?_)))
     (((refine zG ?_));refine YA T k Zz Zz Zz Zz Zz Zz h1 (by first | rfl | omega) hx (fun p3 hp3=>?_))
     ((repeat (first | refine zS ?_ | refine zA fun _=>?_)))
     (((refine zG ?_));refine Y9 T Zz Zz Zz hp3.Param_typ (fun i3=>?_))
     (((refine zG ?_));refine Yz Zz Zz (Yau st) (fun f2=>?_) (fun f2=>?_))
     ·((repeat (first | refine zS ?_ | refine zA fun _=>?_)))
      exact YP ⟨k+1,by omega,rfl,rfl,rfl,rfl,YZ hh hx ⟨of_decide_eq_true f1,.inl (of_decide_eq_true f2)⟩⟩ Zi (Zw) (Zb)
     ·((repeat (first | refine zS ?_ | refine zA fun _=>?_)))
      (exact ret1 rfl rfl (Zb) (Ya (bad (fun h0=>h0.2.elim (of_decide_eq_false f2) e1))))
    ·((repeat (first | refine zS ?_ | refine zA fun _=>?_)))
     exact YP ⟨k+1,by omega,rfl,rfl,rfl,rfl,YZ hh hx ⟨of_decide_eq_true f1,.inr e1⟩⟩ Zi (Zw) (Zb)
   ·((repeat (first | refine zS ?_ | refine zA fun _=>?_)))
    (exact ret1 rfl rfl (Zb) (Ya (bad (fun h0=>of_decide_eq_false f1 h0.1))))
 ·((repeat (first | refine zS ?_ | refine zA fun _=>?_)))
  (exact ret1 rfl rfl (Zb) (Yw (XW hh Zi)))
set_option maxHeartbeats 2000000 in
theorem YjM:∀ (s:Nat) {fz:FZ} {f:Formula} {va vp ve vk:Value},SizeOf.sizeOf f≤s→FormulaR fz f va vp ve vk→FShape f→
 GFn Tryz.prog 84 [.agg #[.string f.op,.string f.name,va,vp,ve,vk]] fz [] (fun v fz' H'=>H'=[]∧SxIs fz' v (YN f))
 | 0,_,f,_,_,_,_,hs,_,_=>by cases f;simp at hs
 | s+1,fz,f,va,vp,ve,vk,hs,h,hF=>by
  obtain ⟨A,n,c,rfl,ha⟩:=h.args
  obtain ⟨B,m,d,rfl,hp⟩:=h.params
  obtain ⟨C,r,cr,rfl,he⟩:=h.exprs
  obtain ⟨D,q,cq,rfl,hk⟩:=h.kids
  have lk:=hk.len
  (refine GFn.of_wp Tryz.func84 rfl Tryz.ntmps84 rfl rfl (fun w0=>?_))
  (refine Yr (Yp (Yb Zz (Xi _ Zz Zz (fun g0=>?_)))))
  ((repeat (first | refine zS ?_ | refine zA fun _=>?_)))
  rename_i g1
  ((refine zG ?_;refine zC (fun x1=>?_) (fun y1=>?_)))
  ·have hn:f.args.length≤1000000000:=by
    cases hF with
    | atom _ hn=>exact hn
    | cmp hc=>rw [show f.op=kAtom from x1] at hc;rcases hc with hc | hc | hc<;>exact absurd (congrArg ByteArray.size hc) Zh
    | other h0=>exact absurd x1 h0
   ((repeat (first | refine zS ?_ | refine zA fun _=>?_)))
   (refine Yb Zz (YB [] [_,_] Zz Zz Zz (YgZ (f0:=f.name) h.name ha (by rw [← ha.len];exact hn)) (fun v fz2 H2 hle2 hR=>?_)))
   obtain ⟨rfl,cs,rfl,hr⟩:=hR
   obtain ⟨vk6,rfl,hX⟩:=Yt hr
   obtain ⟨A6,n6,b6,rfl,_⟩:=hX.kids
   ((repeat (first | refine zS ?_ | refine zA fun _=>?_)))
   refine Y4 T (i:=0) rfl Zz Zz Zz Zz Zz (fun fz3 hle3 hf3=>⟨rfl,?_⟩)
   rw [YaE,if_pos (show f.op=kAtom from x1)]
   exact SxIs.mono hle3 ⟨_,rfl,Yg hX⟩
  ·((repeat (first | refine zS ?_ | refine zA fun _=>?_)))
   ((refine zG ?_;refine zC (fun x2=>?_) (fun y2=>?_)))
   ·have hn:f.args.length≤1000000000:=by
     cases hF with
     | atom _ hn=>exact hn
     | cmp hc=>rw [show f.op=kSame from x2] at hc;rcases hc with hc | hc | hc<;>exact absurd (congrArg ByteArray.size hc) Zh
     | other _ h1=>exact absurd x2 h1
    ((repeat (first | refine zS ?_ | refine zA fun _=>?_)))
    (refine Yb Zz (YB [] [_,_] Zz Zz Zz (YgZ (f0:=kEq) (by unfold Short kEq;decide) ha (by rw [← ha.len];exact hn)) (fun v fz2 H2 hle2 hR=>?_)))
    obtain ⟨rfl,cs,rfl,hr⟩:=hR
    obtain ⟨vk6,rfl,hX⟩:=Yt hr
    obtain ⟨A6,n6,b6,rfl,_⟩:=hX.kids
    ((repeat (first | refine zS ?_ | refine zA fun _=>?_)))
    refine Y4 T (i:=0) rfl Zz Zz Zz Zz Zz (fun fz3 hle3 hf3=>⟨rfl,?_⟩)
    rw [YaE,if_neg (show ¬f.op=kAtom from y1),if_pos (show f.op=kSame from x2)]
    exact SxIs.mono hle3 ⟨_,rfl,Yg hX⟩
   ·((repeat (first | refine zSO ?_ | refine zA fun _=>?_)))
    refine Wp.cond_false Zz ?_
    refine Yr (Wp.mid (fun σ fz' H'=>∃ b:Bool,σ=[(19,.bool b),(2,.pointer (some ⟨g1,0,none⟩)),(1,.pointer (some ⟨g0,0,none⟩))]∧fz=fz'∧
     H'=[(g1,.cells #[.int .i64 0,.int .i64 0,.int .i64 0,.int .i64 0,.string ⟨#[]⟩,.slice none 0 0] 64 (0,0)),(g0,.cells #[.string f.op,.string f.name,.slice A n c,.slice B m d,.slice C r cr,.slice D q cq] 36 (0,0))]∧(b=true↔CmpOp f.op)) ?_ ?_)
    ·((repeat (first | refine zS ?_ | refine zA fun _=>?_)))
     ((refine zG ?_;refine zC (fun p1=>?_) (fun p1=>?_)))
     ·((repeat (first | refine zS ?_ | refine zA fun _=>?_)))
      exact midN ⟨true,rfl,rfl,rfl,iff_of_true rfl (.inl p1)⟩ (Zw) (Zb)
     ·((repeat (first | refine zS ?_ | refine zA fun _=>?_)))
      ((refine zG ?_;refine zC (fun p2=>?_) (fun p2=>?_)))
      ·((repeat (first | refine zS ?_ | refine zA fun _=>?_)))
       exact midN ⟨true,rfl,rfl,rfl,iff_of_true rfl (.inr (.inl p2))⟩ (Zw) (Zb)
      ·((repeat (first | refine zS ?_ | refine zA fun _=>?_)))
       ((refine zG ?_;refine zC (fun p3=>?_) (fun p3=>?_)))
       ·((repeat (first | refine zS ?_ | refine zA fun _=>?_)))
        exact midN ⟨true,rfl,rfl,rfl,iff_of_true rfl (.inr (.inr p3))⟩ (Zw) (Zb)
       ·((repeat (first | refine zS ?_ | refine zA fun _=>?_)))
        exact midN ⟨false,rfl,rfl,rfl,iff_of_false (by simp) (fun h0=>h0.elim p1 (fun h0=>h0.elim p2 p3))⟩ (Zw) (Zb)
    ·rintro σ fz' H' ⟨b,rfl,rfl,rfl,hbp⟩
     cases b
     ·have hc:¬CmpOp f.op:=fun h0=>by simpa using hbp.2 h0
      obtain ⟨hpn,hkn,hks⟩:f.params.length≤1000000000∧f.kids.length≤1000000000∧∀ k∈f.kids,FShape k:=by
       cases hF with
       | atom h0=>exact (h0.elim y1 y2).elim
       | cmp h1=>exact absurd h1 hc
       | other _ _ _ h1 h2 h3=>exact ⟨h1,h2,h3⟩
      have heq:=YaE f
      rw [if_neg (show ¬f.op=kAtom from y1),if_neg (show ¬f.op=kSame from y2),if_neg hc] at heq
      -- the part behind the list of nothing
      have rest:(f.op≠kAnd∨f.kids≠ [])→YN f=Yv ([Yd f.op]++(if f.op=XN∨f.op=We then [Yv ((f.params.flatMap XO).map Yd)] else [])++f.kids.map YN):=fun h0=>by rw [heq,if_pos h0]
      ((repeat (first | refine zSO ?_ | refine zA fun _=>?_)))
      refine Wp.cond_false Zz ?_
      refine Wj ?_
      refine blkN ?_
      refine YbU ?_
      refine Yr (Wp.mid (fun σ fz' H'=>σ=[(2,.pointer (some ⟨g1,0,none⟩)),(1,.pointer (some ⟨g0,0,none⟩))]∧fz=fz'∧H'=[(g1,.cells #[.int .i64 0,.int .i64 0,.int .i64 0,.int .i64 0,.string ⟨#[]⟩,.slice none 0 0] 64 (0,0)),(g0,.cells #[.string f.op,.string f.name,.slice A n c,.slice B m d,.slice C r cr,.slice D q cq] 36 (0,0))]∧(f.op≠kAnd∨f.kids≠ [])) ?_ ?_)
      ·((repeat (first | refine zS ?_ | refine zA fun _=>?_)))
       ((refine zG ?_;refine zC (fun z1=>?_) (fun z1=>?_)))
       ·((repeat (first | refine zS ?_ | refine zA fun _=>?_)))
        ((refine zG ?_;refine zC (fun z2=>?_) (fun z2=>?_)))
        ·have hk0:f.kids=[]:=List.eq_nil_of_length_eq_zero Zi
         ((repeat (first | refine zS ?_ | refine zA fun _=>?_)))
         refine Y4 T (i:=0) rfl Zz Zz Zz Zz Zz (fun fz3 hle3 hf3=>⟨rfl,?_⟩)
         rw [heq,if_neg (by rintro (h0 | h0);exact h0 z1;exact h0 hk0),if_neg (by rw [show f.op=kAnd from z1];rintro (h0 | h0)<;>exact absurd (congrArg ByteArray.size h0) Zh),hk0]
         exact XQ (Sl.nil Zh)
        ·have hk0:f.kids≠ []:=fun h0=>by rw [h0] at lk;simp at lk;omega
         ((repeat (first | refine zS ?_ | refine zA fun _=>?_)))
         exact midN ⟨rfl,rfl,rfl,.inr hk0⟩ (Zw) (Zb)
       ·((repeat (first | refine zS ?_ | refine zA fun _=>?_)))
        exact midN ⟨rfl,rfl,rfl,.inl z1⟩ (Zw) (Zb)
      ·rintro σ fz' H' ⟨rfl,rfl,rfl,hne⟩
       have heq:=rest hne
       ((repeat (first | refine zS ?_ | refine zA fun _=>?_)))
       (((refine zG ?_));refine Yj Zz Zz (Ybl (s:=f.op)) ?_)
       unfold sxV
       refine Yb Zz (Yc T (cs:=Ym f.op) Zz Zz Zz Zz Zz Zz Zz Zz (fun gb0=>?_))
       ((repeat (first | refine zSO ?_ | refine zA fun _=>?_)))
       have hG:Grow YF 64 fz (.slice (some ⟨gb0,0,none⟩) 1 1) 1 [(gb0,.cells (Ym f.op).toArray 64 (0,0))] [Yd f.op]:=Grow.block (ys:=[(Yd f.op,Ym f.op)]) rfl rfl (by simpa using Yq h.op) rfl Zh
       refine Yr (Wp.mid (fun σ fz' H'=>∃ (v:Value) (k:Nat) (Hs:HP),σ=[(3,v),(2,.pointer (some ⟨g1,0,none⟩)),(1,.pointer (some ⟨g0,0,none⟩))]∧Le fz fz'∧k≤2∧H'=(g1,.cells #[.int .i64 0,.int .i64 0,.int .i64 0,.int .i64 0,.string ⟨#[]⟩,.slice none 0 0] 64 (0,0))::(g0,.cells #[.string f.op,.string f.name,.slice A n c,.slice B m d,.slice C r cr,.slice D q cq] 36 (0,0))::Hs∧
        Grow YF 64 fz' v k Hs ([Yd f.op]++(if f.op=XN∨f.op=We then [Yv ((f.params.flatMap XO).map Yd)] else []))) ?_ ?_)
       ·((repeat (first | refine zS ?_ | refine zA fun _=>?_)))
        ((refine zG ?_;refine zC (fun w1=>?_) (fun w1=>?_)))
        ·((repeat (first | refine zS ?_ | refine zA fun _=>?_)))
         (refine Yb Zz (YB [] _ Zz Zz Zz (YdL hp (by rw [← hp.len];exact hpn)) (fun v2 fz2 H2 hle2 hR2=>?_)))
         obtain ⟨rfl,B2,cc2,rfl,hsl2⟩:=hR2
         ((repeat (first | refine zS ?_ | refine zA fun _=>?_)))
         refine Yb Zz (Yc T (cs:=[.int .i64 3,.int .i64 0,.int .i64 0,.int .i64 0,.string ⟨#[]⟩,.slice B2 (3*m) cc2]) Zz Zz Zz Zz Zz Zz Zz Zz (fun gb=>?_))
         refine Yb Zz (Y3 T (Hr:=[_,_,_]) (d:=Yv ((f.params.flatMap XO).map Yd)) Zz Zz Zz Zz Zz Zz Zz Zz (Xm [0,2,3,1] rfl rfl).symm (hG.mono hle2) Yn (.head _) (Yg (x:=Yv _) ⟨YcO,Xp,Xp,Xp,Y0,hsl2.is⟩) (by show _*72≤_;omega) Zi (fun v' Hs' hO'=>?_))
         obtain ⟨Av',cv',rfl,_,_⟩:=hO'.form
         ((repeat (first | refine zS ?_ | refine zA fun _=>?_)))
         exact midN ⟨_,1+1,Hs',rfl,hle2,by omega,rfl,by rw [if_pos (Or.inl w1:f.op=XN∨f.op=We)];exact hO'⟩ (Zw) (Zb)
        ·((repeat (first | refine zS ?_ | refine zA fun _=>?_)))
         ((refine zG ?_;refine zC (fun w2=>?_) (fun w2=>?_)))
         ·((repeat (first | refine zS ?_ | refine zA fun _=>?_)))
          (refine Yb Zz (YB [] _ Zz Zz Zz (YdL hp (by rw [← hp.len];exact hpn)) (fun v2 fz2 H2 hle2 hR2=>?_)))
          obtain ⟨rfl,B2,cc2,rfl,hsl2⟩:=hR2
          ((repeat (first | refine zS ?_ | refine zA fun _=>?_)))
          refine Yb Zz (Yc T (cs:=[.int .i64 3,.int .i64 0,.int .i64 0,.int .i64 0,.string ⟨#[]⟩,.slice B2 (3*m) cc2]) Zz Zz Zz Zz Zz Zz Zz Zz (fun gb=>?_))
          refine Yb Zz (Y3 T (Hr:=[_,_,_]) (d:=Yv ((f.params.flatMap XO).map Yd)) Zz Zz Zz Zz Zz Zz Zz Zz (Xm [0,2,3,1] rfl rfl).symm (hG.mono hle2) Yn (.head _) (Yg (x:=Yv _) ⟨YcO,Xp,Xp,Xp,Y0,hsl2.is⟩) (by show _*72≤_;omega) Zi (fun v' Hs' hO'=>?_))
          obtain ⟨Av',cv',rfl,_,_⟩:=hO'.form
          ((repeat (first | refine zS ?_ | refine zA fun _=>?_)))
          exact midN ⟨_,1+1,Hs',rfl,hle2,by omega,rfl,by rw [if_pos (Or.inr w2:f.op=XN∨f.op=We)];exact hO'⟩ (Zw) (Zb)
         ·((repeat (first | refine zS ?_ | refine zA fun _=>?_)))
          exact midP (Xm [1,2,0] rfl rfl) ⟨_,1,_,rfl,Le.refl _,by omega,rfl,by rw [if_neg (show ¬(f.op=XN∨f.op=We) from fun h0=>h0.elim w1 w2),List.append_nil];exact hG⟩ (Zw) (Zb)
       ·rintro σ fz' H' ⟨v,k,Hs,rfl,hle,hk1,rfl,hG⟩
        generalize hbase: [Yd f.op]++(if f.op=XN∨f.op=We then [Yv ((f.params.flatMap XO).map Yd)] else [])=base at hG heq
        ((repeat (first | refine zS ?_ | refine zA fun _=>?_)))
        refine YD (fun mm σ fz2 H'=>∃ (j:Nat) (v:Value) (k:Nat) (Hs:HP),j≤q∧mm=q - j∧σ=[(4,.int .i64 j),(3,v),(2,.pointer (some ⟨g1,0,none⟩)),(1,.pointer (some ⟨g0,0,none⟩))]∧Le fz' fz2∧k≤2+j∧
         H'=(g1,.cells #[.int .i64 0,.int .i64 0,.int .i64 0,.int .i64 0,.string ⟨#[]⟩,.slice none 0 0] 64 (0,0))::(g0,.cells #[.string f.op,.string f.name,.slice A n c,.slice B m d,.slice C r cr,.slice D q cq] 36 (0,0))::Hs∧Grow YF 64 fz2 v k Hs (base++(f.kids.take j).map YN))
         ⟨0,v,k,Hs,Nat.zero_le _,rfl,rfl,Le.refl _,by omega,rfl,by simpa using hG⟩ (Zw) (Zb) ?_
        rintro mm σ fz2 H' ⟨j,v,k,Hs,hj,rfl,rfl,hle2,hk2,rfl,hG⟩
        obtain ⟨Av,cv,rfl,_,_⟩:=hG.form
        have hk3:=hk.mono (hle.trans hle2)
        ((repeat (first | refine zS ?_ | refine zA fun _=>?_)))
        ((refine zG ?_;refine zC (fun c1=>?_) (fun c1=>?_)))
        ·obtain ⟨x,hx⟩:=YG (l:=f.kids) (k:=j) Zi
         have hxm:x∈f.kids:=List.mem_of_getElem? hx
         have hlt:=Formula.kids_lt hxm
         ((repeat (first | refine zS ?_ | refine zA fun _=>?_)))
         (((refine zG ?_));refine YA T j Zz Zz Zz Zz Zz Zz hk3 (by first | rfl | omega) hx (fun p hp5=>?_))
         (((refine zG ?_));refine Yx T Zz Zz Zz hp5 Zz ?_)
         intro cs hcs
         obtain ⟨wa,wp,we,wk,rfl,hRx⟩:=Xc hcs
         (refine Yb Zz (YB [] _ Zz Zz Zz (YjM s (f:=x) Zi hRx (hks x hxm)) (fun v2 fz4 H2 hle4 hR2=>?_)))
         obtain ⟨rfl,cs3,rfl,hr3⟩:=hR2
         obtain ⟨vk3,rfl,hR3⟩:=Yt hr3
         refine Yb Zz (Yc T (cs:=[.int .i64 (YN x).kind,.int .i64 (YN x).value,.int .i64 (YN x).line,.int .i64 (YN x).column,.string (YN x).text,vk3]) Zz Zz Zz Zz Zz Zz Zz Zz (fun gb=>?_))
         refine Yb Zz (Y3 T (Hr:=[_,_,_]) (d:=YN x) Zz Zz Zz Zz Zz Zz Zz Zz (List.Perm.refl _) (hG.mono hle4) Yn (.head _) (Yg hR3) (by show _*72≤_;omega) Zi (fun v' Hs' hO'=>?_))
         obtain ⟨Av',cv',rfl,_,_⟩:=hO'.form
         ((repeat (first | refine zS ?_ | refine zA fun _=>?_)))
         exact YP ⟨j+1,_,k+1,Hs',by omega,rfl,rfl,hle2.trans hle4,by omega,rfl,by rw [List.take_add_one,hx,Option.toList,List.map_append,← List.append_assoc];exact hO'⟩ Zi (Zw) (Zb)
        ·have hj1:j=q:=by omega
         subst hj1
         ((repeat (first | refine zS ?_ | refine zA fun _=>?_)))
         refine Y4 T (i:=0) rfl Zz Zz Zz Zz Zz (fun fz3 hle3 hf3=>⟨rfl,?_⟩)
         rw [List.take_of_length_le Zi] at hG
         obtain ⟨A',c',he5,hsl⟩:=hG.sl hle3 (fun p hp=>hf3 p (by simp [hp])) Zi
         injection he5 with e1 e2 e3
         subst e1 e3
         rw [heq]
         exact XQ hsl
     ·have hcmp:CmpOp f.op:=hbp.1 rfl
      obtain ⟨a,b,hab,hsa,hsb⟩:=Yh4 hF hcmp
      have l2:=he.len
      rw [hab] at l2
      simp at l2
      subst l2
      ((repeat (first | refine zS ?_ | refine zA fun _=>?_)))
      (refine Wp.drawK (Hq:=[_,_]) T.mixed Zj Zj (Zb) ?_)
      ((repeat (first | refine zS ?_ | refine zA fun _=>?_)))
      (((refine zG ?_));refine Yj Zz Zz (Ybl (s:=f.op)) ?_)
      ((repeat (first | refine zS ?_ | refine zA fun _=>?_)))
      (((refine zG ?_));refine YA T 0 Zz Zz Zz Zz Zz Zz he (by first | rfl | omega) (by rw [hab];rfl:f.exprs[0]?=some a) (fun p hp0=>?_))
      (((refine zG ?_));refine Yx T Zz Zz Zz hp0 Zz ?_)
      intro cs hcs
      obtain ⟨wa,wk,rfl,hRa⟩:=YU hcs
      (refine Ye ?_)
      ((repeat (first | refine zS ?_ | refine zA fun _=>?_)))
      (((refine zG ?_));refine YA T 1 Zz Zz Zz Zz Zz Zz he (by first | rfl | omega) (by rw [hab];rfl:f.exprs[1]?=some b) (fun p2 hp2=>?_))
      (((refine zG ?_));refine Yx T Zz Zz Zz hp2 Zz ?_)
      intro cs2 hcs2
      obtain ⟨za,zk,rfl,hRb⟩:=YU hcs2
      (refine Ye ?_)
      (refine Ye ?_)
      (refine Ye ?_)
      (refine Ye ?_)
      (refine YR ⟨by kernel_rfl,?_⟩)
      refine Ys (YB [] [_,_] Zz Zz Zz (YjT hRa hsa) (fun v2 fz2 H2 hle2 hR2=>?_))
      obtain ⟨rfl,cs3,rfl,hr3⟩:=hR2
      obtain ⟨vk3,rfl,hR3⟩:=Yt hr3
      refine ⟨(⟨hle2,Zp2⟩),?_⟩
      refine Ys (YB [] [_,_] Zz Zz Zz (YjT (hRb.mono hle2) hsb) (fun v4 fz4 H4 hle4 hR4=>?_))
      obtain ⟨rfl,cs5,rfl,hr5⟩:=hR4
      obtain ⟨vk5,rfl,hR5⟩:=Yt hr5
      refine ⟨(⟨(hle2.trans hle4),Zp2⟩),?_⟩
      refine Ys (Yc T (cs:=Ym f.op++ [.int .i64 (Y8 a).kind,.int .i64 (Y8 a).value,.int .i64 (Y8 a).line,.int .i64 (Y8 a).column,.string (Y8 a).text,vk3]++ [.int .i64 (Y8 b).kind,.int .i64 (Y8 b).value,.int .i64 (Y8 b).line,.int .i64 (Y8 b).column,.string (Y8 b).text,vk5]) Zz Zz Zz Zz Zz Zz Zz Zz (fun gb=>⟨(⟨(hle2.trans hle4),Zp3⟩),?_⟩))
      refine Ch.qk (⟨(hle2.trans hle4),Zp3⟩) (Yat T Zz Zz Zz Zz Zz ?_)
      refine Ch.hard0 Zj (YT T Zz Zz Zz Zz Zz Zz ?_)
      refine Ch.done ?_
      ((repeat (first | refine zS ?_ | refine zA fun _=>?_)))
      refine Y4 T (i:=1) rfl Zz Zz Zz Zz Zz (fun fz3 hle3 hf3=>⟨rfl,?_⟩)
      rw [YaE,if_neg (show ¬f.op=kAtom from y1),if_neg (show ¬f.op=kSame from y2),if_pos hcmp,hab]
      exact Ybn h.op (hf3 _ (.head _)) (hR3.mono (hle4.trans hle3)) (hR5.mono hle3)
theorem YjL {fz:FZ} {f:Formula} {va vp ve vk:Value} (h:FormulaR fz f va vp ve vk) (hF:FShape f):
 GFn Tryz.prog 84 [.agg #[.string f.op,.string f.name,va,vp,ve,vk]] fz [] (fun v fz' H'=>H'=[]∧SxIs fz' v (YN f)):=YjM _ (Nat.le_refl _) h hF
end Go.Proofs.YtbhlgkibgajajaaGreatDoor
set_option maxRecDepth 20000
namespace Go.Proofs.YtbhlgkibgajajaaGreatDoor
open Go.Lx Go.RowKit
attribute [local instance 10] Classical.propDecidable
theorem Yfn {f:Formula} {k:Nat × Bool × Nat} (h:Ydi f=some k):YcC f↔Yhc f∧Yhb f k∧∀ p∈f.params,XD true p:=by
 unfold YcC XD
 constructor
 ·rintro ⟨a,⟨k',h1,h2⟩,c⟩
  rw [h] at h1
  cases h1
  exact ⟨a,h2,fun p hp=>by simpa using c p hp⟩
 ·rintro ⟨a,b,c⟩
  exact ⟨a,⟨k,h,b⟩,fun p hp=>by simpa using c p hp⟩
theorem Yit {f:Formula} (h:f.op=kAtom):YcC f↔Xn f.name∧(∀ s∈f.args,YbE s)∧f.params.length=0∧f.exprs.length=0∧f.kids.length=0:=by
 have ns:f.op≠kSame:=fun h0=>absurd (congrArg (fun s=>WP s 0) (h.symm.trans h0)) Zh
 rw [Yfn (k:=(0,false,0)) (if_pos (.inl h))]
 unfold Yhc Yhb
 constructor
 ·rintro ⟨⟨a,b,c⟩,⟨d,e,g,i⟩,j⟩
  exact ⟨a h,c (.inl h),by rw [i rfl];rfl,e,g⟩
 ·rintro ⟨a,b,c,d,e⟩
  exact ⟨⟨fun _=>a,fun h0=>absurd h0 ns,fun _=>b⟩,⟨fun h0=>absurd h h0,d,e,fun _=>List.eq_nil_of_length_eq_zero c⟩,fun p hp=>by rw [List.eq_nil_of_length_eq_zero c] at hp;cases hp⟩
theorem Yis {f:Formula} (h:f.op=kSame):YcC f↔f.name=Xx∧f.args.length=2∧(∀ s∈f.args,YbE s)∧f.params.length=0∧f.exprs.length=0∧f.kids.length=0:=by
 have ns:f.op≠kAtom:=fun h0=>absurd (congrArg (fun s=>WP s 0) (h.symm.trans h0)) Zh
 rw [Yfn (k:=(0,false,0)) (if_pos (.inr h))]
 unfold Yhc Yhb
 constructor
 ·rintro ⟨⟨a,b,c⟩,⟨d,e,g,i⟩,j⟩
  exact ⟨(b h).1,(b h).2,c (.inr h),by rw [i rfl];rfl,e,g⟩
 ·rintro ⟨a,b,b2,c,d,e⟩
  exact ⟨⟨fun h0=>absurd h0 ns,fun _=>⟨a,b⟩,fun _=>b2⟩,⟨fun _ h1=>absurd h h1,d,e,fun _=>List.eq_nil_of_length_eq_zero c⟩,fun p hp=>by rw [List.eq_nil_of_length_eq_zero c] at hp;cases hp⟩
theorem YeI {f:Formula} {k:Nat × Bool × Nat} (h1:¬f.op=kAtom) (h2:¬f.op=kSame) (hk:Ydi f=some k):
 YcC f↔f.name=Xx∧f.args.length=0∧f.exprs.length=k.1∧f.kids.length=k.2.2∧(k.2.1=false→f.params.length=0)∧∀ p∈f.params,XD true p:=by
 rw [Yfn hk]
 unfold Yhc Yhb
 constructor
 ·rintro ⟨_,⟨d,e,g,i⟩,j⟩
  exact ⟨(d h1 h2).1,by rw [(d h1 h2).2];rfl,e,g,fun h0=>by rw [i h0];rfl,j⟩
 ·rintro ⟨a,b,c,d,e,i⟩
  exact ⟨⟨fun h0=>absurd h0 h1,fun h0=>absurd h0 h2,fun h0=>(h0.elim h1 h2).elim⟩,⟨fun _ _=>⟨a,List.eq_nil_of_length_eq_zero b⟩,c,d,fun h0=>List.eq_nil_of_length_eq_zero (e h0)⟩,i⟩
theorem YbP {f:Formula} {a b:Nat} (h1:¬f.op=kAtom) (h2:¬f.op=kSame) (hk:Ydi f=some (a,false,b)):
 YcC f↔f.name=Xx∧f.args.length=0∧f.exprs.length=a∧f.kids.length=b∧f.params.length=0:=by
 rw [YeI h1 h2 hk]
 constructor
 ·rintro ⟨a,b,c,d,e,_⟩
  exact ⟨a,b,c,d,e rfl⟩
 ·rintro ⟨a,b,c,d,e⟩
  exact ⟨a,b,c,d,fun _=>e,fun p hp=>by rw [List.eq_nil_of_length_eq_zero e] at hp;cases hp⟩
set_option maxHeartbeats 4000000 in
theorem YfO:∀ (s:Nat) {fz:FZ} {f:Formula} {va vp ve vk:Value},SizeOf.sizeOf f≤s→FormulaR fz f va vp ve vk→
 QFn Tryz.prog 50 [.agg #[.string f.op,.string f.name,va,vp,ve,vk]] fz (.bool (decide (FOk f)))
 | 0,_,e,_,_,_,_,hs,_=>by cases e;simp at hs
 | s+1,fz,f,va,vp,ve,vk,hs,h=>by
  obtain ⟨A,n,ca,rfl,ha⟩:=h.args
  obtain ⟨B,m,cb,rfl,hp⟩:=h.params
  obtain ⟨C,r,cr,rfl,he⟩:=h.exprs
  obtain ⟨D,q,cq,rfl,hk⟩:=h.kids
  refine GFn.quiet ?_
  have la:=ha.len
  have lp:=hp.len
  have le:=he.len
  have lk:=hk.len
  have sa:=ha.short
  have sp:=hp.short
  have se:=he.short
  have sk:=hk.short
  have no:¬YcC f→¬FOk f:=fun h0 h1=>h0 (Wl.1 h1).1
  (refine GFn.of_wp Tryz.func50 rfl Tryz.ntmps50 rfl rfl (fun w0=>?_))
  (refine Yr (Yp (Yb Zz (Xi _ Zz Zz (fun g0=>?_)))))
  ((repeat (first | refine zS ?_ | refine zA fun _=>?_)))
  refine YD (fun mm σ fz' H'=>∃ k:Nat,k≤q∧mm=q - k∧σ=[(3,.int .i64 k),(1,.pointer (some ⟨g0,0,none⟩))]∧fz=fz'∧H'=[(g0,.cells #[.string f.op,.string f.name,.slice A n ca,.slice B m cb,.slice C r cr,.slice D q cq] 36 (0,0))]∧(∀ i,i<k→∀ x,f.kids[i]?=some x→FOk x)) ⟨0,Nat.zero_le _,rfl,rfl,rfl,rfl,fun i hi=>absurd hi Zi⟩ (Zw) (Zb) ?_
  rintro mm σ fz' H' ⟨k,hkm,rfl,rfl,rfl,rfl,hh⟩
  ((repeat (first | refine zS ?_ | refine zA fun _=>?_)))
  ((refine zG ?_;refine zC (fun c1=>?_) (fun c1=>?_)))
  ·obtain ⟨x,hx⟩:=YG (l:=f.kids) (k:=k) Zi
   have hxm:=List.mem_of_getElem? hx
   have hlt:=Formula.kids_lt hxm
   ((repeat (first | refine zS ?_ | refine zA fun _=>?_)))
   (((refine zG ?_));refine YA T k Zz Zz Zz Zz Zz Zz hk (by first | rfl | omega) hx (fun p1 hp1=>?_))
   (((refine zG ?_));refine Yx T Zz Zz Zz hp1 Zz ?_)
   intro cs hcs
   obtain ⟨wa,wp,we,wk,rfl,hRx⟩:=Xc hcs
   ((repeat (first | refine zS ?_ | refine zA fun _=>?_)))
   (((refine zG ?_));refine Yz Zz Zz (YfO s Zi hRx) (fun f1=>?_) (fun f1=>?_))
   ·((repeat (first | refine zS ?_ | refine zA fun _=>?_)))
    exact YP ⟨k+1,by omega,rfl,rfl,rfl,rfl,YZ hh hx (of_decide_eq_true f1)⟩ Zi (Zw) (Zb)
   ·((repeat (first | refine zS ?_ | refine zA fun _=>?_)))
    (exact ret1 rfl rfl (Zb) (Ya (fun h0=>of_decide_eq_false f1 ((Wl.1 h0).2.2 x hxm))))
  ·have hK:=XW hh Zi
   ((repeat (first | refine zS ?_ | refine zA fun _=>?_)))
   refine YD (fun mm σ fz' H'=>∃ k:Nat,k≤r∧mm=r - k∧σ=[(4,.int .i64 k),(1,.pointer (some ⟨g0,0,none⟩))]∧fz=fz'∧H'=[(g0,.cells #[.string f.op,.string f.name,.slice A n ca,.slice B m cb,.slice C r cr,.slice D q cq] 36 (0,0))]∧(∀ i,i<k→∀ x,f.exprs[i]?=some x→EOk x)) ⟨0,Nat.zero_le _,rfl,rfl,rfl,rfl,fun i hi=>absurd hi Zi⟩ (Zw) (Zb) ?_
   rintro mm σ fz' H' ⟨k2,hkm2,rfl,rfl,rfl,rfl,hh2⟩
   ((repeat (first | refine zS ?_ | refine zA fun _=>?_)))
   ((refine zG ?_;refine zC (fun c2=>?_) (fun c2=>?_)))
   ·obtain ⟨x,hx⟩:=YG (l:=f.exprs) (k:=k2) Zi
    have hxm:=List.mem_of_getElem? hx
    ((repeat (first | refine zS ?_ | refine zA fun _=>?_)))
    (((refine zG ?_));refine YA T k2 Zz Zz Zz Zz Zz Zz he (by first | rfl | omega) hx (fun p1 hp1=>?_))
    (((refine zG ?_));refine Yx T Zz Zz Zz hp1 Zz ?_)
    intro cs hcs
    obtain ⟨wa,wk,rfl,hRx⟩:=YU hcs
    ((repeat (first | refine zS ?_ | refine zA fun _=>?_)))
    (((refine zG ?_));refine Yz Zz Zz (YiT hRx) (fun f1=>?_) (fun f1=>?_))
    ·((repeat (first | refine zS ?_ | refine zA fun _=>?_)))
     exact YP ⟨k2+1,by omega,rfl,rfl,rfl,rfl,YZ hh2 hx (of_decide_eq_true f1)⟩ Zi (Zw) (Zb)
    ·((repeat (first | refine zS ?_ | refine zA fun _=>?_)))
     (exact ret1 rfl rfl (Zb) (Ya (fun h0=>of_decide_eq_false f1 ((Wl.1 h0).2.1 x hxm))))
   ·have hE:=XW hh2 Zi
    have yes:YcC f→FOk f:=fun h0=>Wl.2 ⟨h0,hE,hK⟩
    ((repeat (first | refine zSO ?_ | refine zA fun _=>?_)))
    refine Wp.cond_false Zz ?_
    refine YaG ?_
    repeat (first | refine YgE ?_ | refine YgY ?_ | refine blkX Zz ?_)
    refine YbU ?_
    refine Yr (Wp.mid (fun σ fz' H'=>∃ b:Bool,σ=[(9,.int .i64 q),(8,.int .i64 r),(7,.int .i64 m),(6,.int .i64 n),(5,.bool b),(1,.pointer (some ⟨g0,0,none⟩))]∧fz=fz'∧H'=[(g0,.cells #[.string f.op,.string f.name,.slice A n ca,.slice B m cb,.slice C r cr,.slice D q cq] 36 (0,0))]∧(b=true↔¬f.name=Xx)) ?_ ?_)
    ·((repeat (first | refine zS ?_ | refine zA fun _=>?_)))
     ((refine zG ?_;refine zC (fun nm=>?_) (fun nm=>?_)))
     ·((repeat (first | refine zS ?_ | refine zA fun _=>?_)))
      exact midN ⟨true,rfl,rfl,rfl,iff_of_true rfl nm⟩ (Zw) (Zb)
     ·((repeat (first | refine zS ?_ | refine zA fun _=>?_)))
      exact midN ⟨false,rfl,rfl,rfl,iff_of_false (by simp) (fun h0=>h0 nm)⟩ (Zw) (Zb)
    ·rintro σ fz' H' ⟨b,rfl,rfl,rfl,hb⟩
     ((repeat (first | refine zS ?_ | refine zA fun _=>?_)))
     ((refine zG ?_;refine zC (fun x1=>?_) (fun y1=>?_)))
     ·have hn:=Yit (f:=f) x1
      ((repeat (first | refine zS ?_ | refine zA fun _=>?_)))
      (((refine zG ?_));refine Yz Zz Zz (Yau h.name) (fun f1=>?_) (fun f1=>?_))
      ·((repeat (first | refine zS ?_ | refine zA fun _=>?_)))
       (((refine zG ?_));refine Yz Zz Zz (Yj9 ha) (fun f2=>?_) (fun f2=>?_))
       ·((repeat (first | refine zS ?_ | refine zA fun _=>?_)))
        ((((refine zG ?_;refine zC (fun n1=>?_) (fun n1=>?_)));rotate_left 1;(((repeat (first | refine zS ?_ | refine zA fun _=>?_)));(exact ret1 rfl rfl (Zb) (Ya (no (fun h0=>n1 (by have:=hn.1 h0;omega))))));((repeat (first | refine zS ?_ | refine zA fun _=>?_)))))
        (exact ret1 rfl rfl (Zb) (Yw (yes (hn.2 ⟨of_decide_eq_true f1,of_decide_eq_true f2,by omega,by omega,by omega⟩))))
       ·((repeat (first | refine zS ?_ | refine zA fun _=>?_)))
        (exact ret1 rfl rfl (Zb) (Ya (no (fun h0=>of_decide_eq_false f2 (hn.1 h0).2.1))))
      ·((repeat (first | refine zS ?_ | refine zA fun _=>?_)))
       (exact ret1 rfl rfl (Zb) (Ya (no (fun h0=>of_decide_eq_false f1 (hn.1 h0).1))))
     ·((repeat (first | refine zS ?_ | refine zA fun _=>?_)))
      ((refine zG ?_;refine zC (fun x2=>?_) (fun y2=>?_)))
      ·have hn:=Yis (f:=f) x2
       cases b
       ·have em:f.name=Xx:=Classical.not_not.1 (fun h0=>absurd (hb.2 h0) (by simp))
        ((repeat (first | refine zS ?_ | refine zA fun _=>?_)))
        ((((refine zG ?_;refine zC (fun n1=>?_) (fun n1=>?_)));rotate_left 1;(((repeat (first | refine zS ?_ | refine zA fun _=>?_)));(exact ret1 rfl rfl (Zb) (Ya (no (fun h0=>n1 (by have:=hn.1 h0;omega))))));((repeat (first | refine zS ?_ | refine zA fun _=>?_)))))
        (((refine zG ?_));refine Yz Zz Zz (Yj9 ha) (fun f2=>?_) (fun f2=>?_))
        ·((repeat (first | refine zS ?_ | refine zA fun _=>?_)))
         ((((refine zG ?_;refine zC (fun n2=>?_) (fun n2=>?_)));rotate_left 1;(((repeat (first | refine zS ?_ | refine zA fun _=>?_)));(exact ret1 rfl rfl (Zb) (Ya (no (fun h0=>n2 (by have:=hn.1 h0;omega))))));((repeat (first | refine zS ?_ | refine zA fun _=>?_)))))
         (exact ret1 rfl rfl (Zb) (Yw (yes (hn.2 ⟨em,by omega,of_decide_eq_true f2,by omega,by omega,by omega⟩))))
        ·((repeat (first | refine zS ?_ | refine zA fun _=>?_)))
         (exact ret1 rfl rfl (Zb) (Ya (no (fun h0=>of_decide_eq_false f2 (hn.1 h0).2.2.1))))
       ·((repeat (first | refine zS ?_ | refine zA fun _=>?_)))
        (exact ret1 rfl rfl (Zb) (Ya (no (fun h0=>hb.1 rfl (hn.1 h0).1))))
      ·have k0:¬(f.op=kAtom∨f.op=kSame):=fun h0=>h0.elim y1 y2
       ((repeat (first | refine zSO ?_ | refine zA fun _=>?_)))
       refine Wp.cond_false Zz ?_
       refine Yr (Wp.mid (fun σ fz' H'=>∃ bb:Bool,σ=[(94,.bool bb),(54,.string f.op),(9,.int .i64 q),(8,.int .i64 r),(7,.int .i64 m),(6,.int .i64 n),(5,.bool b),(1,.pointer (some ⟨g0,0,none⟩))]∧fz=fz'∧H'=[(g0,.cells #[.string f.op,.string f.name,.slice A n ca,.slice B m cb,.slice C r cr,.slice D q cq] 36 (0,0))]∧(bb=true↔CmpOp f.op)) ?_ ?_)
       ·((repeat (first | refine zS ?_ | refine zA fun _=>?_)))
        ((refine zG ?_;refine zC (fun p0=>?_) (fun p0=>?_)))
        ·((repeat (first | refine zS ?_ | refine zA fun _=>?_)))
         exact midN ⟨true,rfl,rfl,rfl,iff_of_true rfl (.inl p0)⟩ (Zw) (Zb)
        ·((repeat (first | refine zS ?_ | refine zA fun _=>?_)))
         ((refine zG ?_;refine zC (fun p1=>?_) (fun p1=>?_)))
         ·((repeat (first | refine zS ?_ | refine zA fun _=>?_)))
          exact midN ⟨true,rfl,rfl,rfl,iff_of_true rfl (.inr (.inl p1))⟩ (Zw) (Zb)
         ·((repeat (first | refine zS ?_ | refine zA fun _=>?_)))
          ((refine zG ?_;refine zC (fun p2=>?_) (fun p2=>?_)))
          ·((repeat (first | refine zS ?_ | refine zA fun _=>?_)))
           exact midN ⟨true,rfl,rfl,rfl,iff_of_true rfl (.inr (.inr (p2)))⟩ (Zw) (Zb)
          ·((repeat (first | refine zS ?_ | refine zA fun _=>?_)))
           exact midN ⟨false,rfl,rfl,rfl,iff_of_false (by simp) (fun h0=>h0.elim p0 (fun h0=>h0.elim p1 p2))⟩ (Zw) (Zb)
       ·rintro σ fz' H' ⟨bb,rfl,rfl,rfl,hbb⟩
        cases bb
        ·have k1:¬CmpOp f.op:=fun h0=>absurd (hbb.2 h0) (by simp)
         ((repeat (first | refine zSO ?_ | refine zA fun _=>?_)))
         refine Wp.cond_false Zz ?_
         refine Yr (Wp.mid (fun σ fz' H'=>∃ bb:Bool,σ=[(112,.bool bb),(54,.string f.op),(9,.int .i64 q),(8,.int .i64 r),(7,.int .i64 m),(6,.int .i64 n),(5,.bool b),(1,.pointer (some ⟨g0,0,none⟩))]∧fz=fz'∧H'=[(g0,.cells #[.string f.op,.string f.name,.slice A n ca,.slice B m cb,.slice C r cr,.slice D q cq] 36 (0,0))]∧(bb=true↔f.op=kAnd∨f.op=kOr)) ?_ ?_)
         ·((repeat (first | refine zS ?_ | refine zA fun _=>?_)))
          ((refine zG ?_;refine zC (fun p0=>?_) (fun p0=>?_)))
          ·((repeat (first | refine zS ?_ | refine zA fun _=>?_)))
           exact midN ⟨true,rfl,rfl,rfl,iff_of_true rfl (.inl p0)⟩ (Zw) (Zb)
          ·((repeat (first | refine zS ?_ | refine zA fun _=>?_)))
           ((refine zG ?_;refine zC (fun p1=>?_) (fun p1=>?_)))
           ·((repeat (first | refine zS ?_ | refine zA fun _=>?_)))
            exact midN ⟨true,rfl,rfl,rfl,iff_of_true rfl (.inr p1)⟩ (Zw) (Zb)
           ·((repeat (first | refine zS ?_ | refine zA fun _=>?_)))
            exact midN ⟨false,rfl,rfl,rfl,iff_of_false (by simp) (fun h0=>h0.elim p0 p1)⟩ (Zw) (Zb)
         ·rintro σ fz' H' ⟨bb,rfl,rfl,rfl,hbb⟩
          cases bb
          ·have k2:¬(f.op=kAnd∨f.op=kOr):=fun h0=>absurd (hbb.2 h0) (by simp)
           ((repeat (first | refine zS ?_ | refine zA fun _=>?_)))
           ((refine zG ?_;refine zC (fun x3=>?_) (fun y3=>?_)))
           ·have hn:=YbP y1 y2 ((if_neg k0).trans ((if_neg k1).trans ((if_neg k2).trans (if_pos x3))))
            cases b
            ·have em:f.name=Xx:=Classical.not_not.1 (fun h0=>absurd (hb.2 h0) (by simp))
             ((repeat (first | refine zS ?_ | refine zA fun _=>?_)))
             ((((refine zG ?_;refine zC (fun n0=>?_) (fun n0=>?_)));rotate_left 1;(((repeat (first | refine zS ?_ | refine zA fun _=>?_)));(exact ret1 rfl rfl (Zb) (Ya (no (fun h0=>n0 (by have:=hn.1 h0;omega))))));((repeat (first | refine zS ?_ | refine zA fun _=>?_)))))
             ((((refine zG ?_;refine zC (fun n1=>?_) (fun n1=>?_)));rotate_left 1;(((repeat (first | refine zS ?_ | refine zA fun _=>?_)));(exact ret1 rfl rfl (Zb) (Ya (no (fun h0=>n1 (by have:=hn.1 h0;omega))))));((repeat (first | refine zS ?_ | refine zA fun _=>?_)))))
             (exact ret1 rfl rfl (Zb) (Yw (yes (hn.2 ⟨em,by omega,by omega,by omega,by omega⟩))))
            ·((repeat (first | refine zS ?_ | refine zA fun _=>?_)))
             (exact ret1 rfl rfl (Zb) (Ya (no (fun h0=>hb.1 rfl (hn.1 h0).1))))
           ·((repeat (first | refine zS ?_ | refine zA fun _=>?_)))
            ((refine zG ?_;refine zC (fun x4=>?_) (fun y4=>?_)))
            ·have hn:=YbP y1 y2 ((if_neg k0).trans ((if_neg k1).trans ((if_neg k2).trans ((if_neg y3).trans (if_pos x4)))))
             cases b
             ·have em:f.name=Xx:=Classical.not_not.1 (fun h0=>absurd (hb.2 h0) (by simp))
              ((repeat (first | refine zS ?_ | refine zA fun _=>?_)))
              ((((refine zG ?_;refine zC (fun n0=>?_) (fun n0=>?_)));rotate_left 1;(((repeat (first | refine zS ?_ | refine zA fun _=>?_)));(exact ret1 rfl rfl (Zb) (Ya (no (fun h0=>n0 (by have:=hn.1 h0;omega))))));((repeat (first | refine zS ?_ | refine zA fun _=>?_)))))
              ((((refine zG ?_;refine zC (fun n1=>?_) (fun n1=>?_)));rotate_left 1;(((repeat (first | refine zS ?_ | refine zA fun _=>?_)));(exact ret1 rfl rfl (Zb) (Ya (no (fun h0=>n1 (by have:=hn.1 h0;omega))))));((repeat (first | refine zS ?_ | refine zA fun _=>?_)))))
              (exact ret1 rfl rfl (Zb) (Yw (yes (hn.2 ⟨em,by omega,by omega,by omega,by omega⟩))))
             ·((repeat (first | refine zS ?_ | refine zA fun _=>?_)))
              (exact ret1 rfl rfl (Zb) (Ya (no (fun h0=>hb.1 rfl (hn.1 h0).1))))
            ·((repeat (first | refine zSO ?_ | refine zA fun _=>?_)))
             refine Wp.cond_false Zz ?_
             refine Yr (Wp.mid (fun σ fz' H'=>∃ bb:Bool,σ=[(157,.bool bb),(54,.string f.op),(9,.int .i64 q),(8,.int .i64 r),(7,.int .i64 m),(6,.int .i64 n),(5,.bool b),(1,.pointer (some ⟨g0,0,none⟩))]∧fz=fz'∧H'=[(g0,.cells #[.string f.op,.string f.name,.slice A n ca,.slice B m cb,.slice C r cr,.slice D q cq] 36 (0,0))]∧(bb=true↔f.op=XN∨f.op=We)) ?_ ?_)
             ·((repeat (first | refine zS ?_ | refine zA fun _=>?_)))
              ((refine zG ?_;refine zC (fun p0=>?_) (fun p0=>?_)))
              ·((repeat (first | refine zS ?_ | refine zA fun _=>?_)))
               exact midN ⟨true,rfl,rfl,rfl,iff_of_true rfl (.inl p0)⟩ (Zw) (Zb)
              ·((repeat (first | refine zS ?_ | refine zA fun _=>?_)))
               ((refine zG ?_;refine zC (fun p1=>?_) (fun p1=>?_)))
               ·((repeat (first | refine zS ?_ | refine zA fun _=>?_)))
                exact midN ⟨true,rfl,rfl,rfl,iff_of_true rfl (.inr p1)⟩ (Zw) (Zb)
               ·((repeat (first | refine zS ?_ | refine zA fun _=>?_)))
                exact midN ⟨false,rfl,rfl,rfl,iff_of_false (by simp) (fun h0=>h0.elim p0 p1)⟩ (Zw) (Zb)
             ·rintro σ fz' H' ⟨bb,rfl,rfl,rfl,hbb⟩
              cases bb
              ·have k3:Ydi f=none:=(if_neg k0).trans ((if_neg k1).trans ((if_neg k2).trans ((if_neg y3).trans ((if_neg y4).trans (if_neg (fun h0=>absurd (hbb.2 h0) (by simp)))))))
               ((repeat (first | refine zS ?_ | refine zA fun _=>?_)))
               (exact ret1 rfl rfl (Zb) (Ya (no (fun h0=>by obtain ⟨_,⟨k,h1,_⟩,_⟩:=h0;rw [k3] at h1;cases h1))))
              ·have hn:YcC f↔f.name=Xx∧f.args.length=0∧f.exprs.length=0∧f.kids.length=1∧(true=false→f.params.length=0)∧∀ p∈f.params,XD true p:=YeI y1 y2 ((if_neg k0).trans ((if_neg k1).trans ((if_neg k2).trans ((if_neg y3).trans ((if_neg y4).trans (if_pos (hbb.1 rfl)))))))
               cases b
               ·have em:f.name=Xx:=Classical.not_not.1 (fun h0=>absurd (hb.2 h0) (by simp))
                ((repeat (first | refine zS ?_ | refine zA fun _=>?_)))
                ((((refine zG ?_;refine zC (fun n1=>?_) (fun n1=>?_)));rotate_left 1;(((repeat (first | refine zS ?_ | refine zA fun _=>?_)));(exact ret1 rfl rfl (Zb) (Ya (no (fun h0=>n1 (by have:=hn.1 h0;omega))))));((repeat (first | refine zS ?_ | refine zA fun _=>?_)))))
                ((((refine zG ?_;refine zC (fun n2=>?_) (fun n2=>?_)));rotate_left 1;(((repeat (first | refine zS ?_ | refine zA fun _=>?_)));(exact ret1 rfl rfl (Zb) (Ya (no (fun h0=>n2 (by have:=hn.1 h0;omega))))));((repeat (first | refine zS ?_ | refine zA fun _=>?_)))))
                (((refine zG ?_));refine Yz Zz Zz (YfM (vars:=true) hp) (fun f2=>?_) (fun f2=>?_))
                ·((repeat (first | refine zS ?_ | refine zA fun _=>?_)))
                 (exact ret1 rfl rfl (Zb) (Yw (yes (hn.2 ⟨em,by omega,by omega,by omega,fun h0=>absurd h0 (by simp),of_decide_eq_true f2⟩))))
                ·((repeat (first | refine zS ?_ | refine zA fun _=>?_)))
                 (exact ret1 rfl rfl (Zb) (Ya (no (fun h0=>of_decide_eq_false f2 (hn.1 h0).2.2.2.2.2))))
               ·((repeat (first | refine zS ?_ | refine zA fun _=>?_)))
                (exact ret1 rfl rfl (Zb) (Ya (no (fun h0=>hb.1 rfl (hn.1 h0).1))))
          ·have hn:=YbP y1 y2 ((if_neg k0).trans ((if_neg k1).trans (if_pos (hbb.1 rfl))))
           cases b
           ·have em:f.name=Xx:=Classical.not_not.1 (fun h0=>absurd (hb.2 h0) (by simp))
            ((repeat (first | refine zS ?_ | refine zA fun _=>?_)))
            ((((refine zG ?_;refine zC (fun n0=>?_) (fun n0=>?_)));rotate_left 1;(((repeat (first | refine zS ?_ | refine zA fun _=>?_)));(exact ret1 rfl rfl (Zb) (Ya (no (fun h0=>n0 (by have:=hn.1 h0;omega))))));((repeat (first | refine zS ?_ | refine zA fun _=>?_)))))
            (exact ret1 rfl rfl (Zb) (Yw (yes (hn.2 ⟨em,by omega,by omega,by omega,by omega⟩))))
           ·((repeat (first | refine zS ?_ | refine zA fun _=>?_)))
            (exact ret1 rfl rfl (Zb) (Ya (no (fun h0=>hb.1 rfl (hn.1 h0).1))))
        ·have hn:=YbP y1 y2 ((if_neg k0).trans (if_pos (hbb.1 rfl)))
         cases b
         ·have em:f.name=Xx:=Classical.not_not.1 (fun h0=>absurd (hb.2 h0) (by simp))
          ((repeat (first | refine zS ?_ | refine zA fun _=>?_)))
          ((((refine zG ?_;refine zC (fun n0=>?_) (fun n0=>?_)));rotate_left 1;(((repeat (first | refine zS ?_ | refine zA fun _=>?_)));(exact ret1 rfl rfl (Zb) (Ya (no (fun h0=>n0 (by have:=hn.1 h0;omega))))));((repeat (first | refine zS ?_ | refine zA fun _=>?_)))))
          ((((refine zG ?_;refine zC (fun n1=>?_) (fun n1=>?_)));rotate_left 1;(((repeat (first | refine zS ?_ | refine zA fun _=>?_)));(exact ret1 rfl rfl (Zb) (Ya (no (fun h0=>n1 (by have:=hn.1 h0;omega))))));((repeat (first | refine zS ?_ | refine zA fun _=>?_)))))
          (exact ret1 rfl rfl (Zb) (Yw (yes (hn.2 ⟨em,by omega,by omega,by omega,by omega⟩))))
         ·((repeat (first | refine zS ?_ | refine zA fun _=>?_)))
          (exact ret1 rfl rfl (Zb) (Ya (no (fun h0=>hb.1 rfl (hn.1 h0).1))))
theorem YiU {fz:FZ} {f:Formula} {va vp ve vk:Value} (h:FormulaR fz f va vp ve vk):
 QFn Tryz.prog 50 [.agg #[.string f.op,.string f.name,va,vp,ve,vk]] fz (.bool (decide (FOk f))):=YfO _ (Nat.le_refl _) h
end Go.Proofs.YtbhlgkibgajajaaGreatDoor
