/- The texts PRefN, PRefP, PWt, laid together. Conditions: none. -/
import Derived.Test.YtbhlgkibgajajaaGreatDoorQDK
import Derived.Test.YtbhlgkibgajajaaGreatDoorQDL
import Derived.Test.YtbhlgkibgajajaaGreatDoorQDH
import Derived.Test.YtbhlgkibgajajaaGreatDoorQDI
import Derived.Test.YtbhlgkibgajajaaGreatDoorQDE
import Derived.Test.YtbhlgkibgajajaaGreatDoorQDG
import Derived.Test.YtbhlgkibgajajaaGreatDoorQDB
import Derived.Test.YtbhlgkibgajajaaGreatDoorQDC
import Derived.Test.YtbhlgkibgajajaaGreatDoorQDD
import Derived.Test.YtbhlgkibgajajaaGreatDoorQDJ
import Derived.Test.YtbhlgkibgajajaaGreatDoorQDM
import Derived.Test.YtbhlgkibgajajaaGreatDoorQDF
set_option maxRecDepth 20000
namespace Go.Proofs.YtbhlgkibgajajaaGreatDoor
open Go.Lx Go.RowKit
attribute [local instance 10] Classical.propDecidable
theorem Yic {d:Nat} (h:d<10):IntKind.u8.wrap (48+(d:Int))=((UInt8.ofNat (48+d)).toNat:Int):=by
 have h1:(UInt8.ofNat (48+d)).toNat=48+d:=by simp [UInt8.toNat_ofNat'];omega
 rw [h1]
 have:d=0∨d=1∨d=2∨d=3∨d=4∨d=5∨d=6∨d=7∨d=8∨d=9:=by omega
 rcases this with rfl | rfl | rfl | rfl | rfl | rfl | rfl | rfl | rfl | rfl<;>rfl
theorem YgI {u:Nat} (h:u<10):Lib.decDigits u=[UInt8.ofNat (48+u % 10)]:=by
 rw [Lib.decDigits,dif_pos h,Nat.mod_eq_of_lt h]
theorem dec_big {u:Nat} (h:¬u<10):Lib.decDigits u=Lib.decDigits (u / 10)++ [UInt8.ofNat (48+u % 10)]:=by
 rw [Lib.decDigits,dif_neg h]
theorem Yj9 {u:Nat} (h:u≤1099511627776):(Lib.decDigits u).length≤13:=YcH (k:=12) Zi
set_option maxHeartbeats 1000000 in
theorem YgH:∀ (s:Nat) {fz:FZ} {u:Nat},u≤s→u≤1099511627776→QFn Tryz.prog 157 [.int .i64 u] fz (.string (strOf (Lib.decDigits u))):=by
 intro s
 induction s with
 | zero=>
  intro fz u hs hu
  have h0:u=0:=by omega
  subst h0
  refine GFn.quiet ?_
  (refine GFn.of_wp Tryz.func157 rfl Tryz.ntmps157 rfl rfl (fun w0=>?_))
  ((repeat (first | refine zS ?_ | refine zA fun _=>?_)))
  ((refine zG ?_;refine zC (fun c0=>?_) (fun c0=>?_)))
  ·exact absurd c0 Zi
  ((repeat (first | refine zS ?_ | refine zA fun _=>?_)))
  ((refine zG ?_));refine q_remN (a:=0) (b:=10) Zz Zz Zh ?_
  ((repeat (first | refine zS ?_ | refine zA fun _=>?_)))
  ((refine zG ?_));refine Ybg T Zz Zz Zz Zz (Yic (Nat.mod_lt _ Zh)) ?_
  refine Yc Zz (Yd T (cs:=[Yay (UInt8.ofNat (48+0 % 10))]) Zz Zz Zz Zz Zz Zz Zz Zz (fun gb=>?_))
  ((refine zG ?_));refine Ygh T 0 (bs:=[UInt8.ofNat (48+0 % 10)]) Zz Zz Zz Zz Zz Zz Zz Zz rfl rfl ?_
  ((repeat (first | refine zS ?_ | refine zA fun _=>?_)))
  ((refine zG ?_;refine zC (fun c1=>?_) (fun c1=>?_)))
  ·exact absurd c1 Zi
  ·((repeat (first | refine zS ?_ | refine zA fun _=>?_)))
   (exact ret1 rfl rfl (Zb) (by rw [YgI Zh]))
 | succ s ih=>
  intro fz u hs hu
  refine GFn.quiet ?_
  have hq:u / 10≤u:=Nat.div_le_self _ _
  (refine GFn.of_wp Tryz.func157 rfl Tryz.ntmps157 rfl rfl (fun w0=>?_))
  ((repeat (first | refine zS ?_ | refine zA fun _=>?_)))
  ((refine zG ?_;refine zC (fun c0=>?_) (fun c0=>?_)))
  ·exact absurd c0 Zi
  ((repeat (first | refine zS ?_ | refine zA fun _=>?_)))
  ((refine zG ?_));refine q_remN (a:=u) (b:=10) Zz Zz Zh ?_
  ((repeat (first | refine zS ?_ | refine zA fun _=>?_)))
  ((refine zG ?_));refine Ybg T Zz Zz Zz Zz (Yic (Nat.mod_lt _ Zh)) ?_
  refine Yc Zz (Yd T (cs:=[Yay (UInt8.ofNat (48+u % 10))]) Zz Zz Zz Zz Zz Zz Zz Zz (fun gb=>?_))
  ((refine zG ?_));refine Ygh T 0 (bs:=[UInt8.ofNat (48+u % 10)]) Zz Zz Zz Zz Zz Zz Zz Zz rfl rfl ?_
  ((repeat (first | refine zS ?_ | refine zA fun _=>?_)))
  ((refine zG ?_;refine zC (fun c1=>?_) (fun c1=>?_)))
  ·have:=Yj9 (u:=u / 10) Zi
   ((repeat (first | refine zS ?_ | refine zA fun _=>?_)))
   ((refine zG ?_));refine q_quoN (a:=u) (b:=10) Zz Zz Zh Zi ?_
   ((repeat (first | refine zS ?_ | refine zA fun _=>?_)))
   (((refine zG ?_));refine Yj Zz Zz (ih (u:=u / 10) Zi Zi) ?_)
   ((repeat (first | refine zS ?_ | refine zA fun _=>?_)))
   ((refine zG ?_));refine WM Zz Zz (by simp;omega) ?_
   ((repeat (first | refine zS ?_ | refine zA fun _=>?_)))
   (exact ret1 rfl rfl (Zb) (by rw [dec_big (u:=u) Zi]))
  ·((repeat (first | refine zS ?_ | refine zA fun _=>?_)))
   (exact ret1 rfl rfl (Zb) (by rw [YgI Zi]))
theorem Yj8 {fz:FZ} {n:Int} (h:YaM n):QFn Tryz.prog 157 [.int .i64 n] fz (.string (strOf (Lib.itoa n))):=by
 unfold YaM at h
 by_cases h0:n<0
 ·obtain ⟨u,rfl⟩:∃ u:Nat,n= -(u:Int):=⟨n.natAbs,by omega⟩
  have hl:=Yj9 (u:=u) Zi
  have e:=Lib.itoa_neg u Zi
  refine GFn.quiet ?_
  (refine GFn.of_wp Tryz.func157 rfl Tryz.ntmps157 rfl rfl (fun w0=>?_))
  ((repeat (first | refine zS ?_ | refine zA fun _=>?_)))
  ((refine zG ?_;refine zC (fun c0=>?_) (fun c0=>?_)))
  ·((repeat (first | refine zS ?_ | refine zA fun _=>?_)))
   ((refine zG ?_));refine q_neg (c:=(u:Int)) Zz (by rw [show (0:Int) - -(u:Int)=u by omega];exact Xk Zi) ?_
   ((repeat (first | refine zS ?_ | refine zA fun _=>?_)))
   (((refine zG ?_));refine Yj Zz Zz (YgH _ (Nat.le_refl _) (u:=u) Zi) ?_)
   ((refine zG ?_));refine WM (a:=[45]) Zz Zz (by simp;omega) ?_
   ((repeat (first | refine zS ?_ | refine zA fun _=>?_)))
   (exact ret1 rfl rfl (Zb) (by rw [e];rfl))
  ·exact absurd h0 c0
 ·obtain ⟨u,rfl⟩:∃ u:Nat,n=(u:Int):=⟨n.toNat,by omega⟩
  rw [Lib.itoa_nonneg]
  exact YgH _ (Nat.le_refl _) Zi
set_option maxHeartbeats 1000000 in
theorem YgU:∀ (s:Nat) {fz:FZ} {x:Sexpr} {vk:Value},SizeOf.sizeOf x≤s→Y9 fz x vk→XOk x→xcount x≤4096→
 QFn Tryz.prog 86 [.agg #[.int .i64 x.kind,.int .i64 x.value,.int .i64 x.line,.int .i64 x.column,.string x.text,vk]] fz (.string (strOf (txt x)))
 | 0,_,x,_,hs,_,_,_=>by cases x;simp at hs
 | s+1,fz,x,vk,hs,h,hX,hc=>by
  refine GFn.quiet ?_
  obtain ⟨A,n,ca,rfl,hk⟩:=h.kids
  have l1:=hk.len
  have l2:=hk.short
  have hN:=Xm.1 hX
  have e:=Yf3 x
  have ec:=WQ x
  (refine GFn.of_wp Tryz.func86 rfl Tryz.ntmps86 rfl rfl (fun w0=>?_))
  (refine Yp (Yq (Yc Zz (Xl _ Zz Zz (fun g0=>?_)))))
  ((repeat (first | refine zS ?_ | refine zA fun _=>?_)))
  ((refine zG ?_;refine zC (fun x1=>?_) (fun y1=>?_)))
  ·((repeat (first | refine zS ?_ | refine zA fun _=>?_)))
   (exact ret1 rfl rfl (Zb) (by rw [e,if_pos (show x.kind=1 from x1),YhF]))
  ·((repeat (first | refine zS ?_ | refine zA fun _=>?_)))
   ((refine zG ?_;refine zC (fun x2=>?_) (fun y2=>?_)))
   ·have hNum:YaM x.value:=by
     rcases hN.1 with ⟨h1,_⟩ | ⟨_,_,_,h1⟩ | ⟨h1,_⟩
     ·omega
     ·exact h1
     ·omega
    ((repeat (first | refine zS ?_ | refine zA fun _=>?_)))
    (((refine zG ?_));refine Yj Zz Zz (Yj8 hNum) ?_)
    ((repeat (first | refine zS ?_ | refine zA fun _=>?_)))
    (exact ret1 rfl rfl (Zb) (by rw [e,if_neg (show ¬x.kind=1 from y1),if_pos (show x.kind=2 from x2)]))
   ·have hlen:=Ygx hX
    have hln:=YdH (l:=x.kids)
    have hjl:∀ k,(Lib.join ((x.kids.map txt).take k) [32]).length≤36*xcount x:=fun k=>by
     have h1:=join_len (l:=(x.kids.map txt).take k)
     have h2:((x.kids.map txt).map fun t=>t.length+1).sum≤36*xcountL x.kids:=by
      rw [← Yfc]
      exact txtL_len (YbT.2 (Xm.1 (YeL hX)).2)
     have h3:(((x.kids.map txt).take k).map fun t=>t.length+1).sum≤((x.kids.map txt).map fun t=>t.length+1).sum:=by
      conv=>rhs;rw [← List.take_append_drop k (x.kids.map txt)]
      rw [List.map_append,List.sum_append];omega
     omega
    ((repeat (first | refine zS ?_ | refine zA fun _=>?_)))
    refine YG (fun q σ fz' H'=>∃ (k:Nat) (acc:List UInt8),k≤n∧q=n - k∧σ=[(4,.int .i64 k),(3,.string (strOf acc)),(1,.pointer (some ⟨g0,0,none⟩))]∧fz=fz'∧H'=[(g0,.cells #[.int .i64 x.kind,.int .i64 x.value,.int .i64 x.line,.int .i64 x.column,.string x.text,.slice A n ca] 64 (0,0))]∧acc=40::Lib.join ((x.kids.map txt).take k) [32])
     ⟨0,[40],Nat.zero_le _,rfl,rfl,rfl,rfl,rfl⟩ (Zw) (Zb) ?_
    rintro q σ fz' H' ⟨k,acc,hk',rfl,rfl,rfl,rfl,hacc⟩
    have hal:=congrArg List.length hacc
    rw [List.length_cons] at hal
    ((repeat (first | refine zS ?_ | refine zA fun _=>?_)))
    ((refine zG ?_;refine zC (fun c1=>?_) (fun c1=>?_)))
    ·obtain ⟨y,hy⟩:=YF (l:=x.kids) (k:=k) Zi
     have hym:=List.mem_of_getElem? hy
     have hlt:=Sexpr.kids_lt hym
     have hcy:=Wy hym
     have hyo:=hN.2 y hym
     have hyl:=Ye6 hyo
     have hjk:=hjl k
     have hst:=join_step (l:=x.kids.map txt) (k:=k) (y:=txt y) (by rw [List.getElem?_map,hy];rfl)
     ((repeat (first | refine zS ?_ | refine zA fun _=>?_)))
     ((refine zG ?_;refine zC (fun c2=>?_) (fun c2=>?_)))
     ·((repeat (first | refine zS ?_ | refine zA fun _=>?_)))
      ((refine zG ?_));refine WM (b:=[32]) Zz Zz (by simp only [List.length_cons,List.length_nil];omega) ?_
      ((repeat (first | refine zS ?_ | refine zA fun _=>?_)))
      (((refine zG ?_));refine YB T k Zz Zz Zz Zz Zz Zz hk (by first | rfl | omega) hy (fun p hp=>?_))
      (((refine zG ?_));refine Yz T Zz Zz Zz hp Zz ?_)
      intro cs hcs
      obtain ⟨vk2,rfl,hR⟩:=Yl hcs
      obtain ⟨A2,n2,c2',rfl,_⟩:=hR.kids
      ((repeat (first | refine zS ?_ | refine zA fun _=>?_)))
      (((refine zG ?_));refine Yj Zz Zz (YgU s Zi hR hyo Zi) ?_)
      ((refine zG ?_));refine WM Zz Zz (by have h1:=congrArg List.length hacc;simp only [List.length_cons,List.length_append,List.length_nil] at*;omega) ?_
      ((repeat (first | refine zS ?_ | refine zA fun _=>?_)))
      exact YP ⟨k+1,acc++ [32]++txt y,by omega,rfl,rfl,rfl,rfl,(by rw [hst,if_neg Zi,hacc];simp)⟩ Zi (Zw) (Zb)
     ·have hk0:k=0:=by omega
      subst hk0
      ((repeat (first | refine zS ?_ | refine zA fun _=>?_)))
      (((refine zG ?_));refine YB T 0 Zz Zz Zz Zz Zz Zz hk (by first | rfl | omega) hy (fun p hp=>?_))
      (((refine zG ?_));refine Yz T Zz Zz Zz hp Zz ?_)
      intro cs hcs
      obtain ⟨vk2,rfl,hR⟩:=Yl hcs
      obtain ⟨A2,n2,c2',rfl,_⟩:=hR.kids
      ((repeat (first | refine zS ?_ | refine zA fun _=>?_)))
      (((refine zG ?_));refine Yj Zz Zz (YgU s Zi hR hyo Zi) ?_)
      ((refine zG ?_));refine WM Zz Zz (by have h1:=congrArg List.length hacc;simp only [List.length_cons,List.length_append,List.length_nil] at*;omega) ?_
      ((repeat (first | refine zS ?_ | refine zA fun _=>?_)))
      exact YP ⟨0+1,acc++txt y,by omega,rfl,rfl,rfl,rfl,(by rw [hst,if_pos rfl,hacc];rfl)⟩ Zi (Zw) (Zb)
    ·have hk1:n=k:=by omega
     subst hk1
     rw [List.take_of_length_le (by rw [List.length_map];omega)] at hacc hal
     subst hacc
     ((repeat (first | refine zS ?_ | refine zA fun _=>?_)))
     ((refine zG ?_));refine WM (b:=[41]) Zz Zz (by simp only [List.length_cons,List.length_nil];omega) ?_
     ((repeat (first | refine zS ?_ | refine zA fun _=>?_)))
     (exact ret1 rfl rfl (Zb) (by rw [e,if_neg (show ¬x.kind=1 from y1),if_neg (show ¬x.kind=2 from y2)];rfl))
theorem Ykd {fz:FZ} {n:Nat} (h:n≤1000000000):QFn Tryz.prog 87 [.int .i64 n] fz (.string (strOf (List.replicate n 32))):=by
 refine GFn.quiet ?_
 have hl:∀ k,(strOf (List.replicate k 32)).size=k:=fun k=>by rw [WE,List.length_replicate]
 (refine GFn.of_wp Tryz.func87 rfl Tryz.ntmps87 rfl rfl (fun w0=>?_))
 ((repeat (first | refine zS ?_ | refine zA fun _=>?_)))
 refine YG (fun q σ fz' H'=>∃ (k:Nat) (acc:List UInt8),k≤n∧q=n - k∧σ=[(3,.string (strOf acc)),(0,.int .i64 n)]∧fz=fz'∧H'=[]∧acc=List.replicate k 32)
  ⟨0,[],Nat.zero_le _,rfl,rfl,rfl,rfl,rfl⟩ (Zw) (Zb) ?_
 rintro q σ fz' H' ⟨k,acc,hk',rfl,rfl,rfl,rfl,rfl⟩
 have hlk:=hl k
 ((repeat (first | refine zS ?_ | refine zA fun _=>?_)))
 ((refine zG ?_;refine zC (fun c1=>?_) (fun c1=>?_)))
 ·((repeat (first | refine zS ?_ | refine zA fun _=>?_)))
  ((refine zG ?_));refine WM (b:=[32]) Zz Zz (by simp only [List.length_replicate,List.length_cons,List.length_nil];omega) ?_
  ((repeat (first | refine zS ?_ | refine zA fun _=>?_)))
  exact YP ⟨k+1,List.replicate k 32++ [32],by omega,rfl,rfl,rfl,rfl,(by rw [List.replicate_succ'])⟩ Zi (Zw) (Zb)
 ·have hk1:n=k:=by omega
  subst hk1
  ((repeat (first | refine zS ?_ | refine zA fun _=>?_)))
  (exact ret1 rfl rfl (Zb) rfl)
set_option maxHeartbeats 2000000 in
theorem Yfu:∀ (s:Nat) {fz:FZ} {x:Sexpr} {vk:Value} {w i:Nat},SizeOf.sizeOf x≤s→Y9 fz x vk→XOk x→xcount x≤4096→i+2*xdepth x≤66→w≤200→
 QFn Tryz.prog 41 [.agg #[.int .i64 x.kind,.int .i64 x.value,.int .i64 x.line,.int .i64 x.column,.string x.text,vk],.int .i64 i,.int .i64 w] fz (.string (strOf (lay w x i)))
 | 0,_,x,_,_,_,hs,_,_,_,_,_=>by cases x;simp at hs
 | s+1,fz,x,vk,w,i,hs,h,hX,hc,hi,hw=>by
  refine GFn.quiet ?_
  obtain ⟨A,n,ca,rfl,hk⟩:=h.kids
  have l1:=hk.len
  have l2:=hk.short
  have hN:=Xm.1 hX
  have ec:=WQ x
  have ed:=Ya0 x
  have htl:=Ye6 hX
  have hsz:=WE (txt x)
  (refine GFn.of_wp Tryz.func41 rfl Tryz.ntmps41 rfl rfl (fun w0=>?_))
  (refine Yp (Yq (Yc Zz (Xl _ Zz Zz (fun g0=>?_)))))
  ((repeat (first | refine zS ?_ | refine zA fun _=>?_)))
  (((refine zG ?_));refine Yj Zz Zz (YgU _ (Nat.le_refl _) h hX hc) ?_)
  ((repeat (first | refine zS ?_ | refine zA fun _=>?_)))
  ((refine zG ?_;refine zC (fun x3=>?_) (fun y3=>?_)))
  ·((repeat (first | refine zS ?_ | refine zA fun _=>?_)))
   (exact ret1 rfl rfl (Zb) (by rw [Ybn (.inl x3)]))
  ·((repeat (first | refine zS ?_ | refine zA fun _=>?_)))
   ((refine zG ?_;refine zC (fun e1=>?_) (fun e1=>?_)))
   ·((repeat (first | refine zS ?_ | refine zA fun _=>?_)))
    (exact ret1 rfl rfl (Zb) (by rw [Ybn (.inr (.inl Zi))]))
   ·((repeat (first | refine zS ?_ | refine zA fun _=>?_)))
    ((refine zG ?_;refine zC (fun e2=>?_) (fun e2=>?_)))
    ·((repeat (first | refine zS ?_ | refine zA fun _=>?_)))
     (exact ret1 rfl rfl (Zb) (by rw [Ybn (.inr (.inr Zi))]))
    ·have hl:=YhU (w:=w) (i:=i) (x:=x) (fun h0=>by omega)
     obtain ⟨y,hy⟩:=YF (l:=x.kids) (k:=0) Zi
     have hym:=List.mem_of_getElem? hy
     have hlt:=Sexpr.kids_lt hym
     have hcy:=Wy hym
     have hdy:=XD.1 (Nat.le_refl _) y hym
     have hd0:i+2+2*xdepthL x.kids≤66:=by rw [if_pos Zi] at ed;omega
     have hyo:=hN.2 y hym
     have hyl:=YcS (w:=w) (i:=i+1) hyo Zi
     have hkk:x.kids=y::x.kids.drop 1:=by
      cases hq:x.kids with
      | nil=>simp [hq] at hy
      | cons a b=>simp [hq] at hy;subst hy;rfl
     have hcr:xcountL (x.kids.drop 1)≤xcountL x.kids:=by
      have h0:xcountL x.kids=xcountL (y::x.kids.drop 1):=congrArg xcountL hkk
      rw [xcountL] at h0;omega
     have hlT:∀ k,(layT w ((x.kids.drop 1).take k) (i+2)).length≤102*4096:=fun k=>by
      have h0:=layT_len (w:=w) (M:=66) (l:=(x.kids.drop 1).take k) (i:=i+2) (YbT.2 (fun z hz=>YeL (hN.2 z (List.mem_of_mem_drop (List.mem_of_mem_take hz))))) (by
       have:xdepthL ((x.kids.drop 1).take k)≤xdepthL x.kids:=XD.2 (fun z hz=>XD.1 (Nat.le_refl _) z (List.mem_of_mem_drop (List.mem_of_mem_take hz)))
       omega)
      have h1:=YaO (l:=x.kids.drop 1) (k:=k)
      omega
     ((repeat (first | refine zS ?_ | refine zA fun _=>?_)))
     (((refine zG ?_));refine YB T 0 Zz Zz Zz Zz Zz Zz hk (by first | rfl | omega) hy (fun p hp=>?_))
     (((refine zG ?_));refine Yz T Zz Zz Zz hp Zz ?_)
     intro cs hcs
     obtain ⟨vk2,rfl,hR⟩:=Yl hcs
     obtain ⟨A2,n2,c2,rfl,_⟩:=hR.kids
     ((repeat (first | refine zS ?_ | refine zA fun _=>?_)))
     (((refine zG ?_));refine Yj Zz Zz (Yfu s (i:=i+1) Zi hR hyo Zi Zi hw) ?_)
     ((refine zG ?_));refine WM (a:=[40]) Zz Zz (by simp;omega) ?_
     ((repeat (first | refine zS ?_ | refine zA fun _=>?_)))
     refine YG (fun q σ fz' H'=>∃ (k:Nat) (acc:List UInt8),k≤n - 1∧q=n - 1 - k∧σ=[(9,.int .i64 ((k+1:Nat):Int)),(8,.string (strOf acc)),(3,.pointer (some ⟨g0,0,none⟩)),(2,.int .i64 w),(1,.int .i64 i)]∧fz=fz'∧H'=[(g0,.cells #[.int .i64 x.kind,.int .i64 x.value,.int .i64 x.line,.int .i64 x.column,.string x.text,.slice A n ca] 64 (0,0))]∧acc=40::(lay w y (i+1)++layT w ((x.kids.drop 1).take k) (i+2)))
      ⟨0,[40]++lay w y (i+1),Nat.zero_le _,rfl,rfl,rfl,rfl,by simp [layT]⟩ (Zw) (Zb) ?_
     rintro q σ fz' H' ⟨k,acc,hk',rfl,rfl,rfl,rfl,hacc⟩
     have hlk:=hlT k
     have hal:=congrArg List.length hacc
     simp only [List.length_cons,List.length_append] at hal
     have hdl:(x.kids.drop 1).length=n - 1:=by rw [List.length_drop,l1]
     ((repeat (first | refine zS ?_ | refine zA fun _=>?_)))
     ((refine zG ?_;refine zC (fun c1=>?_) (fun c1=>?_)))
     ·obtain ⟨z,hz⟩:=YF (l:=x.kids.drop 1) (k:=k) Zi
      have hzk:x.kids[k+1]?=some z:=by rw [List.getElem?_drop,Nat.add_comm] at hz;exact hz
      have hzm:z∈x.kids:=List.mem_of_getElem? hzk
      have hltz:=Sexpr.kids_lt hzm
      have hcz:=Wy hzm
      have hdz:=XD.1 (Nat.le_refl _) z hzm
      have hzo:=hN.2 z hzm
      have hzl:=YcS (w:=w) (i:=i+2) hzo Zi
      ((repeat (first | refine zSO ?_ | refine zA fun _=>?_)))
      refine Wp.cond_true Zz ?_
      refine Wx ?_
      refine Yca ?_
      refine Yp ?_
      refine Yaj ?_
      (refine Wp.drawK (Hq:=[_]) T.mixed Zj Zj (Zb) ?_)
      ((repeat (first | refine zS ?_ | refine zA fun _=>?_)))
      (((refine zG ?_));refine Yj Zz Zz (Ykd (n:=i+2) Zi) ?_)
      ((refine zG ?_));refine WM (a:=[10]) Zz Zz (by simp;omega) ?_
      ((repeat (first | refine zS ?_ | refine zA fun _=>?_)))
      (((refine zG ?_));refine YB T (k+1) Zz Zz Zz Zz Zz Zz hk (by first | rfl | omega) hzk (fun p2 hp2=>?_))
      (((refine zG ?_));refine Yz T Zz Zz Zz hp2 Zz ?_)
      intro cs2 hcs2
      obtain ⟨vk3,rfl,hR3⟩:=Yl hcs2
      obtain ⟨A3,n3,c3,rfl,_⟩:=hR3.kids
      ((repeat (first | refine zS ?_ | refine zA fun _=>?_)))
      (((refine zG ?_));refine Yj Zz Zz (Yfu s (i:=i+2) Zi hR3 hzo Zi Zi hw) ?_)
      ((refine zG ?_));refine WM Zz Zz (by simp;omega) ?_
      ((refine zG ?_));refine WM Zz Zz (by simp;omega) ?_
      (refine Yb ?_)
      (refine YK ⟨by kernel_rfl,?_⟩)
      refine Ch.qk (⟨Le.refl _,Zx⟩) (YU Zz ?_)
      refine Ch.done ?_
      have hst:=Ygs (w:=w) (i:=i+2) hz
      ((repeat (first | refine zS ?_ | refine zA fun _=>?_)))
      exact YP ⟨k+1,acc++([10]++List.replicate (i+2) 32++lay w z (i+2)),by omega,rfl,rfl,rfl,rfl,(by rw [hst,hacc];simp only [List.cons_append,List.append_assoc,List.nil_append])⟩ Zi (Zw) (Zb)
     ·have hk1:k=n - 1:=by omega
      subst hk1
      rw [List.take_of_length_le Zi] at hacc hlk hal
      subst hacc
      ((repeat (first | refine zS ?_ | refine zA fun _=>?_)))
      ((refine zG ?_));refine WM (b:=[41]) Zz Zz (by simp only [List.length_cons,List.length_append,List.length_nil];omega) ?_
      ((repeat (first | refine zS ?_ | refine zA fun _=>?_)))
      (exact ret1 rfl rfl (Zb) (by rw [hl,hkk];rfl))
theorem YjC {fz:FZ} {x:Sexpr} {vk:Value} (h:Y9 fz x vk) (hv:XVal x):
 QFn Tryz.prog 19 [.agg #[.int .i64 x.kind,.int .i64 x.value,.int .i64 x.line,.int .i64 x.column,.string x.text,vk],.int .i64 80] fz (.string (strOf (lay 80 x 0))):=by
 refine GFn.quiet ?_
 obtain ⟨A,n,ca,rfl,hk⟩:=h.kids
 (refine GFn.of_wp Tryz.func19 rfl Tryz.ntmps19 rfl rfl (fun w0=>?_))
 (refine Yp (Yq (Yc Zz (Xl _ Zz Zz (fun g0=>?_)))))
 ((repeat (first | refine zS ?_ | refine zA fun _=>?_)))
 ((refine zG ?_;refine zC (fun c1=>?_) (fun c1=>?_)))
 ·exact absurd c1 Zi
 ·((repeat (first | refine zS ?_ | refine zA fun _=>?_)))
  ((refine zG ?_;refine zC (fun c2=>?_) (fun c2=>?_)))
  ·exact absurd c2 Zi
  ·((repeat (first | refine zS ?_ | refine zA fun _=>?_)))
   (((refine zG ?_));refine Yj Zz Zz (Yfu _ (Nat.le_refl _) (w:=80) (i:=0) h hv.1 hv.2.2 (by have:=hv.2.1;omega) Zi) ?_)
   ((repeat (first | refine zS ?_ | refine zA fun _=>?_)))
   (exact ret1 rfl rfl (Zb) rfl)
end Go.Proofs.YtbhlgkibgajajaaGreatDoor
set_option maxRecDepth 20000
namespace Go.Proofs.YtbhlgkibgajajaaGreatDoor
open Go.Lx Go.RowKit
attribute [local instance 10] Classical.propDecidable
structure DomTn (d:Domain):Prop where
 sm:DomSm d
 types:d.types.length≤100000000
 constants:d.constants.length≤100000000
 predicates:d.predicates.length≤100000000
 predp:∀ p∈d.predicates,p.params.length≤100000000
 functions:d.functions.length≤100000000
 funp:∀ f∈d.functions,f.params.length≤100000000
 actions:d.actions.length≤100000000
 actp:∀ x∈d.actions,x.params.length≤100000000
 duratives:d.duratives.length≤100000000
 durp:∀ x∈d.duratives,x.params.length≤100000000
def IsX (v:Value) (x:Sexpr) (fz:FZ):Prop:=∃ A n c,v=.agg #[.int .i64 x.kind,.int .i64 x.value,.int .i64 x.line,.int .i64 x.column,.string x.text,.slice A n c]∧Y9 fz x (.slice A n c)
theorem SxIs.x {fz:FZ} {v:Value} {x:Sexpr} (h:SxIs fz v x):IsX v x fz:=by
 obtain ⟨cs,rfl,hr⟩:=h
 obtain ⟨vk,rfl,hX⟩:=Yl hr
 obtain ⟨A,n,c,rfl,_⟩:=hX.kids
 exact ⟨A,n,c,rfl,hX⟩
set_option maxHeartbeats 16000000 in
theorem YgG {fz:FZ} {d:Domain} {v1 v2 v3 v4 v5 v6:Value} (h:DomainR fz d v1 v2 v3 v4 v5 v6) (hs:DomTn d) (hS:ShD d):
 GFn Tryz.prog 40 [.agg #[.string d.name,v1,v2,v3,v4,v5,v6]] fz [] (fun v fz' H'=>H'=[]∧SxIs fz' v (domX d)):=by
 obtain ⟨A1,n1,b1,rfl,i1⟩:=h.types
 obtain ⟨A2,n2,b2,rfl,i2⟩:=h.constants
 obtain ⟨A3,n3,b3,rfl,i3⟩:=h.predicates
 obtain ⟨A4,n4,b4,rfl,i4⟩:=h.functions
 obtain ⟨A5,n5,b5,rfl,i5⟩:=h.actions
 obtain ⟨A6,n6,b6,rfl,i6⟩:=h.duratives
 have l1:=i1.len
 have m1:=hs.types
 have l2:=i2.len
 have m2:=hs.constants
 have l3:=i3.len
 have m3:=hs.predicates
 have l4:=i4.len
 have m4:=hs.functions
 have l5:=i5.len
 have m5:=hs.actions
 have l6:=i6.len
 have m6:=hs.duratives
 (refine GFn.of_wp Tryz.func40 rfl Tryz.ntmps40 rfl rfl (fun w0=>?_))
 (refine Yp (Yq (Yc Zz (Xl _ Zz Zz (fun g0=>?_)))))
 ((repeat (first | refine zS ?_ | refine zA fun _=>?_)))
 rename_i g2
 (((refine zG ?_));refine Yj Zz Zz (YdI (s:=d.name)) ?_)
 unfold sxV
 refine Yc Zz (Yd T (cs:=Yw d.name) Zz Zz Zz Zz Zz Zz Zz Zz (fun gb=>?_))
 refine Seq.freezeAll (H1:=[_,_]) (H2:=[_]) (X6 [1,2,0] Zz Zz).symm (fun fzb hlb hfb=>?_)
 (refine Yc Zz (Yr [] _ Zz Zz Zz (Wc (s:=YN) (YI Zh) (XG (l:=[Yg d.name]) (ys:=[(Yg d.name,Yw d.name)]) (hfb _ (.head _)) rfl rfl (by simpa using Yt h.name) rfl (by simp)) (by simp)) (fun v16 fza H16 hla hR16=>?_)))
 obtain ⟨rfl,hx16⟩:=hR16
 obtain ⟨A16,n16,c16,rfl,hX16⟩:=hx16.x
 refine Yc Zz (Yd T (cs:=[.int .i64 (YE [Yg YN,Yg d.name]).kind,.int .i64 (YE [Yg YN,Yg d.name]).value,.int .i64 (YE [Yg YN,Yg d.name]).line,.int .i64 (YE [Yg YN,Yg d.name]).column,.string (YE [Yg YN,Yg d.name]).text,.slice A16 n16 c16]) Zz Zz Zz Zz Zz Zz Zz Zz (fun gc=>?_))
 have hG0:Grow YH 64 fza (.slice (some ⟨gc,0,none⟩) 1 1) 1 [(gc,.cells ([.int .i64 (YE [Yg YN,Yg d.name]).kind,.int .i64 (YE [Yg YN,Yg d.name]).value,.int .i64 (YE [Yg YN,Yg d.name]).line,.int .i64 (YE [Yg YN,Yg d.name]).column,.string (YE [Yg YN,Yg d.name]).text,.slice A16 n16 c16]:List Value).toArray 64 (0,0))] [YE [Yg YN,Yg d.name]]:=Grow.block (ys:=[(YE [Yg YN,Yg d.name],[.int .i64 (YE [Yg YN,Yg d.name]).kind,.int .i64 (YE [Yg YN,Yg d.name]).value,.int .i64 (YE [Yg YN,Yg d.name]).line,.int .i64 (YE [Yg YN,Yg d.name]).column,.string (YE [Yg YN,Yg d.name]).text,.slice A16 n16 c16])]) rfl rfl (by simpa using Ye hX16) rfl Zh
 have hle0:Le fz fza:=hlb.trans hla
 ((repeat (first | refine zSX ?_ | refine zA fun _=>?_)))
 refine Yp (Wp.mid (fun σ fz' H'=>∃ (vo:Value) (no:Nat) (Ho:HP),σ=[(3,vo),(2,.pointer (some ⟨g2,0,none⟩)),(1,.pointer (some ⟨g0,0,none⟩))]∧Le fz fz'∧H'=(g0,.cells #[.string d.name,.slice A1 n1 b1,.slice A2 n2 b2,.slice A3 n3 b3,.slice A4 n4 b4,.slice A5 n5 b5,.slice A6 n6 b6] 28 (0,0))::(g2,.cells #[.int .i64 0,.int .i64 0,.int .i64 0,.int .i64 0,.string ⟨#[]⟩,.slice none 0 0] 64 (0,0))::Ho∧Grow YH 64 fz' vo no Ho ([YE [Yg YN,Yg d.name]]++grp Wr (Xd d.types))∧no≤2) ?_ ?_)
 ·((repeat (first | refine zS ?_ | refine zA fun _=>?_)))
  ((refine zG ?_;refine zC (fun e1=>?_) (fun e1=>?_)))
  ·have hne:Xd d.types≠ []:=fun h0=>by rw [Ycx.1 h0] at l1;simp at l1;omega
   ((repeat (first | refine zS ?_ | refine zA fun _=>?_)))
   (refine Yc Zz (Yr [] _ Zz Zz Zz (Yag (i1.mono hle0) Zi) (fun v6 fz6 H6 hle6 hR6=>?_)))
   obtain ⟨rfl,B6,cc6,rfl,hs6⟩:=hR6
   (refine Yc Zz (Yr [] _ Zz Zz Zz (Wc (s:=Wr) (YI Zh) hs6 Zi) (fun v7 fz7 H7 hle7 hR7=>?_)))
   obtain ⟨rfl,hx7⟩:=hR7
   obtain ⟨A7,m7,c7,rfl,hX7⟩:=hx7.x
   refine Yc Zz (Yd T (cs:=[.int .i64 (YE (Yg Wr::Xd d.types)).kind,.int .i64 (YE (Yg Wr::Xd d.types)).value,.int .i64 (YE (Yg Wr::Xd d.types)).line,.int .i64 (YE (Yg Wr::Xd d.types)).column,.string (YE (Yg Wr::Xd d.types)).text,.slice A7 m7 c7]) Zz Zz Zz Zz Zz Zz Zz Zz (fun gb=>?_))
   refine Yc Zz (Does.perm (X6 [0,3,2,1] Zz Zz) (Xc T (Hr:=[_,_,_]) (d:=YE (Yg Wr::Xd d.types)) Zz Zz Zz Zz Zz Zz Zz Zz (List.Perm.refl _) (hG0.mono (hle6.trans hle7)) Yn (.head _) (Ye hX7) (by show _*72≤_;omega) Zi (fun v' Hs' hO'=>?_)))
   obtain ⟨Av',cv',rfl,_,_⟩:=hO'.form
   ((repeat (first | refine zS ?_ | refine zA fun _=>?_)))
   exact midN ⟨_,_,Hs',rfl,hle0.trans (hle6.trans hle7),rfl,hO'.of (by rw [Yfz hne]) rfl,by omega⟩ (Zw) (Zb)
  ·have hnil:Xd d.types=[]:=Ycx.2 (List.eq_nil_of_length_eq_zero Zi)
   ((repeat (first | refine zS ?_ | refine zA fun _=>?_)))
   exact midP (X6 [2,1,0] Zz Zz) ⟨_,_,_,rfl,hle0,rfl,hG0.of (by rw [hnil,YbM,List.append_nil]) rfl,by omega⟩ (Zw) (Zb)
 ·rintro σ fz1 H' ⟨vo1,no1,Ho1,rfl,hle1,rfl,hG1,hno1⟩
  obtain ⟨Ao1,co1,rfl,_,_⟩:=hG1.form
  refine Yp (Wp.mid (fun σ fz' H'=>∃ (vo:Value) (no:Nat) (Ho:HP),σ=[(3,vo),(2,.pointer (some ⟨g2,0,none⟩)),(1,.pointer (some ⟨g0,0,none⟩))]∧Le fz fz'∧H'=(g0,.cells #[.string d.name,.slice A1 n1 b1,.slice A2 n2 b2,.slice A3 n3 b3,.slice A4 n4 b4,.slice A5 n5 b5,.slice A6 n6 b6] 28 (0,0))::(g2,.cells #[.int .i64 0,.int .i64 0,.int .i64 0,.int .i64 0,.string ⟨#[]⟩,.slice none 0 0] 64 (0,0))::Ho∧Grow YH 64 fz' vo no Ho ([YE [Yg YN,Yg d.name]]++grp Wr (Xd d.types)++grp Xb (Xd d.constants))∧no≤3) ?_ ?_)
  ·((repeat (first | refine zS ?_ | refine zA fun _=>?_)))
   ((refine zG ?_;refine zC (fun e1=>?_) (fun e1=>?_)))
   ·have hne:Xd d.constants≠ []:=fun h0=>by rw [Ycx.1 h0] at l2;simp at l2;omega
    ((repeat (first | refine zS ?_ | refine zA fun _=>?_)))
    (refine Yc Zz (Yr [] _ Zz Zz Zz (Yag (i2.mono hle1) Zi) (fun v6 fz6 H6 hle6 hR6=>?_)))
    obtain ⟨rfl,B6,cc6,rfl,hs6⟩:=hR6
    (refine Yc Zz (Yr [] _ Zz Zz Zz (Wc (s:=Xb) (YI Zh) hs6 Zi) (fun v7 fz7 H7 hle7 hR7=>?_)))
    obtain ⟨rfl,hx7⟩:=hR7
    obtain ⟨A7,m7,c7,rfl,hX7⟩:=hx7.x
    refine Yc Zz (Yd T (cs:=[.int .i64 (YE (Yg Xb::Xd d.constants)).kind,.int .i64 (YE (Yg Xb::Xd d.constants)).value,.int .i64 (YE (Yg Xb::Xd d.constants)).line,.int .i64 (YE (Yg Xb::Xd d.constants)).column,.string (YE (Yg Xb::Xd d.constants)).text,.slice A7 m7 c7]) Zz Zz Zz Zz Zz Zz Zz Zz (fun gb=>?_))
    refine Yc Zz (Does.perm (List.Perm.refl _) (Xc T (Hr:=[_,_,_]) (d:=YE (Yg Xb::Xd d.constants)) Zz Zz Zz Zz Zz Zz Zz Zz (List.Perm.refl _) (hG1.mono (hle6.trans hle7)) Yn (.head _) (Ye hX7) (by show _*72≤_;omega) Zi (fun v' Hs' hO'=>?_)))
    obtain ⟨Av',cv',rfl,_,_⟩:=hO'.form
    ((repeat (first | refine zS ?_ | refine zA fun _=>?_)))
    exact midN ⟨_,_,Hs',rfl,hle1.trans (hle6.trans hle7),rfl,hO'.of (by rw [Yfz hne]) rfl,by omega⟩ (Zw) (Zb)
   ·have hnil:Xd d.constants=[]:=Ycx.2 (List.eq_nil_of_length_eq_zero Zi)
    ((repeat (first | refine zS ?_ | refine zA fun _=>?_)))
    exact midN ⟨_,_,_,rfl,hle1,rfl,hG1.of (by rw [hnil,YbM,List.append_nil]) rfl,by omega⟩ (Zw) (Zb)
  ·rintro σ fz2 H' ⟨vo2,no2,Ho2,rfl,hle2,rfl,hG2,hno2⟩
   obtain ⟨Ao2,co2,rfl,_,_⟩:=hG2.form
   ((repeat (first | refine zS ?_ | refine zA fun _=>?_)))
   refine YG (fun q σ fz' H'=>∃ (k:Nat) (vl:Value) (Hl:HP),k≤n3∧q=n3 - k∧σ=[(5,.int .i64 k),(4,vl),(3,.slice Ao2 no2 co2),(2,.pointer (some ⟨g2,0,none⟩)),(1,.pointer (some ⟨g0,0,none⟩))]∧Le fz2 fz'∧H'=(g0,.cells #[.string d.name,.slice A1 n1 b1,.slice A2 n2 b2,.slice A3 n3 b3,.slice A4 n4 b4,.slice A5 n5 b5,.slice A6 n6 b6] 28 (0,0))::(g2,.cells #[.int .i64 0,.int .i64 0,.int .i64 0,.int .i64 0,.string ⟨#[]⟩,.slice none 0 0] 64 (0,0))::(Ho2++Hl)∧Grow YH 64 fz' vl k Hl ((d.predicates.take k).map Yan))
    ⟨0,_,[],Nat.zero_le _,rfl,rfl,Le.refl _,(by rw [List.append_nil]),Grow.nil _ _ _⟩ (Zw) (Zb) ?_
   rintro q σ fz' H' ⟨k,vl,Hl,hk,rfl,rfl,hlk,rfl,hL⟩
   obtain ⟨Al,cl,rfl,_,_⟩:=hL.form
   have ik:=i3.mono (hle2.trans hlk)
   ((repeat (first | refine zS ?_ | refine zA fun _=>?_)))
   ((refine zG ?_;refine zC (fun c1=>?_) (fun c1=>?_)))
   ·obtain ⟨x,hx⟩:=YF (l:=d.predicates) (k:=k) Zi
    have hxm:=List.mem_of_getElem? hx
    have hpm:=hs.predp x hxm
    ((repeat (first | refine zS ?_ | refine zA fun _=>?_)))
    (refine Wp.drawK (Hq:=[_]) T.mixed Zj Zj (Zb) ?_)
    ((repeat (first | refine zS ?_ | refine zA fun _=>?_)))
    (((refine zG ?_));refine YB T k Zz Zz Zz Zz Zz Zz ik (by first | rfl | omega) hx (fun p hp=>?_))
    ((repeat (first | refine zS ?_ | refine zA fun _=>?_)))
    (((refine zG ?_));refine YZ T Zz Zz Zz hp.Predicate_name (fun is=>?_))
    ((repeat (first | refine zS ?_ | refine zA fun _=>?_)))
    (((refine zG ?_));refine YB T k Zz Zz Zz Zz Zz Zz ik (by first | rfl | omega) hx (fun p2 hp2=>?_))
    ((repeat (first | refine zS ?_ | refine zA fun _=>?_)))
    (((refine zG ?_));refine YbD T Zz Zz Zz hp2.Predicate_params (fun P p1 q1 ip=>?_))
    have hpl:=ip.len
    (refine Yb ?_)
    (refine Yb ?_)
    (refine Yb ?_)
    (refine Yb ?_)
    (refine Yb ?_)
    (refine YK ⟨by kernel_rfl,?_⟩)
    refine Yh (Yr [] _ Zz Zz Zz (Yag ip Zi) (fun v6 fz6 H6 hle6 hR6=>?_))
    obtain ⟨rfl,B6,cc6,rfl,hs6⟩:=hR6
    refine ⟨(⟨hle6,Zp1⟩),?_⟩
    refine Yh (Yr [] _ Zz Zz Zz (Wc is hs6 Zi) (fun v7 fz7 H7 hle7 hR7=>?_))
    obtain ⟨rfl,hx7⟩:=hR7
    obtain ⟨A7,m7,c7,rfl,hX7⟩:=hx7.x
    refine ⟨(⟨(hle6.trans hle7),Zp1⟩),?_⟩
    refine Yh (Yd T (cs:=[.int .i64 (YE (Yg x.name::Xd x.params)).kind,.int .i64 (YE (Yg x.name::Xd x.params)).value,.int .i64 (YE (Yg x.name::Xd x.params)).line,.int .i64 (YE (Yg x.name::Xd x.params)).column,.string (YE (Yg x.name::Xd x.params)).text,.slice A7 m7 c7]) Zz Zz Zz Zz Zz Zz Zz Zz (fun gb=>⟨(⟨(hle6.trans hle7),Zp1⟩),?_⟩))
    refine Yh (Xc T (Hr:=_::_::_::Ho2) (d:=Yan x) Zz Zz Zz Zz Zz Zz Zz Zz (List.Perm.refl _) (hL.mono (hle6.trans hle7)) Yn (.head _) (Ye hX7) (by show _*72≤_;omega) Zi (fun v' Hs' hO'=>⟨(⟨(hle6.trans hle7),Zp1⟩),?_⟩))
    obtain ⟨Av',cv',rfl,_,_⟩:=hO'.form
    refine Ch.qk (⟨(hle6.trans hle7),Zp1⟩) (YU Zz ?_)
    refine Ch.done ?_
    ((repeat (first | refine zS ?_ | refine zA fun _=>?_)))
    exact YP ⟨k+1,_,Hs',by omega,rfl,rfl,hlk.trans (hle6.trans hle7),rfl,hO'.of (by rw [List.take_add_one,hx];simp) rfl⟩ Zi (Zw) (Zb)
   ·have hk1:n3=k:=by omega
    subst hk1
    rw [show d.predicates.take n3=d.predicates from List.take_of_length_le Zi] at hL
    ((repeat (first | refine zSX ?_ | refine zA fun _=>?_)))
    refine Yp (Wp.mid (fun σ fz' H'=>∃ (vo:Value) (no:Nat) (Ho:HP),σ=[(3,vo),(2,.pointer (some ⟨g2,0,none⟩)),(1,.pointer (some ⟨g0,0,none⟩))]∧Le fz fz'∧H'=(g0,.cells #[.string d.name,.slice A1 n1 b1,.slice A2 n2 b2,.slice A3 n3 b3,.slice A4 n4 b4,.slice A5 n5 b5,.slice A6 n6 b6] 28 (0,0))::(g2,.cells #[.int .i64 0,.int .i64 0,.int .i64 0,.int .i64 0,.string ⟨#[]⟩,.slice none 0 0] 64 (0,0))::Ho∧Grow YH 64 fz' vo no Ho ([YE [Yg YN,Yg d.name]]++grp Wr (Xd d.types)++grp Xb (Xd d.constants)++grp Y6 (d.predicates.map Yan))∧no≤4) ?_ ?_)
    ·((repeat (first | refine zS ?_ | refine zA fun _=>?_)))
     ((refine zG ?_;refine zC (fun e1=>?_) (fun e1=>?_)))
     ·have hne:d.predicates.map Yan≠ []:=fun h0=>by have:=congrArg List.length h0;simp at this;rw [this] at l3;simp at l3;omega
      ((repeat (first | refine zS ?_ | refine zA fun _=>?_)))
      refine Seq.freezeAll (H1:=(g0,.cells #[.string d.name,.slice A1 n1 b1,.slice A2 n2 b2,.slice A3 n3 b3,.slice A4 n4 b4,.slice A5 n5 b5,.slice A6 n6 b6] 28 (0,0))::(g2,.cells #[.int .i64 0,.int .i64 0,.int .i64 0,.int .i64 0,.string ⟨#[]⟩,.slice none 0 0] 64 (0,0))::Ho2) (H2:=Hl) (List.Perm.refl _) (fun fzq hlq hfq=>?_)
      obtain ⟨Aq,cq,heq,hsq⟩:=hL.sl hlq hfq Zi
      injection heq with q1 q2 q3
      subst q1 q3
      (refine Yc Zz (Yr [] _ Zz Zz Zz (Wc (s:=Y6) (YI Zh) hsq Zi) (fun v7 fz7 H7 hle7 hR7=>?_)))
      obtain ⟨rfl,hx7⟩:=hR7
      obtain ⟨A7,m7,c7,rfl,hX7⟩:=hx7.x
      refine Yc Zz (Yd T (cs:=[.int .i64 (YE (Yg Y6::d.predicates.map Yan)).kind,.int .i64 (YE (Yg Y6::d.predicates.map Yan)).value,.int .i64 (YE (Yg Y6::d.predicates.map Yan)).line,.int .i64 (YE (Yg Y6::d.predicates.map Yan)).column,.string (YE (Yg Y6::d.predicates.map Yan)).text,.slice A7 m7 c7]) Zz Zz Zz Zz Zz Zz Zz Zz (fun gb=>?_))
      refine Yc Zz (Xc T (Hr:=[_,_,_]) (d:=YE (Yg Y6::d.predicates.map Yan)) Zz Zz Zz Zz Zz Zz Zz Zz (List.Perm.refl _) (hG2.mono (hlk.trans (hlq.trans hle7))) Yn (.head _) (Ye hX7) (by show _*72≤_;omega) Zi (fun v' Hs' hO'=>?_))
      obtain ⟨Av',cv',rfl,_,_⟩:=hO'.form
      ((repeat (first | refine zS ?_ | refine zA fun _=>?_)))
      exact midN ⟨_,_,Hs',rfl,hle2.trans (hlk.trans (hlq.trans hle7)),rfl,hO'.of (by rw [Yfz hne]) rfl,by omega⟩ (Zw) (Zb)
     ·have hnil:d.predicates.map Yan=[]:=by rw [List.eq_nil_of_length_eq_zero (l:=d.predicates) Zi];rfl
      ((repeat (first | refine zS ?_ | refine zA fun _=>?_)))
      exact midN ⟨_,_,_,rfl,hle2.trans hlk,rfl,(hG2.mono hlk).of (by rw [hnil,YbM,List.append_nil]) rfl,by omega⟩ (Zw) (List.Sublist.cons_cons _ (List.Sublist.cons_cons _ (List.sublist_append_left _ _)))
    ·rintro σ fz3 H' ⟨vo3,no3,Ho3,rfl,hle3,rfl,hG3,hno3⟩
     obtain ⟨Ao3,co3,rfl,_,_⟩:=hG3.form
     ((repeat (first | refine zS ?_ | refine zA fun _=>?_)))
     refine YG (fun q σ fz' H'=>∃ (k:Nat) (vl:Value) (Hl:HP),k≤n4∧q=n4 - k∧σ=[(6,.int .i64 k),(4,vl),(3,.slice Ao3 no3 co3),(2,.pointer (some ⟨g2,0,none⟩)),(1,.pointer (some ⟨g0,0,none⟩))]∧Le fz3 fz'∧H'=(g0,.cells #[.string d.name,.slice A1 n1 b1,.slice A2 n2 b2,.slice A3 n3 b3,.slice A4 n4 b4,.slice A5 n5 b5,.slice A6 n6 b6] 28 (0,0))::(g2,.cells #[.int .i64 0,.int .i64 0,.int .i64 0,.int .i64 0,.string ⟨#[]⟩,.slice none 0 0] 64 (0,0))::(Ho3++Hl)∧Grow YH 64 fz' vl k Hl ((d.functions.take k).map funX))
      ⟨0,_,[],Nat.zero_le _,rfl,rfl,Le.refl _,(by rw [List.append_nil]),Grow.nil _ _ _⟩ (Zw) (Zb) ?_
     rintro q σ fz' H' ⟨k,vl,Hl,hk,rfl,rfl,hlk,rfl,hL⟩
     obtain ⟨Al,cl,rfl,_,_⟩:=hL.form
     have ik:=i4.mono (hle3.trans hlk)
     ((repeat (first | refine zS ?_ | refine zA fun _=>?_)))
     ((refine zG ?_;refine zC (fun c1=>?_) (fun c1=>?_)))
     ·obtain ⟨x,hx⟩:=YF (l:=d.functions) (k:=k) Zi
      have hxm:=List.mem_of_getElem? hx
      have hpm:=hs.funp x hxm
      ((repeat (first | refine zS ?_ | refine zA fun _=>?_)))
      (((refine zG ?_));refine YB T k Zz Zz Zz Zz Zz Zz ik (by first | rfl | omega) hx (fun p hp=>?_))
      (((refine zG ?_));refine Yz T Zz Zz Zz hp Zz ?_)
      intro cs hcs
      obtain ⟨vpp,rfl,hRx⟩:=YaX hcs
      obtain ⟨P,p1,q1,rfl,ip⟩:=hRx.params
      have hpl:=ip.len
      ((repeat (first | refine zS ?_ | refine zA fun _=>?_)))
      rename_i g7
      (refine Wp.drawK (Hq:=[_]) T.mixed Zj Zj (Zb) ?_)
      ((repeat (first | refine zS ?_ | refine zA fun _=>?_)))
      (refine Yb ?_)
      ((repeat (first | refine zS ?_ | refine zA fun _=>?_)))
      (refine Yb ?_)
      ((repeat (first | refine zS ?_ | refine zA fun _=>?_)))
      (refine Yb ?_)
      (refine Yb ?_)
      (refine Yb ?_)
      (refine Yb ?_)
      (refine Yb ?_)
      (refine Yb ?_)
      (refine Yb ?_)
      (refine YK ⟨by kernel_rfl,?_⟩)
      refine Yh (Yr [] _ Zz Zz Zz (Yjn ip Zi) (fun v6 fz6 H6 hle6 hR6=>?_))
      obtain ⟨rfl,hG6⟩:=hR6
      obtain ⟨A6',c6',rfl,_,_⟩:=hG6.form
      refine ⟨⟨hle6,by intro p hp;simp only [List.mem_singleton] at hp;subst hp;simp⟩,?_⟩
      refine Ch.qk (⟨hle6,Zp1⟩) (Yj Zz Zz (Ycz (n:=x.lo)) ?_)
      refine Ch.qk (⟨hle6,Zp1⟩) (Yj Zz Zz (Ycz (n:=x.hi)) ?_)
      unfold sxV
      refine Yh (Yd T (cs:=[.int .i64 (numE x.lo).kind,.int .i64 (numE x.lo).value,.int .i64 (numE x.lo).line,.int .i64 (numE x.lo).column,.string (numE x.lo).text,.slice none 0 0]++ [.int .i64 (numE x.hi).kind,.int .i64 (numE x.hi).value,.int .i64 (numE x.hi).line,.int .i64 (numE x.hi).column,.string (numE x.hi).text,.slice none 0 0]) Zz Zz Zz Zz Zz Zz Zz Zz (fun gb=>⟨(⟨hle6,Zp1⟩),?_⟩))
      refine Yh (Does.perm (List.Perm.cons _ List.perm_append_comm) (Yd6 T (Hr:=_::_::_::_::(Ho3++Hl)) (ys:=[(numE x.lo,[.int .i64 (numE x.lo).kind,.int .i64 (numE x.lo).value,.int .i64 (numE x.lo).line,.int .i64 (numE x.lo).column,.string (numE x.lo).text,.slice none 0 0]),(numE x.hi,[.int .i64 (numE x.hi).kind,.int .i64 (numE x.hi).value,.int .i64 (numE x.hi).line,.int .i64 (numE x.hi).column,.string (numE x.hi).text,.slice none 0 0])]) (l2:=[numE x.lo,numE x.hi]) (m:=2) Zz Zz Zz Zz Zz Zz Zz Zz (List.Perm.refl _) hG6 Yn (.head _) rfl rfl (by
       intro p hp
       simp only [List.mem_cons,List.not_mem_nil,or_false] at hp
       rcases hp with rfl | rfl
       ·exact Ye (Ydm hRx.lo)
       ·exact Ye (Ydm hRx.hi)) rfl (by show _*72≤_;omega) Zi (fun v8 Hs8 hO8=>⟨(⟨hle6,Zp1⟩),?_⟩)))
      obtain ⟨A8,c8,rfl,_,_⟩:=hO8.form
      refine Yh (Does.freezeAll (H1:=_::_::_::_::(Ho3++Hl)) (H2:=Hs8) (List.Perm.refl _) (fun fz9 hle9 hf9=>?_))
      obtain ⟨A9,c9,he9,hs9⟩:=hO8.sl hle9 hf9 Zi
      injection he9 with x1 x2 x3
      subst x1 x3
      refine Yr [] _ Zz Zz Zz (Wc hRx.name hs9 Zi) (fun v7 fz7 H7 hle7 hR7=>?_)
      obtain ⟨rfl,hx7⟩:=hR7
      obtain ⟨A7,m7,c7,rfl,hX7⟩:=hx7.x
      refine ⟨(⟨(hle6.trans (hle9.trans hle7)),Zp1⟩),?_⟩
      refine Yh (Yd T (cs:=[.int .i64 (YE (Yg x.name::Xd x.params++ [numE x.lo,numE x.hi])).kind,.int .i64 (YE (Yg x.name::Xd x.params++ [numE x.lo,numE x.hi])).value,.int .i64 (YE (Yg x.name::Xd x.params++ [numE x.lo,numE x.hi])).line,.int .i64 (YE (Yg x.name::Xd x.params++ [numE x.lo,numE x.hi])).column,.string (YE (Yg x.name::Xd x.params++ [numE x.lo,numE x.hi])).text,.slice A7 m7 c7]) Zz Zz Zz Zz Zz Zz Zz Zz (fun gd=>⟨(⟨(hle6.trans (hle9.trans hle7)),Zp1⟩),?_⟩))
      refine Yh (Xc T (Hr:=_::_::_::_::_::Ho3) (d:=funX x) Zz Zz Zz Zz Zz Zz Zz Zz (List.Perm.refl _) (hL.mono (hle6.trans (hle9.trans hle7))) Yn (.head _) (Ye hX7) (by show _*72≤_;omega) Zi (fun v' Hs' hO'=>⟨(⟨(hle6.trans (hle9.trans hle7)),Zp1⟩),?_⟩))
      obtain ⟨Av',cv',rfl,_,_⟩:=hO'.form
      refine Ch.qk (⟨(hle6.trans (hle9.trans hle7)),Zp1⟩) (YU Zz ?_)
      refine Ch.done ?_
      ((repeat (first | refine zS ?_ | refine zA fun _=>?_)))
      exact YP ⟨k+1,_,Hs',by omega,rfl,rfl,hlk.trans (hle6.trans (hle9.trans hle7)),rfl,hO'.of (by rw [List.take_add_one,hx];simp) rfl⟩ Zi (Zw) (Zb)
     ·have hk1:n4=k:=by omega
      subst hk1
      rw [show d.functions.take n4=d.functions from List.take_of_length_le Zi] at hL
      ((repeat (first | refine zSX ?_ | refine zA fun _=>?_)))
      refine Yp (Wp.mid (fun σ fz' H'=>∃ (vo:Value) (no:Nat) (Ho:HP),σ=[(3,vo),(2,.pointer (some ⟨g2,0,none⟩)),(1,.pointer (some ⟨g0,0,none⟩))]∧Le fz fz'∧H'=(g0,.cells #[.string d.name,.slice A1 n1 b1,.slice A2 n2 b2,.slice A3 n3 b3,.slice A4 n4 b4,.slice A5 n5 b5,.slice A6 n6 b6] 28 (0,0))::(g2,.cells #[.int .i64 0,.int .i64 0,.int .i64 0,.int .i64 0,.string ⟨#[]⟩,.slice none 0 0] 64 (0,0))::Ho∧Grow YH 64 fz' vo no Ho ([YE [Yg YN,Yg d.name]]++grp Wr (Xd d.types)++grp Xb (Xd d.constants)++grp Y6 (d.predicates.map Yan)++grp Xf (d.functions.map funX))∧no≤5) ?_ ?_)
      ·((repeat (first | refine zS ?_ | refine zA fun _=>?_)))
       ((refine zG ?_;refine zC (fun e1=>?_) (fun e1=>?_)))
       ·have hne:d.functions.map funX≠ []:=fun h0=>by have:=congrArg List.length h0;simp at this;rw [this] at l4;simp at l4;omega
        ((repeat (first | refine zS ?_ | refine zA fun _=>?_)))
        refine Seq.freezeAll (H1:=(g0,.cells #[.string d.name,.slice A1 n1 b1,.slice A2 n2 b2,.slice A3 n3 b3,.slice A4 n4 b4,.slice A5 n5 b5,.slice A6 n6 b6] 28 (0,0))::(g2,.cells #[.int .i64 0,.int .i64 0,.int .i64 0,.int .i64 0,.string ⟨#[]⟩,.slice none 0 0] 64 (0,0))::Ho3) (H2:=Hl) (List.Perm.refl _) (fun fzq hlq hfq=>?_)
        obtain ⟨Aq,cq,heq,hsq⟩:=hL.sl hlq hfq Zi
        injection heq with q1 q2 q3
        subst q1 q3
        (refine Yc Zz (Yr [] _ Zz Zz Zz (Wc (s:=Xf) (YI Zh) hsq Zi) (fun v7 fz7 H7 hle7 hR7=>?_)))
        obtain ⟨rfl,hx7⟩:=hR7
        obtain ⟨A7,m7,c7,rfl,hX7⟩:=hx7.x
        refine Yc Zz (Yd T (cs:=[.int .i64 (YE (Yg Xf::d.functions.map funX)).kind,.int .i64 (YE (Yg Xf::d.functions.map funX)).value,.int .i64 (YE (Yg Xf::d.functions.map funX)).line,.int .i64 (YE (Yg Xf::d.functions.map funX)).column,.string (YE (Yg Xf::d.functions.map funX)).text,.slice A7 m7 c7]) Zz Zz Zz Zz Zz Zz Zz Zz (fun gb=>?_))
        refine Yc Zz (Xc T (Hr:=[_,_,_]) (d:=YE (Yg Xf::d.functions.map funX)) Zz Zz Zz Zz Zz Zz Zz Zz (List.Perm.refl _) (hG3.mono (hlk.trans (hlq.trans hle7))) Yn (.head _) (Ye hX7) (by show _*72≤_;omega) Zi (fun v' Hs' hO'=>?_))
        obtain ⟨Av',cv',rfl,_,_⟩:=hO'.form
        ((repeat (first | refine zS ?_ | refine zA fun _=>?_)))
        exact midN ⟨_,_,Hs',rfl,hle3.trans (hlk.trans (hlq.trans hle7)),rfl,hO'.of (by rw [Yfz hne]) rfl,by omega⟩ (Zw) (Zb)
       ·have hnil:d.functions.map funX=[]:=by rw [List.eq_nil_of_length_eq_zero (l:=d.functions) Zi];rfl
        ((repeat (first | refine zS ?_ | refine zA fun _=>?_)))
        exact midN ⟨_,_,_,rfl,hle3.trans hlk,rfl,(hG3.mono hlk).of (by rw [hnil,YbM,List.append_nil]) rfl,by omega⟩ (Zw) (List.Sublist.cons_cons _ (List.Sublist.cons_cons _ (List.sublist_append_left _ _)))
      ·rintro σ fz4 H' ⟨vo4,no4,Ho4,rfl,hle4,rfl,hG4,hno4⟩
       obtain ⟨Ao4,co4,rfl,_,_⟩:=hG4.form
       ((repeat (first | refine zS ?_ | refine zA fun _=>?_)))
       refine YG (fun q σ fz' H'=>∃ (k:Nat) (vo:Value) (no:Nat) (Ho:HP),k≤n5∧q=n5 - k∧σ=[(8,.int .i64 k),(3,vo),(2,.pointer (some ⟨g2,0,none⟩)),(1,.pointer (some ⟨g0,0,none⟩))]∧Le fz4 fz'∧H'=(g0,.cells #[.string d.name,.slice A1 n1 b1,.slice A2 n2 b2,.slice A3 n3 b3,.slice A4 n4 b4,.slice A5 n5 b5,.slice A6 n6 b6] 28 (0,0))::(g2,.cells #[.int .i64 0,.int .i64 0,.int .i64 0,.int .i64 0,.string ⟨#[]⟩,.slice none 0 0] 64 (0,0))::Ho∧Grow YH 64 fz' vo no Ho ([YE [Yg YN,Yg d.name]]++grp Wr (Xd d.types)++grp Xb (Xd d.constants)++grp Y6 (d.predicates.map Yan)++grp Xf (d.functions.map funX)++(d.actions.take k).map actX)∧no≤no4+k)
        ⟨0,_,no4,_,Nat.zero_le _,rfl,rfl,Le.refl _,rfl,hG4.of (by rw [List.take_zero,List.map_nil,List.append_nil]) rfl,by omega⟩ (Zw) (Zb) ?_
       rintro q σ fzk H' ⟨k,vo,no,Ho,hk,rfl,rfl,hlk,rfl,hG,hno⟩
       obtain ⟨Ao,co,rfl,_,_⟩:=hG.form
       have ik:=i5.mono (hle4.trans hlk)
       ((repeat (first | refine zS ?_ | refine zA fun _=>?_)))
       ((refine zG ?_;refine zC (fun c1=>?_) (fun c1=>?_)))
       ·obtain ⟨x,hx⟩:=YF (l:=d.actions) (k:=k) Zi
        have hxm:=List.mem_of_getElem? hx
        ((repeat (first | refine zS ?_ | refine zA fun _=>?_)))
        (((refine zG ?_));refine YB T k Zz Zz Zz Zz Zz Zz ik (by first | rfl | omega) hx (fun p hp=>?_))
        (((refine zG ?_));refine Yz T Zz Zz Zz hp Zz ?_)
        intro cs hcs
        obtain ⟨u0,u1,u2,u3,u4,u5,rfl,hRx⟩:=Yai hcs
        obtain ⟨P,p1,q1,rfl,ip⟩:=hRx.params
        have hpl:=ip.len
        have hpm:=hs.actp x hxm
        have hSx:=hS.2.2.2.2.2.1 x hxm
        have hsx:=hs.sm.acts x hxm
        have hP:=hRx.pre
        obtain ⟨U1,w1,z1,rfl,_⟩:=hRx.pre.args
        obtain ⟨U2,w2,z2,rfl,_⟩:=hRx.pre.params
        obtain ⟨U3,w3,z3,rfl,_⟩:=hRx.pre.exprs
        obtain ⟨U4,w4,z4,rfl,_⟩:=hRx.pre.kids
        obtain ⟨U5,w5,z5,rfl,ic⟩:=hRx.changes
        ((repeat (first | refine zS ?_ | refine zA fun _=>?_)))
        rename_i g9
        (((refine zG ?_));refine Yj Zz Zz (YdI (s:=x.name)) ?_)
        unfold sxV
        refine Yc Zz (Yd T (cs:=Yw x.name) Zz Zz Zz Zz Zz Zz Zz Zz (fun gl=>?_))
        have hL0:Grow YH 64 fzk (.slice (some ⟨gl,0,none⟩) 1 1) 1 [(gl,.cells (Yw x.name).toArray 64 (0,0))] [Yg x.name]:=Grow.block (ys:=[(Yg x.name,Yw x.name)]) rfl rfl (by simpa using Yt hRx.name) rfl Zh
        have hc0:Le fzk fzk:=Le.refl _
        obtain ⟨nl0,hnl0,hnm0⟩:∃ n,n=1∧n≤1:=⟨1,rfl,Nat.le_refl _⟩
        ((repeat (first | refine zSN ?_ | refine zA fun _=>?_)))
        refine Wp.drawK (Hq:=[(g9,.cells #[.string x.name,.slice P p1 q1,.int .i64 x.cost,.string x.pre.op,.string x.pre.name,.slice U1 w1 z1,.slice U2 w2 z2,.slice U3 w3 z3,.slice U4 w4 z4,.slice U5 w5 z5] 55 (0,0))]) T.mixed Zj Zj (List.singleton_sublist.2 (by simp)) ?_
        ((repeat (first | refine zS ?_ | refine zA fun _=>?_)))
        ((refine zG ?_));refine Ycb Zz Zz ?_
        ((repeat (first | refine zS ?_ | refine zA fun _=>?_)))
        (refine Yb ?_)
        (refine Yb ?_)
        (refine Yb ?_)
        (refine Yb ?_)
        (refine YK ⟨by kernel_rfl,?_⟩)
        refine Yh (Yr [] _ Zz Zz Zz (Yag (ip.mono hc0) Zi) (fun v6 fz6 H6 hle6 hR6=>?_))
        obtain ⟨rfl,B6,cc6,rfl,hs6⟩:=hR6
        refine ⟨(⟨hle6,Zp1⟩),?_⟩
        refine Ch.qk (⟨hle6,Zp1⟩) (WV T Zz Zz Zz Zz Zz ?_)
        refine Yh (Yr [_] _ Zz Zz Zz (YaD (x:=WW x.params) (kw:=YW) (hL0.mono hle6) (YI Zh) (Wz hs6) Zi) (fun v7 fz_1 H7 hle7 hR7=>?_))
        obtain ⟨_,nl1,hnl1,hL1⟩:=hR7
        rw [WS,Ybi (len0 ip.len)] at hL1
        refine ⟨(⟨(hle6.trans hle7),Zp1⟩),?_⟩
        refine Ch.qk (⟨(hle6.trans hle7),Zp1⟩) (YU Zz ?_)
        refine Ch.done ?_
        have hc1:=hc0.trans (hle6.trans hle7)
        have hnm1:nl1≤3:=by omega
        obtain ⟨Al1,cl1,rfl,_,_⟩:=hL1.form
        ((repeat (first | refine zSN ?_ | refine zA fun _=>?_)))
        refine Wp.drawK (Hq:=[(g9,.cells #[.string x.name,.slice P p1 q1,.int .i64 x.cost,.string x.pre.op,.string x.pre.name,.slice U1 w1 z1,.slice U2 w2 z2,.slice U3 w3 z3,.slice U4 w4 z4,.slice U5 w5 z5] 55 (0,0))]) T.mixed Zj Zj (List.singleton_sublist.2 (by simp)) ?_
        ((repeat (first | refine zS ?_ | refine zA fun _=>?_)))
        ((refine zG ?_));refine Ycb Zz Zz ?_
        ((repeat (first | refine zS ?_ | refine zA fun _=>?_)))
        (((refine zG ?_));refine Yj Zz Zz (Ycz (n:=x.cost)) ?_)
        unfold sxV
        (refine Yb ?_)
        (refine Yb ?_)
        (refine YK ⟨by kernel_rfl,?_⟩)
        refine Yh (Yr _ _ Zz Zz Zz (YaD (x:=numE x.cost) (kw:=Yfw) hL1 (YI Zh) (Ydm hRx.cost) Zi) (fun v7 fz_2 H7 hle7 hR7=>?_))
        obtain ⟨_,nl2,hnl2,hL2⟩:=hR7
        rw [WS] at hL2
        refine ⟨(⟨hle7,Zp1⟩),?_⟩
        refine Ch.qk (⟨hle7,Zp1⟩) (YU Zz ?_)
        refine Ch.done ?_
        have hc2:=hc1.trans hle7
        have hnm2:nl2≤5:=by omega
        obtain ⟨Al2,cl2,rfl,_,_⟩:=hL2.form
        ((repeat (first | refine zSN ?_ | refine zA fun _=>?_)))
        refine Wp.drawK (Hq:=[(g9,.cells #[.string x.name,.slice P p1 q1,.int .i64 x.cost,.string x.pre.op,.string x.pre.name,.slice U1 w1 z1,.slice U2 w2 z2,.slice U3 w3 z3,.slice U4 w4 z4,.slice U5 w5 z5] 55 (0,0))]) T.mixed Zj Zj (List.singleton_sublist.2 (by simp)) ?_
        ((repeat (first | refine zS ?_ | refine zA fun _=>?_)))
        (((refine zG ?_));refine Yu (vs:=[.string x.pre.op,.string x.pre.name,.slice U1 w1 z1,.slice U2 w2 z2,.slice U3 w3 z3,.slice U4 w4 z4]) T 0 Zz Zz Zz Zz Zz Zz ?_)
        (((refine zG ?_));refine Yj Zz Zz (YdP (hP.mono hc2)) ?_)
        ((repeat (first | refine zS ?_ | refine zA fun _=>?_)))
        (((refine zG ?_));refine Yu (vs:=[.string x.pre.op,.string x.pre.name,.slice U1 w1 z1,.slice U2 w2 z2,.slice U3 w3 z3,.slice U4 w4 z4]) T 0 Zz Zz Zz Zz Zz Zz ?_)
        (refine Yb ?_)
        (refine Yb ?_)
        (refine Yb ?_)
        (refine YK ⟨by kernel_rfl,?_⟩)
        refine Yh (Yr [] _ Zz Zz Zz (Yc6 (hP.mono hc2) (Yah _ (Nat.le_refl _) hSx.2.2.2.2.1 hsx.2.1)) (fun v6 fz6 H6 hle6 hR6=>?_))
        obtain ⟨rfl,hx6⟩:=hR6
        obtain ⟨E6,e6,c6,rfl,hX6⟩:=hx6.x
        refine ⟨(⟨hle6,Zp1⟩),?_⟩
        refine Yh (Yr _ _ Zz Zz Zz (YaD (x:=Y3 x.pre) (kw:=XN) (hL2.mono hle6) (YI Zh) hX6 Zi) (fun v7 fz_3 H7 hle7 hR7=>?_))
        obtain ⟨_,nl3,hnl3,hL3⟩:=hR7
        rw [WS,Ybi (Ybz hSx.2.2.2.2.1)] at hL3
        refine ⟨(⟨(hle6.trans hle7),Zp1⟩),?_⟩
        refine Ch.qk (⟨(hle6.trans hle7),Zp1⟩) (YU Zz ?_)
        refine Ch.done ?_
        have hc3:=hc2.trans (hle6.trans hle7)
        have hnm3:nl3≤7:=by omega
        obtain ⟨Al3,cl3,rfl,_,_⟩:=hL3.form
        ((repeat (first | refine zSN ?_ | refine zA fun _=>?_)))
        refine Wp.drawK (Hq:=[(g9,.cells #[.string x.name,.slice P p1 q1,.int .i64 x.cost,.string x.pre.op,.string x.pre.name,.slice U1 w1 z1,.slice U2 w2 z2,.slice U3 w3 z3,.slice U4 w4 z4,.slice U5 w5 z5] 55 (0,0))]) T.mixed Zj Zj (List.singleton_sublist.2 (by simp)) ?_
        ((repeat (first | refine zS ?_ | refine zA fun _=>?_)))
        ((refine zG ?_));refine Ycb Zz Zz ?_
        ((repeat (first | refine zS ?_ | refine zA fun _=>?_)))
        (refine Yb ?_)
        (refine Yb ?_)
        (refine Yb ?_)
        (refine YK ⟨by kernel_rfl,?_⟩)
        refine Yh (Yr [] _ Zz Zz Zz (Yel (ic.mono hc3) (by have:=ic.len;have:=hsx.2.2.1;omega) (fun c hc=>Yka (hSx.2.2.2.2.2 c hc) (hsx.2.2.2 c hc))) (fun v6 fz6 H6 hle6 hR6=>?_))
        obtain ⟨rfl,hx6⟩:=hR6
        obtain ⟨E6,e6,c6,rfl,hX6⟩:=hx6.x
        refine ⟨(⟨hle6,Zp1⟩),?_⟩
        refine Yh (Yr _ _ Zz Zz Zz (YaD (x:=effX x.changes) (kw:=Ycl) (hL3.mono hle6) (YI Zh) hX6 Zi) (fun v7 fz_4 H7 hle7 hR7=>?_))
        obtain ⟨_,nl4,hnl4,hL4⟩:=hR7
        rw [WS,Ybi (len0 ic.len)] at hL4
        refine ⟨(⟨(hle6.trans hle7),Zp1⟩),?_⟩
        refine Ch.qk (⟨(hle6.trans hle7),Zp1⟩) (YU Zz ?_)
        refine Ch.done ?_
        have hc4:=hc3.trans (hle6.trans hle7)
        have hnm4:nl4≤9:=by omega
        obtain ⟨Al4,cl4,rfl,_,_⟩:=hL4.form
        ((repeat (first | refine zSN ?_ | refine zA fun _=>?_)))
        refine Seq.freezeAll (H1:=(g9,.cells #[.string x.name,.slice P p1 q1,.int .i64 x.cost,.string x.pre.op,.string x.pre.name,.slice U1 w1 z1,.slice U2 w2 z2,.slice U3 w3 z3,.slice U4 w4 z4,.slice U5 w5 z5] 55 (0,0))::(g0,.cells #[.string d.name,.slice A1 n1 b1,.slice A2 n2 b2,.slice A3 n3 b3,.slice A4 n4 b4,.slice A5 n5 b5,.slice A6 n6 b6] 28 (0,0))::(g2,.cells #[.int .i64 0,.int .i64 0,.int .i64 0,.int .i64 0,.string ⟨#[]⟩,.slice none 0 0] 64 (0,0))::Ho) (H2:=H7) (List.perm_append_comm (l₁:=H7) (l₂:=_::_::_::Ho)) (fun fzq hlq hfq=>?_)
        obtain ⟨Aq,cq,heq,hsq⟩:=hL4.sl hlq hfq Zi
        injection heq with q1 q2 q3
        subst q1 q3
        (refine Yc Zz (Yr [] _ Zz Zz Zz (Wc (s:=Xs) (YI Zh) hsq Zi) (fun v8 fz8 H8 hle8 hR8=>?_)))
        obtain ⟨rfl,hx8⟩:=hR8
        obtain ⟨A8,m8,c8,rfl,hX8⟩:=hx8.x
        refine Yc Zz (Yd T (cs:=[.int .i64 (actX x).kind,.int .i64 (actX x).value,.int .i64 (actX x).line,.int .i64 (actX x).column,.string (actX x).text,.slice A8 m8 c8]) Zz Zz Zz Zz Zz Zz Zz Zz (fun gb=>?_))
        refine Yc Zz (Xc T (Hr:=[_,_,_,_]) (d:=actX x) Zz Zz Zz Zz Zz Zz Zz Zz (List.Perm.refl _) (hG.mono (hc4.trans (hlq.trans hle8))) Yn (.head _) (Ye hX8) (by show _*72≤_;omega) Zi (fun v' Hs' hO'=>?_))
        obtain ⟨Av',cv',rfl,_,_⟩:=hO'.form
        ((repeat (first | refine zS ?_ | refine zA fun _=>?_)))
        exact YP ⟨k+1,_,no+1,Hs',by omega,rfl,rfl,hlk.trans (hc4.trans (hlq.trans hle8)),rfl,hO'.of (by rw [List.take_add_one,hx,List.map_append,← List.append_assoc];rfl) rfl,by omega⟩ Zi (Zw) (Zb)
       ·have hk1:n5=k:=by omega
        subst hk1
        rw [show d.actions.take n5=d.actions from List.take_of_length_le Zi] at hG
        obtain ⟨no6,hno6⟩:∃ m,m=no:=⟨no,rfl⟩
        subst hno6
        obtain ⟨fz6,hfz6⟩:∃ f,f=fzk:=⟨_,rfl⟩
        subst hfz6
        have hle6:=hle4.trans hlk
        have hG6:=hG
        ((repeat (first | refine zS ?_ | refine zA fun _=>?_)))
        refine YG (fun q σ fz' H'=>∃ (k:Nat) (vo:Value) (no:Nat) (Ho:HP),k≤n6∧q=n6 - k∧σ=[(10,.int .i64 k),(3,vo),(2,.pointer (some ⟨g2,0,none⟩)),(1,.pointer (some ⟨g0,0,none⟩))]∧Le fz6 fz'∧H'=(g0,.cells #[.string d.name,.slice A1 n1 b1,.slice A2 n2 b2,.slice A3 n3 b3,.slice A4 n4 b4,.slice A5 n5 b5,.slice A6 n6 b6] 28 (0,0))::(g2,.cells #[.int .i64 0,.int .i64 0,.int .i64 0,.int .i64 0,.string ⟨#[]⟩,.slice none 0 0] 64 (0,0))::Ho∧Grow YH 64 fz' vo no Ho ([YE [Yg YN,Yg d.name]]++grp Wr (Xd d.types)++grp Xb (Xd d.constants)++grp Y6 (d.predicates.map Yan)++grp Xf (d.functions.map funX)++d.actions.map actX++(d.duratives.take k).map durX)∧no≤no6+k)
         ⟨0,_,no6,_,Nat.zero_le _,rfl,rfl,Le.refl _,rfl,hG6.of (by rw [List.take_zero,List.map_nil,List.append_nil]) rfl,by omega⟩ (Zw) (Zb) ?_
        rintro q σ fzk H' ⟨k,vo,no,Ho,hk,rfl,rfl,hlk,rfl,hG,hno⟩
        obtain ⟨Ao,co,rfl,_,_⟩:=hG.form
        have ik:=i6.mono (hle6.trans hlk)
        ((repeat (first | refine zS ?_ | refine zA fun _=>?_)))
        ((refine zG ?_;refine zC (fun c1=>?_) (fun c1=>?_)))
        ·obtain ⟨x,hx⟩:=YF (l:=d.duratives) (k:=k) Zi
         have hxm:=List.mem_of_getElem? hx
         ((repeat (first | refine zS ?_ | refine zA fun _=>?_)))
         (((refine zG ?_));refine YB T k Zz Zz Zz Zz Zz Zz ik (by first | rfl | omega) hx (fun p hp=>?_))
         (((refine zG ?_));refine Yz T Zz Zz Zz hp Zz ?_)
         intro cs hcs
         obtain ⟨u0,u1,u2,u3,u4,u5,u6,u7,u8,u9,u10,u11,u12,u13,u14,rfl,hRx⟩:=W9 hcs
         obtain ⟨P,p1,q1,rfl,ip⟩:=hRx.params
         have hpl:=ip.len
         have hpm:=hs.durp x hxm
         have hSx:=hS.2.2.2.2.2.2 x hxm
         have hsx:=hs.sm.durs x hxm
         have hS1:=hRx.start
         have hS2:=hRx.over
         have hS3:=hRx.fin
         obtain ⟨U1,w1,z1,rfl,_⟩:=hRx.start.args
         obtain ⟨U2,w2,z2,rfl,_⟩:=hRx.start.params
         obtain ⟨U3,w3,z3,rfl,_⟩:=hRx.start.exprs
         obtain ⟨U4,w4,z4,rfl,_⟩:=hRx.start.kids
         obtain ⟨U5,w5,z5,rfl,_⟩:=hRx.over.args
         obtain ⟨U6,w6,z6,rfl,_⟩:=hRx.over.params
         obtain ⟨U7,w7,z7,rfl,_⟩:=hRx.over.exprs
         obtain ⟨U8,w8,z8,rfl,_⟩:=hRx.over.kids
         obtain ⟨U9,w9,z9,rfl,_⟩:=hRx.fin.args
         obtain ⟨U10,w10,z10,rfl,_⟩:=hRx.fin.params
         obtain ⟨U11,w11,z11,rfl,_⟩:=hRx.fin.exprs
         obtain ⟨U12,w12,z12,rfl,_⟩:=hRx.fin.kids
         obtain ⟨U13,w13,z13,rfl,ia⟩:=hRx.atStart
         obtain ⟨U14,w14,z14,rfl,ie⟩:=hRx.atEnd
         ((repeat (first | refine zS ?_ | refine zA fun _=>?_)))
         rename_i g9
         (((refine zG ?_));refine Yj Zz Zz (YdI (s:=x.name)) ?_)
         unfold sxV
         refine Yc Zz (Yd T (cs:=Yw x.name) Zz Zz Zz Zz Zz Zz Zz Zz (fun gl=>?_))
         have hL0:Grow YH 64 fzk (.slice (some ⟨gl,0,none⟩) 1 1) 1 [(gl,.cells (Yw x.name).toArray 64 (0,0))] [Yg x.name]:=Grow.block (ys:=[(Yg x.name,Yw x.name)]) rfl rfl (by simpa using Yt hRx.name) rfl Zh
         have hc0:Le fzk fzk:=Le.refl _
         obtain ⟨nl0,hnl0,hnm0⟩:∃ n,n=1∧n≤1:=⟨1,rfl,Nat.le_refl _⟩
         ((repeat (first | refine zSN ?_ | refine zA fun _=>?_)))
         refine Wp.drawK (Hq:=[(g9,.cells #[.string x.name,.slice P p1 q1,.int .i64 x.duration,.string x.start.op,.string x.start.name,.slice U1 w1 z1,.slice U2 w2 z2,.slice U3 w3 z3,.slice U4 w4 z4,.string x.over.op,.string x.over.name,.slice U5 w5 z5,.slice U6 w6 z6,.slice U7 w7 z7,.slice U8 w8 z8,.string x.fin.op,.string x.fin.name,.slice U9 w9 z9,.slice U10 w10 z10,.slice U11 w11 z11,.slice U12 w12 z12,.slice U13 w13 z13,.slice U14 w14 z14] 58 (0,0))]) T.mixed Zj Zj (List.singleton_sublist.2 (by simp)) ?_
         ((repeat (first | refine zS ?_ | refine zA fun _=>?_)))
         ((refine zG ?_));refine Ycb Zz Zz ?_
         ((repeat (first | refine zS ?_ | refine zA fun _=>?_)))
         (refine Yb ?_)
         (refine Yb ?_)
         (refine Yb ?_)
         (refine Yb ?_)
         (refine YK ⟨by kernel_rfl,?_⟩)
         refine Yh (Yr [] _ Zz Zz Zz (Yag (ip.mono hc0) Zi) (fun v6 fz6 H6 hle6 hR6=>?_))
         obtain ⟨rfl,B6,cc6,rfl,hs6⟩:=hR6
         refine ⟨(⟨hle6,Zp1⟩),?_⟩
         refine Ch.qk (⟨hle6,Zp1⟩) (WV T Zz Zz Zz Zz Zz ?_)
         refine Yh (Yr [_] _ Zz Zz Zz (YaD (x:=WW x.params) (kw:=YW) (hL0.mono hle6) (YI Zh) (Wz hs6) Zi) (fun v7 fz_1 H7 hle7 hR7=>?_))
         obtain ⟨_,nl1,hnl1,hL1⟩:=hR7
         rw [WS,Ybi (len0 ip.len)] at hL1
         refine ⟨(⟨(hle6.trans hle7),Zp1⟩),?_⟩
         refine Ch.qk (⟨(hle6.trans hle7),Zp1⟩) (YU Zz ?_)
         refine Ch.done ?_
         have hc1:=hc0.trans (hle6.trans hle7)
         have hnm1:nl1≤3:=by omega
         obtain ⟨Al1,cl1,rfl,_,_⟩:=hL1.form
         ((repeat (first | refine zSN ?_ | refine zA fun _=>?_)))
         refine Wp.drawK (Hq:=[(g9,.cells #[.string x.name,.slice P p1 q1,.int .i64 x.duration,.string x.start.op,.string x.start.name,.slice U1 w1 z1,.slice U2 w2 z2,.slice U3 w3 z3,.slice U4 w4 z4,.string x.over.op,.string x.over.name,.slice U5 w5 z5,.slice U6 w6 z6,.slice U7 w7 z7,.slice U8 w8 z8,.string x.fin.op,.string x.fin.name,.slice U9 w9 z9,.slice U10 w10 z10,.slice U11 w11 z11,.slice U12 w12 z12,.slice U13 w13 z13,.slice U14 w14 z14] 58 (0,0))]) T.mixed Zj Zj (List.singleton_sublist.2 (by simp)) ?_
         ((repeat (first | refine zS ?_ | refine zA fun _=>?_)))
         ((refine zG ?_));refine Ycb Zz Zz ?_
         ((repeat (first | refine zS ?_ | refine zA fun _=>?_)))
         (((refine zG ?_));refine Yj Zz Zz (Ycz (n:=x.duration)) ?_)
         unfold sxV
         (refine Yb ?_)
         (refine Yb ?_)
         (refine YK ⟨by kernel_rfl,?_⟩)
         refine Yh (Yr _ _ Zz Zz Zz (YaD (x:=numE x.duration) (kw:=X7) hL1 (YI Zh) (Ydm hRx.duration) Zi) (fun v7 fz_2 H7 hle7 hR7=>?_))
         obtain ⟨_,nl2,hnl2,hL2⟩:=hR7
         rw [WS] at hL2
         refine ⟨(⟨hle7,Zp1⟩),?_⟩
         refine Ch.qk (⟨hle7,Zp1⟩) (YU Zz ?_)
         refine Ch.done ?_
         have hc2:=hc1.trans hle7
         have hnm2:nl2≤5:=by omega
         obtain ⟨Al2,cl2,rfl,_,_⟩:=hL2.form
         ((repeat (first | refine zSN ?_ | refine zA fun _=>?_)))
         refine Wp.drawK (Hq:=[(g9,.cells #[.string x.name,.slice P p1 q1,.int .i64 x.duration,.string x.start.op,.string x.start.name,.slice U1 w1 z1,.slice U2 w2 z2,.slice U3 w3 z3,.slice U4 w4 z4,.string x.over.op,.string x.over.name,.slice U5 w5 z5,.slice U6 w6 z6,.slice U7 w7 z7,.slice U8 w8 z8,.string x.fin.op,.string x.fin.name,.slice U9 w9 z9,.slice U10 w10 z10,.slice U11 w11 z11,.slice U12 w12 z12,.slice U13 w13 z13,.slice U14 w14 z14] 58 (0,0))]) T.mixed Zj Zj (List.singleton_sublist.2 (by simp)) ?_
         ((repeat (first | refine zS ?_ | refine zA fun _=>?_)))
         (((refine zG ?_));refine Yu (vs:=[.string x.start.op,.string x.start.name,.slice U1 w1 z1,.slice U2 w2 z2,.slice U3 w3 z3,.slice U4 w4 z4]) T 0 Zz Zz Zz Zz Zz Zz ?_)
         (((refine zG ?_));refine Yj Zz Zz (YdP (hS1.mono hc2)) ?_)
         ((repeat (first | refine zS ?_ | refine zA fun _=>?_)))
         (((refine zG ?_));refine Yu (vs:=[.string x.start.op,.string x.start.name,.slice U1 w1 z1,.slice U2 w2 z2,.slice U3 w3 z3,.slice U4 w4 z4]) T 0 Zz Zz Zz Zz Zz Zz ?_)
         (refine Yb ?_)
         (refine Yb ?_)
         (refine Yb ?_)
         (refine YK ⟨by kernel_rfl,?_⟩)
         refine Yh (Yr [] _ Zz Zz Zz (Yc6 (hS1.mono hc2) (Yah _ (Nat.le_refl _) hSx.2.2.2.2.2.1 hsx.2.1)) (fun v6 fz6 H6 hle6 hR6=>?_))
         obtain ⟨rfl,hx6⟩:=hR6
         obtain ⟨E6,e6,c6,rfl,hX6⟩:=hx6.x
         refine ⟨(⟨hle6,Zp1⟩),?_⟩
         refine Yh (Yr _ _ Zz Zz Zz (YaD (x:=Y3 x.start) (kw:=YbL) (hL2.mono hle6) (YI Zh) hX6 Zi) (fun v7 fz_3 H7 hle7 hR7=>?_))
         obtain ⟨_,nl3,hnl3,hL3⟩:=hR7
         rw [WS,Ybi (Ybz hSx.2.2.2.2.2.1)] at hL3
         refine ⟨(⟨(hle6.trans hle7),Zp1⟩),?_⟩
         refine Ch.qk (⟨(hle6.trans hle7),Zp1⟩) (YU Zz ?_)
         refine Ch.done ?_
         have hc3:=hc2.trans (hle6.trans hle7)
         have hnm3:nl3≤7:=by omega
         obtain ⟨Al3,cl3,rfl,_,_⟩:=hL3.form
         ((repeat (first | refine zSN ?_ | refine zA fun _=>?_)))
         refine Wp.drawK (Hq:=[(g9,.cells #[.string x.name,.slice P p1 q1,.int .i64 x.duration,.string x.start.op,.string x.start.name,.slice U1 w1 z1,.slice U2 w2 z2,.slice U3 w3 z3,.slice U4 w4 z4,.string x.over.op,.string x.over.name,.slice U5 w5 z5,.slice U6 w6 z6,.slice U7 w7 z7,.slice U8 w8 z8,.string x.fin.op,.string x.fin.name,.slice U9 w9 z9,.slice U10 w10 z10,.slice U11 w11 z11,.slice U12 w12 z12,.slice U13 w13 z13,.slice U14 w14 z14] 58 (0,0))]) T.mixed Zj Zj (List.singleton_sublist.2 (by simp)) ?_
         ((repeat (first | refine zS ?_ | refine zA fun _=>?_)))
         (((refine zG ?_));refine Yu (vs:=[.string x.over.op,.string x.over.name,.slice U5 w5 z5,.slice U6 w6 z6,.slice U7 w7 z7,.slice U8 w8 z8]) T 0 Zz Zz Zz Zz Zz Zz ?_)
         (((refine zG ?_));refine Yj Zz Zz (YdP (hS2.mono hc3)) ?_)
         ((repeat (first | refine zS ?_ | refine zA fun _=>?_)))
         (((refine zG ?_));refine Yu (vs:=[.string x.over.op,.string x.over.name,.slice U5 w5 z5,.slice U6 w6 z6,.slice U7 w7 z7,.slice U8 w8 z8]) T 0 Zz Zz Zz Zz Zz Zz ?_)
         (refine Yb ?_)
         (refine Yb ?_)
         (refine Yb ?_)
         (refine YK ⟨by kernel_rfl,?_⟩)
         refine Yh (Yr [] _ Zz Zz Zz (Yc6 (hS2.mono hc3) (Yah _ (Nat.le_refl _) hSx.2.2.2.2.2.2.1 hsx.2.2.1)) (fun v6 fz6 H6 hle6 hR6=>?_))
         obtain ⟨rfl,hx6⟩:=hR6
         obtain ⟨E6,e6,c6,rfl,hX6⟩:=hx6.x
         refine ⟨(⟨hle6,Zp1⟩),?_⟩
         refine Yh (Yr _ _ Zz Zz Zz (YaD (x:=Y3 x.over) (kw:=YeH) (hL3.mono hle6) (YI Zh) hX6 Zi) (fun v7 fz_4 H7 hle7 hR7=>?_))
         obtain ⟨_,nl4,hnl4,hL4⟩:=hR7
         rw [WS,Ybi (Ybz hSx.2.2.2.2.2.2.1)] at hL4
         refine ⟨(⟨(hle6.trans hle7),Zp1⟩),?_⟩
         refine Ch.qk (⟨(hle6.trans hle7),Zp1⟩) (YU Zz ?_)
         refine Ch.done ?_
         have hc4:=hc3.trans (hle6.trans hle7)
         have hnm4:nl4≤9:=by omega
         obtain ⟨Al4,cl4,rfl,_,_⟩:=hL4.form
         ((repeat (first | refine zSN ?_ | refine zA fun _=>?_)))
         refine Wp.drawK (Hq:=[(g9,.cells #[.string x.name,.slice P p1 q1,.int .i64 x.duration,.string x.start.op,.string x.start.name,.slice U1 w1 z1,.slice U2 w2 z2,.slice U3 w3 z3,.slice U4 w4 z4,.string x.over.op,.string x.over.name,.slice U5 w5 z5,.slice U6 w6 z6,.slice U7 w7 z7,.slice U8 w8 z8,.string x.fin.op,.string x.fin.name,.slice U9 w9 z9,.slice U10 w10 z10,.slice U11 w11 z11,.slice U12 w12 z12,.slice U13 w13 z13,.slice U14 w14 z14] 58 (0,0))]) T.mixed Zj Zj (List.singleton_sublist.2 (by simp)) ?_
         ((repeat (first | refine zS ?_ | refine zA fun _=>?_)))
         (((refine zG ?_));refine Yu (vs:=[.string x.fin.op,.string x.fin.name,.slice U9 w9 z9,.slice U10 w10 z10,.slice U11 w11 z11,.slice U12 w12 z12]) T 0 Zz Zz Zz Zz Zz Zz ?_)
         (((refine zG ?_));refine Yj Zz Zz (YdP (hS3.mono hc4)) ?_)
         ((repeat (first | refine zS ?_ | refine zA fun _=>?_)))
         (((refine zG ?_));refine Yu (vs:=[.string x.fin.op,.string x.fin.name,.slice U9 w9 z9,.slice U10 w10 z10,.slice U11 w11 z11,.slice U12 w12 z12]) T 0 Zz Zz Zz Zz Zz Zz ?_)
         (refine Yb ?_)
         (refine Yb ?_)
         (refine Yb ?_)
         (refine YK ⟨by kernel_rfl,?_⟩)
         refine Yh (Yr [] _ Zz Zz Zz (Yc6 (hS3.mono hc4) (Yah _ (Nat.le_refl _) hSx.2.2.2.2.2.2.2 hsx.2.2.2.1)) (fun v6 fz6 H6 hle6 hR6=>?_))
         obtain ⟨rfl,hx6⟩:=hR6
         obtain ⟨E6,e6,c6,rfl,hX6⟩:=hx6.x
         refine ⟨(⟨hle6,Zp1⟩),?_⟩
         refine Yh (Yr _ _ Zz Zz Zz (YaD (x:=Y3 x.fin) (kw:=kEnd) (hL4.mono hle6) (YI Zh) hX6 Zi) (fun v7 fz_5 H7 hle7 hR7=>?_))
         obtain ⟨_,nl5,hnl5,hL5⟩:=hR7
         rw [WS,Ybi (Ybz hSx.2.2.2.2.2.2.2)] at hL5
         refine ⟨(⟨(hle6.trans hle7),Zp1⟩),?_⟩
         refine Ch.qk (⟨(hle6.trans hle7),Zp1⟩) (YU Zz ?_)
         refine Ch.done ?_
         have hc5:=hc4.trans (hle6.trans hle7)
         have hnm5:nl5≤11:=by omega
         obtain ⟨Al5,cl5,rfl,_,_⟩:=hL5.form
         ((repeat (first | refine zSN ?_ | refine zA fun _=>?_)))
         refine Wp.drawK (Hq:=[(g9,.cells #[.string x.name,.slice P p1 q1,.int .i64 x.duration,.string x.start.op,.string x.start.name,.slice U1 w1 z1,.slice U2 w2 z2,.slice U3 w3 z3,.slice U4 w4 z4,.string x.over.op,.string x.over.name,.slice U5 w5 z5,.slice U6 w6 z6,.slice U7 w7 z7,.slice U8 w8 z8,.string x.fin.op,.string x.fin.name,.slice U9 w9 z9,.slice U10 w10 z10,.slice U11 w11 z11,.slice U12 w12 z12,.slice U13 w13 z13,.slice U14 w14 z14] 58 (0,0))]) T.mixed Zj Zj (List.singleton_sublist.2 (by simp)) ?_
         ((repeat (first | refine zS ?_ | refine zA fun _=>?_)))
         ((refine zG ?_));refine Ycb Zz Zz ?_
         ((repeat (first | refine zS ?_ | refine zA fun _=>?_)))
         (refine Yb ?_)
         (refine Yb ?_)
         (refine Yb ?_)
         (refine YK ⟨by kernel_rfl,?_⟩)
         refine Yh (Yr [] _ Zz Zz Zz (Yel (ia.mono hc5) (by have:=ia.len;have:=hsx.2.2.2.2.1.1;omega) (fun c hc=>Yka (hSx.2.2.2.1 c hc) (hsx.2.2.2.2.1.2 c hc))) (fun v6 fz6 H6 hle6 hR6=>?_))
         obtain ⟨rfl,hx6⟩:=hR6
         obtain ⟨E6,e6,c6,rfl,hX6⟩:=hx6.x
         refine ⟨(⟨hle6,Zp1⟩),?_⟩
         refine Yh (Yr _ _ Zz Zz Zz (YaD (x:=effX x.atStart) (kw:=YaQ) (hL5.mono hle6) (YI Zh) hX6 Zi) (fun v7 fz_6 H7 hle7 hR7=>?_))
         obtain ⟨_,nl6,hnl6,hL6⟩:=hR7
         rw [WS,Ybi (len0 ia.len)] at hL6
         refine ⟨(⟨(hle6.trans hle7),Zp1⟩),?_⟩
         refine Ch.qk (⟨(hle6.trans hle7),Zp1⟩) (YU Zz ?_)
         refine Ch.done ?_
         have hc6:=hc5.trans (hle6.trans hle7)
         have hnm6:nl6≤13:=by omega
         obtain ⟨Al6,cl6,rfl,_,_⟩:=hL6.form
         ((repeat (first | refine zSN ?_ | refine zA fun _=>?_)))
         refine Wp.drawK (Hq:=[(g9,.cells #[.string x.name,.slice P p1 q1,.int .i64 x.duration,.string x.start.op,.string x.start.name,.slice U1 w1 z1,.slice U2 w2 z2,.slice U3 w3 z3,.slice U4 w4 z4,.string x.over.op,.string x.over.name,.slice U5 w5 z5,.slice U6 w6 z6,.slice U7 w7 z7,.slice U8 w8 z8,.string x.fin.op,.string x.fin.name,.slice U9 w9 z9,.slice U10 w10 z10,.slice U11 w11 z11,.slice U12 w12 z12,.slice U13 w13 z13,.slice U14 w14 z14] 58 (0,0))]) T.mixed Zj Zj (List.singleton_sublist.2 (by simp)) ?_
         ((repeat (first | refine zS ?_ | refine zA fun _=>?_)))
         ((refine zG ?_));refine Ycb Zz Zz ?_
         ((repeat (first | refine zS ?_ | refine zA fun _=>?_)))
         (refine Yb ?_)
         (refine Yb ?_)
         (refine Yb ?_)
         (refine YK ⟨by kernel_rfl,?_⟩)
         refine Yh (Yr [] _ Zz Zz Zz (Yel (ie.mono hc6) (by have:=ie.len;have:=hsx.2.2.2.2.2.1;omega) (fun c hc=>Yka (hSx.2.2.2.2.1 c hc) (hsx.2.2.2.2.2.2 c hc))) (fun v6 fz6 H6 hle6 hR6=>?_))
         obtain ⟨rfl,hx6⟩:=hR6
         obtain ⟨E6,e6,c6,rfl,hX6⟩:=hx6.x
         refine ⟨(⟨hle6,Zp1⟩),?_⟩
         refine Yh (Yr _ _ Zz Zz Zz (YaD (x:=effX x.atEnd) (kw:=Yd8) (hL6.mono hle6) (YI Zh) hX6 Zi) (fun v7 fz_7 H7 hle7 hR7=>?_))
         obtain ⟨_,nl7,hnl7,hL7⟩:=hR7
         rw [WS,Ybi (len0 ie.len)] at hL7
         refine ⟨(⟨(hle6.trans hle7),Zp1⟩),?_⟩
         refine Ch.qk (⟨(hle6.trans hle7),Zp1⟩) (YU Zz ?_)
         refine Ch.done ?_
         have hc7:=hc6.trans (hle6.trans hle7)
         have hnm7:nl7≤15:=by omega
         obtain ⟨Al7,cl7,rfl,_,_⟩:=hL7.form
         ((repeat (first | refine zSN ?_ | refine zA fun _=>?_)))
         refine Seq.freezeAll (H1:=(g9,.cells #[.string x.name,.slice P p1 q1,.int .i64 x.duration,.string x.start.op,.string x.start.name,.slice U1 w1 z1,.slice U2 w2 z2,.slice U3 w3 z3,.slice U4 w4 z4,.string x.over.op,.string x.over.name,.slice U5 w5 z5,.slice U6 w6 z6,.slice U7 w7 z7,.slice U8 w8 z8,.string x.fin.op,.string x.fin.name,.slice U9 w9 z9,.slice U10 w10 z10,.slice U11 w11 z11,.slice U12 w12 z12,.slice U13 w13 z13,.slice U14 w14 z14] 58 (0,0))::(g0,.cells #[.string d.name,.slice A1 n1 b1,.slice A2 n2 b2,.slice A3 n3 b3,.slice A4 n4 b4,.slice A5 n5 b5,.slice A6 n6 b6] 28 (0,0))::(g2,.cells #[.int .i64 0,.int .i64 0,.int .i64 0,.int .i64 0,.string ⟨#[]⟩,.slice none 0 0] 64 (0,0))::Ho) (H2:=H7) (List.perm_append_comm (l₁:=H7) (l₂:=_::_::_::Ho)) (fun fzq hlq hfq=>?_)
         obtain ⟨Aq,cq,heq,hsq⟩:=hL7.sl hlq hfq Zi
         injection heq with q1 q2 q3
         subst q1 q3
         (refine Yc Zz (Yr [] _ Zz Zz Zz (Wc (s:=Y2) (YI Zh) hsq Zi) (fun v8 fz8 H8 hle8 hR8=>?_)))
         obtain ⟨rfl,hx8⟩:=hR8
         obtain ⟨A8,m8,c8,rfl,hX8⟩:=hx8.x
         refine Yc Zz (Yd T (cs:=[.int .i64 (durX x).kind,.int .i64 (durX x).value,.int .i64 (durX x).line,.int .i64 (durX x).column,.string (durX x).text,.slice A8 m8 c8]) Zz Zz Zz Zz Zz Zz Zz Zz (fun gb=>?_))
         refine Yc Zz (Xc T (Hr:=[_,_,_,_]) (d:=durX x) Zz Zz Zz Zz Zz Zz Zz Zz (List.Perm.refl _) (hG.mono (hc7.trans (hlq.trans hle8))) Yn (.head _) (Ye hX8) (by show _*72≤_;omega) Zi (fun v' Hs' hO'=>?_))
         obtain ⟨Av',cv',rfl,_,_⟩:=hO'.form
         ((repeat (first | refine zS ?_ | refine zA fun _=>?_)))
         exact YP ⟨k+1,_,no+1,Hs',by omega,rfl,rfl,hlk.trans (hc7.trans (hlq.trans hle8)),rfl,hO'.of (by rw [List.take_add_one,hx,List.map_append,← List.append_assoc];rfl) rfl,by omega⟩ Zi (Zw) (Zb)
        ·have hk1:n6=k:=by omega
         subst hk1
         rw [show d.duratives.take n6=d.duratives from List.take_of_length_le Zi] at hG
         ((repeat (first | refine zS ?_ | refine zA fun _=>?_)))
         refine Seq.freezeAll (H1:=[_,_]) (H2:=Ho) (List.Perm.refl _) (fun fzq hlq hfq=>?_)
         obtain ⟨Aq,cq,heq,hsq⟩:=hG.sl hlq hfq Zi
         injection heq with q1 q2 q3
         subst q1 q3
         (refine Yc Zz (Yr [] _ Zz Zz Zz (Wc (s:=Xj) (YI Zh) hsq Zi) (fun v8 fz8 H8 hle8 hR8=>?_)))
         obtain ⟨rfl,hx8⟩:=hR8
         obtain ⟨A8,m8,c8,rfl,hX8⟩:=hx8.x
         ((repeat (first | refine zS ?_ | refine zA fun _=>?_)))
         refine Y5 T (i:=1) rfl Zz Zz Zz Zz Zz (fun fz6 hle6 hf6=>⟨rfl,?_⟩)
         exact ⟨_,rfl,Ye (x:=domX d) (hX8.mono hle6)⟩
end Go.Proofs.YtbhlgkibgajajaaGreatDoor
namespace Go.Lx
mutual
def eW:Expr→Nat
 | .mk _ _ _ args kids=>1+args.length+eWL kids
def eWL:List Expr→Nat
 | []=>0
 | k::r=>eW k+eWL r
end
mutual
def fW:Formula→Nat
 | .mk _ _ args params exprs kids=>1+args.length+params.length+eWL exprs+fWL kids
def fWL:List Formula→Nat
 | []=>0
 | k::r=>fW k+fWL r
end
theorem Yj5 (l:List Expr):eWL l=(l.map eW).sum:=by
 induction l with
 | nil=>rfl
 | cons a r ih=>simp [eWL,ih]
theorem fWL_sum (l:List Formula):fWL l=(l.map fW).sum:=by
 induction l with
 | nil=>rfl
 | cons a r ih=>simp [fWL,ih]
def parW (_:Param):Nat:=1
def strW (_:ByteArray):Nat:=1
def atomW (a:Atom):Nat:=1+a.args.length
def YiU (v:Value_):Nat:=1+atomW v.fluent
def X1 (c:Change):Nat:=1+c.params.length+fW c.when_+c.args.length+eW c.value
def YeC (p:Predicate):Nat:=1+p.params.length
def funW (p:Function):Nat:=1+p.params.length
def actW (a:Action):Nat:=1+a.params.length+fW a.pre+(a.changes.map X1).sum
def durW (a:Durative):Nat:=1+a.params.length+fW a.start+fW a.over+fW a.fin+(a.atStart.map X1).sum+(a.atEnd.map X1).sum
def domW (d:Domain):Nat:=1+d.types.length+d.constants.length+(d.predicates.map YeC).sum+(d.functions.map funW).sum+(d.actions.map actW).sum+(d.duratives.map durW).sum
def prbW (p:Problem):Nat:=1+p.objects.length+(p.init.map atomW).sum+(p.values.map YiU).sum+fW p.goal
theorem eW_eq (e:Expr):eW e=1+e.args.length+(e.kids.map eW).sum:=by cases e;rw [eW,Yj5];rfl
theorem Yj0 (f:Formula):fW f=1+f.args.length+f.params.length+(f.exprs.map eW).sum+(f.kids.map fW).sum:=by cases f;rw [fW,Yj5,fWL_sum];rfl
theorem Yau (l:List Param):(l.map parW).sum=l.length:=by
 induction l with
 | nil=>rfl
 | cons a r ih=>simp [parW] at ih ⊢;omega
theorem Yat (l:List ByteArray):(l.map strW).sum=l.length:=by
 induction l with
 | nil=>rfl
 | cons a r ih=>simp [strW] at ih ⊢;omega
theorem Ybb {α:Type} {w:α→Nat}:∀ {l:List α} {x:α},x∈l→w x≤(l.map w).sum
 | [],_,h=>by cases h
 | a::r,x,h=>by
  simp only [List.map_cons,List.sum_cons]
  rcases List.mem_cons.1 h with rfl | h
  ·omega
  ·have:=Ybb (w:=w) h;omega
theorem YaC {α:Type} {w:α→Nat} (h:∀ x,1≤w x):∀ (l:List α),l.length≤(l.map w).sum
 | []=>by simp
 | a::r=>by
  have h1:=h a
  have h2:=YaC h r
  simp only [List.length_cons,List.map_cons,List.sum_cons];omega
theorem YdQ {α:Type} {w:α→Nat} {n:α→Nat} {k:Nat} (h:∀ x,n x≤k*w x):∀ (l:List α),(l.map n).sum≤k*(l.map w).sum
 | []=>by simp
 | a::r=>by
  have h1:=h a
  have h2:=YdQ h r
  simp only [List.map_cons,List.sum_cons,Nat.mul_add];omega
theorem eW_pos (e:Expr):1≤eW e:=by rw [eW_eq];omega
theorem Ye2 (f:Formula):1≤fW f:=by rw [Yj0];omega
theorem Yhw (c:Change):1≤X1 c:=by unfold X1;omega
theorem Ygm (c:Predicate):1≤YeC c:=by unfold YeC;omega
theorem Yh0 (c:Function):1≤funW c:=by unfold funW;omega
theorem actW_pos (c:Action):1≤actW c:=by unfold actW;omega
theorem durW_pos (c:Durative):1≤durW c:=by unfold durW;omega
theorem Ykf (c:Atom):1≤atomW c:=by unfold atomW;omega
theorem Yio (c:Value_):1≤YiU c:=by unfold YiU;omega
end Go.Lx
