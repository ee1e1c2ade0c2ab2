/- The texts PRefF, PRefG, PWalkL, PWalkM, PWalkN, PRefH, PRefI, laid together. Conditions: none. -/
import Derived.Test.YtbhlgkibgajajaaGreatDoorQPB
import Derived.Test.YtbhlgkibgajajaaGreatDoorQPC
import Derived.Test.YtbhlgkibgajajaaGreatDoorQPD
import Derived.Test.YtbhlgkibgajajaaGreatDoorQPE
import Derived.Test.YtbhlgkibgajajaaGreatDoorQPF
import Derived.Test.YtbhlgkibgajajaaGreatDoorQPI
import Derived.Test.YtbhlgkibgajajaaGreatDoorQPG
import Derived.Test.YtbhlgkibgajajaaGreatDoorQPH
set_option maxRecDepth 20000
namespace Go.Proofs.YtbhlgkibgajajaaGreatDoor
open Go.Lx Go.RowKit
attribute [local instance 10] Classical.propDecidable
theorem sym_iff {b:UInt8}:b∈SymL↔(b.toNat:Int)=45∨(b.toNat:Int)=95∨(b.toNat:Int)=63∨(b.toNat:Int)=58∨(b.toNat:Int)=60∨(b.toNat:Int)=62∨(b.toNat:Int)=61∨(b.toNat:Int)=43∨(b.toNat:Int)=42:=by
 have e:∀ n:UInt8,b=n↔(b.toNat:Int)=(n.toNat:Nat):=fun n=>by rw [← UInt8.toNat_inj];omega
 unfold SymL
 simp only [List.mem_cons,List.not_mem_nil,or_false,e]
 exact Iff.rfl
theorem letter_q {fz:FZ} {b:UInt8}:QFn Tryz.prog 210 [.int .u8 b.toNat] fz (.bool (decide (LowC b))):=by
 refine GFn.quiet ?_
 (refine GFn.of_wp Tryz.func210 rfl Tryz.ntmps210 rfl rfl (fun w0=>?_))
 ((repeat (first | refine zSO ?_ | refine zA fun _=>?_)))
 refine Yr (Yp ?_)
 ((repeat (first | refine zSO ?_ | refine zA fun _=>?_)))
 refine Yr (Wp.mid (fun σ fz' H'=>σ=[(0,.int .u8 b.toNat)]∧fz=fz'∧H'=[]∧¬LetP b.toNat∧¬DigP b.toNat) ?_ ?_)
 ·((repeat (first | refine zS ?_ | refine zA fun _=>?_)))
  ((refine zG ?_;refine zC (fun a1=>?_) (fun a1=>?_)))
  ·((repeat (first | refine zS ?_ | refine zA fun _=>?_)))
   ((refine zG ?_;refine zC (fun a2=>?_) (fun a2=>?_)))
   ·((repeat (first | refine zS ?_ | refine zA fun _=>?_)))
    (exact ret1 rfl rfl (Zb) (Yw (.inl ⟨a1,a2⟩)))
   ·((repeat (first | refine zS ?_ | refine zA fun _=>?_)))
    ((refine zG ?_;refine zC (fun a3=>?_) (fun a3=>?_)))
    ·((repeat (first | refine zS ?_ | refine zA fun _=>?_)))
     ((refine zG ?_;refine zC (fun a4=>?_) (fun a4=>?_)))
     ·exact absurd a4 Zi
     ·((repeat (first | refine zS ?_ | refine zA fun _=>?_)))
      exact midN ⟨rfl,rfl,rfl,fun h=>a2 h.2,fun h=>a4 h.2⟩ (Zw) (Zb)
    ·((repeat (first | refine zS ?_ | refine zA fun _=>?_)))
     exact midN ⟨rfl,rfl,rfl,fun h=>a2 h.2,fun h=>a3 h.1⟩ (Zw) (Zb)
  ·((repeat (first | refine zS ?_ | refine zA fun _=>?_)))
   ((refine zG ?_;refine zC (fun a3=>?_) (fun a3=>?_)))
   ·((repeat (first | refine zS ?_ | refine zA fun _=>?_)))
    ((refine zG ?_;refine zC (fun a4=>?_) (fun a4=>?_)))
    ·((repeat (first | refine zS ?_ | refine zA fun _=>?_)))
     (exact ret1 rfl rfl (Zb) (Yw (.inr (.inl ⟨a3,a4⟩))))
    ·((repeat (first | refine zS ?_ | refine zA fun _=>?_)))
     exact midN ⟨rfl,rfl,rfl,fun h=>a1 h.1,fun h=>a4 h.2⟩ (Zw) (Zb)
   ·((repeat (first | refine zS ?_ | refine zA fun _=>?_)))
    exact midN ⟨rfl,rfl,rfl,fun h=>a1 h.1,fun h=>a3 h.1⟩ (Zw) (Zb)
 ·rintro σ fz' H' ⟨rfl,rfl,rfl,h1,h2⟩
  have key:LowC b↔b∈SymL:=⟨fun h=>h.elim (fun h=>absurd h h1) (fun h=>h.elim (fun h=>absurd h h2) id),fun h=>.inr (.inr h)⟩
  rw [sym_iff] at key
  ((repeat (first | refine zS ?_ | refine zA fun _=>?_)))
  ((((refine zG ?_;refine zC (fun s1=>?_) (fun s1=>?_)));(((repeat (first | refine zS ?_ | refine zA fun _=>?_)));(exact ret1 rfl rfl (Zb) (Yw (key.2 Zi))));((repeat (first | refine zS ?_ | refine zA fun _=>?_)))))
  ((((refine zG ?_;refine zC (fun s2=>?_) (fun s2=>?_)));(((repeat (first | refine zS ?_ | refine zA fun _=>?_)));(exact ret1 rfl rfl (Zb) (Yw (key.2 Zi))));((repeat (first | refine zS ?_ | refine zA fun _=>?_)))))
  ((((refine zG ?_;refine zC (fun s3=>?_) (fun s3=>?_)));(((repeat (first | refine zS ?_ | refine zA fun _=>?_)));(exact ret1 rfl rfl (Zb) (Yw (key.2 Zi))));((repeat (first | refine zS ?_ | refine zA fun _=>?_)))))
  ((((refine zG ?_;refine zC (fun s4=>?_) (fun s4=>?_)));(((repeat (first | refine zS ?_ | refine zA fun _=>?_)));(exact ret1 rfl rfl (Zb) (Yw (key.2 Zi))));((repeat (first | refine zS ?_ | refine zA fun _=>?_)))))
  ((((refine zG ?_;refine zC (fun s5=>?_) (fun s5=>?_)));(((repeat (first | refine zS ?_ | refine zA fun _=>?_)));(exact ret1 rfl rfl (Zb) (Yw (key.2 Zi))));((repeat (first | refine zS ?_ | refine zA fun _=>?_)))))
  ((((refine zG ?_;refine zC (fun s6=>?_) (fun s6=>?_)));(((repeat (first | refine zS ?_ | refine zA fun _=>?_)));(exact ret1 rfl rfl (Zb) (Yw (key.2 Zi))));((repeat (first | refine zS ?_ | refine zA fun _=>?_)))))
  ((((refine zG ?_;refine zC (fun s7=>?_) (fun s7=>?_)));(((repeat (first | refine zS ?_ | refine zA fun _=>?_)));(exact ret1 rfl rfl (Zb) (Yw (key.2 Zi))));((repeat (first | refine zS ?_ | refine zA fun _=>?_)))))
  ((((refine zG ?_;refine zC (fun s8=>?_) (fun s8=>?_)));(((repeat (first | refine zS ?_ | refine zA fun _=>?_)));(exact ret1 rfl rfl (Zb) (Yw (key.2 Zi))));((repeat (first | refine zS ?_ | refine zA fun _=>?_)))))
  ((refine zG ?_;refine zC (fun s9=>?_) (fun s9=>?_)))
  ·((repeat (first | refine zS ?_ | refine zA fun _=>?_)))
   (exact ret1 rfl rfl (Zb) (Yw (key.2 Zi)))
  ·((repeat (first | refine zS ?_ | refine zA fun _=>?_)))
   (exact ret1 rfl rfl (Zb) (Ya (fun h=>by have:=key.1 h;omega)))
def DigsP (s:ByteArray):Prop:=(∀ i,i<s.size→DigP (WP s i))∧0<s.size
theorem Yd8 {fz:FZ} {s:ByteArray} (hs:Short s):QFn Tryz.prog 246 [.string s] fz (.bool (decide (DigsP s))):=by
 have hz:s.size≤9223372036854775807:=hs
 refine GFn.quiet ?_
 (refine GFn.of_wp Tryz.func246 rfl Tryz.ntmps246 rfl rfl (fun w0=>?_))
 ((repeat (first | refine zS ?_ | refine zA fun _=>?_)))
 (refine YD (fun q σ fz' H'=>∃ k:Nat,k≤s.size∧q=s.size - k∧σ=[(3,.int .i64 k),(0,.string s)]∧fz=fz'∧H'=[]∧(∀ i,i<k→DigP (WP s i))) ⟨0,Nat.zero_le _,rfl,rfl,rfl,rfl,(fun i hi=>absurd hi Zi)⟩ (Zw) (Zb) ?_;rintro q σ fz' H' ⟨k,hk,rfl,rfl,rfl,rfl,hh⟩)
 ((repeat (first | refine zS ?_ | refine zA fun _=>?_)))
 ((refine zG ?_;refine zC (fun hlt=>?_) (fun hge=>?_)))
 ·((repeat (first | refine zS ?_ | refine zA fun _=>?_)))
  obtain ⟨b,hb,hb2⟩:=Wf (s:=s) (k:=k) Zi
  (((refine zG ?_));refine Y7 T Zz Zz Zz Zz Zi (by rw [Int.toNat_natCast];exact hb) ?_)
  ((repeat (first | refine zS ?_ | refine zA fun _=>?_)))
  ((refine zG ?_;refine zC (fun a1=>?_) (fun a1=>?_)))
  ·((repeat (first | refine zS ?_ | refine zA fun _=>?_)))
   (exact ret1 rfl rfl (Zb) (Ya (fun h=>by have:=(h.1 k Zi).1;rw [hb2] at this;omega)))
  ·((repeat (first | refine zS ?_ | refine zA fun _=>?_)))
   (((refine zG ?_));refine Y7 T Zz Zz Zz Zz Zi (by rw [Int.toNat_natCast];exact hb) ?_)
   ((repeat (first | refine zS ?_ | refine zA fun _=>?_)))
   ((refine zG ?_;refine zC (fun a2=>?_) (fun a2=>?_)))
   ·((repeat (first | refine zS ?_ | refine zA fun _=>?_)))
    (exact ret1 rfl rfl (Zb) (Ya (fun h=>by have:=(h.1 k Zi).2;rw [hb2] at this;omega)))
   ·((repeat (first | refine zS ?_ | refine zA fun _=>?_)))
    (exact YP ⟨k+1,by omega,rfl,rfl,rfl,rfl,(YM hh (by rw [hb2];exact ⟨by omega,by omega⟩))⟩ Zi (Zw) (Zb))
 ·((repeat (first | refine zS ?_ | refine zA fun _=>?_)))
  ((refine zG ?_;refine zC (fun c1=>?_) (fun c1=>?_)))
  ·((repeat (first | refine zS ?_ | refine zA fun _=>?_)))
   (exact ret1 rfl rfl (Zb) (Yw ⟨fun i hi=>hh i Zi,by omega⟩))
  ·((repeat (first | refine zS ?_ | refine zA fun _=>?_)))
   (exact ret1 rfl rfl (Zb) (Ya (fun h=>c1 (by have:=h.2;omega))))
theorem size0 {s:ByteArray}:s=Xx↔s.size=0:=by
 constructor
 ·intro h;rw [h];rfl
 ·intro h
  rcases s with ⟨⟨l⟩⟩
  cases l with
  | nil=>rfl
  | cons a r=>simp [ByteArray.size] at h
theorem Ye9 {s:ByteArray} (h:0<s.size):PreP s X7↔(WP s 0:Int)=45:=by
 rcases s with ⟨⟨l⟩⟩
 cases l with
 | nil=>simp [ByteArray.size] at h
 | cons a r=>
  have e:(ByteArray.mk ⟨a::r⟩).extract 0 1=⟨#[a]⟩:=by
   apply ByteArray.ext
   simp [ByteArray.data_extract]
  have hb:WP (ByteArray.mk ⟨a::r⟩) 0=a.toNat:=by
   obtain ⟨b,hb,hb2⟩:=Wf (s:=ByteArray.mk ⟨a::r⟩) (k:=0) h
   rw [hb2]
   rw [getElem?_pos _ 0 h] at hb
   have:(ByteArray.mk ⟨a::r⟩)[0]=a:=rfl
   rw [this] at hb
   cases hb;rfl
  rw [hb]
  unfold PreP X7
  constructor
  ·rintro ⟨_,h2⟩
   have h3:(ByteArray.mk ⟨a::r⟩).extract 0 1=⟨#[45]⟩:=h2
   rw [e] at h3
   simp at h3
   subst h3;rfl
  ·intro h2
   have h3:a=45:=by rw [← UInt8.toNat_inj];show a.toNat=45;omega
   subst h3
   exact ⟨h,e⟩
theorem YdQ {s:ByteArray}:NumP s↔DigsP (W0 s X7):=by
 unfold NumP DigsP
 have:=size0 (s:=W0 s X7)
 constructor
 ·rintro ⟨h1,h2⟩
  exact ⟨h1,Nat.pos_of_ne_zero (fun h0=>h2 (this.2 h0))⟩
 ·rintro ⟨h1,h2⟩
  exact ⟨h1,fun h0=>by have:=this.1 h0;omega⟩
theorem Yip {fz:FZ} {s:ByteArray} (hs:Short s):QFn Tryz.prog 211 [.string s] fz (.bool (decide (NumP s))):=by
 have hz:s.size≤9223372036854775807:=hs
 refine GFn.quiet ?_
 (refine GFn.of_wp Tryz.func211 rfl Tryz.ntmps211 rfl rfl (fun w0=>?_))
 ((repeat (first | refine zS ?_ | refine zA fun _=>?_)))
 ((refine zG ?_;refine zC (fun c1=>?_) (fun c1=>?_)))
 ·have h0:0<s.size:=by omega
  obtain ⟨b0,hb0,hc0⟩:=Wf (s:=s) (k:=0) h0
  ((repeat (first | refine zS ?_ | refine zA fun _=>?_)))
  ((refine zG ?_));refine Y7 T Zz Zz Zz Zz Zi hb0 ?_
  ((repeat (first | refine zS ?_ | refine zA fun _=>?_)))
  ((refine zG ?_;refine zC (fun c2=>?_) (fun c2=>?_)))
  ·have hp:PreP s X7:=(Ye9 h0).2 (by rw [hc0];exact c2)
   have ht:W0 s X7=s.extract 1 s.size:=by rw [W0,if_pos hp];rfl
   have hn:=YdQ (s:=s)
   rw [ht] at hn
   ((repeat (first | refine zS ?_ | refine zA fun _=>?_)))
   (((refine zG ?_));refine YbN T Zz Zz Zz Zz Zi Zi ?_)
   ((repeat (first | refine zS ?_ | refine zA fun _=>?_)))
   (((refine zG ?_));refine Yz Zz Zz (Yd8 (s:=s.extract 1 s.size) (by unfold Short;rw [WM (Nat.le_refl _)];omega)) (fun f1=>?_) (fun f1=>?_))
   ·((repeat (first | refine zS ?_ | refine zA fun _=>?_)))
    (exact ret1 rfl rfl (Zb) (Yw (hn.2 (of_decide_eq_true f1))))
   ·((repeat (first | refine zS ?_ | refine zA fun _=>?_)))
    (exact ret1 rfl rfl (Zb) (Ya (fun h=>of_decide_eq_false f1 (hn.1 h))))
  ·have hp:¬PreP s X7:=fun h=>c2 (by have:=(Ye9 h0).1 h;rw [hc0] at this;exact this)
   have ht:W0 s X7=s:=by rw [W0,if_neg hp]
   have hn:=YdQ (s:=s)
   rw [ht] at hn
   ((repeat (first | refine zS ?_ | refine zA fun _=>?_)))
   (((refine zG ?_));refine Yz Zz Zz (Yd8 hs) (fun f1=>?_) (fun f1=>?_))
   ·((repeat (first | refine zS ?_ | refine zA fun _=>?_)))
    (exact ret1 rfl rfl (Zb) (Yw (hn.2 (of_decide_eq_true f1))))
   ·((repeat (first | refine zS ?_ | refine zA fun _=>?_)))
    (exact ret1 rfl rfl (Zb) (Ya (fun h=>of_decide_eq_false f1 (hn.1 h))))
 ·have hp:¬PreP s X7:=fun h=>by have:X7.size≤s.size:=h.1;have e:X7.size=1:=rfl;omega
  have ht:W0 s X7=s:=by rw [W0,if_neg hp]
  have hn:=YdQ (s:=s)
  rw [ht] at hn
  ((repeat (first | refine zS ?_ | refine zA fun _=>?_)))
  (((refine zG ?_));refine Yz Zz Zz (Yd8 hs) (fun f1=>?_) (fun f1=>?_))
  ·((repeat (first | refine zS ?_ | refine zA fun _=>?_)))
   (exact ret1 rfl rfl (Zb) (Yw (hn.2 (of_decide_eq_true f1))))
  ·((repeat (first | refine zS ?_ | refine zA fun _=>?_)))
   (exact ret1 rfl rfl (Zb) (Ya (fun h=>of_decide_eq_false f1 (hn.1 h))))
theorem word1_q {fz:FZ} {s:ByteArray} (hs:Short s):QFn Tryz.prog 152 [.string s] fz (.bool (decide (Ykc s))):=by
 have hz:s.size≤9223372036854775807:=hs
 have h0:=size0 (s:=s)
 have hl:=Ya9 (s:=s)
 refine GFn.quiet ?_
 (refine GFn.of_wp Tryz.func152 rfl Tryz.ntmps152 rfl rfl (fun w0=>?_))
 ((repeat (first | refine zS ?_ | refine zA fun _=>?_)))
 (refine YD (fun q σ fz' H'=>∃ k:Nat,k≤s.size∧q=s.size - k∧σ=[(3,.int .i64 k),(0,.string s)]∧fz=fz'∧H'=[]∧(∀ i,i<k→∀ b,s.data.toList[i]?=some b→LowC b)) ⟨0,Nat.zero_le _,rfl,rfl,rfl,rfl,(fun i hi=>absurd hi Zi)⟩ (Zw) (Zb) ?_;rintro q σ fz' H' ⟨k,hk,rfl,rfl,rfl,rfl,hh⟩)
 ((repeat (first | refine zS ?_ | refine zA fun _=>?_)))
 ((refine zG ?_;refine zC (fun hlt=>?_) (fun hge=>?_)))
 ·((repeat (first | refine zS ?_ | refine zA fun _=>?_)))
  have hk1:k<s.size:=by omega
  have hb:s[k]?=some s[k]:=getElem?_pos s k hk1
  have hd:=Yfj hk1
  (((refine zG ?_));refine Y7 T Zz Zz Zz Zz Zi (by rw [Int.toNat_natCast];exact hb) ?_)
  ((repeat (first | refine zS ?_ | refine zA fun _=>?_)))
  (((refine zG ?_));refine Yz Zz Zz (letter_q (b:=s[k])) (fun f1=>?_) (fun f1=>?_))
  ·((repeat (first | refine zS ?_ | refine zA fun _=>?_)))
   (exact YP ⟨k+1,by omega,rfl,rfl,rfl,rfl,(YZ hh hd (of_decide_eq_true f1))⟩ Zi (Zw) (Zb))
  ·((repeat (first | refine zS ?_ | refine zA fun _=>?_)))
   (exact ret1 rfl rfl (Zb) (Ya (fun h=>of_decide_eq_false f1 (h.2.2.1 _ (List.mem_of_getElem? hd)))))
 ·have hL:=XW hh Zi
  ((repeat (first | refine zS ?_ | refine zA fun _=>?_)))
  ((((refine zG ?_;refine zC (fun n1=>?_) (fun n1=>?_)));rotate_left 1;(((repeat (first | refine zS ?_ | refine zA fun _=>?_)));(exact ret1 rfl rfl (Zb) (Ya (fun h=>h.1 (h0.2 Zi)))));((repeat (first | refine zS ?_ | refine zA fun _=>?_)))))
  ((((refine zG ?_;refine zC (fun n2=>?_) (fun n2=>?_)));rotate_left 1;(((repeat (first | refine zS ?_ | refine zA fun _=>?_)));(exact ret1 rfl rfl (Zb) (Ya (fun h=>n2 (by have:=h.2.1;omega)))));((repeat (first | refine zS ?_ | refine zA fun _=>?_)))))
  (((refine zG ?_));refine Yz Zz Zz (Yip hs) (fun f1=>?_) (fun f1=>?_))
  ·((repeat (first | refine zS ?_ | refine zA fun _=>?_)))
   (exact ret1 rfl rfl (Zb) (Ya (fun h=>h.2.2.2 (of_decide_eq_true f1))))
  ·((repeat (first | refine zS ?_ | refine zA fun _=>?_)))
   (exact ret1 rfl rfl (Zb) (Yw ⟨fun h=>by have:=h0.1 h;omega,by omega,hL,of_decide_eq_false f1⟩))
end Go.Proofs.YtbhlgkibgajajaaGreatDoor
set_option maxRecDepth 20000
namespace Go.Proofs.YtbhlgkibgajajaaGreatDoor
open Go.Lx Go.RowKit
attribute [local instance 10] Classical.propDecidable
theorem Yh0:∀ (s:Nat) {fz:FZ} {x:Sexpr} {vk:Value},SizeOf.sizeOf x≤s→Xd fz x vk→xcount x≤1000000000000→
 QFn Tryz.prog 77 [.agg #[.int .i64 x.kind,.int .i64 x.value,.int .i64 x.line,.int .i64 x.column,.string x.text,vk]] fz (.int .i64 (xcount x))
 | 0,_,x,_,hs,_,_=>by cases x;simp at hs
 | s+1,fz,x,vk,hs,h,hc=>by
  obtain ⟨A,n,ca,rfl,hk⟩:=h.kids
  have e1:=WD x
  have lk:=hk.len
  have sk:=hk.short
  refine GFn.quiet ?_
  (refine GFn.of_wp Tryz.func77 rfl Tryz.ntmps77 rfl rfl (fun w0=>?_))
  (refine Yr (Yp (Yb Zz (Xi _ Zz Zz (fun g0=>?_)))))
  ((repeat (first | refine zS ?_ | refine zA fun _=>?_)))
  refine YD (fun mm σ fz' H'=>∃ (k:Nat) (m:Int),k≤n∧mm=n - k∧m=(1+xcountL (x.kids.take k):Nat)∧σ=[(4,.int .i64 k),(3,.int .i64 m),(1,.pointer (some ⟨g0,0,none⟩))]∧fz=fz'∧H'=[(g0,.cells #[.int .i64 x.kind,.int .i64 x.value,.int .i64 x.line,.int .i64 x.column,.string x.text,.slice A n ca] 64 (0,0))]) ⟨0,1,Nat.zero_le _,rfl,rfl,rfl,rfl,rfl⟩ (Zw) (Zb) ?_
  rintro mm σ fz' H' ⟨k,m,hkn,rfl,hm,rfl,rfl,rfl⟩
  ((repeat (first | refine zS ?_ | refine zA fun _=>?_)))
  ((refine zG ?_;refine zC (fun c1=>?_) (fun c1=>?_)))
  ·obtain ⟨y,hy⟩:=YG (l:=x.kids) (k:=k) Zi
   have hym:=List.mem_of_getElem? hy
   have hlt:=Sexpr.kids_lt hym
   have hst:=Yc4 hy
   have htk:=YaA (l:=x.kids) (k:=k+1)
   ((repeat (first | refine zS ?_ | refine zA fun _=>?_)))
   (((refine zG ?_));refine YA T k Zz Zz Zz Zz Zz Zz hk (by first | rfl | omega) hy (fun p1 hp1=>?_))
   (((refine zG ?_));refine Yx T Zz Zz Zz hp1 Zz ?_)
   intro cs hcs
   obtain ⟨wk,rfl,hRy⟩:=Yt hcs
   ((repeat (first | refine zS ?_ | refine zA fun _=>?_)))
   (((refine zG ?_));refine Yj Zz Zz (Yh0 s (x:=y) Zi hRy Zi) ?_)
   ((repeat (first | refine zS ?_ | refine zA fun _=>?_)))
   exact YP ⟨k+1,m+(xcount y:Int),by omega,rfl,by rw [hm,hst];omega,rfl,rfl,rfl⟩ Zi (Zw) (Zb)
  ·have hkn1:k=n:=by omega
   subst hkn1
   rw [List.take_of_length_le Zi] at hm
   ((repeat (first | refine zS ?_ | refine zA fun _=>?_)))
   (exact ret1 rfl rfl (Zb) (by rw [e1,hm]))
theorem YhZ:∀ (s:Nat) {fz:FZ} {x:Sexpr} {vk:Value},SizeOf.sizeOf x≤s→Xd fz x vk→xdepth x≤1000000000000→
 QFn Tryz.prog 76 [.agg #[.int .i64 x.kind,.int .i64 x.value,.int .i64 x.line,.int .i64 x.column,.string x.text,vk]] fz (.int .i64 (xdepth x))
 | 0,_,x,_,hs,_,_=>by cases x;simp at hs
 | s+1,fz,x,vk,hs,h,hc=>by
  obtain ⟨A,n,ca,rfl,hk⟩:=h.kids
  have e1:=YaO x
  have lk:=hk.len
  have sk:=hk.short
  refine GFn.quiet ?_
  (refine GFn.of_wp Tryz.func76 rfl Tryz.ntmps76 rfl rfl (fun w0=>?_))
  (refine Yr (Yp (Yb Zz (Xi _ Zz Zz (fun g0=>?_)))))
  ((repeat (first | refine zS ?_ | refine zA fun _=>?_)))
  refine YD (fun mm σ fz' H'=>∃ k:Nat,k≤n∧mm=n - k∧σ=[(4,.int .i64 k),(3,.int .i64 (xdepthL (x.kids.take k):Nat)),(1,.pointer (some ⟨g0,0,none⟩))]∧fz=fz'∧H'=[(g0,.cells #[.int .i64 x.kind,.int .i64 x.value,.int .i64 x.line,.int .i64 x.column,.string x.text,.slice A n ca] 64 (0,0))]) ⟨0,Nat.zero_le _,rfl,rfl,rfl,rfl⟩ (Zw) (Zb) ?_
  rintro mm σ fz' H' ⟨k,hkn,rfl,rfl,rfl,rfl⟩
  ((repeat (first | refine zS ?_ | refine zA fun _=>?_)))
  ((refine zG ?_;refine zC (fun c1=>?_) (fun c1=>?_)))
  ·obtain ⟨y,hy⟩:=YG (l:=x.kids) (k:=k) Zi
   have hym:=List.mem_of_getElem? hy
   have hlt:=Sexpr.kids_lt hym
   have hst:xdepthL (x.kids.take (k+1))=max (xdepthL (x.kids.take k)) (xdepth y):=by rw [List.take_add_one,hy];exact YfE
   have hyd:xdepth y≤xdepthL x.kids:=XF.1 (Nat.le_refl _) y hym
   ((repeat (first | refine zS ?_ | refine zA fun _=>?_)))
   (((refine zG ?_));refine YA T k Zz Zz Zz Zz Zz Zz hk (by first | rfl | omega) hy (fun p1 hp1=>?_))
   (((refine zG ?_));refine Yx T Zz Zz Zz hp1 Zz ?_)
   intro cs hcs
   obtain ⟨wk,rfl,hRy⟩:=Yt hcs
   ((repeat (first | refine zS ?_ | refine zA fun _=>?_)))
   (((refine zG ?_));refine Yj Zz Zz (YhZ s (x:=y) Zi hRy Zi) ?_)
   ((repeat (first | refine zS ?_ | refine zA fun _=>?_)))
   ((refine zG ?_;refine zC (fun c2=>?_) (fun c2=>?_)))
   ·((repeat (first | refine zS ?_ | refine zA fun _=>?_)))
    exact YP ⟨k+1,by omega,rfl,by rw [hst,Nat.max_eq_right Zi],rfl,rfl⟩ Zi (Zw) (Zb)
   ·((repeat (first | refine zS ?_ | refine zA fun _=>?_)))
    exact YP ⟨k+1,by omega,rfl,by rw [hst,Nat.max_eq_left Zi],rfl,rfl⟩ Zi (Zw) (Zb)
  ·have hkn1:k=n:=by omega
   subst hkn1
   rw [List.take_of_length_le Zi]
   ((repeat (first | refine zS ?_ | refine zA fun _=>?_)))
   ((refine zG ?_;refine zC (fun c2=>?_) (fun c2=>?_)))
   ·rw [if_pos c2] at e1
    ((repeat (first | refine zS ?_ | refine zA fun _=>?_)))
    (exact ret1 rfl rfl (Zb) (by rw [e1];rfl))
   ·rw [if_neg c2] at e1
    ((repeat (first | refine zS ?_ | refine zA fun _=>?_)))
    (exact ret1 rfl rfl (Zb) (by rw [e1];rfl))
theorem YfQ:∀ (s:Nat) {fz:FZ} {x:Sexpr} {vk:Value},SizeOf.sizeOf x≤s→Xd fz x vk→
 QFn Tryz.prog 75 [.agg #[.int .i64 x.kind,.int .i64 x.value,.int .i64 x.line,.int .i64 x.column,.string x.text,vk]] fz (.bool (decide (XOk x)))
 | 0,_,x,_,hs,_=>by cases x;simp at hs
 | s+1,fz,x,vk,hs,h=>by
  obtain ⟨A,n,ca,rfl,hk⟩:=h.kids
  have lk:=hk.len
  have sk:=hk.short
  have no:¬YbV x→¬XOk x:=fun h0 h1=>h0 (Xq.1 h1).1
  have yes0:x.kids=[]→YbV x→XOk x:=fun h0 h1=>Xq.2 ⟨h1,by rw [h0];simp⟩
  refine GFn.quiet ?_
  (refine GFn.of_wp Tryz.func75 rfl Tryz.ntmps75 rfl rfl (fun w0=>?_))
  (refine Yr (Yp (Yb Zz (Xi _ Zz Zz (fun g0=>?_)))))
  ((repeat (first | refine zS ?_ | refine zA fun _=>?_)))
  ((refine zG ?_;refine zC (fun x1=>?_) (fun y1=>?_)))
  ·have hn:=xnode1 x1
   ((repeat (first | refine zS ?_ | refine zA fun _=>?_)))
   ((((refine zG ?_;refine zC (fun n1=>?_) (fun n1=>?_)));rotate_left 1;(((repeat (first | refine zS ?_ | refine zA fun _=>?_)));(exact ret1 rfl rfl (Zb) (Ya (no (fun h0=>n1 (hn.1 h0).2.1)))));((repeat (first | refine zS ?_ | refine zA fun _=>?_)))))
   ((((refine zG ?_;refine zC (fun n2=>?_) (fun n2=>?_)));rotate_left 1;(((repeat (first | refine zS ?_ | refine zA fun _=>?_)));(exact ret1 rfl rfl (Zb) (Ya (no (fun h0=>n2 ((len0 hk.len).2 (hn.1 h0).2.2))))));((repeat (first | refine zS ?_ | refine zA fun _=>?_)))))
   (((refine zG ?_));refine Yz Zz Zz (word1_q h.text) (fun f1=>?_) (fun f1=>?_))
   ·((repeat (first | refine zS ?_ | refine zA fun _=>?_)))
    (exact ret1 rfl rfl (Zb) (Yw (yes0 ((len0 hk.len).1 n2) (hn.2 ⟨of_decide_eq_true f1,n1,(len0 hk.len).1 n2⟩))))
   ·((repeat (first | refine zS ?_ | refine zA fun _=>?_)))
    (exact ret1 rfl rfl (Zb) (Ya (no (fun h0=>of_decide_eq_false f1 (hn.1 h0).1))))
  ·((repeat (first | refine zS ?_ | refine zA fun _=>?_)))
   ((refine zG ?_;refine zC (fun x2=>?_) (fun y2=>?_)))
   ·have hn:=xnode2 x2
    ((repeat (first | refine zS ?_ | refine zA fun _=>?_)))
    ((((refine zG ?_;refine zC (fun n1=>?_) (fun n1=>?_)));rotate_left 1;(((repeat (first | refine zS ?_ | refine zA fun _=>?_)));(exact ret1 rfl rfl (Zb) (Ya (no (fun h0=>n1 (hn.1 h0).1)))));((repeat (first | refine zS ?_ | refine zA fun _=>?_)))))
    ((((refine zG ?_;refine zC (fun n2=>?_) (fun n2=>?_)));rotate_left 1;(((repeat (first | refine zS ?_ | refine zA fun _=>?_)));(exact ret1 rfl rfl (Zb) (Ya (no (fun h0=>n2 ((len0 hk.len).2 (hn.1 h0).2.1))))));((repeat (first | refine zS ?_ | refine zA fun _=>?_)))))
    ((((refine zG ?_;refine zC (fun n3=>?_) (fun n3=>?_)));rotate_left 1;(((repeat (first | refine zS ?_ | refine zA fun _=>?_)));(exact ret1 rfl rfl (Zb) (Ya (no (fun h0=>n3 (hn.1 h0).2.2.1)))));((repeat (first | refine zS ?_ | refine zA fun _=>?_)))))
    ((((refine zG ?_;refine zC (fun n4=>?_) (fun n4=>?_)));rotate_left 1;(((repeat (first | refine zS ?_ | refine zA fun _=>?_)));(exact ret1 rfl rfl (Zb) (Ya (no (fun h0=>n4 (hn.1 h0).2.2.2)))));((repeat (first | refine zS ?_ | refine zA fun _=>?_)))))
    (exact ret1 rfl rfl (Zb) (Yw (yes0 ((len0 hk.len).1 n2) (hn.2 ⟨n1,(len0 hk.len).1 n2,n3,n4⟩))))
   ·((repeat (first | refine zS ?_ | refine zA fun _=>?_)))
    ((refine zG ?_;refine zC (fun x3=>?_) (fun y3=>?_)))
    ·have hn:=xnode3 x3
     ((repeat (first | refine zS ?_ | refine zA fun _=>?_)))
     refine YD (fun mm σ fz' H'=>∃ k:Nat,k≤n∧mm=n - k∧σ=[(3,.int .i64 k),(1,.pointer (some ⟨g0,0,none⟩))]∧fz=fz'∧H'=[(g0,.cells #[.int .i64 x.kind,.int .i64 x.value,.int .i64 x.line,.int .i64 x.column,.string x.text,.slice A n ca] 64 (0,0))]∧(∀ i,i<k→∀ y,x.kids[i]?=some y→XOk y)) ⟨0,Nat.zero_le _,rfl,rfl,rfl,rfl,fun i hi=>absurd hi Zi⟩ (Zw) (Zb) ?_
     rintro mm σ fz' H' ⟨k,hkn,rfl,rfl,rfl,rfl,hh⟩
     ((repeat (first | refine zS ?_ | refine zA fun _=>?_)))
     ((refine zG ?_;refine zC (fun c1=>?_) (fun c1=>?_)))
     ·obtain ⟨y,hy⟩:=YG (l:=x.kids) (k:=k) Zi
      have hym:=List.mem_of_getElem? hy
      have hlt:=Sexpr.kids_lt hym
      ((repeat (first | refine zS ?_ | refine zA fun _=>?_)))
      (((refine zG ?_));refine YA T k Zz Zz Zz Zz Zz Zz hk (by first | rfl | omega) hy (fun p1 hp1=>?_))
      (((refine zG ?_));refine Yx T Zz Zz Zz hp1 Zz ?_)
      intro cs hcs
      obtain ⟨wk,rfl,hRy⟩:=Yt hcs
      ((repeat (first | refine zS ?_ | refine zA fun _=>?_)))
      (((refine zG ?_));refine Yz Zz Zz (YfQ s (x:=y) Zi hRy) (fun f1=>?_) (fun f1=>?_))
      ·((repeat (first | refine zS ?_ | refine zA fun _=>?_)))
       exact YP ⟨k+1,by omega,rfl,rfl,rfl,rfl,YZ hh hy (of_decide_eq_true f1)⟩ Zi (Zw) (Zb)
      ·((repeat (first | refine zS ?_ | refine zA fun _=>?_)))
       (exact ret1 rfl rfl (Zb) (Ya (fun h0=>of_decide_eq_false f1 ((Xq.1 h0).2 y hym))))
     ·have hK:=XW hh Zi
      ((repeat (first | refine zS ?_ | refine zA fun _=>?_)))
      ((((refine zG ?_;refine zC (fun n1=>?_) (fun n1=>?_)));rotate_left 1;(((repeat (first | refine zS ?_ | refine zA fun _=>?_)));(exact ret1 rfl rfl (Zb) (Ya (no (fun h0=>n1 (hn.1 h0).1)))));((repeat (first | refine zS ?_ | refine zA fun _=>?_)))))
      ((((refine zG ?_;refine zC (fun n2=>?_) (fun n2=>?_)));rotate_left 1;(((repeat (first | refine zS ?_ | refine zA fun _=>?_)));(exact ret1 rfl rfl (Zb) (Ya (no (fun h0=>n2 (hn.1 h0).2)))));((repeat (first | refine zS ?_ | refine zA fun _=>?_)))))
      (exact ret1 rfl rfl (Zb) (Yw (Xq.2 ⟨hn.2 ⟨n1,n2⟩,hK⟩)))
    ·((repeat (first | refine zS ?_ | refine zA fun _=>?_)))
     (exact ret1 rfl rfl (Zb) (Ya (no (fun h0=>by rcases h0 with h0 | h0 | h0;exact y1 h0.1;exact y2 h0.1;exact y3 h0.1))))
theorem valid1_q {fz:FZ} {x:Sexpr} {vk:Value} (h:Xd fz x vk) (hc:xcount x≤1000000000000) (hd:xdepth x≤1000000000000):
 QFn Tryz.prog 39 [.agg #[.int .i64 x.kind,.int .i64 x.value,.int .i64 x.line,.int .i64 x.column,.string x.text,vk]] fz (.bool (decide (XVal x))):=by
 refine GFn.quiet ?_
 obtain ⟨A,n,ca,rfl,hk⟩:=h.kids
 (refine GFn.of_wp Tryz.func39 rfl Tryz.ntmps39 rfl rfl (fun w0=>?_))
 (refine Yr (Yp (Yb Zz (Xi _ Zz Zz (fun g0=>?_)))))
 ((repeat (first | refine zS ?_ | refine zA fun _=>?_)))
 (((refine zG ?_));refine Yz Zz Zz (YfQ _ (Nat.le_refl _) h) (fun f1=>?_) (fun f1=>?_))
 ·((repeat (first | refine zS ?_ | refine zA fun _=>?_)))
  (((refine zG ?_));refine Yj Zz Zz (YhZ _ (Nat.le_refl _) h hd) ?_)
  ((repeat (first | refine zS ?_ | refine zA fun _=>?_)))
  ((((refine zG ?_;refine zC (fun n1=>?_) (fun n1=>?_)));rotate_left 1;(((repeat (first | refine zS ?_ | refine zA fun _=>?_)));(exact ret1 rfl rfl (Zb) (Ya (fun h0=>n1 (by have:=h0.2.1;omega)))));((repeat (first | refine zS ?_ | refine zA fun _=>?_)))))
  (((refine zG ?_));refine Yj Zz Zz (Yh0 _ (Nat.le_refl _) h hc) ?_)
  ((repeat (first | refine zS ?_ | refine zA fun _=>?_)))
  ((((refine zG ?_;refine zC (fun n2=>?_) (fun n2=>?_)));rotate_left 1;(((repeat (first | refine zS ?_ | refine zA fun _=>?_)));(exact ret1 rfl rfl (Zb) (Ya (fun h0=>n2 (by have:=h0.2.2;omega)))));((repeat (first | refine zS ?_ | refine zA fun _=>?_)))))
  (exact ret1 rfl rfl (Zb) (Yw ⟨of_decide_eq_true f1,by omega,by omega⟩))
 ·((repeat (first | refine zS ?_ | refine zA fun _=>?_)))
  (exact ret1 rfl rfl (Zb) (Ya (fun h0=>of_decide_eq_false f1 h0.1)))
end Go.Proofs.YtbhlgkibgajajaaGreatDoor
set_option maxRecDepth 20000
namespace Go.Proofs.YtbhlgkibgajajaaGreatDoor
open Go.Lx Go.RowKit
attribute [local instance 10] Classical.propDecidable
def Yff:ByteArray:=⟨#[97,115,115,105,103,110]⟩
def Yci:ByteArray:=⟨#[105,110,99,114,101,97,115,101]⟩
def Ycj:ByteArray:=⟨#[100,101,99,114,101,97,115,101]⟩
def Yjx:ByteArray:=⟨#[119,104,101,110]⟩
def nilE:Lx.Expr:=.mk ⟨#[]⟩ ⟨#[]⟩ 0 [] []
def Num5 (k:Int):Prop:=k=3∨k=4∨k=5
def Ygf (k:Int):ByteArray:=if k=3 then Yff else if k=4 then Yci else Ycj
def Yai (c:Change):Prop:=((c.kind=1∨c.kind=2)∧c.value=nilE)∨(Num5 c.kind∧EVal c.value)
def WhenOk (c:Change):Prop:=c.when_=Wn∨FVal c.when_
def ChOk (c:Change):Prop:=YeN c.name c.args∧Yai c∧WhenOk c∧∀ p∈c.params,XD true p
def ChSm (c:Change):Prop:=c.params.length≤1000000000∧c.args.length≤1000000000∧FSm c.when_∧ESm c.value
noncomputable def chX1 (c:Change):Sexpr:=if c.kind=2 then Yv [Yd kNot,Xj c.name c.args] else if Num5 c.kind then Yv [Yd (Ygf c.kind),Xj c.name c.args,Y8 c.value] else Xj c.name c.args
noncomputable def chX2 (c:Change):Sexpr:=if c.when_=Wn then chX1 c else Yv [Yd Yjx,YN c.when_,chX1 c]
noncomputable def chX (c:Change):Sexpr:=if c.params=[] then chX2 c else Yv [Yd XN,Yv ((c.params.flatMap XO).map Yd),chX2 c]
theorem YjY {fz3:FZ} {gb:Nat} {o:ByteArray} {X:Sexpr} {vk3:Value} (ho:Short o) (hg:fz3 gb=some (.cells (Ym o++ [.int .i64 X.kind,.int .i64 X.value,.int .i64 X.line,.int .i64 X.column,.string X.text,vk3]).toArray 64 (0,0))) (hX:Xd fz3 X vk3):
 Xd fz3 (Yv [Yd o,X]) (.slice (some ⟨gb,0,none⟩) 2 2):=
 ⟨YcO,Xp,Xp,Xp,Y0,(Xt (ys:=[(Yd o,Ym o),(X,[.int .i64 X.kind,.int .i64 X.value,.int .i64 X.line,.int .i64 X.column,.string X.text,vk3])]) hg rfl rfl (by
  intro p hp
  simp only [List.mem_cons,List.not_mem_nil,or_false] at hp
  rcases hp with rfl | rfl
  ·exact Yq ho
  ·exact Yg hX) rfl (by simp)).is⟩
theorem YcH {fz3:FZ} {gb:Nat} {o:ByteArray} {X Y:Sexpr} {vk3 vk5:Value} (ho:Short o) (hg:fz3 gb=some (.cells (Ym o++ [.int .i64 X.kind,.int .i64 X.value,.int .i64 X.line,.int .i64 X.column,.string X.text,vk3]++ [.int .i64 Y.kind,.int .i64 Y.value,.int .i64 Y.line,.int .i64 Y.column,.string Y.text,vk5]).toArray 64 (0,0))) (hX:Xd fz3 X vk3) (hY:Xd fz3 Y vk5):
 Xd fz3 (Yv [Yd o,X,Y]) (.slice (some ⟨gb,0,none⟩) 3 3):=
 ⟨YcO,Xp,Xp,Xp,Y0,(Xt (ys:=[(Yd o,Ym o),(X,[.int .i64 X.kind,.int .i64 X.value,.int .i64 X.line,.int .i64 X.column,.string X.text,vk3]),(Y,[.int .i64 Y.kind,.int .i64 Y.value,.int .i64 Y.line,.int .i64 Y.column,.string Y.text,vk5])]) hg rfl rfl (by
  intro p hp
  simp only [List.mem_cons,List.not_mem_nil,or_false] at hp
  rcases hp with rfl | rfl | rfl
  ·exact Yq ho
  ·exact Yg hX
  ·exact Yg hY) rfl (by simp)).is⟩
theorem YaZ {o:ByteArray} (h:o=kNot∨o=Yff∨o=Yci∨o=Ycj∨o=Yjx∨o=XN):Short o:=by
 rcases h with rfl | rfl | rfl | rfl | rfl | rfl<;>(unfold Short;decide)
set_option maxHeartbeats 4000000 in
theorem YiH {fz:FZ} {g:Nat} {b:Bool} {c:Change} {v1 v2 v3 v4 v5 v6 v7 v8:Value} (h:ChangeR fz c v1 v2 v3 v4 v5 v6 v7 v8) (hs:ChSm c):
 GFn Tryz.prog 148 [.pointer (some ⟨g,0,none⟩),.agg #[.int .i64 c.kind,v1,.string c.when_.op,.string c.when_.name,v2,v3,v4,v5,.string c.name,v6,.string c.value.op,.string c.value.name,.int .i64 c.value.n,v7,v8]] fz [(g,wrO b)] (MkR g b (ChOk c) (chX c) fz):=by
 obtain ⟨A1,n1,b1,rfl,ip⟩:=h.params
 obtain ⟨A2,n2,b2,rfl,iw1⟩:=h.when_.args
 obtain ⟨A3,n3,b3,rfl,iw2⟩:=h.when_.params
 obtain ⟨A4,n4,b4,rfl,iw3⟩:=h.when_.exprs
 obtain ⟨A5,n5,b5,rfl,iw4⟩:=h.when_.kids
 obtain ⟨A6,n6,b6,rfl,ia⟩:=h.args
 obtain ⟨A7,n7,b7,rfl,iv1⟩:=h.value.args
 obtain ⟨A8,n8,b8,rfl,iv2⟩:=h.value.kids
 (refine GFn.of_wp Tryz.func148 rfl Tryz.ntmps148 rfl rfl (fun w0=>?_))
 (refine Yr (Yp (Yb Zz (Xi _ Zz Zz (fun g3=>?_)))))
 ((repeat (first | refine zS ?_ | refine zA fun _=>?_)))
 rename_i g4
 refine Seq.perm (@List.perm_middle _ _ [_,_] []).symm ?_
 (refine Yb Zz (YB [_] _ Zz Zz Zz (watom_q h.name ia (by rw [← ia.len];exact hs.2.1)) (fun v9 fz1 H1 hle1 hR1=>?_)))
 obtain ⟨_,ba,y0,rfl,⟨cs0,rfl,hr0⟩,hba,hya⟩:=hR1
 obtain ⟨vy0,rfl,hY0⟩:=Yt hr0
 obtain ⟨Ay0,ny0,by0,rfl,_⟩:=hY0.kids
 ((repeat (first | refine zSO ?_ | refine zA fun _=>?_)))
 rename_i g5
 refine Wp.perm (List.Perm.swap _ _ _) ?_
 refine Yr (Wp.mid (fun σ fz' H'=>∃ (bb:Bool) (y:Sexpr) (Ay:Option Addr) (ny by_:Nat),σ=[(5,.pointer (some ⟨g5,0,none⟩)),(4,.pointer (some ⟨g4,0,none⟩)),(3,.pointer (some ⟨g3,0,none⟩)),(0,.pointer (some ⟨g,0,none⟩))]∧Le fz1 fz'∧H'=[(g,wrO bb),(g5,.cells #[.int .i64 y.kind,.int .i64 y.value,.int .i64 y.line,.int .i64 y.column,.string y.text,.slice Ay ny by_] 64 (0,0)),(g4,.cells #[.int .i64 0,.int .i64 0,.int .i64 0,.int .i64 0,.string ⟨#[]⟩,.slice none 0 0] 64 (0,0)),(g3,.cells #[.int .i64 c.kind,.slice A1 n1 b1,.string c.when_.op,.string c.when_.name,.slice A2 n2 b2,.slice A3 n3 b3,.slice A4 n4 b4,.slice A5 n5 b5,.string c.name,.slice A6 n6 b6,.string c.value.op,.string c.value.name,.int .i64 c.value.n,.slice A7 n7 b7,.slice A8 n8 b8] 77 (0,0))]∧Xd fz' y (.slice Ay ny by_)∧(bb=false↔b=false∧YeN c.name c.args∧Yai c)∧(bb=false→y=chX1 c)) ?_ ?_)
 ·have hM:∀ {fz':FZ},Le fz1 fz'→ExprR fz' c.value (.slice A7 n7 b7) (.slice A8 n8 b8):=fun hle=>h.value.mono (hle1.trans hle)
  ((repeat (first | refine zS ?_ | refine zA fun _=>?_)))
  ((refine zG ?_;refine zC (fun k1=>?_) (fun k1=>?_)))
  ·have k2:¬c.kind=2:=by omega
   have hx1:chX1 c=Xj c.name c.args:=by unfold chX1 Num5;rw [if_neg k2,if_neg Zi]
   have hk0:Yai c↔c.value=nilE:=⟨fun h0=>h0.elim (fun h0=>h0.2) (fun h0=>by have:=h0.1;unfold Num5 at this;omega),fun h0=>.inl ⟨.inl k1,h0⟩⟩
   ((repeat (first | refine zS ?_ | refine zA fun _=>?_)))
   cases ba
   ·((repeat (first | refine zS ?_ | refine zA fun _=>?_)))
    (((refine zG ?_));refine YJ (vs:=[.string c.value.op,.string c.value.name,.int .i64 c.value.n,.slice A7 n7 b7,.slice A8 n8 b8]) T 3 Zz Zz Zz Zz Zz Zz ?_)
    ((repeat (first | refine zS ?_ | refine zA fun _=>?_)))
    (((refine zG ?_));refine Yz Zz Zz (Yd7 (b:=nilE) (hM (Le.refl _)) Ygn) (fun f1=>?_) (fun f1=>?_))
    ·((repeat (first | refine zS ?_ | refine zA fun _=>?_)))
     exact midN ⟨false,y0,Ay0,ny0,by0,rfl,Le.refl _,rfl,hY0,iff_of_true rfl ⟨(hba.1 rfl).1,(hba.1 rfl).2,hk0.2 (of_decide_eq_true f1)⟩,fun _=>by rw [hx1];exact hya rfl⟩ (Zw) (Zb)
    ·((repeat (first | refine zS ?_ | refine zA fun _=>?_)))
     exact midN ⟨true,y0,Ay0,ny0,by0,rfl,Le.refl _,rfl,hY0,iff_of_false (by simp) (fun h0=>of_decide_eq_false f1 (hk0.1 h0.2.2)),fun h0=>by cases h0⟩ (Zw) (Zb)
   ·((repeat (first | refine zS ?_ | refine zA fun _=>?_)))
    exact midN ⟨true,y0,Ay0,ny0,by0,rfl,Le.refl _,rfl,hY0,iff_of_false (by simp) (fun h0=>by simpa using hba.2 ⟨h0.1,h0.2.1⟩),fun h0=>by cases h0⟩ (Zw) (Zb)
  ·((repeat (first | refine zS ?_ | refine zA fun _=>?_)))
   ((refine zG ?_;refine zC (fun k2=>?_) (fun k2=>?_)))
   ·have hx1:chX1 c=Yv [Yd kNot,Xj c.name c.args]:=by unfold chX1;rw [if_pos k2]
    have hk0:Yai c↔c.value=nilE:=⟨fun h0=>h0.elim (fun h0=>h0.2) (fun h0=>by have:=h0.1;unfold Num5 at this;omega),fun h0=>.inl ⟨.inr k2,h0⟩⟩
    ((repeat (first | refine zSO ?_ | refine zA fun _=>?_)))
    refine Wp.cond_true Zz ?_
    refine Yr (Wp.mid (fun σ fz' H'=>∃ bb:Bool,σ=[(5,.pointer (some ⟨g5,0,none⟩)),(4,.pointer (some ⟨g4,0,none⟩)),(3,.pointer (some ⟨g3,0,none⟩)),(0,.pointer (some ⟨g,0,none⟩))]∧fz1=fz'∧H'=[(g,wrO bb),(g5,.cells #[.int .i64 y0.kind,.int .i64 y0.value,.int .i64 y0.line,.int .i64 y0.column,.string y0.text,.slice Ay0 ny0 by0] 64 (0,0)),(g4,.cells #[.int .i64 0,.int .i64 0,.int .i64 0,.int .i64 0,.string ⟨#[]⟩,.slice none 0 0] 64 (0,0)),(g3,.cells #[.int .i64 c.kind,.slice A1 n1 b1,.string c.when_.op,.string c.when_.name,.slice A2 n2 b2,.slice A3 n3 b3,.slice A4 n4 b4,.slice A5 n5 b5,.string c.name,.slice A6 n6 b6,.string c.value.op,.string c.value.name,.int .i64 c.value.n,.slice A7 n7 b7,.slice A8 n8 b8] 77 (0,0))]∧(bb=false↔b=false∧YeN c.name c.args∧Yai c)) ?_ ?_)
    ·cases ba
     ·((repeat (first | refine zS ?_ | refine zA fun _=>?_)))
      (((refine zG ?_));refine YJ (vs:=[.string c.value.op,.string c.value.name,.int .i64 c.value.n,.slice A7 n7 b7,.slice A8 n8 b8]) T 3 Zz Zz Zz Zz Zz Zz ?_)
      ((repeat (first | refine zS ?_ | refine zA fun _=>?_)))
      (((refine zG ?_));refine Yz Zz Zz (Yd7 (b:=nilE) (hM (Le.refl _)) Ygn) (fun f1=>?_) (fun f1=>?_))
      ·((repeat (first | refine zS ?_ | refine zA fun _=>?_)))
       exact midN ⟨false,rfl,rfl,rfl,iff_of_true rfl ⟨(hba.1 rfl).1,(hba.1 rfl).2,hk0.2 (of_decide_eq_true f1)⟩⟩ (Zw) (Zb)
      ·((repeat (first | refine zS ?_ | refine zA fun _=>?_)))
       exact midN ⟨true,rfl,rfl,rfl,iff_of_false (by simp) (fun h0=>of_decide_eq_false f1 (hk0.1 h0.2.2))⟩ (Zw) (Zb)
     ·((repeat (first | refine zS ?_ | refine zA fun _=>?_)))
      exact midN ⟨true,rfl,rfl,rfl,iff_of_false (by simp) (fun h0=>by simpa using hba.2 ⟨h0.1,h0.2.1⟩)⟩ (Zw) (Zb)
    ·rintro σ fz' H' ⟨bb,rfl,rfl,rfl,hbb⟩
     ((repeat (first | refine zS ?_ | refine zA fun _=>?_)))
     (refine Wp.drawK (Hq:=[_,_,_,_]) T.mixed Zj Zj (Zb) ?_)
     (((refine zG ?_));refine Yj Zz Zz (Wq (s:=kNot)) ?_)
     ((repeat (first | refine zS ?_ | refine zA fun _=>?_)))
     (refine Ye ?_)
     (refine Ye ?_)
     (refine Ye ?_)
     (refine YR ⟨by kernel_rfl,?_⟩)
     refine Ys (Yc T (cs:=Ym kNot++ [.int .i64 y0.kind,.int .i64 y0.value,.int .i64 y0.line,.int .i64 y0.column,.string y0.text,.slice Ay0 ny0 by0]) Zz Zz Zz Zz Zz Zz Zz Zz (fun gb=>⟨(⟨Le.refl _,Zx⟩),?_⟩))
     refine Ch.qk (⟨Le.refl _,Zx⟩) (Yj Zz Zz Y6 ?_)
     unfold sxV
     refine Ch.hard0 Zj (Xv T Zz Zz Zz Zz Zz Zz ?_)
     refine Ch.done ?_
     ((repeat (first | refine zS ?_ | refine zA fun _=>?_)))
     refine midF (H':=[(g,wrO bb),(g5,_),(g4,_),(g3,_)]) (H2:=[(gb,_)]) List.perm_append_comm (fun fz2 hl2 hf2=>⟨bb,Yv [Yd kNot,y0],_,_,_,rfl,hl2,rfl,YjY (YaZ (.inl rfl)) (hf2 _ (.head _)) (hY0.mono hl2),hbb,fun h0=>?_⟩) (Zw)
     rw [hx1,hya (hba.2 ⟨(hbb.1 h0).1,(hbb.1 h0).2.1⟩)]
   ·((repeat (first | refine zSO ?_ | refine zA fun _=>?_)))
    refine Wp.cond_false Zz ?_
    refine Yr (Wp.mid (fun σ fz' H'=>∃ bq:Bool,σ=(43,.bool bq):: [(5,.pointer (some ⟨g5,0,none⟩)),(4,.pointer (some ⟨g4,0,none⟩)),(3,.pointer (some ⟨g3,0,none⟩)),(0,.pointer (some ⟨g,0,none⟩))]∧fz1=fz'∧H'=[(g,wrO ba),(g5,.cells #[.int .i64 y0.kind,.int .i64 y0.value,.int .i64 y0.line,.int .i64 y0.column,.string y0.text,.slice Ay0 ny0 by0] 64 (0,0)),(g4,.cells #[.int .i64 0,.int .i64 0,.int .i64 0,.int .i64 0,.string ⟨#[]⟩,.slice none 0 0] 64 (0,0)),(g3,.cells #[.int .i64 c.kind,.slice A1 n1 b1,.string c.when_.op,.string c.when_.name,.slice A2 n2 b2,.slice A3 n3 b3,.slice A4 n4 b4,.slice A5 n5 b5,.string c.name,.slice A6 n6 b6,.string c.value.op,.string c.value.name,.int .i64 c.value.n,.slice A7 n7 b7,.slice A8 n8 b8] 77 (0,0))]∧(bq=true↔Num5 c.kind)) ?_ ?_)
    ·((repeat (first | refine zS ?_ | refine zA fun _=>?_)))
     ((refine zG ?_;refine zC (fun k3=>?_) (fun k3=>?_)))
     ·((repeat (first | refine zS ?_ | refine zA fun _=>?_)))
      exact midN ⟨true,rfl,rfl,rfl,iff_of_true rfl (.inl k3)⟩ (Zw) (Zb)
     ·((repeat (first | refine zS ?_ | refine zA fun _=>?_)))
      ((refine zG ?_;refine zC (fun k4=>?_) (fun k4=>?_)))
      ·((repeat (first | refine zS ?_ | refine zA fun _=>?_)))
       exact midN ⟨true,rfl,rfl,rfl,iff_of_true rfl (.inr (.inl k4))⟩ (Zw) (Zb)
      ·((repeat (first | refine zS ?_ | refine zA fun _=>?_)))
       ((refine zG ?_;refine zC (fun k5=>?_) (fun k5=>?_)))
       ·((repeat (first | refine zS ?_ | refine zA fun _=>?_)))
        exact midN ⟨true,rfl,rfl,rfl,iff_of_true rfl (.inr (.inr k5))⟩ (Zw) (Zb)
       ·((repeat (first | refine zS ?_ | refine zA fun _=>?_)))
        exact midN ⟨false,rfl,rfl,rfl,iff_of_false (by simp) (fun h0=>h0.elim k3 (fun h0=>h0.elim k4 k5))⟩ (Zw) (Zb)
    ·rintro σ fz' H' ⟨bq,rfl,rfl,rfl,hb5⟩
     cases bq
     ·have hk0:¬Yai c:=fun h0=>h0.elim (fun h0=>h0.1.elim k1 k2) (fun h0=>by simpa using hb5.2 h0.1)
      ((repeat (first | refine zS ?_ | refine zA fun _=>?_)))
      exact midN ⟨true,y0,Ay0,ny0,by0,rfl,Le.refl _,rfl,hY0,iff_of_false (by simp) (fun h0=>hk0 h0.2.2),fun h0=>by cases h0⟩ (Zw) (Zb)
     ·have hn5:=hb5.1 rfl
      have hk0:Yai c↔EVal c.value:=⟨fun h0=>h0.elim (fun h0=>(h0.1.elim k1 k2).elim) (fun h0=>h0.2),fun h0=>.inr ⟨hn5,h0⟩⟩
      have hx1:chX1 c=Yv [Yd (Ygf c.kind),Xj c.name c.args,Y8 c.value]:=by unfold chX1;rw [if_neg k2,if_pos hn5]
      have hw:([.string Yff,.string Yci,.string Ycj]:List Value)[(c.kind - 3).toNat]?=some (.string (Ygf c.kind)):=by
       rcases hn5 with h0 | h0 | h0<;>rw [h0]<;>rfl
      have hsw:Short (Ygf c.kind):=by
       refine YaZ ?_
       unfold Ygf
       split
       ·exact .inr (.inl rfl)
       ·split
        ·exact .inr (.inr (.inl rfl))
        ·exact .inr (.inr (.inr (.inl rfl)))
      have hn6:3≤c.kind∧c.kind≤5:=by unfold Num5 at hn5;omega
      refine Wp.cond_true Zz ?_
      ((repeat (first | refine zS ?_ | refine zA fun _=>?_)))
      (((refine zG ?_));refine YJ (vs:=[.string c.value.op,.string c.value.name,.int .i64 c.value.n,.slice A7 n7 b7,.slice A8 n8 b8]) T 3 Zz Zz Zz Zz Zz Zz ?_)
      (refine Yb Zz (YB [] _ Zz Zz Zz (eWrite_q (hM (Le.refl _)) hs.2.2.2) (fun v8 fz2 H2 hle2 hR2=>?_)))
      obtain ⟨rfl,u,ye,rfl,⟨cse,rfl,hre⟩,hye⟩:=hR2
      obtain ⟨vke,rfl,hE⟩:=Yt hre
      obtain ⟨Ae,ne,be,rfl,_⟩:=hE.kids
      ((repeat (first | refine zSO ?_ | refine zA fun _=>?_)))
      rename_i g6
      refine Yr (Wp.mid (fun σ fz' H'=>∃ bb:Bool,σ=(6,.pointer (some ⟨g6,0,none⟩)):: [(5,.pointer (some ⟨g5,0,none⟩)),(4,.pointer (some ⟨g4,0,none⟩)),(3,.pointer (some ⟨g3,0,none⟩)),(0,.pointer (some ⟨g,0,none⟩))]∧fz2=fz'∧H'=[(g,wrO bb),(g6,.cells #[.int .i64 ye.kind,.int .i64 ye.value,.int .i64 ye.line,.int .i64 ye.column,.string ye.text,.slice Ae ne be] 64 (0,0)),(g5,.cells #[.int .i64 y0.kind,.int .i64 y0.value,.int .i64 y0.line,.int .i64 y0.column,.string y0.text,.slice Ay0 ny0 by0] 64 (0,0)),(g4,.cells #[.int .i64 0,.int .i64 0,.int .i64 0,.int .i64 0,.string ⟨#[]⟩,.slice none 0 0] 64 (0,0)),(g3,.cells #[.int .i64 c.kind,.slice A1 n1 b1,.string c.when_.op,.string c.when_.name,.slice A2 n2 b2,.slice A3 n3 b3,.slice A4 n4 b4,.slice A5 n5 b5,.string c.name,.slice A6 n6 b6,.string c.value.op,.string c.value.name,.int .i64 c.value.n,.slice A7 n7 b7,.slice A8 n8 b8] 77 (0,0))]∧(bb=false↔b=false∧YeN c.name c.args∧Yai c)) ?_ ?_)
      ·by_cases hP:EVal c.value
       ·rw [if_pos hP]
        cases ba
        ·((repeat (first | refine zS ?_ | refine zA fun _=>?_)))
         exact midP (List.Perm.swap _ _ _) ⟨false,rfl,rfl,rfl,iff_of_true rfl ⟨(hba.1 rfl).1,(hba.1 rfl).2,hk0.2 hP⟩⟩ (Zw) (Zb)
        ·((repeat (first | refine zS ?_ | refine zA fun _=>?_)))
         exact midP (List.Perm.swap _ _ _) ⟨true,rfl,rfl,rfl,iff_of_false (by simp) (fun h0=>by simpa using hba.2 ⟨h0.1,h0.2.1⟩)⟩ (Zw) (Zb)
       ·rw [if_neg hP]
        cases ba
        ·((repeat (first | refine zS ?_ | refine zA fun _=>?_)))
         exact midP (List.Perm.swap _ _ _) ⟨true,rfl,rfl,rfl,iff_of_false (by simp) (fun h0=>hP (hk0.1 h0.2.2))⟩ (Zw) (Zb)
        ·((repeat (first | refine zS ?_ | refine zA fun _=>?_)))
         exact midP (List.Perm.swap _ _ _) ⟨true,rfl,rfl,rfl,iff_of_false (by simp) (fun h0=>by simpa using hba.2 ⟨h0.1,h0.2.1⟩)⟩ (Zw) (Zb)
      ·rintro σ fz' H' ⟨bb,rfl,rfl,rfl,hbb⟩
       (refine Wp.drawK (Hq:=[_,_,_,_,_]) T.mixed Zj Zj (Zb) ?_)
       (refine Ye ?_)
       ((repeat (first | refine zS ?_ | refine zA fun _=>?_)))
       (refine Ye ?_)
       (refine Ye ?_)
       (refine Ye ?_)
       ((repeat (first | refine zS ?_ | refine zA fun _=>?_)))
       (refine Ye ?_)
       (refine Ye ?_)
       (refine Ye ?_)
       (refine YR ⟨by kernel_rfl,?_⟩)
       refine Ys (Yc T (cs:=[.string Yff,.string Yci,.string Ycj]) Zz Zz Zz Zz Zz Zz Zz Zz (fun gs=>⟨(⟨Le.refl _,Zx⟩),?_⟩))
       refine Ch.qk (⟨Le.refl _,Zx⟩) (Yb4 T Zz Zz Zz Zz Zz Zz Zi Zi ?_)
       refine Ch.qk (⟨Le.refl _,Zx⟩) (Yo T 0 Zz Zz Zz Zz hw ?_)
       refine Ch.qk (⟨Le.refl _,Zx⟩) (Yj Zz Zz (Wq (s:=Ygf c.kind)) ?_)
       refine Ys (Yc T (cs:=Ym (Ygf c.kind)++ [.int .i64 y0.kind,.int .i64 y0.value,.int .i64 y0.line,.int .i64 y0.column,.string y0.text,.slice Ay0 ny0 by0]++ [.int .i64 ye.kind,.int .i64 ye.value,.int .i64 ye.line,.int .i64 ye.column,.string ye.text,.slice Ae ne be]) Zz Zz Zz Zz Zz Zz Zz Zz (fun gb=>⟨(⟨Le.refl _,Zx⟩),?_⟩))
       refine Ch.qk (⟨Le.refl _,Zx⟩) (Yj Zz Zz Y6 ?_)
       unfold sxV
       refine Ch.hard0 Zj (X6 T (pre:=[_,_,_,_]) Zz Zz Zz rfl Zz Zz Zz ?_)
       refine Ch.done ?_
       ((repeat (first | refine zS ?_ | refine zA fun _=>?_)))
       refine midF (H':=[(g,wrO bb),(g5,_),(g4,_),(g3,_)]) (H2:=[(gb,_),(gs,_),(g6,_)]) (Xm [2,4,5,6,0,1,3] Zz Zz) (fun fz3 hl3 hf3=>⟨bb,Yv [Yd (Ygf c.kind),y0,ye],_,_,_,rfl,hle2.trans hl3,rfl,YcH hsw (hf3 _ (.head _)) (hY0.mono (hle2.trans hl3)) (hE.mono hl3),hbb,fun h0=>?_⟩) (Zw)
       rw [hx1,hya (hba.2 ⟨(hbb.1 h0).1,(hbb.1 h0).2.1⟩),hye (hk0.1 (hbb.1 h0).2.2)]
 ·rintro σ fz9 H' ⟨bb,y,Ay,ny,by_,rfl,hle2,rfl,hY,hbb,hyb⟩
  refine Yr (Wp.mid (fun σ fz' H'=>∃ (bb:Bool) (y:Sexpr) (Ay:Option Addr) (ny by_:Nat),σ=[(5,.pointer (some ⟨g5,0,none⟩)),(4,.pointer (some ⟨g4,0,none⟩)),(3,.pointer (some ⟨g3,0,none⟩)),(0,.pointer (some ⟨g,0,none⟩))]∧Le fz9 fz'∧H'=[(g,wrO bb),(g5,.cells #[.int .i64 y.kind,.int .i64 y.value,.int .i64 y.line,.int .i64 y.column,.string y.text,.slice Ay ny by_] 64 (0,0)),(g4,.cells #[.int .i64 0,.int .i64 0,.int .i64 0,.int .i64 0,.string ⟨#[]⟩,.slice none 0 0] 64 (0,0)),(g3,.cells #[.int .i64 c.kind,.slice A1 n1 b1,.string c.when_.op,.string c.when_.name,.slice A2 n2 b2,.slice A3 n3 b3,.slice A4 n4 b4,.slice A5 n5 b5,.string c.name,.slice A6 n6 b6,.string c.value.op,.string c.value.name,.int .i64 c.value.n,.slice A7 n7 b7,.slice A8 n8 b8] 77 (0,0))]∧Xd fz' y (.slice Ay ny by_)∧(bb=false↔b=false∧YeN c.name c.args∧Yai c∧WhenOk c)∧(bb=false→y=chX2 c)) ?_ ?_)
  ·refine Yr ?_
   (refine Wp.drawK (Hq:=[(g,_),(g5,_),(g4,_),(g3,_)]) T.mixed Zj Zj (Zb) ?_)
   ((repeat (first | refine zS ?_ | refine zA fun _=>?_)))
   (((refine zG ?_));refine YJ (vs:=[.string c.when_.op,.string c.when_.name,.slice A2 n2 b2,.slice A3 n3 b3,.slice A4 n4 b4,.slice A5 n5 b5]) T 3 Zz Zz Zz Zz Zz Zz ?_)
   (((refine zG ?_));refine Yj Zz Zz Ycz ?_)
   unfold YbT
   (((refine zG ?_));refine Yz Zz Zz (Yey (b:=Wn) ((h.when_.mono hle1).mono hle2) YdB) (fun f1=>?_) (fun f1=>?_))
   ·have hw:=of_decide_eq_true f1
    ((repeat (first | refine zS ?_ | refine zA fun _=>?_)))
    refine YR ⟨by kernel_rfl,Ch.done ?_⟩
    ((repeat (first | refine zS ?_ | refine zA fun _=>?_)))
    exact midN ⟨bb,y,Ay,ny,by_,rfl,Le.refl _,rfl,hY,by rw [hbb];exact ⟨fun h0=>⟨h0.1,h0.2.1,h0.2.2,.inl hw⟩,fun h0=>⟨h0.1,h0.2.1,h0.2.2.1⟩⟩,fun h0=>by rw [chX2,if_pos hw];exact hyb h0⟩ (Zw) (Zb)
   ·have hw:=of_decide_eq_false f1
    ((repeat (first | refine zS ?_ | refine zA fun _=>?_)))
    refine YR ⟨by kernel_rfl,Ch.done ?_⟩
    ((repeat (first | refine zS ?_ | refine zA fun _=>?_)))
    (refine Wp.drawK (Hq:=[(g5,_),(g4,_),(g3,_)]) T.mixed Zj Zj (Zb) ?_)
    (((refine zG ?_));refine Yj Zz Zz (Wq (s:=Yjx)) ?_)
    ((repeat (first | refine zS ?_ | refine zA fun _=>?_)))
    (((refine zG ?_));refine YJ (vs:=[.string c.when_.op,.string c.when_.name,.slice A2 n2 b2,.slice A3 n3 b3,.slice A4 n4 b4,.slice A5 n5 b5]) T 2 Zz Zz Zz Zz Zz Zz ?_)
    (refine Ye ?_)
    ((repeat (first | refine zS ?_ | refine zA fun _=>?_)))
    (refine Ye ?_)
    (refine Ye ?_)
    (refine Ye ?_)
    (refine YR ⟨by kernel_rfl,?_⟩)
    refine Ys (YB [_] _ Zz Zz Zz (YaP ((h.when_.mono hle1).mono hle2) hs.2.2.1) (fun v6 fz6 H6 hle6 hR6=>?_))
    obtain ⟨_,b9,y6,rfl,⟨cs6,rfl,hr6⟩,hb6,hy6⟩:=hR6
    obtain ⟨vk6,rfl,hX6⟩:=Yt hr6
    obtain ⟨Ae,ne,be,rfl,_⟩:=hX6.kids
    refine ⟨(⟨hle6,Zx⟩),?_⟩
    refine Ys (Yc T (cs:=Ym Yjx++ [.int .i64 y6.kind,.int .i64 y6.value,.int .i64 y6.line,.int .i64 y6.column,.string y6.text,.slice Ae ne be]++ [.int .i64 y.kind,.int .i64 y.value,.int .i64 y.line,.int .i64 y.column,.string y.text,.slice Ay ny by_]) Zz Zz Zz Zz Zz Zz Zz Zz (fun gb=>⟨(⟨hle6,Zx⟩),?_⟩))
    refine Ch.qk (⟨hle6,Zx⟩) (Yj Zz Zz Y6 ?_)
    unfold sxV
    refine Ch.hard0 Zj (Xv T Zz Zz Zz Zz Zz Zz ?_)
    refine Ch.done ?_
    ((repeat (first | refine zS ?_ | refine zA fun _=>?_)))
    refine midF (H':=[(g,wrO b9),(g5,_),(g4,_),(g3,_)]) (H2:=[(gb,_)]) List.perm_append_comm (fun fz3 hl3 hf3=>⟨b9,Yv [Yd Yjx,y6,y],_,_,_,rfl,hle6.trans hl3,rfl,YcH (YaZ (.inr (.inr (.inr (.inr (.inl rfl)))))) (hf3 _ (.head _)) (hX6.mono hl3) ((hY.mono hle6).mono hl3),?_,fun h0=>?_⟩) (Zw)
    ·rw [hb6,hbb]
     exact ⟨fun h0=>⟨h0.1.1,h0.1.2.1,h0.1.2.2,.inr h0.2⟩,fun h0=>⟨⟨h0.1,h0.2.1,h0.2.2.1⟩,h0.2.2.2.resolve_left hw⟩⟩
    ·rw [chX2,if_neg hw,hy6 h0,hyb (hb6.1 h0).1]
  ·rintro σ fz7 H' ⟨bb,y,Ay,ny,by_,rfl,hle7,rfl,hY,hbb,hyb⟩
   have hip:=((ip.mono hle1).mono hle2).mono hle7
   refine Yr (Wp.mid (fun σ fz' H'=>∃ (bb:Bool) (y:Sexpr) (Ay:Option Addr) (ny by_:Nat),σ=[(5,.pointer (some ⟨g5,0,none⟩)),(4,.pointer (some ⟨g4,0,none⟩)),(3,.pointer (some ⟨g3,0,none⟩)),(0,.pointer (some ⟨g,0,none⟩))]∧Le fz7 fz'∧H'=[(g,wrO bb),(g5,.cells #[.int .i64 y.kind,.int .i64 y.value,.int .i64 y.line,.int .i64 y.column,.string y.text,.slice Ay ny by_] 64 (0,0)),(g4,.cells #[.int .i64 0,.int .i64 0,.int .i64 0,.int .i64 0,.string ⟨#[]⟩,.slice none 0 0] 64 (0,0)),(g3,.cells #[.int .i64 c.kind,.slice A1 n1 b1,.string c.when_.op,.string c.when_.name,.slice A2 n2 b2,.slice A3 n3 b3,.slice A4 n4 b4,.slice A5 n5 b5,.string c.name,.slice A6 n6 b6,.string c.value.op,.string c.value.name,.int .i64 c.value.n,.slice A7 n7 b7,.slice A8 n8 b8] 77 (0,0))]∧Xd fz' y (.slice Ay ny by_)∧(bb=false↔b=false∧ChOk c)∧(bb=false→y=chX c)) ?_ ?_)
   ·((repeat (first | refine zS ?_ | refine zA fun _=>?_)))
    ((refine zG ?_;refine zC (fun p1=>?_) (fun p1=>?_)))
    ·have hp0:=(WT ip.len).1 p1
     ((repeat (first | refine zS ?_ | refine zA fun _=>?_)))
     (refine Wp.drawK (Hq:=[(g5,_),(g4,_),(g3,_)]) T.mixed Zj Zj (Zb) ?_)
     (((refine zG ?_));refine Yj Zz Zz (Wq (s:=XN)) ?_)
     ((repeat (first | refine zS ?_ | refine zA fun _=>?_)))
     (refine Ye ?_)
     (refine Ye ?_)
     ((repeat (first | refine zS ?_ | refine zA fun _=>?_)))
     (refine Ye ?_)
     (refine Ye ?_)
     (refine Ye ?_)
     (refine YR ⟨by kernel_rfl,?_⟩)
     refine Ys (YB [_] _ Zz Zz Zz (WE (vars:=true) hip (by rw [← ip.len];exact hs.1)) (fun v6 fz6 H6 hle6 hR6=>?_))
     obtain ⟨_,⟨Ae,ce,rfl,hsl6⟩,b9,rfl,hb6⟩:=hR6
     refine ⟨(⟨hle6,Zx⟩),?_⟩
     refine Ch.qk (⟨hle6,Zx⟩) (Yj Zz Zz Y6 ?_)
     unfold sxV
     refine Ys (Yc T (cs:=Ym XN++ [.int .i64 3,.int .i64 0,.int .i64 0,.int .i64 0,.string ⟨#[]⟩,.slice Ae (3*n1) ce]++ [.int .i64 y.kind,.int .i64 y.value,.int .i64 y.line,.int .i64 y.column,.string y.text,.slice Ay ny by_]) Zz Zz Zz Zz Zz Zz Zz Zz (fun gb=>⟨(⟨hle6,Zx⟩),?_⟩))
     refine Ch.qk (⟨hle6,Zx⟩) (Yj Zz Zz Y6 ?_)
     unfold sxV
     refine Ch.hard0 Zj (Xv T Zz Zz Zz Zz Zz Zz ?_)
     refine Ch.done ?_
     ((repeat (first | refine zS ?_ | refine zA fun _=>?_)))
     refine midF (H':=[(g,wrO b9),(g5,_),(g4,_),(g3,_)]) (H2:=[(gb,_)]) List.perm_append_comm (fun fz3 hl3 hf3=>⟨b9,Yv [Yd XN,Yv ((c.params.flatMap XO).map Yd),y],_,_,_,rfl,hle6.trans hl3,rfl,YcH (X:=Yv ((c.params.flatMap XO).map Yd)) (YaZ (.inr (.inr (.inr (.inr (.inr rfl)))))) (hf3 _ (.head _)) ⟨YcO,Xp,Xp,Xp,Y0,(hsl6.mono hl3).is⟩ ((hY.mono hle6).mono hl3),?_,fun h0=>?_⟩) (Zw)
     ·rw [hb6,hbb]
      exact ⟨fun h0=>⟨h0.1.1,h0.1.2.1,h0.1.2.2.1,h0.1.2.2.2,h0.2⟩,fun h0=>⟨⟨h0.1,h0.2.1,h0.2.2.1,h0.2.2.2.1⟩,h0.2.2.2.2⟩⟩
     ·rw [chX,if_neg hp0,hyb (hb6.1 h0).1]
    ·have hp0:c.params=[]:=Classical.byContradiction fun h0=>p1 ((WT ip.len).2 h0)
     ((repeat (first | refine zS ?_ | refine zA fun _=>?_)))
     exact midN ⟨bb,y,Ay,ny,by_,rfl,Le.refl _,rfl,hY,by rw [hbb];exact ⟨fun h0=>⟨h0.1,h0.2.1,h0.2.2.1,h0.2.2.2,by rw [hp0];simp⟩,fun h0=>⟨h0.1,h0.2.1,h0.2.2.1,h0.2.2.2.1⟩⟩,fun h0=>by rw [chX,if_pos hp0];exact hyb h0⟩ (Zw) (Zb)
   ·rintro σ fz8 H' ⟨bb,y,Ay,ny,by_,rfl,hle8,rfl,hY,hbb,hyb⟩
    ((repeat (first | refine zS ?_ | refine zA fun _=>?_)))
    refine WF T (i:=2) (H':=[(g,wrO bb)]) rfl Zz Zz Zz Zz Zz (Zb) ?_
    exact ⟨hle1.trans (hle2.trans (hle7.trans hle8)),bb,y,rfl,⟨_,rfl,Yg hY⟩,hbb,hyb⟩
end Go.Proofs.YtbhlgkibgajajaaGreatDoor
set_option maxRecDepth 20000
namespace Go.Proofs.YtbhlgkibgajajaaGreatDoor
open Go.Lx Go.RowKit
attribute [local instance 10] Classical.propDecidable
noncomputable def effX (l:List Change):Sexpr:=if l=[] then Yv [] else Yv (Yd kAnd::l.map chX)
def Yc0 (l:List Change):Prop:=∀ c∈l,ChOk c
def Ykj (l:List Change):Prop:=l.length≤1000000000∧∀ c∈l,ChSm c
theorem YiS:Short kAnd:=by unfold Short;decide
set_option maxHeartbeats 2000000 in
theorem Ydx {fz:FZ} {g:Nat} {b:Bool} {A:Option Addr} {n c:Nat} {l:List Change} (h1:Sl changeL fz A n c l) (hs:Ykj l):
 GFn Tryz.prog 71 [.pointer (some ⟨g,0,none⟩),.slice A n c] fz [(g,wrO b)] (MkR g b (Yc0 l) (effX l) fz):=by
 have l1:=h1.len
 have hn:=hs.1
 (refine GFn.of_wp Tryz.func71 rfl Tryz.ntmps71 rfl rfl (fun w0=>?_))
 ((repeat (first | refine zS ?_ | refine zA fun _=>?_)))
 rename_i g4
 ((refine zG ?_;refine zC (fun c0=>?_) (fun c0=>?_)))
 ·have hl:=(len0 l1).1 c0
  ((repeat (first | refine zS ?_ | refine zA fun _=>?_)))
  (((refine zG ?_));refine Yj Zz Zz (Y6 (A:=none) (n:=0) (c:=0)) ?_)
  unfold sxV
  ((repeat (first | refine zS ?_ | refine zA fun _=>?_)))
  refine WF T (i:=0) (H':=[(g,wrO b)]) rfl Zz Zz Zz Zz Zz (Zb) ?_
  exact ⟨Le.refl _,b,_,rfl,XQ (Sl.nil Zi),by rw [hl];unfold Yc0;simp,fun _=>by rw [effX,if_pos hl]⟩
 ·have hl:l≠ []:=fun h0=>c0 ((len0 l1).2 h0)
  ((repeat (first | refine zS ?_ | refine zA fun _=>?_)))
  (((refine zG ?_));refine Yj Zz Zz (Wq (s:=kAnd)) ?_)
  unfold sxV
  refine Yb Zz (Yc T (cs:=Ym kAnd) Zz Zz Zz Zz Zz Zz Zz Zz (fun gb=>?_))
  (((refine zG ?_));refine Yj Zz Zz Y6 ?_)
  unfold sxV
  ((repeat (first | refine zS ?_ | refine zA fun _=>?_)))
  rename_i g5
  refine Wp.perm (Xm [3,0,2,1] Zz Zz) ?_
  refine YD (fun q σ fz' H'=>∃ (k:Nat) (v:Value) (Hs:HP) (b':Bool) (ys:List Sexpr),k≤n∧q=n - k∧σ=[(17,.int .i64 k),(16,.int .i64 n),(15,.slice A n c),(5,.pointer (some ⟨g5,0,none⟩)),(4,.pointer (some ⟨g4,0,none⟩)),(0,.pointer (some ⟨g,0,none⟩))]∧Le fz fz'∧
   H'=(g,wrO b')::(g5,.cells #[.int .i64 3,.int .i64 0,.int .i64 0,.int .i64 0,.string ⟨#[]⟩,v] 64 (0,0))::(g4,.cells #[.int .i64 0,.int .i64 0,.int .i64 0,.int .i64 0,.string ⟨#[]⟩,.slice none 0 0] 64 (0,0))::Hs∧Grow YF 64 fz' v (k+1) Hs (Yd kAnd::ys)∧(b'=false↔b=false∧∀ i,i<k→∀ a,l[i]?=some a→ChOk a)∧(b'=false→ys=(l.take k).map chX))
   ⟨0,_,[_],b,[],Nat.zero_le _,rfl,rfl,Le.refl _,rfl,Grow.block (ys:=[(Yd kAnd,Ym kAnd)]) rfl rfl (by simpa using Yq YiS) rfl Zh,⟨fun h=>⟨h,fun i hi=>absurd hi Zi⟩,fun h=>h.1⟩,by simp⟩ (Zw) (Zb) ?_
  rintro q σ fz' H' ⟨k,v,Hs,b',ys,hk,rfl,rfl,hle,rfl,hG,hb,hys⟩
  obtain ⟨Av,cv,rfl,_,_⟩:=hG.form
  have h2:=h1.mono hle
  ((repeat (first | refine zS ?_ | refine zA fun _=>?_)))
  ((refine zG ?_;refine zC (fun c1=>?_) (fun c1=>?_)))
  ·obtain ⟨x,hx⟩:=YG (l:=l) (k:=k) Zi
   ((repeat (first | refine zS ?_ | refine zA fun _=>?_)))
   (((refine zG ?_));refine YA T k Zz Zz Zz Zz Zz Zz h2 (by first | rfl | omega) hx (fun p hp=>?_))
   (((refine zG ?_));refine Yx T Zz Zz Zz hp Zz ?_)
   intro cs hcs
   obtain ⟨v1,v2,v3,v4,v5,v6,v7,v8,rfl,hRx⟩:=W7 hcs
   obtain ⟨A1,n1,b1,rfl,_⟩:=hRx.params
   obtain ⟨A2,n2,b2,rfl,_⟩:=hRx.when_.args
   obtain ⟨A3,n3,b3,rfl,_⟩:=hRx.when_.params
   obtain ⟨A4,n4,b4,rfl,_⟩:=hRx.when_.exprs
   obtain ⟨A5,n5,b5,rfl,_⟩:=hRx.when_.kids
   obtain ⟨A6,n6,b6,rfl,_⟩:=hRx.args
   obtain ⟨A7,n7,b7,rfl,_⟩:=hRx.value.args
   obtain ⟨A8,n8,b8,rfl,_⟩:=hRx.value.kids
   ((repeat (first | refine zS ?_ | refine zA fun _=>?_)))
   rename_i g7
   (refine Wp.drawK (Hq:=[(g7,_),(g5,_),(g4,_)]) T.mixed Zj Zj (Zb) ?_)
   ((repeat (first | refine zS ?_ | refine zA fun _=>?_)))
   (refine Ye ?_)
   (refine Ye ?_)
   (refine Ye ?_)
   ((repeat (first | refine zS ?_ | refine zA fun _=>?_)))
   (refine Ye ?_)
   (refine YR ⟨by kernel_rfl,?_⟩)
   refine Ys (Does.perm (List.Perm.swap _ _ _) (YB [_] _ Zz Zz Zz (YiH hRx (hs.2 x (List.mem_of_getElem? hx))) (fun v9 fz6 H6 hle6 hR6=>?_)))
   obtain ⟨_,b9,y6,rfl,⟨cs6,rfl,hr6⟩,hb6,hy6⟩:=hR6
   obtain ⟨vk6,rfl,hX6⟩:=Yt hr6
   refine ⟨(⟨hle6,Zx⟩),?_⟩
   refine Ys (Yc T (cs:=[.int .i64 y6.kind,.int .i64 y6.value,.int .i64 y6.line,.int .i64 y6.column,.string y6.text,vk6]) Zz Zz Zz Zz Zz Zz Zz Zz (fun gb=>⟨(⟨hle6,Zx⟩),?_⟩))
   refine Ys (Y3 T (Hr:=[_,_,_,_,_]) Zz Zz Zz Zz Zz Zz Zz Zz (List.Perm.refl _) (hG.mono hle6) Yn (.head _) (Yg hX6) (by show _*72≤_;omega) Zi (fun v' Hs' hO'=>⟨(⟨hle6,Zx⟩),?_⟩))
   obtain ⟨Av',cv',rfl,_,_⟩:=hO'.form
   refine Ch.hard0 Zj (Yaj T Zz Zz Zz Zz Zz Zz ?_)
   refine Ch.done ?_
   ((repeat (first | refine zS ?_ | refine zA fun _=>?_)))
   refine YP ⟨k+1,_,Hs',b9,ys++ [y6],by omega,rfl,rfl,hle.trans hle6,rfl,hO',?_,fun h0=>?_⟩ Zi (Zw) (Zb)
   ·rw [hb6,hb]
    exact ⟨fun h0=>⟨h0.1.1,YZ h0.1.2 hx h0.2⟩,fun h0=>⟨⟨h0.1,fun i hi=>h0.2 i Zi⟩,h0.2 k Zi x hx⟩⟩
   ·rw [hys (hb6.1 h0).1,hy6 h0,List.take_add_one,hx];simp
  ·have hk1:k=n:=by omega
   subst hk1
   ((repeat (first | refine zS ?_ | refine zA fun _=>?_)))
   refine Yce T (i:=2) (H':=[(g,wrO b')]) rfl Zz Zz Zz Zz Zz (List.Perm.refl _) (fun fz3 hle3 hf3=>?_)
   obtain ⟨A',c',he,hsl⟩:=hG.sl hle3 (fun p hp=>hf3 p (by simp [hp])) Zi
   injection he with he1 he2 he3
   subst he1 he3
   refine ⟨hle.trans hle3,b',_,rfl,XQ hsl,by rw [hb];exact ⟨fun h=>⟨h.1,XW h.2 Zi⟩,fun h=>⟨h.1,fun i _ a ha=>h.2 a (List.mem_of_getElem? ha)⟩⟩,fun h0=>?_⟩
   rw [effX,if_neg hl,hys h0,List.take_of_length_le Zi]
end Go.Proofs.YtbhlgkibgajajaaGreatDoor
set_option maxRecDepth 20000
namespace Go.Proofs.YtbhlgkibgajajaaGreatDoor
open Go.Lx Go.RowKit
attribute [local instance 10] Classical.propDecidable
def lsO (v:Value):Obj:=.cells #[.int .i64 3,.int .i64 0,.int .i64 0,.int .i64 0,.string ⟨#[]⟩,v] 64 (0,0)
def YaN:List Value:=[.int .i64 0,.int .i64 0,.int .i64 0,.int .i64 0,.string ⟨#[]⟩,.slice none 0 0]
theorem X8 {fz:FZ}:YF.rep fz YfC YaN:=Yg (x:=YfC) ⟨Xp,Xp,Xp,Xp,Y0,IsSl.nil⟩
theorem set2 {α:Type} {l:List α} {n:Nat} {z w y:α} (hn:l.length=n):((l++ [z,z]).set n w).set (n+1) y=l++ [w,y]:=by
 subst hn
 rw [List.set_append_right _ _ (Nat.le_refl _),Nat.sub_self,List.set_append_right _ _ Zi,Nat.add_sub_cancel_left]
 rfl
theorem set1 {α:Type} {l:List α} {n:Nat} {z w:α} (hn:l.length=n):(l++ [z]).set n w=l++ [w]:=by
 subst hn
 rw [List.set_append_right _ _ (Nat.le_refl _),Nat.sub_self]
 rfl
def PartR (gx n:Nat) (l:List Sexpr) (fz:FZ) (v:Value) (fz':FZ) (H':HP):Prop:=v=.tuple #[]∧Le fz fz'∧∃ (v':Value) (n':Nat) (Hs':HP),H'=(gx,lsO v')::Hs'∧Grow YF 64 fz' v' n' Hs' l∧n'≤n+2
set_option maxHeartbeats 2000000 in
theorem Ybr {fz:FZ} {gx n:Nat} {v vy:Value} {Hs:HP} {l:List Sexpr} {mi:Bool} {kw:ByteArray} {y:Sexpr} (hG:Grow YF 64 fz v n Hs l) (hY:Xd fz y vy) (hkw:Short kw) (hn:n≤100000000000):
 GFn Tryz.prog 67 [.pointer (some ⟨gx,0,none⟩),.bool mi,.string kw,.agg #[.int .i64 y.kind,.int .i64 y.value,.int .i64 y.line,.int .i64 y.column,.string y.text,vy]] fz ((gx,lsO v)::Hs) (PartR gx n (l++if mi=true then [] else [Yd kw,y]) fz):=by
 obtain ⟨Ay,ny,cy,rfl,_⟩:=hY.kids
 have hlen:=hG.len
 obtain ⟨Av,cv,rfl,_,_⟩:=hG.form
 unfold lsO
 (refine GFn.of_wp Tryz.func67 rfl Tryz.ntmps67 rfl rfl (fun w0=>?_))
 cases mi
 ·(refine Yr (Yp (Yb Zz (Xi _ Zz Zz (fun g7=>?_)))))
  ((repeat (first | refine zS ?_ | refine zA fun _=>?_)))
  (refine Wp.drawP [12,15,16] (Hq:=[(g7,_),(gx,_)]) T.mixed Zj Zj (Zb) ?_)
  ((repeat (first | refine zS ?_ | refine zA fun _=>?_)))
  (((refine zG ?_));refine Yj Zz Zz (Wq (s:=kw)) ?_)
  ((repeat (first | refine zS ?_ | refine zA fun _=>?_)))
  (refine Yl ?_)
  (refine Yl ?_)
  (refine Yl ?_)
  (refine Yl ?_)
  (refine PK.p Zz (fun fz'=>by first | exact Yah Zz rfl | exact Wa Zz rfl | exact Xh T Zz Zz Zz Zz Zz Zz rfl | exact Yb5 Zz Zz (Xl Zi) rfl | exact Xg T Zz Zz Zz rfl) ?_)
  (refine Yl ?_)
  (refine Yl ?_)
  (refine PK.p Zz (fun fz'=>by first | exact Yah Zz rfl | exact Wa Zz rfl | exact Xh T Zz Zz Zz Zz Zz Zz rfl | exact Yb5 Zz Zz (Xl Zi) rfl | exact Xg T Zz Zz Zz rfl) ?_)
  (refine PK.p Zz (fun fz'=>by first | exact Yah Zz rfl | exact Wa Zz rfl | exact Xh T Zz Zz Zz Zz Zz Zz rfl | exact Yb5 Zz Zz (Xl Zi) rfl | exact Xg T Zz Zz Zz rfl) ?_)
  (refine Yl ?_)
  (refine PK.done ⟨by kernel_rfl,?_⟩)
  (refine Yf Zz Zz ?_)
  refine Yh (Yc T (cs:=YaN++YaN) Zz Zz Zz Zz Zz Zz Zz Zz (fun gb=>⟨(⟨Le.refl _,Zx⟩),?_⟩))
  (refine Yf Zz Zz ?_)
  refine Yh (YhI T (Hr:=[_,_,_]) (ys:=[(YfC,YaN),(YfC,YaN)]) (l2:=[YfC,YfC]) (m:=2) Zz Zz Zz Zz Zz Zz Zz Zz (List.Perm.refl _) hG Yn (.head _) rfl rfl (by intro p hp;simp at hp;subst hp;exact X8) rfl (by show _*72≤_;omega) Zi (fun v' Hs' hO'=>⟨(⟨Le.refl _,Zx⟩),?_⟩))
  obtain ⟨gk,cap,cur,rfl,rfl,hB⟩:=hO'.b Zi
  (refine YV Zz Zz Zz ?_ ?_)
  ·refine PoS.hard Zj (DoesQ.does (YQ T Zz Zz Zz Zz Zz rfl Zi Zi ?_))
   (refine YV Zz Zz Zz ?_ ?_)
   ·refine PoS.hard0 Zj (YH T (pre:=[_,_,_]) (L:=YF) (j:=n) Zz Zz Zz rfl rfl Zz Yn (Yq hkw) hB Zi (fun cur1 hB1=>?_))
    (refine YV Zz Zz Zz ?_ ?_)
    ·refine PoS.hard Zj (DoesQ.does (YQ T Zz Zz Zz Zz Zz rfl Zi Zi ?_))
     (refine YV Zz Zz Zz ?_ ?_)
     ·refine PoS.hard0 Zj (YH T (pre:=[_,_,_]) (L:=YF) (j:=n+1) Zz Zz Zz rfl rfl Zz Yn (Yg hY) hB1 Zi (fun cur2 hB2=>?_))
      (refine Yf Zz Zz ?_)
      refine PoS.hard0 Zj (Xv T Zz Zz Zz Zz Zz Zz ?_)
      refine Po.done ?_
      ((repeat (first | refine zS ?_ | refine zA fun _=>?_)))
      exact Ya1 rfl (H':=[(gx,lsO _),(gk,.cells (List.toArray cur2) 64 (0,0))]) (Zb) ⟨rfl,Le.refl _,_,_,[_],rfl,hB2.grow.of (by rw [set2 hlen];rfl) rfl,by omega⟩
     ·refine PoS.hard0 Zj (Xv T Zz Zz Zz Zz Zz Zz ?_)
      (refine Yf Zz Zz ?_)
      refine PoS.hard0 Zj (YH T (pre:=[_,_,_]) (L:=YF) (j:=n+1) Zz Zz Zz rfl rfl Zz Yn (Yg hY) hB1 Zi (fun cur2 hB2=>?_))
      refine Po.done ?_
      ((repeat (first | refine zS ?_ | refine zA fun _=>?_)))
      exact Ya1 rfl (H':=[(gx,lsO _),(gk,.cells (List.toArray cur2) 64 (0,0))]) (Zb) ⟨rfl,Le.refl _,_,_,[_],rfl,hB2.grow.of (by rw [set2 hlen];rfl) rfl,by omega⟩
    ·refine PoS.hard0 Zj (Xv T Zz Zz Zz Zz Zz Zz ?_)
     (refine Yf Zz Zz ?_)
     refine PoS.hard Zj (DoesQ.does (YQ T Zz Zz Zz Zz Zz rfl Zi Zi ?_))
     (refine Yf Zz Zz ?_)
     refine PoS.hard0 Zj (YH T (pre:=[_,_,_]) (L:=YF) (j:=n+1) Zz Zz Zz rfl rfl Zz Yn (Yg hY) hB1 Zi (fun cur2 hB2=>?_))
     refine Po.done ?_
     ((repeat (first | refine zS ?_ | refine zA fun _=>?_)))
     exact Ya1 rfl (H':=[(gx,lsO _),(gk,.cells (List.toArray cur2) 64 (0,0))]) (Zb) ⟨rfl,Le.refl _,_,_,[_],rfl,hB2.grow.of (by rw [set2 hlen];rfl) rfl,by omega⟩
   ·refine PoS.hard0 Zj (Xv T Zz Zz Zz Zz Zz Zz ?_)
    (refine Yf Zz Zz ?_)
    refine PoS.hard0 Zj (YH T (pre:=[_,_,_]) (L:=YF) (j:=n) Zz Zz Zz rfl rfl Zz Yn (Yq hkw) hB Zi (fun cur1 hB1=>?_))
    (refine Yf Zz Zz ?_)
    refine PoS.hard Zj (DoesQ.does (YQ T Zz Zz Zz Zz Zz rfl Zi Zi ?_))
    (refine Yf Zz Zz ?_)
    refine PoS.hard0 Zj (YH T (pre:=[_,_,_]) (L:=YF) (j:=n+1) Zz Zz Zz rfl rfl Zz Yn (Yg hY) hB1 Zi (fun cur2 hB2=>?_))
    refine Po.done ?_
    ((repeat (first | refine zS ?_ | refine zA fun _=>?_)))
    exact Ya1 rfl (H':=[(gx,lsO _),(gk,.cells (List.toArray cur2) 64 (0,0))]) (Zb) ⟨rfl,Le.refl _,_,_,[_],rfl,hB2.grow.of (by rw [set2 hlen];rfl) rfl,by omega⟩
  ·refine PoS.hard0 Zj (Xv T Zz Zz Zz Zz Zz Zz ?_)
   (refine Yf Zz Zz ?_)
   refine PoS.hard Zj (DoesQ.does (YQ T Zz Zz Zz Zz Zz rfl Zi Zi ?_))
   (refine Yf Zz Zz ?_)
   refine PoS.hard0 Zj (YH T (pre:=[_,_,_]) (L:=YF) (j:=n) Zz Zz Zz rfl rfl Zz Yn (Yq hkw) hB Zi (fun cur1 hB1=>?_))
   (refine Yf Zz Zz ?_)
   refine PoS.hard Zj (DoesQ.does (YQ T Zz Zz Zz Zz Zz rfl Zi Zi ?_))
   (refine Yf Zz Zz ?_)
   refine PoS.hard0 Zj (YH T (pre:=[_,_,_]) (L:=YF) (j:=n+1) Zz Zz Zz rfl rfl Zz Yn (Yg hY) hB1 Zi (fun cur2 hB2=>?_))
   refine Po.done ?_
   ((repeat (first | refine zS ?_ | refine zA fun _=>?_)))
   exact Ya1 rfl (H':=[(gx,lsO _),(gk,.cells (List.toArray cur2) 64 (0,0))]) (Zb) ⟨rfl,Le.refl _,_,_,[_],rfl,hB2.grow.of (by rw [set2 hlen];rfl) rfl,by omega⟩
 ·(refine Yr (Yp (Yb Zz (Xi _ Zz Zz (fun g7=>?_)))))
  ((repeat (first | refine zS ?_ | refine zA fun _=>?_)))
  exact Ya1 rfl (H':=(gx,lsO _)::Hs) (Zb) ⟨rfl,Le.refl _,_,_,Hs,rfl,hG.of (by simp) rfl,by omega⟩
set_option maxHeartbeats 2000000 in
theorem Yfi {fz:FZ} {gx n m c:Nat} {B:Option Addr} {v:Value} {Hs:HP} {l ks:List Sexpr} {kw:ByteArray} (hG:Grow YF 64 fz v n Hs l) (hK:Sl YF fz B m c ks) (hkw:Short kw) (hn:n≤100000000000) (hm:m≤100000000000):
 GFn Tryz.prog 32 [.pointer (some ⟨gx,0,none⟩),.string kw,.slice B m c] fz ((gx,lsO v)::Hs) (PartR gx n (l++if ks=[] then [] else [Yv (Yd kw::ks)]) fz):=by
 have hlen:=hG.len
 obtain ⟨Av,cv,rfl,_,_⟩:=hG.form
 unfold lsO
 (refine GFn.of_wp Tryz.func32 rfl Tryz.ntmps32 rfl rfl (fun w0=>?_))
 ((repeat (first | refine zS ?_ | refine zA fun _=>?_)))
 ((refine zG ?_;refine zC (fun c0=>?_) (fun c0=>?_)))
 ·have hks:ks≠ []:=(WT hK.len).1 c0
  ((repeat (first | refine zS ?_ | refine zA fun _=>?_)))
  (refine Wp.drawP [15,16] (Hq:=[(gx,_)]) T.mixed Zj Zj (Zb) ?_)
  ((repeat (first | refine zS ?_ | refine zA fun _=>?_)))
  (((refine zG ?_));refine Yj Zz Zz (Wq (s:=kw)) ?_)
  (refine Yl ?_)
  ((repeat (first | refine zS ?_ | refine zA fun _=>?_)))
  (refine Yl ?_)
  (refine Yl ?_)
  ((repeat (first | refine zS ?_ | refine zA fun _=>?_)))
  (refine Yl ?_)
  (refine Yl ?_)
  (refine Yl ?_)
  (refine Yl ?_)
  (refine PK.p Zz (fun fz'=>by first | exact Yah Zz rfl | exact Wa Zz rfl | exact Xh T Zz Zz Zz Zz Zz Zz rfl | exact Yb5 Zz Zz (Xl Zi) rfl | exact Xg T Zz Zz Zz rfl) ?_)
  (refine PK.p Zz (fun fz'=>by first | exact Yah Zz rfl | exact Wa Zz rfl | exact Xh T Zz Zz Zz Zz Zz Zz rfl | exact Yb5 Zz Zz (Xl Zi) rfl | exact Xg T Zz Zz Zz rfl) ?_)
  (refine Yl ?_)
  (refine PK.done ⟨by kernel_rfl,?_⟩)
  (refine YV Zz Zz Zz ?_ ?_)
  ·refine Yh (Yc T (cs:=Ym kw) Zz Zz Zz Zz Zz Zz Zz Zz (fun gb1=>⟨(⟨Le.refl _,Zx⟩),?_⟩))
   (refine YV Zz Zz Zz ?_ ?_)
   ·refine Yh (YaK T (n:=1) (l:=[Yd kw]) (Hr:=(gx,_)::Hs) (Hs:=[(gb1,_)]) Zz Zz Zz Zz Zz Zz Zz Zz (List.perm_append_singleton _ _).symm (Grow.block (ys:=[(Yd kw,Ym kw)]) rfl rfl (by simpa using Yq hkw) rfl Zh) Yn hK (by show _*72≤_;omega) Zi (fun v1 Hs1 hO1=>⟨(⟨Le.refl _,Zx⟩),?_⟩))
    obtain ⟨A1,c1,rfl,_,_⟩:=hO1.form
    (refine YV Zz Zz Zz ?_ ?_)
    ·refine PoS.qk (⟨Le.refl _,Zx⟩) (Yj Zz Zz Y6 ?_)
     unfold sxV
     (refine Yf Zz Zz ?_)
     refine Yh (Yc T (cs:=YaN) Zz Zz Zz Zz Zz Zz Zz Zz (fun gz=>⟨(⟨Le.refl _,Zx⟩),?_⟩))
     (refine Yf Zz Zz ?_)
     refine PoS.hard Zj (Does.freezeAll (H1:=(gz,_)::(gx,_)::Hs) (H2:=Hs1) (List.Perm.refl _) (fun fz2 hl2 hf2=>Y3 T (Hr:=[_,_]) Zz Zz Zz Zz Zz Zz Zz Zz (List.Perm.refl _) (hG.mono hl2) Yn (.head _) X8 (by show _*72≤_;omega) Zi (fun v' Hs' hO'=>?_)))
     obtain ⟨gk,cap,cur,rfl,rfl,hB⟩:=hO'.b Zi
     obtain ⟨A2,c2,he2,hsl⟩:=hO1.sl hl2 hf2 Zi
     injection he2 with e1 e2 e3
     subst e1 e3
     have hX:Xd fz2 (Yv (Yd kw::ks)) (.slice A1 (1+m) c1):=⟨YcO,Xp,Xp,Xp,Y0,hsl.is⟩
     (refine YV Zz Zz Zz ?_ ?_)
     ·refine PoS.hard Zj (DoesQ.does (YQ T Zz Zz Zz Zz Zz rfl Zi Zi ?_))
      (refine YV Zz Zz Zz ?_ ?_)
      ·refine PoS.hard0 Zj (YH T (pre:=[_,_]) (L:=YF) (j:=n) Zz Zz Zz rfl rfl Zz Yn (Yg (x:=Yv (Yd kw::ks)) hX) hB Zi (fun cur1 hB1=>?_))
       (refine Yf Zz Zz ?_)
       refine PoS.hard0 Zj (YT T Zz Zz Zz Zz Zz Zz ?_)
       refine Po.done ?_
       ((repeat (first | refine zS ?_ | refine zA fun _=>?_)))
       exact Ya1 rfl (H':=[(gx,lsO _),(gk,.cells (List.toArray cur1) 64 (0,0))]) (Zb) ⟨rfl,hl2,_,_,[_],rfl,hB1.grow.of (by rw [set1 hlen,if_neg hks]) rfl,by omega⟩
      ·refine PoS.hard0 Zj (YT T Zz Zz Zz Zz Zz Zz ?_)
       (refine Yf Zz Zz ?_)
       refine PoS.hard0 Zj (YH T (pre:=[_,_]) (L:=YF) (j:=n) Zz Zz Zz rfl rfl Zz Yn (Yg (x:=Yv (Yd kw::ks)) hX) hB Zi (fun cur1 hB1=>?_))
       refine Po.done ?_
       ((repeat (first | refine zS ?_ | refine zA fun _=>?_)))
       exact Ya1 rfl (H':=[(gx,lsO _),(gk,.cells (List.toArray cur1) 64 (0,0))]) (Zb) ⟨rfl,hl2,_,_,[_],rfl,hB1.grow.of (by rw [set1 hlen,if_neg hks]) rfl,by omega⟩
     ·refine PoS.hard0 Zj (YT T Zz Zz Zz Zz Zz Zz ?_)
      (refine Yf Zz Zz ?_)
      refine PoS.hard Zj (DoesQ.does (YQ T Zz Zz Zz Zz Zz rfl Zi Zi ?_))
      (refine Yf Zz Zz ?_)
      refine PoS.hard0 Zj (YH T (pre:=[_,_]) (L:=YF) (j:=n) Zz Zz Zz rfl rfl Zz Yn (Yg (x:=Yv (Yd kw::ks)) hX) hB Zi (fun cur1 hB1=>?_))
      refine Po.done ?_
      ((repeat (first | refine zS ?_ | refine zA fun _=>?_)))
      exact Ya1 rfl (H':=[(gx,lsO _),(gk,.cells (List.toArray cur1) 64 (0,0))]) (Zb) ⟨rfl,hl2,_,_,[_],rfl,hB1.grow.of (by rw [set1 hlen,if_neg hks]) rfl,by omega⟩
    ·refine Yh (Yc T (cs:=YaN) Zz Zz Zz Zz Zz Zz Zz Zz (fun gz=>⟨(⟨Le.refl _,Zx⟩),?_⟩))
     (refine Yf Zz Zz ?_)
     refine PoS.qk (⟨Le.refl _,Zx⟩) (Yj Zz Zz Y6 ?_)
     unfold sxV
     (refine Yf Zz Zz ?_)
     refine PoS.hard Zj (Does.freezeAll (H1:=(gz,_)::(gx,_)::Hs) (H2:=Hs1) (List.Perm.refl _) (fun fz2 hl2 hf2=>Y3 T (Hr:=[_,_]) Zz Zz Zz Zz Zz Zz Zz Zz (List.Perm.refl _) (hG.mono hl2) Yn (.head _) X8 (by show _*72≤_;omega) Zi (fun v' Hs' hO'=>?_)))
     obtain ⟨gk,cap,cur,rfl,rfl,hB⟩:=hO'.b Zi
     obtain ⟨A2,c2,he2,hsl⟩:=hO1.sl hl2 hf2 Zi
     injection he2 with e1 e2 e3
     subst e1 e3
     have hX:Xd fz2 (Yv (Yd kw::ks)) (.slice A1 (1+m) c1):=⟨YcO,Xp,Xp,Xp,Y0,hsl.is⟩
     (refine YV Zz Zz Zz ?_ ?_)
     ·refine PoS.hard Zj (DoesQ.does (YQ T Zz Zz Zz Zz Zz rfl Zi Zi ?_))
      (refine YV Zz Zz Zz ?_ ?_)
      ·refine PoS.hard0 Zj (YH T (pre:=[_,_]) (L:=YF) (j:=n) Zz Zz Zz rfl rfl Zz Yn (Yg (x:=Yv (Yd kw::ks)) hX) hB Zi (fun cur1 hB1=>?_))
       (refine Yf Zz Zz ?_)
       refine PoS.hard0 Zj (YT T Zz Zz Zz Zz Zz Zz ?_)
       refine Po.done ?_
       ((repeat (first | refine zS ?_ | refine zA fun _=>?_)))
       exact Ya1 rfl (H':=[(gx,lsO _),(gk,.cells (List.toArray cur1) 64 (0,0))]) (Zb) ⟨rfl,hl2,_,_,[_],rfl,hB1.grow.of (by rw [set1 hlen,if_neg hks]) rfl,by omega⟩
      ·refine PoS.hard0 Zj (YT T Zz Zz Zz Zz Zz Zz ?_)
       (refine Yf Zz Zz ?_)
       refine PoS.hard0 Zj (YH T (pre:=[_,_]) (L:=YF) (j:=n) Zz Zz Zz rfl rfl Zz Yn (Yg (x:=Yv (Yd kw::ks)) hX) hB Zi (fun cur1 hB1=>?_))
       refine Po.done ?_
       ((repeat (first | refine zS ?_ | refine zA fun _=>?_)))
       exact Ya1 rfl (H':=[(gx,lsO _),(gk,.cells (List.toArray cur1) 64 (0,0))]) (Zb) ⟨rfl,hl2,_,_,[_],rfl,hB1.grow.of (by rw [set1 hlen,if_neg hks]) rfl,by omega⟩
     ·refine PoS.hard0 Zj (YT T Zz Zz Zz Zz Zz Zz ?_)
      (refine Yf Zz Zz ?_)
      refine PoS.hard Zj (DoesQ.does (YQ T Zz Zz Zz Zz Zz rfl Zi Zi ?_))
      (refine Yf Zz Zz ?_)
      refine PoS.hard0 Zj (YH T (pre:=[_,_]) (L:=YF) (j:=n) Zz Zz Zz rfl rfl Zz Yn (Yg (x:=Yv (Yd kw::ks)) hX) hB Zi (fun cur1 hB1=>?_))
      refine Po.done ?_
      ((repeat (first | refine zS ?_ | refine zA fun _=>?_)))
      exact Ya1 rfl (H':=[(gx,lsO _),(gk,.cells (List.toArray cur1) 64 (0,0))]) (Zb) ⟨rfl,hl2,_,_,[_],rfl,hB1.grow.of (by rw [set1 hlen,if_neg hks]) rfl,by omega⟩
   ·refine Yh (Yc T (cs:=YaN) Zz Zz Zz Zz Zz Zz Zz Zz (fun gz=>⟨(⟨Le.refl _,Zx⟩),?_⟩))
    (refine Yf Zz Zz ?_)
    refine Yh (YaK T (n:=1) (l:=[Yd kw]) (Hr:=(gz,_)::(gx,_)::Hs) (Hs:=[(gb1,_)]) Zz Zz Zz Zz Zz Zz Zz Zz (List.Perm.cons _ (List.perm_append_singleton _ _).symm) (Grow.block (ys:=[(Yd kw,Ym kw)]) rfl rfl (by simpa using Yq hkw) rfl Zh) Yn hK (by show _*72≤_;omega) Zi (fun v1 Hs1 hO1=>⟨(⟨Le.refl _,Zx⟩),?_⟩))
    obtain ⟨A1,c1,rfl,_,_⟩:=hO1.form
    (refine Yf Zz Zz ?_)
    refine PoS.qk (⟨Le.refl _,Zx⟩) (Yj Zz Zz Y6 ?_)
    unfold sxV
    (refine Yf Zz Zz ?_)
    refine PoS.hard Zj (Does.freezeAll (H1:=(gz,_)::(gx,_)::Hs) (H2:=Hs1) (List.Perm.refl _) (fun fz2 hl2 hf2=>Y3 T (Hr:=[_,_]) Zz Zz Zz Zz Zz Zz Zz Zz (List.Perm.refl _) (hG.mono hl2) Yn (.head _) X8 (by show _*72≤_;omega) Zi (fun v' Hs' hO'=>?_)))
    obtain ⟨gk,cap,cur,rfl,rfl,hB⟩:=hO'.b Zi
    obtain ⟨A2,c2,he2,hsl⟩:=hO1.sl hl2 hf2 Zi
    injection he2 with e1 e2 e3
    subst e1 e3
    have hX:Xd fz2 (Yv (Yd kw::ks)) (.slice A1 (1+m) c1):=⟨YcO,Xp,Xp,Xp,Y0,hsl.is⟩
    (refine YV Zz Zz Zz ?_ ?_)
    ·refine PoS.hard Zj (DoesQ.does (YQ T Zz Zz Zz Zz Zz rfl Zi Zi ?_))
     (refine YV Zz Zz Zz ?_ ?_)
     ·refine PoS.hard0 Zj (YH T (pre:=[_,_]) (L:=YF) (j:=n) Zz Zz Zz rfl rfl Zz Yn (Yg (x:=Yv (Yd kw::ks)) hX) hB Zi (fun cur1 hB1=>?_))
      (refine Yf Zz Zz ?_)
      refine PoS.hard0 Zj (YT T Zz Zz Zz Zz Zz Zz ?_)
      refine Po.done ?_
      ((repeat (first | refine zS ?_ | refine zA fun _=>?_)))
      exact Ya1 rfl (H':=[(gx,lsO _),(gk,.cells (List.toArray cur1) 64 (0,0))]) (Zb) ⟨rfl,hl2,_,_,[_],rfl,hB1.grow.of (by rw [set1 hlen,if_neg hks]) rfl,by omega⟩
     ·refine PoS.hard0 Zj (YT T Zz Zz Zz Zz Zz Zz ?_)
      (refine Yf Zz Zz ?_)
      refine PoS.hard0 Zj (YH T (pre:=[_,_]) (L:=YF) (j:=n) Zz Zz Zz rfl rfl Zz Yn (Yg (x:=Yv (Yd kw::ks)) hX) hB Zi (fun cur1 hB1=>?_))
      refine Po.done ?_
      ((repeat (first | refine zS ?_ | refine zA fun _=>?_)))
      exact Ya1 rfl (H':=[(gx,lsO _),(gk,.cells (List.toArray cur1) 64 (0,0))]) (Zb) ⟨rfl,hl2,_,_,[_],rfl,hB1.grow.of (by rw [set1 hlen,if_neg hks]) rfl,by omega⟩
    ·refine PoS.hard0 Zj (YT T Zz Zz Zz Zz Zz Zz ?_)
     (refine Yf Zz Zz ?_)
     refine PoS.hard Zj (DoesQ.does (YQ T Zz Zz Zz Zz Zz rfl Zi Zi ?_))
     (refine Yf Zz Zz ?_)
     refine PoS.hard0 Zj (YH T (pre:=[_,_]) (L:=YF) (j:=n) Zz Zz Zz rfl rfl Zz Yn (Yg (x:=Yv (Yd kw::ks)) hX) hB Zi (fun cur1 hB1=>?_))
     refine Po.done ?_
     ((repeat (first | refine zS ?_ | refine zA fun _=>?_)))
     exact Ya1 rfl (H':=[(gx,lsO _),(gk,.cells (List.toArray cur1) 64 (0,0))]) (Zb) ⟨rfl,hl2,_,_,[_],rfl,hB1.grow.of (by rw [set1 hlen,if_neg hks]) rfl,by omega⟩
  ·refine Yh (Yc T (cs:=YaN) Zz Zz Zz Zz Zz Zz Zz Zz (fun gz=>⟨(⟨Le.refl _,Zx⟩),?_⟩))
   (refine Yf Zz Zz ?_)
   refine Yh (Yc T (cs:=Ym kw) Zz Zz Zz Zz Zz Zz Zz Zz (fun gb1=>⟨(⟨Le.refl _,Zx⟩),?_⟩))
   (refine Yf Zz Zz ?_)
   refine Yh (YaK T (n:=1) (l:=[Yd kw]) (Hr:=(gz,_)::(gx,_)::Hs) (Hs:=[(gb1,_)]) Zz Zz Zz Zz Zz Zz Zz Zz (List.perm_append_singleton _ _).symm (Grow.block (ys:=[(Yd kw,Ym kw)]) rfl rfl (by simpa using Yq hkw) rfl Zh) Yn hK (by show _*72≤_;omega) Zi (fun v1 Hs1 hO1=>⟨(⟨Le.refl _,Zx⟩),?_⟩))
   obtain ⟨A1,c1,rfl,_,_⟩:=hO1.form
   (refine Yf Zz Zz ?_)
   refine PoS.qk (⟨Le.refl _,Zx⟩) (Yj Zz Zz Y6 ?_)
   unfold sxV
   (refine Yf Zz Zz ?_)
   refine PoS.hard Zj (Does.freezeAll (H1:=(gz,_)::(gx,_)::Hs) (H2:=Hs1) (List.Perm.refl _) (fun fz2 hl2 hf2=>Y3 T (Hr:=[_,_]) Zz Zz Zz Zz Zz Zz Zz Zz (List.Perm.refl _) (hG.mono hl2) Yn (.head _) X8 (by show _*72≤_;omega) Zi (fun v' Hs' hO'=>?_)))
   obtain ⟨gk,cap,cur,rfl,rfl,hB⟩:=hO'.b Zi
   obtain ⟨A2,c2,he2,hsl⟩:=hO1.sl hl2 hf2 Zi
   injection he2 with e1 e2 e3
   subst e1 e3
   have hX:Xd fz2 (Yv (Yd kw::ks)) (.slice A1 (1+m) c1):=⟨YcO,Xp,Xp,Xp,Y0,hsl.is⟩
   (refine YV Zz Zz Zz ?_ ?_)
   ·refine PoS.hard Zj (DoesQ.does (YQ T Zz Zz Zz Zz Zz rfl Zi Zi ?_))
    (refine YV Zz Zz Zz ?_ ?_)
    ·refine PoS.hard0 Zj (YH T (pre:=[_,_]) (L:=YF) (j:=n) Zz Zz Zz rfl rfl Zz Yn (Yg (x:=Yv (Yd kw::ks)) hX) hB Zi (fun cur1 hB1=>?_))
     (refine Yf Zz Zz ?_)
     refine PoS.hard0 Zj (YT T Zz Zz Zz Zz Zz Zz ?_)
     refine Po.done ?_
     ((repeat (first | refine zS ?_ | refine zA fun _=>?_)))
     exact Ya1 rfl (H':=[(gx,lsO _),(gk,.cells (List.toArray cur1) 64 (0,0))]) (Zb) ⟨rfl,hl2,_,_,[_],rfl,hB1.grow.of (by rw [set1 hlen,if_neg hks]) rfl,by omega⟩
    ·refine PoS.hard0 Zj (YT T Zz Zz Zz Zz Zz Zz ?_)
     (refine Yf Zz Zz ?_)
     refine PoS.hard0 Zj (YH T (pre:=[_,_]) (L:=YF) (j:=n) Zz Zz Zz rfl rfl Zz Yn (Yg (x:=Yv (Yd kw::ks)) hX) hB Zi (fun cur1 hB1=>?_))
     refine Po.done ?_
     ((repeat (first | refine zS ?_ | refine zA fun _=>?_)))
     exact Ya1 rfl (H':=[(gx,lsO _),(gk,.cells (List.toArray cur1) 64 (0,0))]) (Zb) ⟨rfl,hl2,_,_,[_],rfl,hB1.grow.of (by rw [set1 hlen,if_neg hks]) rfl,by omega⟩
   ·refine PoS.hard0 Zj (YT T Zz Zz Zz Zz Zz Zz ?_)
    (refine Yf Zz Zz ?_)
    refine PoS.hard Zj (DoesQ.does (YQ T Zz Zz Zz Zz Zz rfl Zi Zi ?_))
    (refine Yf Zz Zz ?_)
    refine PoS.hard0 Zj (YH T (pre:=[_,_]) (L:=YF) (j:=n) Zz Zz Zz rfl rfl Zz Yn (Yg (x:=Yv (Yd kw::ks)) hX) hB Zi (fun cur1 hB1=>?_))
    refine Po.done ?_
    ((repeat (first | refine zS ?_ | refine zA fun _=>?_)))
    exact Ya1 rfl (H':=[(gx,lsO _),(gk,.cells (List.toArray cur1) 64 (0,0))]) (Zb) ⟨rfl,hl2,_,_,[_],rfl,hB1.grow.of (by rw [set1 hlen,if_neg hks]) rfl,by omega⟩
 ·have hks:ks=[]:=Classical.byContradiction fun h0=>c0 ((WT hK.len).2 h0)
  ((repeat (first | refine zS ?_ | refine zA fun _=>?_)))
  exact Ya1 rfl (H':=(gx,lsO _)::Hs) (Zb) ⟨rfl,Le.refl _,_,_,Hs,rfl,hG.of (by rw [if_pos hks,List.append_nil]) rfl,by omega⟩
end Go.Proofs.YtbhlgkibgajajaaGreatDoor
set_option maxRecDepth 20000
namespace Go.Proofs.YtbhlgkibgajajaaGreatDoor
open Go.Lx Go.RowKit
attribute [local instance 10] Classical.propDecidable
theorem true9_q {fz:FZ} {f:Formula} {va vp ve vk:Value} (h:FormulaR fz f va vp ve vk):
 QFn Tryz.prog 83 [.agg #[.string f.op,.string f.name,va,vp,ve,vk]] fz (.bool (decide (f.op=kAnd∧f.kids=[]))):=by
 obtain ⟨D,q,cq,rfl,hk⟩:=h.kids
 refine GFn.quiet ?_
 (refine GFn.of_wp Tryz.func83 rfl Tryz.ntmps83 rfl rfl (fun w0=>?_))
 (refine Yr (Yp (Yb Zz (Xi _ Zz Zz (fun g0=>?_)))))
 ((repeat (first | refine zS ?_ | refine zA fun _=>?_)))
 ((((refine zG ?_;refine zC (fun n1=>?_) (fun n1=>?_)));rotate_left 1;(((repeat (first | refine zS ?_ | refine zA fun _=>?_)));(exact ret1 rfl rfl (Zb) (Ya (fun h=>n1 h.1))));((repeat (first | refine zS ?_ | refine zA fun _=>?_)))))
 ((((refine zG ?_;refine zC (fun n2=>?_) (fun n2=>?_)));rotate_left 1;(((repeat (first | refine zS ?_ | refine zA fun _=>?_)));(exact ret1 rfl rfl (Zb) (Ya (fun h=>n2 ((len0 hk.len).2 h.2)))));((repeat (first | refine zS ?_ | refine zA fun _=>?_)))))
 (exact ret1 rfl rfl (Zb) (Yw ⟨n1,(len0 hk.len).1 n2⟩))
end Go.Proofs.YtbhlgkibgajajaaGreatDoor
set_option maxRecDepth 20000
namespace Go.Proofs.YtbhlgkibgajajaaGreatDoor
open Go.Lx Go.RowKit
attribute [local instance 10] Classical.propDecidable
def atomF (name:ByteArray) (args:List ByteArray):Formula:=.mk kAtom name args [] [] []
end Go.Proofs.YtbhlgkibgajajaaGreatDoor
