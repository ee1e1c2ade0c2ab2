/- The texts PWalkG, PText, PBuild, RC, PWalkH, PWalkI, RD, RE, laid together. Conditions: none. -/
import Derived.Test.YtfjopfinkdhmaaaGreatDoorRYG
import Derived.Lib.AppendStr
import Derived.Lib.UnsafeStr
import Derived.Lib.Join
import Derived.Lib.ItoaNum
import Derived.Lib.ItoaMem
import Derived.Lib.Repeat
import Derived.Laws.StandIn
import Derived.Lib.Bytealg
set_option linter.all false
noncomputable section
set_option maxRecDepth 20000
namespace Go.Proofs.YtfjopfinkdhmaaaGreatDoor
open Go.Lx Go.RowKit
attribute [local instance 10] Classical.propDecidable
open Go.Proofs.Tryz (prog)
theorem XG {b:UInt8}:∀ {l:List UInt8},0≤Lib.indexByte l b↔b∈l
 | []=>by simp [Lib.indexByte]
 | x::r=>by
  have ih:=XG (b:=b) (l:=r)
  simp only [Lib.indexByte,List.mem_cons]
  split
  ·rename_i h
   have:x=b:=by simpa using h
   simp [this]
  ·rename_i h
   have hx:¬b=x:=by
    intro h0;subst h0;simp at h
   simp only [hx,false_or]
   split
   ·rename_i h1
    rw [← ih,eq_of_beq h1]
   ·rename_i h1
    have h2:Lib.indexByte r b≠ -1:=by simpa using h1
    have:=Lib.indexByte_ge r b
    rw [← ih];omega
variable {fz:FZ}
theorem sibs_q {s:Bs} {n:Int}:QFn prog 206 [.string s,.int .u8 n] fz (.int .i64 (Lib.indexByte s.data.toList n.toNat.toUInt8)):=by
 refine GFn.quiet ?_
 refine zF Tryz.func206 Tryz.ntmps206 (fun w0=>?_)
 refine zW ?_;intros
 refine Seq.q rfl (DoesQ.of (v:=.int .i64 (Lib.indexByte s.data.toList n.toNat.toUInt8)) ?_ fun ρ w hr hi=>?_)
 ·refine zW ?_;intros
  exact zR (h:=rfl)
 ·have h5:ρ (.tmp 5)=.string s:=hr _ _ rfl
  have h6:ρ (.tmp 6)=.int .u8 n:=hr _ _ rfl
  have h7:ρ (.func 235)=.func (.func 235) #[] #[]:=hr _ _ rfl
  have hrun:=run_callFunc_indexByte (P:=prog) Tryz.func235 Zj rfl (by rfl) (by rfl) #[.string s,.int .u8 n] w
  rw [Lib.run_indexByteString] at hrun
  simp only [execOp,resolve,Deferred.ofValue,invoke,List.map_toArray,List.map_cons,List.map_nil,h5,h6,h7,Sem.run_bind,Sem.run_pure,Result.andThen_ok] at hrun ⊢
  simp only [Array.empty_append,Array.append_empty]
  rw [hrun]
  exact ⟨rfl,Fr.refl _ _⟩
theorem ibs_q {s:Bs} {n:Int}:QFn prog 177 [.string s,.int .u8 n] fz (.int .i64 (Lib.indexByte s.data.toList n.toNat.toUInt8)):=by
 refine GFn.quiet ?_
 refine zF Tryz.func177 Tryz.ntmps177 (fun w0=>?_)
 refine zW ?_;intros
 refine zc sibs_q ?_
 refine zW ?_;intros
 exact zR (h:=rfl)
def UpC (n:Int):Prop:=65≤n∧n≤90
def SymL:List UInt8:=[45,95,63,58,60,62,61,43,42]
def LowC (b:UInt8):Prop:=LetP b.toNat∨DigP b.toNat∨b∈SymL
def AnyC (b:UInt8):Prop:=UpC b.toNat∨LowC b
def lowB (b:UInt8):UInt8:=if UpC b.toNat then b+32 else b
def lowS (s:Bs):Bs:=⟨(s.data.toList.map lowB).toArray⟩
def LowP (s:Bs):Prop:=s≠WO∧s.size≤32∧∀ b∈s.data.toList,AnyC b
theorem Yf7 {n:Int} (h:0≤n∧n≤255):IntKind.u8.wrap n=n:=by
 simp only [IntKind.wrap,IntKind.signed,IntKind.bits];simp;omega
theorem byteV_up {b:UInt8} (h:UpC b.toNat):Value.int .u8 ((b.toNat:Int)+97 - 65)=Ybn (lowB b):=by
 unfold UpC at h
 have h2:(b+32).toNat=b.toNat+32:=by rw [UInt8.toNat_add];simp;omega
 unfold Ybn lowB UpC
 rw [if_pos h,h2]
 congr 1
 omega
theorem XA {s:Bs}:s.data.toList.length=s.size:=by rw [Array.length_toList];rfl
theorem Ydd {s:Bs} {k:Nat} (h:k<s.size):s.data.toList[k]?=some s[k]:=by
 rw [List.getElem?_eq_getElem (by rw [XA];exact h)]
 rfl
theorem set_mid {α:Type} {f:α→α} {l:List α} {k:Nat} {x:α} (h:l[k]?=some x):((l.take k).map f++l.drop k).set k (f x)=(l.take (k+1)).map f++l.drop (k+1):=by
 have hk:k<l.length:=(Zg h).1
 have hl:((l.take k).map f).length=k:=by simp;omega
 rw [List.set_append_right _ _ Zi,hl,Nat.sub_self,List.take_add_one,h]
 have:l.drop k=x::l.drop (k+1):=by
  rw [List.drop_eq_getElem_cons hk]
  rw [List.getElem?_eq_getElem hk] at h
  cases h;rfl
 rw [this]
 simp
theorem YaF {α:Type} {f:α→α} {l:List α} {k:Nat} {x:α} (h:l[k]?=some x) (hf:f x=x):(l.take k).map f++l.drop k=(l.take (k+1)).map f++l.drop (k+1):=by
 rw [← set_mid h,hf]
 have hk:k<l.length:=(Zg h).1
 apply List.ext_getElem?
 intro i
 rw [List.getElem?_set]
 split
 ·rename_i he
  subst he
  have hl:((l.take k).map f).length=k:=by simp;omega
  rw [if_pos (by simp;omega),List.getElem?_append_right Zi,hl,Nat.sub_self,List.getElem?_drop,Nat.add_zero,h]
 ·rfl
theorem Ygx {α:Type} {f:α→α} {l:List α} {k:Nat} {x:α} (h:l[k]?=some x):((l.take k).map f++l.drop k)[k]?=some x:=by
 have hk:k<l.length:=(Zg h).1
 have hl:((l.take k).map f).length=k:=by simp;omega
 rw [List.getElem?_append_right Zi,hl,Nat.sub_self,List.getElem?_drop,Nat.add_zero,h]
theorem Ybf {α:Type} {p:α→Prop} {l:List α} {k:Nat} {x:α} (h:∀ b∈l.take k,p b) (hx:l[k]?=some x) (hp:p x):∀ b∈l.take (k+1),p b:=by
 rw [List.take_add_one,hx]
 intro b hb
 rcases List.mem_append.1 hb with hb | hb
 ·exact h b hb
 ·simp at hb;subst hb;exact hp
theorem YbN {b:UInt8} (h:¬UpC b.toNat):lowB b=b:=if_neg h
theorem YcT {b:UInt8}:((b.toNat:Int).toNat).toUInt8=b:=by simp [Nat.toUInt8]
set_option maxHeartbeats 1000000 in
theorem YiF {s:Bs}:QFn prog 137 [.string s] fz (.tuple #[.string (if LowP s then lowS s else WO),.bool (decide (LowP s))]):=by
 refine GFn.quiet ?_
 have no:¬LowP s→Value.tuple #[.string WO,.bool false]=.tuple #[.string (if LowP s then lowS s else WO),.bool (decide (LowP s))]:=fun h=>by rw [if_neg h,decide_eq_false h]
 refine zF Tryz.func137 Tryz.ntmps137 (fun w0=>?_)
 refine zW ?_;intros
 refine zC (fun c1=>?_) (fun c1=>?_)
 ·refine zW ?_;intros
  exact ret2 rfl rfl rfl Zb (no (fun h=>h.1 c1))
 ·refine zW ?_;intros
  refine zC (fun c2=>?_) (fun c2=>?_)
  ·refine zW ?_;intros
   exact ret2 rfl rfl rfl Zb (no (fun h=>by have:=h.2.1;omega))
  ·refine zW ?_;intros
   refine Ya Zz (YlT T Zz Zz Zz Zz Zz Zz Zz (fun g k0=>?_))
   have hz:s.size≤32:=by omega
   refine zW ?_;intros
   refine Yl (fun q σ fz' H'=>∃ k:Nat,k≤s.size∧q=s.size - k∧σ=[(18,.int .i64 k),(17,.int .i64 s.size),(16,.slice (some ⟨g,0,none⟩) s.size (s.size+k0)),(4,.slice (some ⟨g,0,none⟩) s.size (s.size+k0))]∧fz=fz'∧
    H'=[(g,Ybe 5 ((s.data.toList.take k).map lowB++s.data.toList.drop k) k0)]∧(∀ b∈s.data.toList.take k,AnyC b)) ⟨0,Z0 _,rfl,rfl,rfl,rfl,by simp⟩ Zw Zb ?_
   rintro q σ fz' H' ⟨k,hk,rfl,rfl,rfl,rfl,hh⟩
   have hlen:((s.data.toList.take k).map lowB++s.data.toList.drop k).length=s.size:=by
    have:=XA (s:=s)
    simp only [List.length_append,List.length_map,List.length_take,List.length_drop];omega
   refine zW ?_;intros
   refine zC (fun c3=>?_) (fun c3=>?_)
   ·obtain ⟨b,hb⟩:∃ b,s.data.toList[k]?=some b:=⟨_,Ydd Zi⟩
    have hlt:=b.toNat_lt
    have bad:¬AnyC b→¬LowP s:=fun h0 h1=>h0 (h1.2.2 b (Zm hb))
    refine zW ?_;intros
    refine zG ?_;refine Y9 T Zz Zz Zz Zz Zz Zz Zi Zi ?_
    refine zG ?_;refine YbK T 0 Zz Zz Zz Zz (Ygx hb) ?_
    refine zW ?_;intros
    refine zC (fun d1=>?_) (fun d1=>?_)
    ·refine zW ?_;intros
     refine zC (fun d2=>?_) (fun d2=>?_)
     ·refine zW ?_;intros
      refine zG ?_;refine Yaf Zz Zz (Yf7 Zi) ?_
      refine zG ?_;refine q_sub Zz Zz (Yf7 Zi) ?_
      refine zG ?_;refine Y9 T Zz Zz Zz Zz Zz Zz Zi Zi ?_
      refine YE (YdZ T (pre:=[]) Zz Zz (congrArg some (byteV_up ⟨d1,d2⟩)) rfl Zz (by rw [hlen];exact (by omega:k<s.size)) ?_)
      refine zW ?_;intros
      exact Yz ⟨k+1,by omega,rfl,rfl,rfl,by rw [← set_mid hb],Ybf hh hb (.inl ⟨d1,d2⟩)⟩ Zi Zw Zb
     ·have nu:¬UpC b.toNat:=fun h0=>d2 h0.2
      refine zW ?_;intros
      refine zC (fun d3=>?_) (fun d3=>?_)
      ·refine zW ?_;intros
       refine zC (fun d4=>?_) (fun d4=>?_)
       ·refine zW ?_;intros
        exact Yz ⟨k+1,by omega,rfl,rfl,rfl,by rw [← YaF hb (YbN nu)],Ybf hh hb (.inr (.inl ⟨d3,d4⟩))⟩ Zi Zw Zb
       ·have nl:¬LetP b.toNat:=fun h0=>d4 h0.2
        refine zW ?_;intros
        refine zb (YgN (n:=b.toNat)) (fun f1=>?_) (fun f1=>?_)
        ·refine zW ?_;intros
         exact Yz ⟨k+1,by omega,rfl,rfl,rfl,by rw [← YaF hb (YbN nu)],Ybf hh hb (.inr (.inr (.inl (Zt f1))))⟩ Zi Zw Zb
        ·refine zW ?_;intros
         refine zc (ibs_q (n:=b.toNat)) ?_
         refine zC (fun e1=>?_) (fun e1=>?_)
         ·refine zW ?_;intros
          exact Yz ⟨k+1,by omega,rfl,rfl,rfl,by rw [← YaF hb (YbN nu)],Ybf hh hb (.inr (.inr (.inr (by rw [XG,YcT] at e1;exact e1))))⟩ Zi Zw Zb
         ·refine zW ?_;intros
          exact ret2 rfl rfl rfl Zb (no (bad (fun h0=>by
           rcases h0 with h0 | h0 | h0 | h0
           ·exact nu h0
           ·exact nl h0
           ·exact Zf f1 h0
           ·exact e1 (XG.2 (by rw [YcT];exact h0)))))
      ·have nl:¬LetP b.toNat:=fun h0=>d3 h0.1
       refine zW ?_;intros
       refine zb (YgN (n:=b.toNat)) (fun f1=>?_) (fun f1=>?_)
       ·refine zW ?_;intros
        exact Yz ⟨k+1,by omega,rfl,rfl,rfl,by rw [← YaF hb (YbN nu)],Ybf hh hb (.inr (.inr (.inl (Zt f1))))⟩ Zi Zw Zb
       ·refine zW ?_;intros
        refine zc (ibs_q (n:=b.toNat)) ?_
        refine zC (fun e1=>?_) (fun e1=>?_)
        ·refine zW ?_;intros
         exact Yz ⟨k+1,by omega,rfl,rfl,rfl,by rw [← YaF hb (YbN nu)],Ybf hh hb (.inr (.inr (.inr (by rw [XG,YcT] at e1;exact e1))))⟩ Zi Zw Zb
        ·refine zW ?_;intros
         exact ret2 rfl rfl rfl Zb (no (bad (fun h0=>by
          rcases h0 with h0 | h0 | h0 | h0
          ·exact nu h0
          ·exact nl h0
          ·exact Zf f1 h0
          ·exact e1 (XG.2 (by rw [YcT];exact h0)))))
    ·have nu:¬UpC b.toNat:=fun h0=>d1 h0.1
     refine zW ?_;intros
     refine zC (fun d3=>?_) (fun d3=>?_)
     ·exact absurd d3 Zi
     ·have nl:¬LetP b.toNat:=fun h0=>d3 h0.1
      refine zW ?_;intros
      refine zb (YgN (n:=b.toNat)) (fun f1=>?_) (fun f1=>?_)
      ·refine zW ?_;intros
       exact Yz ⟨k+1,by omega,rfl,rfl,rfl,by rw [← YaF hb (YbN nu)],Ybf hh hb (.inr (.inr (.inl (Zt f1))))⟩ Zi Zw Zb
      ·refine zW ?_;intros
       refine zc (ibs_q (n:=b.toNat)) ?_
       refine zC (fun e1=>?_) (fun e1=>?_)
       ·refine zW ?_;intros
        exact Yz ⟨k+1,by omega,rfl,rfl,rfl,by rw [← YaF hb (YbN nu)],Ybf hh hb (.inr (.inr (.inr (by rw [XG,YcT] at e1;exact e1))))⟩ Zi Zw Zb
       ·refine zW ?_;intros
        exact ret2 rfl rfl rfl Zb (no (bad (fun h0=>by
         rcases h0 with h0 | h0 | h0 | h0
         ·exact nu h0
         ·exact nl h0
         ·exact Zf f1 h0
         ·exact e1 (XG.2 (by rw [YcT];exact h0)))))
   ·rw [show s.data.toList.take k=s.data.toList from Zl (by rw [XA];omega),show s.data.toList.drop k=[] from List.drop_eq_nil_of_le (by rw [XA];omega),List.append_nil] at*
    have hP:LowP s:=⟨c1,by omega,hh⟩
    refine zW ?_;intros
    refine zG ?_;refine Yey T 0 Zz Zz Zz Zz Zz Zz Zz Zz hlen ?_
    refine zW ?_;intros
    exact ret2 rfl rfl rfl Zb (by rw [if_pos hP,decide_eq_true hP];rfl)
end Go.Proofs.YtfjopfinkdhmaaaGreatDoor
namespace Go.Lx
open Go
def strOf (l:List UInt8):Bs:=⟨l.toArray⟩
theorem Wo (l:List UInt8):(strOf l).size=l.length:=by simp [strOf,ByteArray.size]
theorem Yds (l:List UInt8):(strOf l).data.toList=l:=by simp [strOf]
theorem Yg9 (a b:List UInt8):strOf a++strOf b=strOf (a++b):=by
 apply ByteArray.ext
 simp [strOf,ByteArray.data_append]
theorem strOf_of (s:Bs):strOf s.data.toList=s:=by
 apply ByteArray.ext
 simp [strOf]
mutual
/-- the text in one line -/
def txt:Sexpr→List UInt8
 | .mk k v _ _ t ks=>if k=1 then t.data.toList else if k=2 then Lib.itoa v else 40::(Lib.join (txtL ks) [32]++ [41])
def txtL:List Sexpr→List (List UInt8)
 | []=>[]
 | x::r=>txt x::txtL r
end
theorem Yjj (l:List Sexpr):txtL l=l.map txt:=by
 induction l with
 | nil=>simp [txtL]
 | cons a r ih=>simp [txtL,ih]
theorem txt_eq (x:Sexpr):txt x=if x.kind=1 then x.text.data.toList else if x.kind=2 then Lib.itoa x.value else 40::(Lib.join (x.kids.map txt) [32]++ [41]):=by
 cases x;rw [txt,Yjj];rfl
mutual
/-- the text in lines -/
def lay (w:Nat):Sexpr→Nat→List UInt8
 | .mk k v l c t ks,i=>if k≠3∨ks.length=0∨i+(txt (.mk k v l c t ks)).length≤w then txt (.mk k v l c t ks) else 40::(layH w ks i++ [41])
def layH (w:Nat):List Sexpr→Nat→List UInt8
 | [],_=>[]
 | x::r,i=>lay w x (i+1)++layT w r (i+2)
def layT (w:Nat):List Sexpr→Nat→List UInt8
 | [],_=>[]
 | x::r,i=>(10::(List.replicate i 32++lay w x i))++layT w r i
end
variable {i:Nat}
theorem Yeg {w:Nat} {x:Sexpr} (h:x.kind≠3∨x.kids.length=0∨i+(txt x).length≤w):lay w x i=txt x:=by
 cases x;rw [lay];exact if_pos h
theorem lay_long {w:Nat} {x:Sexpr} (h:¬(x.kind≠3∨x.kids.length=0∨i+(txt x).length≤w)):lay w x i=40::(layH w x.kids i++ [41]):=by
 cases x;rw [lay];exact if_neg h
theorem YiH {w:Nat} {l m:List Sexpr}:layT w (l++m) i=layT w l i++layT w m i:=by
 induction l with
 | nil=>simp [layT]
 | cons a r ih=>simp only [List.cons_append,layT,ih,List.append_assoc]
theorem YlR {w k:Nat} {l:List Sexpr} {x:Sexpr} (hx:l[k]?=some x):layT w (l.take (k+1)) i=layT w (l.take k) i++(10::(List.replicate i 32++lay w x i)):=by
 rw [List.take_add_one,hx];simp only [Option.toList];rw [YiH];simp [layT]
def XSm (x:Sexpr):Prop:=(x.kind=1→x.text.size≤32)∧(x.kind=2→Ya3 x.value)
theorem YgO {u k:Nat} (h:u<10 ^ (k+1)):(Lib.decDigits u).length≤k+1:=by
 induction k generalizing u with
 | zero=>rw [Lib.decDigits,dif_pos (by simpa using h)];simp
 | succ k ih=>
  by_cases h0:u<10
  ·rw [Lib.decDigits,dif_pos h0];simp
  ·have:=ih (u:=u / 10) (by rw [Nat.pow_succ] at h;omega)
   rw [Lib.decDigits,dif_neg h0,List.length_append]
   simp;omega
theorem itoa_len {n:Int} (h:Ya3 n):(Lib.itoa n).length≤14:=by
 unfold Ya3 at h
 have h1:∀ u:Nat,u≤1099511627776→(Lib.decDigits u).length≤13:=fun u hu=>YgO (k:=12) Zi
 unfold Lib.itoa
 split
 ·have:=h1 n.natAbs Zi;simp;omega
 ·have:=h1 n.toNat Zi;omega
theorem join_len {l:List (List UInt8)}:(Lib.join l [32]).length≤(l.map fun t=>t.length+1).sum:=by
 cases l with
 | nil=>simp [Lib.join_nil]
 | cons x r=>
  rw [Lib.join_cons,List.length_append,Lib.joinTail_length]
  have:Lib.lens r+r.length=(r.map fun t=>t.length+1).sum:=by
   induction r with
   | nil=>simp [Lib.lens]
   | cons a r ih=>simp only [Lib.lens,List.map_cons,List.sum_cons,List.length_cons] at ih ⊢;omega
  simp only [List.map_cons,List.sum_cons,List.length_cons,List.length_nil] at this ⊢
  omega
mutual
theorem txt_len:∀ {x:Sexpr},XAll XSm x→(txt x).length+4≤36*xcount x
 | .mk k v l c t ks,h=>by
  rw [XAll] at h
  have hs:=txtL_len h.2
  rw [txt,xcount]
  have h1:=h.1
  unfold XSm at h1
  split
  ·rename_i hk
   have:=h1.1 hk
   have e:t.data.toList.length=t.size:=by rw [Array.length_toList];rfl
   simp only [Sexpr.text] at this
   omega
  ·split
   ·rename_i hk
    have:=itoa_len (h1.2 hk)
    simp only [Sexpr.value] at this
    omega
   ·have:=join_len (l:=txtL ks)
    simp only [List.length_cons,List.length_append,List.length_nil]
    omega
theorem txtL_len:∀ {l:List Sexpr},XAllL XSm l→((txtL l).map fun t=>t.length+1).sum≤36*xcountL l
 | [],_=>by simp [txtL]
 | x::r,h=>by
  rw [XAllL] at h
  have h1:=txt_len h.1
  have h2:=txtL_len h.2
  simp only [txtL,List.map_cons,List.sum_cons,xcountL]
  omega
end
mutual
theorem lay_len {w M:Nat}:∀ {x:Sexpr} {i:Nat},XAll XSm x→i+2*xdepth x≤M→(lay w x i).length+M+3≤(M+36)*xcount x
 | .mk k v l c t ks,i,h,hM=>by
  have ht:=txt_len h
  have hc:1≤xcount (.mk k v l c t ks):=by rw [xcount];omega
  have hmul:(M+36)*xcount (.mk k v l c t ks)=M*xcount (.mk k v l c t ks)+36*xcount (.mk k v l c t ks):=Nat.add_mul _ _ _
  have hM1:M*1≤M*xcount (.mk k v l c t ks):=Nat.mul_le_mul_left _ hc
  rw [lay]
  split
  ·omega
  ·rename_i hn
   have hk:k=3:=Classical.byContradiction fun h0=>hn (.inl h0)
   rw [XAll] at h
   rw [xdepth,if_pos hk] at hM
   have:=layH_len (w:=w) (M:=M) (l:=ks) (i:=i) h.2 Zi
   rw [xcount,Nat.mul_add,Nat.mul_one]
   simp only [List.length_cons,List.length_append,List.length_nil]
   omega
theorem layH_len {w M:Nat}:∀ {l:List Sexpr} {i:Nat},XAllL XSm l→i+2+2*xdepthL l≤M→(layH w l i).length≤(M+36)*xcountL l
 | [],_,_,_=>by simp [layH]
 | x::r,i,h,hM=>by
  rw [XAllL] at h
  rw [xdepthL] at hM
  have h1:=lay_len (w:=w) (M:=M) (i:=i+1) h.1 Zi
  have h2:=layT_len (w:=w) (M:=M) (l:=r) (i:=i+2) h.2 Zi
  rw [layH,List.length_append,xcountL,Nat.mul_add]
  omega
theorem layT_len {w M:Nat}:∀ {l:List Sexpr} {i:Nat},XAllL XSm l→i+2*xdepthL l≤M→(layT w l i).length≤(M+36)*xcountL l
 | [],_,_,_=>by simp [layT]
 | x::r,i,h,hM=>by
  rw [XAllL] at h
  rw [xdepthL] at hM
  have h1:=lay_len (w:=w) (M:=M) (i:=i) h.1 Zi
  have h2:=layT_len (w:=w) (M:=M) (l:=r) (i:=i) h.2 Zi
  rw [layT,xcountL,Nat.mul_add]
  simp only [List.length_cons,List.length_append,List.length_replicate]
  omega
end
theorem Yhi (n:Nat):Lib.repeatL [32] n=List.replicate n 32:=by
 induction n with
 | zero=>rfl
 | succ n ih=>rw [Lib.repeatL,ih];rfl
end Go.Lx
namespace Go.Lx
open Go.RowKit
section
variable {P:Program}
theorem Yfo (w:World) (t u ty e:TypeId) (i:TypeInfo) (ht:P.underlying t=some (.slice e)) (hu:P.underlying u=some .string) (hi:P.info? e=some i) (hz:i.zero=some (.int .u8 0))
 (hsize:i.size=1) (hby:i.bytes=1) (v:Value) (n:Nat) (xs:List Value) (hown:w.ownsRow 0 e 1 v n xs) (s:Bs) (hm:n+s.size≤140737488355328):
 ∃ v' w',(Builtin.append_ #[t,u] ty #[v,.string s]).run P w=.ok v' w'∧w'.ownsRow 0 e 1 v' (n+s.size) (xs++s.data.toList.map Ybn)∧w.grownBy w' v.ownBlock∧(v'.ownBlock=v.ownBlock∨v'.ownBlock=some w.heap.size):=by
 obtain ⟨v',w',hr,h2,h3,h4⟩:=Go.Lib.run_append_own_string (P:=P) w 0 t u ty e i ht hu hi hz hsize hby v n xs hown s (by unfold maxLen;omega) hm (Z0 _)
 refine ⟨v',w',hr,h2,h3,?_⟩
 have hxl:xs.length=n:=by simpa using hown.1
 rcases hown.2 with ⟨h5,h6⟩ | ⟨g,cap,cur,h5,_,h7,h8,h9,h10,h11⟩
 ·subst h5 h6
  by_cases h0:s.size=0
  ·left;rw [h4.2 ⟨rfl,h0⟩]
  ·right
   have hr2:=run_append_nil_string (P:=P) w t u ty e i (.int .u8 0) ht hu hi hz s Zi Zi (by rw [hby];omega)
   rw [hr] at hr2
   injection hr2 with e1 _
   rw [e1];rfl
 ·subst h5
  by_cases hroom:n+s.size≤cap
  ·left
   have hr2:=Go.Lib.run_append_room_string (P:=P) w t u ty e i ht hu hi hsize g n cap cur h7 s hroom (by simp at h10;omega)
   rw [hr] at hr2
   injection hr2 with e1 _
   rw [e1];rfl
  ·right
   have hr2:=Go.Lib.run_append_grow_string (P:=P) w t u ty e i (.int .u8 0) ht hu hi hz ⟨g,0,none⟩ n cap xs (by rw [hsize];omega) (hown.cells (g:=g) rfl) s Zi Zi (by rw [hby];exact growslice_fits Zi Zi)
   rw [hr] at hr2
   injection hr2 with e1 _
   rw [e1];rfl
end
section
variable {P:Program} {cx:Cx} {r:Operand→Option Value} {fz:FZ} {H:HP} {V:Value→Prop} {dst:Option Nat} {ty:TypeId} {pos:String} {af:Array Edge} {gd:Option (Nat × Bool)}
variable {Hr Hs:HP} {X Y:Ty} {n:Nat} {t:TypeId} {v:Value} {y:Operand}
theorem YiK (T:Tab P) {u e:TypeId} {x:Operand} {U:Ty} {xs:List Value} {s:Bs} {K:Value→FZ→HP→Prop} (hT:T.inf t=some X) (hd:X.desc=.slice e) (hU:T.inf u=some U) (hUd:U.desc=.string) (hY:T.inf e=some Y) (hz:Y.zero=.int .u8 0) (hsz:Y.size=1) (hby:Y.bytes=1)
 (hx:r x=some v) (hy:r y=some (.string s)) (hp:H.Perm (Hr++Hs)) (ho:OwnS e 1 v n xs Hs) (hm:n+s.size≤140737488355328)
 (h:∀ v' Hs',OwnS e 1 v' (n+s.size) (xs++s.data.toList.map Ybn) Hs'→K v' fz (Hr++Hs')):
 Does P cx ⟨dst,.call {callee:=.builtin .append,args:=#[x,y],argTypes:=#[t,u]},ty,pos,af,gd⟩ r fz H K:=by
 refine Does.of fun ρ w hr hi=>?_
 have hi':=hi.perm hp.symm
 obtain ⟨i,hinf,g1,g2,g3⟩:=(T.ok_ hY).info
 rw [hz] at g3
 rw [hsz] at g1
 rw [hby] at g2
 have hown:=ho.owns hi'
 obtain ⟨v',w',hrun,h2,h3,h5⟩:=Yfo (P:=P) w t u ty e i (und_plain T hT hd rfl) (und_plain T hU hUd rfl) hinf g3 g1 g2 v n xs hown s hm
 obtain ⟨Hs',h6,h7⟩:=OwnS.of_owns h2
 have hexec:(execOp ρ ⟨dst,.call {callee:=.builtin .append,args:=#[x,y],argTypes:=#[t,u]},ty,pos,af,gd⟩).run P w=.ok (.value v') w':=by
  simp only [execOp,resolve,invoke,builtin,Sem.run_bind,Sem.run_pure,Result.andThen_ok,List.map_toArray,List.map_cons,List.map_nil,hr _ _ hx,hr _ _ hy,hrun]
 rw [hexec]
 exact ⟨fz,_,hi'.appended ho h3 h6 h7 h5,h v' Hs' h6⟩
theorem Yhl {t:TypeId} {x:Operand} {a:Addr} {n c:Nat} (hx:r x=some (.slice (some a) n c)) (hc:c≠0) (h:V (.pointer (some a))):
 DoesQ P cx ⟨dst,.call {callee:=.builtin .unsafeSliceData,args:=#[x],argTypes:=#[t]},ty,pos,af,gd⟩ r fz H V:=
 YH (fun ρ w hr=>by
  simp only [execOp,resolve,invoke,builtin,Sem.run_bind,Sem.run_pure,Result.andThen_ok,List.map_toArray,List.map_cons,List.map_nil,hr _ _ hx,Go.Lib.run_unsafeSliceData_row _ _ _ _ _ _ hc]) h
variable {g:Nat}
theorem Yft (T:Tab P) {pt it e:TypeId} {x:Operand} {pre post:HP} {cur:List Value} {l:List UInt8} {K:Value→FZ→HP→Prop} (hT:T.inf pt=some X) (hd:X.desc=.pointer e) (hc:P.cellsOf e=1)
 (hx:r x=some (.pointer (some ⟨g,0,none⟩))) (hy:r y=some (.int .i64 l.length)) (hH:H=pre++(g,.cells cur.toArray e (0,0))::post) (h0:l≠ []) (hl:l.length≤cur.length) (h63:l.length≤140737488355328) (hcur:cur.take l.length=l.map Ybn)
 (h:K (.string (strOf l)) fz (pre++(g,.cells cur.toArray e (0,l.length))::post)):
 Does P cx ⟨dst,.call {callee:=.builtin .unsafeString,args:=#[x,y],argTypes:=#[pt,it]},ty,pos,af,gd⟩ r fz H K:=by
 refine Does.of fun ρ w hr hw=>?_
 subst hH
 have hb:=(hw.hp.own (g,.cells cur.toArray e (0,0)) (by simp)).1
 have hcell:∀ j x,l[j]?=some x→w.cell? ((⟨g,0,none⟩:Addr).add j)=some (.int .u8 x.toNat):=by
  intro j b hb2
  have hadd:(⟨g,0,none⟩:Addr).add j=⟨g,j,none⟩:=by unfold Addr.add;split<;>simp_all
  have hj:j<l.length:=(Zg hb2).1
  have h1:(cur.take l.length)[j]?=some (Ybn b):=by rw [hcur,List.getElem?_map,hb2];rfl
  rw [List.getElem?_take,if_pos hj] at h1
  rw [hadd]
  simp only [World.cell?,hb]
  simpa [Ybn] using h1
 have hrun:=Go.Lib.run_unsafeString_row (P:=P) w pt it ty e (und_plain T hT hd rfl) hc g cur.length (by simp [World.shape?,hb]) l h0 hl Zi hcell
 have hexec:(execOp ρ ⟨dst,.call {callee:=.builtin .unsafeString,args:=#[x,y],argTypes:=#[pt,it]},ty,pos,af,gd⟩).run P w=.ok (.value (.string (strOf l))) (w.freeze ⟨g,0,none⟩ l.length):=by
  simp only [execOp,resolve,invoke,builtin,Sem.run_bind,Sem.run_pure,Result.andThen_ok,List.map_toArray,List.map_cons,List.map_nil,hr _ _ hx,hr _ _ hy,hrun]
  rfl
 rw [hexec]
 have hl0:l.length≠0:=by simpa using h0
 refine ⟨fz,_,hw.write (o':=.cells cur.toArray e (0,l.length)) (by simp [World.freeze,hl0]) (by simp [World.freeze,hl0]) (by simp [World.freeze,hl0]) (by simp [World.freeze,hl0]) ?_ (fun k hk=>?_),h⟩
 ·simp [World.freeze,hl0,Array.getElem?_modify,hb]
 ·simp only [World.freeze,if_neg hl0,Array.getElem?_modify]
  rw [if_neg Zi]
theorem XK {t':TypeId} {x:Operand} {a b:Bs} (hx:r x=some (.string a)) (hy:r y=some (.string b)) (hs:a.size+b.size≤9223372036854775807) (h:V (.string (a++b))):
 DoesQ P cx ⟨dst,.binOp .add t x y t',ty,pos,af,gd⟩ r fz H V:=
 YH (fun ρ w hr=>by
  have:¬(9223372036854775807<((a.size:Int)+(b.size:Int))):=by omega
  simp [execOp,hr _ _ hx,hr _ _ hy,eqGuard_at_string,binOp,Op.stringOp,this]) h
theorem YeC {t':TypeId} {x:Operand} {a b:List UInt8} (hx:r x=some (.string (strOf a))) (hy:r y=some (.string (strOf b))) (hs:a.length+b.length≤9223372036854775807) (h:V (.string (strOf (a++b)))):
 DoesQ P cx ⟨dst,.binOp .add t x y t',ty,pos,af,gd⟩ r fz H V:=
 XK hx hy (by rw [Wo,Wo];exact hs) (by rw [Yg9];exact h)
variable {A:Option Addr} {j:Nat}
theorem Xu (T:Tab P) {α:Type} {L:Lay α} {e:TypeId} {x i:Operand} {c:Nat} {k:IntKind} {xs:List α} (hT:T.inf t=some X) (hd:X.desc=.slice e) (hY:T.inf e=some Y) (hz:Y.size=L.size)
 (hx:r x=some (.slice A n c)) (hi:r i=some (.int k j)) (hs:Sl L fz A n c xs) (hj:j≤n) (h:∀ A',Sl L fz A' (n - j) (c - j) (xs.drop j)→V (.slice A' (n - j) (c - j))):DoesQ P cx ⟨dst,.slice t x (some i) none none,ty,pos,af,gd⟩ r fz H V:=by
 have h1:=hs.cap
 have h2:=hs.max
 have h3:=hs.short
 have h4:=hs.len
 refine YH (v:=.slice (if c=j then A else A.map (·.add (j*Y.size))) (n - j) (c - j)) (fun ρ w hr=>by
  have hu:=run_underlying (und_plain T hT hd rfl) w
  have hs:=Lx.run_sizeOf T hY w
  simp [execOp,hr _ _ hx,hr _ _ hi,Instr.sliceAt,Instr.slice,Instr.sliceBounds,Instr.sliceBound,asIntOf,hu,hs,hj]
  try omega) (h _ ?_)
 refine ⟨by rw [List.length_drop,h4],by omega,by omega,by omega,?_⟩
 rcases hs.elem with h0 | ⟨ad,h5,h6⟩
 ·exact .inl Zi
 ·by_cases hn:n - j=0
  ·exact .inl hn
  ·refine .inr ⟨ad.add (j*L.size),?_,fun i d hd=>?_⟩
   ·rw [if_neg Zi,h5,hz];rfl
   ·rw [List.getElem?_drop] at hd
    have:=h6 (j+i) d hd
    have e:(ad.add (j*L.size)).add (i*L.size)=ad.add ((j+i)*L.size):=by
     rw [Nat.add_mul]
     unfold Addr.add
     by_cases h7:j*L.size=0
     ·rw [h7];simp
     ·by_cases h8:i*L.size=0
      ·rw [h8];simp
      ·simp [h7,h8,Nat.add_assoc]
    rw [e];exact this
theorem q_min {x:Operand} {ats:Array TypeId} {k:IntKind} {a b:Int} (hx:r x=some (.int k a)) (hy:r y=some (.int k b)) (h:V (.int k (min a b))):
 DoesQ P cx ⟨dst,.call {callee:=.builtin .min,args:=#[x,y],argTypes:=ats},ty,pos,af,gd⟩ r fz H V:=
 YH (fun ρ w hr=>by
  have:(if b<a then b else a)=min a b:=by omega
  simp [execOp,resolve,invoke,builtin,hr _ _ hx,hr _ _ hy,Builtin.min_,Builtin.min2,this]) h
theorem q_neg {x:Operand} {k:IntKind} {a c:Int} (hx:r x=some (.int k a)) (hw:k.wrap (0 - a)=c) (h:V (.int k c)):DoesQ P cx ⟨dst,.unOp .neg t x,ty,pos,af,gd⟩ r fz H V:=
 YH (fun ρ w hr=>by simp [execOp,hr _ _ hx,Op.unary,Op.intArith] at hw ⊢;exact hw) h
end
end Go.Lx
namespace Go.Proofs.YtfjopfinkdhmaaaGreatDoor
open Go.Lx Go.RowKit
attribute [local instance 10] Classical.propDecidable
open Go.Proofs.Tryz (prog)
variable {fz:FZ}
theorem scut_q {s p:Bs} (hs:Short s) (hp:Short p):QFn prog 236 [.string s,.string p] fz (.tuple #[.string (W3 s p),.bool (decide (PreP s p))]):=by
 refine GFn.quiet ?_
 refine zF Tryz.func236 Tryz.ntmps236 (fun w0=>?_)
 refine zW ?_;intros
 refine zb (YcL hs hp) (fun f1=>?_) (fun f1=>?_)
 ·have hc:=Zt f1
  have:=hc.1
  refine zW ?_;intros
  ((refine zG ?_);refine Ydv T Zz Zz Zz Zz Zi Zi ?_)
  refine zW ?_;intros
  exact ret2 rfl rfl rfl Zb (by rw [W3,if_pos hc,decide_eq_true hc];rfl)
 ·have hc:=Zf f1
  refine zW ?_;intros
  exact ret2 rfl rfl rfl Zb (by rw [W3,if_neg hc,decide_eq_false hc])
theorem cut_q {s p:Bs} (hs:Short s) (hp:Short p):QFn prog 207 [.string s,.string p] fz (.tuple #[.string (W3 s p),.bool (decide (PreP s p))]):=by
 refine GFn.quiet ?_
 refine zF Tryz.func207 Tryz.ntmps207 (fun w0=>?_)
 refine zW ?_;intros
 refine zc (scut_q hs hp) ?_
 refine zW ?_;intros
 exact ret2 rfl rfl rfl Zb rfl
def valD:List UInt8→Nat→Option Nat
 | [],n=>some n
 | b::r,n=>if 1099511627776<10*n+(b.toNat - 48) then none else valD r (10*n+(b.toNat - 48))
def valS (s:Bs):Option Int:=(valD (W3 s Wr).data.toList 0).map fun n=>if PreP s Wr then -(n:Int) else n
set_option maxHeartbeats 2000000 in
theorem value_q {s:Bs} (hs:s.size≤1000000) (hn:NumP s):QFn prog 178 [.string s] fz (.tuple #[.int .i64 ((valS s).getD 0),.bool (valS s).isSome]):=by
 have hsh:Short s:=by unfold Short;omega
 have hz:(W3 s Wr).size≤1000000:=by
  unfold W3
  split
  ·rw [Ya0 (Zs _)];omega
  ·exact hs
 obtain ⟨hd,_⟩:=hn
 refine GFn.quiet ?_
 refine zF Tryz.func178 Tryz.ntmps178 (fun w0=>?_)
 refine zW ?_;intros
 ((refine zG ?_);refine Yw Zz Zz (cut_q (p:=Wr) hsh (by unfold Short Wr;decide)) ?_)
 have hvs:valS s=(valD (W3 s Wr).data.toList 0).map fun n=>if PreP s Wr then -(n:Int) else n:=rfl
 generalize htt:W3 s Wr=t at*
 refine zW ?_;intros
 refine Yl (fun q σ fz' H'=>∃ (k m:Nat),k≤t.size∧q=t.size - k∧σ=[(15,.int .i64 k),(14,.int .i64 t.size),(6,.int .i64 m),(5,.bool (decide (PreP s Wr))),(4,.string t)]∧fz=fz'∧H'=[]∧m≤1099511627776∧valD (t.data.toList.drop k) m=valD t.data.toList 0) ⟨0,0,Z0 _,rfl,rfl,rfl,rfl,by decide,rfl⟩ Zw Zb ?_
 rintro q σ fz' H' ⟨k,m,hk,rfl,rfl,rfl,rfl,hm,hv⟩
 refine zW ?_;intros
 refine zC (fun c1=>?_) (fun c1=>?_)
 ·obtain ⟨b,hb,hb2⟩:=XV (s:=t) (k:=k) Zi
  have hdg:=hd k Zi
  rw [hb2] at hdg
  unfold DigP at hdg
  rw [W9 hb,valD] at hv
  refine zW ?_;intros
  refine zG ?_;refine q_mul (c:=(10*m:Nat)) Zz Zz (by rw [show (10:Int)*(m:Int)=((10*m:Nat):Int) by push_cast;rfl];exact Xw Zi) ?_
  refine zW ?_;intros
  ((refine zG ?_);refine Xl T Zz Zz Zz Zz Zi (by rw [Int.toNat_natCast];exact hb) ?_)
  refine zG ?_;refine q_sub (c:=(b.toNat - 48:Nat)) Zz Zz (by rw [show ((b.toNat:Int) - 48)=((b.toNat - 48:Nat):Int) by omega];exact Yf7 Zi) ?_
  refine zG ?_;refine Ygh T Zz Zz Zz Zz (Xw Zi) ?_
  refine zG ?_;refine Yaf (c:=(10*m+(b.toNat - 48):Nat)) Zz Zz (by rw [show ((10*m:Nat):Int)+((b.toNat - 48:Nat):Int)=((10*m+(b.toNat - 48):Nat):Int) by push_cast;rfl];exact Xw Zi) ?_
  refine zW ?_;intros
  refine zC (fun c2=>?_) (fun c2=>?_)
  ·rw [if_pos Zi] at hv
   refine zW ?_;intros
   exact ret2 rfl rfl rfl Zb (by rw [hvs,← hv];rfl)
  ·rw [if_neg Zi] at hv
   refine zW ?_;intros
   exact Yz ⟨k+1,10*m+(b.toNat - 48),by omega,rfl,rfl,rfl,rfl,by omega,hv⟩ Zi Zw Zb
 ·rw [List.drop_eq_nil_of_le (by have:t.data.toList.length=t.size:=(by rw [Array.length_toList];rfl);omega),valD] at hv
  by_cases hp:PreP s Wr
  ·rw [decide_eq_true hp]
   refine zW ?_;intros
   refine zG ?_;refine q_neg Zz (Xw Zi) ?_
   refine zW ?_;intros
   exact ret2 rfl rfl rfl Zb (by rw [hvs,← hv];simp [hp])
  ·rw [decide_eq_false hp]
   refine zW ?_;intros
   exact ret2 rfl rfl rfl Zb (by rw [hvs,← hv];simp [hp])
def YkB (s:Bs):Prop:=s≠WO∧s.size≤32∧(∀ b∈s.data.toList,LowC b)∧¬NumP s
def Yfy (x:Sexpr):Prop:=(x.kind=1∧YkB x.text∧x.value=0∧x.kids=[])∨(x.kind=2∧x.text=WO∧x.kids=[]∧Ya3 x.value)∨(x.kind=3∧x.text=WO∧x.value=0)
abbrev XOk (x:Sexpr):Prop:=XAll Yfy x
def XVal (x:Sexpr):Prop:=XOk x∧xdepth x≤32∧xcount x≤4096
theorem YhB {s:Bs}:(lowS s).size=s.size:=by
 have:=XA (s:=s)
 simp only [lowS,ByteArray.size,List.size_toArray,List.length_map];exact this
theorem lowB_fix {b:UInt8} (h:lowB b=b):¬UpC b.toNat:=by
 intro hu
 rw [lowB,if_pos hu] at h
 have h1:=congrArg UInt8.toNat h
 unfold UpC at hu
 rw [UInt8.toNat_add] at h1
 simp at h1
 omega
theorem YlM {α:Type} {f:α→α}:∀ {l:List α},l.map f=l→∀ x∈l,f x=x
 | [],_,_,hx=>by cases hx
 | a::r,h,x,hx=>by
  simp only [List.map_cons,List.cons.injEq] at h
  rcases List.mem_cons.1 hx with rfl | hx
  ·exact h.1
  ·exact YlM h.2 x hx
theorem YiQ {α:Type} {f:α→α}:∀ {l:List α},(∀ x∈l,f x=x)→l.map f=l
 | [],_=>rfl
 | a::r,h=>by rw [List.map_cons,h a (by simp),YiQ (fun x hx=>h x (by simp [hx]))]
theorem low_upc {b:UInt8} (h:LowC b):¬UpC b.toNat:=by
 unfold LowC LetP DigP SymL at h
 unfold UpC
 rcases h with h | h | h
 ·omega
 ·omega
 ·simp only [List.mem_cons,List.not_mem_nil,or_false] at h
  rcases h with rfl | rfl | rfl | rfl | rfl | rfl | rfl | rfl | rfl<;>decide
theorem Ygs {s:Bs}:LowP s∧lowS s=s↔s≠WO∧s.size≤32∧∀ b∈s.data.toList,LowC b:=by
 constructor
 ·rintro ⟨⟨h1,h2,h3⟩,h4⟩
  refine ⟨h1,h2,fun b hb=>?_⟩
  have h5:s.data.toList.map lowB=s.data.toList:=by
   have:=congrArg (fun t:Bs=>t.data.toList) h4
   simpa [lowS] using this
  exact (h3 b hb).resolve_left (lowB_fix (YlM h5 b hb))
 ·rintro ⟨h1,h2,h3⟩
  refine ⟨⟨h1,h2,fun b hb=>.inr (h3 b hb)⟩,?_⟩
  have:=YiQ (f:=lowB) (l:=s.data.toList) (fun b hb=>if_neg (low_upc (h3 b hb)))
  unfold lowS
  rw [this]
def cntO (c:Int):Obj:=.cells #[.int .i64 c] 3 (0,0)
def XBud (g:Nat) (x:Sexpr) (d c:Nat) (v:Value) (H':HP):Prop:=
 ∃ (b:Bool) (c':Int),v=.bool b∧H'=[(g,cntO c')]∧(b=true→c'=((c+xcount x:Nat):Int))∧(b=true↔XOk x∧d+xdepth x≤32∧c+xcount x≤4096)
variable {g:Nat}
theorem Yf3 {x:Sexpr} {d c:Nat} {c':Int} (h:¬(XOk x∧d+xdepth x≤32∧c+xcount x≤4096)):XBud g x d c (.bool false) [(g,cntO c')]:=⟨false,c',rfl,rfl,(by simp),iff_of_false (by simp) h⟩
theorem Yg1 {x:Sexpr} {d c:Nat} (h:Yfy x) (hk:x.kids=[]) (h3:x.kind≠3) (hc:c+1≤4096) (hd:d≤32):XBud g x d c (.bool true) [(g,cntO (c+1:Nat))]:=by
 have h1:xcount x=1:=by rw [Xj,hk];simp [xcountL]
 have h2:xdepth x=0:=by rw [YcW,hk,if_neg h3];simp [xdepthL]
 exact ⟨true,_,rfl,rfl,fun _=>by rw [h1],iff_of_true rfl ⟨Y8.2 ⟨h,by rw [hk];simp⟩,by omega,by omega⟩⟩
theorem xnode1 {x:Sexpr} (h:x.kind=1):Yfy x↔YkB x.text∧x.value=0∧x.kids=[]:=by
 unfold Yfy;rw [h];simp
theorem xnode2 {x:Sexpr} (h:x.kind=2):Yfy x↔x.text=WO∧x.kids=[]∧Ya3 x.value:=by
 unfold Yfy;rw [h];simp
theorem xnode3 {x:Sexpr} (h:x.kind=3):Yfy x↔x.text=WO∧x.value=0:=by
 unfold Yfy;rw [h];simp
set_option maxHeartbeats 2000000 in
theorem YkM:∀ (s:Nat) {fz:FZ} {x:Sexpr} {vk:Value} {g d c:Nat},SizeOf.sizeOf x≤s→YW fz x vk→d≤32→c≤4096→
 GFn prog 88 [.agg #[.int .i64 x.kind,.int .i64 x.value,.int .i64 x.line,.int .i64 x.column,.string x.text,vk],.int .i64 d,.pointer (some ⟨g,0,none⟩)] fz [(g,cntO c)] (fun v fz' H'=>Le fz fz'∧XBud g x d c v H')
 | 0,_,x,_,_,_,_,hs,_,_,_=>by cases x;simp at hs
 | s+1,fz,x,vk,g,d,c,hs,h,hd,hc=>by
  obtain ⟨A,n,ca,rfl,hk⟩:=h.kids
  have no:∀ {c':Int},¬Yfy x→XBud g x d c (.bool false) [(g,cntO c')]:=fun h0=>Yf3 (fun h1=>h0 (Y8.1 h1.1).1)
  have e1:=Xj x
  have e2:=YcW x
  unfold cntO
  refine zF Tryz.func88 Tryz.ntmps88 (fun w0=>?_)
  refine Yk (Yr (Ya Zz (Xc _ Zz Zz (fun g0=>?_))))
  refine zW ?_;intros
  refine zC (fun c1=>?_) (fun c1=>?_)
  ·refine zW ?_;intros
   exact ret1 rfl rfl (List.Sublist.cons _ (List.Sublist.refl _)) ⟨Le.refl _,Yf3 (fun h0=>by omega)⟩
  ·refine zW ?_;intros
   refine zC (fun x1=>?_) (fun y1=>?_)
   ·have hn:=xnode1 x1
    by_cases hL:LowP x.text
    ·have hq:=YiF (fz:=fz) (s:=x.text)
     rw [if_pos hL,decide_eq_true hL] at hq
     refine zW ?_;intros
     refine zc hq ?_
     refine zW ?_;intros
     refine zC (fun n1=>?_) (fun n1=>?_)
     ·have hw:=(Ygs.1 ⟨hL,n1⟩)
      refine zW ?_;intros
      ((refine zG ?_);refine Wf Zz Zz (Yhx (s:=lowS x.text) (by unfold Short;rw [YhB];exact h.text)) (fun f1=>?_) (fun f1=>?_))
      ·refine zW ?_;intros
       exact ret1 rfl rfl Zb ⟨Le.refl _,no (fun h0=>(hn.1 h0).1.2.2.2 (by rw [← n1];exact Zt f1))⟩
      ·refine zW ?_;intros
       (((refine zC (fun n2=>?_) (fun n2=>?_));rotate_left 1;((refine zW ?_;intros);(exact ret1 rfl rfl Zb ⟨Le.refl _,no (fun h0=>n2 (hn.1 h0).2.1)⟩));(refine zW ?_;intros)))
       (((refine zC (fun n3=>?_) (fun n3=>?_));rotate_left 1;((refine zW ?_;intros);(exact ret1 rfl rfl Zb ⟨Le.refl _,no (fun h0=>n3 ((len0 hk.len).2 (hn.1 h0).2.2))⟩));(refine zW ?_;intros)))
       exact ret1 rfl rfl Zb ⟨Le.refl _,Yg1 (hn.2 ⟨⟨hw.1,hw.2.1,hw.2.2,by rw [← n1];exact Zf f1⟩,n2,(len0 hk.len).1 n3⟩) ((len0 hk.len).1 n3) Zi Zi hd⟩
     ·refine zW ?_;intros
      exact ret1 rfl rfl (List.Sublist.cons _ (List.Sublist.refl _)) ⟨Le.refl _,no (fun h0=>n1 (Ygs.2 ⟨(hn.1 h0).1.1,(hn.1 h0).1.2.1,(hn.1 h0).1.2.2.1⟩).2)⟩
    ·have hq:=YiF (fz:=fz) (s:=x.text)
     rw [if_neg hL,decide_eq_false hL] at hq
     refine zW ?_;intros
     refine zc hq ?_
     refine zW ?_;intros
     exact ret1 rfl rfl (List.Sublist.cons _ (List.Sublist.refl _)) ⟨Le.refl _,no (fun h0=>hL (Ygs.2 ⟨(hn.1 h0).1.1,(hn.1 h0).1.2.1,(hn.1 h0).1.2.2.1⟩).1)⟩
   ·refine zW ?_;intros
    refine zC (fun x2=>?_) (fun y2=>?_)
    ·have hn:=xnode2 x2
     refine zW ?_;intros
     (((refine zC (fun n1=>?_) (fun n1=>?_));rotate_left 1;((refine zW ?_;intros);(exact ret1 rfl rfl Zb ⟨Le.refl _,no (fun h0=>n1 (hn.1 h0).1)⟩));(refine zW ?_;intros)))
     (((refine zC (fun n3=>?_) (fun n3=>?_));rotate_left 1;((refine zW ?_;intros);(exact ret1 rfl rfl Zb ⟨Le.refl _,no (fun h0=>n3 ((len0 hk.len).2 (hn.1 h0).2.1))⟩));(refine zW ?_;intros)))
     (((refine zC (fun n4=>?_) (fun n4=>?_));rotate_left 1;((refine zW ?_;intros);(exact ret1 rfl rfl Zb ⟨Le.refl _,no (fun h0=>n4 (hn.1 h0).2.2.1)⟩));(refine zW ?_;intros)))
     (((refine zC (fun n5=>?_) (fun n5=>?_));rotate_left 1;((refine zW ?_;intros);(exact ret1 rfl rfl Zb ⟨Le.refl _,no (fun h0=>n5 (hn.1 h0).2.2.2)⟩));(refine zW ?_;intros)))
     exact ret1 rfl rfl Zb ⟨Le.refl _,Yg1 (hn.2 ⟨n1,(len0 hk.len).1 n3,n4,n5⟩) ((len0 hk.len).1 n3) Zi Zi hd⟩
    ·refine zW ?_;intros
     refine zC (fun x3=>?_) (fun y3=>?_)
     ·have hn:=xnode3 x3
      rw [if_pos x3] at e2
      have sk:=hk.short
      have lk:=hk.len
      refine zW ?_;intros
      (((refine zC (fun n1=>?_) (fun n1=>?_));((refine zW ?_;intros);(exact ret1 rfl rfl Zb ⟨Le.refl _,no (fun h0=>n1 (hn.1 h0).1)⟩));(refine zW ?_;intros)))
      (((refine zC (fun n2=>?_) (fun n2=>?_));((refine zW ?_;intros);(exact ret1 rfl rfl Zb ⟨Le.refl _,no (fun h0=>n2 (hn.1 h0).2)⟩));(refine zW ?_;intros)))
      (((refine zC (fun n3=>?_) (fun n3=>?_));((refine zW ?_;intros);(exact ret1 rfl rfl Zb ⟨Le.refl _,Yf3 (fun h0=>by omega)⟩));(refine zW ?_;intros)))
      refine Yl (fun mm σ fz' H'=>∃ k:Nat,k≤n∧mm=n - k∧σ=[(91,.int .i64 k),(90,.int .i64 n),(89,.slice A n ca),(2,.pointer (some ⟨g,0,none⟩)),(1,.int .i64 d)]∧Le fz fz'∧H'=[(g,.cells #[.int .i64 (c+1+xcountL (x.kids.take k):Nat)] 3 (0,0))]∧(∀ i,i<k→∀ y,x.kids[i]?=some y→XOk y∧d+1+xdepth y≤32)∧c+1+xcountL (x.kids.take k)≤4096) ⟨0,Z0 _,rfl,rfl,Le.refl _,rfl,(fun i hi=>absurd hi Zi),by simp [xcountL];omega⟩ Zw Zb ?_
      rintro _ σ fz' H' ⟨k,hkn,rfl,rfl,hle,rfl,hh,hcc⟩
      have hk2:=hk.mono hle
      refine zW ?_;intros
      refine zC (fun c2=>?_) (fun c2=>?_)
      ·obtain ⟨y,hy⟩:=Yn (l:=x.kids) (k:=k) Zi
       have hym:=Zm hy
       have hlt:=Sexpr.kids_lt hym
       have hst:=YgZ hy
       have htk:=YdT (l:=x.kids) (k:=k+1)
       refine zW ?_;intros
       refine zI hk2 hy (fun p1 hp1=>?_)
       refine zL hp1 ?_
       intro cs hcs
       obtain ⟨wk,rfl,hRy⟩:=Yh hcs
       obtain ⟨A1,n6,b1,rfl,_⟩:=hRy.kids
       refine zW ?_;intros
       first | refine Wp.perm (List.Perm.swap _ _ _) ?_ | refine Seq.perm (List.Perm.swap _ _ _) ?_
       refine Ya Zz (Ym [_] [_] Zz Zz Zz (YkM s (x:=y) (d:=d+1) (c:=c+1+xcountL (x.kids.take k)) Zi hRy Zi hcc) (fun v5 fz5 H5 hle5 hR5=>?_))
       obtain ⟨_,b5,c5,rfl,rfl,hc5,hb5⟩:=hR5
       cases b5
       ·refine zW ?_;intros
        exact ret1 rfl rfl Zb ⟨hle.trans hle5,Yf3 (fun h0=>absurd (hb5.2 ⟨(Y8.1 h0.1).2 y hym,by have:=(Yac (l:=x.kids)).1 (Zs _) y hym;omega,by omega⟩) (by simp))⟩
       ·have hc5:=hc5 rfl
        have hb5:=hb5.1 rfl
        subst hc5
        refine zW ?_;intros
        exact Yz ⟨k+1,by omega,rfl,rfl,hle.trans hle5,by rw [hst,← Nat.add_assoc],YL hh hy ⟨hb5.1,hb5.2.1⟩,by omega⟩ Zi Zw Zb
      ·rw [show x.kids.take k=x.kids from Zl Zi] at hcc ⊢
       have hK:=Xs hh Zi
       refine zW ?_;intros
       exact ret1 rfl rfl (List.Sublist.refl _) ⟨hle,true,_,rfl,rfl,fun _=>by rw [e1];simp only [Nat.add_assoc],iff_of_true rfl ⟨Y8.2 ⟨hn.2 ⟨n1,n2⟩,fun y hy=>(hK y hy).1⟩,by
        have e3:xdepthL x.kids≤31 - d:=Yac.2 (fun y hy=>by have:=(hK y hy).2;omega)
        omega,by omega⟩⟩
     ·refine zW ?_;intros
      exact ret1 rfl rfl Zb ⟨Le.refl _,no (fun h0=>by rcases h0 with h0 | h0 | h0;exact y1 h0.1;exact y2 h0.1;exact y3 h0.1)⟩
variable {vk:Value}
theorem WH {x:Sexpr} (h:YW fz x vk):QFn prog 35 [.agg #[.int .i64 x.kind,.int .i64 x.value,.int .i64 x.line,.int .i64 x.column,.string x.text,vk]] fz (.bool (decide (XVal x))):=by
 obtain ⟨A,n,ca,rfl,hk⟩:=h.kids
 refine GFn.quiet ?_
 refine zF Tryz.func35 Tryz.ntmps35 (fun w0=>?_)
 refine Yk (Yr (Ya Zz (Xc _ Zz Zz (fun g0=>?_))))
 refine zW ?_;intros
 refine Ya Zz (Ym [_] [_] Zz Zz Zz (YkM _ (d:=0) (c:=0) (Zs _) h Zi Zi) (fun v5 fz5 H5 hle5 hR5=>?_))
 obtain ⟨_,b5,c5,rfl,rfl,hc5,hb5⟩:=hR5
 refine zW ?_;intros
 have hb:(b5=true)↔XVal x:=by rw [hb5];unfold XVal;simp only [Nat.zero_add]
 have hd:decide (XVal x)=b5:=by cases b5<;>simp_all
 exact zR (h:=by rw [hd])
def errV:Int→Value:=fun n=>if n=0 then .nilIface else .iface 65 (.int .i64 n)
theorem Yj {n:Int} (h:n≠0):errV n=.iface 65 (.int .i64 n):=if_neg h
def ESmN (e:Lx.Expr):Prop:=e.args.length≤1000000000
def FSmN (f:Formula):Prop:=f.args.length≤1000000000∧f.params.length≤1000000000∧f.kids.length≤1000000000
abbrev ESm (e:Lx.Expr):Prop:=EAll ESmN e
abbrev FSm (f:Formula):Prop:=FAll FSmN ESmN f
theorem Yby:∀ (s:Nat) {e:Lx.Expr},SizeOf.sizeOf e≤s→EOk e→ESm e→EShape e
 | 0,e,h,_,_=>by cases e;simp at h
 | s+1,e,h,h1,h2=>by
  have h3:=Yaa.1 h1
  have h4:=Yaa.1 h2
  rcases h3.1 with h5 | h5 | h5
  ·exact .num h5.1
  ·exact .flu h5.1 h4.1
  ·obtain ⟨a,b,hab⟩:∃ a b,e.kids=[a,b]:=by
    match hK:e.kids,h5.2.2.2.2 with
    | [a,b],_=>exact ⟨a,b,rfl⟩
   have ka:a∈e.kids:=by rw [hab];simp
   have kb:b∈e.kids:=by rw [hab];simp
   have la:=Lx.Expr.kids_lt ka
   have lb:=Lx.Expr.kids_lt kb
   refine .bin (fun h0=>?_) (fun h0=>?_) hab (Yby s Zi (h3.2 a ka) (h4.2 a ka)) (Yby s Zi (h3.2 b kb) (h4.2 b kb))
   ·have h6:=h5.1
    rw [h0] at h6
    rcases h6 with h6 | h6 | h6<;>exact absurd (congrArg ByteArray.size h6) Zh
   ·have h6:=h5.1
    rw [h0] at h6
    rcases h6 with h6 | h6 | h6<;>exact absurd (congrArg ByteArray.size h6) Zh
theorem YeU:∀ (s:Nat) {f:Formula},SizeOf.sizeOf f≤s→FOk f→FSm f→FShape f
 | 0,f,h,_,_=>by cases f;simp at h
 | s+1,f,h,h1,h2=>by
  have h3:=Wv.1 h1
  have h4:=Wv.1 h2
  by_cases k1:f.op=kAtom
  ·exact .atom (.inl k1) h4.1.1
  ·by_cases k2:f.op=kSame
   ·exact .atom (.inr k2) h4.1.1
   ·by_cases k3:CmpOp f.op
    ·obtain ⟨_,⟨k,hk,hr⟩,_⟩:=h3.1
     rw [YcM,if_neg (fun h0=>h0.elim k1 k2),if_pos k3] at hk
     cases hk
     obtain ⟨a,b,hab⟩:∃ a b,f.exprs=[a,b]:=by
      match hK:f.exprs,hr.2.1 with
      | [a,b],_=>exact ⟨a,b,rfl⟩
     have ka:a∈f.exprs:=by rw [hab];simp
     have kb:b∈f.exprs:=by rw [hab];simp
     exact .cmp k3 hab (Yby _ (Zs _) (h3.2.1 a ka) (h4.2.1 a ka)) (Yby _ (Zs _) (h3.2.1 b kb) (h4.2.1 b kb))
    ·exact .other k1 k2 k3 h4.1.2.1 h4.1.2.2 (fun k hk=>YeU s (by have:=Formula.kids_lt hk;omega) (h3.2.2 k hk) (h4.2.2 k hk))
theorem Ybx:∀ (s:Nat) {e:Lx.Expr},SizeOf.sizeOf e≤s→EOk e→ecount e≤xcount (X3 e)∧edepth e≤xdepth (X3 e)+1
 | 0,e,h,_=>by cases e;simp at h
 | s+1,e,h,h1=>by
  have h3:=Yaa.1 h1
  rw [YjX,Ydi,Ydh]
  split
  ·rename_i h0
   have hk:=((Yfa h0).1 h3.1).2.2.1
   rw [hk]
   simp [ecountL,edepthL,numE,xcount,xcountL,xdepth]
  ·split
   ·rename_i h0
    have hk:=((Yfb h0).1 h3.1).2.1
    rw [hk]
    simp [ecountL,edepthL,W0,YF,xcount,xdepth]
   ·rename_i k1 k2
    have h5:=(Yfc k1 k2).1 h3.1
    obtain ⟨a,b,hab⟩:∃ a b,e.kids=[a,b]:=by
     match hK:e.kids,h5.2.2.2.2 with
     | [a,b],_=>exact ⟨a,b,rfl⟩
    have ka:a∈e.kids:=by rw [hab];simp
    have kb:b∈e.kids:=by rw [hab];simp
    have la:=Ybx s (by have:=Lx.Expr.kids_lt ka;omega) (h3.2 a ka)
    have lb:=Ybx s (by have:=Lx.Expr.kids_lt kb;omega) (h3.2 b kb)
    rw [hab]
    simp only [ecountL,edepthL,YF,xcount,xcountL,xdepth,xdepthL,List.map_cons,List.map_nil,Yi]
    simp
    omega
theorem Yf2 {l:List Formula} (h:∀ k∈l,fcount k≤xcount (Xh k)):fcountL l≤xcountL (l.map Xh):=by
 induction l with
 | nil=>simp [fcountL]
 | cons a r ih=>
  have h1:=h a (by simp)
  have h2:=ih (fun k hk=>h k (by simp [hk]))
  simp only [fcountL,List.map_cons,xcountL];omega
theorem Yf1 {l:List Formula} (h:∀ k∈l,fdepth k≤xdepth (Xh k)+1):fdepthL l≤xdepthL (l.map Xh)+1:=by
 induction l with
 | nil=>simp [fdepthL]
 | cons a r ih=>
  have h1:=h a (by simp)
  have h2:=ih (fun k hk=>h k (by simp [hk]))
  simp only [fdepthL,List.map_cons,xdepthL];omega
theorem YbQ {l:List Sexpr}:xcount (YF l)=1+xcountL l:=by simp [YF,xcount]
theorem YbP {l:List Sexpr}:xdepth (YF l)=xdepthL l+1:=by simp [YF,xdepth]
theorem YdG:∀ (s:Nat) {f:Formula},SizeOf.sizeOf f≤s→FOk f→fcount f≤xcount (Xh f)∧fdepth f≤xdepth (Xh f)+1
 | 0,f,h,_=>by cases f;simp at h
 | s+1,f,h,h1=>by
  have h3:=Wv.1 h1
  obtain ⟨_,⟨k,hk,hr⟩,_⟩:=h3.1
  rw [YgD,Ye4,Ye3]
  by_cases k1:f.op=kAtom
  ·rw [YcM,if_pos (.inl k1)] at hk
   cases hk
   rw [List.eq_nil_of_length_eq_zero hr.2.1,List.eq_nil_of_length_eq_zero hr.2.2.1,if_pos k1]
   simp [ecountL,edepthL,fcountL,fdepthL,W0,YbQ,YbP]
  ·by_cases k2:f.op=kSame
   ·rw [YcM,if_pos (.inr k2)] at hk
    cases hk
    rw [List.eq_nil_of_length_eq_zero hr.2.1,List.eq_nil_of_length_eq_zero hr.2.2.1,if_neg k1,if_pos k2]
    simp [ecountL,edepthL,fcountL,fdepthL,W0,YbQ,YbP]
   ·by_cases k3:CmpOp f.op
    ·rw [YcM,if_neg (fun h0=>h0.elim k1 k2),if_pos k3] at hk
     cases hk
     obtain ⟨a,b,hab⟩:∃ a b,f.exprs=[a,b]:=by
      match hK:f.exprs,hr.2.1 with
      | [a,b],_=>exact ⟨a,b,rfl⟩
     have la:=Ybx _ (Zs _) (h3.2.1 a (by rw [hab];simp))
     have lb:=Ybx _ (Zs _) (h3.2.1 b (by rw [hab];simp))
     rw [hab,List.eq_nil_of_length_eq_zero hr.2.2.1,if_neg k1,if_neg k2,if_pos k3]
     simp only [ecountL,edepthL,fcountL,fdepthL,YbQ,YbP,xcountL,xdepthL,List.map_cons,List.map_nil]
     omega
    ·have he:f.exprs=[]:=by
      refine List.eq_nil_of_length_eq_zero ?_
      rw [hr.2.1]
      rw [YcM,if_neg (fun h0=>h0.elim k1 k2),if_neg k3] at hk
      split at hk
      ·cases hk;rfl
      ·split at hk
       ·cases hk;rfl
       ·split at hk
        ·cases hk;rfl
        ·split at hk
         ·cases hk;rfl
         ·cases hk
     have c1:=Yf2 (l:=f.kids) (fun k hk=>(YdG s (by have:=Formula.kids_lt hk;omega) (h3.2.2 k hk)).1)
     have c2:=Yf1 (l:=f.kids) (fun k hk=>(YdG s (by have:=Formula.kids_lt hk;omega) (h3.2.2 k hk)).2)
     rw [he,if_neg k1,if_neg k2,if_neg k3,YbQ,YbP,Wd,Yfn]
     simp only [ecountL,edepthL]
     omega
def FVal (f:Formula):Prop:=FOk f∧XVal (Xh f)
def EVal (e:Lx.Expr):Prop:=EOk e∧XVal (X3 e)
variable {f:Formula} {va ve vp:Value}
theorem YjQ (h:FormulaR fz f va vp ve vk) (hs:FSm f):
 QFn prog 107 [.agg #[.string f.op,.string f.name,va,vp,ve,vk]] fz (.bool (decide (FVal f))):=by
 obtain ⟨A,n,ca,rfl,ha⟩:=h.args
 obtain ⟨B,m,cb,rfl,hp⟩:=h.params
 obtain ⟨C,r,cr,rfl,he⟩:=h.exprs
 obtain ⟨D,q,cq,rfl,hk⟩:=h.kids
 refine GFn.quiet ?_
 refine zF Tryz.func107 Tryz.ntmps107 (fun w0=>?_)
 refine Yk (Yr (Ya Zz (Xc _ Zz Zz (fun g0=>?_))))
 refine zW ?_;intros
 rename_i g1
 refine Ya Zz (Ym [_] [_] Zz Zz Zz (shaped_q (g:=g1) (d:=0) (c:=0) h Zi Zi) (fun v5 fz5 H5 hle5 hR5=>?_))
 obtain ⟨_,b5,c5,rfl,rfl,hc5,hb5⟩:=hR5
 cases b5
 ·refine zW ?_;intros
  (exact ret1 rfl rfl Zb (Yo (fun h0=>by
   have h1:=YdG _ (Zs _) h0.1
   exact absurd (hb5.2 ⟨h0.1,by have:=h0.2.2.1;omega,by have:=h0.2.2.2;omega⟩) (by simp))))
 ·have hb:=hb5.1 rfl
  refine zW ?_;intros
  refine Seq.guard_yesK Zz Zz Zz (Ym [] _ Zz Zz Zz (YkH (h.mono hle5) (YeU _ (Zs _) hb.1 hs)) (fun v6 fz6 H6 hle6 hR6=>?_))
  obtain ⟨rfl,cs,rfl,hr⟩:=hR6
  obtain ⟨vk6,rfl,hX⟩:=Yh hr
  refine zW ?_;intros
  refine zc (WH hX) ?_
  refine zW ?_;intros
  have hd:decide (FVal f)=decide (XVal (Xh f)):=decide_eq_decide.2 ⟨fun h0=>h0.2,fun h0=>⟨hb.1,h0⟩⟩
  exact zR (h:=by rw [hd])
theorem Yj0 {e:Lx.Expr} (h:ExprR fz e va vk) (hs:ESm e):
 QFn prog 226 [.agg #[.string e.op,.string e.name,.int .i64 e.n,va,vk]] fz (.bool (decide (EVal e))):=by
 obtain ⟨A,n,ca,rfl,ha⟩:=h.args
 obtain ⟨D,q,cq,rfl,hk⟩:=h.kids
 refine GFn.quiet ?_
 refine zF Tryz.func226 Tryz.ntmps226 (fun w0=>?_)
 refine Yk (Yr (Ya Zz (Xc _ Zz Zz (fun g0=>?_))))
 refine zW ?_;intros
 rename_i g1
 refine Ya Zz (Ym [_] [_] Zz Zz Zz (YjR (g:=g1) (d:=0) (c:=0) h Zi Zi) (fun v5 fz5 H5 hle5 hR5=>?_))
 obtain ⟨_,b5,c5,rfl,rfl,hc5,hb5⟩:=hR5
 cases b5
 ·refine zW ?_;intros
  (exact ret1 rfl rfl Zb (Yo (fun h0=>by
   have h1:=Ybx _ (Zs _) h0.1
   exact absurd (hb5.2 ⟨h0.1,by have:=h0.2.2.1;omega,by have:=h0.2.2.2;omega⟩) (by simp))))
 ·have hb:=hb5.1 rfl
  refine zW ?_;intros
  refine Seq.guard_yesK Zz Zz Zz (Ym [] _ Zz Zz Zz (WC (h.mono hle5) (Yby _ (Zs _) hb.1 hs)) (fun v6 fz6 H6 hle6 hR6=>?_))
  obtain ⟨rfl,cs,rfl,hr⟩:=hR6
  obtain ⟨vk6,rfl,hX⟩:=Yh hr
  refine zW ?_;intros
  refine zc (WH hX) ?_
  refine zW ?_;intros
  have hd:decide (EVal e)=decide (XVal (X3 e)):=decide_eq_decide.2 ⟨fun h0=>h0.2,fun h0=>⟨hb.1,h0⟩⟩
  exact zR (h:=by rw [hd])
def YgX:Sexpr:=.mk 0 0 0 0 ⟨#[]⟩ []
theorem YaB:SxIs fz (sxV 0 0 ⟨#[]⟩ (.slice none 0 0)) YgX:=⟨_,rfl,Yg (x:=YgX) ⟨X6,X6,X6,X6,Xq,IsSl.nil⟩⟩
def WrR (P:Prop) (x:Sexpr) (v:Value) (fz':FZ) (H':HP):Prop:=H'=[]∧∃ u y,v=.tuple #[u,errV (if P then 0 else 2)]∧SxIs fz' u y∧(P→y=x)
theorem YjW (h:FormulaR fz f va vp ve vk) (hs:FSm f):
 GFn prog 54 [.agg #[.string f.op,.string f.name,va,vp,ve,vk]] fz [] (WrR (FVal f) (Xh f)):=by
 obtain ⟨A,n,ca,rfl,ha⟩:=h.args
 obtain ⟨B,m,cb,rfl,hp⟩:=h.params
 obtain ⟨C,r,cr,rfl,he⟩:=h.exprs
 obtain ⟨D,q,cq,rfl,hk⟩:=h.kids
 refine zF Tryz.func54 Tryz.ntmps54 (fun w0=>?_)
 refine Yk (Yr (Ya Zz (Xc _ Zz Zz (fun g0=>?_))))
 refine zW ?_;intros
 rename_i g1
 refine zb (YjQ h hs) (fun f1=>?_) (fun f1=>?_)
 ·have hv:=Zt f1
  refine zW ?_;intros
  refine Ya Zz (Ym [] _ Zz Zz Zz (YkH h (YeU _ (Zs _) hv.1 hs)) (fun v6 fz6 H6 hle6 hR6=>?_))
  obtain ⟨rfl,cs,rfl,hr⟩:=hR6
  obtain ⟨vk6,rfl,hX⟩:=Yh hr
  obtain ⟨A6,n6,b6,rfl,_⟩:=hX.kids
  refine zW ?_;intros
  refine YQ T (vs:=[.agg #[_,_,_,_,_,_],.nilIface]) Zz ⟨⟨_,_,0,_,_,_,rfl,rfl,rfl,rfl,rfl,rfl⟩,rfl,trivial⟩ (fun fz3 hle3 hf3=>?_)
  exact ⟨rfl,_,_,by rw [if_pos hv];rfl,SxIs.mono hle3 ⟨_,rfl,Yg hX⟩,fun _=>rfl⟩
 ·have hv:=Zf f1
  refine zW ?_;intros
  refine YQ T (vs:=[.agg #[_,_,_,_,_,_],_]) Zz ⟨⟨_,_,0,_,_,_,rfl,rfl,rfl,rfl,rfl,rfl⟩,rfl,trivial⟩ (fun fz3 hle3 hf3=>?_)
  exact ⟨rfl,_,_,by rw [if_neg hv,Yj Zh];rfl,YaB,fun h0=>absurd h0 hv⟩
theorem eWrite_q {e:Lx.Expr} (h:ExprR fz e va vk) (hs:ESm e):
 GFn prog 191 [.agg #[.string e.op,.string e.name,.int .i64 e.n,va,vk]] fz [] (WrR (EVal e) (X3 e)):=by
 obtain ⟨A,n,ca,rfl,ha⟩:=h.args
 obtain ⟨D,q,cq,rfl,hk⟩:=h.kids
 refine zF Tryz.func191 Tryz.ntmps191 (fun w0=>?_)
 refine Yk (Yr (Ya Zz (Xc _ Zz Zz (fun g0=>?_))))
 refine zW ?_;intros
 rename_i g1
 refine zb (Yj0 h hs) (fun f1=>?_) (fun f1=>?_)
 ·have hv:=Zt f1
  refine zW ?_;intros
  refine Ya Zz (Ym [] _ Zz Zz Zz (WC h (Yby _ (Zs _) hv.1 hs)) (fun v6 fz6 H6 hle6 hR6=>?_))
  obtain ⟨rfl,cs,rfl,hr⟩:=hR6
  obtain ⟨vk6,rfl,hX⟩:=Yh hr
  obtain ⟨A6,n6,b6,rfl,_⟩:=hX.kids
  refine zW ?_;intros
  refine YQ T (vs:=[.agg #[_,_,_,_,_,_],.nilIface]) Zz ⟨⟨_,_,0,_,_,_,rfl,rfl,rfl,rfl,rfl,rfl⟩,rfl,trivial⟩ (fun fz3 hle3 hf3=>?_)
  exact ⟨rfl,_,_,by rw [if_pos hv];rfl,SxIs.mono hle3 ⟨_,rfl,Yg hX⟩,fun _=>rfl⟩
 ·have hv:=Zf f1
  refine zW ?_;intros
  refine YQ T (vs:=[.agg #[_,_,_,_,_,_],_]) Zz ⟨⟨_,_,0,_,_,_,rfl,rfl,rfl,rfl,rfl,rfl⟩,rfl,trivial⟩ (fun fz3 hle3 hf3=>?_)
  exact ⟨rfl,_,_,by rw [if_neg hv,Yj Zh];rfl,YaB,fun h0=>absurd h0 hv⟩
end Go.Proofs.YtfjopfinkdhmaaaGreatDoor
namespace Go.Lx
open Go.RowKit
section
variable {P:Program} {cx:Cx} {r:Operand→Option Value} {fz:FZ} {H:HP} {V:Value→Prop} {dst:Option Nat} {ty:TypeId} {pos:String} {af:Array Edge} {gd:Option (Nat × Bool)}
variable {X:Ty} {t:TypeId}
theorem Yll (T:Tab P) {x lo hi:Operand} {s:Bs} {a b:Nat} (hT:T.inf t=some X) (hd:X.desc=.string) (hx:r x=some (.string s)) (hl:r lo=some (.int .i64 a)) (hh:r hi=some (.int .i64 b))
 (hab:a≤b) (hb:b≤s.size) (h:V (.string (s.extract a b))):DoesQ P cx ⟨dst,.slice t x (some lo) (some hi) none,ty,pos,af,gd⟩ r fz H V:=
 YH (fun ρ w hr=>by
  have hu:=run_underlying (und_plain T hT hd rfl) w
  simp [execOp,hr _ _ hx,hr _ _ hl,hr _ _ hh,Instr.sliceAt,Instr.slice,Instr.sliceBounds,Instr.sliceBound,asIntOf,hu,hab,hb]) h
end
variable {fz:FZ} {g j n:Nat}
theorem Yl3 {α:Type} {L:Lay α} {e:Nat} {cap:Nat} {cur:List Value} {l:List α} (h:GrowB L e fz g n cap cur l) {d:α} (hj:l[j]?=some d):∃ cs,L.rep fz d cs∧∀ i u,cs[i]?=some u→cur[j*L.size+i]?=some u:=by
 obtain ⟨xs,h1,h2,h3⟩:=h.pairs
 rw [← h1,List.getElem?_map] at hj
 cases hx:xs[j]? with
 | none=>rw [hx] at hj;cases hj
 | some p=>
  rw [hx] at hj
  simp at hj
  subst hj
  refine ⟨p.2,h2 p (Zm hx),fun i u hu=>?_⟩
  have h5:=YeZ (fun p hp=>L.len (h2 p hp)) hx hu
  rw [← h3,List.getElem?_take] at h5
  split at h5
  ·exact h5
  ·cases h5
theorem GrowB.pop {α:Type} {L:Lay α} {e:Nat} {cap:Nat} {cur:List Value} {l:List α} {d:α} (h:GrowB L e fz g (n+1) cap cur (l++ [d])):GrowB L e fz g n cap cur l:=by
 obtain ⟨xs,h1,h2,h3⟩:=h.pairs
 have hl:=h.len
 have hcap:=h.capn
 rw [List.length_append] at hl
 simp at hl
 have hxl:xs.length=n+1:=by rw [← List.length_map (f:=Prod.fst),h1,List.length_append];simp [hl]
 have hz:∀ p∈xs.take n,p.2.length=L.size:=fun p hp=>L.len (h2 p (List.mem_of_mem_take hp))
 refine ⟨⟨xs.take n,by rw [List.map_take,h1,← hl,List.take_left],fun p hp=>h2 p (List.mem_of_mem_take hp),?_⟩,hl,by omega,h.max,h.size⟩
 have e1:(xs.take n++xs.drop n).flatMap Prod.snd=xs.flatMap Prod.snd:=by rw [List.take_append_drop]
 rw [List.flatMap_append] at e1
 have e2:=YaI hz
 rw [List.length_take,hxl,Nat.min_eq_left Zi] at e2
 have e3:cur.take (n*L.size)=(cur.take ((n+1)*L.size)).take (n*L.size):=by rw [List.take_take,Nat.min_eq_left (Nat.mul_le_mul_right _ Zi)]
 rw [e3,h3,← e1,← e2,List.take_left]
variable {v:Value}
theorem GrowB.cell {α:Type} {L:Lay α} {e:Nat} {cap o:Nat} {cur:List Value} {l:List α} {d d':α} (h:GrowB L e fz g (n+1) cap cur (l++ [d])) (ho:o<L.size) (hr:∀ cs,L.rep fz d cs→L.rep fz d' (cs.set o v)):GrowB L e fz g (n+1) cap (cur.set (n*L.size+o) v) (l++ [d']):=by
 have hp:=h.pop
 obtain ⟨xs,h1,h2,h3⟩:=hp.pairs
 have hl:=hp.len
 obtain ⟨cs,h4,h5⟩:=Yl3 h (j:=n) (d:=d) (by rw [List.getElem?_append_right Zi,hl,Nat.sub_self];rfl)
 have hxl:xs.length=n:=by rw [← List.length_map (f:=Prod.fst),h1,hl]
 have hcl:=L.len h4
 have hsz:=h.size
 have hcap:=h.capn
 have e0:(n+1)*L.size=n*L.size+L.size:=Nat.succ_mul _ _
 have hnc:(n+1)*L.size≤cap*L.size:=Nat.mul_le_mul_right _ hcap
 have e1:(xs.flatMap Prod.snd).length=n*L.size:=by rw [YaI (fun p hp=>L.len (h2 p hp)),hxl]
 refine ⟨⟨xs++ [(d',cs.set o v)],by rw [List.map_append,h1];rfl,fun p hp=>?_,?_⟩,by rw [List.length_append,hl];rfl,hcap,h.max,by rw [List.length_set];exact hsz⟩
 ·rcases List.mem_append.1 hp with hp | hp
  ·exact h2 p hp
  ·simp at hp;subst hp;exact hr cs h4
 ·rw [List.flatMap_append,← h3]
  refine List.ext_getElem? fun i=>?_
  simp only [List.flatMap_cons,List.flatMap_nil,List.append_nil]
  by_cases hi:i<n*L.size
  ·rw [List.getElem?_take_of_lt Zi,List.getElem?_append_left (by rw [List.length_take];omega),List.getElem?_take_of_lt hi,List.getElem?_set_ne Zi]
  ·have e2:(cur.take (n*L.size)).length=n*L.size:=by rw [List.length_take];omega
   rw [List.getElem?_append_right Zi,e2]
   by_cases hi2:i<(n+1)*L.size
   ·rw [List.getElem?_take_of_lt hi2]
    by_cases h7:i=n*L.size+o
    ·subst h7
     rw [List.getElem?_set_self Zi,Nat.add_sub_cancel_left,List.getElem?_set_self Zi]
    ·rw [List.getElem?_set_ne Zi,List.getElem?_set_ne Zi]
     have hlt:i - n*L.size<cs.length:=by omega
     rw [List.getElem?_eq_getElem hlt]
     have:=h5 (i - n*L.size) _ (List.getElem?_eq_getElem hlt)
     rw [show n*L.size+(i - n*L.size)=i by omega] at this
     exact this
   ·rw [List.getElem?_eq_none (by rw [List.length_take];omega),List.getElem?_eq_none (by rw [List.length_set];omega)]
def rawL:Lay (List Value) where
 size:=6
 rep:=fun _ d cs=>cs=d∧d.length=6∧∀ u∈d,u.oneCell'=true
 len:=fun h=>by rw [h.1];exact h.2.1
 mono:=fun _ h=>h
theorem Ygd:OneC rawL:=fun _ _ _ h u hu=>h.2.2 u (h.1 ▸ hu)
end Go.Lx
namespace Go.Proofs.YtfjopfinkdhmaaaGreatDoor
open Go.Lx Go.RowKit
attribute [local instance 10] Classical.propDecidable
open Go.Proofs.Tryz (prog)
structure Lev where
 k:Int
 l:Int
 c:Int
 kids:List Sexpr
def Lev.x (e:Lev):Sexpr:=.mk e.k 0 e.l e.c ⟨#[]⟩ e.kids
def Lev.add (e:Lev) (x:Sexpr):Lev:={e with kids:=e.kids++ [x]}
def lvC (e:Lev) (v:Value):List Value:=[.int .i64 e.k,.int .i64 0,.int .i64 e.l,.int .i64 e.c,.string ⟨#[]⟩,v]
def lvN:List Lev→Nat
 | []=>0
 | e::r=>e.kids.length+1+lvN r
def LvS (fz:FZ):List Lev→List (List Value)→HP→Prop
 | [],ls,H=>ls=[]∧H=[]
 | e::st,ls,H=>∃ ls' H' v Hl,ls=ls'++ [lvC e v]∧H=H'++Hl∧LvS fz st ls' H'∧Grow Yy 57 fz v e.kids.length Hl e.kids∧I64 e.k∧I64 e.l∧I64 e.c
variable {fz fz':FZ}
theorem LvS.mono (hle:Le fz fz'):∀ {st:List Lev} {ls:List (List Value)} {H:HP},LvS fz st ls H→LvS fz' st ls H
 | [],_,_,h=>h
 | _::_,_,_,⟨ls',H',v,Hl,h1,h2,h3,h4,h5⟩=>⟨ls',H',v,Hl,h1,h2,h3.mono hle,h4.mono hle,h5⟩
theorem LvS.len:∀ {st:List Lev} {ls:List (List Value)} {H:HP},LvS fz st ls H→ls.length=st.length
 | [],_,_,h=>by rw [h.1];rfl
 | _::_,_,_,⟨ls',H',v,Hl,h1,h2,h3,h4,h5⟩=>by rw [h1,List.length_append,h3.len];rfl
def RdS (fz:FZ) (gr:Nat) (t:Bs) (a n:Nat) (st:List Lev) (H:HP):Prop:=
 ∃ go cap cur ls Hk,H=(gr,rdO t a n (.slice (some ⟨go,0,none⟩) st.length cap))::(go,.cells (List.toArray cur) 57 (0,0))::Hk∧GrowB rawL 57 fz go st.length cap cur ls∧LvS fz st ls Hk
variable {H:HP} {n:Nat}
theorem RdS.mono (hle:Le fz fz') {gr:Nat} {t:Bs} {a:Nat} {st:List Lev} (h:RdS fz gr t a n st H):RdS fz' gr t a n st H:=by
 obtain ⟨go,cap,cur,ls,Hk,h1,h2,h3⟩:=h
 exact ⟨go,cap,cur,ls,Hk,h1,h2.mono hle,h3.mono hle⟩
theorem YlN:∀ {st:List Lev} {e:Lev},e∈st→e.kids.length≤lvN st
 | [],_,h=>by cases h
 | e::r,x,h=>by
  rcases List.mem_cons.1 h with rfl | h
  ·rw [lvN];omega
  ·have:=YlN h
   rw [lvN];omega
theorem add_s {gr a:Nat} {t:Bs} {e:Lev} {st:List Lev} {X:Sexpr} {vx:Value} (h:RdS fz gr t a n (e::st) H) (hX:YW fz X vx) (hk:e.kids.length≤1000000) (hst:st.length≤900):
 GFn prog 134 [.pointer (some ⟨gr,0,none⟩),.agg #[.int .i64 X.kind,.int .i64 X.value,.int .i64 X.line,.int .i64 X.column,.string X.text,vx]] fz H
  (fun r fz' H'=>fz'=fz∧r=.tuple #[]∧RdS fz gr t a n (e.add X::st) H'):=by
 obtain ⟨go,cap,cur,ls,Hk,rfl,hB,ls',H',v,Hl,rfl,rfl,h3,h4,h5⟩:=h
 have hl:=h3.len
 have hcap:=hB.capn
 rw [List.length_cons] at hB hcap ⊢
 obtain ⟨cs,hc1,hc2⟩:=Yl3 hB (j:=st.length) (d:=lvC e v) (by rw [List.getElem?_append_right Zi,hl,Nat.sub_self];rfl)
 have hcur:cur[(st.length+1 - 1)*6+5]?=some v:=by
  rw [Nat.add_sub_cancel]
  exact hc2 5 v (by rw [hc1.1];rfl)
 refine (add_f (Hb:=H') Zi hcap Zi hcur h4 hX hk).mono (fun r fz' H2 hr=>?_)
 obtain ⟨rfl,rfl,v',Hl',rfl,hG⟩:=hr
 refine ⟨rfl,rfl,go,cap,_,ls'++ [lvC (e.add X) v'],H'++Hl',rfl,?_,ls',H',v',Hl',rfl,rfl,h3,by rw [show (e.add X).kids=e.kids++ [X] from rfl,List.length_append];exact hG,h5⟩
 rw [Nat.add_sub_cancel]
 obtain ⟨Av,cv,rfl,_,_⟩:=hG.form
 exact hB.cell (o:=5) Zh (fun cs hcs=>⟨by rw [hcs.1];rfl,rfl,by intro u hu;simp [lvC] at hu;rcases hu with rfl | rfl | rfl | rfl | rfl | rfl<;>rfl⟩)
def StopP (b:UInt8):Prop:=SepP b.toNat∨b=40∨b=41∨b=59
def tokL:List UInt8→Nat
 | []=>0
 | b::r=>if StopP b then 0 else 1+tokL r
def tokE (t:Bs) (a:Nat):Nat:=a+tokL (t.data.toList.drop a)
theorem Yg8 {t:Bs} {a:Nat} {b:UInt8} (h:t[a]?=some b) (hb:StopP b):tokE t a=a:=by
 unfold tokE;rw [W9 h,tokL,if_pos hb];rfl
theorem Yil {t:Bs} {a:Nat} {b:UInt8} (h:t[a]?=some b) (hb:¬StopP b):tokE t a=tokE t (a+1):=by
 unfold tokE;rw [W9 h,tokL,if_neg hb];omega
theorem tokE_end {t:Bs} {a:Nat} (h:t.size≤a):tokE t a=a:=by
 have:t.data.toList.drop a=[]:=List.drop_eq_nil_of_le (by rw [XA];omega)
 unfold tokE;rw [this];rfl
theorem Yij:∀ (l:List UInt8),tokL l≤l.length
 | []=>by simp [tokL]
 | b::r=>by
  have:=Yij r
  rw [tokL,List.length_cons];split<;>omega
def tokX (s:Bs) (p:Int × Int):Except Int Sexpr:=
 if NumP s then match valS s with
  | none=>.error 1
  | some v=>.ok (.mk 2 v p.1 p.2 ⟨#[]⟩ [])
 else if LowP s then .ok (.mk 1 0 p.1 p.2 (lowS s) []) else .error 8
def addM (a n:Nat) (X:Sexpr):List Lev→Except Int (Nat × Nat × List Lev)
 | []=>.error 0
 | e::r=>.ok (a,n,e.add X::r)
def tokM (t:Bs) (a n:Nat) (st:List Lev):Except Int (Nat × Nat × List Lev):=
 match tokX (t.extract a (tokE t a)) (posA t a) with
 | .error c=>.error c
 | .ok X=>if n=4096 then .error 5 else addM (tokE t a) (n+1) X st
def RdR (fz:FZ) (gr:Nat) (t:Bs) (a n:Nat) (st:List Lev) (x:Except Int (Nat × Nat × List Lev)) (v:Value) (H:HP):Prop:=
 match x with
 | .error c=>v=errV c∧RdS fz gr t a n st H
 | .ok (a',n',st')=>v=.nilIface∧RdS fz gr t a' n' st' H
def kPar:Bs:=⟨#[40,41,59]⟩
theorem YjB {b:UInt8} (h:¬SepP b.toNat):0≤Lib.indexByte kPar.data.toList ((b.toNat:Int).toNat).toUInt8↔StopP b:=by
 rw [YcT,XG]
 show b∈ [40,41,59]↔_
 unfold StopP
 simp [h]
theorem YkN:∀ (l:List UInt8) (n m:Nat),n≤1099511627776→valD l n=some m→m≤1099511627776
 | [],n,m,h,e=>by rw [valD] at e;injection e with e;omega
 | b::r,n,m,h,e=>by
  rw [valD] at e
  split at e
  ·cases e
  ·exact YkN r _ m Zi e
theorem valS_le {s:Bs} {v:Int} (h:valS s=some v): -1099511627776≤v∧v≤1099511627776:=by
 unfold valS at h
 cases hd:valD (W3 s Wr).data.toList 0 with
 | none=>rw [hd] at h;cases h
 | some m=>
  rw [hd] at h
  have:=YkN _ _ _ Zh hd
  have h:(if PreP s Wr then -(m:Int) else m)=v:=by simpa using h
  split at h<;>omega
set_option maxHeartbeats 8000000 in
theorem token_f {gr a:Nat} {t:Bs} {e:Lev} {st:List Lev} (h:RdS fz gr t a n (e::st) H) (ht:t.size≤1000000) (ha:a≤t.size) (hn:n≤4096) (hN:lvN (e::st)≤n+1) (hst:st.length≤900):
 GFn prog 135 [.pointer (some ⟨gr,0,none⟩)] fz H (fun r fz' H'=>fz'=fz∧RdR fz gr t a n (e::st) (tokM t a n (e::st)) r H'):=by
 have hbd:=YeD t a
 have hek:e.kids.length≤1000000:=by have:=YlN (st:=e::st) (e:=e) (by simp);omega
 have h':=h
 obtain ⟨go,cap,cur,ls,Hk,hH,hB,hL⟩:=h'
 subst hH
 have hunf:=rdO.eq_1 t a n (.slice (some ⟨go,0,none⟩) (e::st).length cap)
 have hX0:tokM t a n (e::st)=match tokX (t.extract a (tokE t a)) (posA t a) with
  | .error c=>.error c
  | .ok X=>if n=4096 then .error 5 else addM (tokE t a) (n+1) X (e::st):=rfl
 have hEs:tokE t a≤t.size:=by
  have:=Yij (t.data.toList.drop a)
  rw [List.length_drop,XA] at this
  unfold tokE;omega
 have hEa:a≤tokE t a:=by unfold tokE;omega
 generalize hrest:((go,Obj.cells (List.toArray cur) 57 (0,0))::Hk)=Hr at*
 generalize hv0:Value.slice (some ⟨go,0,none⟩) (e::st).length cap=v0 at*
 rw [hunf]
 refine zF Tryz.func135 Tryz.ntmps135 (fun w0=>?_)
 refine zW ?_;intros
 refine Wp.drawK (Hq:=(gr,_)::Hr) T.mixed Zj Zj Zb ?_
 refine zW ?_;intros
 refine Yf ?_
 refine Yf ?_
 refine YM ⟨by kernel_rfl,?_⟩
 refine Yt (YX T Zz Zz (fun g3=>⟨(⟨(Le.refl _),Zp3⟩),?_⟩))
 refine Ch.hard0 Zj (YP T Zz Zz Zz Zz Zz Zz ?_)
 refine Ch.done ?_
 refine zWX ?_;intros
 refine Yk ?_
 refine zWX ?_;intros
 refine Yk ?_
 refine zWX ?_;intros
 refine Yk (Wp.mid (fun σ fz' H'=>σ=[(5,.int .i64 (tokE t a)),(4,.int .i64 a),(3,.pointer (some ⟨g3,0,none⟩)),(0,.pointer (some ⟨gr,0,none⟩))]∧fz=fz'∧H'=(g3,.cells #[.int .i64 0,.int .i64 0,.int .i64 (posA t a).1,.int .i64 (posA t a).2,.string ⟨#[]⟩,.slice none 0 0] 57 (0,0))::(gr,rdO t a n v0)::Hr) ?_ ?_)
 ·refine zW ?_;intros
  refine Yl (fun q σ fz' H'=>∃ k:Nat,k≤t.size∧q=t.size - k∧σ=[(5,.int .i64 k),(4,.int .i64 a),(3,.pointer (some ⟨g3,0,none⟩)),(0,.pointer (some ⟨gr,0,none⟩))]∧fz=fz'∧H'=(g3,.cells #[.int .i64 0,.int .i64 0,.int .i64 (posA t a).1,.int .i64 (posA t a).2,.string ⟨#[]⟩,.slice none 0 0] 57 (0,0))::(gr,rdO t a n v0)::Hr∧tokE t k=tokE t a) ⟨a,ha,rfl,rfl,rfl,rfl,rfl⟩ Zw Zb ?_
  rintro q σ fz' H' ⟨k,hk,rfl,rfl,rfl,rfl,hE⟩
  rw [hunf]
  refine zW ?_;intros
  refine zC (fun c1=>?_) (fun c1=>?_)
  ·obtain ⟨b,hb,hb2⟩:=XV (s:=t) (k:=k) Zi
   refine zW ?_;intros
   ((refine zG ?_);refine Xl T Zz Zz Zz Zz Zi (by rw [Int.toNat_natCast];exact hb) ?_)
   refine zW ?_;intros
   refine zb (sep_q (n:=b.toNat)) (fun f1=>?_) (fun f1=>?_)
   ·rw [Yg8 hb (.inl (Zt f1))] at hE
    subst hE
    refine zW ?_;intros
    exact midN ⟨rfl,rfl,rfl⟩ Zw Zb
   ·have hns:=Zf f1
    refine zW ?_;intros
    ((refine zG ?_);refine Xl T Zz Zz Zz Zz Zi (by rw [Int.toNat_natCast];exact hb) ?_)
    refine zW ?_;intros
    refine zc (ibs_q (s:=kPar) (n:=b.toNat)) ?_
    refine zW ?_;intros
    refine zC (fun c2=>?_) (fun c2=>?_)
    ·have hst:¬StopP b:=fun h=>by have:=(YjB hns).2 h;omega
     refine zW ?_;intros
     exact Yz ⟨k+1,by omega,rfl,rfl,rfl,rfl,by rw [← Yil hb hst];exact hE⟩ Zi Zw Zb
    ·rw [Yg8 hb ((YjB hns).1 Zi)] at hE
     subst hE
     refine zW ?_;intros
     exact midN ⟨rfl,rfl,rfl⟩ Zw Zb
  ·rw [tokE_end Zi] at hE
   subst hE
   refine zW ?_;intros
   exact midN ⟨rfl,rfl,rfl⟩ Zw Zb
 rintro σ fz' H' ⟨rfl,rfl,rfl⟩
 generalize hE:tokE t a=E at*
 rw [hunf]
 refine Yk ?_
 refine zWX ?_;intros
 refine zG ?_;refine Yll T Zz Zz Zz Zz Zz hEa hEs ?_
 refine zWX ?_;intros
 generalize hs:t.extract a E=s at*
 have hsz:s.size≤1000000:=by rw [← hs,ByteArray.size_extract];omega
 have hsh:Short s:=by unfold Short;omega
 refine Yk (Wp.mid (fun σ fz' H'=>∃ X:Sexpr,σ=[(5,.int .i64 E),(3,.pointer (some ⟨g3,0,none⟩)),(0,.pointer (some ⟨gr,0,none⟩))]∧fz=fz'∧H'=(g3,.cells #[.int .i64 X.kind,.int .i64 X.value,.int .i64 X.line,.int .i64 X.column,.string X.text,.slice none 0 0] 57 (0,0))::(gr,rdO t a n v0)::Hr∧tokX s (posA t a)=.ok X∧YW fz' X (.slice none 0 0)) ?_ ?_)
 ·refine zW ?_;intros
  refine zb (Yhx hsh) (fun f1=>?_) (fun f1=>?_)
  ·have hnum:=Zt f1
   have hX1:tokX s (posA t a)=match valS s with
    | none=>.error 1
    | some v=>.ok (.mk 2 v (posA t a).1 (posA t a).2 ⟨#[]⟩ []):=by unfold tokX;exact if_pos hnum
   have hcall:=value_q (fz:=fz) hsz hnum
   cases hv:valS s with
   | none=>
    rw [hv] at hX1 hcall
    have hX2:tokX s (posA t a)=.error 1:=hX1
    rw [hX2] at hX0
    refine zW ?_;intros
    refine zc hcall ?_
    refine zW ?_;intros
    exact ret1 (H':=(gr,rdO t a n v0)::Hr) rfl rfl Zb ⟨rfl,by rw [hX0];exact ⟨(Yj Zh).symm,h⟩⟩
   | some v=>
    rw [hv] at hX1 hcall
    have hvb:=valS_le hv
    refine zW ?_;intros
    refine zc hcall ?_
    refine zW ?_;intros
    exact midN ⟨.mk 2 v (posA t a).1 (posA t a).2 ⟨#[]⟩ [],rfl,rfl,rfl,hX1,⟨by unfold I64;show _∧_;simp [Sexpr.kind],by show I64 v;unfold I64;omega,by show I64 (posA t a).1;unfold I64;omega,by show I64 (posA t a).2;unfold I64;omega,by show (ByteArray.mk #[]).size≤_;decide,IsSl.nil⟩⟩ Zw Zb
  ·have hnum:=Zf f1
   have hX1:tokX s (posA t a)=if LowP s then .ok (.mk 1 0 (posA t a).1 (posA t a).2 (lowS s) []) else .error 8:=by unfold tokX;rw [if_neg hnum]
   have hcall:=YiF (fz:=fz) (s:=s)
   by_cases hl:LowP s
   ·rw [if_pos hl,decide_eq_true hl] at hcall
    rw [if_pos hl] at hX1
    refine zW ?_;intros
    refine zc hcall ?_
    refine zW ?_;intros
    exact midN ⟨.mk 1 0 (posA t a).1 (posA t a).2 (lowS s) [],rfl,rfl,rfl,hX1,⟨by unfold I64;show _∧_;simp [Sexpr.kind],by unfold I64;show _∧_;simp [Sexpr.value],by show I64 (posA t a).1;unfold I64;omega,by show I64 (posA t a).2;unfold I64;omega,by show (lowS s).size≤_;rw [YhB];exact hsh,IsSl.nil⟩⟩ Zw Zb
   ·rw [if_neg hl,decide_eq_false hl] at hcall
    rw [if_neg hl] at hX1
    rw [hX1] at hX0
    refine zW ?_;intros
    refine zc hcall ?_
    refine zW ?_;intros
    exact ret1 (H':=(gr,rdO t a n v0)::Hr) rfl rfl Zb ⟨rfl,by rw [hX0];exact ⟨(Yj Zh).symm,h⟩⟩
 rintro σ fz' H' ⟨X,rfl,rfl,rfl,hX1,hXR⟩
 rw [hX1] at hX0
 rw [hunf]
 refine zW ?_;intros
 refine zC (fun c4=>?_) (fun c4=>?_)
 ·have hn4:n=4096:=by omega
  refine zW ?_;intros
  exact ret1 (H':=(gr,rdO t a n v0)::Hr) rfl rfl Zb ⟨rfl,by rw [hX0];simp only [hn4,if_true];exact ⟨(Yj Zh).symm,hn4 ▸ h⟩⟩
 ·have hn4:¬n=4096:=by omega
  have hX3:tokM t a n (e::st)=.ok (E,n+1,e.add X::st):=by rw [hX0];simp only [hn4,if_false];rfl
  have h1:RdS fz gr t a (n+1) (e::st) ((gr,rdO t a (n+1:Nat) v0)::Hr):=by
   rw [← hv0,← hrest]
   exact ⟨go,cap,cur,ls,Hk,rfl,hB,hL⟩
  have hunf1:=rdO.eq_1 t a (n+1:Nat) v0
  rw [hunf1] at h1
  refine zW ?_;intros
  refine Ya Zz (Does.perm (Zq (l₁:=(gr,_)::Hr) (l₂:=[(g3,_)])) (Ym ((gr,_)::Hr) [(g3,_)] Zz Zz Zz (add_s h1 hXR hek hst) (fun r1 fz1 H1 hle1 hR1=>?_)))
  obtain ⟨rfl,rfl,hR1⟩:=hR1
  have hR2:=hR1
  obtain ⟨go1,cap1,cur1,ls1,Hk1,rfl,hB1,hL1⟩:=hR1
  generalize hrest1:((go1,Obj.cells (List.toArray cur1) 57 (0,0))::Hk1)=Hr1 at*
  generalize hv1:Value.slice (some ⟨go1,0,none⟩) (e.add X::st).length cap1=v1 at*
  rw [List.cons_append]
  refine zW ?_;intros
  refine Yl (fun q σ fz' H'=>∃ k:Nat,k≤E∧q=E - k∧σ=[(5,.int .i64 E),(0,.pointer (some ⟨gr,0,none⟩))]∧fz1=fz'∧H'=(gr,rdO t k (n+1:Nat) v1)::Hr1) ⟨a,hEa,rfl,rfl,rfl,rfl⟩ Zw (List.Sublist.cons_cons _ (List.sublist_append_left _ _)) ?_
  rintro q σ fz' H' ⟨k,hk,rfl,rfl,rfl,rfl⟩
  have hunf2:=rdO.eq_1 t k (n+1:Nat) v1
  rw [hunf2]
  refine zW ?_;intros
  refine zC (fun c5=>?_) (fun c5=>?_)
  ·refine zW ?_;intros
   refine Ya Zz (Ym [(gr,rdO t k (n+1:Nat) v1)] Hr1 Zz Zz Zz (Yjn ht Zi) (fun r2 fz2 H2 hle2 hR3=>?_))
   obtain ⟨rfl,rfl,rfl⟩:=hR3
   refine zW ?_;intros
   exact Yz ⟨k+1,by omega,rfl,rfl,rfl,rfl⟩ Zi Zw Zb
  ·have hkE:k=E:=by omega
   subst hkE
   refine zW ?_;intros
   exact ret1 (H':=(gr,rdO t k (n+1:Nat) v1)::Hr1) rfl rfl Zb ⟨rfl,by rw [hX3];exact ⟨rfl,go1,cap1,cur1,ls1,Hk1,by rw [← hv1,← hrest1],hB1,hL1⟩⟩
end Go.Proofs.YtfjopfinkdhmaaaGreatDoor
