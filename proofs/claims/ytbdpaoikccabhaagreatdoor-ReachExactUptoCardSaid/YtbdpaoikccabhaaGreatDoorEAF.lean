/- The texts Tab, PWalkA, PWalkB, PWalkC, PWalkD, PPlain, PWalkE, laid together. Conditions: none. -/
import Derived.Test.YtbdpaoikccabhaaGreatDoorEAVRowEA
import Derived.Test.YtbdpaoikccabhaaGreatDoorProg
set_option linter.all false
set_option maxHeartbeats 2000000
noncomputable section
open Go.Lx Go.RowKit
attribute [local instance 10] Classical.propDecidable
open Go.Proofs.Tryz (prog)
namespace Go.Proofs.YtbdpaoikccabhaaGreatDoor
open Go.Lx
set_option maxRecDepth 100000
theorem allTy_of {P:Program}:∀ l:List (Nat × Ty),(l.map fun p=>(P.underlying p.1).map Lx.blank)=(l.map fun p=>some p.2.desc)->(l.map fun p=>(P.info? p.1).map fun i=>(i.size,i.bytes,i.zero))=(l.map fun p=>some (p.2.size,p.2.bytes,some p.2.zero))->AllTy P l
 |[],_,_=>trivial
 |p::r,h,g=>by
  simp only [List.map_cons,List.cons.injEq] at h g;exact ⟨TyOk.mk' h.1 g.1,allTy_of r h.2 g.2⟩
def tabL:List (Nat × Ty):=[(2,⟨.int .i64,1,8,Zk 0⟩),(3,⟨.int .i64,1,8,Zk 0⟩),(4,⟨.bool,1,1,.bool false⟩),(5,⟨.int .u8,1,1,.int .u8 0⟩),(6,⟨.int .u8,1,1,.int .u8 0⟩),(7,⟨.struct #[fld 2 0,fld 3 1,fld 4 2,fld 6 3],4,24,.agg #[(Zk 0),Zk 0,.bool false,(.int .u8 0)]⟩),(9,⟨.string,1,16,Ze⟩),(12,⟨.int .u64,1,8,.int .u64 0⟩),(13,⟨.struct #[fld 9 0,fld 12 1],2,24,.agg #[Ze,(.int .u64 0)]⟩),(14,⟨.struct #[fld 9 0,fld 12 1],2,24,.agg #[Ze,(.int .u64 0)]⟩),(21,⟨.int .i32,1,4,.int .i32 0⟩),(22,⟨.slice 86,1,24,Zn⟩),(23,⟨.slice 98,1,24,Zn⟩),(24,⟨.slice 202,1,24,Zn⟩),(25,⟨.slice 67,1,24,Zn⟩),(26,⟨.slice 102,1,24,Zn⟩),(27,⟨.struct #[fld 9 0,fld 22 1,fld 22 2,fld 23 3,fld 24 4,fld 25 5,fld 26 6],7,160,.agg #[Ze,Zn,Zn,Zn,Zn,Zn,Zn]⟩),(28,⟨.struct #[fld 9 0,fld 22 1,fld 22 2,fld 23 3,fld 24 4,fld 25 5,fld 26 6],7,160,.agg #[Ze,Zn,Zn,Zn,Zn,Zn,Zn]⟩),(29,⟨.slice 59,1,24,Zn⟩),(30,⟨.slice 117,1,24,Zn⟩),(31,⟨.slice 9,1,24,Zn⟩),(32,⟨.slice 69,1,24,Zn⟩),(33,⟨.slice 35,1,24,Zn⟩),(34,⟨.struct #[fld 9 0,fld 9 1,fld 31 2,fld 22 3,fld 32 4,fld 33 5],6,128,.agg #[Ze,Ze,Zn,Zn,Zn,Zn]⟩),(35,⟨.struct #[fld 9 0,fld 9 1,fld 31 2,fld 22 3,fld 32 4,fld 33 5],6,128,.agg #[Ze,Ze,Zn,Zn,Zn,Zn]⟩),(36,⟨.struct #[fld 9 0,fld 9 1,fld 22 2,fld 29 3,fld 30 4,fld 35 5],11,232,.agg #[Ze,Ze,Zn,Zn,Zn,Ze,Ze,Zn,Zn,Zn,Zn]⟩),(37,⟨.struct #[fld 9 0,fld 9 1,fld 22 2,fld 29 3,fld 30 4,fld 35 5],11,232,.agg #[Ze,Ze,Zn,Zn,Zn,Ze,Ze,Zn,Zn,Zn,Zn]⟩),(40,⟨.struct #[fld 29 0,fld 30 1],2,48,.agg #[Zn,Zn]⟩),(41,⟨.struct #[fld 29 0,fld 30 1],2,48,.agg #[Zn,Zn]⟩),(42,⟨.interface #[],1,16,.nilIface⟩),(43,⟨.interface #[],1,16,.nilIface⟩),(49,⟨.slice 54,1,24,Zn⟩),(53,⟨.struct #[fld 3 0,fld 9 1,fld 31 2],3,48,.agg #[(Zk 0),Ze,Zn]⟩),(54,⟨.struct #[fld 3 0,fld 9 1,fld 31 2],3,48,.agg #[(Zk 0),Ze,Zn]⟩),(58,⟨.struct #[fld 9 0,fld 31 1],2,40,.agg #[Ze,Zn]⟩),(59,⟨.struct #[fld 9 0,fld 31 1],2,40,.agg #[Ze,Zn]⟩),(60,⟨.pointer 114,1,8,.pointer none⟩),(65,⟨.slice 71,1,24,Zn⟩),(66,⟨.struct #[fld 9 0,fld 22 1,fld 3 2,fld 35 3,fld 65 9],10,200,.agg #[Ze,Zn,Zk 0,Ze,Ze,Zn,Zn,Zn,Zn,Zn]⟩),(67,⟨.struct #[fld 9 0,fld 22 1,fld 3 2,fld 35 3,fld 65 9],10,200,.agg #[Ze,Zn,Zk 0,Ze,Ze,Zn,Zn,Zn,Zn,Zn]⟩),(68,⟨.struct #[fld 9 0,fld 9 1,fld 3 2,fld 31 3,fld 32 4],5,88,.agg #[Ze,Ze,Zk 0,Zn,Zn]⟩),(69,⟨.struct #[fld 9 0,fld 9 1,fld 3 2,fld 31 3,fld 32 4],5,88,.agg #[Ze,Ze,Zk 0,Zn,Zn]⟩),(70,⟨.struct #[fld 3 0,fld 22 1,fld 35 2,fld 9 8,fld 31 9,fld 69 10],15,288,.agg #[(Zk 0),Zn,Ze,Ze,Zn,Zn,Zn,Zn,Ze,Zn,Ze,Ze,Zk 0,Zn,Zn]⟩),(71,⟨.struct #[fld 3 0,fld 22 1,fld 35 2,fld 9 8,fld 31 9,fld 69 10],15,288,.agg #[(Zk 0),Zn,Ze,Ze,Zn,Zn,Zn,Zn,Ze,Zn,Ze,Ze,Zk 0,Zn,Zn]⟩),(72,⟨.pointer 127,1,8,.pointer none⟩),(78,⟨.slice 104,1,24,Zn⟩),(79,⟨.map 9 59,1,8,.map none⟩),(80,⟨.map 9 59,1,8,.map none⟩),(81,⟨.slice 105,1,24,Zn⟩),(82,⟨.struct #[fld 72 0,fld 78 1,fld 80 2,fld 81 3,fld 81 4],5,88,.agg #[(.pointer none),Zn,.map none,Zn,Zn]⟩),(83,⟨.struct #[fld 72 0,fld 78 1,fld 80 2,fld 81 3,fld 81 4],5,88,.agg #[(.pointer none),Zn,.map none,Zn,Zn]⟩),(85,⟨.struct #[fld 9 0,fld 9 1],2,32,.agg #[Ze,Ze]⟩),(86,⟨.struct #[fld 9 0,fld 9 1],2,32,.agg #[Ze,Ze]⟩),(88,⟨.int .i64,1,8,Zk 0⟩),(89,⟨.slice 31,1,24,Zn⟩),(97,⟨.struct #[fld 9 0,fld 22 1],2,40,.agg #[Ze,Zn]⟩),(98,⟨.struct #[fld 9 0,fld 22 1],2,40,.agg #[Ze,Zn]⟩),(101,⟨.struct #[fld 9 0,fld 22 1,fld 3 2,fld 35 3,fld 35 9,fld 35 15,fld 65 21,fld 65 22],23,480,.agg #[Ze,Zn,Zk 0,Ze,Ze,Zn,Zn,Zn,Zn,Ze,Ze,Zn,Zn,Zn,Zn,Ze,Ze,Zn,Zn,Zn,Zn,Zn,Zn]⟩),(102,⟨.struct #[fld 9 0,fld 22 1,fld 3 2,fld 35 3,fld 35 9,fld 35 15,fld 65 21,fld 65 22],23,480,.agg #[Ze,Zn,Zk 0,Ze,Ze,Zn,Zn,Zn,Zn,Ze,Ze,Zn,Zn,Zn,Zn,Ze,Ze,Zn,Zn,Zn,Zn,Zn,Zn]⟩),(103,⟨.struct #[fld 9 0,fld 22 1,fld 35 2,fld 35 8,fld 35 14,fld 35 20,fld 65 26,fld 65 27,fld 4 28,fld 89 29],30,632,.agg #[Ze,Zn,Ze,Ze,Zn,Zn,Zn,Zn,Ze,Ze,Zn,Zn,Zn,Zn,Ze,Ze,Zn,Zn,Zn,Zn,Ze,Ze,Zn,Zn,Zn,Zn,Zn,Zn,.bool false,Zn]⟩),(104,⟨.struct #[fld 9 0,fld 22 1,fld 35 2,fld 35 8,fld 35 14,fld 35 20,fld 65 26,fld 65 27,fld 4 28,fld 89 29],30,632,.agg #[Ze,Zn,Ze,Ze,Zn,Zn,Zn,Zn,Ze,Ze,Zn,Zn,Zn,Zn,Ze,Ze,Zn,Zn,Zn,Zn,Ze,Ze,Zn,Zn,Zn,Zn,Zn,Zn,.bool false,Zn]⟩),(105,⟨.slice 4,1,24,Zn⟩),(109,⟨.pointer 232,1,8,.pointer none⟩),(113,⟨.struct #[fld 28 0,fld 37 7,fld 109 18,fld 22 19],20,424,.agg #[Ze,Zn,Zn,Zn,Zn,Zn,Zn,Ze,Ze,Zn,Zn,Zn,Ze,Ze,Zn,Zn,Zn,Zn,.pointer none,Zn]⟩),(114,⟨.struct #[fld 28 0,fld 37 7,fld 109 18,fld 22 19],20,424,.agg #[Ze,Zn,Zn,Zn,Zn,Zn,Zn,Ze,Ze,Zn,Zn,Zn,Ze,Ze,Zn,Zn,Zn,Zn,.pointer none,Zn]⟩),(116,⟨.struct #[fld 59 0,fld 3 2],3,48,.agg #[Ze,Zn,(Zk 0)]⟩),(117,⟨.struct #[fld 59 0,fld 3 2],3,48,.agg #[Ze,Zn,(Zk 0)]⟩),(125,⟨.map 9 4,1,8,.map none⟩),(126,⟨.struct #[fld 28 0,fld 37 7,fld 109 18,fld 22 19,fld 125 20,fld 80 21],22,440,.agg #[Ze,Zn,Zn,Zn,Zn,Zn,Zn,Ze,Ze,Zn,Zn,Zn,Ze,Ze,Zn,Zn,Zn,Zn,.pointer none,Zn,.map none,(.map none)]⟩),(127,⟨.struct #[fld 28 0,fld 37 7,fld 109 18,fld 22 19,fld 125 20,fld 80 21],22,440,.agg #[Ze,Zn,Zn,Zn,Zn,Zn,Zn,Ze,Ze,Zn,Zn,Zn,Ze,Ze,Zn,Zn,Zn,Zn,.pointer none,Zn,.map none,(.map none)]⟩),(146,⟨.slice 148,1,24,Zn⟩),(147,⟨.struct #[fld 3 0,fld 3 1,fld 3 2,fld 3 3,fld 9 4,fld 146 5],6,72,.agg #[(Zk 0),Zk 0,Zk 0,Zk 0,Ze,Zn]⟩),(148,⟨.struct #[fld 3 0,fld 3 1,fld 3 2,fld 3 3,fld 9 4,fld 146 5],6,72,.agg #[(Zk 0),Zk 0,Zk 0,Zk 0,Ze,Zn]⟩),(153,⟨.map 9 22,1,8,.map none⟩),(154,⟨.map 9 202,1,8,.map none⟩),(155,⟨.map 9 9,1,8,.map none⟩),(156,⟨.struct #[fld 28 0,fld 37 7,fld 109 18,fld 153 19,fld 154 20,fld 155 21,fld 22 22],23,448,.agg #[Ze,Zn,Zn,Zn,Zn,Zn,Zn,Ze,Ze,Zn,Zn,Zn,Ze,Ze,Zn,Zn,Zn,Zn,.pointer none,.map none,.map none,.map none,Zn]⟩),(157,⟨.struct #[fld 28 0,fld 37 7,fld 109 18,fld 153 19,fld 154 20,fld 155 21,fld 22 22],23,448,.agg #[Ze,Zn,Zn,Zn,Zn,Zn,Zn,Ze,Ze,Zn,Zn,Zn,Ze,Ze,Zn,Zn,Zn,Zn,.pointer none,.map none,.map none,.map none,Zn]⟩),(158,⟨.slice 3,1,24,Zn⟩),(167,⟨.int .u64,1,8,.int .u64 0⟩),(174,⟨.func #[] #[] false,1,8,.nilFunc⟩),(201,⟨.struct #[fld 9 0,fld 22 1,fld 3 2,fld 3 3],4,56,.agg #[Ze,Zn,Zk 0,(Zk 0)]⟩),(202,⟨.struct #[fld 9 0,fld 22 1,fld 3 2,fld 3 3],4,56,.agg #[Ze,Zn,Zk 0,(Zk 0)]⟩),(207,⟨.struct #[fld 4 0],1,1,.agg #[(.bool false)]⟩),(208,⟨.struct #[fld 4 0],1,1,.agg #[(.bool false)]⟩),(222,⟨.func #[] #[] false,1,8,.nilFunc⟩),(231,⟨.struct #[fld 155 0],1,8,.agg #[(.map none)]⟩),(232,⟨.struct #[fld 155 0],1,8,.agg #[(.map none)]⟩),(242,⟨.int .u32,1,4,.int .u32 0⟩),(260,⟨.struct #[fld 3 0],1,8,.agg #[(Zk 0)]⟩),(261,⟨.struct #[fld 3 0],1,8,.agg #[(Zk 0)]⟩),(273,⟨.slice 276,1,24,Zn⟩),(274,⟨.array 3 273,3,72,.agg #[Zn,Zn,Zn]⟩),(275,⟨.struct #[fld 9 0,fld 9 1],2,32,.agg #[Ze,Ze]⟩),(276,⟨.struct #[fld 9 0,fld 9 1],2,32,.agg #[Ze,Ze]⟩),(280,⟨.slice 65,1,24,Zn⟩),(321,⟨.slice 5,1,24,Zn⟩),(349,⟨.int .u16,1,2,.int .u16 0⟩),(350,⟨.slice 349,1,24,Zn⟩),(352,⟨.slice 242,1,24,Zn⟩)]
theorem tabL_ok:AllTy prog tabL:=allTy_of _ (by kernel_rfl) (by kernel_rfl)
def T:Tab prog:=⟨tabL,tabL_ok,by kernel_rfl⟩
end Go.Proofs.YtbdpaoikccabhaaGreatDoor
set_option maxRecDepth 20000
namespace Go.Proofs.YtbdpaoikccabhaaGreatDoor
variable {α β:Type} {k i j c n g:Nat} {s:Bs} {fz fz':FZ} {A:Option Addr} {t:TypeId} {v va vk ve vp:Value} {f:Formula} {l:List α} {L:Lay α}
def Ya2 (s:Bs) (i:Nat):Nat:=((s[i]?).map UInt8.toNat).getD 0
theorem Ybx (h:k<s.size):∃ b:UInt8,s[k]?=some b/\Ya2 s k=b.toNat:=by
 refine ⟨s[k],getElem?_pos s k h,?_⟩;simp [Ya2,getElem?_pos s k h]
def DigP (n:Int):Prop:=48<=n/\n<=57
instance {n:Int}:Decidable (DigP n):=inferInstanceAs (Decidable (_/\_))
theorem Yjb {n:Int}:QFn prog 262 [.int .u8 n] fz (Zo (decide (DigP n))):=by
 refine qF Tryz.func262 Tryz.ntmps262 (fun w0=>?_);refine wC ?_ ?_<;>intro c1
 ·refine wC ?_ ?_<;>intro c2
  ·exact wR (h:=by exact (Ys ⟨c1,c2⟩))
  exact wR (h:=by exact Yj (fun h=>c2 h.2))
 exact wR (h:=by exact Yj (fun h=>c1 h.1))
def PreP (s p:Bs):Prop:=p.size<=s.size/\s.extract 0 p.size=p
instance {s p:Bs}:Decidable (PreP s p):=inferInstanceAs (Decidable (_/\_))
def YcP (s p:Bs):Bs:=if PreP s p then s.extract p.size s.size else s
theorem Yc7 (h:j<=s.size):(s.extract i j).size=j - i:=by
 simp [ByteArray.size_extract,Nat.min_eq_left h]
theorem Yne {p:Bs} (h:Short s):Short (YcP s p):=by
 unfold YcP Short at*;split
 ·rw [Yc7 (Zs _)];omega
 exact h
theorem YgQ {p:Bs} (_hs:Short s) (hp:Short p):QFn prog 278 [Zy s,Zy p] fz (Zo (decide (PreP s p))):=by
 unfold Short at hp;refine qF Tryz.func278 Tryz.ntmps278 (fun w0=>?_);refine wC ?_ ?_<;>intro c1
 ·refine wG ?_;refine q_str_to T Zz Zz Zz Zz Zi Zi ?_;refine wC ?_ ?_<;>intro c2
  ·exact wR (h:=by exact (Ys ⟨by omega,by simpa using c2⟩))
  exact wR (h:=by exact Yj (fun h=>c2 (by simpa using h.2)))
 exact wR (h:=by exact Yj (fun h=>by have:=h.1;omega))
theorem Yio {p:Bs} (hs:Short s) (hp:Short p):QFn prog 277 [Zy s,Zy p] fz (Zy (YcP s p)):=by
 refine qF Tryz.func277 Tryz.ntmps277 (fun w0=>?_);refine wb (YgQ hs hp) (fun f1=>?_) (fun f1=>?_)
 ·have hc:=Zt f1;have:=hc.1;refine wG ?_;refine YeR ?_ (h1:=by omega);exact wR (h:=by rw [YcP,if_pos hc];rfl)
 have hc:=Zf f1;exact wR (h:=by rw [YcP,if_neg hc])
theorem YjD {p:Bs} (hs:Short s) (hp:Short p):QFn prog 264 [Zy s,Zy p] fz (Zy (YcP s p)):=by
 refine qF Tryz.func264 Tryz.ntmps264 (fun w0=>?_);refine wc (Yio hs hp) ?_;exact wR (h:=rfl)
def Yb7:Bs:=⟨#[45]⟩
def YaD:Bs:=⟨#[]⟩
def NumP (s:Bs):Prop:=(∀ i,i<(YcP s Yb7).size->DigP (Ya2 (YcP s Yb7) i))/\YcP s Yb7≠YaD
open Classical in
theorem Yo6 (hs:Short s):QFn prog 245 [Zy s] fz (Zo (decide (NumP s))):=by
 refine qF Tryz.func245 Tryz.ntmps245 (fun w0=>?_);refine wG ?_;refine Yt (YjD (p:=Yb7) hs (by unfold Short Yb7;decide)) ?_;have hz:(YcP s Yb7).size<=9223372036854775807:=Yne hs;refine zW ?_;refine WD ((YcP s Yb7).size) (fun k=>[(8,Zk k),(7,Zk (YcP s Yb7).size),(0,Zy (YcP s Yb7))]) [] (fun k=>(∀ i,i<k->DigP (Ya2 (YcP s Yb7) i))) (fun i hi=>absurd hi Zi) ?_;intro k hk hh;refine wC (fun hlt=>?_) (fun hge=>?_)
 ·refine zW ?_;obtain ⟨b,hb,hb2⟩:=Ybx (s:=YcP s Yb7) (k:=k) Zi
  ((refine zG ?_);refine Wj ?_ (hb:=by rw [Int.toNat_natCast];exact hb));refine wb (Yjb (n:=b.toNat)) (fun f1=>?_) (fun f1=>?_)
  ·exact wM (h:=by exact Xl hh (by rw [hb2];exact Zt f1))
  exact wR (h:=by exact Yj (fun h=>Zf f1 (by rw [<- hb2];exact h.1 k Zi)))
 refine wC ?_ ?_<;>intro c1
 ·exact wR (h:=by exact (Ys ⟨fun i hi=>hh i Zi,c1⟩))
 exact wR (h:=by exact Yj (fun h=>h.2 c1))
open Classical in
theorem YmH {l:List Bs} {x:Bs} (h1:Sl strL fz A n c l):
 QFn prog 114 [Zc A n c,Zy x] fz (Zk (W2 (fun y=>x=y) l 0)):=by
 refine qF Tryz.func114 Tryz.ntmps114 (fun w0=>?_);have l1:=h1.len;have hm:=h1.short;refine zW ?_;refine WD n (fun k=>[(8,Zk k),(7,Zk n),(0,Zc A n c),(1,Zy x)]) [] (fun k=>(∀ i,i<k->∀ y,l[i]?=some y->¬x=y)) (fun i hi=>absurd hi Zi) ?_;intro k hk hh;refine wC (fun hlt=>?_) (fun hge=>?_)
 ·refine zW ?_;obtain ⟨y,hy⟩:=Yf (l:=l) (k:=k) Zi;refine zI h1 hy (fun a ha=>?_);refine zH ha (fun iy=>?_);refine wC ?_ ?_<;>intro c1
  ·exact wR (h:=by rw [XQ hh hy c1,Int.zero_add])
  exact wM (h:=by exact YH hh hy c1)
 exact wR (h:=by rw [Xo (Xc hh Zi)])
open Classical in
theorem YdT {l:List Bs} {x:Bs} (h1:Sl strL fz A n c l):
 QFn prog 98 [Zc A n c,Zy x] fz (Zo (decide (x∈l))):=by
 refine qF Tryz.func98 Tryz.ntmps98 (fun w0=>?_);refine wc (YmH h1) ?_;refine zC ?_ ?_<;>intro c1
 ·exact wR (h:=by exact Ys (by obtain ⟨y,h,e⟩:=(Y1 (Int.le_refl 0)).1 c1;rw [e];exact h))
 exact wR (h:=by exact Yj (fun h=>c1 ((Y1 (Int.le_refl 0)).2 ⟨x,h,rfl⟩)))
theorem sl_strs {f:Nat × Nat} {l:List Bs} (h:fz g=some (.cells (l.map Value.string).toArray t f)) (hs:∀ s∈l,Short s) (hn:l.length<=140737488355328):Sl strL fz (some ⟨g,0,none⟩) l.length l.length l:=
 ⟨rfl,Zs _,by omega,hn,.inr ⟨_,rfl,fun i d hd=>⟨[Zy d],⟨rfl,hs d (Zm hd)⟩,fun j v hv=>by
  have hadd:((⟨g,0,none⟩:Addr).add (i*strL.size)).add j=⟨g,i+j,none⟩:=by
   show ((⟨g,0,none⟩:Addr).add (i*1)).add j=_;unfold Addr.add;split<;>split<;>simp_all
  rw [hadd];cases j with
  | zero=>simp at hv;subst hv;simp [Ycd,h,hd]
  | succ j=>simp at hv⟩⟩⟩
def Ybl:List Bs:=[⟨#[97,110,100]⟩,⟨#[111,114]⟩,⟨#[110,111,116]⟩,⟨#[105,109,112,108,121]⟩,⟨#[102,111,114,97,108,108]⟩,⟨#[101,120,105,115,116,115]⟩,⟨#[119,104,101,110]⟩,⟨#[97,115,115,105,103,110]⟩,⟨#[105,110,99,114,101,97,115,101]⟩,⟨#[100,101,99,114,101,97,115,101]⟩,⟨#[111,98,106,101,99,116]⟩]
theorem Ynm:GFn prog 238 [] fz [] (fun v fz' H'=>H'=[]/\∃ A,v=Zc A 11 11/\Sl strL fz' A 11 11 Ybl):=by
 refine zF Tryz.func238 Tryz.ntmps238 (fun w0=>?_);refine zW ?_;refine Yd (Yc (cs:=Ybl.map Value.string) (fun g=>?_));refine zW ?_;exact Yb1 rfl rfl (fun fz' hle hf=>⟨rfl,_,rfl,sl_strs (l:=Ybl) (hf _ (.head _)) (by intro s hs;simp only [Ybl,List.mem_cons,List.not_mem_nil,or_false] at hs;rcases hs with rfl | rfl | rfl | rfl | rfl | rfl | rfl | rfl | rfl | rfl | rfl<;>(unfold Short;decide)) Zh⟩)
def LetP (n:Int):Prop:=97<=n/\n<=122
def Yba (s:Bs) (i:Nat):Prop:=LetP (Ya2 s i)\/(i≠0/\(DigP (Ya2 s i)\/(Ya2 s i:Int)=45\/(Ya2 s i:Int)=95))
def Xk (s:Bs):Prop:=(∀ i,i<s.size->Yba s i)/\s≠YaD/\s.size<=32/\s ∉ Ybl
open Classical in
theorem YaY (hs:Short s):QFn prog 192 [Zy s] fz (Zo (decide (Xk s))):=by
 have hz:s.size<=9223372036854775807:=hs;refine qF Tryz.func192 Tryz.ntmps192 (fun w0=>?_);refine zW ?_;refine WD (s.size) (fun k=>[(8,Zk k),(7,Zk s.size),(0,Zy s)]) [] (fun k=>(∀ i,i<k->Yba s i)) (fun i hi=>absurd hi Zi) ?_;intro k hk hh;refine wC (fun hlt=>?_) (fun hge=>?_)
 ·refine zW ?_;obtain ⟨b,hb,hb2⟩:=Ybx (s:=s) (k:=k) Zi;have bad:¬Yba s k->¬Xk s:=fun h hc=>h (hc.1 k Zi)
  ((refine zG ?_);refine Wj ?_ (hb:=by rw [Int.toNat_natCast];exact hb));refine wC ?_ ?_<;>intro c1
  ·refine wC ?_ ?_<;>intro c2
   ·exact wM (h:=by exact Xl hh (by rw [Yba,hb2];exact .inl ⟨c1,c2⟩))
   have nl:¬LetP b.toNat:=fun h=>c2 h.2
   refine wC ?_ ?_<;>intro c3
   ·exact wR (h:=by exact Yj (bad (by rw [Yba,hb2];intro h;rcases h with h | h;exact nl h;omega)))
   refine wC ?_ ?_<;>intro c4
   ·refine wC ?_ ?_<;>intro c5
    ·refine wC ?_ ?_<;>intro c6
     ·exact wR (h:=by exact Yj (bad (by rw [Yba,hb2];unfold DigP;intro h;rcases h with h | ⟨_,h | h | h⟩;exact nl h;omega;omega;omega)))
     exact wM (h:=by exact Xl hh (by rw [Yba,hb2];right;refine ⟨by omega,?_⟩;omega))
    exact wM (h:=by exact Xl hh (by rw [Yba,hb2];right;refine ⟨by omega,?_⟩;omega))
   refine wC ?_ ?_<;>intro c7
   ·refine wC ?_ ?_<;>intro c5
    ·refine wC ?_ ?_<;>intro c6
     ·exact wR (h:=by exact Yj (bad (by rw [Yba,hb2];unfold DigP;intro h;rcases h with h | ⟨_,h | h | h⟩;exact nl h;omega;omega;omega)))
     exact wM (h:=by exact Xl hh (by rw [Yba,hb2];right;refine ⟨by omega,?_⟩;omega))
    exact wM (h:=by exact Xl hh (by rw [Yba,hb2];right;refine ⟨by omega,?_⟩;omega))
   exact wM (h:=by exact Xl hh (by rw [Yba,hb2];right;refine ⟨by omega,?_⟩;unfold DigP;omega))
  have nl:¬LetP b.toNat:=fun h=>c1 h.1
  refine wC ?_ ?_<;>intro c3
  ·exact wR (h:=by exact Yj (bad (by rw [Yba,hb2];intro h;rcases h with h | h;exact nl h;omega)))
  refine wC ?_ ?_<;>intro c4
  ·refine wC ?_ ?_<;>intro c5
   ·refine wC ?_ ?_<;>intro c6
    ·exact wR (h:=by exact Yj (bad (by rw [Yba,hb2];unfold DigP;intro h;rcases h with h | ⟨_,h | h | h⟩;exact nl h;omega;omega;omega)))
    exact wM (h:=by exact Xl hh (by rw [Yba,hb2];right;refine ⟨by omega,?_⟩;omega))
   exact wM (h:=by exact Xl hh (by rw [Yba,hb2];right;refine ⟨by omega,?_⟩;omega))
  refine wC ?_ ?_<;>intro c7
  ·refine wC ?_ ?_<;>intro c5
   ·refine wC ?_ ?_<;>intro c6
    ·exact wR (h:=by exact Yj (bad (by rw [Yba,hb2];unfold DigP;intro h;rcases h with h | ⟨_,h | h | h⟩;exact nl h;omega;omega;omega)))
    exact wM (h:=by exact Xl hh (by rw [Yba,hb2];right;refine ⟨by omega,?_⟩;omega))
   exact wM (h:=by exact Xl hh (by rw [Yba,hb2];right;refine ⟨by omega,?_⟩;omega))
  exact wM (h:=by exact Xl hh (by rw [Yba,hb2];right;refine ⟨by omega,?_⟩;unfold DigP;omega))
 refine wC ?_ ?_<;>intro c1
 ·refine wC ?_ ?_<;>intro c2
  ·refine zW ?_;refine Wm (Yk [] [] Zz Ynm (fun v fz2 H2 hle2 hR=>?_));obtain ⟨rfl,A,rfl,hsl⟩:=hR;refine wb (YdT (x:=s) hsl) (fun f1=>?_) (fun f1=>?_)
   ·exact wR (h:=by exact Yj (fun h=>h.2.2.2 (Zt f1)))
   exact wR (h:=by exact (Ys ⟨fun i hi=>hh i Zi,c1,by omega,Zf f1⟩))
  exact wR (h:=by exact Yj (fun h=>by have:=h.2.2.1;omega))
 exact wR (h:=by exact Yj (fun h=>h.2.1 c1))
def VarP (s:Bs):Prop:=1<s.size/\s.size<=32/\(Ya2 s 0:Int)=63/\Xk (s.extract 1 s.size)
def Yfm (s:Bs):Prop:=Xk s\/VarP s
def YaK:Bs:=⟨#[111,98,106,101,99,116]⟩
def YdE (s:Bs):Prop:=Xk s\/s=YaK
open Classical in
theorem Ydg (hs:Short s):QFn prog 193 [Zy s] fz (Zo (decide (VarP s))):=by
 have hz:s.size<=9223372036854775807:=hs;refine qF Tryz.func193 Tryz.ntmps193 (fun w0=>?_);refine wC ?_ ?_<;>intro c1
 ·refine wC ?_ ?_<;>intro c2
  ·refine zW ?_;obtain ⟨b,hb,hb2⟩:=Ybx (s:=s) (k:=0) Zi;refine zG ?_;refine Wj ?_ (hb:=hb);refine wC ?_ ?_<;>intro c3
   ·refine wG ?_;refine YeR ?_ (h1:=by omega);refine wG ?_;refine XS (YaY (s:=s.extract 1 s.size) (by unfold Short;rw [Yc7 (Zs _)];omega)) (fun f1=>?_) (fun f1=>?_)
    ·exact wR (h:=by exact (Ys ⟨by omega,by omega,by rw [hb2];exact c3,Zt f1⟩))
    exact wR (h:=by exact Yj (fun h=>Zf f1 h.2.2.2))
   exact wR (h:=by exact Yj (fun h=>c3 (by rw [<- hb2];exact h.2.2.1)))
  exact wR (h:=by exact Yj (fun h=>by have:=h.2.1;omega))
 exact wR (h:=by exact Yj (fun h=>by have:=h.1;omega))
open Classical in
theorem term_q (hs:Short s):QFn prog 227 [Zy s] fz (Zo (decide (Yfm s))):=by
 refine qF Tryz.func227 Tryz.ntmps227 (fun w0=>?_);refine wb (YaY hs) (fun f1=>?_) (fun f1=>?_)
 ·exact wR (h:=by exact Ys (.inl (Zt f1)))
 refine wb (Ydg hs) (fun f2=>?_) (fun f2=>?_)
 ·exact wR (h:=by exact Ys (.inr (Zt f2)))
 exact wR (h:=by exact Yj (fun h=>h.elim (Zf f1) (Zf f2)))
open Classical in
theorem dterm_q (hs:Short s):QFn prog 274 [Zy s] fz (Zo (decide (Yfm s))):=by
 refine qF Tryz.func274 Tryz.ntmps274 (fun w0=>?_);refine wb (YaY hs) (fun f1=>?_) (fun f1=>?_)
 ·exact wR (h:=by exact Ys (.inl (Zt f1)))
 refine wb (Ydg hs) (fun f2=>?_) (fun f2=>?_)
 ·exact wR (h:=by exact Ys (.inr (Zt f2)))
 exact wR (h:=by exact Yj (fun h=>h.elim (Zf f1) (Zf f2)))
open Classical in
theorem typed_q (hs:Short s):QFn prog 228 [Zy s] fz (Zo (decide (YdE s))):=by
 refine qF Tryz.func228 Tryz.ntmps228 (fun w0=>?_);refine wb (YaY hs) (fun f1=>?_) (fun f1=>?_)
 ·exact wR (h:=by exact Ys (.inl (Zt f1)))
 refine wC ?_ ?_<;>intro c2
 ·exact wR (h:=by exact Ys (.inr c2))
 exact wR (h:=by exact Yj (fun h=>h.elim (Zf f1) c2))
def sxV (k v:Int) (s:Bs) (kids:Value):Value:=.agg #[Zk k,Zk v,Zk 0,Zk 0,Zy s,kids]
theorem Ybr:QFn prog 202 [Zy s] fz (sxV 1 0 s Zn):=by
 refine qF Tryz.func202 Tryz.ntmps202 (fun w0=>?_);refine zW ?_;intros;exact Wx (i:=0) rfl (fun _ hi=>⟨_,[],hi.forget (List.nil_sublist _),rfl⟩)
theorem Yad:QFn prog 117 [Zy s] fz (sxV 1 0 s Zn):=by
 refine qF Tryz.func117 Tryz.ntmps117 (fun w0=>?_);refine zW ?_;intros;exact Wx (i:=0) rfl (fun _ hi=>⟨_,[],hi.forget (List.nil_sublist _),rfl⟩)
theorem Yaa:QFn prog 128 [Zy s] fz (sxV 1 0 s Zn):=by
 refine qF Tryz.func128 Tryz.ntmps128 (fun w0=>?_);refine zW ?_;intros;exact Wx (i:=0) rfl (fun _ hi=>⟨_,[],hi.forget (List.nil_sublist _),rfl⟩)
theorem Yc6:QFn prog 231 [Zc A n c] fz (sxV 3 0 ⟨#[]⟩ (Zc A n c)):=by
 refine qF Tryz.func231 Tryz.ntmps231 (fun w0=>?_);refine zW ?_;intros;exact Wx (i:=0) rfl (fun _ hi=>⟨_,[],hi.forget (List.nil_sublist _),rfl⟩)
theorem Xj:QFn prog 116 [Zc A n c] fz (sxV 3 0 ⟨#[]⟩ (Zc A n c)):=by
 refine qF Tryz.func116 Tryz.ntmps116 (fun w0=>?_);refine zW ?_;intros;exact Wx (i:=0) rfl (fun _ hi=>⟨_,[],hi.forget (List.nil_sublist _),rfl⟩)
theorem XT:QFn prog 127 [Zc A n c] fz (sxV 3 0 ⟨#[]⟩ (Zc A n c)):=by
 refine qF Tryz.func127 Tryz.ntmps127 (fun w0=>?_);refine zW ?_;intros;exact Wx (i:=0) rfl (fun _ hi=>⟨_,[],hi.forget (List.nil_sublist _),rfl⟩)
theorem Yf1 {n:Int}:QFn prog 121 [Zk n] fz (sxV 2 n ⟨#[]⟩ Zn):=by
 refine qF Tryz.func121 Tryz.ntmps121 (fun w0=>?_);refine zW ?_;intros;exact Wx (i:=0) rfl (fun _ hi=>⟨_,[],hi.forget (List.nil_sublist _),rfl⟩)
theorem flat_get {α:Type} {f:α->List Value} {z:Nat} (hz:∀ x,(f x).length=z):∀ {l:List α} {i j:Nat} {x:α} {u:Value},l[i]?=some x->(f x)[j]?=some u->(l.flatMap f)[i*z+j]?=some u
 | [],i,j,x,u,h,_=>by simp at h
 | y::r,0,j,x,u,h,hu=>by
  simp at h;subst h;have hj:j<(f y).length:=(Zg hu).1;rw [List.flatMap_cons,Nat.zero_mul,Nat.zero_add,List.getElem?_append_left hj];exact hu
 | y::r,i+1,j,x,u,h,hu=>by
  have h2:=flat_get hz (l:=r) (i:=i) (j:=j) (x:=x) (u:=u) (by simpa using h) hu;have e:(i+1)*z+j=z+(i*z+j):=by rw [Nat.succ_mul];omega
  rw [List.flatMap_cons,e,List.getElem?_append_right (by rw [hz];omega),hz,Nat.add_sub_cancel_left];exact h2
theorem YpM {f:α->List β} {a:α} {x:α} (hx:l[k]?=some x):(a::l.take (k+1)).flatMap f=(a::l.take k).flatMap f++f x:=by
 rw [List.take_add_one,hx];simp
theorem Yir {f:β->List Value} {g:β->α} {e:Nat} {l:List β} {b:HP} (hz:∀ x,(f x).length=L.size) (hO:OwnS e L.size v n (l.flatMap f) b) (hf:∀ p∈b,fz' p.1=some p.2) (hl:l.length=n) (hn:n<=140737488355328) (hr:∀ x∈l,L.rep fz' (g x) (f x)):
 ∃ A c,v=Zc A n c/\Sl L fz' A n c (l.map g):=by
 obtain ⟨A,c,h1,h2,h3,h4⟩:=hO.row hf;refine ⟨A,c,h1,h4.sl h2 h3 hn (by simpa using hl) fun i d hd=>?_⟩;rw [List.getElem?_map] at hd;cases hx:l[i]? with
 | none=>simp [hx] at hd
 | some x=>
  simp [hx] at hd;subst hd;exact ⟨f x,hr x (Zm hx),fun j u hu=>flat_get hz hx hu⟩
theorem short_of {l:List Bs} (h:Sl strL fz A n c l) {x:Bs} (hx:x∈l):Short x:=by
 obtain ⟨i,hi⟩:=List.mem_iff_getElem?.1 hx;rcases h.elem with h0 | ⟨ad,h1,h2⟩
 ·have:=YgC hi;have:=h.len;omega
 obtain ⟨v,⟨_,h3⟩,_⟩:=(h2 i x hi).cell rfl;exact h3
def Yi (s:Bs):Sexpr:=.mk 1 0 0 0 s []
def Yr (s:Bs):List Value:=[Zk 1,Zk 0,Zk 0,Zk 0,Zy s,Zn]
theorem YA (hs:Short s):YO.rep fz (Yi s) (Yr s):=
 Ym (x:=Yi s) ⟨by show I64 1;unfold I64;omega,by show I64 0;unfold I64;omega,by show I64 0;unfold I64;omega,by show I64 0;unfold I64;omega,hs,IsSl.nil⟩
theorem YiW {f0:Bs} {l:List Bs} (hf:Short f0) (h1:Sl strL fz A n c l) (hn:n<=1000000000):
 GFn prog 230 [Zy f0,Zc A n c] fz [] (fun v fz' H'=>H'=[]/\∃ B m cc,v=sxV 3 0 ⟨#[]⟩ (Zc B m cc)/\Sl YO fz' B m cc (Yi f0::l.map Yi)):=by
 have l1:=h1.len;refine zF Tryz.func230 Tryz.ntmps230 (fun w0=>?_);refine zW ?_;intros;rename_i g4;refine zc (Ybr (s:=f0)) ?_;refine Yd (Yc (cs:=Yr f0) (fun gb=>?_));refine zc Yc6 ?_;refine zW ?_;intros;rename_i g5;refine Wp.perm (List.Perm.cons _ (List.Perm.swap _ _ _)) ?_;refine Yn (fun q σ fz' H'=>∃ (k:Nat) (v:Value) (Hs:HP),k<=n/\q=n - k/\σ=[(14,Zk k),(13,Zk n),(12,Zc A n c),(5,Zp g5),(4,Zp g4)]/\fz=fz'/\
  H'=(g5,Zu #[Zk 3,Zk 0,Zk 0,Zk 0,Ze,v] 148)::(g4,Zu #[Zk 0,Zk 0,Zk 0,Zk 0,Ze,Zn] 148)::Hs/\OwnS 148 6 v (k+1) ((f0::l.take k).flatMap Yr) Hs)
  ⟨0,_,[_],Z0 _,rfl,rfl,rfl,rfl,?_⟩ Zw Zb ?_
 ·exact OwnS.of_block (size:=6) (cs:=Yr f0) (n:=1) rfl
 rintro q σ fz' H' ⟨k,v,Hs,hk,rfl,rfl,rfl,rfl,hO⟩;refine wC ?_ ?_<;>intro c1
 ·obtain ⟨x,hx⟩:=Yf (l:=l) (k:=k) Zi;obtain ⟨Av,cv,rfl,_,_⟩:=hO.form;refine wI h1 hx (fun p hp=>?_);refine zH hp (fun ix=>?_);refine zW ?_;refine Y6 [_,_] ?_;refine zW ?_;refine Yl (Yl (Yl ?_));refine zW ?_;refine pU ?_;refine Ch.qk ⟨Zd,Zx⟩ (Yt (Ybr (s:=x)) ?_);refine Yg (Yc (cs:=Yr x) (fun gb=>⟨⟨Zd,Zx⟩,?_⟩));refine Yg (YcC (Hr:=[_,_,_]) (Zr _) (YeO (.head _)) (fun v' Hs' hO'=>⟨⟨Zd,Zx⟩,?_⟩) (ho:=hO) (hl:=rfl) (h1:=by intro u hu;simp [Yr] at hu;rcases hu with rfl | rfl | rfl | rfl | rfl | rfl<;>rfl));obtain ⟨Av',cv',rfl,_,_⟩:=hO'.form;refine Ch.hard0 (YX ?_);refine Ch.done ?_;exact wP (h:=by exact ⟨k+1,_,Hs',by omega,rfl,rfl,rfl,rfl,by rw [YpM (a:=f0) hx];exact hO'⟩)
 have hk1:k=n:=by omega
 subst hk1;obtain ⟨Av,cv,rfl,_,_⟩:=hO.form;refine zW ?_;refine YW (i:=1) rfl (fun fz3 hle3 hf3=>?_);rw [Zl Zi] at hO;obtain ⟨A',c',he,hsl⟩:=Yir (L:=YO) (g:=Yi) (fun _=>rfl) hO (fun p hp=>hf3 p (by simp [hp])) (by simp [l1]) Zi (fun x hx=>YA (by
  rcases List.mem_cons.1 hx with rfl | hx
  ·exact hf
  exact short_of h1 hx))
 exact ⟨rfl,_,_,_,by rw [he];rfl,hsl⟩
theorem Ynb {l:List Bs}:∀ u∈l.flatMap Yr,u.oneCell'=true:=by
 intro u hu;obtain ⟨x,_,hx⟩:=List.mem_flatMap.1 hu;simp [Yr] at hx;rcases hx with rfl | rfl | rfl | rfl<;>rfl
theorem rep_of (h:Sl L fz A n c l) {x:α} (hx:x∈l):∃ cs,L.rep fz x cs:=by
 obtain ⟨i,hi⟩:=List.mem_iff_getElem?.1 hx;rcases h.elem with h0 | ⟨ad,h1,h2⟩
 ·have:=YgC hi;have:=h.len;omega
 obtain ⟨cs,hr,_⟩:=h2 i x hi;exact ⟨cs,hr⟩
def YaC (p:Param):List Bs:=[p.name,Yb7,p.typ]
theorem YnK {γ:Type} {f:α->List β} {h:β->List γ} {x:α} (hx:l[k]?=some x):((l.take (k+1)).flatMap f).flatMap h=((l.take k).flatMap f).flatMap h++(f x).flatMap h:=by
 rw [List.take_add_one,hx];simp
theorem YeX:∀ {l:List Param},(l.flatMap YaC).length=3*l.length
 | []=>rfl
 | p::r=>by rw [List.flatMap_cons,List.length_append,YeX];simp [YaC];omega
theorem Yd8 {l:List Param} (h1:Sl paramL fz A n c l) (hn:n<=1000000000):
 GFn prog 129 [Zc A n c] fz [] (fun v fz' H'=>H'=[]/\∃ B cc,v=Zc B (3*n) cc/\Sl YO fz' B (3*n) cc ((l.flatMap YaC).map Yi)):=by
 have l1:=h1.len;refine zF Tryz.func129 Tryz.ntmps129 (fun w0=>?_);refine zW ?_;refine Yn (fun q σ fz' H'=>∃ (k:Nat) (v:Value) (Hs:HP),k<=n/\q=n - k/\σ=[(8,Zk k),(7,Zk n),(6,Zc A n c),(3,v)]/\fz=fz'/\
  H'=Hs/\OwnS 148 6 v (3*k) (((l.take k).flatMap YaC).flatMap Yr) Hs)
  ⟨0,_,[],Z0 _,rfl,rfl,rfl,rfl,OwnS.nil _ _⟩ Zw Zb ?_
 rintro q σ fz' H' ⟨k,v,Hs,hk,rfl,rfl,rfl,rfl,hO⟩;refine wC ?_ ?_<;>intro c1
 ·obtain ⟨x,hx⟩:=Yf (l:=l) (k:=k) Zi;obtain ⟨Av,cv,rfl,_,_⟩:=hO.form;refine wI h1 hx (fun p hp=>?_);refine zL hp ?_;intro cs hcs;obtain ⟨rfl,hR⟩:=YM hcs;refine zW ?_;intros;rename_i g5;refine Y6 [_] ?_;refine zW ?_;refine Yl (Yl ?_);refine zW ?_;refine pU ?_;refine Ch.qk ⟨Zd,Zx⟩ (Yt (Ybr (s:=x.name)) ?_);refine Ch.qk ⟨Zd,Zx⟩ (Yt (Ybr (s:=Yb7)) ?_);refine Ch.qk ⟨Zd,Zx⟩ (Yt (Ybr (s:=x.typ)) ?_);refine Yg (Yc (cs:=(YaC x).flatMap Yr) (fun gb=>⟨⟨Zd,Zx⟩,?_⟩));refine Yg (YcC (Hr:=[_,_]) (Zr _) (YeO (.head _)) (fun v' Hs' hO'=>⟨⟨Zd,Zx⟩,?_⟩) (ho:=hO) (hl:=rfl) (h1:=Ynb));refine Ch.qk ⟨Zd,Zx⟩ (YR ?_);refine Ch.done ?_;exact wP (h:=by exact ⟨k+1,_,Hs',by omega,rfl,rfl,rfl,rfl,by rw [YnK hx];exact hO'⟩)
 have hk1:k=n:=by omega
 subst hk1;obtain ⟨Av,cv,rfl,_,_⟩:=hO.form;refine zW ?_;refine Yb1 rfl rfl (fun fz3 hle3 hf3=>?_);rw [Zl Zi] at hO;obtain ⟨A',c',he,hsl⟩:=Yir (L:=YO) (g:=Yi) (fun _=>rfl) hO (fun p hp=>hf3 p hp) (by rw [YeX,l1]) Zi (fun x hx=>YA (by
  obtain ⟨p,hp,hx⟩:=List.mem_flatMap.1 hx;obtain ⟨cs,hr⟩:=rep_of h1 hp;obtain ⟨_,hR⟩:=YM hr;simp only [YaC,List.mem_cons,List.not_mem_nil,or_false] at hx;rcases hx with rfl | rfl | rfl
  ·exact hR.name
  ·unfold Short Yb7;decide
  exact hR.typ))
 exact ⟨rfl,_,_,he,hsl⟩
def kNumber:Bs:=⟨#[110,117,109,98,101,114]⟩
def kFluent:Bs:=⟨#[102,108,117,101,110,116]⟩
def SxIs (fz:FZ) (v:Value) (x:Sexpr):Prop:=∃ cs,v=.agg (List.toArray cs)/\YO.rep fz x cs
theorem SxIs.mono (h:Le fz fz') {x:Sexpr} (hs:SxIs fz v x):SxIs fz' v x:=by
 obtain ⟨cs,e,hr⟩:=hs;exact ⟨cs,e,YO.mono h hr⟩
def YK (l:List Sexpr):Sexpr:=.mk 3 0 0 0 ⟨#[]⟩ l
def numE (n:Int):Sexpr:=.mk 2 n 0 0 ⟨#[]⟩ []
def Wn (f:Bs) (l:List Bs):Sexpr:=YK (Yi f::l.map Yi)
theorem XP:I64 0:=by unfold I64;omega
theorem i64_2:I64 2:=by unfold I64;omega
theorem YgN:I64 3:=by unfold I64;omega
theorem Y5:Short ⟨#[]⟩:=by unfold Short;decide
theorem W9 {l:List Sexpr} (h:Sl YO fz A n c l):SxIs fz (sxV 3 0 ⟨#[]⟩ (Zc A n c)) (YK l):=
 ⟨_,rfl,Ym (x:=YK l) ⟨YgN,XP,XP,XP,Y5,h.is⟩⟩
theorem numE_is {n:Int} (h:I64 n):SxIs fz (sxV 2 n ⟨#[]⟩ Zn) (numE n):=
 ⟨_,rfl,Ym (x:=numE n) ⟨i64_2,h,XP,XP,Y5,IsSl.nil⟩⟩
inductive EShape:Lx.Expr->Prop
 | num {e:Lx.Expr} (h:e.op=kNumber):EShape e
 | flu {e:Lx.Expr} (h:e.op=kFluent) (hn:e.args.length<=1000000000):EShape e
 | bin {e a b:Lx.Expr} (h1:e.op≠kNumber) (h2:e.op≠kFluent) (hk:e.kids=[a,b]) (ha:EShape a) (hb:EShape b):EShape e
def WN:Nat->Lx.Expr->Sexpr
 | 0,_=>numE 0
 | s+1,e=>open Classical in if e.op=kNumber then numE e.n else if e.op=kFluent then Wn e.name e.args else YK (Yi e.op::e.kids.map (WN s))
theorem YdG:∀ (s:Nat) {fz:FZ} {e:Lx.Expr} {va vk:Value},SizeOf.sizeOf e<=s->ExprR fz e va vk->EShape e->
 GFn prog 232 [.agg #[Zy e.op,Zy e.name,Zk e.n,va,vk]] fz [] (fun v fz' H'=>H'=[]/\SxIs fz' v (WN s e))
 | 0,_,e,_,_,hs,_,_=>by cases e;simp at hs
 | s+1,fz,e,va,vk,hs,h,hE=>by
  obtain ⟨⟨A,n,c,rfl,ha⟩,⟨B,m,d,rfl,hk⟩⟩:=h.sls;refine zF Tryz.func232 Tryz.ntmps232 (fun w0=>?_);refine pX (fun g0=>?_);refine zW ?_;intros;rename_i g1;refine zC (fun x1=>?_) (fun y1=>?_)
  ·refine zW ?_;refine YW (i:=0) rfl (fun fz3 hle3 hf3=>⟨rfl,?_⟩);rw [WN,if_pos (show e.op=kNumber from x1)];exact numE_is h.n
  refine wC (fun x2=>?_) (fun y2=>?_)
  ·have hn:e.args.length<=1000000000:=by
    cases hE with
    | num h=>exact absurd h y1
    | flu _ hn=>exact hn
    | bin _ h2=>exact absurd x2 h2
   refine zW ?_;refine Yd (Yk [] [_,_] Zz (YiW (f0:=e.name) h.name ha (by rw [<- ha.len];exact hn)) (fun v fz2 H2 hle2 hR=>?_));obtain ⟨rfl,C,mm,cc,rfl,hsl⟩:=hR;unfold sxV;refine zW ?_;refine YW (i:=0) rfl (fun fz3 hle3 hf3=>⟨rfl,?_⟩);rw [WN,if_neg (show ¬e.op=kNumber from y1),if_pos (show e.op=kFluent from x2)];exact (W9 hsl).mono hle3
  obtain ⟨a,b,hab,hsa,hsb⟩:∃ a b,e.kids=[a,b]/\EShape a/\EShape b:=by
   cases hE with
   | num h=>exact absurd h y1
   | flu h _=>exact absurd h y2
   | bin _ _ hk ha hb=>exact ⟨_,_,hk,ha,hb⟩
  have la:=Lx.Expr.kids_lt (x:=e) (k:=a) (by rw [hab];simp);have lb:=Lx.Expr.kids_lt (x:=e) (k:=b) (by rw [hab];simp);have l2:=hk.len;rw [hab] at l2;simp at l2;subst l2;refine zW ?_;refine Y6 [_,_] ?_;refine zW ?_;refine Yl ?_;refine wG ?_;refine Ya0 T 0 Zz Zz Zz Zz Zz Zz hk (by first | rfl | omega) (by rw [hab];rfl:e.kids[0]?=some a) (fun p hp=>?_);refine zL hp ?_;intro cs hcs;obtain ⟨wa,wk,rfl,hRa⟩:=YF hcs;refine Yl ?_;refine wG ?_;refine Ya0 T 1 Zz Zz Zz Zz Zz Zz hk (by first | rfl | omega) (by rw [hab];rfl:e.kids[1]?=some b) (fun p2 hp2=>?_);refine zL hp2 ?_;intro cs2 hcs2;obtain ⟨za,zk,rfl,hRb⟩:=YF hcs2;refine pU ?_;refine Ch.qk ⟨Zd,Zx⟩ (Yt (Ybr (s:=e.op)) ?_);refine Yg (Yk [] [_,_] Zz (YdG s (e:=a) Zi hRa hsa) (fun v2 fz2 H2 hle2 hR2=>?_));obtain ⟨rfl,cs3,rfl,hr3⟩:=hR2;obtain ⟨vk3,rfl,hR3⟩:=YJ hr3;refine ⟨⟨hle2,Zp2⟩,?_⟩;refine Yg (Yk [] [_,_] Zz (YdG s (e:=b) Zi (hRb.mono hle2) hsb) (fun v4 fz4 H4 hle4 hR4=>?_));obtain ⟨rfl,cs5,rfl,hr5⟩:=hR4;obtain ⟨vk5,rfl,hR5⟩:=YJ hr5;refine ⟨⟨hle2.trans hle4,Zp2⟩,?_⟩;refine Yg (Yc (cs:=Yr e.op++ [Zk (WN s a).kind,Zk (WN s a).value,Zk (WN s a).line,Zk (WN s a).column,Zy (WN s a).text,vk3]++ [Zk (WN s b).kind,Zk (WN s b).value,Zk (WN s b).line,Zk (WN s b).column,Zy (WN s b).text,vk5]) (fun gb=>⟨⟨hle2.trans hle4,Zp3⟩,?_⟩));refine Ch.qk ⟨hle2.trans hle4,Zp3⟩ (Yt Yc6 ?_);unfold sxV;refine Ch.hard0 (YX ?_);refine Ch.done ?_;refine zW ?_;refine YW (i:=1) rfl (fun fz3 hle3 hf3=>⟨rfl,?_⟩);rw [WN,if_neg (show ¬e.op=kNumber from y1),if_neg (show ¬e.op=kFluent from y2),hab];obtain ⟨A',c',he,hsl⟩:=Yir (β:={p:Sexpr × List Value // p.2.length=6}) (L:=YO) (f:=fun p=>p.1.2) (g:=fun p=>p.1.1) (e:=148) (n:=3) (v:=Zv gb 3 3)
   (l:=[⟨(Yi e.op,Yr e.op),rfl⟩,⟨(WN s a,[Zk (WN s a).kind,Zk (WN s a).value,Zk (WN s a).line,Zk (WN s a).column,Zy (WN s a).text,vk3]),rfl⟩,⟨(WN s b,[Zk (WN s b).kind,Zk (WN s b).value,Zk (WN s b).line,Zk (WN s b).column,Zy (WN s b).text,vk5]),rfl⟩]) (fun p=>p.2) (OwnS.of_block (size:=6) rfl) (fun p hp=>hf3 p (by simp at hp;subst hp;exact .head _)) rfl Zh (fun x hx=>by
    simp only [List.mem_cons,List.not_mem_nil,or_false] at hx;rcases hx with rfl | rfl | rfl
    ·exact YA h.op
    ·exact Ym (x:=WN s a) (hR3.mono (hle4.trans hle3))
    exact Ym (x:=WN s b) (hR5.mono hle3))
  injection he with he1 he2 he3
  subst he1 he3;exact W9 hsl
theorem Yfe:∀ (s s':Nat) (e:Lx.Expr),SizeOf.sizeOf e<=s->SizeOf.sizeOf e<=s'->WN s e=WN s' e
 | 0,_,e,h,_=>by cases e;simp at h
 | _+1,0,e,_,h=>by cases e;simp at h
 | s+1,s'+1,e,h,h'=>by
  have hk:e.kids.map (WN s)=e.kids.map (WN s'):=List.map_congr_left (fun k hk=>Yfe s s' k (by have:=Lx.Expr.kids_lt hk;omega) (by have:=Lx.Expr.kids_lt hk;omega));simp only [WN,hk]
def Wf (e:Lx.Expr):Sexpr:=WN (SizeOf.sizeOf e) e
open Classical in
theorem exprX_eq (e:Lx.Expr):Wf e=if e.op=kNumber then numE e.n else if e.op=kFluent then Wn e.name e.args else YK (Yi e.op::e.kids.map Wf):=by
 have hk:e.kids.map (WN (SizeOf.sizeOf e))=e.kids.map Wf:=List.map_congr_left (fun k hk=>Yfe _ _ k (by have:=Lx.Expr.kids_lt hk;omega) (Zs _));rw [Wf,Yfe _ (SizeOf.sizeOf e+1) e (Zs _) Zi,WN,hk]
theorem WR {e:Lx.Expr} (h:ExprR fz e va vk) (hE:EShape e):
 GFn prog 232 [.agg #[Zy e.op,Zy e.name,Zk e.n,va,vk]] fz [] (fun v fz' H'=>H'=[]/\SxIs fz' v (Wf e)):=YdG _ (Zs _) h hE
def kAtom:Bs:=⟨#[97,116,111,109]⟩
def kSame:Bs:=⟨#[115,97,109,101]⟩
def kEq:Bs:=⟨#[61]⟩
def kLt:Bs:=⟨#[60]⟩
def kLe:Bs:=⟨#[60,61]⟩
def kAnd:Bs:=⟨#[97,110,100]⟩
def kForall:Bs:=⟨#[102,111,114,97,108,108]⟩
def kExists:Bs:=⟨#[101,120,105,115,116,115]⟩
def CmpOp (s:Bs):Prop:=s=kLt\/s=kLe\/s=kEq
inductive FShape:Formula->Prop
 | atom {f:Formula} (h:f.op=kAtom\/f.op=kSame) (hn:f.args.length<=1000000000):FShape f
 | cmp {f:Formula} {a b:Lx.Expr} (h:CmpOp f.op) (he:f.exprs=[a,b]) (ha:EShape a) (hb:EShape b):FShape f
 | other {f:Formula} (h0:f.op≠kAtom) (h1:f.op≠kSame) (h2:¬CmpOp f.op) (hp:f.params.length<=1000000000) (hn:f.kids.length<=1000000000) (hk:∀ k∈f.kids,FShape k):FShape f
open Classical in
def Ybs:Nat->Formula->Sexpr
 | 0,_=>numE 0
 | s+1,f=>if f.op=kAtom then Wn f.name f.args else if f.op=kSame then Wn kEq f.args else if CmpOp f.op then YK (Yi f.op::f.exprs.map Wf)
  else YK ((if f.op≠kAnd\/f.kids≠ [] then [Yi f.op] else [])++(if f.op=kForall\/f.op=kExists then [YK ((f.params.flatMap YaC).map Yi)] else [])++f.kids.map (Ybs s))
theorem Yfa:∀ (s s':Nat) (f:Formula),SizeOf.sizeOf f<=s->SizeOf.sizeOf f<=s'->Ybs s f=Ybs s' f
 | 0,_,e,h,_=>by cases e;simp at h
 | _+1,0,e,_,h=>by cases e;simp at h
 | s+1,s'+1,e,h,h'=>by
  have hk:e.kids.map (Ybs s)=e.kids.map (Ybs s'):=List.map_congr_left (fun k hk=>Yfa s s' k (by have:=Formula.kids_lt hk;omega) (by have:=Formula.kids_lt hk;omega));simp only [Ybs,hk]
theorem Ygd {fz3:FZ} {gb:Nat} {o:Bs} {X Y:Sexpr} {vk3 vk5:Value} (ho:Short o) (hg:fz3 gb=some (.cells (Yr o++ [Zk X.kind,Zk X.value,Zk X.line,Zk X.column,Zy X.text,vk3]++ [Zk Y.kind,Zk Y.value,Zk Y.line,Zk Y.column,Zy Y.text,vk5]).toArray 148 (0,0))) (hX:Wq fz3 X vk3) (hY:Wq fz3 Y vk5):
 SxIs fz3 (sxV 3 0 ⟨#[]⟩ (Zv gb 3 3)) (YK [Yi o,X,Y]):=by
 obtain ⟨A',c',he,hsl⟩:=Yir (β:={p:Sexpr × List Value // p.2.length=6}) (L:=YO) (f:=fun p=>p.1.2) (g:=fun p=>p.1.1) (e:=148) (n:=3) (v:=Zv gb 3 3) (fz':=fz3)
  (l:=[⟨(Yi o,Yr o),rfl⟩,⟨(X,[Zk X.kind,Zk X.value,Zk X.line,Zk X.column,Zy X.text,vk3]),rfl⟩,⟨(Y,[Zk Y.kind,Zk Y.value,Zk Y.line,Zk Y.column,Zy Y.text,vk5]),rfl⟩]) (fun p=>p.2) (OwnS.of_block (size:=6) rfl) (fun p hp=>by simp at hp;subst hp;exact hg) rfl Zh (fun x hx=>by
   simp only [List.mem_cons,List.not_mem_nil,or_false] at hx;rcases hx with rfl | rfl | rfl
   ·exact YA ho
   ·exact Ym (x:=X) hX
   exact Ym (x:=Y) hY)
 injection he with he1 he2 he3
 subst he1 he3;exact W9 hsl
theorem Yqi (hF:FShape f) (hc:CmpOp f.op):∃ a b,f.exprs=[a,b]/\EShape a/\EShape b:=by
 cases hF with
 | atom h0=>
  rcases h0 with h0 | h0<;>rw [h0] at hc<;>rcases hc with hc | hc | hc<;>exact absurd (congrArg ByteArray.size hc) Zh
 | cmp _ he ha hb=>exact ⟨_,_,he,ha,hb⟩
 | other _ _ h2=>exact absurd hc h2
theorem Yn2:∀ (s:Nat) {fz:FZ} {f:Formula} {va vp ve vk:Value},SizeOf.sizeOf f<=s->FormulaR fz f va vp ve vk->FShape f->
 GFn prog 187 [.agg #[Zy f.op,Zy f.name,va,vp,ve,vk]] fz [] (fun v fz' H'=>H'=[]/\SxIs fz' v (Ybs s f))
 | 0,_,f,_,_,_,_,hs,_,_=>by cases f;simp at hs
 | s+1,fz,f,va,vp,ve,vk,hs,h,hF=>by
  obtain ⟨⟨A,n,c,rfl,ha⟩,⟨B,m,d,rfl,hp⟩,⟨C,r,cr,rfl,he⟩,⟨D,q,cq,rfl,hk⟩⟩:=h.sls;refine zF Tryz.func187 Tryz.ntmps187 (fun w0=>?_);refine pX (fun g0=>?_);refine zW ?_;intros;rename_i g1;refine zC (fun x1=>?_) (fun y1=>?_)
  ·have hn:f.args.length<=1000000000:=by
    cases hF with
    | atom _ hn=>exact hn
    | cmp hc=>rw [show f.op=kAtom from x1] at hc;rcases hc with hc | hc | hc<;>exact absurd (congrArg ByteArray.size hc) Zh
    | other h0=>exact absurd x1 h0
   refine zW ?_;refine Yd (Yk [] [_,_] Zz (YiW (f0:=f.name) h.name ha (by rw [<- ha.len];exact hn)) (fun v fz2 H2 hle2 hR=>?_));obtain ⟨rfl,C,mm,cc,rfl,hsl⟩:=hR;unfold sxV;refine zW ?_;refine YW (i:=0) rfl (fun fz3 hle3 hf3=>⟨rfl,?_⟩);rw [Ybs,if_pos (show f.op=kAtom from x1)];exact (W9 hsl).mono hle3
  refine wC (fun x2=>?_) (fun y2=>?_)
  ·have hn:f.args.length<=1000000000:=by
    cases hF with
    | atom _ hn=>exact hn
    | cmp hc=>rw [show f.op=kSame from x2] at hc;rcases hc with hc | hc | hc<;>exact absurd (congrArg ByteArray.size hc) Zh
    | other _ h1=>exact absurd x2 h1
   refine zW ?_;refine Yd (Yk [] [_,_] Zz (YiW (f0:=kEq) (by unfold Short kEq;decide) ha (by rw [<- ha.len];exact hn)) (fun v fz2 H2 hle2 hR=>?_));obtain ⟨rfl,C,mm,cc,rfl,hsl⟩:=hR;unfold sxV;refine zW ?_;refine YW (i:=0) rfl (fun fz3 hle3 hf3=>⟨rfl,?_⟩);rw [Ybs,if_neg (show ¬f.op=kAtom from y1),if_pos (show f.op=kSame from x2)];exact (W9 hsl).mono hle3
  refine wC (fun x3=>?_) (fun y3=>?_)
  ·have hcmp:CmpOp f.op:=.inl x3;obtain ⟨a,b,hab,hsa,hsb⟩:=Yqi hF hcmp;have l2:=he.len;rw [hab] at l2;simp at l2;subst l2;refine zW ?_;refine Y6 [_,_] ?_;refine zW ?_;refine Yl ?_;refine zW ?_;((refine zG ?_);refine Ya0 T 0 Zz Zz Zz Zz Zz Zz he (by first | rfl | omega) (by rw [hab];rfl:f.exprs[0]?=some a) (fun p hp0=>?_));refine zL hp0 ?_;intro cs hcs;obtain ⟨wa,wk,rfl,hRa⟩:=YF hcs;refine Yl ?_;refine zW ?_;((refine zG ?_);refine Ya0 T 1 Zz Zz Zz Zz Zz Zz he (by first | rfl | omega) (by rw [hab];rfl:f.exprs[1]?=some b) (fun p2 hp2=>?_));refine zL hp2 ?_;intro cs2 hcs2;obtain ⟨za,zk,rfl,hRb⟩:=YF hcs2;refine Yl ?_;refine Yl ?_;refine Yl ?_;refine Yl ?_;refine QK.dz ?_;refine Ch.qk ⟨Zd,Zx⟩ (Yt (Ybr (s:=f.op)) ?_);refine Yg (Yk [] [_,_] Zz (WR hRa hsa) (fun v2 fz2 H2 hle2 hR2=>?_));obtain ⟨rfl,cs3,rfl,hr3⟩:=hR2;obtain ⟨vk3,rfl,hR3⟩:=YJ hr3;refine ⟨⟨hle2,Zp2⟩,?_⟩;refine Yg (Yk [] [_,_] Zz (WR (hRb.mono hle2) hsb) (fun v4 fz4 H4 hle4 hR4=>?_));obtain ⟨rfl,cs5,rfl,hr5⟩:=hR4;obtain ⟨vk5,rfl,hR5⟩:=YJ hr5;refine ⟨⟨hle2.trans hle4,Zp2⟩,?_⟩;refine Yg (Yc (cs:=Yr f.op++ [Zk (Wf a).kind,Zk (Wf a).value,Zk (Wf a).line,Zk (Wf a).column,Zy (Wf a).text,vk3]++ [Zk (Wf b).kind,Zk (Wf b).value,Zk (Wf b).line,Zk (Wf b).column,Zy (Wf b).text,vk5]) (fun gb=>⟨⟨hle2.trans hle4,Zp3⟩,?_⟩));refine Ch.qk ⟨hle2.trans hle4,Zp3⟩ (Yt Yc6 ?_);unfold sxV;refine Ch.hard0 (YX ?_);refine Ch.done ?_;refine zW ?_;refine YW (i:=1) rfl (fun fz3 hle3 hf3=>⟨rfl,?_⟩);rw [Ybs,if_neg (show ¬f.op=kAtom from y1),if_neg (show ¬f.op=kSame from y2),if_pos hcmp,hab];exact Ygd h.op (hf3 _ (.head _)) (hR3.mono (hle4.trans hle3)) (hR5.mono hle3)
  refine wC (fun x4=>?_) (fun y4=>?_)
  ·have hcmp:CmpOp f.op:=.inr (.inl x4);obtain ⟨a,b,hab,hsa,hsb⟩:=Yqi hF hcmp;have l2:=he.len;rw [hab] at l2;simp at l2;subst l2;refine zW ?_;refine Y6 [_,_] ?_;refine zW ?_;refine Yl ?_;refine zW ?_;((refine zG ?_);refine Ya0 T 0 Zz Zz Zz Zz Zz Zz he (by first | rfl | omega) (by rw [hab];rfl:f.exprs[0]?=some a) (fun p hp0=>?_));refine zL hp0 ?_;intro cs hcs;obtain ⟨wa,wk,rfl,hRa⟩:=YF hcs;refine Yl ?_;refine zW ?_;((refine zG ?_);refine Ya0 T 1 Zz Zz Zz Zz Zz Zz he (by first | rfl | omega) (by rw [hab];rfl:f.exprs[1]?=some b) (fun p2 hp2=>?_));refine zL hp2 ?_;intro cs2 hcs2;obtain ⟨za,zk,rfl,hRb⟩:=YF hcs2;refine Yl ?_;refine Yl ?_;refine Yl ?_;refine Yl ?_;refine QK.dz ?_;refine Ch.qk ⟨Zd,Zx⟩ (Yt (Ybr (s:=f.op)) ?_);refine Yg (Yk [] [_,_] Zz (WR hRa hsa) (fun v2 fz2 H2 hle2 hR2=>?_));obtain ⟨rfl,cs3,rfl,hr3⟩:=hR2;obtain ⟨vk3,rfl,hR3⟩:=YJ hr3;refine ⟨⟨hle2,Zp2⟩,?_⟩;refine Yg (Yk [] [_,_] Zz (WR (hRb.mono hle2) hsb) (fun v4 fz4 H4 hle4 hR4=>?_));obtain ⟨rfl,cs5,rfl,hr5⟩:=hR4;obtain ⟨vk5,rfl,hR5⟩:=YJ hr5;refine ⟨⟨hle2.trans hle4,Zp2⟩,?_⟩;refine Yg (Yc (cs:=Yr f.op++ [Zk (Wf a).kind,Zk (Wf a).value,Zk (Wf a).line,Zk (Wf a).column,Zy (Wf a).text,vk3]++ [Zk (Wf b).kind,Zk (Wf b).value,Zk (Wf b).line,Zk (Wf b).column,Zy (Wf b).text,vk5]) (fun gb=>⟨⟨hle2.trans hle4,Zp3⟩,?_⟩));refine Ch.qk ⟨hle2.trans hle4,Zp3⟩ (Yt Yc6 ?_);unfold sxV;refine Ch.hard0 (YX ?_);refine Ch.done ?_;refine zW ?_;refine YW (i:=1) rfl (fun fz3 hle3 hf3=>⟨rfl,?_⟩);rw [Ybs,if_neg (show ¬f.op=kAtom from y1),if_neg (show ¬f.op=kSame from y2),if_pos hcmp,hab];exact Ygd h.op (hf3 _ (.head _)) (hR3.mono (hle4.trans hle3)) (hR5.mono hle3)
  refine wC (fun x5=>?_) (fun y5=>?_)
  ·have hcmp:CmpOp f.op:=.inr (.inr x5);obtain ⟨a,b,hab,hsa,hsb⟩:=Yqi hF hcmp;have l2:=he.len;rw [hab] at l2;simp at l2;subst l2;refine zW ?_;refine Y6 [_,_] ?_;refine zW ?_;refine Yl ?_;refine zW ?_;((refine zG ?_);refine Ya0 T 0 Zz Zz Zz Zz Zz Zz he (by first | rfl | omega) (by rw [hab];rfl:f.exprs[0]?=some a) (fun p hp0=>?_));refine zL hp0 ?_;intro cs hcs;obtain ⟨wa,wk,rfl,hRa⟩:=YF hcs;refine Yl ?_;refine zW ?_;((refine zG ?_);refine Ya0 T 1 Zz Zz Zz Zz Zz Zz he (by first | rfl | omega) (by rw [hab];rfl:f.exprs[1]?=some b) (fun p2 hp2=>?_));refine zL hp2 ?_;intro cs2 hcs2;obtain ⟨za,zk,rfl,hRb⟩:=YF hcs2;refine Yl ?_;refine Yl ?_;refine Yl ?_;refine Yl ?_;refine QK.dz ?_;refine Ch.qk ⟨Zd,Zx⟩ (Yt (Ybr (s:=f.op)) ?_);refine Yg (Yk [] [_,_] Zz (WR hRa hsa) (fun v2 fz2 H2 hle2 hR2=>?_));obtain ⟨rfl,cs3,rfl,hr3⟩:=hR2;obtain ⟨vk3,rfl,hR3⟩:=YJ hr3;refine ⟨⟨hle2,Zp2⟩,?_⟩;refine Yg (Yk [] [_,_] Zz (WR (hRb.mono hle2) hsb) (fun v4 fz4 H4 hle4 hR4=>?_));obtain ⟨rfl,cs5,rfl,hr5⟩:=hR4;obtain ⟨vk5,rfl,hR5⟩:=YJ hr5;refine ⟨⟨hle2.trans hle4,Zp2⟩,?_⟩;refine Yg (Yc (cs:=Yr f.op++ [Zk (Wf a).kind,Zk (Wf a).value,Zk (Wf a).line,Zk (Wf a).column,Zy (Wf a).text,vk3]++ [Zk (Wf b).kind,Zk (Wf b).value,Zk (Wf b).line,Zk (Wf b).column,Zy (Wf b).text,vk5]) (fun gb=>⟨⟨hle2.trans hle4,Zp3⟩,?_⟩));refine Ch.qk ⟨hle2.trans hle4,Zp3⟩ (Yt Yc6 ?_);unfold sxV;refine Ch.hard0 (YX ?_);refine Ch.done ?_;refine zW ?_;refine YW (i:=1) rfl (fun fz3 hle3 hf3=>⟨rfl,?_⟩);rw [Ybs,if_neg (show ¬f.op=kAtom from y1),if_neg (show ¬f.op=kSame from y2),if_pos hcmp,hab];exact Ygd h.op (hf3 _ (.head _)) (hR3.mono (hle4.trans hle3)) (hR5.mono hle3)
  refine zW ?_;have hc:¬CmpOp f.op:=fun h1=>h1.elim y3 (fun h1=>h1.elim y4 y5)
  obtain ⟨hpn,hkn,hks⟩:f.params.length<=1000000000/\f.kids.length<=1000000000/\∀ k∈f.kids,FShape k:=by
   cases hF with
   | atom h0=>exact (h0.elim y1 y2).elim
   | cmp h1=>exact absurd h1 hc
   | other _ _ _ h1 h2 h3=>exact ⟨h1,h2,h3⟩
  refine zc (Yc6 (A:=none) (n:=0) (c:=0)) ?_;unfold sxV;refine zWO ?_;intros;rename_i g2;have l4:=hk.len;refine YN (Xe (fun σ fz' H'=>∃ (v:Value) (k:Nat) (Hs:HP),σ=[(3,Zp g2),(2,Zp g1),(1,Zp g0)]/\fz=fz'/\k<=1/\
   H'=(g2,Zu #[Zk 3,Zk 0,Zk 0,Zk 0,Ze,v] 148)::(g1,Zu #[Zk 0,Zk 0,Zk 0,Zk 0,Ze,Zn] 148)::(g0,Zu #[Zy f.op,Zy f.name,Zc A n c,Zc B m d,Zc C r cr,Zc D q cq] 35)::Hs/\
   Grow YO 148 fz' v k Hs (if f.op≠kAnd\/f.kids≠ [] then [Yi f.op] else [])) ?_ ?_)
  ·refine wC ?_ ?_<;>intro z1
   ·refine zW ?_;refine Y6 [_,_,_] ?_;refine zW ?_;refine Yl (Yl (Yl ?_));refine zW ?_;refine pU ?_;refine Ch.qk ⟨Zd,Zx⟩ (Yt (Ybr (s:=f.op)) ?_);refine Yg (Yc (cs:=Yr f.op) (fun gb=>⟨⟨Zd,Zx⟩,?_⟩));refine Yg (YG (Hr:=[_,_,_,_]) (Zr _) (Grow.nil YO 148 fz) Yz (.head _) (YA h.op) (fun v' Hs' hO'=>⟨⟨Zd,Zx⟩,?_⟩) (hb:=by decide) (hm2:=by decide));obtain ⟨Av',cv',rfl,_,_⟩:=hO'.form;refine Ch.hard0 (YX ?_);refine Ch.done ?_;exact wN (h:=by exact ⟨_,1,Hs',rfl,rfl,by omega,rfl,by rw [if_pos (.inl z1)];exact hO'⟩)
   refine wC ?_ ?_<;>intro z2
   ·have hkn0:f.kids≠ []:=fun h0=>by rw [h0] at l4;simp at l4;omega
    refine zW ?_;refine Y6 [_,_,_] ?_;refine zW ?_;refine Yl (Yl (Yl ?_));refine zW ?_;refine pU ?_;refine Ch.qk ⟨Zd,Zx⟩ (Yt (Ybr (s:=f.op)) ?_);refine Yg (Yc (cs:=Yr f.op) (fun gb=>⟨⟨Zd,Zx⟩,?_⟩));refine Yg (YG (Hr:=[_,_,_,_]) (Zr _) (Grow.nil YO 148 fz) Yz (.head _) (YA h.op) (fun v' Hs' hO'=>⟨⟨Zd,Zx⟩,?_⟩) (hb:=by decide) (hm2:=by decide));obtain ⟨Av',cv',rfl,_,_⟩:=hO'.form;refine Ch.hard0 (YX ?_);refine Ch.done ?_;exact wN (h:=by exact ⟨_,1,Hs',rfl,rfl,by omega,rfl,by rw [if_pos (.inr hkn0)];exact hO'⟩)
   have hkn0:f.kids=[]:=List.eq_nil_of_length_eq_zero Zi;exact wN (h:=by exact ⟨_,0,[],rfl,rfl,by omega,rfl,by rw [if_neg (by rintro (h0 | h0);exact h0 z1;exact h0 hkn0)];exact Grow.nil _ _ _⟩)
  rintro σ fz' H' ⟨v,k,Hs,rfl,rfl,hk1,rfl,hG⟩;refine YN (Xe (fun σ fz' H'=>∃ (v:Value) (k:Nat) (Hs:HP),σ=[(3,Zp g2),(2,Zp g1),(1,Zp g0)]/\Le fz fz'/\k<=2/\
   H'=(g2,Zu #[Zk 3,Zk 0,Zk 0,Zk 0,Ze,v] 148)::(g1,Zu #[Zk 0,Zk 0,Zk 0,Zk 0,Ze,Zn] 148)::(g0,Zu #[Zy f.op,Zy f.name,Zc A n c,Zc B m d,Zc C r cr,Zc D q cq] 35)::Hs/\
   Grow YO 148 fz' v k Hs ((if f.op≠kAnd\/f.kids≠ [] then [Yi f.op] else [])++(if f.op=kForall\/f.op=kExists then [YK ((f.params.flatMap YaC).map Yi)] else []))) ?_ ?_)
  ·obtain ⟨Av,cv,rfl,_,_⟩:=hG.form;refine wC ?_ ?_<;>intro w1
   ·refine zW ?_;refine Y6 [_,_,_] ?_;refine zW ?_;refine Yl (Yl (Yl (Yl ?_)));refine zW ?_;refine pU ?_;refine Yg (Yk [] _ Zz (Yd8 hp (by rw [<- hp.len];exact hpn)) (fun v2 fz2 H2 hle2 hR2=>?_));obtain ⟨rfl,B2,cc2,rfl,hsl2⟩:=hR2;refine ⟨⟨hle2,Zx⟩,?_⟩;refine Ch.qk ⟨hle2,Zx⟩ (Yt Yc6 ?_);unfold sxV;refine Yg (Yc (cs:=[Zk 3,Zk 0,Zk 0,Zk 0,Ze,Zc B2 (3*m) cc2]) (fun gb=>⟨⟨hle2,Zx⟩,?_⟩));refine Yg (YG (Hr:=[_,_,_,_]) (d:=YK ((f.params.flatMap YaC).map Yi)) (Zr _) (hG.mono hle2) Yz (.head _) (Ym (x:=YK _) ⟨YgN,XP,XP,XP,Y5,hsl2.is⟩) (fun v' Hs' hO'=>⟨⟨hle2,Zx⟩,?_⟩));obtain ⟨Av',cv',rfl,_,_⟩:=hO'.form;refine Ch.hard0 (YX ?_);refine Ch.done ?_;exact wN (h:=by exact ⟨_,k+1,Hs',rfl,hle2,by omega,rfl,by rw [if_pos (Or.inl w1:f.op=kForall\/f.op=kExists)];exact hO'⟩)
   refine wC ?_ ?_<;>intro w2
   ·refine zW ?_;refine Y6 [_,_,_] ?_;refine zW ?_;refine Yl (Yl (Yl (Yl ?_)));refine zW ?_;refine pU ?_;refine Yg (Yk [] _ Zz (Yd8 hp (by rw [<- hp.len];exact hpn)) (fun v2 fz2 H2 hle2 hR2=>?_));obtain ⟨rfl,B2,cc2,rfl,hsl2⟩:=hR2;refine ⟨⟨hle2,Zx⟩,?_⟩;refine Ch.qk ⟨hle2,Zx⟩ (Yt Yc6 ?_);unfold sxV;refine Yg (Yc (cs:=[Zk 3,Zk 0,Zk 0,Zk 0,Ze,Zc B2 (3*m) cc2]) (fun gb=>⟨⟨hle2,Zx⟩,?_⟩));refine Yg (YG (Hr:=[_,_,_,_]) (d:=YK ((f.params.flatMap YaC).map Yi)) (Zr _) (hG.mono hle2) Yz (.head _) (Ym (x:=YK _) ⟨YgN,XP,XP,XP,Y5,hsl2.is⟩) (fun v' Hs' hO'=>⟨⟨hle2,Zx⟩,?_⟩));obtain ⟨Av',cv',rfl,_,_⟩:=hO'.form;refine Ch.hard0 (YX ?_);refine Ch.done ?_;exact wN (h:=by exact ⟨_,k+1,Hs',rfl,hle2,by omega,rfl,by rw [if_pos (Or.inr w2:f.op=kForall\/f.op=kExists)];exact hO'⟩)
   exact wN (h:=by exact ⟨_,k,Hs,rfl,Zd,by omega,rfl,by rw [if_neg (show ¬(f.op=kForall\/f.op=kExists) from fun h0=>h0.elim w1 w2),List.append_nil];exact hG⟩)
  rintro σ fz' H' ⟨v,k,Hs,rfl,hle,hk1,rfl,hG⟩;generalize hbase:(if f.op≠kAnd\/f.kids≠ [] then [Yi f.op] else [])++(if f.op=kForall\/f.op=kExists then [YK ((f.params.flatMap YaC).map Yi)] else [])=base at hG;refine zW ?_;refine Yn (fun mm σ fz2 H'=>∃ (j:Nat) (v:Value) (k:Nat) (Hs:HP),j<=q/\mm=q - j/\σ=[(77,Zk j),(76,Zk q),(75,Zc D q cq),(3,Zp g2),(2,Zp g1)]/\Le fz' fz2/\k<=2+j/\
   H'=(g2,Zu #[Zk 3,Zk 0,Zk 0,Zk 0,Ze,v] 148)::(g1,Zu #[Zk 0,Zk 0,Zk 0,Zk 0,Ze,Zn] 148)::Hs/\Grow YO 148 fz2 v k Hs (base++(f.kids.take j).map (Ybs s)))
   ⟨0,v,k,Hs,Z0 _,rfl,rfl,Zd,by omega,rfl,by simpa using hG⟩ Zw Zb ?_
  rintro mm σ fz2 H' ⟨j,v,k,Hs,hj,rfl,rfl,hle2,hk2,rfl,hG⟩;obtain ⟨Av,cv,rfl,_,_⟩:=hG.form;have hk3:=hk.mono (hle.trans hle2);refine wC ?_ ?_<;>intro c1
  ·obtain ⟨x,hx⟩:=Yf (l:=f.kids) (k:=j) Zi;have hxm:x∈f.kids:=Zm hx;have hlt:=Formula.kids_lt hxm;refine wI hk3 hx (fun p hp5=>?_);refine zL hp5 ?_;intro cs hcs;obtain ⟨wa,wp,we,wk,rfl,hRx⟩:=Yu hcs;obtain ⟨⟨A1,n1,b1,rfl,_⟩,⟨A2,n2,b2,rfl,_⟩,⟨A3,n3,b3,rfl,_⟩,⟨A4,n4,b4,rfl,_⟩⟩:=hRx.sls;refine zW ?_;intros;rename_i g5;refine Y6 [_,_,_] ?_;refine zW ?_;refine Yl (Yl (Yl ?_));refine zW ?_;refine pU ?_;refine Yg (Yk [] _ Zz (Yn2 s (f:=x) Zi hRx (hks x hxm)) (fun v2 fz4 H2 hle4 hR2=>?_));obtain ⟨rfl,cs3,rfl,hr3⟩:=hR2;obtain ⟨vk3,rfl,hR3⟩:=YJ hr3;refine ⟨⟨hle4,Zx⟩,?_⟩;refine Yg (Yc (cs:=[Zk (Ybs s x).kind,Zk (Ybs s x).value,Zk (Ybs s x).line,Zk (Ybs s x).column,Zy (Ybs s x).text,vk3]) (fun gb=>⟨⟨hle4,Zx⟩,?_⟩));refine Yg (YG (Hr:=[_,_,_,_]) (d:=Ybs s x) (Zr _) (hG.mono hle4) Yz (.head _) (Ym hR3) (fun v' Hs' hO'=>⟨⟨hle4,Zx⟩,?_⟩));obtain ⟨Av',cv',rfl,_,_⟩:=hO'.form;refine Ch.hard0 (XK ?_);refine Ch.done ?_;exact wP (h:=by exact ⟨j+1,_,k+1,Hs',by omega,rfl,rfl,hle2.trans hle4,by omega,rfl,by rw [List.take_add_one,hx,Option.toList,List.map_append,<- List.append_assoc];exact hO'⟩)
  have hj1:j=q:=by omega
  subst hj1;refine zW ?_;refine YW (i:=1) rfl (fun fz3 hle3 hf3=>⟨rfl,?_⟩);rw [Zl Zi] at hG;obtain ⟨A',c',he5,hsl⟩:=hG.sl hle3 (fun p hp=>hf3 p (by simp [hp])) Zi;injection he5 with e1 e2 e3
  subst e1 e3;rw [Ybs,if_neg (show ¬f.op=kAtom from y1),if_neg (show ¬f.op=kSame from y2),if_neg hc,hbase];exact W9 hsl
def Xf (f:Formula):Sexpr:=Ybs (SizeOf.sizeOf f) f
open Classical in
theorem YfY (f:Formula):Xf f=if f.op=kAtom then Wn f.name f.args else if f.op=kSame then Wn kEq f.args else if CmpOp f.op then YK (Yi f.op::f.exprs.map Wf)
 else YK ((if f.op≠kAnd\/f.kids≠ [] then [Yi f.op] else [])++(if f.op=kForall\/f.op=kExists then [YK ((f.params.flatMap YaC).map Yi)] else [])++f.kids.map Xf):=by
 have hk:f.kids.map (Ybs (SizeOf.sizeOf f))=f.kids.map Xf:=List.map_congr_left (fun k hk=>Yfa _ _ k (by have:=Formula.kids_lt hk;omega) (Zs _));rw [Xf,Yfa _ (SizeOf.sizeOf f+1) f (Zs _) Zi,Ybs,hk]
theorem Yn1 (h:FormulaR fz f va vp ve vk) (hF:FShape f):
 GFn prog 187 [.agg #[Zy f.op,Zy f.name,va,vp,ve,vk]] fz [] (fun v fz' H'=>H'=[]/\SxIs fz' v (Xf f)):=Yn2 _ (Zs _) h hF
end Go.Proofs.YtbdpaoikccabhaaGreatDoor
namespace Go.Lx
variable {k:Nat} {f:Formula}
def YeC (n:Int):Prop:= -1099511627776<=n/\n<=1099511627776
mutual
def ecount:Expr->Nat
 | .mk _ _ _ _ kids=>1+ecountL kids
def ecountL:List Expr->Nat
 | []=>0
 | k::r=>ecount k+ecountL r
end
mutual
def edepth:Expr->Nat
 | .mk _ _ _ _ kids=>1+edepthL kids
def edepthL:List Expr->Nat
 | []=>0
 | k::r=>max (edepth k) (edepthL r)
end
mutual
def fcount:Formula->Nat
 | .mk _ _ _ _ exprs kids=>1+ecountL exprs+fcountL kids
def fcountL:List Formula->Nat
 | []=>0
 | k::r=>fcount k+fcountL r
end
mutual
def fdepth:Formula->Nat
 | .mk _ _ _ _ exprs kids=>1+max (edepthL exprs) (fdepthL kids)
def fdepthL:List Formula->Nat
 | []=>0
 | k::r=>max (fdepth k) (fdepthL r)
end
mutual
def xcount:Sexpr->Nat
 | .mk _ _ _ _ _ kids=>1+xcountL kids
def xcountL:List Sexpr->Nat
 | []=>0
 | k::r=>xcount k+xcountL r
end
mutual
def xdepth:Sexpr->Nat
 | .mk kind _ _ _ _ kids=>xdepthL kids+(if kind=3 then 1 else 0)
def xdepthL:List Sexpr->Nat
 | []=>0
 | k::r=>max (xdepth k) (xdepthL r)
end
theorem Yc8 (e:Expr):ecount e=1+ecountL e.kids:=by cases e;simp [ecount,Expr.kids]
theorem Yev (e:Expr):edepth e=1+edepthL e.kids:=by cases e;simp [edepth,Expr.kids]
theorem Yer (f:Formula):fcount f=1+ecountL f.exprs+fcountL f.kids:=by cases f;simp [fcount,Formula.kids,Formula.exprs]
theorem Yg1 (f:Formula):fdepth f=1+max (edepthL f.exprs) (fdepthL f.kids):=by cases f;simp [fdepth,Formula.kids,Formula.exprs]
theorem Yf8 (x:Sexpr):xcount x=1+xcountL x.kids:=by cases x;simp [xcount,Sexpr.kids]
theorem Yf7 (x:Sexpr):xdepth x=xdepthL x.kids+(if x.kind=3 then 1 else 0):=by cases x;rw [xdepth];rfl
theorem YkF {l:List Expr} {x:Expr}:ecountL (l++ [x])=ecountL l+ecount x:=by
 induction l with
 | nil=>simp [ecountL]
 | cons a r ih=>simp only [List.cons_append,ecountL,ih];omega
theorem Ykz {l:List Formula} {x:Formula}:fcountL (l++ [x])=fcountL l+fcount x:=by
 induction l with
 | nil=>simp [fcountL]
 | cons a r ih=>simp only [List.cons_append,fcountL,ih];omega
theorem Yjv {l:List Sexpr} {x:Sexpr}:xcountL (l++ [x])=xcountL l+xcount x:=by
 induction l with
 | nil=>simp [xcountL]
 | cons a r ih=>simp only [List.cons_append,xcountL,ih];omega
theorem Yhu {l m:List Expr}:ecountL (l++m)=ecountL l+ecountL m:=by
 induction l with
 | nil=>simp [ecountL]
 | cons a r ih=>simp only [List.cons_append,ecountL,ih];omega
theorem Yhs {l m:List Formula}:fcountL (l++m)=fcountL l+fcountL m:=by
 induction l with
 | nil=>simp [fcountL]
 | cons a r ih=>simp only [List.cons_append,fcountL,ih];omega
theorem Ydz {l m:List Sexpr}:xcountL (l++m)=xcountL l+xcountL m:=by
 induction l with
 | nil=>simp [xcountL]
 | cons a r ih=>simp only [List.cons_append,xcountL,ih];omega
theorem Yhj {l m:List Sexpr}:xdepthL (l++m)=max (xdepthL l) (xdepthL m):=by
 induction l with
 | nil=>simp [xdepthL]
 | cons a r ih=>simp only [List.cons_append,xdepthL,ih];omega
theorem Yk2 {l:List Sexpr} {x:Sexpr} (h:x∈l):xcount x<=xcountL l:=by
 induction l with
 | nil=>cases h
 | cons a r ih=>
  simp only [xcountL];rcases List.mem_cons.1 h with rfl | h
  ·omega
  have:=ih h;omega
theorem Yh2 {l:List Expr} {b:Nat}:edepthL l<=b↔∀ x∈l,edepth x<=b:=by
 induction l with
 | nil=>simp [edepthL]
 | cons a r ih=>simp only [edepthL,List.mem_cons,forall_eq_or_imp,Nat.max_le,ih]
theorem Yh1 {l:List Formula} {b:Nat}:fdepthL l<=b↔∀ x∈l,fdepth x<=b:=by
 induction l with
 | nil=>simp [fdepthL]
 | cons a r ih=>simp only [fdepthL,List.mem_cons,forall_eq_or_imp,Nat.max_le,ih]
theorem YeI {l:List Sexpr} {b:Nat}:xdepthL l<=b↔∀ x∈l,xdepth x<=b:=by
 induction l with
 | nil=>simp [xdepthL]
 | cons a r ih=>simp only [xdepthL,List.mem_cons,forall_eq_or_imp,Nat.max_le,ih]
theorem Yda {l:List Expr} {x:Expr} (hx:l[k]?=some x):ecountL (l.take (k+1))=ecountL (l.take k)+ecount x:=by
 rw [List.take_add_one,hx];simp only [Option.toList];exact YkF
theorem Yc9 {l:List Expr}:ecountL (l.take k)<=ecountL l:=by
 have h:=Yhu (l:=l.take k) (m:=l.drop k);rw [List.take_append_drop] at h;omega
theorem YfC {l:List Formula} {x:Formula} (hx:l[k]?=some x):fcountL (l.take (k+1))=fcountL (l.take k)+fcount x:=by
 rw [List.take_add_one,hx];simp only [Option.toList];exact Ykz
theorem YfB {l:List Formula}:fcountL (l.take k)<=fcountL l:=by
 have h:=Yhs (l:=l.take k) (m:=l.drop k);rw [List.take_append_drop] at h;omega
theorem Yju {l:List Sexpr} {x:Sexpr} (hx:l[k]?=some x):xcountL (l.take (k+1))=xcountL (l.take k)+xcount x:=by
 rw [List.take_add_one,hx];simp only [Option.toList];exact Yjv
theorem Yjt {l:List Sexpr}:xcountL (l.take k)<=xcountL l:=by
 have h:=Ydz (l:=l.take k) (m:=l.drop k);rw [List.take_append_drop] at h;omega
mutual
/-- what holds of all parts -/
def EAll (p:Expr->Prop):Expr->Prop
 | .mk op name n args kids=>p (.mk op name n args kids)/\EAllL p kids
def EAllL (p:Expr->Prop):List Expr->Prop
 | []=>True
 | k::r=>EAll p k/\EAllL p r
end
mutual
def FAll (p:Formula->Prop) (q:Expr->Prop):Formula->Prop
 | .mk op name args params exprs kids=>p (.mk op name args params exprs kids)/\EAllL q exprs/\FAllL p q kids
def FAllL (p:Formula->Prop) (q:Expr->Prop):List Formula->Prop
 | []=>True
 | k::r=>FAll p q k/\FAllL p q r
end
mutual
def XAll (p:Sexpr->Prop):Sexpr->Prop
 | .mk kind value line column text kids=>p (.mk kind value line column text kids)/\XAllL p kids
def XAllL (p:Sexpr->Prop):List Sexpr->Prop
 | []=>True
 | k::r=>XAll p k/\XAllL p r
end
theorem Yk0 {p:Expr->Prop} {l:List Expr}:EAllL p l↔∀ k∈l,EAll p k:=by
 induction l with
 | nil=>simp [EAllL]
 | cons a r ih=>simp only [EAllL,ih,List.mem_cons,forall_eq_or_imp]
theorem YqJ {p:Formula->Prop} {q:Expr->Prop} {l:List Formula}:FAllL p q l↔∀ k∈l,FAll p q k:=by
 induction l with
 | nil=>simp [FAllL]
 | cons a r ih=>simp only [FAllL,ih,List.mem_cons,forall_eq_or_imp]
theorem YqB {p:Sexpr->Prop} {l:List Sexpr}:XAllL p l↔∀ k∈l,XAll p k:=by
 induction l with
 | nil=>simp [XAllL]
 | cons a r ih=>simp only [XAllL,ih,List.mem_cons,forall_eq_or_imp]
theorem YbO {p:Expr->Prop} {e:Expr}:EAll p e↔p e/\∀ k∈e.kids,EAll p k:=by cases e;simp only [EAll,Yk0,Expr.kids]
theorem WQ {p:Formula->Prop} {q:Expr->Prop}:FAll p q f↔p f/\(∀ e∈f.exprs,EAll q e)/\∀ k∈f.kids,FAll p q k:=by cases f;simp only [FAll,YqJ,Yk0,Formula.kids,Formula.exprs]
theorem Ya8 {p:Sexpr->Prop} {x:Sexpr}:XAll p x↔p x/\∀ k∈x.kids,XAll p k:=by cases x;simp only [XAll,YqB,Sexpr.kids]
theorem Wb {P:Program} {cx:Cx} {r:Operand->Option Value} {fz:FZ} {H:HP} {V:Value->Prop} {dst:Option Nat} {ty:TypeId} {pos:String} {af:Array Edge} {gd:Option (Nat × Bool)} {f:FuncId} {ff:Operand} {xs:List Operand} {ats:Array TypeId} {us vs first capt:List Value} {p:Prop} [Decidable p] (hf:r ff=some (.func (.func f) first.toArray capt.toArray)) (hx:rds r xs=some us) (hv:first++us++capt=vs) (hq:QFn P f vs fz (Zo (decide p)))
 (h1:p->V (.bool true)) (h2:¬p->V (.bool false)):DoesQ P cx ⟨dst,.call {callee:=.value ff,args:=xs.toArray,argTypes:=ats},ty,pos,af,gd⟩ r fz H V:=
 Ybn hq (Yii h1 h2) (hf:=hf) (hx:=hx) (hv:=hv)
end Go.Lx
namespace Go.Proofs.YtbdpaoikccabhaaGreatDoor
variable {A:Option Addr} {c n g:Nat} {ff:FuncId} {fz:FZ} {s:Bs} {va vk:Value}
theorem Ym4 {p:Prop} [Decidable p]:Value.bool (!decide p)=Value.bool (decide (¬p)):=by rw [decide_not]
theorem indexF_q {l:List Bs} {p:Bs->Prop} [DecidablePred p] (h1:Sl strL fz A n c l) (hq:∀ x,Short x->QFn prog ff [Zy x] fz (Zo (decide (p x)))):
 QFn prog 257 [Zc A n c,.func (.func ff) #[] #[]] fz (Zk (W2 p l 0)):=by
 refine qF Tryz.func257 Tryz.ntmps257 (fun w0=>?_);have l1:=h1.len;have hm:=h1.short;refine zW ?_;refine WD n (fun k=>[(8,Zk k),(7,Zk n),(0,Zc A n c),(1,.func (.func ff) #[] #[])]) [] (fun k=>(∀ i,i<k->∀ x,l[i]?=some x->¬p x)) (fun i hi=>absurd hi Zi) ?_;intro k hk hh;refine wC (fun hlt=>?_) (fun hge=>?_)
 ·refine zW ?_;obtain ⟨x,hx⟩:=Yf (l:=l) (k:=k) Zi;refine zI h1 hx (fun a ha=>?_);refine zH ha (fun iy=>?_);refine wG ?_;refine Wb Zz Zz Zz (hq x iy) (fun c1=>?_) (fun c1=>?_)
  ·exact wR (h:=by rw [XQ hh hx c1,Int.zero_add])
  exact wM (h:=by exact YH hh hx c1)
 exact wR (h:=by rw [Xo (Xc hh Zi)])
theorem YcE {l:List Bs} {p:Bs->Prop} [DecidablePred p] (h1:Sl strL fz A n c l) (hq:∀ x,Short x->QFn prog ff [Zy x] fz (Zo (decide (p x)))):
 QFn prog 225 [Zc A n c,.func (.func ff) #[] #[]] fz (Zo (decide (∃ x∈l,p x))):=by
 refine qF Tryz.func225 Tryz.ntmps225 (fun w0=>?_);refine wc (indexF_q h1 hq) ?_;refine zC ?_ ?_<;>intro c1
 ·exact wR (h:=by exact Ys ((Y1 (Int.le_refl 0)).1 c1))
 exact wR (h:=by exact Yj (fun h=>c1 ((Y1 (Int.le_refl 0)).2 h)))
theorem YjI (hs:Short s):QFn prog 226 [Zy s] fz (Zo (decide (¬Yfm s))):=by
 refine qF Tryz.func226 Tryz.ntmps226 (fun w0=>?_);refine wc (term_q hs) ?_;exact wR (h:=by exact Ym4)
theorem YpJ (hs:Short s):QFn prog 258 [Zy s] fz (Zo (decide (¬Yfm s))):=by
 refine qF Tryz.func258 Tryz.ntmps258 (fun w0=>?_);refine wc (term_q hs) ?_;exact wR (h:=by exact Ym4)
def budO (c:Int):Obj:=Zu #[Zk c] 261
theorem take_q {d:Nat} (hc:c<=5000):GFn prog 224 [Zp g,Zk d] fz [(g,budO c)] (fun v fz' H'=>Le fz fz'/\H'=[(g,budO (c+1:Nat))]/\∃ b:Bool,v=Zo b/\(b=true↔c+1<=4096/\d<=32)):=by
 unfold budO;refine zF Tryz.func224 Tryz.ntmps224 (fun w0=>?_);refine wC ?_ ?_<;>intro c1
 ·refine wC ?_ ?_<;>intro c2
  ·exact wR (h:=by exact ⟨Zd,rfl,true,rfl,iff_of_true rfl ⟨by omega,by omega⟩⟩)
  exact wR (h:=by exact ⟨Zd,rfl,false,rfl,iff_of_false (by simp) (fun h=>c2 Zi)⟩)
 exact wR (h:=by exact ⟨Zd,rfl,false,rfl,iff_of_false (by simp) (fun h=>c1 Zi)⟩)
def Ypy:Bs:=⟨#[43]⟩
def kStar:Bs:=⟨#[42]⟩
def BinP (s:Bs):Prop:=s=Ypy\/s=Yb7\/s=kStar
def YfP (e:Lx.Expr):Prop:=
 (e.op=kNumber/\e.name=YaD/\e.args=[]/\e.kids=[]/\YeC e.n)\/(e.op=kFluent/\e.n=0/\e.kids=[]/\Xk e.name/\∀ s∈e.args,Yfm s)\/(BinP e.op/\e.n=0/\e.name=YaD/\e.args=[]/\e.kids.length=2)
abbrev EOk (e:Lx.Expr):Prop:=EAll YfP e
theorem YkC {e:Lx.Expr} (h:e.op=kNumber):YfP e↔e.name=YaD/\e.args=[]/\e.kids=[]/\YeC e.n:=by
 unfold YfP BinP;rw [h];refine ⟨fun h=>?_,fun h=>.inl ⟨rfl,h⟩⟩;rcases h with h | h | h
 ·exact h.2
 ·exact absurd (congrArg (fun s=>Ya2 s 0) h.1) Zh
 rcases h.1 with h | h | h<;>exact absurd (congrArg ByteArray.size h) Zh
theorem YkD {e:Lx.Expr} (h:e.op=kFluent):YfP e↔e.n=0/\e.kids=[]/\Xk e.name/\∀ s∈e.args,Yfm s:=by
 unfold YfP BinP;rw [h];refine ⟨fun h=>?_,fun h=>.inr (.inl ⟨rfl,h⟩)⟩;rcases h with h | h | h
 ·exact absurd (congrArg (fun s=>Ya2 s 0) h.1) Zh
 ·exact h.2
 rcases h.1 with h | h | h<;>exact absurd (congrArg ByteArray.size h) Zh
theorem YkE {e:Lx.Expr} (h1:¬e.op=kNumber) (h2:¬e.op=kFluent):YfP e↔BinP e.op/\e.n=0/\e.name=YaD/\e.args=[]/\e.kids.length=2:=
 ⟨fun h=>by rcases h with h | h | h;exact absurd h.1 h1;exact absurd h.1 h2;exact h,fun h=>.inr (.inr h)⟩
def EBud (g:Nat) (e:Lx.Expr) (d c:Nat) (v:Value) (H':HP):Prop:=
 ∃ (b:Bool) (c':Int),v=Zo b/\H'=[(g,budO c')]/\(b=true->c'=((c+ecount e:Nat):Int))/\(b=true↔EOk e/\d+edepth e<=33/\c+ecount e<=4096)
theorem Yja {e:Lx.Expr} {d:Nat} {c':Int} (h:¬(EOk e/\d+edepth e<=33/\c+ecount e<=4096)):EBud g e d c (Zo false) [(g,budO c')]:=⟨false,c',rfl,rfl,(by simp),iff_of_false (by simp) h⟩
theorem YkG {e:Lx.Expr} {d:Nat} (h:YfP e) (hk:e.kids=[]) (ht:c+1<=4096/\d<=32):EBud g e d c (Zo true) [(g,budO (c+1:Nat))]:=by
 have h1:ecount e=1:=by rw [Yc8,hk];simp [ecountL]
 have h2:edepth e=1:=by rw [Yev,hk];simp [edepthL]
 exact ⟨true,_,rfl,rfl,fun _=>by rw [h1],iff_of_true rfl ⟨YbO.2 ⟨h,by rw [hk];simp⟩,by omega,by omega⟩⟩
theorem len0 {α:Type} {l:List α} {n:Nat} (h:l.length=n):(n:Int)=0↔l=[]:=by
 constructor
 ·intro h0;exact List.eq_nil_of_length_eq_zero Zi
 intro h0;subst h0;simp at h;omega
theorem YiY:∀ (s:Nat) {fz:FZ} {e:Lx.Expr} {va vk:Value} {g d c:Nat},SizeOf.sizeOf e<=s->ExprR fz e va vk->d<=33->c<=4096->
 GFn prog 229 [.agg #[Zy e.op,Zy e.name,Zk e.n,va,vk],Zk d,Zp g] fz [(g,budO c)] (fun v fz' H'=>Le fz fz'/\EBud g e d c v H')
 | 0,_,e,_,_,_,_,_,hs,_,_,_=>by cases e;simp at hs
 | s+1,fz,e,va,vk,g,d,c,hs,h,hd,hc=>by
  obtain ⟨⟨A,n,ca,rfl,ha⟩,⟨B,m,cb,rfl,hk⟩⟩:=h.sls;have no:∀ {c':Int},¬YfP e->EBud g e d c (Zo false) [(g,budO c')]:=fun h0=>Yja (fun h1=>h0 (YbO.1 h1.1).1)
  refine zF Tryz.func229 Tryz.ntmps229 (fun w0=>?_);refine pX (fun g0=>?_)
  first | refine Wp.perm (List.Perm.swap _ _ _) ?_ | refine Seq.perm (List.Perm.swap _ _ _) ?_
  refine zW ?_;refine Yd (Yk [_] [_] Zz (take_q (c:=c) Zi) (fun v fz2 H2 hle2 hR=>?_));obtain ⟨hle3,rfl,b,rfl,hb⟩:=hR;cases b
  ·refine zW ?_
   (exact ret1 rfl rfl Zb ⟨hle2,Yja (fun h0=>by
    have h1:=Yc8 e;have h2:=Yev e;exact absurd (hb.2 ⟨by omega,by omega⟩) (by simp))⟩)
  have ht:=hb.1 rfl;refine wC (fun x1=>?_) (fun y1=>?_)
  ·have hn:=YkC (e:=e) x1;refine zW ?_
   (((refine zC (fun n1=>?_) (fun n1=>?_));rotate_left 1;((refine zW ?_);(exact ret1 rfl rfl Zb ⟨hle2,no (fun h0=>n1 (hn.1 h0).1)⟩));(refine zW ?_)))
   (((refine zC (fun n2=>?_) (fun n2=>?_));rotate_left 1;((refine zW ?_);(exact ret1 rfl rfl Zb ⟨hle2,no (fun h0=>n2 ((len0 ha.len).2 (hn.1 h0).2.1))⟩));(refine zW ?_)))
   (((refine zC (fun n3=>?_) (fun n3=>?_));rotate_left 1;((refine zW ?_);(exact ret1 rfl rfl Zb ⟨hle2,no (fun h0=>n3 ((len0 hk.len).2 (hn.1 h0).2.2.1))⟩));(refine zW ?_)))
   (((refine zC (fun n4=>?_) (fun n4=>?_));rotate_left 1;((refine zW ?_);(exact ret1 rfl rfl Zb ⟨hle2,no (fun h0=>n4 (hn.1 h0).2.2.2.1)⟩));(refine zW ?_)))
   (((refine zC (fun n5=>?_) (fun n5=>?_));rotate_left 1;((refine zW ?_);(exact ret1 rfl rfl Zb ⟨hle2,no (fun h0=>n5 (hn.1 h0).2.2.2.2)⟩));(refine zW ?_)));exact wR (h:=by exact ⟨hle2,YkG (hn.2 ⟨n1,(len0 ha.len).1 n2,(len0 hk.len).1 n3,n4,n5⟩) ((len0 hk.len).1 n3) ht⟩)
  refine wC (fun x2=>?_) (fun y2=>?_)
  ·have hn:=YkD (e:=e) x2;refine zW ?_
   (((refine zC (fun n1=>?_) (fun n1=>?_));rotate_left 1;((refine zW ?_);(exact ret1 rfl rfl Zb ⟨hle2,no (fun h0=>n1 (hn.1 h0).1)⟩));(refine zW ?_)))
   (((refine zC (fun n2=>?_) (fun n2=>?_));rotate_left 1;((refine zW ?_);(exact ret1 rfl rfl Zb ⟨hle2,no (fun h0=>n2 ((len0 hk.len).2 (hn.1 h0).2.1))⟩));(refine zW ?_)));refine zb (YaY h.name) (fun f1=>?_) (fun f1=>?_)
   ·refine wG ?_;refine XS (YcE (ha.mono hle2) (fun x hx=>YpJ hx)) (fun f2=>?_) (fun f2=>?_)
    ·refine zW ?_
     (exact ret1 rfl rfl Zb ⟨hle2,no (fun h0=>by
      obtain ⟨x,hx,hx2⟩:=Zt f2;exact hx2 ((hn.1 h0).2.2.2 x hx))⟩)
    exact wR (h:=by exact ⟨hle2,YkG (hn.2 ⟨n1,(len0 hk.len).1 n2,Zt f1,fun x hx=>Classical.byContradiction fun h0=>Zf f2 ⟨x,hx,h0⟩⟩) ((len0 hk.len).1 n2) ht⟩)
   refine zW ?_;exact ret1 rfl rfl Zb ⟨hle2,no (fun h0=>Zf f1 (hn.1 h0).2.2.1)⟩
  refine zWO ?_;refine Wh ?_;refine YN (Xe (fun σ fz' H'=>∃ b:Bool,σ=[(62,Zo b),(3,Zp g0),(2,Zp g),(1,Zk d)]/\fz2=fz'/\H'=[(g,budO (c+1:Nat)),(g0,Zu #[Zy e.op,Zy e.name,Zk e.n,Zc A n ca,Zc B m cb] 69)]/\(b=true↔BinP e.op)) ?_ ?_)
  ·refine wC ?_ ?_<;>intro p1
   ·exact wN (h:=by exact ⟨true,rfl,rfl,rfl,iff_of_true rfl (.inl p1)⟩)
   refine wC ?_ ?_<;>intro p2
   ·exact wN (h:=by exact ⟨true,rfl,rfl,rfl,iff_of_true rfl (.inr (.inl p2))⟩)
   refine wC ?_ ?_<;>intro p3
   ·exact wN (h:=by exact ⟨true,rfl,rfl,rfl,iff_of_true rfl (.inr (.inr p3))⟩)
   refine zW ?_;exact midN ⟨false,rfl,rfl,rfl,iff_of_false (by simp) (fun h0=>h0.elim p1 (fun h0=>h0.elim p2 p3))⟩ Zw Zb
  rintro σ fz' H' ⟨b,rfl,rfl,rfl,hbp⟩;have hn:=YkE (e:=e) y1 y2;cases b
  ·refine zW ?_;exact ret1 rfl rfl Zb ⟨hle2,no (fun h0=>absurd (hbp.2 (hn.1 h0).1) (by simp))⟩
  have lk:=hk.len;refine zW ?_
  (((refine zC (fun n1=>?_) (fun n1=>?_));rotate_left 1;((refine zW ?_);(exact ret1 rfl rfl Zb ⟨hle2,no (fun h0=>n1 (hn.1 h0).2.1)⟩));(refine zW ?_)))
  (((refine zC (fun n2=>?_) (fun n2=>?_));rotate_left 1;((refine zW ?_);(exact ret1 rfl rfl Zb ⟨hle2,no (fun h0=>n2 (hn.1 h0).2.2.1)⟩));(refine zW ?_)))
  (((refine zC (fun n3=>?_) (fun n3=>?_));rotate_left 1;((refine zW ?_);(exact ret1 rfl rfl Zb ⟨hle2,no (fun h0=>n3 ((len0 ha.len).2 (hn.1 h0).2.2.2.1))⟩));(refine zW ?_)))
  (((refine zC (fun n4=>?_) (fun n4=>?_));rotate_left 1;((refine zW ?_);(exact ret1 rfl rfl Zb ⟨hle2,no (fun h0=>n4 (by have:=(hn.1 h0).2.2.2.2;omega))⟩));(refine zW ?_)));have hN:YfP e:=hn.2 ⟨hbp.1 rfl,n1,n2,(len0 ha.len).1 n3,by omega⟩;obtain ⟨a,b,hab⟩:∃ a b,e.kids=[a,b]:=by
   match hK:e.kids,(show e.kids.length=2 by omega) with
   | [a,b],_=>exact ⟨a,b,rfl⟩
  have la:=Lx.Expr.kids_lt (x:=e) (k:=a) (by rw [hab];simp);have lb:=Lx.Expr.kids_lt (x:=e) (k:=b) (by rw [hab];simp);have hcnt:ecount e=1+(ecount a+ecount b):=by rw [Yc8,hab];simp [ecountL]
  have hdep:edepth e=1+max (edepth a) (edepth b):=by rw [Yev,hab];simp [edepthL]
  have hall:EOk e↔EOk a/\EOk b:=by
   refine (YbO (p:=YfP) (e:=e)).trans ?_;rw [hab];simp only [List.mem_cons,List.not_mem_nil,or_false,forall_eq_or_imp,forall_eq];exact ⟨fun h0=>h0.2,fun h0=>⟨hN,h0⟩⟩
  have hk2:=hk.mono hle2
  ((refine zG ?_);refine Ya0 T 0 Zz Zz Zz Zz Zz Zz hk2 (by first | rfl | omega) (by rw [hab];rfl:e.kids[0]?=some a) (fun p hp=>?_));refine zL hp ?_;intro cs hcs;obtain ⟨wa,wk,rfl,hRa⟩:=YF hcs;refine zW ?_;refine Wm (Yk [_] [_] Zz (YiY s (e:=a) (d:=d+1) (c:=c+1) Zi hRa Zi Zi) (fun v4 fz4 H4 hle4 hR4=>?_));obtain ⟨_,b1,c1,rfl,rfl,hc1,hb1⟩:=hR4;cases b1
  ·refine zW ?_;exact ret1 rfl rfl Zb ⟨hle2.trans hle4,Yja (fun h0=>absurd (hb1.2 ⟨(hall.1 h0.1).1,by omega,by omega⟩) (by simp))⟩
  have hc1:=hc1 rfl;have hb1:=hb1.1 rfl;subst hc1;refine zW ?_
  ((refine zG ?_);refine Ya0 T 1 Zz Zz Zz Zz Zz Zz (hk2.mono hle4) (by first | rfl | omega) (by rw [hab];rfl:e.kids[1]?=some b) (fun p2 hp2=>?_));refine zL hp2 ?_;intro cs2 hcs2;obtain ⟨za,zk,rfl,hRb⟩:=YF hcs2;refine zW ?_;refine Wm (Yk [_] [_] Zz (YiY s (e:=b) (d:=d+1) (c:=c+1+ecount a) Zi hRb Zi Zi) (fun v5 fz5 H5 hle5 hR5=>?_));obtain ⟨_,b2,c2,rfl,rfl,hc2,hb2⟩:=hR5;cases b2
  ·refine zW ?_;exact ret1 rfl rfl Zb ⟨hle2.trans (hle4.trans hle5),Yja (fun h0=>absurd (hb2.2 ⟨(hall.1 h0.1).2,by omega,by omega⟩) (by simp))⟩
  have hc2:=hc2 rfl;have hb2:=hb2.1 rfl;subst hc2;refine zW ?_;exact ret1 rfl rfl Zb ⟨hle2.trans (hle4.trans hle5),true,_,rfl,rfl,fun _=>by omega,iff_of_true rfl ⟨hall.2 ⟨hb1.1,hb2.1⟩,by omega,by omega⟩⟩
theorem YmN {e:Lx.Expr} {d:Nat} (h:ExprR fz e va vk) (hd:d<=33) (hc:c<=4096):
 GFn prog 229 [.agg #[Zy e.op,Zy e.name,Zk e.n,va,vk],Zk d,Zp g] fz [(g,budO c)] (fun v fz' H'=>Le fz fz'/\EBud g e d c v H'):=YiY _ (Zs _) h hd hc
end Go.Proofs.YtbdpaoikccabhaaGreatDoor
