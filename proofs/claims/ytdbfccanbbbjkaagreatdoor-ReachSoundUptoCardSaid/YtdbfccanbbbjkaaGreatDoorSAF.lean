/- The texts Tab, PWalkA, PWalkB, PWalkC, PWalkD, PPlain, PWalkE, laid together. Conditions: none. -/
import Derived.Test.YtdbfccanbbbjkaaGreatDoorSAVRowSA
import Derived.Test.YtdbfccanbbbjkaaGreatDoorProg
set_option linter.all false
set_option maxHeartbeats 2000000
noncomputable section
open Go.Lx Go.RowKit
attribute [local instance 10] Classical.propDecidable
open Go.Proofs.Tryz (prog)
namespace Go.Proofs.YtdbfccanbbbjkaaGreatDoor
open Go.Lx
set_option maxRecDepth 100000
theorem allTy_of {P:Program}:∀ l:List (Nat × Ty),(l.map fun p=>(P.underlying p.1).map Lx.blank)=(l.map fun p=>some p.2.desc)->(l.map fun p=>(P.info? p.1).map fun i=>(i.size,i.bytes,i.zero))=(l.map fun p=>some (p.2.size,p.2.bytes,some p.2.zero))->AllTy P l
 |[],_,_=>trivial
 |p::r,h,g=>by
  simp only [List.map_cons,List.cons.injEq] at h g;exact ⟨TyOk.mk' h.1 g.1,allTy_of r h.2 g.2⟩
def tabL:List (Nat × Ty):=[(2,⟨.int .i64,1,8,Zk 0⟩),(3,⟨.int .i64,1,8,Zk 0⟩),(4,⟨.bool,1,1,.bool false⟩),(5,⟨.int .u8,1,1,.int .u8 0⟩),(6,⟨.int .u8,1,1,.int .u8 0⟩),(7,⟨.struct #[fld 2 0,fld 3 1,fld 4 2,fld 6 3],4,24,.agg #[(Zk 0),Zk 0,.bool false,(.int .u8 0)]⟩),(9,⟨.string,1,16,Ze⟩),(12,⟨.int .u64,1,8,.int .u64 0⟩),(13,⟨.struct #[fld 9 0,fld 12 1],2,24,.agg #[Ze,(.int .u64 0)]⟩),(14,⟨.struct #[fld 9 0,fld 12 1],2,24,.agg #[Ze,(.int .u64 0)]⟩),(21,⟨.int .i32,1,4,.int .i32 0⟩),(22,⟨.slice 121,1,24,Zn⟩),(23,⟨.slice 97,1,24,Zn⟩),(24,⟨.slice 202,1,24,Zn⟩),(25,⟨.slice 91,1,24,Zn⟩),(26,⟨.slice 101,1,24,Zn⟩),(27,⟨.struct #[fld 9 0,fld 22 1,fld 22 2,fld 23 3,fld 24 4,fld 25 5,fld 26 6],7,160,.agg #[Ze,Zn,Zn,Zn,Zn,Zn,Zn]⟩),(28,⟨.struct #[fld 9 0,fld 22 1,fld 22 2,fld 23 3,fld 24 4,fld 25 5,fld 26 6],7,160,.agg #[Ze,Zn,Zn,Zn,Zn,Zn,Zn]⟩),(29,⟨.slice 55,1,24,Zn⟩),(30,⟨.slice 174,1,24,Zn⟩),(31,⟨.slice 9,1,24,Zn⟩),(32,⟨.slice 93,1,24,Zn⟩),(33,⟨.slice 35,1,24,Zn⟩),(34,⟨.struct #[fld 9 0,fld 9 1,fld 31 2,fld 22 3,fld 32 4,fld 33 5],6,128,.agg #[Ze,Ze,Zn,Zn,Zn,Zn]⟩),(35,⟨.struct #[fld 9 0,fld 9 1,fld 31 2,fld 22 3,fld 32 4,fld 33 5],6,128,.agg #[Ze,Ze,Zn,Zn,Zn,Zn]⟩),(36,⟨.struct #[fld 9 0,fld 9 1,fld 22 2,fld 29 3,fld 30 4,fld 35 5],11,232,.agg #[Ze,Ze,Zn,Zn,Zn,Ze,Ze,Zn,Zn,Zn,Zn]⟩),(37,⟨.struct #[fld 9 0,fld 9 1,fld 22 2,fld 29 3,fld 30 4,fld 35 5],11,232,.agg #[Ze,Ze,Zn,Zn,Zn,Ze,Ze,Zn,Zn,Zn,Zn]⟩),(38,⟨.slice 5,1,24,Zn⟩),(41,⟨.interface #[],1,16,.nilIface⟩),(42,⟨.interface #[],1,16,.nilIface⟩),(45,⟨.slice 61,1,24,Zn⟩),(48,⟨.slice 52,1,24,Zn⟩),(51,⟨.struct #[fld 29 0,fld 30 1],2,48,.agg #[Zn,Zn]⟩),(52,⟨.struct #[fld 29 0,fld 30 1],2,48,.agg #[Zn,Zn]⟩),(54,⟨.struct #[fld 9 0,fld 31 1],2,40,.agg #[Ze,Zn]⟩),(55,⟨.struct #[fld 9 0,fld 31 1],2,40,.agg #[Ze,Zn]⟩),(60,⟨.struct #[fld 3 0,fld 9 1,fld 31 2],3,48,.agg #[(Zk 0),Ze,Zn]⟩),(61,⟨.struct #[fld 3 0,fld 9 1,fld 31 2],3,48,.agg #[(Zk 0),Ze,Zn]⟩),(62,⟨.pointer 110,1,8,.pointer none⟩),(68,⟨.slice 78,1,24,Zn⟩),(69,⟨.map 9 55,1,8,.map none⟩),(70,⟨.map 9 55,1,8,.map none⟩),(71,⟨.slice 79,1,24,Zn⟩),(72,⟨.struct #[fld 62 0,fld 68 1,fld 70 2,fld 71 3,fld 71 4],5,88,.agg #[(.pointer none),Zn,.map none,Zn,Zn]⟩),(73,⟨.struct #[fld 62 0,fld 68 1,fld 70 2,fld 71 3,fld 71 4],5,88,.agg #[(.pointer none),Zn,.map none,Zn,Zn]⟩),(75,⟨.slice 95,1,24,Zn⟩),(76,⟨.slice 31,1,24,Zn⟩),(77,⟨.struct #[fld 9 0,fld 22 1,fld 35 2,fld 35 8,fld 35 14,fld 35 20,fld 75 26,fld 75 27,fld 4 28,fld 76 29],30,632,.agg #[Ze,Zn,Ze,Ze,Zn,Zn,Zn,Zn,Ze,Ze,Zn,Zn,Zn,Zn,Ze,Ze,Zn,Zn,Zn,Zn,Ze,Ze,Zn,Zn,Zn,Zn,Zn,Zn,.bool false,Zn]⟩),(78,⟨.struct #[fld 9 0,fld 22 1,fld 35 2,fld 35 8,fld 35 14,fld 35 20,fld 75 26,fld 75 27,fld 4 28,fld 76 29],30,632,.agg #[Ze,Zn,Ze,Ze,Zn,Zn,Zn,Zn,Ze,Ze,Zn,Zn,Zn,Zn,Ze,Ze,Zn,Zn,Zn,Zn,Ze,Ze,Zn,Zn,Zn,Zn,Zn,Zn,.bool false,Zn]⟩),(79,⟨.slice 4,1,24,Zn⟩),(84,⟨.int .i64,1,8,Zk 0⟩),(90,⟨.struct #[fld 9 0,fld 22 1,fld 3 2,fld 35 3,fld 75 9],10,200,.agg #[Ze,Zn,Zk 0,Ze,Ze,Zn,Zn,Zn,Zn,Zn]⟩),(91,⟨.struct #[fld 9 0,fld 22 1,fld 3 2,fld 35 3,fld 75 9],10,200,.agg #[Ze,Zn,Zk 0,Ze,Ze,Zn,Zn,Zn,Zn,Zn]⟩),(92,⟨.struct #[fld 9 0,fld 9 1,fld 3 2,fld 31 3,fld 32 4],5,88,.agg #[Ze,Ze,Zk 0,Zn,Zn]⟩),(93,⟨.struct #[fld 9 0,fld 9 1,fld 3 2,fld 31 3,fld 32 4],5,88,.agg #[Ze,Ze,Zk 0,Zn,Zn]⟩),(94,⟨.struct #[fld 3 0,fld 22 1,fld 35 2,fld 9 8,fld 31 9,fld 93 10],15,288,.agg #[(Zk 0),Zn,Ze,Ze,Zn,Zn,Zn,Zn,Ze,Zn,Ze,Ze,Zk 0,Zn,Zn]⟩),(95,⟨.struct #[fld 3 0,fld 22 1,fld 35 2,fld 9 8,fld 31 9,fld 93 10],15,288,.agg #[(Zk 0),Zn,Ze,Ze,Zn,Zn,Zn,Zn,Ze,Zn,Ze,Ze,Zk 0,Zn,Zn]⟩),(96,⟨.struct #[fld 9 0,fld 22 1],2,40,.agg #[Ze,Zn]⟩),(97,⟨.struct #[fld 9 0,fld 22 1],2,40,.agg #[Ze,Zn]⟩),(100,⟨.struct #[fld 9 0,fld 22 1,fld 3 2,fld 35 3,fld 35 9,fld 35 15,fld 75 21,fld 75 22],23,480,.agg #[Ze,Zn,Zk 0,Ze,Ze,Zn,Zn,Zn,Zn,Ze,Ze,Zn,Zn,Zn,Zn,Ze,Ze,Zn,Zn,Zn,Zn,Zn,Zn]⟩),(101,⟨.struct #[fld 9 0,fld 22 1,fld 3 2,fld 35 3,fld 35 9,fld 35 15,fld 75 21,fld 75 22],23,480,.agg #[Ze,Zn,Zk 0,Ze,Ze,Zn,Zn,Zn,Zn,Ze,Ze,Zn,Zn,Zn,Zn,Ze,Ze,Zn,Zn,Zn,Zn,Zn,Zn]⟩),(104,⟨.pointer 223,1,8,.pointer none⟩),(108,⟨.map 9 4,1,8,.map none⟩),(109,⟨.struct #[fld 28 0,fld 37 7,fld 104 18,fld 22 19,fld 108 20,fld 70 21],22,440,.agg #[Ze,Zn,Zn,Zn,Zn,Zn,Zn,Ze,Ze,Zn,Zn,Zn,Ze,Ze,Zn,Zn,Zn,Zn,.pointer none,Zn,.map none,(.map none)]⟩),(110,⟨.struct #[fld 28 0,fld 37 7,fld 104 18,fld 22 19,fld 108 20,fld 70 21],22,440,.agg #[Ze,Zn,Zn,Zn,Zn,Zn,Zn,Ze,Ze,Zn,Zn,Zn,Ze,Ze,Zn,Zn,Zn,Zn,.pointer none,Zn,.map none,(.map none)]⟩),(116,⟨.pointer 171,1,8,.pointer none⟩),(120,⟨.struct #[fld 9 0,fld 9 1],2,32,.agg #[Ze,Ze]⟩),(121,⟨.struct #[fld 9 0,fld 9 1],2,32,.agg #[Ze,Ze]⟩),(131,⟨.slice 133,1,24,Zn⟩),(132,⟨.struct #[fld 3 0,fld 3 1,fld 3 2,fld 3 3,fld 9 4,fld 131 5],6,72,.agg #[(Zk 0),Zk 0,Zk 0,Zk 0,Ze,Zn]⟩),(133,⟨.struct #[fld 3 0,fld 3 1,fld 3 2,fld 3 3,fld 9 4,fld 131 5],6,72,.agg #[(Zk 0),Zk 0,Zk 0,Zk 0,Ze,Zn]⟩),(138,⟨.map 9 22,1,8,.map none⟩),(139,⟨.map 9 202,1,8,.map none⟩),(140,⟨.map 9 9,1,8,.map none⟩),(141,⟨.struct #[fld 28 0,fld 37 7,fld 104 18,fld 138 19,fld 139 20,fld 140 21,fld 22 22],23,448,.agg #[Ze,Zn,Zn,Zn,Zn,Zn,Zn,Ze,Ze,Zn,Zn,Zn,Ze,Ze,Zn,Zn,Zn,Zn,.pointer none,.map none,.map none,.map none,Zn]⟩),(142,⟨.struct #[fld 28 0,fld 37 7,fld 104 18,fld 138 19,fld 139 20,fld 140 21,fld 22 22],23,448,.agg #[Ze,Zn,Zn,Zn,Zn,Zn,Zn,Ze,Ze,Zn,Zn,Zn,Ze,Ze,Zn,Zn,Zn,Zn,.pointer none,.map none,.map none,.map none,Zn]⟩),(143,⟨.slice 3,1,24,Zn⟩),(150,⟨.func #[] #[] false,1,8,.nilFunc⟩),(166,⟨.int .u64,1,8,.int .u64 0⟩),(170,⟨.struct #[fld 28 0,fld 37 7,fld 104 18,fld 22 19],20,424,.agg #[Ze,Zn,Zn,Zn,Zn,Zn,Zn,Ze,Ze,Zn,Zn,Zn,Ze,Ze,Zn,Zn,Zn,Zn,.pointer none,Zn]⟩),(171,⟨.struct #[fld 28 0,fld 37 7,fld 104 18,fld 22 19],20,424,.agg #[Ze,Zn,Zn,Zn,Zn,Zn,Zn,Ze,Ze,Zn,Zn,Zn,Ze,Ze,Zn,Zn,Zn,Zn,.pointer none,Zn]⟩),(173,⟨.struct #[fld 55 0,fld 3 2],3,48,.agg #[Ze,Zn,(Zk 0)]⟩),(174,⟨.struct #[fld 55 0,fld 3 2],3,48,.agg #[Ze,Zn,(Zk 0)]⟩),(194,⟨.struct #[fld 4 0],1,1,.agg #[(.bool false)]⟩),(195,⟨.struct #[fld 4 0],1,1,.agg #[(.bool false)]⟩),(201,⟨.struct #[fld 9 0,fld 22 1,fld 3 2,fld 3 3],4,56,.agg #[Ze,Zn,Zk 0,(Zk 0)]⟩),(202,⟨.struct #[fld 9 0,fld 22 1,fld 3 2,fld 3 3],4,56,.agg #[Ze,Zn,Zk 0,(Zk 0)]⟩),(211,⟨.func #[] #[] false,1,8,.nilFunc⟩),(222,⟨.struct #[fld 140 0],1,8,.agg #[(.map none)]⟩),(223,⟨.struct #[fld 140 0],1,8,.agg #[(.map none)]⟩),(244,⟨.int .u32,1,4,.int .u32 0⟩),(268,⟨.slice 271,1,24,Zn⟩),(269,⟨.array 3 268,3,72,.agg #[Zn,Zn,Zn]⟩),(270,⟨.struct #[fld 9 0,fld 9 1],2,32,.agg #[Ze,Ze]⟩),(271,⟨.struct #[fld 9 0,fld 9 1],2,32,.agg #[Ze,Ze]⟩),(275,⟨.slice 75,1,24,Zn⟩),(283,⟨.struct #[fld 3 0],1,8,.agg #[(Zk 0)]⟩),(284,⟨.struct #[fld 3 0],1,8,.agg #[(Zk 0)]⟩),(357,⟨.int .u16,1,2,.int .u16 0⟩),(358,⟨.slice 357,1,24,Zn⟩),(360,⟨.slice 244,1,24,Zn⟩)]
theorem tabL_ok:AllTy prog tabL:=allTy_of _ (by kernel_rfl) (by kernel_rfl)
def T:Tab prog:=⟨tabL,tabL_ok,by kernel_rfl⟩
end Go.Proofs.YtdbfccanbbbjkaaGreatDoor
set_option maxRecDepth 20000
namespace Go.Proofs.YtdbfccanbbbjkaaGreatDoor
variable {α β:Type} {k i j c n g:Nat} {s:Bs} {fz fz':FZ} {A:Option Addr} {t:TypeId} {v va vk ve vp:Value} {f:Formula} {l:List α} {L:Lay α}
def Ya2 (s:Bs) (i:Nat):Nat:=((s[i]?).map UInt8.toNat).getD 0
theorem Ybx (h:k<s.size):∃ b:UInt8,s[k]?=some b/\Ya2 s k=b.toNat:=by
 refine ⟨s[k],getElem?_pos s k h,?_⟩;simp [Ya2,getElem?_pos s k h]
def DigP (n:Int):Prop:=48<=n/\n<=57
instance {n:Int}:Decidable (DigP n):=inferInstanceAs (Decidable (_/\_))
theorem YiX {n:Int}:QFn prog 263 [.int .u8 n] fz (Zo (decide (DigP n))):=by
 refine qF Tryz.func263 Tryz.ntmps263 (fun w0=>?_);refine wC ?_ ?_<;>intro c1
 ·refine wC ?_ ?_<;>intro c2
  ·exact wR (h:=by exact (Yq ⟨c1,c2⟩))
  exact wR (h:=by exact Yi (fun h=>c2 h.2))
 exact wR (h:=by exact Yi (fun h=>c1 h.1))
def PreP (s p:Bs):Prop:=p.size<=s.size/\s.extract 0 p.size=p
instance {s p:Bs}:Decidable (PreP s p):=inferInstanceAs (Decidable (_/\_))
def YcK (s p:Bs):Bs:=if PreP s p then s.extract p.size s.size else s
theorem YcZ (h:j<=s.size):(s.extract i j).size=j - i:=by
 simp [ByteArray.size_extract,Nat.min_eq_left h]
theorem Ym2 {p:Bs} (h:Short s):Short (YcK s p):=by
 unfold YcK Short at*;split
 ·rw [YcZ (Zs _)];omega
 exact h
theorem YgH {p:Bs} (_hs:Short s) (hp:Short p):QFn prog 282 [Zy s,Zy p] fz (Zo (decide (PreP s p))):=by
 unfold Short at hp;refine qF Tryz.func282 Tryz.ntmps282 (fun w0=>?_);refine wC ?_ ?_<;>intro c1
 ·refine wG ?_;refine q_str_to T Zz Zz Zz Zz Zi Zi ?_;refine wC ?_ ?_<;>intro c2
  ·exact wR (h:=by exact (Yq ⟨by omega,by simpa using c2⟩))
  exact wR (h:=by exact Yi (fun h=>c2 (by simpa using h.2)))
 exact wR (h:=by exact Yi (fun h=>by have:=h.1;omega))
theorem Yic {p:Bs} (hs:Short s) (hp:Short p):QFn prog 281 [Zy s,Zy p] fz (Zy (YcK s p)):=by
 refine qF Tryz.func281 Tryz.ntmps281 (fun w0=>?_);refine wb (YgH hs hp) (fun f1=>?_) (fun f1=>?_)
 ·have hc:=Zt f1;have:=hc.1;refine wG ?_;refine YeF ?_ (h1:=by omega);exact wR (h:=by rw [YcK,if_pos hc];rfl)
 have hc:=Zf f1;exact wR (h:=by rw [YcK,if_neg hc])
theorem Yju {p:Bs} (hs:Short s) (hp:Short p):QFn prog 265 [Zy s,Zy p] fz (Zy (YcK s p)):=by
 refine qF Tryz.func265 Tryz.ntmps265 (fun w0=>?_);refine wc (Yic hs hp) ?_;exact wR (h:=rfl)
def Yb7:Bs:=⟨#[45]⟩
def YaG:Bs:=⟨#[]⟩
def NumP (s:Bs):Prop:=(∀ i,i<(YcK s Yb7).size->DigP (Ya2 (YcK s Yb7) i))/\YcK s Yb7≠YaG
open Classical in
theorem YoM (hs:Short s):QFn prog 232 [Zy s] fz (Zo (decide (NumP s))):=by
 refine qF Tryz.func232 Tryz.ntmps232 (fun w0=>?_);refine wG ?_;refine Yt (Yju (p:=Yb7) hs (by unfold Short Yb7;decide)) ?_;have hz:(YcK s Yb7).size<=9223372036854775807:=Ym2 hs;refine zW ?_;refine Wn ((YcK s Yb7).size) (fun k=>[(8,Zk k),(7,Zk (YcK s Yb7).size),(0,Zy (YcK s Yb7))]) [] (fun k=>(∀ i,i<k->DigP (Ya2 (YcK s Yb7) i))) (fun i hi=>absurd hi Zi) ?_;intro k hk hh;refine wC (fun hlt=>?_) (fun hge=>?_)
 ·refine zW ?_;obtain ⟨b,hb,hb2⟩:=Ybx (s:=YcK s Yb7) (k:=k) Zi
  ((refine zG ?_);refine Wh ?_ (hb:=by rw [Int.toNat_natCast];exact hb));refine wb (YiX (n:=b.toNat)) (fun f1=>?_) (fun f1=>?_)
  ·exact wM (h:=by exact Xi hh (by rw [hb2];exact Zt f1))
  exact wR (h:=by exact Yi (fun h=>Zf f1 (by rw [<- hb2];exact h.1 k Zi)))
 refine wC ?_ ?_<;>intro c1
 ·exact wR (h:=by exact (Yq ⟨fun i hi=>hh i Zi,c1⟩))
 exact wR (h:=by exact Yi (fun h=>h.2 c1))
open Classical in
theorem Ymt {l:List Bs} {x:Bs} (h1:Sl strL fz A n c l):
 QFn prog 178 [Zc A n c,Zy x] fz (Zk (W4 (fun y=>x=y) l 0)):=by
 refine qF Tryz.func178 Tryz.ntmps178 (fun w0=>?_);have l1:=h1.len;have hm:=h1.short;refine zW ?_;refine Wn n (fun k=>[(8,Zk k),(7,Zk n),(0,Zc A n c),(1,Zy x)]) [] (fun k=>(∀ i,i<k->∀ y,l[i]?=some y->¬x=y)) (fun i hi=>absurd hi Zi) ?_;intro k hk hh;refine wC (fun hlt=>?_) (fun hge=>?_)
 ·refine zW ?_;obtain ⟨y,hy⟩:=Ye (l:=l) (k:=k) Zi;refine zI h1 hy (fun a ha=>?_);refine zH ha (fun iy=>?_);refine wC ?_ ?_<;>intro c1
  ·exact wR (h:=by rw [XO hh hy c1,Int.zero_add])
  exact wM (h:=by exact YF hh hy c1)
 exact wR (h:=by rw [Xm (Y6 hh Zi)])
open Classical in
theorem YdK {l:List Bs} {x:Bs} (h1:Sl strL fz A n c l):
 QFn prog 165 [Zc A n c,Zy x] fz (Zo (decide (x∈l))):=by
 refine qF Tryz.func165 Tryz.ntmps165 (fun w0=>?_);refine wc (Ymt h1) ?_;refine zC ?_ ?_<;>intro c1
 ·exact wR (h:=by exact Yq (by obtain ⟨y,h,e⟩:=(YY (Int.le_refl 0)).1 c1;rw [e];exact h))
 exact wR (h:=by exact Yi (fun h=>c1 ((YY (Int.le_refl 0)).2 ⟨x,h,rfl⟩)))
theorem sl_strs {f:Nat × Nat} {l:List Bs} (h:fz g=some (.cells (l.map Value.string).toArray t f)) (hs:∀ s∈l,Short s) (hn:l.length<=140737488355328):Sl strL fz (some ⟨g,0,none⟩) l.length l.length l:=
 ⟨rfl,Zs _,by omega,hn,.inr ⟨_,rfl,fun i d hd=>⟨[Zy d],⟨rfl,hs d (Zm hd)⟩,fun j v hv=>by
  have hadd:((⟨g,0,none⟩:Addr).add (i*strL.size)).add j=⟨g,i+j,none⟩:=by
   show ((⟨g,0,none⟩:Addr).add (i*1)).add j=_;unfold Addr.add;split<;>split<;>simp_all
  rw [hadd];cases j with
  | zero=>simp at hv;subst hv;simp [Ycd,h,hd]
  | succ j=>simp at hv⟩⟩⟩
def Ybm:List Bs:=[⟨#[97,110,100]⟩,⟨#[111,114]⟩,⟨#[110,111,116]⟩,⟨#[105,109,112,108,121]⟩,⟨#[102,111,114,97,108,108]⟩,⟨#[101,120,105,115,116,115]⟩,⟨#[119,104,101,110]⟩,⟨#[97,115,115,105,103,110]⟩,⟨#[105,110,99,114,101,97,115,101]⟩,⟨#[100,101,99,114,101,97,115,101]⟩,⟨#[111,98,106,101,99,116]⟩]
theorem Yna:GFn prog 225 [] fz [] (fun v fz' H'=>H'=[]/\∃ A,v=Zc A 11 11/\Sl strL fz' A 11 11 Ybm):=by
 refine zF Tryz.func225 Tryz.ntmps225 (fun w0=>?_);refine zW ?_;refine Yc (Yb (cs:=Ybm.map Value.string) (fun g=>?_));refine zW ?_;exact Yb0 rfl rfl (fun fz' hle hf=>⟨rfl,_,rfl,sl_strs (l:=Ybm) (hf _ (.head _)) (by intro s hs;simp only [Ybm,List.mem_cons,List.not_mem_nil,or_false] at hs;rcases hs with rfl | rfl | rfl | rfl | rfl | rfl | rfl | rfl | rfl | rfl | rfl<;>(unfold Short;decide)) Zh⟩)
def LetP (n:Int):Prop:=97<=n/\n<=122
def Yba (s:Bs) (i:Nat):Prop:=LetP (Ya2 s i)\/(i≠0/\(DigP (Ya2 s i)\/(Ya2 s i:Int)=45\/(Ya2 s i:Int)=95))
def Xh (s:Bs):Prop:=(∀ i,i<s.size->Yba s i)/\s≠YaG/\s.size<=32/\s ∉ Ybm
open Classical in
theorem YaY (hs:Short s):QFn prog 180 [Zy s] fz (Zo (decide (Xh s))):=by
 have hz:s.size<=9223372036854775807:=hs;refine qF Tryz.func180 Tryz.ntmps180 (fun w0=>?_);refine zW ?_;refine Wn (s.size) (fun k=>[(8,Zk k),(7,Zk s.size),(0,Zy s)]) [] (fun k=>(∀ i,i<k->Yba s i)) (fun i hi=>absurd hi Zi) ?_;intro k hk hh;refine wC (fun hlt=>?_) (fun hge=>?_)
 ·refine zW ?_;obtain ⟨b,hb,hb2⟩:=Ybx (s:=s) (k:=k) Zi;have bad:¬Yba s k->¬Xh s:=fun h hc=>h (hc.1 k Zi)
  ((refine zG ?_);refine Wh ?_ (hb:=by rw [Int.toNat_natCast];exact hb));refine wC ?_ ?_<;>intro c1
  ·refine wC ?_ ?_<;>intro c2
   ·exact wM (h:=by exact Xi hh (by rw [Yba,hb2];exact .inl ⟨c1,c2⟩))
   have nl:¬LetP b.toNat:=fun h=>c2 h.2
   refine wC ?_ ?_<;>intro c3
   ·exact wR (h:=by exact Yi (bad (by rw [Yba,hb2];intro h;rcases h with h | h;exact nl h;omega)))
   refine wC ?_ ?_<;>intro c4
   ·refine wC ?_ ?_<;>intro c5
    ·refine wC ?_ ?_<;>intro c6
     ·exact wR (h:=by exact Yi (bad (by rw [Yba,hb2];unfold DigP;intro h;rcases h with h | ⟨_,h | h | h⟩;exact nl h;omega;omega;omega)))
     exact wM (h:=by exact Xi hh (by rw [Yba,hb2];right;refine ⟨by omega,?_⟩;omega))
    exact wM (h:=by exact Xi hh (by rw [Yba,hb2];right;refine ⟨by omega,?_⟩;omega))
   refine wC ?_ ?_<;>intro c7
   ·refine wC ?_ ?_<;>intro c5
    ·refine wC ?_ ?_<;>intro c6
     ·exact wR (h:=by exact Yi (bad (by rw [Yba,hb2];unfold DigP;intro h;rcases h with h | ⟨_,h | h | h⟩;exact nl h;omega;omega;omega)))
     exact wM (h:=by exact Xi hh (by rw [Yba,hb2];right;refine ⟨by omega,?_⟩;omega))
    exact wM (h:=by exact Xi hh (by rw [Yba,hb2];right;refine ⟨by omega,?_⟩;omega))
   exact wM (h:=by exact Xi hh (by rw [Yba,hb2];right;refine ⟨by omega,?_⟩;unfold DigP;omega))
  have nl:¬LetP b.toNat:=fun h=>c1 h.1
  refine wC ?_ ?_<;>intro c3
  ·exact wR (h:=by exact Yi (bad (by rw [Yba,hb2];intro h;rcases h with h | h;exact nl h;omega)))
  refine wC ?_ ?_<;>intro c4
  ·refine wC ?_ ?_<;>intro c5
   ·refine wC ?_ ?_<;>intro c6
    ·exact wR (h:=by exact Yi (bad (by rw [Yba,hb2];unfold DigP;intro h;rcases h with h | ⟨_,h | h | h⟩;exact nl h;omega;omega;omega)))
    exact wM (h:=by exact Xi hh (by rw [Yba,hb2];right;refine ⟨by omega,?_⟩;omega))
   exact wM (h:=by exact Xi hh (by rw [Yba,hb2];right;refine ⟨by omega,?_⟩;omega))
  refine wC ?_ ?_<;>intro c7
  ·refine wC ?_ ?_<;>intro c5
   ·refine wC ?_ ?_<;>intro c6
    ·exact wR (h:=by exact Yi (bad (by rw [Yba,hb2];unfold DigP;intro h;rcases h with h | ⟨_,h | h | h⟩;exact nl h;omega;omega;omega)))
    exact wM (h:=by exact Xi hh (by rw [Yba,hb2];right;refine ⟨by omega,?_⟩;omega))
   exact wM (h:=by exact Xi hh (by rw [Yba,hb2];right;refine ⟨by omega,?_⟩;omega))
  exact wM (h:=by exact Xi hh (by rw [Yba,hb2];right;refine ⟨by omega,?_⟩;unfold DigP;omega))
 refine wC ?_ ?_<;>intro c1
 ·refine wC ?_ ?_<;>intro c2
  ·refine zW ?_;refine WL (Yj [] [] Zz Yna (fun v fz2 H2 hle2 hR=>?_));obtain ⟨rfl,A,rfl,hsl⟩:=hR;refine wb (YdK (x:=s) hsl) (fun f1=>?_) (fun f1=>?_)
   ·exact wR (h:=by exact Yi (fun h=>h.2.2.2 (Zt f1)))
   exact wR (h:=by exact (Yq ⟨fun i hi=>hh i Zi,c1,by omega,Zf f1⟩))
  exact wR (h:=by exact Yi (fun h=>by have:=h.2.2.1;omega))
 exact wR (h:=by exact Yi (fun h=>h.2.1 c1))
def VarP (s:Bs):Prop:=1<s.size/\s.size<=32/\(Ya2 s 0:Int)=63/\Xh (s.extract 1 s.size)
def Ye9 (s:Bs):Prop:=Xh s\/VarP s
def YaM:Bs:=⟨#[111,98,106,101,99,116]⟩
def Ydv (s:Bs):Prop:=Xh s\/s=YaM
open Classical in
theorem Yc8 (hs:Short s):QFn prog 181 [Zy s] fz (Zo (decide (VarP s))):=by
 have hz:s.size<=9223372036854775807:=hs;refine qF Tryz.func181 Tryz.ntmps181 (fun w0=>?_);refine wC ?_ ?_<;>intro c1
 ·refine wC ?_ ?_<;>intro c2
  ·refine zW ?_;obtain ⟨b,hb,hb2⟩:=Ybx (s:=s) (k:=0) Zi;refine zG ?_;refine Wh ?_ (hb:=hb);refine wC ?_ ?_<;>intro c3
   ·refine wG ?_;refine YeF ?_ (h1:=by omega);refine wG ?_;refine XL (YaY (s:=s.extract 1 s.size) (by unfold Short;rw [YcZ (Zs _)];omega)) (fun f1=>?_) (fun f1=>?_)
    ·exact wR (h:=by exact (Yq ⟨by omega,by omega,by rw [hb2];exact c3,Zt f1⟩))
    exact wR (h:=by exact Yi (fun h=>Zf f1 h.2.2.2))
   exact wR (h:=by exact Yi (fun h=>c3 (by rw [<- hb2];exact h.2.2.1)))
  exact wR (h:=by exact Yi (fun h=>by have:=h.2.1;omega))
 exact wR (h:=by exact Yi (fun h=>by have:=h.1;omega))
open Classical in
theorem term_q (hs:Short s):QFn prog 248 [Zy s] fz (Zo (decide (Ye9 s))):=by
 refine qF Tryz.func248 Tryz.ntmps248 (fun w0=>?_);refine wb (YaY hs) (fun f1=>?_) (fun f1=>?_)
 ·exact wR (h:=by exact Yq (.inl (Zt f1)))
 refine wb (Yc8 hs) (fun f2=>?_) (fun f2=>?_)
 ·exact wR (h:=by exact Yq (.inr (Zt f2)))
 exact wR (h:=by exact Yi (fun h=>h.elim (Zf f1) (Zf f2)))
open Classical in
theorem dterm_q (hs:Short s):QFn prog 278 [Zy s] fz (Zo (decide (Ye9 s))):=by
 refine qF Tryz.func278 Tryz.ntmps278 (fun w0=>?_);refine wb (YaY hs) (fun f1=>?_) (fun f1=>?_)
 ·exact wR (h:=by exact Yq (.inl (Zt f1)))
 refine wb (Yc8 hs) (fun f2=>?_) (fun f2=>?_)
 ·exact wR (h:=by exact Yq (.inr (Zt f2)))
 exact wR (h:=by exact Yi (fun h=>h.elim (Zf f1) (Zf f2)))
open Classical in
theorem typed_q (hs:Short s):QFn prog 249 [Zy s] fz (Zo (decide (Ydv s))):=by
 refine qF Tryz.func249 Tryz.ntmps249 (fun w0=>?_);refine wb (YaY hs) (fun f1=>?_) (fun f1=>?_)
 ·exact wR (h:=by exact Yq (.inl (Zt f1)))
 refine wC ?_ ?_<;>intro c2
 ·exact wR (h:=by exact Yq (.inr c2))
 exact wR (h:=by exact Yi (fun h=>h.elim (Zf f1) c2))
def sxV (k v:Int) (s:Bs) (kids:Value):Value:=.agg #[Zk k,Zk v,Zk 0,Zk 0,Zy s,kids]
theorem Ybr:QFn prog 191 [Zy s] fz (sxV 1 0 s Zn):=by
 refine qF Tryz.func191 Tryz.ntmps191 (fun w0=>?_);refine zW ?_;intros;exact Wt (i:=0) rfl (fun _ hi=>⟨_,[],hi.forget (List.nil_sublist _),rfl⟩)
theorem Yaf:QFn prog 95 [Zy s] fz (sxV 1 0 s Zn):=by
 refine qF Tryz.func95 Tryz.ntmps95 (fun w0=>?_);refine zW ?_;intros;exact Wt (i:=0) rfl (fun _ hi=>⟨_,[],hi.forget (List.nil_sublist _),rfl⟩)
theorem Yac:QFn prog 106 [Zy s] fz (sxV 1 0 s Zn):=by
 refine qF Tryz.func106 Tryz.ntmps106 (fun w0=>?_);refine zW ?_;intros;exact Wt (i:=0) rfl (fun _ hi=>⟨_,[],hi.forget (List.nil_sublist _),rfl⟩)
theorem YcY:QFn prog 234 [Zc A n c] fz (sxV 3 0 ⟨#[]⟩ (Zc A n c)):=by
 refine qF Tryz.func234 Tryz.ntmps234 (fun w0=>?_);refine zW ?_;intros;exact Wt (i:=0) rfl (fun _ hi=>⟨_,[],hi.forget (List.nil_sublist _),rfl⟩)
theorem Xe:QFn prog 94 [Zc A n c] fz (sxV 3 0 ⟨#[]⟩ (Zc A n c)):=by
 refine qF Tryz.func94 Tryz.ntmps94 (fun w0=>?_);refine zW ?_;intros;exact Wt (i:=0) rfl (fun _ hi=>⟨_,[],hi.forget (List.nil_sublist _),rfl⟩)
theorem XQ:QFn prog 105 [Zc A n c] fz (sxV 3 0 ⟨#[]⟩ (Zc A n c)):=by
 refine qF Tryz.func105 Tryz.ntmps105 (fun w0=>?_);refine zW ?_;intros;exact Wt (i:=0) rfl (fun _ hi=>⟨_,[],hi.forget (List.nil_sublist _),rfl⟩)
theorem YfK {n:Int}:QFn prog 99 [Zk n] fz (sxV 2 n ⟨#[]⟩ Zn):=by
 refine qF Tryz.func99 Tryz.ntmps99 (fun w0=>?_);refine zW ?_;intros;exact Wt (i:=0) rfl (fun _ hi=>⟨_,[],hi.forget (List.nil_sublist _),rfl⟩)
theorem flat_get {α:Type} {f:α->List Value} {z:Nat} (hz:∀ x,(f x).length=z):∀ {l:List α} {i j:Nat} {x:α} {u:Value},l[i]?=some x->(f x)[j]?=some u->(l.flatMap f)[i*z+j]?=some u
 | [],i,j,x,u,h,_=>by simp at h
 | y::r,0,j,x,u,h,hu=>by
  simp at h;subst h;have hj:j<(f y).length:=(Zg hu).1;rw [List.flatMap_cons,Nat.zero_mul,Nat.zero_add,List.getElem?_append_left hj];exact hu
 | y::r,i+1,j,x,u,h,hu=>by
  have h2:=flat_get hz (l:=r) (i:=i) (j:=j) (x:=x) (u:=u) (by simpa using h) hu;have e:(i+1)*z+j=z+(i*z+j):=by rw [Nat.succ_mul];omega
  rw [List.flatMap_cons,e,List.getElem?_append_right (by rw [hz];omega),hz,Nat.add_sub_cancel_left];exact h2
theorem Ypr {f:α->List β} {a:α} {x:α} (hx:l[k]?=some x):(a::l.take (k+1)).flatMap f=(a::l.take k).flatMap f++f x:=by
 rw [List.take_add_one,hx];simp
theorem Yif {f:β->List Value} {g:β->α} {e:Nat} {l:List β} {b:HP} (hz:∀ x,(f x).length=L.size) (hO:OwnS e L.size v n (l.flatMap f) b) (hf:∀ p∈b,fz' p.1=some p.2) (hl:l.length=n) (hn:n<=140737488355328) (hr:∀ x∈l,L.rep fz' (g x) (f x)):
 ∃ A c,v=Zc A n c/\Sl L fz' A n c (l.map g):=by
 obtain ⟨A,c,h1,h2,h3,h4⟩:=hO.row hf;refine ⟨A,c,h1,h4.sl h2 h3 hn (by simpa using hl) fun i d hd=>?_⟩;rw [List.getElem?_map] at hd;cases hx:l[i]? with
 | none=>simp [hx] at hd
 | some x=>
  simp [hx] at hd;subst hd;exact ⟨f x,hr x (Zm hx),fun j u hu=>flat_get hz hx hu⟩
theorem short_of {l:List Bs} (h:Sl strL fz A n c l) {x:Bs} (hx:x∈l):Short x:=by
 obtain ⟨i,hi⟩:=List.mem_iff_getElem?.1 hx;rcases h.elem with h0 | ⟨ad,h1,h2⟩
 ·have:=Ygq hi;have:=h.len;omega
 obtain ⟨v,⟨_,h3⟩,_⟩:=(h2 i x hi).cell rfl;exact h3
def Yh (s:Bs):Sexpr:=.mk 1 0 0 0 s []
def Yr (s:Bs):List Value:=[Zk 1,Zk 0,Zk 0,Zk 0,Zy s,Zn]
theorem Yz (hs:Short s):YM.rep fz (Yh s) (Yr s):=
 Ym (x:=Yh s) ⟨by show I64 1;unfold I64;omega,by show I64 0;unfold I64;omega,by show I64 0;unfold I64;omega,by show I64 0;unfold I64;omega,hs,IsSl.nil⟩
theorem YiJ {f0:Bs} {l:List Bs} (hf:Short f0) (h1:Sl strL fz A n c l) (hn:n<=1000000000):
 GFn prog 233 [Zy f0,Zc A n c] fz [] (fun v fz' H'=>H'=[]/\∃ B m cc,v=sxV 3 0 ⟨#[]⟩ (Zc B m cc)/\Sl YM fz' B m cc (Yh f0::l.map Yh)):=by
 have l1:=h1.len;refine zF Tryz.func233 Tryz.ntmps233 (fun w0=>?_);refine zW ?_;intros;rename_i g4;refine zc (Ybr (s:=f0)) ?_;refine Yc (Yb (cs:=Yr f0) (fun gb=>?_));refine zc YcY ?_;refine zW ?_;intros;rename_i g5;refine Wp.perm (List.Perm.cons _ (List.Perm.swap _ _ _)) ?_;refine Yl (fun q σ fz' H'=>∃ (k:Nat) (v:Value) (Hs:HP),k<=n/\q=n - k/\σ=[(14,Zk k),(13,Zk n),(12,Zc A n c),(5,Zp g5),(4,Zp g4)]/\fz=fz'/\
  H'=(g5,Zu #[Zk 3,Zk 0,Zk 0,Zk 0,Ze,v] 133)::(g4,Zu #[Zk 0,Zk 0,Zk 0,Zk 0,Ze,Zn] 133)::Hs/\OwnS 133 6 v (k+1) ((f0::l.take k).flatMap Yr) Hs)
  ⟨0,_,[_],Z0 _,rfl,rfl,rfl,rfl,?_⟩ Zw Zb ?_
 ·exact OwnS.of_block (size:=6) (cs:=Yr f0) (n:=1) rfl
 rintro q σ fz' H' ⟨k,v,Hs,hk,rfl,rfl,rfl,rfl,hO⟩;refine wC ?_ ?_<;>intro c1
 ·obtain ⟨x,hx⟩:=Ye (l:=l) (k:=k) Zi;obtain ⟨Av,cv,rfl,_,_⟩:=hO.form;refine wI h1 hx (fun p hp=>?_);refine zH hp (fun ix=>?_);refine zW ?_;refine Y0 [_,_] ?_;refine zW ?_;refine Yk (Yk (Yk ?_));refine zW ?_;refine pU ?_;refine Ch.qk ⟨Zd,Zx⟩ (Yt (Ybr (s:=x)) ?_);refine Yf (Yb (cs:=Yr x) (fun gb=>⟨⟨Zd,Zx⟩,?_⟩));refine Yf (Ycz (Hr:=[_,_,_]) (Zr _) (YeC (.head _)) (fun v' Hs' hO'=>⟨⟨Zd,Zx⟩,?_⟩) (ho:=hO) (hl:=rfl) (h1:=by intro u hu;simp [Yr] at hu;rcases hu with rfl | rfl | rfl | rfl | rfl | rfl<;>rfl));obtain ⟨Av',cv',rfl,_,_⟩:=hO'.form;refine Ch.hard0 (YU ?_);refine Ch.done ?_;exact wP (h:=by exact ⟨k+1,_,Hs',by omega,rfl,rfl,rfl,rfl,by rw [Ypr (a:=f0) hx];exact hO'⟩)
 have hk1:k=n:=by omega
 subst hk1;obtain ⟨Av,cv,rfl,_,_⟩:=hO.form;refine zW ?_;refine YT (i:=1) rfl (fun fz3 hle3 hf3=>?_);rw [Zl Zi] at hO;obtain ⟨A',c',he,hsl⟩:=Yif (L:=YM) (g:=Yh) (fun _=>rfl) hO (fun p hp=>hf3 p (by simp [hp])) (by simp [l1]) Zi (fun x hx=>Yz (by
  rcases List.mem_cons.1 hx with rfl | hx
  ·exact hf
  exact short_of h1 hx))
 exact ⟨rfl,_,_,_,by rw [he];rfl,hsl⟩
theorem YmZ {l:List Bs}:∀ u∈l.flatMap Yr,u.oneCell'=true:=by
 intro u hu;obtain ⟨x,_,hx⟩:=List.mem_flatMap.1 hu;simp [Yr] at hx;rcases hx with rfl | rfl | rfl | rfl<;>rfl
theorem rep_of (h:Sl L fz A n c l) {x:α} (hx:x∈l):∃ cs,L.rep fz x cs:=by
 obtain ⟨i,hi⟩:=List.mem_iff_getElem?.1 hx;rcases h.elem with h0 | ⟨ad,h1,h2⟩
 ·have:=Ygq hi;have:=h.len;omega
 obtain ⟨cs,hr,_⟩:=h2 i x hi;exact ⟨cs,hr⟩
def YaE (p:Param):List Bs:=[p.name,Yb7,p.typ]
theorem Ynu {γ:Type} {f:α->List β} {h:β->List γ} {x:α} (hx:l[k]?=some x):((l.take (k+1)).flatMap f).flatMap h=((l.take k).flatMap f).flatMap h++(f x).flatMap h:=by
 rw [List.take_add_one,hx];simp
theorem YeM:∀ {l:List Param},(l.flatMap YaE).length=3*l.length
 | []=>rfl
 | p::r=>by rw [List.flatMap_cons,List.length_append,YeM];simp [YaE];omega
theorem YdX {l:List Param} (h1:Sl paramL fz A n c l) (hn:n<=1000000000):
 GFn prog 107 [Zc A n c] fz [] (fun v fz' H'=>H'=[]/\∃ B cc,v=Zc B (3*n) cc/\Sl YM fz' B (3*n) cc ((l.flatMap YaE).map Yh)):=by
 have l1:=h1.len;refine zF Tryz.func107 Tryz.ntmps107 (fun w0=>?_);refine zW ?_;refine Yl (fun q σ fz' H'=>∃ (k:Nat) (v:Value) (Hs:HP),k<=n/\q=n - k/\σ=[(8,Zk k),(7,Zk n),(6,Zc A n c),(3,v)]/\fz=fz'/\
  H'=Hs/\OwnS 133 6 v (3*k) (((l.take k).flatMap YaE).flatMap Yr) Hs)
  ⟨0,_,[],Z0 _,rfl,rfl,rfl,rfl,OwnS.nil _ _⟩ Zw Zb ?_
 rintro q σ fz' H' ⟨k,v,Hs,hk,rfl,rfl,rfl,rfl,hO⟩;refine wC ?_ ?_<;>intro c1
 ·obtain ⟨x,hx⟩:=Ye (l:=l) (k:=k) Zi;obtain ⟨Av,cv,rfl,_,_⟩:=hO.form;refine wI h1 hx (fun p hp=>?_);refine zL hp ?_;intro cs hcs;obtain ⟨rfl,hR⟩:=YK hcs;refine zW ?_;intros;rename_i g5;refine Y0 [_] ?_;refine zW ?_;refine Yk (Yk ?_);refine zW ?_;refine pU ?_;refine Ch.qk ⟨Zd,Zx⟩ (Yt (Ybr (s:=x.name)) ?_);refine Ch.qk ⟨Zd,Zx⟩ (Yt (Ybr (s:=Yb7)) ?_);refine Ch.qk ⟨Zd,Zx⟩ (Yt (Ybr (s:=x.typ)) ?_);refine Yf (Yb (cs:=(YaE x).flatMap Yr) (fun gb=>⟨⟨Zd,Zx⟩,?_⟩));refine Yf (Ycz (Hr:=[_,_]) (Zr _) (YeC (.head _)) (fun v' Hs' hO'=>⟨⟨Zd,Zx⟩,?_⟩) (ho:=hO) (hl:=rfl) (h1:=YmZ));refine Ch.qk ⟨Zd,Zx⟩ (YO ?_);refine Ch.done ?_;exact wP (h:=by exact ⟨k+1,_,Hs',by omega,rfl,rfl,rfl,rfl,by rw [Ynu hx];exact hO'⟩)
 have hk1:k=n:=by omega
 subst hk1;obtain ⟨Av,cv,rfl,_,_⟩:=hO.form;refine zW ?_;refine Yb0 rfl rfl (fun fz3 hle3 hf3=>?_);rw [Zl Zi] at hO;obtain ⟨A',c',he,hsl⟩:=Yif (L:=YM) (g:=Yh) (fun _=>rfl) hO (fun p hp=>hf3 p hp) (by rw [YeM,l1]) Zi (fun x hx=>Yz (by
  obtain ⟨p,hp,hx⟩:=List.mem_flatMap.1 hx;obtain ⟨cs,hr⟩:=rep_of h1 hp;obtain ⟨_,hR⟩:=YK hr;simp only [YaE,List.mem_cons,List.not_mem_nil,or_false] at hx;rcases hx with rfl | rfl | rfl
  ·exact hR.name
  ·unfold Short Yb7;decide
  exact hR.typ))
 exact ⟨rfl,_,_,he,hsl⟩
def kNumber:Bs:=⟨#[110,117,109,98,101,114]⟩
def kFluent:Bs:=⟨#[102,108,117,101,110,116]⟩
def SxIs (fz:FZ) (v:Value) (x:Sexpr):Prop:=∃ cs,v=.agg (List.toArray cs)/\YM.rep fz x cs
theorem SxIs.mono (h:Le fz fz') {x:Sexpr} (hs:SxIs fz v x):SxIs fz' v x:=by
 obtain ⟨cs,e,hr⟩:=hs;exact ⟨cs,e,YM.mono h hr⟩
def YJ (l:List Sexpr):Sexpr:=.mk 3 0 0 0 ⟨#[]⟩ l
def numE (n:Int):Sexpr:=.mk 2 n 0 0 ⟨#[]⟩ []
def Wl (f:Bs) (l:List Bs):Sexpr:=YJ (Yh f::l.map Yh)
theorem XH:I64 0:=by unfold I64;omega
theorem i64_2:I64 2:=by unfold I64;omega
theorem YgD:I64 3:=by unfold I64;omega
theorem Y1:Short ⟨#[]⟩:=by unfold Short;decide
theorem Yab {l:List Sexpr} (h:Sl YM fz A n c l):SxIs fz (sxV 3 0 ⟨#[]⟩ (Zc A n c)) (YJ l):=
 ⟨_,rfl,Ym (x:=YJ l) ⟨YgD,XH,XH,XH,Y1,h.is⟩⟩
theorem numE_is {n:Int} (h:I64 n):SxIs fz (sxV 2 n ⟨#[]⟩ Zn) (numE n):=
 ⟨_,rfl,Ym (x:=numE n) ⟨i64_2,h,XH,XH,Y1,IsSl.nil⟩⟩
inductive EShape:Lx.Expr->Prop
 | num {e:Lx.Expr} (h:e.op=kNumber):EShape e
 | flu {e:Lx.Expr} (h:e.op=kFluent) (hn:e.args.length<=1000000000):EShape e
 | bin {e a b:Lx.Expr} (h1:e.op≠kNumber) (h2:e.op≠kFluent) (hk:e.kids=[a,b]) (ha:EShape a) (hb:EShape b):EShape e
def WM:Nat->Lx.Expr->Sexpr
 | 0,_=>numE 0
 | s+1,e=>open Classical in if e.op=kNumber then numE e.n else if e.op=kFluent then Wl e.name e.args else YJ (Yh e.op::e.kids.map (WM s))
theorem Ydy:∀ (s:Nat) {fz:FZ} {e:Lx.Expr} {va vk:Value},SizeOf.sizeOf e<=s->ExprR fz e va vk->EShape e->
 GFn prog 235 [.agg #[Zy e.op,Zy e.name,Zk e.n,va,vk]] fz [] (fun v fz' H'=>H'=[]/\SxIs fz' v (WM s e))
 | 0,_,e,_,_,hs,_,_=>by cases e;simp at hs
 | s+1,fz,e,va,vk,hs,h,hE=>by
  obtain ⟨⟨A,n,c,rfl,ha⟩,⟨B,m,d,rfl,hk⟩⟩:=h.sls;refine zF Tryz.func235 Tryz.ntmps235 (fun w0=>?_);refine pX (fun g0=>?_);refine zW ?_;intros;rename_i g1;refine zC (fun x1=>?_) (fun y1=>?_)
  ·refine zW ?_;refine YT (i:=0) rfl (fun fz3 hle3 hf3=>⟨rfl,?_⟩);rw [WM,if_pos (show e.op=kNumber from x1)];exact numE_is h.n
  refine wC (fun x2=>?_) (fun y2=>?_)
  ·have hn:e.args.length<=1000000000:=by
    cases hE with
    | num h=>exact absurd h y1
    | flu _ hn=>exact hn
    | bin _ h2=>exact absurd x2 h2
   refine zW ?_;refine Yc (Yj [] [_,_] Zz (YiJ (f0:=e.name) h.name ha (by rw [<- ha.len];exact hn)) (fun v fz2 H2 hle2 hR=>?_));obtain ⟨rfl,C,mm,cc,rfl,hsl⟩:=hR;unfold sxV;refine zW ?_;refine YT (i:=0) rfl (fun fz3 hle3 hf3=>⟨rfl,?_⟩);rw [WM,if_neg (show ¬e.op=kNumber from y1),if_pos (show e.op=kFluent from x2)];exact (Yab hsl).mono hle3
  obtain ⟨a,b,hab,hsa,hsb⟩:∃ a b,e.kids=[a,b]/\EShape a/\EShape b:=by
   cases hE with
   | num h=>exact absurd h y1
   | flu h _=>exact absurd h y2
   | bin _ _ hk ha hb=>exact ⟨_,_,hk,ha,hb⟩
  have la:=Lx.Expr.kids_lt (x:=e) (k:=a) (by rw [hab];simp);have lb:=Lx.Expr.kids_lt (x:=e) (k:=b) (by rw [hab];simp);have l2:=hk.len;rw [hab] at l2;simp at l2;subst l2;refine zW ?_;refine Y0 [_,_] ?_;refine zW ?_;refine Yk ?_;refine wG ?_;refine Ya0 T 0 Zz Zz Zz Zz Zz Zz hk (by first | rfl | omega) (by rw [hab];rfl:e.kids[0]?=some a) (fun p hp=>?_);refine zL hp ?_;intro cs hcs;obtain ⟨wa,wk,rfl,hRa⟩:=YE hcs;refine Yk ?_;refine wG ?_;refine Ya0 T 1 Zz Zz Zz Zz Zz Zz hk (by first | rfl | omega) (by rw [hab];rfl:e.kids[1]?=some b) (fun p2 hp2=>?_);refine zL hp2 ?_;intro cs2 hcs2;obtain ⟨za,zk,rfl,hRb⟩:=YE hcs2;refine pU ?_;refine Ch.qk ⟨Zd,Zx⟩ (Yt (Ybr (s:=e.op)) ?_);refine Yf (Yj [] [_,_] Zz (Ydy s (e:=a) Zi hRa hsa) (fun v2 fz2 H2 hle2 hR2=>?_));obtain ⟨rfl,cs3,rfl,hr3⟩:=hR2;obtain ⟨vk3,rfl,hR3⟩:=YH hr3;refine ⟨⟨hle2,Zp2⟩,?_⟩;refine Yf (Yj [] [_,_] Zz (Ydy s (e:=b) Zi (hRb.mono hle2) hsb) (fun v4 fz4 H4 hle4 hR4=>?_));obtain ⟨rfl,cs5,rfl,hr5⟩:=hR4;obtain ⟨vk5,rfl,hR5⟩:=YH hr5;refine ⟨⟨hle2.trans hle4,Zp2⟩,?_⟩;refine Yf (Yb (cs:=Yr e.op++ [Zk (WM s a).kind,Zk (WM s a).value,Zk (WM s a).line,Zk (WM s a).column,Zy (WM s a).text,vk3]++ [Zk (WM s b).kind,Zk (WM s b).value,Zk (WM s b).line,Zk (WM s b).column,Zy (WM s b).text,vk5]) (fun gb=>⟨⟨hle2.trans hle4,Zp3⟩,?_⟩));refine Ch.qk ⟨hle2.trans hle4,Zp3⟩ (Yt YcY ?_);unfold sxV;refine Ch.hard0 (YU ?_);refine Ch.done ?_;refine zW ?_;refine YT (i:=1) rfl (fun fz3 hle3 hf3=>⟨rfl,?_⟩);rw [WM,if_neg (show ¬e.op=kNumber from y1),if_neg (show ¬e.op=kFluent from y2),hab];obtain ⟨A',c',he,hsl⟩:=Yif (β:={p:Sexpr × List Value // p.2.length=6}) (L:=YM) (f:=fun p=>p.1.2) (g:=fun p=>p.1.1) (e:=133) (n:=3) (v:=Zv gb 3 3)
   (l:=[⟨(Yh e.op,Yr e.op),rfl⟩,⟨(WM s a,[Zk (WM s a).kind,Zk (WM s a).value,Zk (WM s a).line,Zk (WM s a).column,Zy (WM s a).text,vk3]),rfl⟩,⟨(WM s b,[Zk (WM s b).kind,Zk (WM s b).value,Zk (WM s b).line,Zk (WM s b).column,Zy (WM s b).text,vk5]),rfl⟩]) (fun p=>p.2) (OwnS.of_block (size:=6) rfl) (fun p hp=>hf3 p (by simp at hp;subst hp;exact .head _)) rfl Zh (fun x hx=>by
    simp only [List.mem_cons,List.not_mem_nil,or_false] at hx;rcases hx with rfl | rfl | rfl
    ·exact Yz h.op
    ·exact Ym (x:=WM s a) (hR3.mono (hle4.trans hle3))
    exact Ym (x:=WM s b) (hR5.mono hle3))
  injection he with he1 he2 he3
  subst he1 he3;exact Yab hsl
theorem Ye1:∀ (s s':Nat) (e:Lx.Expr),SizeOf.sizeOf e<=s->SizeOf.sizeOf e<=s'->WM s e=WM s' e
 | 0,_,e,h,_=>by cases e;simp at h
 | _+1,0,e,_,h=>by cases e;simp at h
 | s+1,s'+1,e,h,h'=>by
  have hk:e.kids.map (WM s)=e.kids.map (WM s'):=List.map_congr_left (fun k hk=>Ye1 s s' k (by have:=Lx.Expr.kids_lt hk;omega) (by have:=Lx.Expr.kids_lt hk;omega));simp only [WM,hk]
def Wc (e:Lx.Expr):Sexpr:=WM (SizeOf.sizeOf e) e
open Classical in
theorem exprX_eq (e:Lx.Expr):Wc e=if e.op=kNumber then numE e.n else if e.op=kFluent then Wl e.name e.args else YJ (Yh e.op::e.kids.map Wc):=by
 have hk:e.kids.map (WM (SizeOf.sizeOf e))=e.kids.map Wc:=List.map_congr_left (fun k hk=>Ye1 _ _ k (by have:=Lx.Expr.kids_lt hk;omega) (Zs _));rw [Wc,Ye1 _ (SizeOf.sizeOf e+1) e (Zs _) Zi,WM,hk]
theorem WR {e:Lx.Expr} (h:ExprR fz e va vk) (hE:EShape e):
 GFn prog 235 [.agg #[Zy e.op,Zy e.name,Zk e.n,va,vk]] fz [] (fun v fz' H'=>H'=[]/\SxIs fz' v (Wc e)):=Ydy _ (Zs _) h hE
def kAtom:Bs:=⟨#[97,116,111,109]⟩
def kSame:Bs:=⟨#[115,97,109,101]⟩
def kEq:Bs:=⟨#[61]⟩
def kLt:Bs:=⟨#[60]⟩
def kLe:Bs:=⟨#[60,61]⟩
def kAnd:Bs:=⟨#[97,110,100]⟩
def kForall:Bs:=⟨#[102,111,114,97,108,108]⟩
def kExists:Bs:=⟨#[101,120,105,115,116,115]⟩
def CmpOp (s:Bs):Prop:=s=kLt\/s=kLe\/s=kEq
inductive FShape:Formula->Prop
 | atom {f:Formula} (h:f.op=kAtom\/f.op=kSame) (hn:f.args.length<=1000000000):FShape f
 | cmp {f:Formula} {a b:Lx.Expr} (h:CmpOp f.op) (he:f.exprs=[a,b]) (ha:EShape a) (hb:EShape b):FShape f
 | other {f:Formula} (h0:f.op≠kAtom) (h1:f.op≠kSame) (h2:¬CmpOp f.op) (hp:f.params.length<=1000000000) (hn:f.kids.length<=1000000000) (hk:∀ k∈f.kids,FShape k):FShape f
open Classical in
def Ybs:Nat->Formula->Sexpr
 | 0,_=>numE 0
 | s+1,f=>if f.op=kAtom then Wl f.name f.args else if f.op=kSame then Wl kEq f.args else if CmpOp f.op then YJ (Yh f.op::f.exprs.map Wc)
  else YJ ((if f.op≠kAnd\/f.kids≠ [] then [Yh f.op] else [])++(if f.op=kForall\/f.op=kExists then [YJ ((f.params.flatMap YaE).map Yh)] else [])++f.kids.map (Ybs s))
theorem YeY:∀ (s s':Nat) (f:Formula),SizeOf.sizeOf f<=s->SizeOf.sizeOf f<=s'->Ybs s f=Ybs s' f
 | 0,_,e,h,_=>by cases e;simp at h
 | _+1,0,e,_,h=>by cases e;simp at h
 | s+1,s'+1,e,h,h'=>by
  have hk:e.kids.map (Ybs s)=e.kids.map (Ybs s'):=List.map_congr_left (fun k hk=>YeY s s' k (by have:=Formula.kids_lt hk;omega) (by have:=Formula.kids_lt hk;omega));simp only [Ybs,hk]
theorem YfW {fz3:FZ} {gb:Nat} {o:Bs} {X Y:Sexpr} {vk3 vk5:Value} (ho:Short o) (hg:fz3 gb=some (.cells (Yr o++ [Zk X.kind,Zk X.value,Zk X.line,Zk X.column,Zy X.text,vk3]++ [Zk Y.kind,Zk Y.value,Zk Y.line,Zk Y.column,Zy Y.text,vk5]).toArray 133 (0,0))) (hX:Wm fz3 X vk3) (hY:Wm fz3 Y vk5):
 SxIs fz3 (sxV 3 0 ⟨#[]⟩ (Zv gb 3 3)) (YJ [Yh o,X,Y]):=by
 obtain ⟨A',c',he,hsl⟩:=Yif (β:={p:Sexpr × List Value // p.2.length=6}) (L:=YM) (f:=fun p=>p.1.2) (g:=fun p=>p.1.1) (e:=133) (n:=3) (v:=Zv gb 3 3) (fz':=fz3)
  (l:=[⟨(Yh o,Yr o),rfl⟩,⟨(X,[Zk X.kind,Zk X.value,Zk X.line,Zk X.column,Zy X.text,vk3]),rfl⟩,⟨(Y,[Zk Y.kind,Zk Y.value,Zk Y.line,Zk Y.column,Zy Y.text,vk5]),rfl⟩]) (fun p=>p.2) (OwnS.of_block (size:=6) rfl) (fun p hp=>by simp at hp;subst hp;exact hg) rfl Zh (fun x hx=>by
   simp only [List.mem_cons,List.not_mem_nil,or_false] at hx;rcases hx with rfl | rfl | rfl
   ·exact Yz ho
   ·exact Ym (x:=X) hX
   exact Ym (x:=Y) hY)
 injection he with he1 he2 he3
 subst he1 he3;exact Yab hsl
theorem YpW (hF:FShape f) (hc:CmpOp f.op):∃ a b,f.exprs=[a,b]/\EShape a/\EShape b:=by
 cases hF with
 | atom h0=>
  rcases h0 with h0 | h0<;>rw [h0] at hc<;>rcases hc with hc | hc | hc<;>exact absurd (congrArg ByteArray.size hc) Zh
 | cmp _ he ha hb=>exact ⟨_,_,he,ha,hb⟩
 | other _ _ h2=>exact absurd hc h2
theorem YnL:∀ (s:Nat) {fz:FZ} {f:Formula} {va vp ve vk:Value},SizeOf.sizeOf f<=s->FormulaR fz f va vp ve vk->FShape f->
 GFn prog 188 [.agg #[Zy f.op,Zy f.name,va,vp,ve,vk]] fz [] (fun v fz' H'=>H'=[]/\SxIs fz' v (Ybs s f))
 | 0,_,f,_,_,_,_,hs,_,_=>by cases f;simp at hs
 | s+1,fz,f,va,vp,ve,vk,hs,h,hF=>by
  obtain ⟨⟨A,n,c,rfl,ha⟩,⟨B,m,d,rfl,hp⟩,⟨C,r,cr,rfl,he⟩,⟨D,q,cq,rfl,hk⟩⟩:=h.sls;refine zF Tryz.func188 Tryz.ntmps188 (fun w0=>?_);refine pX (fun g0=>?_);refine zW ?_;intros;rename_i g1;refine zC (fun x1=>?_) (fun y1=>?_)
  ·have hn:f.args.length<=1000000000:=by
    cases hF with
    | atom _ hn=>exact hn
    | cmp hc=>rw [show f.op=kAtom from x1] at hc;rcases hc with hc | hc | hc<;>exact absurd (congrArg ByteArray.size hc) Zh
    | other h0=>exact absurd x1 h0
   refine zW ?_;refine Yc (Yj [] [_,_] Zz (YiJ (f0:=f.name) h.name ha (by rw [<- ha.len];exact hn)) (fun v fz2 H2 hle2 hR=>?_));obtain ⟨rfl,C,mm,cc,rfl,hsl⟩:=hR;unfold sxV;refine zW ?_;refine YT (i:=0) rfl (fun fz3 hle3 hf3=>⟨rfl,?_⟩);rw [Ybs,if_pos (show f.op=kAtom from x1)];exact (Yab hsl).mono hle3
  refine wC (fun x2=>?_) (fun y2=>?_)
  ·have hn:f.args.length<=1000000000:=by
    cases hF with
    | atom _ hn=>exact hn
    | cmp hc=>rw [show f.op=kSame from x2] at hc;rcases hc with hc | hc | hc<;>exact absurd (congrArg ByteArray.size hc) Zh
    | other _ h1=>exact absurd x2 h1
   refine zW ?_;refine Yc (Yj [] [_,_] Zz (YiJ (f0:=kEq) (by unfold Short kEq;decide) ha (by rw [<- ha.len];exact hn)) (fun v fz2 H2 hle2 hR=>?_));obtain ⟨rfl,C,mm,cc,rfl,hsl⟩:=hR;unfold sxV;refine zW ?_;refine YT (i:=0) rfl (fun fz3 hle3 hf3=>⟨rfl,?_⟩);rw [Ybs,if_neg (show ¬f.op=kAtom from y1),if_pos (show f.op=kSame from x2)];exact (Yab hsl).mono hle3
  refine wC (fun x3=>?_) (fun y3=>?_)
  ·have hcmp:CmpOp f.op:=.inl x3;obtain ⟨a,b,hab,hsa,hsb⟩:=YpW hF hcmp;have l2:=he.len;rw [hab] at l2;simp at l2;subst l2;refine zW ?_;refine Y0 [_,_] ?_;refine zW ?_;refine Yk ?_;refine zW ?_;((refine zG ?_);refine Ya0 T 0 Zz Zz Zz Zz Zz Zz he (by first | rfl | omega) (by rw [hab];rfl:f.exprs[0]?=some a) (fun p hp0=>?_));refine zL hp0 ?_;intro cs hcs;obtain ⟨wa,wk,rfl,hRa⟩:=YE hcs;refine Yk ?_;refine zW ?_;((refine zG ?_);refine Ya0 T 1 Zz Zz Zz Zz Zz Zz he (by first | rfl | omega) (by rw [hab];rfl:f.exprs[1]?=some b) (fun p2 hp2=>?_));refine zL hp2 ?_;intro cs2 hcs2;obtain ⟨za,zk,rfl,hRb⟩:=YE hcs2;refine Yk ?_;refine Yk ?_;refine Yk ?_;refine Yk ?_;refine QK.dz ?_;refine Ch.qk ⟨Zd,Zx⟩ (Yt (Ybr (s:=f.op)) ?_);refine Yf (Yj [] [_,_] Zz (WR hRa hsa) (fun v2 fz2 H2 hle2 hR2=>?_));obtain ⟨rfl,cs3,rfl,hr3⟩:=hR2;obtain ⟨vk3,rfl,hR3⟩:=YH hr3;refine ⟨⟨hle2,Zp2⟩,?_⟩;refine Yf (Yj [] [_,_] Zz (WR (hRb.mono hle2) hsb) (fun v4 fz4 H4 hle4 hR4=>?_));obtain ⟨rfl,cs5,rfl,hr5⟩:=hR4;obtain ⟨vk5,rfl,hR5⟩:=YH hr5;refine ⟨⟨hle2.trans hle4,Zp2⟩,?_⟩;refine Yf (Yb (cs:=Yr f.op++ [Zk (Wc a).kind,Zk (Wc a).value,Zk (Wc a).line,Zk (Wc a).column,Zy (Wc a).text,vk3]++ [Zk (Wc b).kind,Zk (Wc b).value,Zk (Wc b).line,Zk (Wc b).column,Zy (Wc b).text,vk5]) (fun gb=>⟨⟨hle2.trans hle4,Zp3⟩,?_⟩));refine Ch.qk ⟨hle2.trans hle4,Zp3⟩ (Yt YcY ?_);unfold sxV;refine Ch.hard0 (YU ?_);refine Ch.done ?_;refine zW ?_;refine YT (i:=1) rfl (fun fz3 hle3 hf3=>⟨rfl,?_⟩);rw [Ybs,if_neg (show ¬f.op=kAtom from y1),if_neg (show ¬f.op=kSame from y2),if_pos hcmp,hab];exact YfW h.op (hf3 _ (.head _)) (hR3.mono (hle4.trans hle3)) (hR5.mono hle3)
  refine wC (fun x4=>?_) (fun y4=>?_)
  ·have hcmp:CmpOp f.op:=.inr (.inl x4);obtain ⟨a,b,hab,hsa,hsb⟩:=YpW hF hcmp;have l2:=he.len;rw [hab] at l2;simp at l2;subst l2;refine zW ?_;refine Y0 [_,_] ?_;refine zW ?_;refine Yk ?_;refine zW ?_;((refine zG ?_);refine Ya0 T 0 Zz Zz Zz Zz Zz Zz he (by first | rfl | omega) (by rw [hab];rfl:f.exprs[0]?=some a) (fun p hp0=>?_));refine zL hp0 ?_;intro cs hcs;obtain ⟨wa,wk,rfl,hRa⟩:=YE hcs;refine Yk ?_;refine zW ?_;((refine zG ?_);refine Ya0 T 1 Zz Zz Zz Zz Zz Zz he (by first | rfl | omega) (by rw [hab];rfl:f.exprs[1]?=some b) (fun p2 hp2=>?_));refine zL hp2 ?_;intro cs2 hcs2;obtain ⟨za,zk,rfl,hRb⟩:=YE hcs2;refine Yk ?_;refine Yk ?_;refine Yk ?_;refine Yk ?_;refine QK.dz ?_;refine Ch.qk ⟨Zd,Zx⟩ (Yt (Ybr (s:=f.op)) ?_);refine Yf (Yj [] [_,_] Zz (WR hRa hsa) (fun v2 fz2 H2 hle2 hR2=>?_));obtain ⟨rfl,cs3,rfl,hr3⟩:=hR2;obtain ⟨vk3,rfl,hR3⟩:=YH hr3;refine ⟨⟨hle2,Zp2⟩,?_⟩;refine Yf (Yj [] [_,_] Zz (WR (hRb.mono hle2) hsb) (fun v4 fz4 H4 hle4 hR4=>?_));obtain ⟨rfl,cs5,rfl,hr5⟩:=hR4;obtain ⟨vk5,rfl,hR5⟩:=YH hr5;refine ⟨⟨hle2.trans hle4,Zp2⟩,?_⟩;refine Yf (Yb (cs:=Yr f.op++ [Zk (Wc a).kind,Zk (Wc a).value,Zk (Wc a).line,Zk (Wc a).column,Zy (Wc a).text,vk3]++ [Zk (Wc b).kind,Zk (Wc b).value,Zk (Wc b).line,Zk (Wc b).column,Zy (Wc b).text,vk5]) (fun gb=>⟨⟨hle2.trans hle4,Zp3⟩,?_⟩));refine Ch.qk ⟨hle2.trans hle4,Zp3⟩ (Yt YcY ?_);unfold sxV;refine Ch.hard0 (YU ?_);refine Ch.done ?_;refine zW ?_;refine YT (i:=1) rfl (fun fz3 hle3 hf3=>⟨rfl,?_⟩);rw [Ybs,if_neg (show ¬f.op=kAtom from y1),if_neg (show ¬f.op=kSame from y2),if_pos hcmp,hab];exact YfW h.op (hf3 _ (.head _)) (hR3.mono (hle4.trans hle3)) (hR5.mono hle3)
  refine wC (fun x5=>?_) (fun y5=>?_)
  ·have hcmp:CmpOp f.op:=.inr (.inr x5);obtain ⟨a,b,hab,hsa,hsb⟩:=YpW hF hcmp;have l2:=he.len;rw [hab] at l2;simp at l2;subst l2;refine zW ?_;refine Y0 [_,_] ?_;refine zW ?_;refine Yk ?_;refine zW ?_;((refine zG ?_);refine Ya0 T 0 Zz Zz Zz Zz Zz Zz he (by first | rfl | omega) (by rw [hab];rfl:f.exprs[0]?=some a) (fun p hp0=>?_));refine zL hp0 ?_;intro cs hcs;obtain ⟨wa,wk,rfl,hRa⟩:=YE hcs;refine Yk ?_;refine zW ?_;((refine zG ?_);refine Ya0 T 1 Zz Zz Zz Zz Zz Zz he (by first | rfl | omega) (by rw [hab];rfl:f.exprs[1]?=some b) (fun p2 hp2=>?_));refine zL hp2 ?_;intro cs2 hcs2;obtain ⟨za,zk,rfl,hRb⟩:=YE hcs2;refine Yk ?_;refine Yk ?_;refine Yk ?_;refine Yk ?_;refine QK.dz ?_;refine Ch.qk ⟨Zd,Zx⟩ (Yt (Ybr (s:=f.op)) ?_);refine Yf (Yj [] [_,_] Zz (WR hRa hsa) (fun v2 fz2 H2 hle2 hR2=>?_));obtain ⟨rfl,cs3,rfl,hr3⟩:=hR2;obtain ⟨vk3,rfl,hR3⟩:=YH hr3;refine ⟨⟨hle2,Zp2⟩,?_⟩;refine Yf (Yj [] [_,_] Zz (WR (hRb.mono hle2) hsb) (fun v4 fz4 H4 hle4 hR4=>?_));obtain ⟨rfl,cs5,rfl,hr5⟩:=hR4;obtain ⟨vk5,rfl,hR5⟩:=YH hr5;refine ⟨⟨hle2.trans hle4,Zp2⟩,?_⟩;refine Yf (Yb (cs:=Yr f.op++ [Zk (Wc a).kind,Zk (Wc a).value,Zk (Wc a).line,Zk (Wc a).column,Zy (Wc a).text,vk3]++ [Zk (Wc b).kind,Zk (Wc b).value,Zk (Wc b).line,Zk (Wc b).column,Zy (Wc b).text,vk5]) (fun gb=>⟨⟨hle2.trans hle4,Zp3⟩,?_⟩));refine Ch.qk ⟨hle2.trans hle4,Zp3⟩ (Yt YcY ?_);unfold sxV;refine Ch.hard0 (YU ?_);refine Ch.done ?_;refine zW ?_;refine YT (i:=1) rfl (fun fz3 hle3 hf3=>⟨rfl,?_⟩);rw [Ybs,if_neg (show ¬f.op=kAtom from y1),if_neg (show ¬f.op=kSame from y2),if_pos hcmp,hab];exact YfW h.op (hf3 _ (.head _)) (hR3.mono (hle4.trans hle3)) (hR5.mono hle3)
  refine zW ?_;have hc:¬CmpOp f.op:=fun h1=>h1.elim y3 (fun h1=>h1.elim y4 y5)
  obtain ⟨hpn,hkn,hks⟩:f.params.length<=1000000000/\f.kids.length<=1000000000/\∀ k∈f.kids,FShape k:=by
   cases hF with
   | atom h0=>exact (h0.elim y1 y2).elim
   | cmp h1=>exact absurd h1 hc
   | other _ _ _ h1 h2 h3=>exact ⟨h1,h2,h3⟩
  refine zc (YcY (A:=none) (n:=0) (c:=0)) ?_;unfold sxV;refine zWO ?_;intros;rename_i g2;have l4:=hk.len;refine YL (Y8 (fun σ fz' H'=>∃ (v:Value) (k:Nat) (Hs:HP),σ=[(3,Zp g2),(2,Zp g1),(1,Zp g0)]/\fz=fz'/\k<=1/\
   H'=(g2,Zu #[Zk 3,Zk 0,Zk 0,Zk 0,Ze,v] 133)::(g1,Zu #[Zk 0,Zk 0,Zk 0,Zk 0,Ze,Zn] 133)::(g0,Zu #[Zy f.op,Zy f.name,Zc A n c,Zc B m d,Zc C r cr,Zc D q cq] 35)::Hs/\
   Grow YM 133 fz' v k Hs (if f.op≠kAnd\/f.kids≠ [] then [Yh f.op] else [])) ?_ ?_)
  ·refine wC ?_ ?_<;>intro z1
   ·refine zW ?_;refine Y0 [_,_,_] ?_;refine zW ?_;refine Yk (Yk (Yk ?_));refine zW ?_;refine pU ?_;refine Ch.qk ⟨Zd,Zx⟩ (Yt (Ybr (s:=f.op)) ?_);refine Yf (Yb (cs:=Yr f.op) (fun gb=>⟨⟨Zd,Zx⟩,?_⟩));refine Yf (YC (Hr:=[_,_,_,_]) (Zr _) (Grow.nil YM 133 fz) Yv (.head _) (Yz h.op) (fun v' Hs' hO'=>⟨⟨Zd,Zx⟩,?_⟩) (hb:=by decide) (hm2:=by decide));obtain ⟨Av',cv',rfl,_,_⟩:=hO'.form;refine Ch.hard0 (YU ?_);refine Ch.done ?_;exact wN (h:=by exact ⟨_,1,Hs',rfl,rfl,by omega,rfl,by rw [if_pos (.inl z1)];exact hO'⟩)
   refine wC ?_ ?_<;>intro z2
   ·have hkn0:f.kids≠ []:=fun h0=>by rw [h0] at l4;simp at l4;omega
    refine zW ?_;refine Y0 [_,_,_] ?_;refine zW ?_;refine Yk (Yk (Yk ?_));refine zW ?_;refine pU ?_;refine Ch.qk ⟨Zd,Zx⟩ (Yt (Ybr (s:=f.op)) ?_);refine Yf (Yb (cs:=Yr f.op) (fun gb=>⟨⟨Zd,Zx⟩,?_⟩));refine Yf (YC (Hr:=[_,_,_,_]) (Zr _) (Grow.nil YM 133 fz) Yv (.head _) (Yz h.op) (fun v' Hs' hO'=>⟨⟨Zd,Zx⟩,?_⟩) (hb:=by decide) (hm2:=by decide));obtain ⟨Av',cv',rfl,_,_⟩:=hO'.form;refine Ch.hard0 (YU ?_);refine Ch.done ?_;exact wN (h:=by exact ⟨_,1,Hs',rfl,rfl,by omega,rfl,by rw [if_pos (.inr hkn0)];exact hO'⟩)
   have hkn0:f.kids=[]:=List.eq_nil_of_length_eq_zero Zi;exact wN (h:=by exact ⟨_,0,[],rfl,rfl,by omega,rfl,by rw [if_neg (by rintro (h0 | h0);exact h0 z1;exact h0 hkn0)];exact Grow.nil _ _ _⟩)
  rintro σ fz' H' ⟨v,k,Hs,rfl,rfl,hk1,rfl,hG⟩;refine YL (Y8 (fun σ fz' H'=>∃ (v:Value) (k:Nat) (Hs:HP),σ=[(3,Zp g2),(2,Zp g1),(1,Zp g0)]/\Le fz fz'/\k<=2/\
   H'=(g2,Zu #[Zk 3,Zk 0,Zk 0,Zk 0,Ze,v] 133)::(g1,Zu #[Zk 0,Zk 0,Zk 0,Zk 0,Ze,Zn] 133)::(g0,Zu #[Zy f.op,Zy f.name,Zc A n c,Zc B m d,Zc C r cr,Zc D q cq] 35)::Hs/\
   Grow YM 133 fz' v k Hs ((if f.op≠kAnd\/f.kids≠ [] then [Yh f.op] else [])++(if f.op=kForall\/f.op=kExists then [YJ ((f.params.flatMap YaE).map Yh)] else []))) ?_ ?_)
  ·obtain ⟨Av,cv,rfl,_,_⟩:=hG.form;refine wC ?_ ?_<;>intro w1
   ·refine zW ?_;refine Y0 [_,_,_] ?_;refine zW ?_;refine Yk (Yk (Yk (Yk ?_)));refine zW ?_;refine pU ?_;refine Yf (Yj [] _ Zz (YdX hp (by rw [<- hp.len];exact hpn)) (fun v2 fz2 H2 hle2 hR2=>?_));obtain ⟨rfl,B2,cc2,rfl,hsl2⟩:=hR2;refine ⟨⟨hle2,Zx⟩,?_⟩;refine Ch.qk ⟨hle2,Zx⟩ (Yt YcY ?_);unfold sxV;refine Yf (Yb (cs:=[Zk 3,Zk 0,Zk 0,Zk 0,Ze,Zc B2 (3*m) cc2]) (fun gb=>⟨⟨hle2,Zx⟩,?_⟩));refine Yf (YC (Hr:=[_,_,_,_]) (d:=YJ ((f.params.flatMap YaE).map Yh)) (Zr _) (hG.mono hle2) Yv (.head _) (Ym (x:=YJ _) ⟨YgD,XH,XH,XH,Y1,hsl2.is⟩) (fun v' Hs' hO'=>⟨⟨hle2,Zx⟩,?_⟩));obtain ⟨Av',cv',rfl,_,_⟩:=hO'.form;refine Ch.hard0 (YU ?_);refine Ch.done ?_;exact wN (h:=by exact ⟨_,k+1,Hs',rfl,hle2,by omega,rfl,by rw [if_pos (Or.inl w1:f.op=kForall\/f.op=kExists)];exact hO'⟩)
   refine wC ?_ ?_<;>intro w2
   ·refine zW ?_;refine Y0 [_,_,_] ?_;refine zW ?_;refine Yk (Yk (Yk (Yk ?_)));refine zW ?_;refine pU ?_;refine Yf (Yj [] _ Zz (YdX hp (by rw [<- hp.len];exact hpn)) (fun v2 fz2 H2 hle2 hR2=>?_));obtain ⟨rfl,B2,cc2,rfl,hsl2⟩:=hR2;refine ⟨⟨hle2,Zx⟩,?_⟩;refine Ch.qk ⟨hle2,Zx⟩ (Yt YcY ?_);unfold sxV;refine Yf (Yb (cs:=[Zk 3,Zk 0,Zk 0,Zk 0,Ze,Zc B2 (3*m) cc2]) (fun gb=>⟨⟨hle2,Zx⟩,?_⟩));refine Yf (YC (Hr:=[_,_,_,_]) (d:=YJ ((f.params.flatMap YaE).map Yh)) (Zr _) (hG.mono hle2) Yv (.head _) (Ym (x:=YJ _) ⟨YgD,XH,XH,XH,Y1,hsl2.is⟩) (fun v' Hs' hO'=>⟨⟨hle2,Zx⟩,?_⟩));obtain ⟨Av',cv',rfl,_,_⟩:=hO'.form;refine Ch.hard0 (YU ?_);refine Ch.done ?_;exact wN (h:=by exact ⟨_,k+1,Hs',rfl,hle2,by omega,rfl,by rw [if_pos (Or.inr w2:f.op=kForall\/f.op=kExists)];exact hO'⟩)
   exact wN (h:=by exact ⟨_,k,Hs,rfl,Zd,by omega,rfl,by rw [if_neg (show ¬(f.op=kForall\/f.op=kExists) from fun h0=>h0.elim w1 w2),List.append_nil];exact hG⟩)
  rintro σ fz' H' ⟨v,k,Hs,rfl,hle,hk1,rfl,hG⟩;generalize hbase:(if f.op≠kAnd\/f.kids≠ [] then [Yh f.op] else [])++(if f.op=kForall\/f.op=kExists then [YJ ((f.params.flatMap YaE).map Yh)] else [])=base at hG;refine zW ?_;refine Yl (fun mm σ fz2 H'=>∃ (j:Nat) (v:Value) (k:Nat) (Hs:HP),j<=q/\mm=q - j/\σ=[(77,Zk j),(76,Zk q),(75,Zc D q cq),(3,Zp g2),(2,Zp g1)]/\Le fz' fz2/\k<=2+j/\
   H'=(g2,Zu #[Zk 3,Zk 0,Zk 0,Zk 0,Ze,v] 133)::(g1,Zu #[Zk 0,Zk 0,Zk 0,Zk 0,Ze,Zn] 133)::Hs/\Grow YM 133 fz2 v k Hs (base++(f.kids.take j).map (Ybs s)))
   ⟨0,v,k,Hs,Z0 _,rfl,rfl,Zd,by omega,rfl,by simpa using hG⟩ Zw Zb ?_
  rintro mm σ fz2 H' ⟨j,v,k,Hs,hj,rfl,rfl,hle2,hk2,rfl,hG⟩;obtain ⟨Av,cv,rfl,_,_⟩:=hG.form;have hk3:=hk.mono (hle.trans hle2);refine wC ?_ ?_<;>intro c1
  ·obtain ⟨x,hx⟩:=Ye (l:=f.kids) (k:=j) Zi;have hxm:x∈f.kids:=Zm hx;have hlt:=Formula.kids_lt hxm;refine wI hk3 hx (fun p hp5=>?_);refine zL hp5 ?_;intro cs hcs;obtain ⟨wa,wp,we,wk,rfl,hRx⟩:=Yx hcs;obtain ⟨⟨A1,n1,b1,rfl,_⟩,⟨A2,n2,b2,rfl,_⟩,⟨A3,n3,b3,rfl,_⟩,⟨A4,n4,b4,rfl,_⟩⟩:=hRx.sls;refine zW ?_;intros;rename_i g5;refine Y0 [_,_,_] ?_;refine zW ?_;refine Yk (Yk (Yk ?_));refine zW ?_;refine pU ?_;refine Yf (Yj [] _ Zz (YnL s (f:=x) Zi hRx (hks x hxm)) (fun v2 fz4 H2 hle4 hR2=>?_));obtain ⟨rfl,cs3,rfl,hr3⟩:=hR2;obtain ⟨vk3,rfl,hR3⟩:=YH hr3;refine ⟨⟨hle4,Zx⟩,?_⟩;refine Yf (Yb (cs:=[Zk (Ybs s x).kind,Zk (Ybs s x).value,Zk (Ybs s x).line,Zk (Ybs s x).column,Zy (Ybs s x).text,vk3]) (fun gb=>⟨⟨hle4,Zx⟩,?_⟩));refine Yf (YC (Hr:=[_,_,_,_]) (d:=Ybs s x) (Zr _) (hG.mono hle4) Yv (.head _) (Ym hR3) (fun v' Hs' hO'=>⟨⟨hle4,Zx⟩,?_⟩));obtain ⟨Av',cv',rfl,_,_⟩:=hO'.form;refine Ch.hard0 (XI ?_);refine Ch.done ?_;exact wP (h:=by exact ⟨j+1,_,k+1,Hs',by omega,rfl,rfl,hle2.trans hle4,by omega,rfl,by rw [List.take_add_one,hx,Option.toList,List.map_append,<- List.append_assoc];exact hO'⟩)
  have hj1:j=q:=by omega
  subst hj1;refine zW ?_;refine YT (i:=1) rfl (fun fz3 hle3 hf3=>⟨rfl,?_⟩);rw [Zl Zi] at hG;obtain ⟨A',c',he5,hsl⟩:=hG.sl hle3 (fun p hp=>hf3 p (by simp [hp])) Zi;injection he5 with e1 e2 e3
  subst e1 e3;rw [Ybs,if_neg (show ¬f.op=kAtom from y1),if_neg (show ¬f.op=kSame from y2),if_neg hc,hbase];exact Yab hsl
def Y7 (f:Formula):Sexpr:=Ybs (SizeOf.sizeOf f) f
open Classical in
theorem YfH (f:Formula):Y7 f=if f.op=kAtom then Wl f.name f.args else if f.op=kSame then Wl kEq f.args else if CmpOp f.op then YJ (Yh f.op::f.exprs.map Wc)
 else YJ ((if f.op≠kAnd\/f.kids≠ [] then [Yh f.op] else [])++(if f.op=kForall\/f.op=kExists then [YJ ((f.params.flatMap YaE).map Yh)] else [])++f.kids.map Y7):=by
 have hk:f.kids.map (Ybs (SizeOf.sizeOf f))=f.kids.map Y7:=List.map_congr_left (fun k hk=>YeY _ _ k (by have:=Formula.kids_lt hk;omega) (Zs _));rw [Y7,YeY _ (SizeOf.sizeOf f+1) f (Zs _) Zi,Ybs,hk]
theorem YnK (h:FormulaR fz f va vp ve vk) (hF:FShape f):
 GFn prog 188 [.agg #[Zy f.op,Zy f.name,va,vp,ve,vk]] fz [] (fun v fz' H'=>H'=[]/\SxIs fz' v (Y7 f)):=YnL _ (Zs _) h hF
end Go.Proofs.YtdbfccanbbbjkaaGreatDoor
namespace Go.Lx
variable {k:Nat} {f:Formula}
def Yeq (n:Int):Prop:= -1099511627776<=n/\n<=1099511627776
mutual
def ecount:Expr->Nat
 | .mk _ _ _ _ kids=>1+ecountL kids
def ecountL:List Expr->Nat
 | []=>0
 | k::r=>ecount k+ecountL r
end
mutual
def edepth:Expr->Nat
 | .mk _ _ _ _ kids=>1+edepthL kids
def edepthL:List Expr->Nat
 | []=>0
 | k::r=>max (edepth k) (edepthL r)
end
mutual
def fcount:Formula->Nat
 | .mk _ _ _ _ exprs kids=>1+ecountL exprs+fcountL kids
def fcountL:List Formula->Nat
 | []=>0
 | k::r=>fcount k+fcountL r
end
mutual
def fdepth:Formula->Nat
 | .mk _ _ _ _ exprs kids=>1+max (edepthL exprs) (fdepthL kids)
def fdepthL:List Formula->Nat
 | []=>0
 | k::r=>max (fdepth k) (fdepthL r)
end
mutual
def xcount:Sexpr->Nat
 | .mk _ _ _ _ _ kids=>1+xcountL kids
def xcountL:List Sexpr->Nat
 | []=>0
 | k::r=>xcount k+xcountL r
end
mutual
def xdepth:Sexpr->Nat
 | .mk kind _ _ _ _ kids=>xdepthL kids+(if kind=3 then 1 else 0)
def xdepthL:List Sexpr->Nat
 | []=>0
 | k::r=>max (xdepth k) (xdepthL r)
end
theorem Yc0 (e:Expr):ecount e=1+ecountL e.kids:=by cases e;simp [ecount,Expr.kids]
theorem Yeh (e:Expr):edepth e=1+edepthL e.kids:=by cases e;simp [edepth,Expr.kids]
theorem Yed (f:Formula):fcount f=1+ecountL f.exprs+fcountL f.kids:=by cases f;simp [fcount,Formula.kids,Formula.exprs]
theorem YgR (f:Formula):fdepth f=1+max (edepthL f.exprs) (fdepthL f.kids):=by cases f;simp [fdepth,Formula.kids,Formula.exprs]
theorem YfP (x:Sexpr):xcount x=1+xcountL x.kids:=by cases x;simp [xcount,Sexpr.kids]
theorem YfO (x:Sexpr):xdepth x=xdepthL x.kids+(if x.kind=3 then 1 else 0):=by cases x;rw [xdepth];rfl
theorem Ykw {l:List Expr} {x:Expr}:ecountL (l++ [x])=ecountL l+ecount x:=by
 induction l with
 | nil=>simp [ecountL]
 | cons a r ih=>simp only [List.cons_append,ecountL,ih];omega
theorem Ykq {l:List Formula} {x:Formula}:fcountL (l++ [x])=fcountL l+fcount x:=by
 induction l with
 | nil=>simp [fcountL]
 | cons a r ih=>simp only [List.cons_append,fcountL,ih];omega
theorem Yjm {l:List Sexpr} {x:Sexpr}:xcountL (l++ [x])=xcountL l+xcount x:=by
 induction l with
 | nil=>simp [xcountL]
 | cons a r ih=>simp only [List.cons_append,xcountL,ih];omega
theorem Yhl {l m:List Expr}:ecountL (l++m)=ecountL l+ecountL m:=by
 induction l with
 | nil=>simp [ecountL]
 | cons a r ih=>simp only [List.cons_append,ecountL,ih];omega
theorem Yhj {l m:List Formula}:fcountL (l++m)=fcountL l+fcountL m:=by
 induction l with
 | nil=>simp [fcountL]
 | cons a r ih=>simp only [List.cons_append,fcountL,ih];omega
theorem Ydq {l m:List Sexpr}:xcountL (l++m)=xcountL l+xcountL m:=by
 induction l with
 | nil=>simp [xcountL]
 | cons a r ih=>simp only [List.cons_append,xcountL,ih];omega
theorem Yg9 {l m:List Sexpr}:xdepthL (l++m)=max (xdepthL l) (xdepthL m):=by
 induction l with
 | nil=>simp [xdepthL]
 | cons a r ih=>simp only [List.cons_append,xdepthL,ih];omega
theorem YkU {l:List Sexpr} {x:Sexpr} (h:x∈l):xcount x<=xcountL l:=by
 induction l with
 | nil=>cases h
 | cons a r ih=>
  simp only [xcountL];rcases List.mem_cons.1 h with rfl | h
  ·omega
  have:=ih h;omega
theorem YhT {l:List Expr} {b:Nat}:edepthL l<=b↔∀ x∈l,edepth x<=b:=by
 induction l with
 | nil=>simp [edepthL]
 | cons a r ih=>simp only [edepthL,List.mem_cons,forall_eq_or_imp,Nat.max_le,ih]
theorem YhS {l:List Formula} {b:Nat}:fdepthL l<=b↔∀ x∈l,fdepth x<=b:=by
 induction l with
 | nil=>simp [fdepthL]
 | cons a r ih=>simp only [fdepthL,List.mem_cons,forall_eq_or_imp,Nat.max_le,ih]
theorem Yew {l:List Sexpr} {b:Nat}:xdepthL l<=b↔∀ x∈l,xdepth x<=b:=by
 induction l with
 | nil=>simp [xdepthL]
 | cons a r ih=>simp only [xdepthL,List.mem_cons,forall_eq_or_imp,Nat.max_le,ih]
theorem Yc2 {l:List Expr} {x:Expr} (hx:l[k]?=some x):ecountL (l.take (k+1))=ecountL (l.take k)+ecount x:=by
 rw [List.take_add_one,hx];simp only [Option.toList];exact Ykw
theorem Yc1 {l:List Expr}:ecountL (l.take k)<=ecountL l:=by
 have h:=Yhl (l:=l.take k) (m:=l.drop k);rw [List.take_append_drop] at h;omega
theorem Yfn {l:List Formula} {x:Formula} (hx:l[k]?=some x):fcountL (l.take (k+1))=fcountL (l.take k)+fcount x:=by
 rw [List.take_add_one,hx];simp only [Option.toList];exact Ykq
theorem Yfm {l:List Formula}:fcountL (l.take k)<=fcountL l:=by
 have h:=Yhj (l:=l.take k) (m:=l.drop k);rw [List.take_append_drop] at h;omega
theorem Yjl {l:List Sexpr} {x:Sexpr} (hx:l[k]?=some x):xcountL (l.take (k+1))=xcountL (l.take k)+xcount x:=by
 rw [List.take_add_one,hx];simp only [Option.toList];exact Yjm
theorem Yjk {l:List Sexpr}:xcountL (l.take k)<=xcountL l:=by
 have h:=Ydq (l:=l.take k) (m:=l.drop k);rw [List.take_append_drop] at h;omega
mutual
/-- what holds of all parts -/
def EAll (p:Expr->Prop):Expr->Prop
 | .mk op name n args kids=>p (.mk op name n args kids)/\EAllL p kids
def EAllL (p:Expr->Prop):List Expr->Prop
 | []=>True
 | k::r=>EAll p k/\EAllL p r
end
mutual
def FAll (p:Formula->Prop) (q:Expr->Prop):Formula->Prop
 | .mk op name args params exprs kids=>p (.mk op name args params exprs kids)/\EAllL q exprs/\FAllL p q kids
def FAllL (p:Formula->Prop) (q:Expr->Prop):List Formula->Prop
 | []=>True
 | k::r=>FAll p q k/\FAllL p q r
end
mutual
def XAll (p:Sexpr->Prop):Sexpr->Prop
 | .mk kind value line column text kids=>p (.mk kind value line column text kids)/\XAllL p kids
def XAllL (p:Sexpr->Prop):List Sexpr->Prop
 | []=>True
 | k::r=>XAll p k/\XAllL p r
end
theorem YkS {p:Expr->Prop} {l:List Expr}:EAllL p l↔∀ k∈l,EAll p k:=by
 induction l with
 | nil=>simp [EAllL]
 | cons a r ih=>simp only [EAllL,ih,List.mem_cons,forall_eq_or_imp]
theorem Yqg {p:Formula->Prop} {q:Expr->Prop} {l:List Formula}:FAllL p q l↔∀ k∈l,FAll p q k:=by
 induction l with
 | nil=>simp [FAllL]
 | cons a r ih=>simp only [FAllL,ih,List.mem_cons,forall_eq_or_imp]
theorem Yqc {p:Sexpr->Prop} {l:List Sexpr}:XAllL p l↔∀ k∈l,XAll p k:=by
 induction l with
 | nil=>simp [XAllL]
 | cons a r ih=>simp only [XAllL,ih,List.mem_cons,forall_eq_or_imp]
theorem YbQ {p:Expr->Prop} {e:Expr}:EAll p e↔p e/\∀ k∈e.kids,EAll p k:=by cases e;simp only [EAll,YkS,Expr.kids]
theorem WQ {p:Formula->Prop} {q:Expr->Prop}:FAll p q f↔p f/\(∀ e∈f.exprs,EAll q e)/\∀ k∈f.kids,FAll p q k:=by cases f;simp only [FAll,Yqg,YkS,Formula.kids,Formula.exprs]
theorem Ya8 {p:Sexpr->Prop} {x:Sexpr}:XAll p x↔p x/\∀ k∈x.kids,XAll p k:=by cases x;simp only [XAll,Yqc,Sexpr.kids]
theorem X9 {P:Program} {cx:Cx} {r:Operand->Option Value} {fz:FZ} {H:HP} {V:Value->Prop} {dst:Option Nat} {ty:TypeId} {pos:String} {af:Array Edge} {gd:Option (Nat × Bool)} {f:FuncId} {ff:Operand} {xs:List Operand} {ats:Array TypeId} {us vs first capt:List Value} {p:Prop} [Decidable p] (hf:r ff=some (.func (.func f) first.toArray capt.toArray)) (hx:rds r xs=some us) (hv:first++us++capt=vs) (hq:QFn P f vs fz (Zo (decide p)))
 (h1:p->V (.bool true)) (h2:¬p->V (.bool false)):DoesQ P cx ⟨dst,.call {callee:=.value ff,args:=xs.toArray,argTypes:=ats},ty,pos,af,gd⟩ r fz H V:=
 Ybn hq (Yh6 h1 h2) (hf:=hf) (hx:=hx) (hv:=hv)
end Go.Lx
namespace Go.Proofs.YtdbfccanbbbjkaaGreatDoor
variable {A:Option Addr} {c n g:Nat} {ff:FuncId} {fz:FZ} {s:Bs} {va vk:Value}
theorem YmS {p:Prop} [Decidable p]:Value.bool (!decide p)=Value.bool (decide (¬p)):=by rw [decide_not]
theorem indexF_q {l:List Bs} {p:Bs->Prop} [DecidablePred p] (h1:Sl strL fz A n c l) (hq:∀ x,Short x->QFn prog ff [Zy x] fz (Zo (decide (p x)))):
 QFn prog 266 [Zc A n c,.func (.func ff) #[] #[]] fz (Zk (W4 p l 0)):=by
 refine qF Tryz.func266 Tryz.ntmps266 (fun w0=>?_);have l1:=h1.len;have hm:=h1.short;refine zW ?_;refine Wn n (fun k=>[(8,Zk k),(7,Zk n),(0,Zc A n c),(1,.func (.func ff) #[] #[])]) [] (fun k=>(∀ i,i<k->∀ x,l[i]?=some x->¬p x)) (fun i hi=>absurd hi Zi) ?_;intro k hk hh;refine wC (fun hlt=>?_) (fun hge=>?_)
 ·refine zW ?_;obtain ⟨x,hx⟩:=Ye (l:=l) (k:=k) Zi;refine zI h1 hx (fun a ha=>?_);refine zH ha (fun iy=>?_);refine wG ?_;refine X9 Zz Zz Zz (hq x iy) (fun c1=>?_) (fun c1=>?_)
  ·exact wR (h:=by rw [XO hh hx c1,Int.zero_add])
  exact wM (h:=by exact YF hh hx c1)
 exact wR (h:=by rw [Xm (Y6 hh Zi)])
theorem YcB {l:List Bs} {p:Bs->Prop} [DecidablePred p] (h1:Sl strL fz A n c l) (hq:∀ x,Short x->QFn prog ff [Zy x] fz (Zo (decide (p x)))):
 QFn prog 236 [Zc A n c,.func (.func ff) #[] #[]] fz (Zo (decide (∃ x∈l,p x))):=by
 refine qF Tryz.func236 Tryz.ntmps236 (fun w0=>?_);refine wc (indexF_q h1 hq) ?_;refine zC ?_ ?_<;>intro c1
 ·exact wR (h:=by exact Yq ((YY (Int.le_refl 0)).1 c1))
 exact wR (h:=by exact Yi (fun h=>c1 ((YY (Int.le_refl 0)).2 h)))
theorem Yjz (hs:Short s):QFn prog 247 [Zy s] fz (Zo (decide (¬Ye9 s))):=by
 refine qF Tryz.func247 Tryz.ntmps247 (fun w0=>?_);refine wc (term_q hs) ?_;exact wR (h:=by exact YmS)
theorem Ypo (hs:Short s):QFn prog 276 [Zy s] fz (Zo (decide (¬Ye9 s))):=by
 refine qF Tryz.func276 Tryz.ntmps276 (fun w0=>?_);refine wc (term_q hs) ?_;exact wR (h:=by exact YmS)
def budO (c:Int):Obj:=Zu #[Zk c] 284
theorem take_q {d:Nat} (hc:c<=5000):GFn prog 246 [Zp g,Zk d] fz [(g,budO c)] (fun v fz' H'=>Le fz fz'/\H'=[(g,budO (c+1:Nat))]/\∃ b:Bool,v=Zo b/\(b=true↔c+1<=4096/\d<=32)):=by
 unfold budO;refine zF Tryz.func246 Tryz.ntmps246 (fun w0=>?_);refine wC ?_ ?_<;>intro c1
 ·refine wC ?_ ?_<;>intro c2
  ·exact wR (h:=by exact ⟨Zd,rfl,true,rfl,iff_of_true rfl ⟨by omega,by omega⟩⟩)
  exact wR (h:=by exact ⟨Zd,rfl,false,rfl,iff_of_false (by simp) (fun h=>c2 Zi)⟩)
 exact wR (h:=by exact ⟨Zd,rfl,false,rfl,iff_of_false (by simp) (fun h=>c1 Zi)⟩)
def Ypc:Bs:=⟨#[43]⟩
def kStar:Bs:=⟨#[42]⟩
def BinP (s:Bs):Prop:=s=Ypc\/s=Yb7\/s=kStar
def Yfy (e:Lx.Expr):Prop:=
 (e.op=kNumber/\e.name=YaG/\e.args=[]/\e.kids=[]/\Yeq e.n)\/(e.op=kFluent/\e.n=0/\e.kids=[]/\Xh e.name/\∀ s∈e.args,Ye9 s)\/(BinP e.op/\e.n=0/\e.name=YaG/\e.args=[]/\e.kids.length=2)
abbrev EOk (e:Lx.Expr):Prop:=EAll Yfy e
theorem Ykt {e:Lx.Expr} (h:e.op=kNumber):Yfy e↔e.name=YaG/\e.args=[]/\e.kids=[]/\Yeq e.n:=by
 unfold Yfy BinP;rw [h];refine ⟨fun h=>?_,fun h=>.inl ⟨rfl,h⟩⟩;rcases h with h | h | h
 ·exact h.2
 ·exact absurd (congrArg (fun s=>Ya2 s 0) h.1) Zh
 rcases h.1 with h | h | h<;>exact absurd (congrArg ByteArray.size h) Zh
theorem Yku {e:Lx.Expr} (h:e.op=kFluent):Yfy e↔e.n=0/\e.kids=[]/\Xh e.name/\∀ s∈e.args,Ye9 s:=by
 unfold Yfy BinP;rw [h];refine ⟨fun h=>?_,fun h=>.inr (.inl ⟨rfl,h⟩)⟩;rcases h with h | h | h
 ·exact absurd (congrArg (fun s=>Ya2 s 0) h.1) Zh
 ·exact h.2
 rcases h.1 with h | h | h<;>exact absurd (congrArg ByteArray.size h) Zh
theorem Ykv {e:Lx.Expr} (h1:¬e.op=kNumber) (h2:¬e.op=kFluent):Yfy e↔BinP e.op/\e.n=0/\e.name=YaG/\e.args=[]/\e.kids.length=2:=
 ⟨fun h=>by rcases h with h | h | h;exact absurd h.1 h1;exact absurd h.1 h2;exact h,fun h=>.inr (.inr h)⟩
def EBud (g:Nat) (e:Lx.Expr) (d c:Nat) (v:Value) (H':HP):Prop:=
 ∃ (b:Bool) (c':Int),v=Zo b/\H'=[(g,budO c')]/\(b=true->c'=((c+ecount e:Nat):Int))/\(b=true↔EOk e/\d+edepth e<=33/\c+ecount e<=4096)
theorem YiW {e:Lx.Expr} {d:Nat} {c':Int} (h:¬(EOk e/\d+edepth e<=33/\c+ecount e<=4096)):EBud g e d c (Zo false) [(g,budO c')]:=⟨false,c',rfl,rfl,(by simp),iff_of_false (by simp) h⟩
theorem Ykx {e:Lx.Expr} {d:Nat} (h:Yfy e) (hk:e.kids=[]) (ht:c+1<=4096/\d<=32):EBud g e d c (Zo true) [(g,budO (c+1:Nat))]:=by
 have h1:ecount e=1:=by rw [Yc0,hk];simp [ecountL]
 have h2:edepth e=1:=by rw [Yeh,hk];simp [edepthL]
 exact ⟨true,_,rfl,rfl,fun _=>by rw [h1],iff_of_true rfl ⟨YbQ.2 ⟨h,by rw [hk];simp⟩,by omega,by omega⟩⟩
theorem len0 {α:Type} {l:List α} {n:Nat} (h:l.length=n):(n:Int)=0↔l=[]:=by
 constructor
 ·intro h0;exact List.eq_nil_of_length_eq_zero Zi
 intro h0;subst h0;simp at h;omega
theorem YiL:∀ (s:Nat) {fz:FZ} {e:Lx.Expr} {va vk:Value} {g d c:Nat},SizeOf.sizeOf e<=s->ExprR fz e va vk->d<=33->c<=4096->
 GFn prog 250 [.agg #[Zy e.op,Zy e.name,Zk e.n,va,vk],Zk d,Zp g] fz [(g,budO c)] (fun v fz' H'=>Le fz fz'/\EBud g e d c v H')
 | 0,_,e,_,_,_,_,_,hs,_,_,_=>by cases e;simp at hs
 | s+1,fz,e,va,vk,g,d,c,hs,h,hd,hc=>by
  obtain ⟨⟨A,n,ca,rfl,ha⟩,⟨B,m,cb,rfl,hk⟩⟩:=h.sls;have no:∀ {c':Int},¬Yfy e->EBud g e d c (Zo false) [(g,budO c')]:=fun h0=>YiW (fun h1=>h0 (YbQ.1 h1.1).1)
  refine zF Tryz.func250 Tryz.ntmps250 (fun w0=>?_);refine pX (fun g0=>?_)
  first | refine Wp.perm (List.Perm.swap _ _ _) ?_ | refine Seq.perm (List.Perm.swap _ _ _) ?_
  refine zW ?_;refine Yc (Yj [_] [_] Zz (take_q (c:=c) Zi) (fun v fz2 H2 hle2 hR=>?_));obtain ⟨hle3,rfl,b,rfl,hb⟩:=hR;cases b
  ·refine zW ?_
   (exact ret1 rfl rfl Zb ⟨hle2,YiW (fun h0=>by
    have h1:=Yc0 e;have h2:=Yeh e;exact absurd (hb.2 ⟨by omega,by omega⟩) (by simp))⟩)
  have ht:=hb.1 rfl;refine wC (fun x1=>?_) (fun y1=>?_)
  ·have hn:=Ykt (e:=e) x1;refine zW ?_
   (((refine zC (fun n1=>?_) (fun n1=>?_));rotate_left 1;((refine zW ?_);(exact ret1 rfl rfl Zb ⟨hle2,no (fun h0=>n1 (hn.1 h0).1)⟩));(refine zW ?_)))
   (((refine zC (fun n2=>?_) (fun n2=>?_));rotate_left 1;((refine zW ?_);(exact ret1 rfl rfl Zb ⟨hle2,no (fun h0=>n2 ((len0 ha.len).2 (hn.1 h0).2.1))⟩));(refine zW ?_)))
   (((refine zC (fun n3=>?_) (fun n3=>?_));rotate_left 1;((refine zW ?_);(exact ret1 rfl rfl Zb ⟨hle2,no (fun h0=>n3 ((len0 hk.len).2 (hn.1 h0).2.2.1))⟩));(refine zW ?_)))
   (((refine zC (fun n4=>?_) (fun n4=>?_));rotate_left 1;((refine zW ?_);(exact ret1 rfl rfl Zb ⟨hle2,no (fun h0=>n4 (hn.1 h0).2.2.2.1)⟩));(refine zW ?_)))
   (((refine zC (fun n5=>?_) (fun n5=>?_));rotate_left 1;((refine zW ?_);(exact ret1 rfl rfl Zb ⟨hle2,no (fun h0=>n5 (hn.1 h0).2.2.2.2)⟩));(refine zW ?_)));exact wR (h:=by exact ⟨hle2,Ykx (hn.2 ⟨n1,(len0 ha.len).1 n2,(len0 hk.len).1 n3,n4,n5⟩) ((len0 hk.len).1 n3) ht⟩)
  refine wC (fun x2=>?_) (fun y2=>?_)
  ·have hn:=Yku (e:=e) x2;refine zW ?_
   (((refine zC (fun n1=>?_) (fun n1=>?_));rotate_left 1;((refine zW ?_);(exact ret1 rfl rfl Zb ⟨hle2,no (fun h0=>n1 (hn.1 h0).1)⟩));(refine zW ?_)))
   (((refine zC (fun n2=>?_) (fun n2=>?_));rotate_left 1;((refine zW ?_);(exact ret1 rfl rfl Zb ⟨hle2,no (fun h0=>n2 ((len0 hk.len).2 (hn.1 h0).2.1))⟩));(refine zW ?_)));refine zb (YaY h.name) (fun f1=>?_) (fun f1=>?_)
   ·refine wG ?_;refine XL (YcB (ha.mono hle2) (fun x hx=>Ypo hx)) (fun f2=>?_) (fun f2=>?_)
    ·refine zW ?_
     (exact ret1 rfl rfl Zb ⟨hle2,no (fun h0=>by
      obtain ⟨x,hx,hx2⟩:=Zt f2;exact hx2 ((hn.1 h0).2.2.2 x hx))⟩)
    exact wR (h:=by exact ⟨hle2,Ykx (hn.2 ⟨n1,(len0 hk.len).1 n2,Zt f1,fun x hx=>Classical.byContradiction fun h0=>Zf f2 ⟨x,hx,h0⟩⟩) ((len0 hk.len).1 n2) ht⟩)
   refine zW ?_;exact ret1 rfl rfl Zb ⟨hle2,no (fun h0=>Zf f1 (hn.1 h0).2.2.1)⟩
  refine zWO ?_;refine Wf ?_;refine YL (Y8 (fun σ fz' H'=>∃ b:Bool,σ=[(62,Zo b),(3,Zp g0),(2,Zp g),(1,Zk d)]/\fz2=fz'/\H'=[(g,budO (c+1:Nat)),(g0,Zu #[Zy e.op,Zy e.name,Zk e.n,Zc A n ca,Zc B m cb] 93)]/\(b=true↔BinP e.op)) ?_ ?_)
  ·refine wC ?_ ?_<;>intro p1
   ·exact wN (h:=by exact ⟨true,rfl,rfl,rfl,iff_of_true rfl (.inl p1)⟩)
   refine wC ?_ ?_<;>intro p2
   ·exact wN (h:=by exact ⟨true,rfl,rfl,rfl,iff_of_true rfl (.inr (.inl p2))⟩)
   refine wC ?_ ?_<;>intro p3
   ·exact wN (h:=by exact ⟨true,rfl,rfl,rfl,iff_of_true rfl (.inr (.inr p3))⟩)
   refine zW ?_;exact midN ⟨false,rfl,rfl,rfl,iff_of_false (by simp) (fun h0=>h0.elim p1 (fun h0=>h0.elim p2 p3))⟩ Zw Zb
  rintro σ fz' H' ⟨b,rfl,rfl,rfl,hbp⟩;have hn:=Ykv (e:=e) y1 y2;cases b
  ·refine zW ?_;exact ret1 rfl rfl Zb ⟨hle2,no (fun h0=>absurd (hbp.2 (hn.1 h0).1) (by simp))⟩
  have lk:=hk.len;refine zW ?_
  (((refine zC (fun n1=>?_) (fun n1=>?_));rotate_left 1;((refine zW ?_);(exact ret1 rfl rfl Zb ⟨hle2,no (fun h0=>n1 (hn.1 h0).2.1)⟩));(refine zW ?_)))
  (((refine zC (fun n2=>?_) (fun n2=>?_));rotate_left 1;((refine zW ?_);(exact ret1 rfl rfl Zb ⟨hle2,no (fun h0=>n2 (hn.1 h0).2.2.1)⟩));(refine zW ?_)))
  (((refine zC (fun n3=>?_) (fun n3=>?_));rotate_left 1;((refine zW ?_);(exact ret1 rfl rfl Zb ⟨hle2,no (fun h0=>n3 ((len0 ha.len).2 (hn.1 h0).2.2.2.1))⟩));(refine zW ?_)))
  (((refine zC (fun n4=>?_) (fun n4=>?_));rotate_left 1;((refine zW ?_);(exact ret1 rfl rfl Zb ⟨hle2,no (fun h0=>n4 (by have:=(hn.1 h0).2.2.2.2;omega))⟩));(refine zW ?_)));have hN:Yfy e:=hn.2 ⟨hbp.1 rfl,n1,n2,(len0 ha.len).1 n3,by omega⟩;obtain ⟨a,b,hab⟩:∃ a b,e.kids=[a,b]:=by
   match hK:e.kids,(show e.kids.length=2 by omega) with
   | [a,b],_=>exact ⟨a,b,rfl⟩
  have la:=Lx.Expr.kids_lt (x:=e) (k:=a) (by rw [hab];simp);have lb:=Lx.Expr.kids_lt (x:=e) (k:=b) (by rw [hab];simp);have hcnt:ecount e=1+(ecount a+ecount b):=by rw [Yc0,hab];simp [ecountL]
  have hdep:edepth e=1+max (edepth a) (edepth b):=by rw [Yeh,hab];simp [edepthL]
  have hall:EOk e↔EOk a/\EOk b:=by
   refine (YbQ (p:=Yfy) (e:=e)).trans ?_;rw [hab];simp only [List.mem_cons,List.not_mem_nil,or_false,forall_eq_or_imp,forall_eq];exact ⟨fun h0=>h0.2,fun h0=>⟨hN,h0⟩⟩
  have hk2:=hk.mono hle2
  ((refine zG ?_);refine Ya0 T 0 Zz Zz Zz Zz Zz Zz hk2 (by first | rfl | omega) (by rw [hab];rfl:e.kids[0]?=some a) (fun p hp=>?_));refine zL hp ?_;intro cs hcs;obtain ⟨wa,wk,rfl,hRa⟩:=YE hcs;refine zW ?_;refine WL (Yj [_] [_] Zz (YiL s (e:=a) (d:=d+1) (c:=c+1) Zi hRa Zi Zi) (fun v4 fz4 H4 hle4 hR4=>?_));obtain ⟨_,b1,c1,rfl,rfl,hc1,hb1⟩:=hR4;cases b1
  ·refine zW ?_;exact ret1 rfl rfl Zb ⟨hle2.trans hle4,YiW (fun h0=>absurd (hb1.2 ⟨(hall.1 h0.1).1,by omega,by omega⟩) (by simp))⟩
  have hc1:=hc1 rfl;have hb1:=hb1.1 rfl;subst hc1;refine zW ?_
  ((refine zG ?_);refine Ya0 T 1 Zz Zz Zz Zz Zz Zz (hk2.mono hle4) (by first | rfl | omega) (by rw [hab];rfl:e.kids[1]?=some b) (fun p2 hp2=>?_));refine zL hp2 ?_;intro cs2 hcs2;obtain ⟨za,zk,rfl,hRb⟩:=YE hcs2;refine zW ?_;refine WL (Yj [_] [_] Zz (YiL s (e:=b) (d:=d+1) (c:=c+1+ecount a) Zi hRb Zi Zi) (fun v5 fz5 H5 hle5 hR5=>?_));obtain ⟨_,b2,c2,rfl,rfl,hc2,hb2⟩:=hR5;cases b2
  ·refine zW ?_;exact ret1 rfl rfl Zb ⟨hle2.trans (hle4.trans hle5),YiW (fun h0=>absurd (hb2.2 ⟨(hall.1 h0.1).2,by omega,by omega⟩) (by simp))⟩
  have hc2:=hc2 rfl;have hb2:=hb2.1 rfl;subst hc2;refine zW ?_;exact ret1 rfl rfl Zb ⟨hle2.trans (hle4.trans hle5),true,_,rfl,rfl,fun _=>by omega,iff_of_true rfl ⟨hall.2 ⟨hb1.1,hb2.1⟩,by omega,by omega⟩⟩
theorem Ymz {e:Lx.Expr} {d:Nat} (h:ExprR fz e va vk) (hd:d<=33) (hc:c<=4096):
 GFn prog 250 [.agg #[Zy e.op,Zy e.name,Zk e.n,va,vk],Zk d,Zp g] fz [(g,budO c)] (fun v fz' H'=>Le fz fz'/\EBud g e d c v H'):=YiL _ (Zs _) h hd hc
end Go.Proofs.YtdbfccanbbbjkaaGreatDoor
