/- The texts QD, ShelfS, PGrowB, QSo, QSp, UK, UB, UD, UE, UF, QE, QF, QG, UG, UL, UM, UA, UC, QH, QI, QJ, QK, QM, UH, UI, PCE, PCP, laid together. Conditions: none. -/
import Derived.Test.YtiligkgjcmokbaaGreatDoorKSI
import Derived.Sort.Walk0
import Derived.Shelf.SlSortCmp.NoneTotal
set_option linter.all false
set_option maxHeartbeats 16000000
noncomputable section
set_option maxRecDepth 20000
open Go.Lx Go.RowKit
attribute [local instance 10] Classical.propDecidable
open Go.Proofs.Tryz (prog)
namespace Go.Proofs.YtiligkgjcmokbaaGreatDoor
variable {A:Option Addr} {c n:Nat} {fz:FZ}
section
set_option linter.unusedSectionVars false
variable [Dr]
def cmpS (a b:Bs):Int:=if ltB a b=true then -1 else if a=b then 0 else 1
def cmpL:List Bs->List Bs->Int
 | [],[]=>0
 | [],_::_=> -1
 | _::_,[]=>1
 | x::xs,y::ys=>if cmpS x y≠0 then cmpS x y else cmpL xs ys
def cmpA (a b:Atom):Int:=if cmpS a.name b.name≠0 then cmpS a.name b.name else cmpL a.args b.args
theorem Ymk (a b:Bs):I64 (cmpS a b):=by
 unfold cmpS I64;split
 ·omega
 split<;>omega
theorem Yml:∀ (a b:List Bs),I64 (cmpL a b)
 | [],[]=>by unfold cmpL I64;omega
 | [],_::_=>by unfold cmpL I64;omega
 | _::_,[]=>by unfold cmpL I64;omega
 | x::xs,y::ys=>by
  unfold cmpL;split
  ·exact Ymk x y
  exact Yml xs ys
variable {fz:FZ}
theorem nanS_q {a:Bs}:QFn prog 203 [Zy a] fz (Zo false):=by
 refine qF Tryz.func203 Tryz.ntmps203 (fun w0=>?_);refine zW ?_;intros;refine zC ?_ ?_<;>intro c1
 ·exact absurd rfl c1
 refine zW ?_;intros;exact zR (h:=rfl)
theorem cmpS_q {a b:Bs}:QFn prog 136 [Zy a,Zy b] fz (Zk (cmpS a b)):=by
 refine qF Tryz.func136 Tryz.ntmps136 (fun w0=>?_);refine zW ?_;intros;refine zc (nanS_q (a:=a)) ?_;refine zW ?_;intros;refine zc (nanS_q (a:=b)) ?_;refine zW ?_;intros;refine zG ?_;refine Yfq (fun h1=>?_) (fun h1=>?_)
 ·refine zW ?_;intros;exact zR (h:=by rw [cmpS,if_pos h1])
 refine zW ?_;intros;refine zG ?_;refine Yid (fun h2 h3=>?_) (fun h2=>?_)
 ·refine zW ?_;intros;exact zR (h:=by rw [cmpS,if_neg (by rw [h1];decide),if_neg h3])
 refine zW ?_;intros
 (exact ret1 rfl rfl Zb (by
  have h3:a=b:=h2.resolve_left (by rw [h1];decide);rw [cmpS,if_neg (by rw [h1];decide),if_pos h3]))
theorem YjF {l:List Bs}:cmpL [] l=if 0<l.length then -1 else 0:=by cases l<;>simp [cmpL]
variable {A B:Option Addr} {c n:Nat}
theorem cmpL_q {m b:Nat} {l l':List Bs} (ha:Sl strL fz A n c l) (hb:Sl strL fz B m b l'):QFn prog 71 [Zc A n c,Zc B m b] fz (Zk (cmpL l l')):=by
 have la:=ha.len;have lb:=hb.len;have sa:=ha.short;refine qF Tryz.func71 Tryz.ntmps71 (fun w0=>?_);refine zW ?_;intros;refine Yav n (fun k=>[(11,Zk k),(10,Zk n),(9,Zc A n c),(0,Zc A n c),(1,Zc B m b)]) [] (fun k=>k<=m/\cmpL (l.drop k) (l'.drop k)=cmpL l l') ⟨Z0 _,rfl⟩ ?_;intro k hk hh;obtain ⟨hkm,hcm⟩:=hh;refine zW ?_;intros;refine zC ?_ ?_<;>intro c1
 ·obtain ⟨x,hx⟩:=Ye (l:=l) (k:=k) Zi;have ex:l.drop k=x::l.drop (k+1):=by
   obtain ⟨h1,h2⟩:=Zg hx;rw [<- h2];exact List.drop_eq_getElem_cons h1
  refine zW ?_;intros;refine zI ha hx (fun p1 hp1=>?_);refine zH hp1 (fun hs1=>?_);refine zW ?_;intros;refine zC ?_ ?_<;>intro c2
  ·have ey:l'.drop k=[]:=List.drop_eq_nil_of_le Zi;rw [ex,ey] at hcm;refine zW ?_;intros;exact zR (h:=by rw [<- hcm];rfl)
  obtain ⟨y,hy⟩:=Ye (l:=l') (k:=k) Zi;have ey:l'.drop k=y::l'.drop (k+1):=by
   obtain ⟨h1,h2⟩:=Zg hy;rw [<- h2];exact List.drop_eq_getElem_cons h1
  rw [ex,ey] at hcm;refine zW ?_;intros;refine zI hb hy (fun p2 hp2=>?_);refine zH hp2 (fun hs2=>?_);refine zW ?_;intros;refine zc (cmpS_q (a:=x) (b:=y)) ?_;refine zW ?_;intros;refine zC ?_ ?_<;>intro c3
  ·refine zW ?_;intros;exact zR (h:=by rw [<- hcm,cmpL,if_pos c3])
  refine zW ?_;intros;refine Wj ⟨k+1,by omega,rfl,rfl,rfl,rfl,by omega,?_⟩ Zi Zw Zb;rw [<- hcm,cmpL,if_neg Zi]
 have hk2:k=n:=by omega
 subst hk2;rw [List.drop_eq_nil_of_le Zi,YjF,List.length_drop] at hcm;refine zW ?_;intros;refine zC ?_ ?_<;>intro c2
 ·rw [if_pos Zi] at hcm;refine zW ?_;intros;exact zR (h:=by rw [<- hcm])
 rw [if_neg Zi] at hcm;refine zW ?_;intros;exact zR (h:=by rw [<- hcm])
variable {g:Nat} {t:TypeId}
theorem or_f {x y:Int} (hx:I64 x) (hy:I64 y) (hc:2<=c/\c<=9223372036854775807):
 GFn prog 70 [Zv g 2 c] fz [(g,Zu #[Zk x,Zk y] t)] (fun r fz' H'=>H'=[]/\r=Zk (if x≠0 then x else y)):=by
 refine zF Tryz.func70 Tryz.ntmps70 (fun w0=>?_);refine Wp.freezeAll (H1:=[]) (Zr _) (fun fz1 hle1 hf1=>?_);have h:Sl intL fz1 (some ⟨g,0,none⟩) 2 c [x,y]:=by
  refine ⟨rfl,hc.1,hc.2,by decide,.inr ⟨_,rfl,fun i d hd=>?_⟩⟩;have hg:=hf1 _ (List.mem_singleton.2 rfl)
  match i,hd with
  | 0,hd=>
   simp at hd;subst hd;exact ⟨_,⟨rfl,hx⟩,fun j v hv=>by
    match j,hv with
    | 0,hv=>simp at hv;subst hv;simp [YcG,Addr.add,hg]
    | j+1,hv=>simp at hv⟩
  | 1,hd=>
   simp at hd;subst hd;exact ⟨_,⟨rfl,hy⟩,fun j v hv=>by
    match j,hv with
    | 0,hv=>simp at hv;subst hv;simp [YcG,Addr.add,hg,intL]
    | j+1,hv=>simp at hv⟩
  | i+2,hd=>simp at hd
 refine zW ?_;intros;refine Yi (fun q σ fz2 H'=>∃ k:Nat,k<=2/\q=2 - k/\σ=[(8,Zk k),(7,Zk 2),(6,Zv g 2 c),(3,Zk 0)]/\fz1=fz2/\H'=[]/\(1<=k->x=0)/\(2<=k->y=0)) ⟨0,Z0 _,rfl,rfl,rfl,rfl,by omega,by omega⟩ Zw Zb ?_;rintro q σ fz' H' ⟨k,hk,rfl,rfl,rfl,rfl,h1,h2⟩;refine zW ?_;intros;refine zC ?_ ?_<;>intro c1
 ·obtain ⟨z,hz⟩:=Ye (l:=[x,y]) (k:=k) (by simp;omega);refine zW ?_;intros;refine zI h hz (fun p1 hp1=>?_)
  ((refine zG ?_);refine Xz T Zz Zz Zz hp1 (fun hi1=>?_));refine zW ?_;intros;refine zC ?_ ?_<;>intro c2
  ·refine zW ?_;intros;refine ret1 rfl rfl Zb ⟨rfl,?_⟩
   match k,hz,h1 with
   | 0,hz,_=>simp at hz;subst hz;rw [if_pos c2]
   | 1,hz,h1=>simp at hz;subst hz;rw [if_neg (by rw [h1 (Zs _)];decide)]
   | k+2,hz,_=>simp at hz
  refine zW ?_;intros;refine Wj ⟨k+1,by omega,rfl,rfl,rfl,rfl,?_,?_⟩ Zi Zw Zb
  ·intro _
   match k,hz,h1 with
   | 0,hz,_=>simp at hz;omega
   | k+1,hz,h1=>exact h1 Zi
  intro hk3;have:k=1:=by omega
  subst this;simp at hz;omega
 refine zW ?_;intros;refine ret1 rfl rfl Zb ⟨rfl,?_⟩;rw [if_neg (by rw [h1 Zi];decide),h2 Zi]
end
theorem Ye6 {l:List Bs} (h:Sl strL fz A n c l) (hn:n<=1000000000):
 GFn prog 55 [Zc A n c] fz [] (fun v fz' H'=>Grow strL 9 fz' v n H' l):=by
 have l1:=h.len;refine zF Tryz.func55 Tryz.ntmps55 (fun w0=>?_);refine zV ?_;intros;refine zG ?_;refine WI (fun eA=>?_) (fun eA=>?_)
 ·subst eA;have hl:l=[]:=by
   rcases h.elem with h0 | ⟨_,h0,_⟩
   ·exact List.eq_nil_of_length_eq_zero Zi
   cases h0
  subst hl;simp at l1;subst l1;refine zV ?_;intros;refine Yel (H':=[]) (H2:=[]) rfl rfl (Zr _) (fun fz3 hle3 _=>Grow.nil _ _ _)
 refine zV ?_;intros;refine Ya (W7 (fun gb=>?_));refine zV ?_;intros;refine Ya (WZ T (Hr:=[]) (n:=0) (l:=[]) Zz Zz Zz Zz Zz Zz Zz Zz (Zr _) (Grow.block (ys:=[]) rfl rfl (by intro p hp;cases hp) rfl) YgJ h (by show _*16<=_;omega) Zi (fun v' Hs' hO'=>?_));obtain ⟨Av',cv',rfl,_,_⟩:=hO'.form;refine zV ?_;intros;refine Yel (H':=Hs') (H2:=[]) rfl rfl (by simp) (fun fz3 hle3 _=>(hO'.mono hle3).of (by simp) Zi)
end Go.Proofs.YtiligkgjcmokbaaGreatDoor
namespace Go.Proofs
open Go.Shelf
def YfU:Go.Shelf.Ren:=⟨fun | 6=>65 | 15=>135 | 14=>134 | 28=>201 | 29=>202 | 20=>193 | 21=>194 | 22=>195 | 23=>196 | 24=>197 | 25=>198 | 26=>199 | 27=>200 | 46=>254 | 47=>255 | 48=>256 | 49=>257 | 50=>258 | 57=>290 | n=>n,fun | 22=>29 | 24=>77 | 25=>82 | 3=>3 | 39=>200 | 0=>0 | 53=>265 | 55=>267 | 4=>4 | 46=>258 | 45=>257 | 50=>262 | 5=>5 | 9=>9 | 66=>314 | 70=>209 | 76=>341 | 77=>342 | n=>n,fun | n=>n⟩
theorem Yfa:Go.Proofs.SlLaysF0.n6 Tryz.prog YfU:={
 mixed:=by kernel_rfl
 f6:=⟨Tryz.f65.name,by decide,Tryz.func65.trans (congrArg some (by kernel_rfl))⟩
 f14:=⟨Tryz.f134.name,by decide,Tryz.func134.trans (congrArg some (by kernel_rfl))⟩
 f15:=Tryz.func135.trans (congrArg some (by kernel_rfl))
 f20:=⟨Tryz.f193.name,by decide,Tryz.func193.trans (congrArg some (by kernel_rfl))⟩
 f21:=⟨Tryz.f194.name,by decide,Tryz.func194.trans (congrArg some (by kernel_rfl))⟩
 f22:=⟨Tryz.f195.name,by decide,Tryz.func195.trans (congrArg some (by kernel_rfl))⟩
 f23:=⟨Tryz.f196.name,by decide,Tryz.func196.trans (congrArg some (by kernel_rfl))⟩
 f24:=⟨Tryz.f197.name,by decide,Tryz.func197.trans (congrArg some (by kernel_rfl))⟩
 f25:=⟨Tryz.f198.name,by decide,Tryz.func198.trans (congrArg some (by kernel_rfl))⟩
 f26:=⟨Tryz.f199.name,by decide,Tryz.func199.trans (congrArg some (by kernel_rfl))⟩
 f27:=⟨Tryz.f200.name,by decide,Tryz.func200.trans (congrArg some (by kernel_rfl))⟩
 f28:=Tryz.func201.trans (congrArg some (by kernel_rfl))
 f29:=Tryz.func202.trans (congrArg some (by kernel_rfl))
 f46:=⟨Tryz.f254.name,by decide,Tryz.func254.trans (congrArg some (by kernel_rfl))⟩
 f47:=Tryz.func255.trans (congrArg some (by kernel_rfl))
 f48:=Tryz.func256.trans (congrArg some (by kernel_rfl))
 f49:=⟨Tryz.f257.name,by decide,Tryz.func257.trans (congrArg some (by kernel_rfl))⟩
 f50:=⟨Tryz.f258.name,by decide,Tryz.func258.trans (congrArg some (by kernel_rfl))⟩
 f57:=⟨Tryz.f290.name,by decide,Tryz.func290.trans (congrArg some (by kernel_rfl))⟩
 t0:=Tryz.underlying0
 a0:=Tryz.isAgg0
 z0:=Tryz.sizeOf0
 v0:=Tryz.zeroValue0
 t3:=Tryz.underlying3
 a3:=Tryz.isAgg3
 z3:=Tryz.sizeOf3
 v3:=Tryz.zeroValue3
 t4:=Tryz.underlying4
 a4:=Tryz.isAgg4
 z4:=Tryz.sizeOf4
 v4:=Tryz.zeroValue4
 t5:=Tryz.underlying5
 a5:=Tryz.isAgg5
 z5:=Tryz.sizeOf5
 v5:=Tryz.zeroValue5
 t9:=Tryz.underlying9
 a9:=Tryz.isAgg9
 z9:=Tryz.sizeOf9
 v9:=Tryz.zeroValue9
 t22:=Tryz.underlying29
 a22:=Tryz.isAgg29
 z22:=Tryz.sizeOf29
 v22:=Tryz.zeroValue29
 t25:=Tryz.underlying82
 a25:=Tryz.isAgg82
 z25:=Tryz.sizeOf82
 v25:=Tryz.zeroValue82
 t39:=Tryz.underlying200
 a39:=Tryz.isAgg200
 z39:=Tryz.sizeOf200
 v39:=Tryz.zeroValue200
 t45:=Tryz.underlying257
 a45:=Tryz.isAgg257
 z45:=Tryz.sizeOf257
 v45:=Tryz.zeroValue257
 t46:=Tryz.underlying258
 a46:=Tryz.isAgg258
 z46:=Tryz.sizeOf258
 v46:=Tryz.zeroValue258
 t50:=Tryz.underlying262
 a50:=Tryz.isAgg262
 z50:=Tryz.sizeOf262
 v50:=Tryz.zeroValue262
 t53:=Tryz.underlying265
 a53:=Tryz.isAgg265
 z53:=Tryz.sizeOf265
 v53:=Tryz.zeroValue265
 t55:=Tryz.underlying267
 a55:=Tryz.isAgg267
 z55:=Tryz.sizeOf267
 v55:=Tryz.zeroValue267
 t66:=Tryz.underlying314
 a66:=Tryz.isAgg314
 z66:=Tryz.sizeOf314
 v66:=Tryz.zeroValue314
 t70:=Tryz.underlying209
 a70:=Tryz.isAgg209
 z70:=Tryz.sizeOf209
 v70:=Tryz.zeroValue209
 t76:=Tryz.underlying341
 a76:=Tryz.isAgg341
 z76:=Tryz.sizeOf341
 v76:=Tryz.zeroValue341
 t77:=Tryz.underlying342
 a77:=Tryz.isAgg342
 z77:=Tryz.sizeOf342
 v77:=Tryz.zeroValue342}
end Go.Proofs
namespace Go.Lx
open Go.RowKit
variable {α:Type} {Hs:HP} {fz fz':FZ} {n g:Nat} {v:Value} {L:Lay α}
theorem Yjp {α:Type} {z:Nat} {d:α × List Value} (hd:d.2.length=z):∀ {xs:List (α × List Value)} {i:Nat},(∀ p∈xs,p.2.length=z)->i<xs.length->
 (xs.flatMap Prod.snd).take (i*z)++d.2++(xs.flatMap Prod.snd).drop (i*z+z)=(xs.set i d).flatMap Prod.snd
 | [],i,_,hi=>by simp at hi
 | x::r,0,h,_=>by
  have hx:=h x (by simp);simp only [List.flatMap_cons,Nat.zero_mul,List.take_zero,List.nil_append,Nat.zero_add,List.set_cons_zero];rw [<- hx,List.drop_left]
 | x::r,i+1,h,hi=>by
  have hx:=h x (by simp);have ih:=Yjp hd (xs:=r) (i:=i) (fun p hp=>h p (by simp [hp])) (by simpa using hi);simp only [List.flatMap_cons,List.set_cons_succ];rw [<- ih,Nat.succ_mul];have e1:i*z+z=x.2.length+i*z:=by omega
  have e2:i*z+z+z=x.2.length+(i*z+z):=by omega
  rw [e2,List.drop_append,e1,List.take_append];simp only [Zl (show x.2.length<=x.2.length+i*z by omega),Nat.add_sub_cancel_left,List.append_assoc];have e3:List.drop (x.2.length+(x.2.length+i*z)) x.2=[]:=List.drop_eq_nil_of_le Zi;simp [e3]
structure GrowB {α:Type} (L:Lay α) (e:Nat) (fz:FZ) (g n cap:Nat) (cur:List Value) (l:List α):Prop where
 pairs:∃ xs:List (α × List Value),xs.map Prod.fst=l/\(∀ p∈xs,L.rep fz p.1 p.2)/\cur.take (n*L.size)=xs.flatMap Prod.snd
 len:l.length=n
 capn:n<=cap
 max:cap<=maxLen
 size:cur.length=cap*L.size
theorem Grow.b {e:Nat} {l:List α} (hg:Grow L e fz v n Hs l) (hn:0<n):∃ g cap cur,v=Zv g n cap/\Hs=[(g,.cells (List.toArray cur) e (0,0))]/\GrowB L e fz g n cap cur l:=by
 obtain ⟨xs,h1,h2,h3,h4⟩:=hg;rcases h4.2 with ⟨_,h0,_⟩ | ⟨g,cap,cur,h5,h6,h7,h8,h9,h10⟩
 ·omega
 exact ⟨g,cap,cur.toList,h5,by rw [h6],⟨xs,h1,h2,h10⟩,h3,h7,h8,by simpa using h9⟩
theorem GrowB.grow {e:Nat} {cap:Nat} {cur:List Value} {l:List α} (h:GrowB L e fz g n cap cur l):Grow L e fz (Zv g n cap) n [(g,.cells (List.toArray cur) e (0,0))] l:=by
 obtain ⟨xs,h1,h2,h3⟩:=h.pairs;have hl:xs.length=n:=by have:=h.len;rw [<- h1,List.length_map] at this;exact this
 exact ⟨xs,h1,h2,h.len,by rw [Ya1 (fun p hp=>L.len (h2 p hp)),hl],.inr ⟨g,cap,cur.toArray,rfl,rfl,h.capn,h.max,by simpa using h.size,by simpa using h3⟩⟩
theorem GrowB.mono {e:Nat} (hle:Le fz fz') {cap:Nat} {cur:List Value} {l:List α} (h:GrowB L e fz g n cap cur l):GrowB L e fz' g n cap cur l:=by
 obtain ⟨xs,h1,h2,h3⟩:=h.pairs;exact ⟨⟨xs,h1,fun p hp=>L.mono hle (h2 p hp),h3⟩,h.len,h.capn,h.max,h.size⟩
section
variable {P:Program} {cx:Cx} {r:Operand->Option Value} {fz:FZ} {H:HP} {V:Value->Prop} {dst:Option Nat} {ty:TypeId} {pos:String} {af:Array Edge} {gd:Option (Nat × Bool)}
theorem Yq {t e:TypeId} {x i:Operand} {X Y:Ty} {g n c z:Nat} {k:IntKind} {j:Int}
 (hs:Y.size=z) (h:V (.pointer (some ⟨g,j.toNat*z,none⟩))) (T:Tab P:=by exact T) (hT:T.inf t=some X:=by exact rfl) (hd:X.desc=.slice e:=by exact rfl) (hY:T.inf e=some Y:=by exact rfl) (hx:r x=some (Zv g n c):=by exact rfl) (hi:r i=some (.int k j):=by exact rfl) (h0:0<=j:=by omega) (hn:j<n:=by omega):DoesQ P cx ⟨dst,.indexAddr t x i,ty,pos,af,gd⟩ r fz H V:=by
  refine YcV T hT hd hY hx hi h0 hn ?_;have hadd:(⟨g,0,none⟩:Addr).add (j.toNat*Y.size)=⟨g,j.toNat*z,none⟩:=by rw [hs];unfold Addr.add;split<;>simp_all
  rw [hadd];exact h
theorem YI {t t':TypeId} {x y:Operand} {X:Ty} {pre post:HP} {g j n cap:Nat} {v:Value} {cs cur:List Value} {α:Type} {L:Lay α} {l:List α} {d:α} {K:Value->FZ->HP->Prop}
 (hH:H=pre++(g,.cells cur.toArray t' (0,0))::post) (hv:v.cells=cs.toArray) (h1:OneC L) (hr:L.rep fz d cs) (hb:GrowB L t' fz g n cap cur l)
  (h:∀ cur',GrowB L t' fz g n cap cur' (l.set j d)->K undef fz (pre++(g,.cells cur'.toArray t' (0,0))::post)) (T:Tab P:=by exact T) (hT:T.inf t=some X:=by exact rfl) (hx:r x=some (.pointer (some ⟨g,j*L.size,none⟩)):=by exact rfl) (hy:r y=some v:=by exact rfl) (hs:X.size=L.size:=by exact rfl) (hj:j<n:=by omega):Does P cx ⟨dst,.store t x y,ty,pos,af,gd⟩ r fz H K:=by
  refine Does.of fun ρ w hrd hw=>?_
  subst hH;have hcs:=L.len hr;have hgb:=(hw.hp.own (g,.cells cur.toArray t' (0,0)) (by simp)).1;obtain ⟨xs,e1,e2,e3⟩:=hb.pairs;have hxl:xs.length=n:=by have:=hb.len;rw [<- e1,List.length_map] at this;exact this
  have hsz:=hb.size;have hcap:=hb.capn;have hjn:j*L.size+L.size<=n*L.size:=by rw [<- Nat.succ_mul];exact Nat.mul_le_mul_right _ hj
  have hnc:n*L.size<=cap*L.size:=Nat.mul_le_mul_right _ hcap;have hle:j*L.size+0+cs.length<=cur.toArray.size:=by simp;omega
  have hst:=run_storeCells_at (P:=P) g (j*L.size) t' cs 0 cur.toArray w hgb hle (fun u hu=>h1 _ _ _ hr u hu);simp only [Nat.add_zero] at hst;have hz:=run_sizeOf T hT w;rw [hs,<- hcs] at hz;have hvl:v.cells.toList=cs:=by rw [hv]
  have:(execOp ρ ⟨dst,.store t x y,ty,pos,af,gd⟩).run P w=.ok .skip (w.setRow g (cur.take (j*L.size)++cs++cur.drop (j*L.size+cs.length)).toArray):=by
   simp only [execOp,hrd _ _ hx,hrd _ _ hy,Instr.storeAt,Instr.sureAddr,Sem.run_bind,Sem.run_pure,Result.andThen_ok,storeVar,hz,hvl];simp [hst,hv]
  rw [this];have hflat:(xs.flatMap Prod.snd).length=n*L.size:=by rw [Ya1 (fun p hp=>L.len (e2 p hp)),hxl]
  have hcur:cur=xs.flatMap Prod.snd++cur.drop (n*L.size):=by rw [<- e3,List.take_append_drop]
  have hnew:(cur.take (j*L.size)++cs++cur.drop (j*L.size+cs.length)).take (n*L.size)=(xs.set j (d,cs)).flatMap Prod.snd:=by
   rw [<- Yjp (z:=L.size) (d:=(d,cs)) hcs (fun p hp=>L.len (e2 p hp)) Zi,hcs];generalize hf:xs.flatMap Prod.snd=fl at*;generalize hT':cur.drop (n*L.size)=tl at*;subst hcur;have a1:(fl++tl).take (j*L.size)=fl.take (j*L.size):=List.take_append_of_le_length Zi;have a2:(fl++tl).drop (j*L.size+L.size)=fl.drop (j*L.size+L.size)++tl:=List.drop_append_of_le_length Zi;rw [a1,a2,<- List.append_assoc,List.take_append_of_le_length (by simp only [List.length_append,List.length_take,List.length_drop];omega),Zl (by simp only [List.length_append,List.length_take,List.length_drop];omega)]
  refine ⟨fz,_,hw.write (o':=.cells (cur.take (j*L.size)++cs++cur.drop (j*L.size+cs.length)).toArray t' (0,0)) rfl rfl rfl (by simp) ?_ (fun k hk=>?_),h _ ⟨⟨xs.set j (d,cs),?_,fun p hp=>?_,hnew⟩,by rw [List.length_set];exact hb.len,hcap,hb.max,?_⟩⟩
  ·simp [World.setRow,Array.getElem?_modify,hgb]
  ·simp only [World.setRow,Array.getElem?_modify];rw [if_neg Zi]
  ·rw [<- e1,List.map_set]
  ·rcases List.mem_or_eq_of_mem_set hp with hp | rfl
   ·exact e2 p hp
   exact hr
  simp only [List.length_append,List.length_take,List.length_drop];omega
end
end Go.Lx
namespace Go.Proofs.YtiligkgjcmokbaaGreatDoor
variable {α β:Type} {w' w:World} {g k i:Nat} {t:TypeId}
structure OrdC {α:Type} (C:α->α->Int):Prop where
 refl:∀ x,C x x=0
 anti:∀ x y,C x y<0↔0<C y x
 eq0:∀ x y,C x y=0->x=y
 trans:∀ x y z,C x y<0->C y z<0->C x z<0
theorem Ynf {a b:Bs} (h:a.toList=b.toList):a=b:=by
 rw [ByteArray.toList_eq,ByteArray.toList_eq] at h;have h1:a.data=a.data.toList.toArray:=by simp
 have h2:b.data=b.data.toList.toArray:=by simp
 exact ByteArray.ext (by rw [h1,h2,h])
theorem Yc0 (a b:Bs):ltB a b=true↔a.toList<b.toList:=by
 unfold ltB;rw [Go.Proofs.bytesLess_eq];exact decide_eq_true_iff
theorem ordS:OrdC cmpS where
 refl x:=by
  unfold cmpS;rw [if_neg (fun h=>List.lt_irrefl _ ((Yc0 x x).1 h)),if_pos rfl]
 anti x y:=by
  unfold cmpS;by_cases h1:ltB x y=true
  ·have h2:¬ltB y x=true:=fun h=>List.not_lt.2 (List.le_of_lt ((Yc0 _ _).1 h1)) ((Yc0 _ _).1 h)
   have h3:¬y=x:=fun e=>by subst e;exact h2 h1
   rw [if_pos h1,if_neg h2,if_neg h3];decide
  by_cases h2:ltB y x=true
  ·have h3:¬x=y:=fun e=>by subst e;exact h1 h2
   rw [if_neg h1,if_neg h3,if_pos h2];decide
  have h3:x=y:=Ynf (List.le_antisymm (List.not_lt.1 (fun h=>h2 ((Yc0 _ _).2 h))) (List.not_lt.1 (fun h=>h1 ((Yc0 _ _).2 h))));rw [if_neg h1,if_neg h2,if_pos h3,if_pos h3.symm];try decide
 eq0 x y h:=by
  unfold cmpS at h;split at h
  ·cases h
  split at h
  ·assumption
  cases h
 trans x y z h1 h2:=by
  have k:∀ a b,cmpS a b<0->ltB a b=true:=fun a b h=>by
   unfold cmpS at h;split at h
   ·assumption
   split at h
   ·exact absurd h Zh
   exact absurd h Zh
  unfold cmpS;rw [if_pos ((Yc0 _ _).2 (List.lt_trans ((Yc0 _ _).1 (k x y h1)) ((Yc0 _ _).1 (k y z h2))))];decide
theorem Ykv:∀ x:List Bs,cmpL x x=0
 | []=>rfl
 | a::r=>by rw [cmpL,if_neg (by rw [ordS.refl];decide)];exact Ykv r
theorem Ykw:∀ x y:List Bs,cmpL x y<0↔0<cmpL y x
 | [],[]=>by simp [cmpL]
 | [],_::_=>by simp [cmpL]
 | _::_,[]=>by simp [cmpL]
 | a::r,b::s=>by
  rw [cmpL,cmpL];by_cases h:cmpS a b=0
  ·have e:=ordS.eq0 a b h;subst e;rw [if_neg (by rw [h];decide),if_neg (by rw [h];decide)];exact Ykw r s
  have h2:cmpS b a≠0:=fun h2=>h (by rw [ordS.eq0 b a h2];exact ordS.refl a)
  rw [if_pos h,if_pos h2];exact ordS.anti a b
theorem Ym3:∀ x y:List Bs,cmpL x y=0->x=y
 | [],[],_=>rfl
 | [],_::_,h=>by simp [cmpL] at h
 | _::_,[],h=>by simp [cmpL] at h
 | a::r,b::s,h=>by
  rw [cmpL] at h;by_cases h0:cmpS a b=0
  ·rw [if_neg (by rw [h0];decide)] at h;rw [ordS.eq0 a b h0,Ym3 r s h]
  rw [if_pos h0] at h;exact absurd h h0
theorem Yih:∀ x y z:List Bs,cmpL x y<0->cmpL y z<0->cmpL x z<0
 | [],_,[],h1,h2=>by
  rename_i y;cases y<;>simp [cmpL] at h1 h2
 | [],_,_::_,_,_=>by simp [cmpL]
 | _::_,[],_,h1,_=>by simp [cmpL] at h1
 | _::_,_::_,[],_,h2=>by simp [cmpL] at h2
 | a::r,b::s,c::t,h1,h2=>by
  rw [cmpL] at h1 h2 ⊢;by_cases e1:cmpS a b=0
  ·have:=ordS.eq0 a b e1;subst this;rw [if_neg (by rw [e1];decide)] at h1;by_cases e2:cmpS a c=0
   ·rw [if_neg (by rw [e2];decide)] at h2;rw [if_neg (by rw [e2];decide)];exact Yih r s t h1 h2
   rw [if_pos e2] at h2;rw [if_pos e2];exact h2
  rw [if_pos e1] at h1;by_cases e2:cmpS b c=0
  ·have:=ordS.eq0 b c e2;subst this;rw [if_pos e1];exact h1
  rw [if_pos e2] at h2;have h3:=ordS.trans a b c h1 h2;rw [if_pos Zi];exact h3
theorem ordA:OrdC cmpA where
 refl x:=by unfold cmpA;rw [if_neg (by rw [ordS.refl];decide)];exact Ykv _
 anti x y:=by
  unfold cmpA;by_cases h:cmpS x.name y.name=0
  ·have h2:cmpS y.name x.name=0:=by rw [ordS.eq0 _ _ h];exact ordS.refl _
   rw [if_neg (by rw [h];decide),if_neg (by rw [h2];decide)];exact Ykw _ _
  have h2:cmpS y.name x.name≠0:=fun h2=>h (by rw [ordS.eq0 _ _ h2];exact ordS.refl _)
  rw [if_pos h,if_pos h2];exact ordS.anti _ _
 eq0 x y h:=by
  unfold cmpA at h;by_cases h0:cmpS x.name y.name=0
  ·rw [if_neg (by rw [h0];decide)] at h;have e1:=ordS.eq0 _ _ h0;have e2:=Ym3 _ _ h;cases x;cases y;simp only at e1 e2;rw [e1,e2]
  rw [if_pos h0] at h;exact absurd h h0
 trans x y z h1 h2:=by
  unfold cmpA at h1 h2 ⊢;by_cases e1:cmpS x.name y.name=0
  ·rw [if_neg (by rw [e1];decide)] at h1;have e:=ordS.eq0 _ _ e1;rw [e];by_cases e2:cmpS y.name z.name=0
   ·rw [if_neg (by rw [e2];decide)] at h2;rw [if_neg (by rw [e2];decide)];exact Yih _ _ _ h1 h2
   rw [if_pos e2] at h2;rw [if_pos e2];exact h2
  rw [if_pos e1] at h1;by_cases e2:cmpS y.name z.name=0
  ·have e:=ordS.eq0 _ _ e2;rw [<- e,if_pos e1];exact h1
  rw [if_pos e2] at h2;have h3:=ordS.trans _ _ _ h1 h2;rw [if_pos Zi];exact h3
theorem OrdC.swo {C:α->α->Int} (h:OrdC C) (f:β->α):Go.Sort.SWO (ltOf fun x y=>C (f x) (f y)) where
 irrefl x:=by unfold ltOf;exact decide_eq_false (by show ¬C (f x) (f x)<0;rw [h.refl];decide)
 trans x y z h1 h2:=by
  unfold ltOf at h1 h2 ⊢;exact decide_eq_true (h.trans _ _ _ (Zt h1) (Zt h2))
 ntrans x y z h1 h2:=by
  unfold ltOf at h1 h2 ⊢;have k1:¬C (f x) (f y)<0:=Zf h1;have k2:¬C (f y) (f z)<0:=Zf h2;refine decide_eq_false fun k3=>?_
  have k3:C (f x) (f z)<0:=k3;have a1:=(h.anti (f x) (f z)).1 k3;by_cases e1:C (f x) (f y)=0
  ·rw [<- h.eq0 _ _ e1] at k2;exact k2 k3
  by_cases e2:C (f y) (f z)=0
  ·rw [h.eq0 _ _ e2] at k1;exact k1 k3
  have b1:C (f y) (f x)<0:=(h.anti _ _).2 Zi;have b2:C (f z) (f y)<0:=(h.anti _ _).2 Zi;have:=h.trans _ _ _ b2 b1;omega
@[reducible] def drT:Dr:=⟨True⟩
theorem YnM {W:World} (h: @Fr drT [] W w'):∃ q os',w'=Go.Sort.grow (W.drewN q) os':=by
 refine ⟨w'.drawn - W.drawn,w'.heap.extract W.heap.size w'.heap.size,?_⟩;obtain ⟨h1,h2,h3,h4,h5,h6⟩:=h;obtain ⟨a1,a2,a3,a4,a5⟩:=w';obtain ⟨b1,b2,b3,b4,b5⟩:=W;replace h6:=h6 trivial;simp only at h1 h2 h3 h4 h5 h6;subst h1;subst h2;subst h3;unfold Go.Sort.grow World.drewN;simp only
 congr 1
 ·refine Array.ext_getElem? fun i=>?_
  by_cases hi:i<b1.size
  ·rw [Array.getElem?_append_left hi];exact h5 i hi (by simp)
  rw [Array.getElem?_append_right Zi];by_cases hj:i<a1.size
  ·rw [Array.getElem?_extract,if_pos Zi]
   congr 1;omega
  rw [Array.getElem?_eq_none Zi,Array.getElem?_eq_none (by simp;omega)]
 omega
theorem YlB [Inhabited α] {enc:α->List Value} {m b:Nat} {dk:Array α} {os:Array Obj} (hb:b<w.heap.size) (hg:b≠g):(sortWorldK enc k w g 0 m dk os).heap[b]?=w.heap[b]?:=by
 unfold sortWorldK Go.Sort.grow Go.Sort.putRowK Go.Sort.putRow Go.Sort.mapBlock Go.Sort.ahead;simp only;rw [Array.getElem?_append_left (by simpa using hb),Array.getElem?_modify,if_neg (fun h=>hg h.symm)]
def Ymv (l:List Atom):Prop:=∀ (i j:Nat) (a b:Atom),i<j->l[i]?=some a->l[j]?=some b->¬cmpA b a<0
theorem list_get! [Inhabited α] {l:List α} {x:α} (h:l[i]?=some x):l.toArray[i]! =x:=by
 obtain ⟨h1,h2⟩:=Zg h;rw [getElem!_pos l.toArray i (by simpa using h1)];simpa using h2
theorem YpO [Inhabited α] {l:List α} {x:α} (h:l[i]?=some x):l[i]! =x:=by
 obtain ⟨h1,h2⟩:=Zg h;rw [getElem!_pos l i h1];exact h2
theorem YnG:OneC atomL:=by
 intro fz d cs h u hu;obtain ⟨va,rfl,hR⟩:=XA h;obtain ⟨A,n,c,rfl,_⟩:=hR.args;rcases List.mem_cons.1 hu with rfl | hu
 ·rfl
 rw [List.mem_singleton] at hu;subst hu;rfl
theorem YoS [Inhabited α] {enc:α->List Value} {m:Nat} {dk:Array α} {os:Array Obj} {cs:Array Value} (hg:w.heap[g]?=some (Zu cs t)):(sortWorldK enc k w g 0 m dk os).heap[g]?=some (Zu (Go.Sort.putCells id 0 (Go.Sort.flatK enc k dk) cs) t):=by
 unfold sortWorldK Go.Sort.grow Go.Sort.putRowK Go.Sort.putRow Go.Sort.mapBlock Go.Sort.ahead;simp only;rw [Array.getElem?_append_left (by simpa using lt_of_heap hg),Array.getElem?_modify,if_pos rfl,hg];rfl
end Go.Proofs.YtiligkgjcmokbaaGreatDoor
namespace Go.Proofs.YtiligkgjcmokbaaGreatDoor
variable {α:Type} {fz:FZ} {g n:Nat} {t:TypeId} {L:Lay α}
def YjQ {α:Type} (C:α->α->Int) (l:List α):Prop:=∀ (i j:Nat) (a b:α),i<j->l[i]?=some a->l[j]?=some b->¬C b a<0
theorem sortG {ρ:Go.Shelf.Ren} (Ly:Go.Proofs.SlLaysF0.n6 prog ρ) {f6:FuncId} (hf6:ρ.f 6=f6) (hca:Ya4 prog f6) (hone:OneC L) {z:Nat} (hz:L.size=z) (hz0:0<z) (hag:∀ W,(isAgg (ρ.t 24)).run prog W=.ok true W) (hsi:∀ W,(Go.sizeOf (ρ.t 24)).run prog W=.ok z W)
 {C:α->α->Int} (hsw:∀ {β:Type} (f:β->α),Go.Sort.SWO (ltOf fun x y=>C (f x) (f y))) {fc:FuncId} (hen:∀ args w,(callFunc fc args).run prog w=.ok (.enter fc args) w)
 (hcf:∀ {fz:FZ} {a b:α} {ca cb:List Value},L.rep fz a ca->L.rep fz b cb->@GFn drT prog fc [.agg ca.toArray,.agg cb.toArray] fz [] (fun r fz' H'=>H'=[]/\r=Zk (C a b))) {cap:Nat} {cur:List Value} {l:List α} (hB:GrowB L t fz g n cap cur l) (hn:0<n) (hn2:n<=2000000):
 GFn prog f6 [Zv g n cap,.func (.func fc) #[] #[]] fz [(g,Zu cur.toArray t)]
  (fun r fz' H'=>r=.tuple #[]/\fz=fz'/\∃ cur' l',H'=[(g,Zu (List.toArray cur') t)]/\GrowB L t fz g n cap cur' l'/\l'.Perm l/\YjQ C l'):=by
 subst hf6;obtain ⟨xs,e1,e2,e3⟩:=hB.pairs;have hxl:xs.length=n:=by have:=hB.len;rw [<- e1,List.length_map] at this;exact this
 have hsz:=hB.size;have hcap:=hB.capn;rw [hz] at hsz e3;refine GFn.of hca (fun w hw=>?_);have hg:=hw.own (g,Zu cur.toArray t) (.head _);simp only at hg;have hgs:=lt_of_heap hg.1;obtain ⟨x0,hx0⟩:=Ye (l:=xs) (k:=0) Zi
 haveI:Inhabited {x:α × List Value // L.rep fz x.1 x.2}:=⟨⟨x0,e2 x0 (Zm hx0)⟩⟩
 generalize hds:(xs.attach.map fun p=>(⟨p.1,e2 p.1 p.2⟩:{x:α × List Value // L.rep fz x.1 x.2}))=ds;have hdm:ds.map (·.1)=xs:=by rw [<- hds,List.map_map];exact List.attach_map_subtype_val xs
 have hdl:ds.length=n:=by rw [<- hxl,<- hdm,List.length_map]
 have hk2:∀ x:{x:α × List Value // L.rep fz x.1 x.2},x.1.2.length=z:=fun x=>(L.len x.2).trans hz
 have h1c:∀ x:{x:α × List Value // L.rep fz x.1 x.2},∀ v∈x.1.2,v.oneCell'=true:=fun x v hv=>hone _ _ _ x.2 v hv
 have hpos:∀ (k:Nat) (cs:List Value) (ys:List {x:α × List Value // L.rep fz x.1 x.2}),True:=fun _ _ _=>trivial
 have hcell:∀ (ys:List {x:α × List Value // L.rep fz x.1 x.2}) (j:Nat),j<ys.length*z->∃ v,((ys.map (·.1)).flatMap Prod.snd)[j]?=some v/\(Go.Sort.flatK (fun x:{x:α × List Value // L.rep fz x.1 x.2}=>x.1.2) z ys.toArray)[j]! =v:=by
  intro ys j hj;obtain ⟨y,hy⟩:=Ye (l:=ys) (k:=j / z) ((Nat.div_lt_iff_lt_mul hz0).2 hj);obtain ⟨v,hv⟩:=Ye (l:=y.1.2) (k:=j % z) (by rw [hk2 y];exact Nat.mod_lt _ hz0);have hf:=Ye3 (z:=z) (l:=ys.map (·.1)) (i:=j / z) (j:=j % z) (x:=y.1) (u:=v) (fun p hp=>by
   obtain ⟨q,_,rfl⟩:=List.mem_map.1 hp;exact hk2 q) (by rw [List.getElem?_map,hy];rfl) hv
  rw [Nat.div_add_mod'] at hf;refine ⟨v,hf,?_⟩;rw [Go.Sort.get_flatK _ _ _ _ (by simpa using hj),list_get! hy];exact YpO hv
 have hcmp:CmpLays prog fc #[] (fun x:{x:α × List Value // L.rep fz x.1 x.2}=>x.1.2) z (fun x y=>C x.1.1 y.1.1) g 0 ds.toArray.size w:=by
  intro m os dk _ x y;have hD:=@GFn.out drT _ _ _ _ _ _ (hcf x.2 y.2) (sortWorldK (fun x:{x:α × List Value // L.rep fz x.1 x.2}=>x.1.2) z w g 0 m dk os) ⟨fun b o hbo=>by
   have h1:=hw.keep b o hbo;rw [YlB (lt_of_heap h1) (fun e=>by subst e;rw [hg.2] at hbo;cases hbo)];exact h1,by simp,by simp⟩
  refine hD.mono fun e w' hh=>?_
  obtain ⟨v,fz',H',he,⟨_,rfl⟩,_,hfr,_⟩:=hh;exact ⟨he,YnM hfr⟩
 have hH:Go.Sort.HoldsK (fun x:{x:α × List Value // L.rep fz x.1 x.2}=>x.1.2) z w g 0 ds.toArray:=by
  intro j hj;rw [Go.Sort.size_flatK] at hj;simp only [List.size_toArray] at hj;obtain ⟨v,h1,h2⟩:=hcell ds j hj;rw [hdm,<- e3] at h1;refine ⟨?_,?_⟩
  ·rw [h2];show w.cell? ⟨g,0+j,none⟩=some v;rw [List.getElem?_take_of_lt (by rw [<- hdl];exact hj)] at h1;simp [World.cell?,hg.1,h1]
  simp [World.frozen?,hg.1]
 have hcon:=AnyQ.slices_SortFunc Ly z hag hsi (fun x:{x:α × List Value // L.rep fz x.1 x.2}=>x.1.2) hk2 h1c (fun x y=>C x.1.1 y.1.1) (hsw (fun x:{x:α × List Value // L.rep fz x.1 x.2}=>x.1.1)) fc #[] g 0 cap ds.toArray w hen hcmp hH hgs (by simp;omega);simp only [List.size_toArray,hdl] at hcon;refine Calls.mono hcon fun e w' hh=>?_
 obtain ⟨he,d',m,os,hp,hs,rfl⟩:=hh;have hsd:d'.size=n:=by rw [hp.1];simp [hdl]
 obtain ⟨ys,rfl⟩:∃ ys:List {x:α × List Value // L.rep fz x.1 x.2},d'=ys.toArray:=⟨d'.toList,by simp⟩;simp only [List.size_toArray] at hsd;have hperm:ys.Perm ds:=by
  have h:=hp.2.2;rw [show (ys.toArray.extract 0 n)=ys.toArray from by rw [<- hsd];simp,show (ds.toArray.extract 0 n)=ds.toArray from by rw [<- hdl];simp] at h;simpa using h
 have hgw:=YoS (enc:=fun x:{x:α × List Value // L.rep fz x.1 x.2}=>x.1.2) (k:=z) (m:=m) (dk:=ys.toArray) (os:=os) hg.1;generalize hF:Go.Sort.flatK (fun x:{x:α × List Value // L.rep fz x.1 x.2}=>x.1.2) z ys.toArray=F at hgw;have hFs:F.size=n*z:=by rw [<- hF,Go.Sort.size_flatK];simp [hsd]
 have hFc:∀ j,j<n*z->∃ v,((ys.map (·.1)).flatMap Prod.snd)[j]?=some v/\F[j]! =v:=fun j hj=>by
  have:=hcell ys j (by rw [hsd];exact hj)
  rwa [hF] at this
 refine ⟨_,fz,[(g,Zu (List.toArray (Go.Sort.putCells id 0 F cur.toArray).toList) t)],he,⟨rfl,rfl,_,ys.map (·.1.1),rfl,⟨⟨ys.map (·.1),by rw [List.map_map];rfl,fun p hp=>?_,?_⟩,by rw [List.length_map];exact hsd,hcap,hB.max,?_⟩,?_,?_⟩,⟨fun b o hbo=>?_,fun p hp=>?_,by simp⟩,⟨rfl,rfl,rfl,?_,fun b hb hnb=>?_,fun h=>h.elim⟩,⟨fun _ _ h=>h,fun _ _ _=>rfl,fun p hp=>?_⟩⟩
 ·obtain ⟨q,_,rfl⟩:=List.mem_map.1 hp;exact q.2
 ·rw [hz];refine List.ext_getElem? fun j=>?_
  by_cases hj:j<n*z
  ·obtain ⟨v,h1,h2⟩:=hFc j hj;have hlt:j<cur.length:=by rw [hsz];exact Nat.lt_of_lt_of_le hj (Nat.mul_le_mul_right z hcap)
   rw [h1,List.getElem?_take_of_lt hj,Array.getElem?_toList];unfold Go.Sort.putCells;simp [hlt,hFs,hj];rw [<- h2];exact (getElem!_pos F j Zi).symm
  rw [List.getElem?_eq_none (by rw [List.length_take];omega),List.getElem?_eq_none];rw [Ya1 (z:=z) (fun p hp=>by
   obtain ⟨q,_,rfl⟩:=List.mem_map.1 hp;exact hk2 q),List.length_map,hsd]
  omega
 ·unfold Go.Sort.putCells;simp [hsz,hz]
 ·have h1:=hperm.map (fun x:{x:α × List Value // L.rep fz x.1 x.2}=>x.1.1);have h2:ds.map (fun x:{x:α × List Value // L.rep fz x.1 x.2}=>x.1.1)=l:=by rw [<- e1,<- hdm,List.map_map];rfl
  rw [h2] at h1;exact h1
 ·intro i j a b hij ha hb;rw [List.getElem?_map] at ha hb;cases hya:ys[i]? with
  | none=>rw [hya] at ha;cases ha
  | some p=>
   cases hyb:ys[j]? with
   | none=>rw [hyb] at hb;cases hb
   | some q=>
    rw [hya] at ha;rw [hyb] at hb;injection ha with ha;injection hb with hb
    have h:=hs i j (Z0 _) hij (by have:=(Zg hyb).1;omega);rw [list_get! hya,list_get! hyb] at h;unfold ltOf at h;have h:=Zf h;rw [<- ha,<- hb];exact h
 ·have h1:=hw.keep b o hbo;rw [YlB (lt_of_heap h1) (fun e=>by subst e;rw [hg.2] at hbo;cases hbo)];exact h1
 ·rw [List.mem_singleton] at hp;subst hp;exact ⟨by simpa using hgw,hg.2⟩
 ·unfold sortWorldK Go.Sort.grow Go.Sort.putRowK Go.Sort.putRow Go.Sort.mapBlock Go.Sort.ahead;simp
 ·exact YlB hb (fun e=>hnb (by simp [e]))
 rw [List.mem_singleton] at hp;subst hp;exact .inl (by simp)
end Go.Proofs.YtiligkgjcmokbaaGreatDoor
namespace Go.Proofs.YtiligkgjcmokbaaGreatDoor
variable {a:Atom}
theorem atom_eta {b:Atom} (h1:a.name=b.name) (h2:a.args=b.args):a=b:=by
 cases a;cases b;simp only at h1 h2;rw [h1,h2]
structure Kn where
 l:List Param
 os:List Param
 init:List Atom
 chg:Bs->Bool
def ofK (K:Kn) (t:Bs):List Bs:=ofT K.l t K.os
end Go.Proofs.YtiligkgjcmokbaaGreatDoor
namespace Go.Proofs.YtiligkgjcmokbaaGreatDoor
variable {α:Type} {fz:FZ} {g j n c:Nat} {A:Option Addr} {L:Lay α}
theorem expr_one:OneC exprL:=by
 intro fz d cs h u hu;obtain ⟨va,vk,rfl,hR⟩:=YD h;obtain ⟨⟨A,n,c,rfl,_⟩,⟨B,m,d,rfl,_⟩⟩:=hR.sls;simp at hu;rcases hu with rfl | rfl | rfl | rfl | rfl<;>rfl
theorem form_one:OneC YK:=by
 intro fz d cs h u hu;obtain ⟨va,vp,ve,vk,rfl,hR⟩:=Yv h;obtain ⟨⟨A,n,c,rfl,_⟩,⟨B,m,d,rfl,_⟩,⟨C,q,e,rfl,_⟩,⟨D,o,f,rfl,_⟩⟩:=hR.sls;simp at hu;rcases hu with rfl | rfl | rfl | rfl | rfl | rfl<;>rfl
theorem Ye2 {α:Type} {z:Nat}:∀ {xs:List (α × List Value)} {j:Nat} {p:α × List Value},(∀ p∈xs,p.2.length=z)->xs[j]?=some p->((xs.flatMap Prod.snd).drop (j*z)).take z=p.2
 | [],j,p,_,h=>by simp at h
 | x::r,0,p,h,hj=>by
  simp at hj;subst hj;have hx:=h x (by simp);rw [List.flatMap_cons,Nat.zero_mul,List.drop_zero,<- hx,List.take_left]
 | x::r,j+1,p,h,hj=>by
  have hx:=h x (by simp);have ih:=Ye2 (xs:=r) (j:=j) (fun p hp=>h p (by simp [hp])) (by simpa using hj);have e:(j+1)*z=x.2.length+j*z:=by rw [Nat.succ_mul];omega
  rw [List.flatMap_cons,e,List.drop_append,List.drop_eq_nil_of_le Zi,List.nil_append,Nat.add_sub_cancel_left];exact ih
theorem Wf {e:Nat} {cap:Nat} {cur:List Value} {l:List α} (h:GrowB L e fz g n cap cur l) {d:α} (hj:l[j]?=some d):∃ cs,L.rep fz d cs/\(cur.drop (j*L.size)).take L.size=cs:=by
 obtain ⟨xs,h1,h2,h3⟩:=h.pairs;have hl:=h.len;have hjl:j<n:=by have:=(Zg hj).1;omega
 rw [<- h1,List.getElem?_map] at hj;cases hx:xs[j]? with
 | none=>rw [hx] at hj;cases hj
 | some p=>
  rw [hx] at hj;simp at hj;subst hj;refine ⟨p.2,h2 p (Zm hx),?_⟩;rw [<- Ye2 (fun p hp=>L.len (h2 p hp)) hx,<- h3,List.drop_take,List.take_take];have:j*L.size+L.size<=n*L.size:=by rw [<- Nat.succ_mul];exact Nat.mul_le_mul_right _ hjl
  rw [Nat.min_eq_left Zi]
section
variable {P:Program} {cx:Cx} {r:Operand->Option Value} {fz:FZ} {H:HP} {dst:Option Nat} {ty:TypeId} {pos:String} {af:Array Edge} {gd:Option (Nat × Bool)} {V:Value->Prop}
variable {o:Oper}
theorem Does.perm {H':HP} {K:Value->FZ->HP->Prop} (hp:H'.Perm H) (h:Does P cx o r fz H' K):Does P cx o r fz H K:=Does.of fun ρ w hr hw=>h.run ρ w hr (hw.perm hp)
end
theorem YeJ {α:Type}:∀ {l:List α} {k:Nat} {x:α},l[k]?=some x->l.set k x=l
 | [],k,x,h=>by simp at h
 | a::r,0,x,h=>by simp at h;subst h;rfl
 | a::r,k+1,x,h=>by rw [List.set_cons_succ,YeJ (by simpa using h)]
theorem Ynz {l:List Lx.Expr} (h:Sl exprL fz A n c l) (hn:n<=1000000000):
 GFn prog 56 [Zc A n c] fz [] (fun v fz' H'=>Grow exprL 112 fz' v n H' l):=by
 have l1:=h.len;refine zF Tryz.func56 Tryz.ntmps56 (fun w0=>?_);refine zV ?_;intros;refine zG ?_;refine WI (fun eA=>?_) (fun eA=>?_)
 ·subst eA;have hl:l=[]:=by
   rcases h.elem with h0 | ⟨_,h0,_⟩
   ·exact List.eq_nil_of_length_eq_zero Zi
   cases h0
  subst hl;simp at l1;subst l1;refine zV ?_;intros;refine Yel (H':=[]) (H2:=[]) rfl rfl (Zr _) (fun fz3 hle3 _=>Grow.nil _ _ _)
 refine zV ?_;intros;refine Ya (W7 (fun gb=>?_));refine zV ?_;intros;refine Ya (WZ T (Hr:=[]) (n:=0) (l:=[]) Zz Zz Zz Zz Zz Zz Zz Zz (Zr _) (Grow.block (ys:=[]) rfl rfl (by intro p hp;cases hp) rfl) expr_one h (by show _*88<=_;omega) Zi (fun v' Hs' hO'=>?_));obtain ⟨Av',cv',rfl,_,_⟩:=hO'.form;refine zV ?_;intros;refine Yel (H':=Hs') (H2:=[]) rfl rfl (by simp) (fun fz3 hle3 _=>(hO'.mono hle3).of (by simp) Zi)
theorem cloneF_q {l:List Formula} (h:Sl YK fz A n c l) (hn:n<=1000000000):
 GFn prog 57 [Zc A n c] fz [] (fun v fz' H'=>Grow YK 35 fz' v n H' l):=by
 have l1:=h.len;refine zF Tryz.func57 Tryz.ntmps57 (fun w0=>?_);refine zV ?_;intros;refine zG ?_;refine WI (fun eA=>?_) (fun eA=>?_)
 ·subst eA;have hl:l=[]:=by
   rcases h.elem with h0 | ⟨_,h0,_⟩
   ·exact List.eq_nil_of_length_eq_zero Zi
   cases h0
  subst hl;simp at l1;subst l1;refine zV ?_;intros;refine Yel (H':=[]) (H2:=[]) rfl rfl (Zr _) (fun fz3 hle3 _=>Grow.nil _ _ _)
 refine zV ?_;intros;refine Ya (W7 (fun gb=>?_));refine zV ?_;intros;refine Ya (WZ T (Hr:=[]) (n:=0) (l:=[]) Zz Zz Zz Zz Zz Zz Zz Zz (Zr _) (Grow.block (ys:=[]) rfl rfl (by intro p hp;cases hp) rfl) form_one h (by show _*128<=_;omega) Zi (fun v' Hs' hO'=>?_));obtain ⟨Av',cv',rfl,_,_⟩:=hO'.form;refine zV ?_;intros;refine Yel (H':=Hs') (H2:=[]) rfl rfl (by simp) (fun fz3 hle3 _=>(hO'.mono hle3).of (by simp) Zi)
def ExprV (fz:FZ) (e:Lx.Expr) (v:Value):Prop:=∃ wa wk,v=.agg #[Zy e.op,Zy e.name,Zk e.n,wa,wk]/\ExprR fz e wa wk
end Go.Proofs.YtiligkgjcmokbaaGreatDoor
namespace Go.Proofs.YtiligkgjcmokbaaGreatDoor
end Go.Proofs.YtiligkgjcmokbaaGreatDoor
namespace Go.Lx
open Go.RowKit
section
variable {P:Program} {cx:Cx} {r:Operand->Option Value} {fz:FZ} {H:HP} {V:Value->Prop} {dst:Option Nat} {ty:TypeId} {pos:String} {af:Array Edge} {gd:Option (Nat × Bool)}
variable {g j:Nat}
theorem addr_add {o:Nat}:(⟨g,o,none⟩:Addr).add j=⟨g,o+j,none⟩:=by unfold Addr.add;split<;>simp_all
theorem YfZ {t e:TypeId} {x i:Operand} {X Y:Ty} {g n c z:Nat} {j:Nat} (hz:Y.size=z)
 (h:V (.slice (some ⟨g,j*z,none⟩) (n - j) (c - j))) (T:Tab P:=by exact T) (hT:T.inf t=some X:=by exact rfl) (hd:X.desc=.slice e:=by exact rfl) (hY:T.inf e=some Y:=by exact rfl) (hx:r x=some (Zv g n c):=by exact rfl) (hi:r i=some (Zk j):=by exact rfl) (hj:j<=n:=by omega) (hc:j<c:=by omega):DoesQ P cx ⟨dst,.slice t x (some i) none none,ty,pos,af,gd⟩ r fz H V:=
  YC (v:=Zc (some ⟨g,j*z,none⟩) (n - j) (c - j)) (fun ρ w hr=>by
   have hu:=run_underlying (und_plain T hT hd rfl) w;have hs:=Lx.run_sizeOf T hY w;have ha:(⟨g,0,none⟩:Addr).add (j*Y.size)=⟨g,j*z,none⟩:=by rw [hz,addr_add,Nat.zero_add]
   simp [execOp,hr _ _ hx,hr _ _ hi,Instr.sliceAt,Instr.slice,Instr.sliceBounds,Instr.sliceBound,asIntOf,hu,hs,hj,ha];omega) h
variable {A:Option Addr} {X Y:Ty} {c n:Nat} {e t:TypeId} {x:Operand}
theorem Ypd (T:Tab P) {i:Operand} (hT:T.inf t=some X) (hd:X.desc=.slice e) (hY:T.inf e=some Y)
 (hx:r x=some (.slice A n c)) (hi:r i=some (Zk j)) (hj:j<=c) (h:V (.slice A j c)):DoesQ P cx ⟨dst,.slice t x none (some i) none,ty,pos,af,gd⟩ r fz H V:=
 YC (fun ρ w hr=>by
  have hu:=run_underlying (und_plain T hT hd rfl) w;have hs:=Lx.run_sizeOf T hY w;simp [execOp,hr _ _ hx,hr _ _ hi,Instr.sliceAt,Instr.slice,Instr.sliceBounds,Instr.sliceBound,asIntOf,hu,hs,hj];intro _;cases A<;>simp [Addr.add]) h
theorem Ydz {t e:TypeId} {x i:Operand} {X Y:Ty} {g b n c z:Nat} {k:IntKind} {j:Int}
 (hs:Y.size=z) (h:V (.pointer (some ⟨g,(b+j.toNat)*z,none⟩))) (T:Tab P:=by exact T) (hT:T.inf t=some X:=by exact rfl) (hd:X.desc=.slice e:=by exact rfl) (hY:T.inf e=some Y:=by exact rfl) (hx:r x=some (.slice (some ⟨g,b*z,none⟩) n c):=by exact rfl) (hi:r i=some (.int k j):=by exact rfl) (h0:0<=j:=by omega) (hn:j<n:=by omega):DoesQ P cx ⟨dst,.indexAddr t x i,ty,pos,af,gd⟩ r fz H V:=by
  refine YcV T hT hd hY hx hi h0 hn ?_;rw [hs,addr_add,<- Nat.add_mul];exact h
variable {t':TypeId}
theorem k_clear (T:Tab P) {pre post:HP} {o z:Nat} {cur:List Value} {K:Value->FZ->HP->Prop} (hT:T.inf t=some X) (hd:X.desc=.slice e) (hY:T.inf e=some Y) (hz:Y.zero.cells.size=z) (h1:Y.zero.cells.toList.all (·.oneCell')=true) (hz0:0<z)
 (hx:r x=some (Zc (some ⟨g,o,none⟩) n c)) (hn:0<n) (hH:H=pre++(g,Zu cur.toArray t')::post) (hle:o+n*z<=cur.length)
 (h:∀ cur':List Value,cur'.length=cur.length->cur'.take o=cur.take o->K (.tuple #[]) fz (pre++(g,Zu cur'.toArray t')::post)):
 Does P cx ⟨dst,.call {callee:=.builtin .clear,args:=#[x],argTypes:=#[t]},ty,pos,af,gd⟩ r fz H K:=by
 refine Does.of fun ρ w hr hw=>?_
 subst hH;have hb:=(hw.hp.own (g,Zu cur.toArray t') (by simp)).1;obtain ⟨n,rfl⟩:∃ m,n=m+1:=⟨n - 1,by omega⟩;generalize hcs:(Builtin.zeroCells Y.zero.cells (n+1)).toList=cs;have hcl:cs.length=(n+1)*z:=by rw [<- hcs];simp [Builtin.zeroCells,hz]
 have hc1:∀ u∈cs,u.oneCell'=true:=by
  intro u hu;rw [<- hcs] at hu;simp only [Builtin.zeroCells,Array.toList_map,Array.toList_range,List.mem_map,List.mem_range] at hu;obtain ⟨i,hi,rfl⟩:=hu;have hlt:i % Y.zero.cells.size<Y.zero.cells.size:=Nat.mod_lt _ Zi;rw [getElem!_pos Y.zero.cells _ hlt];exact List.all_eq_true.1 h1 _ (Array.getElem_mem_toList hlt)
 have hst:=run_storeCells_at (P:=P) g o t' cs 0 cur.toArray w hb (by simp;omega) hc1;simp only [Nat.add_zero] at hst;have hu:=run_underlying (und_plain T hT hd rfl) w;have hze:=YcR T hY w;have hexec:(execOp ρ ⟨dst,.call {callee:=.builtin .clear,args:=#[x],argTypes:=#[t]},ty,pos,af,gd⟩).run P w=.ok (.value (.tuple #[])) (w.setRow g (cur.take o++cs++cur.drop (o+cs.length)).toArray):=by
  simp only [execOp,resolve,invoke,builtin,Sem.run_bind,Sem.run_pure,Result.andThen_ok,List.map_toArray,List.map_cons,List.map_nil,hr _ _ hx,Builtin.clear_];simp [hu,hze,hcs,hst]
 rw [hexec];refine ⟨fz,_,hw.write (o':=.cells (cur.take o++cs++cur.drop (o+cs.length)).toArray t' (0,0)) rfl rfl rfl (by simp) ?_ (fun k hk=>?_),h _ ?_ ?_⟩
 ·simp [World.setRow,Array.getElem?_modify,hb]
 ·simp only [World.setRow,Array.getElem?_modify];rw [if_neg Zi]
 ·simp;omega
 rw [List.append_assoc,List.take_append_of_le_length (by rw [List.length_take];omega),List.take_take,Nat.min_self]
end
end Go.Lx
namespace Go.Proofs.YtiligkgjcmokbaaGreatDoor
variable {i:Nat} {a:Atom} {fz:FZ}
def cpt (l:List Atom):Nat->List Atom
 | 0=>[]
 | i+1=>match l[i]? with
  | none=>cpt l i
  | some x=>if i≠0/\l[i - 1]?=some x then cpt l i else cpt l i++ [x]
theorem Yny {l:List Atom} {x:Atom} (h0:i≠0) (hx:l[i]?=some x) (hy:l[i - 1]?=some x):cpt l (i+1)=cpt l i:=by
 rw [cpt,hx];exact if_pos ⟨h0,hy⟩
theorem YjA {l:List Atom} {x:Atom} (hx:l[i]?=some x) (h:i=0\/l[i - 1]?≠some x):cpt l (i+1)=cpt l i++ [x]:=by
 rw [cpt,hx];exact if_neg (fun hh=>h.elim hh.1 (fun h=>h hh.2))
theorem Yqz (l:List Atom):∀ i,(cpt l i).length<=i
 | 0=>Zs _
 | i+1=>by
  have:=Yqz l i;rw [cpt];split
  ·omega
  split
  ·omega
  rw [List.length_append];simp;omega
theorem Ymf {l:List Atom} {a:Atom}:∀ i,a∈cpt l i↔a∈l.take i
 | 0=>by simp [cpt]
 | i+1=>by
  have ih:=Ymf (l:=l) (a:=a) i;rw [cpt,List.take_add_one];split
  ·rename_i h;rw [h];simpa using ih
  rename_i x h;rw [h];split
  ·rename_i hc;rw [ih];constructor
   ·exact fun hh=>List.mem_append.2 (.inl hh)
   intro hh;rcases List.mem_append.1 hh with hh | hh
   ·exact hh
   simp at hh;subst hh;have:(l.take i)[i - 1]?=some a:=by rw [List.getElem?_take_of_lt Zi];exact hc.2
   exact Zm this
  simp [ih]
theorem Yqy (l:List Atom):∀ i,(cpt l i).Sublist (l.take i)
 | 0=>by simp [cpt]
 | i+1=>by
  have ih:=Yqy l i;rw [cpt,List.take_add_one];split
  ·rename_i h;rw [h];simpa using ih
  rename_i x h;rw [h];split
  ·exact ih.trans (List.sublist_append_left _ _)
  exact ih.append (List.Sublist.refl _)
def cptM (l:List Atom):List Atom:=cpt l l.length
theorem cptM_mem {l:List Atom}:a∈cptM l↔a∈l:=by unfold cptM;rw [Ymf,List.take_length]
theorem Yoi {fv:Value}:QFn prog 67 [Zn,fv] fz Zn:=by
 refine qF Tryz.func67 Tryz.ntmps67 (fun w0=>?_);refine wC ?_ ?_<;>intro c1
 ·exact wR (h:=rfl)
 exact absurd c1 Zh
end Go.Proofs.YtiligkgjcmokbaaGreatDoor
namespace Go.Proofs.YtiligkgjcmokbaaGreatDoor
variable {α:Type} {fz:FZ} {g n:Nat} {L:Lay α}
theorem _root_.Go.Lx.GrowB.cut {e:Nat} {m cap:Nat} {cur cur':List Value} {a b:List α} (h:GrowB L e fz g n cap cur (a++b)) (hm:a.length=m) (hl:cur'.length=cur.length) (ht:cur'.take (m*L.size)=cur.take (m*L.size)):GrowB L e fz g m cap cur' a:=by
 obtain ⟨xs,h1,h2,h3⟩:=h.pairs;obtain ⟨xs1,xs2,rfl,h4,h5⟩:=List.map_eq_append_iff.1 h1;have hn:=h.len;rw [List.length_append,hm] at hn;have hx:xs1.length=m:=by rw [<- hm,<- h4,List.length_map]
 have hmn:m*L.size<=n*L.size:=Nat.mul_le_mul_right _ Zi;have hf:(xs1.flatMap Prod.snd).length=m*L.size:=by rw [Ya1 (fun p hp=>L.len (h2 p (List.mem_append.2 (.inl hp)))),hx]
 refine ⟨⟨xs1,h4,fun p hp=>h2 p (List.mem_append.2 (.inl hp)),?_⟩,hm,by have:=h.capn;omega,h.max,by rw [hl];exact h.size⟩;have e:(cur.take (n*L.size)).take (m*L.size)=xs1.flatMap Prod.snd:=by rw [h3,List.flatMap_append,List.take_left' hf]
 rw [List.take_take,Nat.min_eq_left hmn] at e;rw [ht,e]
def FormulaV (fz:FZ) (f:Formula) (v:Value):Prop:=∃ va vp ve vk,v=.agg #[Zy f.op,Zy f.name,va,vp,ve,vk]/\FormulaR fz f va vp ve vk
def QuF (op:Bs):Prop:=op=kForall\/op=YaA
def quantV (K:Kn) (al:Bool) (hb:EnvM->Bool):List Param->EnvM->Bool
 | [],E=>hb E
 | p::ps,E=>if al=true then (ofK K p.typ).all fun o=>quantV K al hb ps (setE E p.name o) else (ofK K p.typ).any fun o=>quantV K al hb ps (setE E p.name o)
end Go.Proofs.YtiligkgjcmokbaaGreatDoor
namespace Go.Proofs.YtiligkgjcmokbaaGreatDoor
variable {all vars:List Param} {d:Domain} {fz:FZ} {p:Problem} {v vp:Value}
def nmd (w n:Bs):Param:=⟨n,w++n⟩
def Yb1 (d:Domain):List Param:=d.predicates.map (fun x=>nmd Wr x.name)++d.functions.map (fun x=>nmd XG x.name)
def Ybx (all:List Param):List Param:=all.map (fun x=>nmd YcN x.name)
def YeT (d:Domain):List Param:=d.actions.map (fun x=>nmd Yac x.name)++d.duratives.map (fun x=>nmd XH x.name)
def Yar (d:Domain) (all:List Param):Option Bs:=match repM [] (Yb1 d) with
 | some p=>some p
 | none=>match repM [] (Ybx all) with
  | some p=>some p
  | none=>repM [] (YeT d)
theorem Yg4 {fz:FZ} {w n:Bs} (hn:Short n) (hs:n.size<=1000) (hw:w.size<=1000:=by decide):paramL.rep fz (nmd w n) [Zy n,Zy (w++n)]:=
 YcY (x:=nmd w n) ⟨hn,by show (w++n).size<=_;rw [ByteArray.size_append];omega⟩
theorem names_q {vf vg vo:Value} (h:CkR fz v d p all vf vp vg vo) (hs:NmS d all)
 (hm:d.predicates.length<=1000000/\d.functions.length<=1000000/\all.length<=1000000/\d.actions.length<=1000000/\d.duratives.length<=1000000):
 QFn prog 99 [v] fz (repV (Yar d all)):=by
 obtain ⟨gc,v1,v2,v3,v4,v5,v6,u1,u2,u3,u4,u5,u6,u7,Aa,na,ca,rfl,hc,hD,hP,hall⟩:=h;obtain ⟨⟨A1,n1,b1,rfl,i1⟩,⟨A2,n2,b2,rfl,i2⟩,⟨A3,n3,b3,rfl,i3⟩,⟨A4,n4,b4,rfl,i4⟩,⟨A5,n5,b5,rfl,i5⟩,⟨A6,n6,b6,rfl,i6⟩⟩:=hD.sls;have l3:=i3.len;have l4:=i4.len;have l5:=i5.len;have l6:=i6.len;have la:=hall.len;have s3:=i3.short;have s4:=i4.short;have s5:=i5.short;have s6:=i6.short;have sa:=hall.short;obtain ⟨m3,m4,ma,m5,m6⟩:=hm;refine qF Tryz.func99 Tryz.ntmps99 (fun w0=>?_);refine zV ?_;intros;rename_i gs;refine zV ?_;refine Yi (fun q σ fz' H'=>∃ (k:Nat) (v':Value) (Ho:HP),k<=n3/\q=n3 - k/\σ=[(25,Zk k),(24,Zk n3),(23,Zc A3 n3 b3),(4,Zp gs),(0,Zp gc)]/\fz=fz'/\H'=(gs,Zu #[v',Zn,Zn] 223)::Ho/\Grow paramL 225 fz v' (k) Ho ((d.predicates.take k).map (fun x=>nmd Wr x.name))) ⟨0,_,[],Z0 _,rfl,rfl,rfl,rfl,Grow.nil _ _ _⟩ Zw Zb ?_;rintro q σ fz' H' ⟨k,v',Ho,hk,rfl,rfl,rfl,rfl,hG⟩;obtain ⟨Ao,co,rfl,_,_⟩:=hG.form;refine vC ?_ ?_<;>intro c1
 ·obtain ⟨x,hx⟩:=Ye (l:=d.predicates) (k:=k) Zi;have hxs:=hs.p x (Zm hx);refine vI i3 hx (fun p1 hp=>?_);refine zL hp ?_;intro cs hcs;obtain ⟨w1,rfl,hR⟩:=Xo hcs;obtain ⟨Ap,np,cp,rfl,ip⟩:=hR.params;have hxn:Short x.name:=by unfold Short;omega
  refine zV ?_;intros
  ((refine zG ?_);refine WH T Zz Zz Zz Zz Zz Zh Zh ?_);refine vG ?_;refine Wa Zz Zz (by show _+_<=_;exact Nat.le_trans (Nat.add_le_add_left hxs _) Zh) ?_;refine zV ?_;refine Ya (Yb (cs:=[Zy x.name,Zy (Wr++x.name)]) (fun gb=>?_));refine Ya (YN (Hr:=[_,_,_]) (d:=nmd Wr x.name) (Zr _) hG WY (.head _) (Yg4 hxn hxs) (fun v2 Hs' hO'=>?_));obtain ⟨Av',cv',rfl,_,_⟩:=hO'.form;refine vG ?_;refine WH T Zz Zz Zz Zz Zz Zh Zh ?_;exact vP (h:=by exact ⟨k+1,_,Hs',by omega,rfl,rfl,rfl,rfl,hO'.of (by rw [List.take_add_one,hx];simp) Zi⟩)
 have hk1:n3=k:=by omega
 subst hk1;rw [show d.predicates.take n3=d.predicates from Zl Zi] at hG;refine zV ?_;refine Yi (fun q σ fz' H'=>∃ (k:Nat) (v':Value) (Ho:HP),k<=n4/\q=n4 - k/\σ=[(47,Zk k),(46,Zk n4),(45,Zc A4 n4 b4),(4,Zp gs),(0,Zp gc)]/\fz=fz'/\H'=(gs,Zu #[v',Zn,Zn] 223)::Ho/\Grow paramL 225 fz v' (n3+k) Ho (d.predicates.map (fun x=>nmd Wr x.name)++(d.functions.take k).map (fun x=>nmd XG x.name))) ⟨0,_,Ho,Z0 _,rfl,rfl,rfl,rfl,hG.of (by simp) rfl⟩ Zw Zb ?_;rintro q σ fz' H' ⟨k,v',Ho,hk,rfl,rfl,rfl,rfl,hG⟩;obtain ⟨Ao,co,rfl,_,_⟩:=hG.form;refine vC ?_ ?_<;>intro c1
 ·obtain ⟨x,hx⟩:=Ye (l:=d.functions) (k:=k) Zi;have hxs:=hs.f x (Zm hx);refine vI i4 hx (fun p1 hp=>?_);refine zL hp ?_;intro cs hcs;obtain ⟨w1,rfl,hR⟩:=YW hcs;obtain ⟨Ap,np,cp,rfl,ip⟩:=hR.params;have hxn:Short x.name:=by unfold Short;omega
  refine zV ?_;intros
  ((refine zG ?_);refine WH T Zz Zz Zz Zz Zz Zh Zh ?_);refine vG ?_;refine Wa Zz Zz (by show _+_<=_;exact Nat.le_trans (Nat.add_le_add_left hxs _) Zh) ?_;refine zV ?_;refine Ya (Yb (cs:=[Zy x.name,Zy (XG++x.name)]) (fun gb=>?_));refine Ya (YN (Hr:=[_,_,_]) (d:=nmd XG x.name) (Zr _) hG WY (.head _) (Yg4 hxn hxs) (fun v2 Hs' hO'=>?_));obtain ⟨Av',cv',rfl,_,_⟩:=hO'.form;refine vG ?_;refine WH T Zz Zz Zz Zz Zz Zh Zh ?_;exact vP (h:=by exact ⟨k+1,_,Hs',by omega,rfl,rfl,rfl,rfl,hO'.of (by rw [List.take_add_one,hx];simp) Zi⟩)
 have hk1:n4=k:=by omega
 subst hk1;rw [show d.functions.take n4=d.functions from Zl Zi] at hG;have hG0:Grow paramL 225 fz _ (n3+n4) Ho (Yb1 d):=hG;clear hG;refine zV ?_;refine Yi (fun q σ fz' H'=>∃ (k:Nat) (v':Value) (H1:HP),k<=na/\q=na - k/\σ=[(68,Zk k),(67,Zk na),(66,Zc Aa na ca),(4,Zp gs),(0,Zp gc)]/\fz=fz'/\H'=(gs,Zu #[Zc Ao (n3+n4) co,v',Zn] 223)::(Ho++H1)/\Grow paramL 225 fz v' (k) H1 ((all.take k).map (fun x=>nmd YcN x.name))) ⟨0,_,[],Z0 _,rfl,rfl,rfl,(by rw [List.append_nil]),Grow.nil _ _ _⟩ Zw Zb ?_;rintro q σ fz' H' ⟨k,v',H1,hk,rfl,rfl,rfl,rfl,hG⟩;obtain ⟨A1',c1',rfl,_,_⟩:=hG.form;refine vC ?_ ?_<;>intro c1
 ·obtain ⟨x,hx⟩:=Ye (l:=all) (k:=k) Zi;have hxs:=hs.o x (Zm hx);refine vI hall hx (fun p1 hp=>?_);refine zL hp ?_;intro cs hcs;obtain ⟨rfl,hR⟩:=YJ hcs;have hxn:Short x.name:=by unfold Short;omega
  refine zV ?_;intros
  ((refine zG ?_);refine WH T Zz Zz Zz Zz Zz Zh Zh ?_);refine vG ?_;refine Wa Zz Zz (by show _+_<=_;exact Nat.le_trans (Nat.add_le_add_left hxs _) Zh) ?_;refine zV ?_;refine Ya (Yb (cs:=[Zy x.name,Zy (YcN++x.name)]) (fun gb=>?_));refine Ya (YN (Hr:=_::_::_::Ho) (d:=nmd YcN x.name) (Zr _) hG WY (.head _) (Yg4 hxn hxs) (fun v2 Hs' hO'=>?_));obtain ⟨Av',cv',rfl,_,_⟩:=hO'.form;refine vG ?_;refine WH T Zz Zz Zz Zz Zz Zh Zh ?_;exact vP (h:=by exact ⟨k+1,_,Hs',by omega,rfl,rfl,rfl,rfl,hO'.of (by rw [List.take_add_one,hx];simp) Zi⟩)
 have hk1:na=k:=by omega
 subst hk1;rw [show all.take na=all from Zl Zi] at hG;have hG1:Grow paramL 225 fz _ na H1 (Ybx all):=hG;clear hG;refine zV ?_;refine Yi (fun q σ fz' H'=>∃ (k:Nat) (v':Value) (H2:HP),k<=n5/\q=n5 - k/\σ=[(90,Zk k),(89,Zk n5),(88,Zc A5 n5 b5),(4,Zp gs),(0,Zp gc)]/\fz=fz'/\H'=(gs,Zu #[Zc Ao (n3+n4) co,Zc A1' na c1',v'] 223)::((Ho++H1)++H2)/\Grow paramL 225 fz v' (k) H2 ((d.actions.take k).map (fun x=>nmd Yac x.name))) ⟨0,_,[],Z0 _,rfl,rfl,rfl,(by rw [List.append_nil]),Grow.nil _ _ _⟩ Zw Zb ?_;rintro q σ fz' H' ⟨k,v',H2,hk,rfl,rfl,rfl,rfl,hG⟩;obtain ⟨A2',c2',rfl,_,_⟩:=hG.form;refine vC ?_ ?_<;>intro c1
 ·obtain ⟨x,hx⟩:=Ye (l:=d.actions) (k:=k) Zi;have hxs:=hs.a x (Zm hx);refine vI i5 hx (fun p1 hp=>?_);refine zL hp ?_;intro cs hcs;obtain ⟨w1,w2,w3,w4,w5,w6,rfl,hR⟩:=Xh hcs;obtain ⟨Ap,np,cp,rfl,ip⟩:=hR.params;obtain ⟨⟨B0,e0,j0,rfl,_⟩,⟨B1,e1,j1,rfl,_⟩,⟨B2,e2,j2,rfl,_⟩,⟨B3,e3,j3,rfl,_⟩⟩:=hR.pre.sls;obtain ⟨B4,e4,j4,rfl,_⟩:=hR.changes;have hxn:Short x.name:=by unfold Short;omega
  refine zV ?_;intros
  ((refine zG ?_);refine WH T Zz Zz Zz Zz Zz Zh Zh ?_);refine vG ?_;refine Wa Zz Zz (by show _+_<=_;exact Nat.le_trans (Nat.add_le_add_left hxs _) Zh) ?_;refine zV ?_;refine Ya (Yb (cs:=[Zy x.name,Zy (Yac++x.name)]) (fun gb=>?_));refine Ya (YN (Hr:=_::_::_::(Ho++H1)) (d:=nmd Yac x.name) (Zr _) hG WY (.head _) (Yg4 hxn hxs) (fun v2 Hs' hO'=>?_));obtain ⟨Av',cv',rfl,_,_⟩:=hO'.form;refine vG ?_;refine WH T Zz Zz Zz Zz Zz Zh Zh ?_;exact vP (h:=by exact ⟨k+1,_,Hs',by omega,rfl,rfl,rfl,rfl,hO'.of (by rw [List.take_add_one,hx];simp) Zi⟩)
 have hk1:n5=k:=by omega
 subst hk1;rw [show d.actions.take n5=d.actions from Zl Zi] at hG;refine zV ?_;refine Yi (fun q σ fz' H'=>∃ (k:Nat) (v':Value) (H2:HP),k<=n6/\q=n6 - k/\σ=[(112,Zk k),(111,Zk n6),(110,Zc A6 n6 b6),(4,Zp gs)]/\fz=fz'/\H'=(gs,Zu #[Zc Ao (n3+n4) co,Zc A1' na c1',v'] 223)::((Ho++H1)++H2)/\Grow paramL 225 fz v' (n5+k) H2 (d.actions.map (fun x=>nmd Yac x.name)++(d.duratives.take k).map (fun x=>nmd XH x.name))) ⟨0,_,H2,Z0 _,rfl,rfl,rfl,rfl,hG.of (by simp) rfl⟩ Zw Zb ?_;rintro q σ fz' H' ⟨k,v',H2,hk,rfl,rfl,rfl,rfl,hG⟩;obtain ⟨A2',c2',rfl,_,_⟩:=hG.form;refine vC ?_ ?_<;>intro c1
 ·obtain ⟨x,hx⟩:=Ye (l:=d.duratives) (k:=k) Zi;have hxs:=hs.u x (Zm hx);refine vI i6 hx (fun p1 hp=>?_);refine zL hp ?_;intro cs hcs;obtain ⟨w0,w1,w2,w3,w4,w5,w6,w7,w8,w9,w10,w11,w12,w13,w14,rfl,hR⟩:=YZ hcs;obtain ⟨Ap,np,cp,rfl,ip⟩:=hR.params;obtain ⟨⟨B0,e0,j0,rfl,_⟩,⟨B1,e1,j1,rfl,_⟩,⟨B2,e2,j2,rfl,_⟩,⟨B3,e3,j3,rfl,_⟩⟩:=hR.start.sls;obtain ⟨⟨B4,e4,j4,rfl,_⟩,⟨B5,e5,j5,rfl,_⟩,⟨B6,e6,j6,rfl,_⟩,⟨B7,e7,j7,rfl,_⟩⟩:=hR.over.sls;obtain ⟨⟨B8,e8,j8,rfl,_⟩,⟨B9,e9,j9,rfl,_⟩,⟨B10,e10,j10,rfl,_⟩,⟨B11,e11,j11,rfl,_⟩⟩:=hR.fin.sls;obtain ⟨B12,e12,j12,rfl,_⟩:=hR.atStart;obtain ⟨B13,e13,j13,rfl,_⟩:=hR.atEnd;have hxn:Short x.name:=by unfold Short;omega
  refine zV ?_;intros
  ((refine zG ?_);refine WH T Zz Zz Zz Zz Zz Zh Zh ?_);refine vG ?_;refine Wa Zz Zz (by show _+_<=_;exact Nat.le_trans (Nat.add_le_add_left hxs _) Zh) ?_;refine zV ?_;refine Ya (Yb (cs:=[Zy x.name,Zy (XH++x.name)]) (fun gb=>?_));refine Ya (YN (Hr:=_::_::_::(Ho++H1)) (d:=nmd XH x.name) (Zr _) hG WY (.head _) (Yg4 hxn hxs) (fun v2 Hs' hO'=>?_));obtain ⟨Av',cv',rfl,_,_⟩:=hO'.form;refine vG ?_;refine WH T Zz Zz Zz Zz Zz Zh Zh ?_;exact vP (h:=by exact ⟨k+1,_,Hs',by omega,rfl,rfl,rfl,rfl,hO'.of (by rw [List.take_add_one,hx];simp) Zi⟩)
 have hk1:n6=k:=by omega
 subst hk1;rw [show d.duratives.take n6=d.duratives from Zl Zi] at hG;have hG2:Grow paramL 225 fz _ (n5+n6) H2 (YeT d):=hG;clear hG;refine zV ?_;refine Yi (fun q σ fz' H'=>∃ k:Nat,k<=3/\q=3 - k/\σ=[(129,Zk k),(128,.agg #[Zc Ao (n3+n4) co,Zc A1' na c1',Zc A2' (n5+n6) c2'])]/\fz=fz'/\H'=(gs,Zu #[Zc Ao (n3+n4) co,Zc A1' na c1',Zc A2' (n5+n6) c2'] 223)::((Ho++H1)++H2)/\(0<k->repM [] (Yb1 d)=none)/\(1<k->repM [] (Ybx all)=none)/\(2<k->repM [] (YeT d)=none)) ⟨0,by omega,rfl,rfl,rfl,rfl,fun h0=>by omega,fun h0=>by omega,fun h0=>by omega⟩ Zw Zb ?_;rintro q σ fz' H' ⟨k,hk,rfl,rfl,rfl,rfl,z0,z1,z2⟩;refine vC ?_ ?_<;>intro c1
 ·have hk3:k=0\/k=1\/k=2:=by omega
  rcases hk3 with rfl | rfl | rfl
  ·refine vG ?_;refine YiY ?_;refine zV ?_
   (refine zG ?_);refine YcW (v:=repV (repM [] (Yb1 d))) (fun fz' hl hf=>by
    obtain ⟨A',c',he,hsl⟩:=hG0.sl hl (fun p hp=>hf p (by simp [hp])) Zi;injection he with x1 x2 x3
    subst x1 x3;exact Yfm hsl) ?_
   cases hr:repM [] (Yb1 d) with
   | some pl=>
    rw [show repV (some pl)=.tuple #[Zy pl,.iface 89 (Zk 4)] from rfl];exact vS (h:=by exact (by rw [Yar,hr];rfl))
   | none=>
    rw [show repV none=.tuple #[Ze,.nilIface] from rfl];exact vP (h:=by exact ⟨1,by omega,rfl,rfl,rfl,rfl,fun _=>rfl,fun h0=>by omega,fun h0=>by omega⟩)
  ·refine vG ?_;refine YiY ?_;refine zV ?_
   (refine zG ?_);refine YcW (v:=repV (repM [] (Ybx all))) (fun fz' hl hf=>by
    obtain ⟨A',c',he,hsl⟩:=hG1.sl hl (fun p hp=>hf p (by simp [hp])) Zi;injection he with x1 x2 x3
    subst x1 x3;exact Yfm hsl) ?_
   cases hr:repM [] (Ybx all) with
   | some pl=>
    rw [show repV (some pl)=.tuple #[Zy pl,.iface 89 (Zk 4)] from rfl];exact vS (h:=by exact (by rw [Yar,z0 Zi,hr];rfl))
   | none=>
    rw [show repV none=.tuple #[Ze,.nilIface] from rfl];exact vP (h:=by exact ⟨2,by omega,rfl,rfl,rfl,rfl,fun _=>z0 Zi,fun _=>rfl,fun h0=>by omega⟩)
  refine vG ?_;refine YiY ?_;refine zV ?_
  (refine zG ?_);refine YcW (v:=repV (repM [] (YeT d))) (fun fz' hl hf=>by
   obtain ⟨A',c',he,hsl⟩:=hG2.sl hl (fun p hp=>hf p (by simp [hp])) Zi;injection he with x1 x2 x3
   subst x1 x3;exact Yfm hsl) ?_
  cases hr:repM [] (YeT d) with
  | some pl=>
   rw [show repV (some pl)=.tuple #[Zy pl,.iface 89 (Zk 4)] from rfl];exact vS (h:=by exact (by rw [Yar,z0 Zi,z1 Zi,hr];rfl))
  | none=>
   rw [show repV none=.tuple #[Ze,.nilIface] from rfl];exact vP (h:=by exact ⟨3,by omega,rfl,rfl,rfl,rfl,fun _=>z0 Zi,fun _=>z1 Zi,fun _=>rfl⟩)
 exact vS (h:=by exact (by rw [Yar,z0 Zi,z1 Zi,z2 Zi];rfl))
def wDomainP:Bs:=⟨#[100,111,109,97,105,110]⟩
def Yj2:Bs:=⟨#[112,114,111,98,108,101,109]⟩
def wInitP:Bs:=⟨#[105,110,105,116]⟩
def YmG:Bs:=⟨#[118,97,108,117,101,115]⟩
def wGoalP:Bs:=⟨#[103,111,97,108]⟩
def wLimitsP:Bs:=⟨#[108,105,109,105,116,115]⟩
def wTypesP:Bs:=⟨#[116,121,112,101,115]⟩
def txtV (v:Value_):Bs:=YoO v.fluent.name v.fluent.args
def OutV (d:Domain) (v:Value_):Prop:=∃ f,fstF d.functions v.fluent.name=some f/\(v.n<f.lo\/f.hi<v.n)
def YeF (d:Domain) (all:List Param):List Bs->List Value_->Int
 | _,[]=>0
 | ks,v::r=>
  if fluM d all [] v.fluent.name v.fluent.args≠0 then fluM d all [] v.fluent.name v.fluent.args
  else if OutV d v then 14
  else if txtV v∈ks then 4
  else YeF d all (ks++ [txtV v]) r
def WQ (d:Domain) (all:List Param) (p:Problem):Bs × Int:=
 if p.domain≠d.name then (Yj2,8)
 else if YbA (fun a=>atomM d all [] a.name a.args) p.init≠0 then (wInitP,YbA (fun a=>atomM d all [] a.name a.args) p.init)
 else if YeF d all [] p.values≠0 then (YmG,YeF d all [] p.values)
 else if ∃ f∈d.functions,Ycp d.types all (p.values.map txtV) f.name f.params [] then (YmG,3)
 else (⟨#[]⟩,0)
theorem Yp7 {name:Bs} {args:List Bs} (h:fluM d all vars name args=0):∃ f,fstF d.functions name=some f/\args.length=f.params.length:=by
 unfold fluM at h;cases hf:fstF d.functions name with
 | none=>rw [hf] at h;cases h
 | some f=>
  rw [hf] at h;refine ⟨f,rfl,Classical.byContradiction fun h0=>?_⟩;simp only [YjM] at h;rw [if_pos h0] at h;cases h
theorem fstF_mem {l:List Function} {x:Bs} {f:Function} (h:fstF l x=some f):f∈l:=List.mem_of_find?_eq_some h
theorem Yoh (h:CkG fz v d p all) (hs:NmS d all) (hpf:∀ f∈d.functions,f.params.length<=64) (hvs:∀ x∈p.values,x.fluent.name.size<=1000/\∀ a∈x.fluent.args,a.size<=1000) (hal:all.length<=1000000000):
 QFn prog 108 [v] fz (resV (WQ d all p)):=by
 have h0:=h;obtain ⟨⟨vf,vpp,vg,vo,hck,hF,hPr,hFu,hO⟩,hw⟩:=h;obtain ⟨gc,v1,v2,v3,v4,v5,v6,u1,u2,u3,u4,u5,u6,u7,Aa,na,ca,rfl,hc,hD,hP,hall⟩:=hck;obtain ⟨A4,n4,b4,rfl,i4⟩:=hD.functions;obtain ⟨B2,m2,d2,rfl,i2⟩:=hP.init;obtain ⟨B3,m3,d3,rfl,i3⟩:=hP.values;obtain ⟨gf,mf,rfl,hgf,hmf⟩:=hFu;have l4:=i4.len;have l2:=i2.len;have l3:=i3.len;have s4:=i4.short;have s2:=i2.short;have s3:=i3.short;refine qF Tryz.func108 Tryz.ntmps108 (fun w0=>?_);refine vC ?_ ?_<;>intro x1
 ·exact vS (h:=by exact (by rw [WQ,if_pos x1];rfl))
 have hdn:¬p.domain≠d.name:=fun h=>h x1
 refine zV ?_;refine Yav m2 (fun k=>[(32,Zk k),(31,Zk m2),(30,Zc B2 m2 d2),(0,Zp gc)]) [] (fun k=>(∀ i,i<k->∀ a,p.init[i]?=some a->atomM d all [] a.name a.args=0)) (fun i hi=>absurd hi Zi) ?_;intro k hk hh;refine vC ?_ ?_<;>intro c1
 ·obtain ⟨x,hx⟩:=Ye (l:=p.init) (k:=k) Zi;refine vI i2 hx (fun p1 hp=>?_);refine zL hp ?_;intro cs hcs;obtain ⟨va,rfl,hR⟩:=XA hcs;obtain ⟨Ap,np,cp,rfl,ia⟩:=hR.args;refine zV ?_;intros;refine zc (Ymr h0 (Sl.nil (A:=none) (c:=0)) ia) ?_;by_cases hz:atomM d all [] x.name x.args=0
  ·rw [hz,show errV 0=.nilIface from rfl];exact vM (h:=by exact YL (p:=fun a:Atom=>atomM d all [] a.name a.args=0) hh hx hz)
  rw [Yg hz];have e1:YbA (fun a:Atom=>atomM d all [] a.name a.args) p.init=atomM d all [] x.name x.args:=Yhi (E:=fun a:Atom=>atomM d all [] a.name a.args) hx hh hz;exact vS (h:=by exact (by rw [WQ,if_neg hdn,e1,if_pos hz,resV,Yg hz];rfl))
 have hA:=Xu hh Zi;have e1:YbA (fun a:Atom=>atomM d all [] a.name a.args) p.init=0:=Yet hA;refine zV ?_;refine Ya (Ybp (fun gm=>?_));refine zV ?_;refine Yi (fun q σ fz' H'=>∃ (k:Nat) (ms:List (Bs × Value)),k<=m3/\q=m3 - k/\σ=[(53,Zk k),(52,Zk m3),(51,Zc B3 m3 d3),(7,.map (some gm)),(0,Zp gc)]/\fz=fz'/\H'=[(gm,mapS ms)]/\Ydp ms ((p.values.take k).map txtV)/\YeF d all [] p.values=YeF d all ((p.values.take k).map txtV) (p.values.drop k)) ⟨0,[],Z0 _,rfl,rfl,rfl,rfl,Ydp.nil,rfl⟩ Zw Zb ?_;rintro q σ fz' H' ⟨k,ms,hk,rfl,rfl,rfl,rfl,hS,hV⟩;refine vC ?_ ?_<;>intro c2
 ·obtain ⟨x,hx⟩:=Ye (l:=p.values) (k:=k) Zi;have hxm:=Zm hx;obtain ⟨hx1,hx2⟩:=hvs x hxm;have hdr:p.values.drop k=x::p.values.drop (k+1):=by
   rw [List.drop_eq_getElem_cons Zi,(Zg hx).2]
  rw [hdr,YeF] at hV;refine vI i3 hx (fun p1 hp=>?_);refine zL hp ?_;intro cs hcs;obtain ⟨va,rfl,hR⟩:=Yam hcs;obtain ⟨Ap,np,cp,rfl,ia⟩:=hR.fluent.args;have la:=ia.len;refine zV ?_;intros;refine zc (YhC h0 (Sl.nil (A:=none) (c:=0)) ia) ?_;by_cases hz:fluM d all [] x.fluent.name x.fluent.args=0
  ·obtain ⟨f,hf,hfl⟩:=Yp7 hz;have hfp:=hpf f (fstF_mem hf);have hag:NmsS x.fluent.args:=⟨by omega,hx2⟩;obtain ⟨C,n5,c5,hv5,h5⟩:=(hmf x.fluent.name).2 f hf;rw [hz,show errV 0=.nilIface from rfl];rw [hz,if_neg Zh] at hV;refine zWN ?_;refine XF [_,_] ?_;refine wG ?_;refine YbE (v:=.agg #[Zy f.name,Zc C n5 c5,Zk f.lo,Zk f.hi]) hgf ?_ (hv:=by rw [Ymb,hv5];rfl);refine pU ?_;refine Yj (Y7 (fun gv=>⟨⟨Zd,Zx⟩,?_⟩));refine Ch.hard0 (YG ?_);refine Ch.done ?_;have hout:∀ {z:Int},OutV d x->YeF d all [] p.values=14:=fun ho=>by rw [hV,if_pos ho]
   have hnz:(14:Int)≠0:=by decide
   refine wC ?_ ?_<;>intro c3
   ·have e3:=hout (z:=0) ⟨f,hf,.inl c3⟩;exact vS (h:=by exact (by rw [WQ,if_neg hdn,e1,if_neg Zh,e3,if_pos Zh];rfl))
   refine wC ?_ ?_<;>intro c4
   ·have e3:=hout (z:=0) ⟨f,hf,.inr c4⟩;exact vS (h:=by exact (by rw [WQ,if_neg hdn,e1,if_neg Zh,e3,if_pos Zh];rfl))
   have hno:¬OutV d x:=by
    rintro ⟨f',hf',h9⟩;rw [hf] at hf';injection hf' with hf'
    subst hf';exact h9.elim c3 c4
   rw [if_neg hno] at hV;refine vc (YoN ia hx1 hag) ?_;refine vG ?_;refine Ybe (v:=Zo (decide (txtV x∈(p.values.take k).map txtV))) 2 hS.get ?_;by_cases hm:txtV x∈(p.values.take k).map txtV
   ·rw [if_pos hm] at hV;rw [decide_eq_true hm];exact vS (h:=by exact (by rw [WQ,if_neg hdn,e1,if_neg Zh,hV,if_pos Zh];rfl))
   rw [if_neg hm] at hV;rw [decide_eq_false hm];refine vc (YoN ia hx1 hag) ?_;refine zV ?_;refine Yz (Wz (pre:=[_,_]) (Zr _) ?_);refine zV ?_;have htk:(p.values.take (k+1)).map txtV=(p.values.take k).map txtV++ [txtV x]:=by rw [List.take_add_one,hx];simp
   exact wP (h:=by exact ⟨k+1,_,by omega,rfl,rfl,rfl,rfl,by rw [htk];exact hS.add (txtV x),by rw [htk];exact hV⟩)
  rw [Yg hz];rw [if_pos hz] at hV;exact vS (h:=by exact (by rw [WQ,if_neg hdn,e1,if_neg Zh,hV,if_pos hz,resV,Yg hz];rfl))
 have hk3:k=m3:=by omega
 rw [List.drop_eq_nil_of_le Zi,YeF] at hV;rw [Zl Zi] at hS;refine zVX ?_
 first | refine Wp.freeze Zz (fun fz2 hl2 hm2=>?_) | refine Seq.freeze Zz (fun fz2 hl2 hm2=>?_)
 have h2:=h0.mono hl2;have i42:=i4.mono hl2;have hc2:=hl2 _ _ hc;refine zV ?_;refine Yi (fun q σ fz' H'=>∃ k:Nat,k<=n4/\q=n4 - k/\σ=[(114,Zk k),(113,Zk n4),(112,Zc A4 n4 b4),(7,.map (some gm)),(0,Zp gc)]/\fz2=fz'/\H'=[]/\(∀ i,i<k->∀ f,d.functions[i]?=some f->¬Ycp d.types all (p.values.map txtV) f.name f.params [])) ⟨0,Z0 _,rfl,rfl,rfl,rfl,fun i hi=>absurd hi Zi⟩ Zw Zb ?_;rintro q σ fz' H' ⟨k,hk,rfl,rfl,rfl,rfl,hh⟩;refine vC ?_ ?_<;>intro c3
 ·obtain ⟨x,hx⟩:=Ye (l:=d.functions) (k:=k) Zi;have hxm:=Zm hx;refine vI i42 hx (fun p1 hp=>?_);refine zL hp ?_;intro cs hcs;obtain ⟨va,rfl,hR⟩:=YW hcs;obtain ⟨Ap,np,cp,rfl,ia⟩:=hR.params;have la:=ia.len;have hfp:=hpf x hxm;refine zV ?_;intros
  ((refine zG ?_);refine WJ (YkG x.params h2 hm2 hS ia (Sl.nil (A:=none) (c:=0)) rfl Zi Zi (hs.f x hxm) ⟨by simp,by simp⟩ hs.o hal) (fun f1=>?_) (fun f1=>?_))
  ·exact vS (h:=by exact (by rw [WQ,if_neg hdn,e1,if_neg Zh,hV,if_neg Zh,if_pos ⟨x,hxm,Zt f1⟩];rfl))
  exact vM (h:=by exact YL (p:=fun f:Function=>¬Ycp d.types all (p.values.map txtV) f.name f.params []) hh hx (Zf f1))
 have hM:=Xu (p:=fun f:Function=>¬Ycp d.types all (p.values.map txtV) f.name f.params []) hh Zi;exact vS (h:=by exact (by rw [WQ,if_neg hdn,e1,if_neg Zh,hV,if_neg Zh,if_neg (fun ⟨f,hf,h9⟩=>hM f hf h9)];rfl))
def Yh0 (d:Domain) (all:List Param) (p:Problem):Bs × Int:=
 let e:=if d.duratives=[] then formM d all [] p.goal else Ybr d all [] p.goal
 if e≠0 then (wGoalP,e) else (⟨#[]⟩,0)
theorem Ynj {e:Int} (he:(if d.duratives=[] then formM d all [] p.goal else Ybr d all [] p.goal)=e) (h:e≠0):resV (Yh0 d all p)=.tuple #[Zy wGoalP,errV e]:=by
 simp only [Yh0,he];rw [if_pos h];rfl
theorem Ynk {e:Int} (he:(if d.duratives=[] then formM d all [] p.goal else Ybr d all [] p.goal)=e) (h:e=0):resV (Yh0 d all p)=.tuple #[Ze,.nilIface]:=by
 simp only [Yh0,he];rw [if_neg (by rw [h];decide)];rfl
theorem cgoal_q (h:CkG fz v d p all) (hW:fW p.goal<=1000000000):
 QFn prog 109 [v] fz (resV (Yh0 d all p)):=by
 have h0:=h;obtain ⟨⟨vf,vpp,vg,vo,hck,hF,hPr,hFu,hO⟩,hw⟩:=h;obtain ⟨gc,v1,v2,v3,v4,v5,v6,u1,u2,u3,u4,u5,u6,u7,Aa,na,ca,rfl,hc,hD,hP,hall⟩:=hck;obtain ⟨A6,n6,b6,rfl,i6⟩:=hD.duratives;have hg:=hP.goal;obtain ⟨⟨B0,e0,j0,rfl,_⟩,⟨B1,e1,j1,rfl,_⟩,⟨B2,e2,j2,rfl,_⟩,⟨B3,e3,j3,rfl,_⟩⟩:=hP.goal.sls;have l6:=i6.len;refine qF Tryz.func109 Tryz.ntmps109 (fun w0=>?_);refine vG ?_;refine Yao ?_;refine vC ?_ ?_<;>intro x1
 ·have e5:(if d.duratives=[] then formM d all [] p.goal else Ybr d all [] p.goal)=Ybr d all [] p.goal:=if_neg (by intro h9;rw [h9] at l6;simp at l6;omega);refine vG ?_;refine Yao ?_;refine vG ?_;refine YbF (vs:=[Zy p.goal.op,Zy p.goal.name,Zc B0 e0 j0,Zc B1 e1 j1,Zc B2 e2 j2,Zc B3 e3 j3]) hc ?_;refine vG ?_;refine Ybu (Yhy h0 (Sl.nil (A:=none) (c:=0)) hg Zi) ?_;by_cases hz:Ybr d all [] p.goal=0
  ·rw [hz,show errV 0=.nilIface from rfl];exact vS (h:=by rw [Ynk e5 hz])
  rw [Yg hz];exact vS (h:=by exact (by rw [Ynj e5 hz,Yg hz];rfl))
 have e5:(if d.duratives=[] then formM d all [] p.goal else Ybr d all [] p.goal)=formM d all [] p.goal:=if_pos (List.eq_nil_of_length_eq_zero Zi);refine vG ?_;refine YbF (vs:=[Zy p.goal.op,Zy p.goal.name,Zc B0 e0 j0,Zc B1 e1 j1,Zc B2 e2 j2,Zc B3 e3 j3]) hc ?_;refine vG ?_;refine Ybu (YjI h0 (Sl.nil (A:=none) (c:=0)) hg Zi) ?_;by_cases hz:formM d all [] p.goal=0
 ·rw [hz,show errV 0=.nilIface from rfl];exact vS (h:=by rw [Ynk e5 hz])
 rw [Yg hz];exact vS (h:=by exact (by rw [Ynj e5 hz,Yg hz];rfl))
end Go.Proofs.YtiligkgjcmokbaaGreatDoor
