/- The texts PWalkG, PWalkH, PWalkI, PWalkJ, PCC, PCU, PCD, PCG, laid together. Conditions: none. -/
import Derived.Test.YtacfpcbladaohaaGreatDoorSAG
import Derived.Laws.StructEq
import Derived.Tactics
import Derived.Laws.StandIn
import Derived.Lib.Bytealg
set_option linter.all false
set_option maxHeartbeats 4000000
noncomputable section
set_option maxRecDepth 20000
open Go.Lx Go.RowKit
attribute [local instance 10] Classical.propDecidable
open Go.Proofs.Tryz (prog)
namespace Go.Proofs.YtacfpcbladaohaaGreatDoor
variable {α:Type} {fz fz':FZ} {s:Bs} {k c g n:Nat} {vk va ve vp v:Value} {H:HP} {t':TypeId} {x y:Operand} {A B:Option Addr} {ff:FuncId} {m:List (Bs × Value)} {d:Domain} {l:List α}
theorem XG {b:UInt8}:∀ {l:List UInt8},0<=Lib.indexByte l b↔b∈l
 | []=>by simp [Lib.indexByte]
 | x::r=>by
  have ih:=XG (b:=b) (l:=r);simp only [Lib.indexByte,List.mem_cons];split
  ·rename_i h;have:x=b:=by simpa using h
   simp [this]
  rename_i h;have hx:¬b=x:=by
   intro h0;subst h0;simp at h
  simp only [hx,false_or];split
  ·rename_i h1;rw [<- ih,eq_of_beq h1]
  rename_i h1;have h2:Lib.indexByte r b≠ -1:=by simpa using h1
  have:=Lib.indexByte_ge r b;rw [<- ih];omega
theorem sibs_q {n:Int}:QFn prog 298 [Zy s,.int .u8 n] fz (Zk (Lib.indexByte s.data.toList n.toNat.toUInt8)):=by
 refine qF Tryz.func298 Tryz.ntmps298 (fun w0=>?_);refine zW ?_;refine Seq.q rfl (DoesQ.of (v:=Zk (Lib.indexByte s.data.toList n.toNat.toUInt8)) ?_ fun ρ w hr hi=>?_)
 ·exact wR (h:=rfl)
 have h5:ρ (.tmp 5)=Zy s:=hr _ _ rfl;have h6:ρ (.tmp 6)=.int .u8 n:=hr _ _ rfl;have h7:ρ (.func 313)=.func (.func 313) #[] #[]:=hr _ _ rfl;have hrun:=run_callFunc_indexByte (P:=prog) Tryz.func313 Zj rfl (by rfl) (by rfl) #[Zy s,.int .u8 n] w;rw [Lib.run_indexByteString] at hrun;simp only [execOp,resolve,Deferred.ofValue,invoke,List.map_toArray,List.map_cons,List.map_nil,h5,h6,h7,Sem.run_bind,Sem.run_pure,Result.andThen_ok] at hrun ⊢;simp only [Array.empty_append,Array.append_empty];rw [hrun];exact ⟨rfl,Fr.refl _ _⟩
theorem ibs_q {n:Int}:QFn prog 274 [Zy s,.int .u8 n] fz (Zk (Lib.indexByte s.data.toList n.toNat.toUInt8)):=by
 refine qF Tryz.func274 Tryz.ntmps274 (fun w0=>?_);refine wc sibs_q ?_;exact wR (h:=rfl)
def UpC (n:Int):Prop:=65<=n/\n<=90
def SymL:List UInt8:=[45,95,63,58,60,62,61,43,42]
def LowC (b:UInt8):Prop:=LetP b.toNat\/DigP b.toNat\/b∈SymL
def AnyC (b:UInt8):Prop:=UpC b.toNat\/LowC b
def lowB (b:UInt8):UInt8:=if UpC b.toNat then b+32 else b
def lowS (s:Bs):Bs:=⟨(s.data.toList.map lowB).toArray⟩
def LowP (s:Bs):Prop:=s≠YaC/\s.size<=32/\∀ b∈s.data.toList,AnyC b
theorem Yoi {n:Int} (h:0<=n/\n<=255:=by omega):IntKind.u8.wrap n=n:=by
 simp only [IntKind.wrap,IntKind.signed,IntKind.bits];simp;omega
theorem byteV_up {b:UInt8} (h:UpC b.toNat):Value.int .u8 ((b.toNat:Int)+97 - 65)=Yax (lowB b):=by
 unfold UpC at h;have h2:(b+32).toNat=b.toNat+32:=by rw [UInt8.toNat_add];simp;omega
 unfold Yax lowB UpC;rw [if_pos h,h2]
 congr 1
 omega
theorem Yd9:s.data.toList.length=s.size:=by rw [Array.length_toList];rfl
theorem YmC (h:k<s.size):s.data.toList[k]?=some s[k]:=by
 rw [List.getElem?_eq_getElem (by rw [Yd9];exact h)];rfl
theorem set_mid {f:α->α} {x:α} (h:l[k]?=some x):((l.take k).map f++l.drop k).set k (f x)=(l.take (k+1)).map f++l.drop (k+1):=by
 have hk:k<l.length:=(Zg h).1;have hl:((l.take k).map f).length=k:=by simp;omega
 rw [List.set_append_right _ _ Zi,hl,Nat.sub_self,List.take_add_one,h];have:l.drop k=x::l.drop (k+1):=by
  rw [List.drop_eq_getElem_cons hk];rw [List.getElem?_eq_getElem hk] at h;cases h;rfl
 rw [this];simp
theorem Ycy {f:α->α} {x:α} (h:l[k]?=some x) (hf:f x=x):(l.take k).map f++l.drop k=(l.take (k+1)).map f++l.drop (k+1):=by
 rw [<- set_mid h,hf];have hk:k<l.length:=(Zg h).1;apply List.ext_getElem?;intro i;rw [List.getElem?_set];split
 ·rename_i he;subst he;have hl:((l.take k).map f).length=k:=by simp;omega
  rw [if_pos (by simp;omega),List.getElem?_append_right Zi,hl,Nat.sub_self,List.getElem?_drop,Nat.add_zero,h]
 rfl
theorem get_mid {f:α->α} {x:α} (h:l[k]?=some x):((l.take k).map f++l.drop k)[k]?=some x:=by
 have hk:k<l.length:=(Zg h).1;have hl:((l.take k).map f).length=k:=by simp;omega
 rw [List.getElem?_append_right Zi,hl,Nat.sub_self,List.getElem?_drop,Nat.add_zero,h]
theorem YbR {p:α->Prop} {x:α} (h:∀ b∈l.take k,p b) (hx:l[k]?=some x) (hp:p x):∀ b∈l.take (k+1),p b:=by
 rw [List.take_add_one,hx];intro b hb;rcases List.mem_append.1 hb with hb | hb
 ·exact h b hb
 simp at hb;subst hb;exact hp
theorem Ycu {b:UInt8} (h:¬UpC b.toNat):lowB b=b:=if_neg h
theorem Ye9 {b:UInt8}:((b.toNat:Int).toNat).toUInt8=b:=by simp [Nat.toUInt8]
theorem Ypc:QFn prog 222 [Zy s] fz (.tuple #[Zy (if LowP s then lowS s else YaC),Zo (decide (LowP s))]):=by
 refine GFn.quiet ?_;have no:¬LowP s->Value.tuple #[Zy YaC,Zo false]=.tuple #[Zy (if LowP s then lowS s else YaC),Zo (decide (LowP s))]:=fun h=>by rw [if_neg h,decide_eq_false h]
 refine zF Tryz.func222 Tryz.ntmps222 (fun w0=>?_);refine wC ?_ ?_<;>intro c1
 ·exact wS (h:=by exact no (fun h=>h.1 c1))
 refine wC ?_ ?_<;>intro c2
 ·exact wS (h:=by exact no (fun h=>by have:=h.2.1;omega))
 refine zW ?_;refine Ya (k_bytes (fun g k0=>?_));have hz:s.size<=32:=by omega
 refine zW ?_;refine Yi (fun q σ fz' H'=>∃ k:Nat,k<=s.size/\q=s.size - k/\σ=[(18,Zk k),(17,Zk s.size),(16,Zv g s.size (s.size+k0)),(4,Zv g s.size (s.size+k0))]/\fz=fz'/\
  H'=[(g,Yce 5 ((s.data.toList.take k).map lowB++s.data.toList.drop k) k0)]/\(∀ b∈s.data.toList.take k,AnyC b)) ⟨0,Z0 _,rfl,rfl,rfl,rfl,by simp⟩ Zw Zb ?_
 rintro q σ fz' H' ⟨k,hk,rfl,rfl,rfl,rfl,hh⟩;have hlen:((s.data.toList.take k).map lowB++s.data.toList.drop k).length=s.size:=by
  have:=Yd9 (s:=s);simp only [List.length_append,List.length_map,List.length_take,List.length_drop];omega
 refine wC ?_ ?_<;>intro c3
 ·obtain ⟨b,hb⟩:∃ b,s.data.toList[k]?=some b:=⟨_,YmC Zi⟩;have hlt:=b.toNat_lt;have bad:¬AnyC b->¬LowP s:=fun h0 h1=>h0 (h1.2.2 b (Zm hb))
  refine wG ?_;refine Xn T Zz Zz Zz Zz Zz Zz Zi Zi ?_;refine zG ?_;refine Ylj 0 (get_mid hb) ?_;refine wC ?_ ?_<;>intro d1
  ·refine wC ?_ ?_<;>intro d2
   ·refine wG ?_;refine YeQ Zz Zz (Yoi) ?_;refine zG ?_;refine YoO Zz Zz (Yoi) ?_;refine zG ?_;refine Xn T Zz Zz Zz Zz Zz Zz Zi Zi ?_;refine YA (Yko (pre:=[]) (congrArg some (byteV_up ⟨d1,d2⟩)) rfl ?_ (hj:=by rw [hlen];exact (by omega:k<s.size)));exact wP (h:=by exact ⟨k+1,by omega,rfl,rfl,rfl,by rw [<- set_mid hb],YbR hh hb (.inl ⟨d1,d2⟩)⟩)
   have nu:¬UpC b.toNat:=fun h0=>d2 h0.2
   refine wC ?_ ?_<;>intro d3
   ·refine wC ?_ ?_<;>intro d4
    ·exact wP (h:=by exact ⟨k+1,by omega,rfl,rfl,rfl,by rw [<- Ycy hb (Ycu nu)],YbR hh hb (.inr (.inl ⟨d3,d4⟩))⟩)
    have nl:¬LetP b.toNat:=fun h0=>d4 h0.2
    refine wb (Yjb (n:=b.toNat)) (fun f1=>?_) (fun f1=>?_)
    ·exact wP (h:=by exact ⟨k+1,by omega,rfl,rfl,rfl,by rw [<- Ycy hb (Ycu nu)],YbR hh hb (.inr (.inr (.inl (Zt f1))))⟩)
    refine wc (ibs_q (n:=b.toNat)) ?_;refine zC ?_ ?_<;>intro e1
    ·exact wP (h:=by exact ⟨k+1,by omega,rfl,rfl,rfl,by rw [<- Ycy hb (Ycu nu)],YbR hh hb (.inr (.inr (.inr (by rw [XG,Ye9] at e1;exact e1))))⟩)
    refine zW ?_;exact ret2 rfl rfl rfl Zb (no (bad (fun h0=>by
     rcases h0 with h0 | h0 | h0 | h0
     ·exact nu h0
     ·exact nl h0
     ·exact Zf f1 h0
     exact e1 (XG.2 (by rw [Ye9];exact h0)))))
   have nl:¬LetP b.toNat:=fun h0=>d3 h0.1
   refine wb (Yjb (n:=b.toNat)) (fun f1=>?_) (fun f1=>?_)
   ·exact wP (h:=by exact ⟨k+1,by omega,rfl,rfl,rfl,by rw [<- Ycy hb (Ycu nu)],YbR hh hb (.inr (.inr (.inl (Zt f1))))⟩)
   refine wc (ibs_q (n:=b.toNat)) ?_;refine zC ?_ ?_<;>intro e1
   ·exact wP (h:=by exact ⟨k+1,by omega,rfl,rfl,rfl,by rw [<- Ycy hb (Ycu nu)],YbR hh hb (.inr (.inr (.inr (by rw [XG,Ye9] at e1;exact e1))))⟩)
   refine zW ?_;exact ret2 rfl rfl rfl Zb (no (bad (fun h0=>by
    rcases h0 with h0 | h0 | h0 | h0
    ·exact nu h0
    ·exact nl h0
    ·exact Zf f1 h0
    exact e1 (XG.2 (by rw [Ye9];exact h0)))))
  have nu:¬UpC b.toNat:=fun h0=>d1 h0.1
  refine wC ?_ ?_<;>intro d3
  ·exact absurd d3 Zi
  have nl:¬LetP b.toNat:=fun h0=>d3 h0.1
  refine wb (Yjb (n:=b.toNat)) (fun f1=>?_) (fun f1=>?_)
  ·exact wP (h:=by exact ⟨k+1,by omega,rfl,rfl,rfl,by rw [<- Ycy hb (Ycu nu)],YbR hh hb (.inr (.inr (.inl (Zt f1))))⟩)
  refine wc (ibs_q (n:=b.toNat)) ?_;refine zC ?_ ?_<;>intro e1
  ·exact wP (h:=by exact ⟨k+1,by omega,rfl,rfl,rfl,by rw [<- Ycy hb (Ycu nu)],YbR hh hb (.inr (.inr (.inr (by rw [XG,Ye9] at e1;exact e1))))⟩)
  refine zW ?_;exact ret2 rfl rfl rfl Zb (no (bad (fun h0=>by
   rcases h0 with h0 | h0 | h0 | h0
   ·exact nu h0
   ·exact nl h0
   ·exact Zf f1 h0
   exact e1 (XG.2 (by rw [Ye9];exact h0)))))
 rw [show s.data.toList.take k=s.data.toList from Zl (by rw [Yd9];omega),show s.data.toList.drop k=[] from List.drop_eq_nil_of_le (by rw [Yd9];omega),List.append_nil] at*;have hP:LowP s:=⟨c1,by omega,hh⟩;refine wG ?_;refine Ylg 0 hlen ?_;exact wS (h:=by exact (by rw [if_pos hP,decide_eq_true hP];rfl))
def WordT (s:Bs):Prop:=s≠YaC/\s.size<=32/\(∀ b∈s.data.toList,LowC b)/\¬NumP s
def Yjq (x:Sexpr):Prop:=(x.kind=1/\WordT x.text/\x.value=0/\x.kids=[])\/(x.kind=2/\x.text=YaC/\x.kids=[]/\Yex x.value)\/(x.kind=3/\x.text=YaC/\x.value=0)
abbrev XOk (x:Sexpr):Prop:=XAll Yjq x
def XVal (x:Sexpr):Prop:=XOk x/\xdepth x<=32/\xcount x<=4096
theorem Ypd:(lowS s).size=s.size:=by
 have:=Yd9 (s:=s);simp only [lowS,ByteArray.size,List.size_toArray,List.length_map];exact this
theorem lowB_fix {b:UInt8} (h:lowB b=b):¬UpC b.toNat:=by
 intro hu;rw [lowB,if_pos hu] at h;have h1:=congrArg UInt8.toNat h;unfold UpC at hu;rw [UInt8.toNat_add] at h1;simp at h1;omega
theorem Ypb {α:Type} {f:α->α}:∀ {l:List α},l.map f=l->∀ x∈l,f x=x
 | [],_,_,hx=>by cases hx
 | a::r,h,x,hx=>by
  simp only [List.map_cons,List.cons.injEq] at h;rcases List.mem_cons.1 hx with rfl | hx
  ·exact h.1
  exact Ypb h.2 x hx
theorem YpQ {α:Type} {f:α->α}:∀ {l:List α},(∀ x∈l,f x=x)->l.map f=l
 | [],_=>rfl
 | a::r,h=>by rw [List.map_cons,h a (by simp),YpQ (fun x hx=>h x (by simp [hx]))]
theorem low_upc {b:UInt8} (h:LowC b):¬UpC b.toNat:=by
 unfold LowC LetP DigP SymL at h;unfold UpC;rcases h with h | h | h
 ·omega
 ·omega
 simp only [List.mem_cons,List.not_mem_nil,or_false] at h;rcases h with rfl | rfl | rfl | rfl | rfl | rfl | rfl | rfl | rfl<;>decide
theorem Yls:LowP s/\lowS s=s↔s≠YaC/\s.size<=32/\∀ b∈s.data.toList,LowC b:=by
 constructor
 ·rintro ⟨⟨h1,h2,h3⟩,h4⟩;refine ⟨h1,h2,fun b hb=>?_⟩;have h5:s.data.toList.map lowB=s.data.toList:=by
   have:=congrArg (fun t:Bs=>t.data.toList) h4;simpa [lowS] using this
  exact (h3 b hb).resolve_left (lowB_fix (Ypb h5 b hb))
 rintro ⟨h1,h2,h3⟩;refine ⟨⟨h1,h2,fun b hb=>.inr (h3 b hb)⟩,?_⟩;have:=YpQ (f:=lowB) (l:=s.data.toList) (fun b hb=>if_neg (low_upc (h3 b hb)));unfold lowS;rw [this]
def cntO (c:Int):Obj:=Zu #[Zk c] 3
def XBud (g:Nat) (x:Sexpr) (d c:Nat) (v:Value) (H':HP):Prop:=
 ∃ (b:Bool) (c':Int),v=Zo b/\H'=[(g,cntO c')]/\(b=true->c'=((c+xcount x:Nat):Int))/\(b=true↔XOk x/\d+xdepth x<=32/\c+xcount x<=4096)
theorem Yii {x:Sexpr} {d:Nat} {c':Int} (h:¬(XOk x/\d+xdepth x<=32/\c+xcount x<=4096)):XBud g x d c (Zo false) [(g,cntO c')]:=⟨false,c',rfl,rfl,(by simp),iff_of_false (by simp) h⟩
theorem Yjz {g:Nat} {x:Sexpr} {d c:Nat} (h:Yjq x) (hk:x.kids=[]) (hd:d<=32) (h3:x.kind≠3:=by omega) (hc:c+1<=4096:=by omega):XBud g x d c (Zo true) [(g,cntO (c+1:Nat))]:=by
 have h1:xcount x=1:=by rw [YfY,hk];simp [xcountL]
 have h2:xdepth x=0:=by rw [YfX,hk,if_neg h3];simp [xdepthL]
 exact ⟨true,_,rfl,rfl,fun _=>by rw [h1],iff_of_true rfl ⟨Ybd.2 ⟨h,by rw [hk];simp⟩,by omega,by omega⟩⟩
theorem xnode1 {x:Sexpr} (h:x.kind=1):Yjq x↔WordT x.text/\x.value=0/\x.kids=[]:=by
 unfold Yjq;rw [h];simp
theorem xnode2 {x:Sexpr} (h:x.kind=2):Yjq x↔x.text=YaC/\x.kids=[]/\Yex x.value:=by
 unfold Yjq;rw [h];simp
theorem xnode3 {x:Sexpr} (h:x.kind=3):Yjq x↔x.text=YaC/\x.value=0:=by
 unfold Yjq;rw [h];simp
theorem Yn9:∀ (s:Nat) {fz:FZ} {x:Sexpr} {vk:Value} {g d c:Nat},SizeOf.sizeOf x<=s->Wu fz x vk->d<=32->c<=4096->
 GFn prog 130 [.agg #[Zk x.kind,Zk x.value,Zk x.line,Zk x.column,Zy x.text,vk],Zk d,Zp g] fz [(g,cntO c)] (fun v fz' H'=>Le fz fz'/\XBud g x d c v H')
 | 0,_,x,_,_,_,_,hs,_,_,_=>by cases x;simp at hs
 | s+1,fz,x,vk,g,d,c,hs,h,hd,hc=>by
  obtain ⟨A,n,ca,rfl,hk⟩:=h.kids;have no:∀ {c':Int},¬Yjq x->XBud g x d c (Zo false) [(g,cntO c')]:=fun h0=>Yii (fun h1=>h0 (Ybd.1 h1.1).1)
  have e1:=YfY x;have e2:=YfX x;unfold cntO;refine zF Tryz.func130 Tryz.ntmps130 (fun w0=>?_);refine pX (fun g0=>?_);refine wC ?_ ?_<;>intro c1
  ·refine zW ?_;exact ret1 rfl rfl (List.Sublist.cons _ (List.Sublist.refl _)) ⟨Zd,Yii (fun h0=>by omega)⟩
  refine wC (fun x1=>?_) (fun y1=>?_)
  ·have hn:=xnode1 x1;by_cases hL:LowP x.text
   ·have hq:=Ypc (fz:=fz) (s:=x.text);rw [if_pos hL,decide_eq_true hL] at hq;refine wc hq ?_;refine wC ?_ ?_<;>intro n1
    ·have hw:=(Yls.1 ⟨hL,n1⟩);refine wG ?_;refine Xu (Yo0 (s:=lowS x.text) (by unfold Short;rw [Ypd];exact h.text)) (fun f1=>?_) (fun f1=>?_)
     ·refine zW ?_;exact ret1 rfl rfl Zb ⟨Zd,no (fun h0=>(hn.1 h0).1.2.2.2 (by rw [<- n1];exact Zt f1))⟩
     refine zW ?_
     (((refine zC (fun n2=>?_) (fun n2=>?_));rotate_left 1;((refine zW ?_);(exact ret1 rfl rfl Zb ⟨Zd,no (fun h0=>n2 (hn.1 h0).2.1)⟩));(refine zW ?_)))
     (((refine zC (fun n3=>?_) (fun n3=>?_));rotate_left 1;((refine zW ?_);(exact ret1 rfl rfl Zb ⟨Zd,no (fun h0=>n3 ((len0 hk.len).2 (hn.1 h0).2.2))⟩));(refine zW ?_)));exact wR (h:=by exact ⟨Zd,Yjz (hn.2 ⟨⟨hw.1,hw.2.1,hw.2.2,by rw [<- n1];exact Zf f1⟩,n2,(len0 hk.len).1 n3⟩) ((len0 hk.len).1 n3) hd⟩)
    refine zW ?_;exact ret1 rfl rfl (List.Sublist.cons _ (List.Sublist.refl _)) ⟨Zd,no (fun h0=>n1 (Yls.2 ⟨(hn.1 h0).1.1,(hn.1 h0).1.2.1,(hn.1 h0).1.2.2.1⟩).2)⟩
   have hq:=Ypc (fz:=fz) (s:=x.text);rw [if_neg hL,decide_eq_false hL] at hq;refine wc hq ?_;refine zW ?_;exact ret1 rfl rfl (List.Sublist.cons _ (List.Sublist.refl _)) ⟨Zd,no (fun h0=>hL (Yls.2 ⟨(hn.1 h0).1.1,(hn.1 h0).1.2.1,(hn.1 h0).1.2.2.1⟩).1)⟩
  refine wC (fun x2=>?_) (fun y2=>?_)
  ·have hn:=xnode2 x2;refine zW ?_
   (((refine zC (fun n1=>?_) (fun n1=>?_));rotate_left 1;((refine zW ?_);(exact ret1 rfl rfl Zb ⟨Zd,no (fun h0=>n1 (hn.1 h0).1)⟩));(refine zW ?_)))
   (((refine zC (fun n3=>?_) (fun n3=>?_));rotate_left 1;((refine zW ?_);(exact ret1 rfl rfl Zb ⟨Zd,no (fun h0=>n3 ((len0 hk.len).2 (hn.1 h0).2.1))⟩));(refine zW ?_)))
   (((refine zC (fun n4=>?_) (fun n4=>?_));rotate_left 1;((refine zW ?_);(exact ret1 rfl rfl Zb ⟨Zd,no (fun h0=>n4 (hn.1 h0).2.2.1)⟩));(refine zW ?_)))
   (((refine zC (fun n5=>?_) (fun n5=>?_));rotate_left 1;((refine zW ?_);(exact ret1 rfl rfl Zb ⟨Zd,no (fun h0=>n5 (hn.1 h0).2.2.2)⟩));(refine zW ?_)));exact wR (h:=by exact ⟨Zd,Yjz (hn.2 ⟨n1,(len0 hk.len).1 n3,n4,n5⟩) ((len0 hk.len).1 n3) hd⟩)
  refine wC (fun x3=>?_) (fun y3=>?_)
  ·have hn:=xnode3 x3;rw [if_pos x3] at e2;have sk:=hk.short;have lk:=hk.len;refine zW ?_
   (((refine zC (fun n1=>?_) (fun n1=>?_));((refine zW ?_);(exact ret1 rfl rfl Zb ⟨Zd,no (fun h0=>n1 (hn.1 h0).1)⟩));(refine zW ?_)))
   (((refine zC (fun n2=>?_) (fun n2=>?_));((refine zW ?_);(exact ret1 rfl rfl Zb ⟨Zd,no (fun h0=>n2 (hn.1 h0).2)⟩));(refine zW ?_)))
   (((refine zC (fun n3=>?_) (fun n3=>?_));((refine zW ?_);(exact ret1 rfl rfl Zb ⟨Zd,Yii (fun h0=>by omega)⟩));(refine zW ?_)));refine Yi (fun mm σ fz' H'=>∃ k:Nat,k<=n/\mm=n - k/\σ=[(91,Zk k),(90,Zk n),(89,Zc A n ca),(2,Zp g),(1,Zk d)]/\Le fz fz'/\H'=[(g,Zu #[Zk (c+1+xcountL (x.kids.take k):Nat)] 3)]/\(∀ i,i<k->∀ y,x.kids[i]?=some y->XOk y/\d+1+xdepth y<=32)/\c+1+xcountL (x.kids.take k)<=4096) ⟨0,Z0 _,rfl,rfl,Zd,rfl,(fun i hi=>absurd hi Zi),by simp [xcountL];omega⟩ Zw Zb ?_;rintro _ σ fz' H' ⟨k,hkn,rfl,rfl,hle,rfl,hh,hcc⟩;have hk2:=hk.mono hle;refine wC ?_ ?_<;>intro c2
   ·obtain ⟨y,hy⟩:=Yc (l:=x.kids) (k:=k) Zi;have hym:=Zm hy;have hlt:=Sexpr.kids_lt hym;have hst:=Yjx hy;have htk:=Yjw (l:=x.kids) (k:=k+1);refine zW ?_;refine zI hk2 hy (fun p1 hp1=>?_);refine zL hp1 ?_;intro cs hcs;obtain ⟨wk,rfl,hRy⟩:=YB hcs;obtain ⟨A1,n6,b1,rfl,_⟩:=hRy.kids;refine zW ?_;intros
    first | refine Wp.perm (List.Perm.swap _ _ _) ?_ | refine Seq.perm (List.Perm.swap _ _ _) ?_
    refine Ya (Yh [_] [_] Zz (Yn9 s (x:=y) (d:=d+1) (c:=c+1+xcountL (x.kids.take k)) Zi hRy Zi hcc) (fun v5 fz5 H5 hle5 hR5=>?_));obtain ⟨_,b5,c5,rfl,rfl,hc5,hb5⟩:=hR5;cases b5
    ·refine zW ?_;exact ret1 rfl rfl Zb ⟨hle.trans hle5,Yii (fun h0=>absurd (hb5.2 ⟨(Ybd.1 h0.1).2 y hym,by have:=(YeC (l:=x.kids)).1 (Zs _) y hym;omega,by omega⟩) (by simp))⟩
    have hc5:=hc5 rfl;have hb5:=hb5.1 rfl;subst hc5;exact wP (h:=by exact ⟨k+1,by omega,rfl,rfl,hle.trans hle5,by rw [hst,<- Nat.add_assoc],Yx hh hy ⟨hb5.1,hb5.2.1⟩,by omega⟩)
   rw [show x.kids.take k=x.kids from Zl Zi] at hcc ⊢;have hK:=YQ hh Zi;refine zW ?_;exact ret1 rfl rfl (List.Sublist.refl _) ⟨hle,true,_,rfl,rfl,fun _=>by rw [e1];simp only [Nat.add_assoc],iff_of_true rfl ⟨Ybd.2 ⟨hn.2 ⟨n1,n2⟩,fun y hy=>(hK y hy).1⟩,by
    have e3:xdepthL x.kids<=31 - d:=YeC.2 (fun y hy=>by have:=(hK y hy).2;omega);omega,by omega⟩⟩
  refine zW ?_;exact ret1 rfl rfl Zb ⟨Zd,no (fun h0=>by rcases h0 with h0 | h0 | h0;exact y1 h0.1;exact y2 h0.1;exact y3 h0.1)⟩
theorem YfD {x:Sexpr} (h:Wu fz x vk):QFn prog 53 [.agg #[Zk x.kind,Zk x.value,Zk x.line,Zk x.column,Zy x.text,vk]] fz (Zo (decide (XVal x))):=by
 obtain ⟨A,n,ca,rfl,hk⟩:=h.kids;refine qF Tryz.func53 Tryz.ntmps53 (fun w0=>?_);refine pX (fun g0=>?_);refine zW ?_;intros;refine Ya (Yh [_] [_] Zz (Yn9 _ (d:=0) (c:=0) (Zs _) h Zi Zi) (fun v5 fz5 H5 hle5 hR5=>?_));obtain ⟨_,b5,c5,rfl,rfl,hc5,hb5⟩:=hR5;refine zW ?_;have hb:(b5=true)↔XVal x:=by rw [hb5];unfold XVal;simp only [Nat.zero_add]
 have hd:decide (XVal x)=b5:=by cases b5<;>simp_all
 exact zR (h:=by rw [hd])
def errV:Int->Value:=fun n=>if n=0 then .nilIface else .iface 86 (Zk n)
theorem Yq {n:Int} (h:n≠0):errV n=.iface 86 (Zk n):=if_neg h
def ESmN (e:Lx.Expr):Prop:=e.args.length<=1000000000
def FSmN (f:Formula):Prop:=f.args.length<=1000000000/\f.params.length<=1000000000/\f.kids.length<=1000000000
abbrev ESm (e:Lx.Expr):Prop:=EAll ESmN e
abbrev FSm (f:Formula):Prop:=FAll FSmN ESmN f
theorem Yca:∀ (s:Nat) {e:Lx.Expr},SizeOf.sizeOf e<=s->EOk e->ESm e->EShape e
 | 0,e,h,_,_=>by cases e;simp at h
 | s+1,e,h,h1,h2=>by
  have h3:=YbT.1 h1;have h4:=YbT.1 h2;rcases h3.1 with h5 | h5 | h5
  ·exact .num h5.1
  ·exact .flu h5.1 h4.1
  obtain ⟨a,b,hab⟩:∃ a b,e.kids=[a,b]:=by
   match hK:e.kids,h5.2.2.2.2 with
   | [a,b],_=>exact ⟨a,b,rfl⟩
  have ka:a∈e.kids:=by rw [hab];simp
  have kb:b∈e.kids:=by rw [hab];simp
  have la:=Lx.Expr.kids_lt ka;have lb:=Lx.Expr.kids_lt kb;refine .bin (fun h0=>?_) (fun h0=>?_) hab (Yca s Zi (h3.2 a ka) (h4.2 a ka)) (Yca s Zi (h3.2 b kb) (h4.2 b kb))
  ·have h6:=h5.1;rw [h0] at h6;rcases h6 with h6 | h6 | h6<;>exact absurd (congrArg ByteArray.size h6) Zh
  have h6:=h5.1;rw [h0] at h6;rcases h6 with h6 | h6 | h6<;>exact absurd (congrArg ByteArray.size h6) Zh
theorem YgR:∀ (s:Nat) {f:Formula},SizeOf.sizeOf f<=s->FOk f->FSm f->FShape f
 | 0,f,h,_,_=>by cases f;simp at h
 | s+1,f,h,h1,h2=>by
  have h3:=XT.1 h1;have h4:=XT.1 h2;by_cases k1:f.op=kAtom
  ·exact .atom (.inl k1) h4.1.1
  by_cases k2:f.op=kSame
  ·exact .atom (.inr k2) h4.1.1
  by_cases k3:CmpOp f.op
  ·obtain ⟨_,⟨k,hk,hr⟩,_⟩:=h3.1;rw [WJ,if_neg (fun h0=>h0.elim k1 k2),if_pos k3] at hk;cases hk;obtain ⟨a,b,hab⟩:∃ a b,f.exprs=[a,b]:=by
    match hK:f.exprs,hr.2.1 with
    | [a,b],_=>exact ⟨a,b,rfl⟩
   have ka:a∈f.exprs:=by rw [hab];simp
   have kb:b∈f.exprs:=by rw [hab];simp
   exact .cmp k3 hab (Yca _ (Zs _) (h3.2.1 a ka) (h4.2.1 a ka)) (Yca _ (Zs _) (h3.2.1 b kb) (h4.2.1 b kb))
  exact .other k1 k2 k3 h4.1.2.1 h4.1.2.2 (fun k hk=>YgR s (by have:=Formula.kids_lt hk;omega) (h3.2.2 k hk) (h4.2.2 k hk))
theorem Yb9:∀ (s:Nat) {e:Lx.Expr},SizeOf.sizeOf e<=s->EOk e->ecount e<=xcount (X8 e)/\edepth e<=xdepth (X8 e)+1
 | 0,e,h,_=>by cases e;simp at h
 | s+1,e,h,h1=>by
  have h3:=YbT.1 h1;rw [exprX_eq,Yc2,Yep];split
  ·rename_i h0;have hk:=((YkI h0).1 h3.1).2.2.1;rw [hk];simp [ecountL,edepthL,numE,xcount,xcountL,xdepth]
  split
  ·rename_i h0;have hk:=((YkJ h0).1 h3.1).2.1;rw [hk];simp [ecountL,edepthL,Wg,YJ,xcount,xdepth]
  rename_i k1 k2;have h5:=(YkK k1 k2).1 h3.1;obtain ⟨a,b,hab⟩:∃ a b,e.kids=[a,b]:=by
   match hK:e.kids,h5.2.2.2.2 with
   | [a,b],_=>exact ⟨a,b,rfl⟩
  have ka:a∈e.kids:=by rw [hab];simp
  have kb:b∈e.kids:=by rw [hab];simp
  have la:=Yb9 s (by have:=Lx.Expr.kids_lt ka;omega) (h3.2 a ka);have lb:=Yb9 s (by have:=Lx.Expr.kids_lt kb;omega) (h3.2 b kb);rw [hab];simp only [ecountL,edepthL,YJ,xcount,xcountL,xdepth,xdepthL,List.map_cons,List.map_nil,Yl];simp;omega
theorem Yih {l:List Formula} (h:∀ k∈l,fcount k<=xcount (YY k)):fcountL l<=xcountL (l.map YY):=by
 induction l with
 | nil=>simp [fcountL]
 | cons a r ih=>
  have h1:=h a (by simp);have h2:=ih (fun k hk=>h k (by simp [hk]));simp only [fcountL,List.map_cons,xcountL];omega
theorem Yig {l:List Formula} (h:∀ k∈l,fdepth k<=xdepth (YY k)+1):fdepthL l<=xdepthL (l.map YY)+1:=by
 induction l with
 | nil=>simp [fdepthL]
 | cons a r ih=>
  have h1:=h a (by simp);have h2:=ih (fun k hk=>h k (by simp [hk]));simp only [fdepthL,List.map_cons,xdepthL];omega
theorem Ycx {l:List Sexpr}:xcount (YJ l)=1+xcountL l:=by simp [YJ,xcount]
theorem Ycw {l:List Sexpr}:xdepth (YJ l)=xdepthL l+1:=by simp [YJ,xdepth]
theorem YeZ:∀ (s:Nat) {f:Formula},SizeOf.sizeOf f<=s->FOk f->fcount f<=xcount (YY f)/\fdepth f<=xdepth (YY f)+1
 | 0,f,h,_=>by cases f;simp at h
 | s+1,f,h,h1=>by
  have h3:=XT.1 h1;obtain ⟨_,⟨k,hk,hr⟩,_⟩:=h3.1;rw [YfQ,Yem,YgY];by_cases k1:f.op=kAtom
  ·rw [WJ,if_pos (.inl k1)] at hk;cases hk;rw [List.eq_nil_of_length_eq_zero hr.2.1,List.eq_nil_of_length_eq_zero hr.2.2.1,if_pos k1];simp [ecountL,edepthL,fcountL,fdepthL,Wg,Ycx,Ycw]
  by_cases k2:f.op=kSame
  ·rw [WJ,if_pos (.inr k2)] at hk;cases hk;rw [List.eq_nil_of_length_eq_zero hr.2.1,List.eq_nil_of_length_eq_zero hr.2.2.1,if_neg k1,if_pos k2];simp [ecountL,edepthL,fcountL,fdepthL,Wg,Ycx,Ycw]
  by_cases k3:CmpOp f.op
  ·rw [WJ,if_neg (fun h0=>h0.elim k1 k2),if_pos k3] at hk;cases hk;obtain ⟨a,b,hab⟩:∃ a b,f.exprs=[a,b]:=by
    match hK:f.exprs,hr.2.1 with
    | [a,b],_=>exact ⟨a,b,rfl⟩
   have la:=Yb9 _ (Zs _) (h3.2.1 a (by rw [hab];simp));have lb:=Yb9 _ (Zs _) (h3.2.1 b (by rw [hab];simp));rw [hab,List.eq_nil_of_length_eq_zero hr.2.2.1,if_neg k1,if_neg k2,if_pos k3];simp only [ecountL,edepthL,fcountL,fdepthL,Ycx,Ycw,xcountL,xdepthL,List.map_cons,List.map_nil];omega
  have he:f.exprs=[]:=by
   refine List.eq_nil_of_length_eq_zero ?_;rw [hr.2.1];rw [WJ,if_neg (fun h0=>h0.elim k1 k2),if_neg k3] at hk;split at hk
   ·cases hk;rfl
   split at hk
   ·cases hk;rfl
   split at hk
   ·cases hk;rfl
   split at hk
   ·cases hk;rfl
   cases hk
  have c1:=Yih (l:=f.kids) (fun k hk=>(YeZ s (by have:=Formula.kids_lt hk;omega) (h3.2.2 k hk)).1);have c2:=Yig (l:=f.kids) (fun k hk=>(YeZ s (by have:=Formula.kids_lt hk;omega) (h3.2.2 k hk)).2);rw [he,if_neg k1,if_neg k2,if_neg k3,Ycx,Ycw,Ydu,Yhi];simp only [ecountL,edepthL];omega
def FVal (f:Formula):Prop:=FOk f/\XVal (YY f)
def EVal (e:Lx.Expr):Prop:=EOk e/\XVal (X8 e)
theorem YfN {f:Formula} (h:FormulaR fz f va vp ve vk) (hs:FSm f):
 QFn prog 25 [.agg #[Zy f.op,Zy f.name,va,vp,ve,vk]] fz (Zo (decide (FVal f))):=by
 obtain ⟨⟨A,n,ca,rfl,ha⟩,⟨B,m,cb,rfl,hp⟩,⟨C,r,cr,rfl,he⟩,⟨D,q,cq,rfl,hk⟩⟩:=h.sls;refine qF Tryz.func25 Tryz.ntmps25 (fun w0=>?_);refine pX (fun g0=>?_);refine zW ?_;intros;rename_i g1;refine Ya (Yh [_] [_] Zz (shaped_q (g:=g1) (d:=0) (c:=0) h Zi Zi) (fun v5 fz5 H5 hle5 hR5=>?_));obtain ⟨_,b5,c5,rfl,rfl,hc5,hb5⟩:=hR5;cases b5
 ·refine zW ?_
  (exact ret1 rfl rfl Zb (Yg (fun h0=>by
   have h1:=YeZ _ (Zs _) h0.1;exact absurd (hb5.2 ⟨h0.1,by have:=h0.2.2.1;omega,by have:=h0.2.2.2;omega⟩) (by simp))))
 have hb:=hb5.1 rfl;refine zW ?_;refine Wy (Yh [] _ Zz (YnW (h.mono hle5) (YgR _ (Zs _) hb.1 hs)) (fun v6 fz6 H6 hle6 hR6=>?_));obtain ⟨rfl,cs,rfl,hr⟩:=hR6;obtain ⟨vk6,rfl,hX⟩:=YB hr;refine wc (YfD hX) ?_;refine zW ?_;have hd:decide (FVal f)=decide (XVal (YY f)):=decide_eq_decide.2 ⟨fun h0=>h0.2,fun h0=>⟨hb.1,h0⟩⟩;exact zR (h:=by rw [hd])
theorem evalid_q {e:Lx.Expr} (h:ExprR fz e va vk) (hs:ESm e):
 QFn prog 320 [.agg #[Zy e.op,Zy e.name,Zk e.n,va,vk]] fz (Zo (decide (EVal e))):=by
 obtain ⟨⟨A,n,ca,rfl,ha⟩,⟨D,q,cq,rfl,hk⟩⟩:=h.sls;refine qF Tryz.func320 Tryz.ntmps320 (fun w0=>?_);refine pX (fun g0=>?_);refine zW ?_;intros;rename_i g1;refine Ya (Yh [_] [_] Zz (YmE (g:=g1) (d:=0) (c:=0) h Zi Zi) (fun v5 fz5 H5 hle5 hR5=>?_));obtain ⟨_,b5,c5,rfl,rfl,hc5,hb5⟩:=hR5;cases b5
 ·refine zW ?_
  (exact ret1 rfl rfl Zb (Yg (fun h0=>by
   have h1:=Yb9 _ (Zs _) h0.1;exact absurd (hb5.2 ⟨h0.1,by have:=h0.2.2.1;omega,by have:=h0.2.2.2;omega⟩) (by simp))))
 have hb:=hb5.1 rfl;refine zW ?_;refine Wy (Yh [] _ Zz (WF (h.mono hle5) (Yca _ (Zs _) hb.1 hs)) (fun v6 fz6 H6 hle6 hR6=>?_));obtain ⟨rfl,cs,rfl,hr⟩:=hR6;obtain ⟨vk6,rfl,hX⟩:=YB hr;refine wc (YfD hX) ?_;refine zW ?_;have hd:decide (EVal e)=decide (XVal (X8 e)):=decide_eq_decide.2 ⟨fun h0=>h0.2,fun h0=>⟨hb.1,h0⟩⟩;exact zR (h:=by rw [hd])
def Yjv:Sexpr:=.mk 0 0 0 0 ⟨#[]⟩ []
theorem Yck:SxIs fz (sxV 0 0 ⟨#[]⟩ Zn) Yjv:=⟨_,rfl,Ys (x:=Yjv) ⟨Wh,Wh,Wh,Wh,Y3,IsSl.nil⟩⟩
def WrR (P:Prop) (x:Sexpr) (v:Value) (fz':FZ) (H':HP):Prop:=H'=[]/\∃ u y,v=.tuple #[u,errV (if P then 0 else 2)]/\SxIs fz' u y/\(P->y=x)
theorem YmJ {f:Formula} (h:FormulaR fz f va vp ve vk) (hs:FSm f):
 GFn prog 164 [.agg #[Zy f.op,Zy f.name,va,vp,ve,vk]] fz [] (WrR (FVal f) (YY f)):=by
 obtain ⟨⟨A,n,ca,rfl,ha⟩,⟨B,m,cb,rfl,hp⟩,⟨C,r,cr,rfl,he⟩,⟨D,q,cq,rfl,hk⟩⟩:=h.sls;refine zF Tryz.func164 Tryz.ntmps164 (fun w0=>?_);refine pX (fun g0=>?_);refine zW ?_;intros;rename_i g1;refine zb (YfN h hs) (fun f1=>?_) (fun f1=>?_)
 ·have hv:=Zt f1;refine wK (q:=YnW h (YgR _ (Zs _) hv.1 hs)) (h:=fun v6 fz6 H6 hle6 hR6=>?_);obtain ⟨rfl,cs,rfl,hr⟩:=hR6;obtain ⟨vk6,rfl,hX⟩:=YB hr;obtain ⟨A6,n6,b6,rfl,_⟩:=hX.kids;refine zW ?_;refine YaW T (vs:=[.agg #[_,_,_,_,_,_],.nilIface]) ⟨⟨_,_,0,_,_,_,rfl,rfl,rfl,rfl,rfl,rfl⟩,rfl,trivial⟩ (fun fz3 hle3 hf3=>?_);exact ⟨rfl,_,_,by rw [if_pos hv];rfl,SxIs.mono hle3 ⟨_,rfl,Ys hX⟩,fun _=>rfl⟩
 have hv:=Zf f1;refine zW ?_;refine YaW T (vs:=[.agg #[_,_,_,_,_,_],_]) ⟨⟨_,_,0,_,_,_,rfl,rfl,rfl,rfl,rfl,rfl⟩,rfl,trivial⟩ (fun fz3 hle3 hf3=>?_);exact ⟨rfl,_,_,by rw [if_neg hv,Yq Zh];rfl,Yck,fun h0=>absurd h0 hv⟩
theorem eWrite_q {e:Lx.Expr} (h:ExprR fz e va vk) (hs:ESm e):
 GFn prog 305 [.agg #[Zy e.op,Zy e.name,Zk e.n,va,vk]] fz [] (WrR (EVal e) (X8 e)):=by
 obtain ⟨⟨A,n,ca,rfl,ha⟩,⟨D,q,cq,rfl,hk⟩⟩:=h.sls;refine zF Tryz.func305 Tryz.ntmps305 (fun w0=>?_);refine pX (fun g0=>?_);refine zW ?_;intros;rename_i g1;refine zb (evalid_q h hs) (fun f1=>?_) (fun f1=>?_)
 ·have hv:=Zt f1;refine wK (q:=WF h (Yca _ (Zs _) hv.1 hs)) (h:=fun v6 fz6 H6 hle6 hR6=>?_);obtain ⟨rfl,cs,rfl,hr⟩:=hR6;obtain ⟨vk6,rfl,hX⟩:=YB hr;obtain ⟨A6,n6,b6,rfl,_⟩:=hX.kids;refine zW ?_;refine YaW T (vs:=[.agg #[_,_,_,_,_,_],.nilIface]) ⟨⟨_,_,0,_,_,_,rfl,rfl,rfl,rfl,rfl,rfl⟩,rfl,trivial⟩ (fun fz3 hle3 hf3=>?_);exact ⟨rfl,_,_,by rw [if_pos hv];rfl,SxIs.mono hle3 ⟨_,rfl,Ys hX⟩,fun _=>rfl⟩
 have hv:=Zf f1;refine zW ?_;refine YaW T (vs:=[.agg #[_,_,_,_,_,_],_]) ⟨⟨_,_,0,_,_,_,rfl,rfl,rfl,rfl,rfl,rfl⟩,rfl,trivial⟩ (fun fz3 hle3 hf3=>?_);exact ⟨rfl,_,_,by rw [if_neg hv,Yq Zh];rfl,Yck,fun h0=>absurd h0 hv⟩
theorem toList_inj {a b:Bs}:a.toList=b.toList↔a=b:=by
 constructor
 ·intro h;rw [ByteArray.toList_eq,ByteArray.toList_eq] at h;cases a;cases b;simp only [ByteArray.mk.injEq];exact Array.toList_inj.1 h
 intro h;rw [h]
theorem eq_param (a b c d:Bs) (w:World):(Op.equalIn 10000 132 (.agg #[Zy a,Zy b]) (.agg #[Zy c,Zy d])).run prog w=.ok (decide (a=c/\b=d)) w:=by
 have u3:=Tryz.underlying9;have a3:=Tryz.isAgg9;have z3:=Tryz.sizeOf9;have hS:prog.underlying 132=some (.struct (prog.fieldsOf 132)):=by kernel_rfl
 rw [show (10000:Nat)=9999+1 from rfl,run_equalIn_agg w 9999 132 _ _ hS Zj];simp only [Program.fieldsOf,Tryz.underlying132]
 go_simp
 by_cases h1:a=c<;>by_cases h2:b=d<;>simp [h1,h2,toList_inj]
theorem Ylh {cx:Cx} {r:Operand->Option Value} {V:Value->Prop} {dst:Option Nat} {ty:TypeId} {pos:String} {af:Array Edge} {gd:Option (Nat × Bool)} {a b:Param} (hx:r x=some (.agg #[Zy a.name,Zy a.typ])) (hy:r y=some (.agg #[Zy b.name,Zy b.typ]))
 (ht:a≠b->V (.bool true)) (hf:a=b->V (.bool false)):DoesQ prog cx ⟨dst,.binOp .neq 132 x y t',ty,pos,af,gd⟩ r fz H V:=by
 have hab:a=b↔(a.name=b.name/\a.typ=b.typ):=by
  cases a;cases b;simp
 have hV:V (Zo (!decide (a.name=b.name/\a.typ=b.typ))):=by
  by_cases h:a=b
  ·rw [decide_eq_true (hab.1 h)];exact hf h
  rw [decide_eq_false (fun h0=>h (hab.2 h0))];exact ht h
 refine DoesQ.of hV fun ρ w hr hw=>?_
 have hg:=run_eqGuard_agg (P:=prog) w .neq 132 x y #[Zy a.name,Zy a.typ] #[Zy b.name,Zy b.typ] Zj;have hb:=run_neq_struct (P:=prog) w 132 #[Zy a.name,Zy a.typ] #[Zy b.name,Zy b.typ];rw [eq_param,Result.andThen_ok] at hb;have:(execOp ρ ⟨dst,.binOp .neq 132 x y t',ty,pos,af,gd⟩).run prog w=.ok (.value (.bool (!decide (a.name=b.name/\a.typ=b.typ)))) w:=by
  simp only [execOp,hr _ _ hx,hr _ _ hy,Sem.run_bind,hg,hb,Result.andThen_ok,Sem.run_pure]
 rw [this];exact ⟨rfl,Fr.refl _ _⟩
theorem Yda {m:List α} (h:∀ i,i<l.length->∀ x,l[i]?=some x->m[i]?=some x) (hl:l.length=m.length:=by omega):l=m:=by
 apply List.ext_getElem?;intro i;by_cases hi:i<l.length
 ·have hx:l[i]?=some l[i]:=List.getElem?_eq_getElem hi;rw [hx,h i hi _ hx]
 rw [List.getElem?_eq_none Zi,List.getElem?_eq_none Zi]
theorem YbD {p:Nat->α->Prop} {x:α} (h:∀ i,i<k->∀ x,l[i]?=some x->p i x) (hx:l[k]?=some x) (hp:p k x):∀ i,i<k+1->∀ x,l[i]?=some x->p i x:=fun i hi y hy=>by
 by_cases he:i=k
 ·subst he;rw [hx] at hy;cases hy;exact hp
 exact h i Zi y hy
theorem Yi9 {fz:FZ} {A B:Option Addr} {n c m d:Nat} {l1 l2} (h1:Sl strL fz A n c l1) (h2:Sl strL fz B m d l2):
 QFn prog 208 [Zc A n c,Zc B m d] fz (Zo (decide (l1=l2))):=by
 refine GFn.quiet ?_;have k1:=h1.len;have k2:=h2.len;have k3:=h1.short;have k4:=h2.short;refine zF Tryz.func208 Tryz.ntmps208 (fun w0=>?_);refine wC ?_ ?_<;>intro c1
 ·exact wR (h:=by exact Yg (fun h=>c1 (by rw [<- k1,<- k2,h])))
 refine zW ?_;refine XW n (fun k=>[(13,Zk k),(12,Zk n),(0,Zc A n c),(1,Zc B m d)]) [] (fun k=>(∀ i,i<k->∀ x,l1[i]?=some x->l2[i]?=some x)) (fun i hi=>absurd hi Zi) ?_;intro k hk hh;refine wC ?_ ?_<;>intro c2
 ·obtain ⟨x,hx⟩:=Yc (l:=l1) (k:=k) Zi;obtain ⟨y,hy⟩:=Yc (l:=l2) (k:=k) Zi;refine wI h1 hx (fun a ha=>?_);refine zH ha (fun sx=>?_);refine wI h2 hy (fun b hb=>?_);refine zH hb (fun sy=>?_);refine wC ?_ ?_<;>intro e1
  ·exact wR (h:=by exact Yg (fun h=>e1 (by rw [h,hy] at hx;exact (Option.some.inj hx).symm)))
  exact wM (h:=by exact YbD hh hx (by rw [hy,e1]))
 exact wR (h:=by exact Ym (Yda (fun i hi x hx=>hh i Zi x hx)))
theorem equalP_q {fz:FZ} {A B:Option Addr} {n c m d:Nat} {l1 l2} (h1:Sl paramL fz A n c l1) (h2:Sl paramL fz B m d l2):
 QFn prog 281 [Zc A n c,Zc B m d] fz (Zo (decide (l1=l2))):=by
 refine GFn.quiet ?_;have k1:=h1.len;have k2:=h2.len;have k3:=h1.short;have k4:=h2.short;refine zF Tryz.func281 Tryz.ntmps281 (fun w0=>?_);refine wC ?_ ?_<;>intro c1
 ·exact wR (h:=by exact Yg (fun h=>c1 (by rw [<- k1,<- k2,h])))
 refine zW ?_;refine XW n (fun k=>[(13,Zk k),(12,Zk n),(0,Zc A n c),(1,Zc B m d)]) [] (fun k=>(∀ i,i<k->∀ x,l1[i]?=some x->l2[i]?=some x)) (fun i hi=>absurd hi Zi) ?_;intro k hk hh;refine wC ?_ ?_<;>intro c2
 ·obtain ⟨x,hx⟩:=Yc (l:=l1) (k:=k) Zi;obtain ⟨y,hy⟩:=Yc (l:=l2) (k:=k) Zi;refine wI h1 hx (fun a ha=>?_)
  ((refine zL ha ?_;intro cs1 hcs1;obtain ⟨rfl,hR1⟩:=Yz hcs1));refine wI h2 hy (fun b hb=>?_)
  ((refine zL hb ?_;intro cs2 hcs2;obtain ⟨rfl,hR2⟩:=Yz hcs2));refine zW ?_
  (((refine zG ?_);refine Ylh Zz Zz (fun e1=>?_) (fun e1=>?_)))
  ·exact wR (h:=by exact Yg (fun h=>e1 (by rw [h,hy] at hx;exact (Option.some.inj hx).symm)))
  exact wM (h:=by exact YbD hh hx (by rw [hy,e1]))
 exact wR (h:=by exact Ym (Yda (fun i hi x hx=>hh i Zi x hx)))
theorem eqfE_q {m d:Nat} {l1 l2:List Lx.Expr} (h1:Sl exprL fz A n c l1) (h2:Sl exprL fz B m d l2) (hq:∀ x y cs ds,x∈l1->exprL.rep fz x cs->exprL.rep fz y ds->QFn prog ff [.agg (List.toArray cs),.agg (List.toArray ds)] fz (Zo (decide (x=y)))):
 QFn prog 282 [Zc A n c,Zc B m d,.func (.func ff) #[] #[]] fz (Zo (decide (l1=l2))):=by
 refine GFn.quiet ?_;have k1:=h1.len;have k2:=h2.len;have k3:=h1.short;have k4:=h2.short;refine zF Tryz.func282 Tryz.ntmps282 (fun w0=>?_);refine wC ?_ ?_<;>intro c1
 ·exact wR (h:=by exact Yg (fun h=>c1 (by rw [<- k1,<- k2,h])))
 refine zW ?_;refine XW n (fun k=>[(17,Zk k),(16,Zk n),(15,Zc A n c),(2,.func (.func ff) #[] #[]),(1,Zc B m d)]) [] (fun k=>(∀ i,i<k->∀ x,l1[i]?=some x->l2[i]?=some x)) (fun i hi=>absurd hi Zi) ?_;intro k hk hh;refine wC ?_ ?_<;>intro c2
 ·obtain ⟨x,hx⟩:=Yc (l:=l1) (k:=k) Zi;obtain ⟨y,hy⟩:=Yc (l:=l2) (k:=k) Zi;refine wI h1 hx (fun a ha=>?_);refine zL ha ?_;intro cs1 hcs1;have hq1:=fun y ds=>hq x y cs1 ds (Zm hx) hcs1
  obtain ⟨u1,u2,rfl,hR1⟩:=Yw hcs1
  ((obtain ⟨A1,n1,c1',rfl,ia1⟩:=hR1.args;obtain ⟨A2,n2,c2',rfl,ik1⟩:=hR1.kids));refine zW ?_;intros;refine zI h2 hy (fun b hb=>?_);refine zL hb ?_;intro cs2 hcs2;have hq2:=hq1 y cs2 hcs2;obtain ⟨w1,w2,rfl,hR2⟩:=Yw hcs2
  ((obtain ⟨A3,n3,c3',rfl,ia2⟩:=hR2.args;obtain ⟨A4,n4,c4',rfl,ik2⟩:=hR2.kids));refine zW ?_;intros
  ((refine zG ?_);refine XX Zz Zz Zz hq2 (fun e1=>?_) (fun e1=>?_))
  ·exact wM (h:=by exact YbD hh hx (by rw [hy,e1]))
  exact wR (h:=by exact Yg (fun h=>e1 (by rw [h,hy] at hx;exact (Option.some.inj hx).symm)))
 exact wR (h:=by exact Ym (Yda (fun i hi x hx=>hh i Zi x hx)))
theorem eqfF_q {m d:Nat} {l1 l2:List Lx.Formula} (h1:Sl formulaL fz A n c l1) (h2:Sl formulaL fz B m d l2) (hq:∀ x y cs ds,x∈l1->formulaL.rep fz x cs->formulaL.rep fz y ds->QFn prog ff [.agg (List.toArray cs),.agg (List.toArray ds)] fz (Zo (decide (x=y)))):
 QFn prog 284 [Zc A n c,Zc B m d,.func (.func ff) #[] #[]] fz (Zo (decide (l1=l2))):=by
 refine GFn.quiet ?_;have k1:=h1.len;have k2:=h2.len;have k3:=h1.short;have k4:=h2.short;refine zF Tryz.func284 Tryz.ntmps284 (fun w0=>?_);refine wC ?_ ?_<;>intro c1
 ·exact wR (h:=by exact Yg (fun h=>c1 (by rw [<- k1,<- k2,h])))
 refine zW ?_;refine XW n (fun k=>[(17,Zk k),(16,Zk n),(15,Zc A n c),(2,.func (.func ff) #[] #[]),(1,Zc B m d)]) [] (fun k=>(∀ i,i<k->∀ x,l1[i]?=some x->l2[i]?=some x)) (fun i hi=>absurd hi Zi) ?_;intro k hk hh;refine wC ?_ ?_<;>intro c2
 ·obtain ⟨x,hx⟩:=Yc (l:=l1) (k:=k) Zi;obtain ⟨y,hy⟩:=Yc (l:=l2) (k:=k) Zi;refine wI h1 hx (fun a ha=>?_);refine zL ha ?_;intro cs1 hcs1;have hq1:=fun y ds=>hq x y cs1 ds (Zm hx) hcs1
  obtain ⟨u1,u2,u3,u4,rfl,hR1⟩:=Yn hcs1
  ((obtain ⟨A1,n1,c1',rfl,ia1⟩:=hR1.args;obtain ⟨A2,n2,c2',rfl,ip1⟩:=hR1.params;obtain ⟨A3,n3,c3',rfl,ie1⟩:=hR1.exprs;obtain ⟨A4,n4,c4',rfl,ik1⟩:=hR1.kids));refine zW ?_;intros;refine zI h2 hy (fun b hb=>?_);refine zL hb ?_;intro cs2 hcs2;have hq2:=hq1 y cs2 hcs2;obtain ⟨w1,w2,w3,w4,rfl,hR2⟩:=Yn hcs2
  ((obtain ⟨A5,n5,c5',rfl,ia2⟩:=hR2.args;obtain ⟨A6,n6,c6',rfl,ip2⟩:=hR2.params;obtain ⟨A7,n7,c7',rfl,ie2⟩:=hR2.exprs;obtain ⟨A8,n8,c8',rfl,ik2⟩:=hR2.kids));refine zW ?_;intros
  ((refine zG ?_);refine XX Zz Zz Zz hq2 (fun e1=>?_) (fun e1=>?_))
  ·exact wM (h:=by exact YbD hh hx (by rw [hy,e1]))
  exact wR (h:=by exact Yg (fun h=>e1 (by rw [h,hy] at hx;exact (Option.some.inj hx).symm)))
 exact wR (h:=by exact Ym (Yda (fun i hi x hx=>hh i Zi x hx)))
theorem Ydh {a b:Lx.Expr}:a=b↔a.op=b.op/\a.name=b.name/\a.n=b.n/\a.args=b.args/\a.kids=b.kids:=by
 cases a;cases b;simp only [Lx.Expr.op,Lx.Expr.name,Lx.Expr.n,Lx.Expr.args,Lx.Expr.kids,Lx.Expr.mk.injEq]
theorem YcA {a b:Formula}:a=b↔a.op=b.op/\a.name=b.name/\a.args=b.args/\a.params=b.params/\a.exprs=b.exprs/\a.kids=b.kids:=by
 cases a;cases b;simp only [Formula.op,Formula.name,Formula.args,Formula.params,Formula.exprs,Formula.kids,Formula.mk.injEq]
theorem YhH:∀ (s:Nat) {fz:FZ} {a b:Lx.Expr} {va vk wa wk:Value},SizeOf.sizeOf a<=s->ExprR fz a va vk->ExprR fz b wa wk->
 QFn prog 283 [.agg #[Zy a.op,Zy a.name,Zk a.n,va,vk],.agg #[Zy b.op,Zy b.name,Zk b.n,wa,wk]] fz (Zo (decide (a=b)))
 | 0,_,e,_,_,_,_,_,hs,_,_=>by cases e;simp at hs
 | s+1,fz,a,b,va,vk,wa,wk,hs,hR1,hR2=>by
  refine GFn.quiet ?_
  ((obtain ⟨A1,n1,c1',rfl,ia1⟩:=hR1.args;obtain ⟨A2,n2,c2',rfl,ik1⟩:=hR1.kids))
  ((obtain ⟨A3,n3,c3',rfl,ia2⟩:=hR2.args;obtain ⟨A4,n4,c4',rfl,ik2⟩:=hR2.kids));refine zF Tryz.func283 Tryz.ntmps283 (fun w0=>?_);refine pX (fun g0=>?_);refine pY (fun g1=>?_);refine zW ?_
  (((refine zC (fun e1=>?_) (fun e1=>?_));rotate_left 1;((refine zW ?_);(exact ret1 rfl rfl Zb (Yg (fun h=>e1 (Ydh.1 h).1))));(refine zW ?_)))
  (((refine zC (fun e2=>?_) (fun e2=>?_));rotate_left 1;((refine zW ?_);(exact ret1 rfl rfl Zb (Yg (fun h=>e2 (Ydh.1 h).2.1))));(refine zW ?_)))
  (((refine zC (fun e3=>?_) (fun e3=>?_));rotate_left 1;((refine zW ?_);(exact ret1 rfl rfl Zb (Yg (fun h=>e3 (Ydh.1 h).2.2.1))));(refine zW ?_)));refine zb (Yi9 ia1 ia2) (fun f1=>?_) (fun f1=>?_)
  ·refine zW ?_
   ((refine zG ?_);refine Xu (eqfE_q ik1 ik2 (fun x y cs ds hx h1 h2=>by
    obtain ⟨u1,u2,rfl,h3⟩:=Yw h1;obtain ⟨w1,w2,rfl,h4⟩:=Yw h2;exact YhH s (by have:=Lx.Expr.kids_lt hx;omega) h3 h4)) (fun f2=>?_) (fun f2=>?_))
   ·exact wR (h:=by exact Ym (Ydh.2 ⟨e1,e2,e3,Zt f1,Zt f2⟩))
   exact wR (h:=by exact Yg (fun h=>Zf f2 (Ydh.1 h).2.2.2.2))
  exact wR (h:=by exact Yg (fun h=>Zf f1 (Ydh.1 h).2.2.2.1))
theorem same_f:∀ (s:Nat) {fz:FZ} {a b:Formula} {va vp ve vk wa wp we wk:Value},SizeOf.sizeOf a<=s->FormulaR fz a va vp ve vk->FormulaR fz b wa wp we wk->
 QFn prog 243 [.agg #[Zy a.op,Zy a.name,va,vp,ve,vk],.agg #[Zy b.op,Zy b.name,wa,wp,we,wk]] fz (Zo (decide (a=b)))
 | 0,_,e,_,_,_,_,_,_,_,_,_,hs,_,_=>by cases e;simp at hs
 | s+1,fz,a,b,va,vp,ve,vk,wa,wp,we,wk,hs,hR1,hR2=>by
  refine GFn.quiet ?_
  ((obtain ⟨A1,n1,c1',rfl,ia1⟩:=hR1.args;obtain ⟨A2,n2,c2',rfl,ip1⟩:=hR1.params;obtain ⟨A3,n3,c3',rfl,ie1⟩:=hR1.exprs;obtain ⟨A4,n4,c4',rfl,ik1⟩:=hR1.kids))
  ((obtain ⟨A5,n5,c5',rfl,ia2⟩:=hR2.args;obtain ⟨A6,n6,c6',rfl,ip2⟩:=hR2.params;obtain ⟨A7,n7,c7',rfl,ie2⟩:=hR2.exprs;obtain ⟨A8,n8,c8',rfl,ik2⟩:=hR2.kids));refine zF Tryz.func243 Tryz.ntmps243 (fun w0=>?_);refine pX (fun g0=>?_);refine pY (fun g1=>?_);refine zW ?_
  (((refine zC (fun e1=>?_) (fun e1=>?_));rotate_left 1;((refine zW ?_);(exact ret1 rfl rfl Zb (Yg (fun h=>e1 (YcA.1 h).1))));(refine zW ?_)))
  (((refine zC (fun e2=>?_) (fun e2=>?_));rotate_left 1;((refine zW ?_);(exact ret1 rfl rfl Zb (Yg (fun h=>e2 (YcA.1 h).2.1))));(refine zW ?_)));refine zb (Yi9 ia1 ia2) (fun f1=>?_) (fun f1=>?_)
  ·refine wb (equalP_q ip1 ip2) (fun f2=>?_) (fun f2=>?_)
   ·refine zW ?_
    ((refine zG ?_);refine Xu (eqfE_q ie1 ie2 (fun x y cs ds hx h1 h2=>by
     obtain ⟨u1,u2,rfl,h3⟩:=Yw h1;obtain ⟨w1,w2,rfl,h4⟩:=Yw h2;exact YhH _ (Zs _) h3 h4)) (fun f3=>?_) (fun f3=>?_))
    ·refine zW ?_
     ((refine zG ?_);refine Xu (eqfF_q ik1 ik2 (fun x y cs ds hx h1 h2=>by
      obtain ⟨u1,u2,u3,u4,rfl,h3⟩:=Yn h1;obtain ⟨w1,w2,w3,w4,rfl,h4⟩:=Yn h2;exact same_f s (by have:=Formula.kids_lt hx;omega) h3 h4)) (fun f4=>?_) (fun f4=>?_))
     ·exact wR (h:=by exact Ym (YcA.2 ⟨e1,e2,Zt f1,Zt f2,Zt f3,Zt f4⟩))
     exact wR (h:=by exact Yg (fun h=>Zf f4 (YcA.1 h).2.2.2.2.2))
    exact wR (h:=by exact Yg (fun h=>Zf f3 (YcA.1 h).2.2.2.2.1))
   exact wR (h:=by exact Yg (fun h=>Zf f2 (YcA.1 h).2.2.2.1))
  exact wR (h:=by exact Yg (fun h=>Zf f1 (YcA.1 h).2.2.1))
theorem Yf9 {a b:Formula} {wa wp we wk:Value} (hR1:FormulaR fz a va vp ve vk) (hR2:FormulaR fz b wa wp we wk):
 QFn prog 243 [.agg #[Zy a.op,Zy a.name,va,vp,ve,vk],.agg #[Zy b.op,Zy b.name,wa,wp,we,wk]] fz (Zo (decide (a=b))):=same_f _ (Zs _) hR1 hR2
def Xd:Formula:=.mk kAnd ⟨#[]⟩ [] [] [] []
theorem Yco:FormulaR fz Xd Zn Zn Zn Zn:=⟨by unfold Short Xd;decide,Y3,IsSl.nil,IsSl.nil,IsSl.nil,IsSl.nil⟩
def YbQ:Value:=.agg #[Zy kAnd,Ze,Zn,Zn,Zn,Zn]
theorem Yes:QFn prog 244 [] fz YbQ:=by
 refine qF Tryz.func244 Tryz.ntmps244 (fun w0=>?_);refine zW ?_;intros;exact Wm (i:=0) rfl (fun _ hi=>⟨_,[],hi.forget (List.nil_sublist _),rfl⟩)
theorem YkG:ExprR fz (.mk ⟨#[]⟩ ⟨#[]⟩ 0 [] []) Zn Zn:=⟨Y3,Y3,Wh,IsSl.nil,IsSl.nil⟩
theorem Yg1 {a b:Lx.Expr} {wa wk:Value} (hR1:ExprR fz a va vk) (hR2:ExprR fz b wa wk):
 QFn prog 304 [.agg #[Zy a.op,Zy a.name,Zk a.n,va,vk],.agg #[Zy b.op,Zy b.name,Zk b.n,wa,wk]] fz (Zo (decide (a=b))):=by
 refine GFn.quiet ?_
 ((obtain ⟨A1,n1,c1',rfl,ia1⟩:=hR1.args;obtain ⟨A2,n2,c2',rfl,ik1⟩:=hR1.kids))
 ((obtain ⟨A3,n3,c3',rfl,ia2⟩:=hR2.args;obtain ⟨A4,n4,c4',rfl,ik2⟩:=hR2.kids));refine zF Tryz.func304 Tryz.ntmps304 (fun w0=>?_);refine pX (fun g0=>?_);refine pY (fun g1=>?_);refine zW ?_;refine Ya (Yb (cs:=[Zy a.op,Zy a.name,Zk a.n,Zc A1 n1 c1',Zc A2 n2 c2']) (fun gA=>?_));refine zW ?_;refine Ya (Yb (cs:=[Zy b.op,Zy b.name,Zk b.n,Zc A3 n3 c3',Zc A4 n4 c4']) (fun gB=>?_));refine zW ?_
 first | refine Wp.freeze Zz (fun fz1 hl1 hg1=>?_) | refine Seq.freeze Zz (fun fz1 hl1 hg1=>?_)
 first | refine Wp.freeze Zz (fun fz2 hl2 hg2=>?_) | refine Seq.freeze Zz (fun fz2 hl2 hg2=>?_)
 have s1:Sl exprL fz2 (some ⟨gA,0,none⟩) 1 1 [a]:=XI (ys:=[(a,_)]) hg2 (by simp;rfl) rfl (by simpa using Ww (hR1.mono (hl1.trans hl2))) rfl Zh;have s2:Sl exprL fz2 (some ⟨gB,0,none⟩) 1 1 [b]:=XI (ys:=[(b,_)]) (hl2 _ _ hg1) (by simp;rfl) rfl (by simpa using Ww (hR2.mono (hl1.trans hl2))) rfl Zh
 ((refine zG ?_);refine Yu (Yf9 (a:=.mk ⟨#[]⟩ ⟨#[]⟩ [] [] [a] []) (b:=.mk ⟨#[]⟩ ⟨#[]⟩ [] [] [b] []) ⟨Y3,Y3,IsSl.nil,IsSl.nil,s1.is,IsSl.nil⟩ ⟨Y3,Y3,IsSl.nil,IsSl.nil,s2.is,IsSl.nil⟩) ?_);exact wR (h:=by simp)
def YdT (m:List (Bs × Value)) (ks:List Bs):Prop:=∀ x,valS m x=if x∈ks then some (Zo true) else none
theorem YdT.nil:YdT [] []:=fun x=>by rw [valS_nil,if_neg (by simp)]
theorem YdT.add {ks:List Bs} (h:YdT m ks) (x:Bs):YdT (updS m x (Zo true)) (ks++ [x]):=fun y=>by
 rw [Ycn,h y];by_cases h1:y=x
 ·rw [if_pos h1,if_pos (by simp [h1])]
 rw [if_neg h1];by_cases h2:y∈ks
 ·rw [if_pos h2,if_pos (by simp [h2])]
 rw [if_neg h2,if_neg (by simp [h1,h2])]
theorem YdT.get {ks:List Bs} (h:YdT m ks) {x:Bs}:(fndS m x 0).elim (Zo false) (·.2)=Zo (decide (x∈ks)):=by
 rw [Yhu,h x];by_cases h2:x∈ks
 ·rw [if_pos h2,decide_eq_true h2];rfl
 rw [if_neg h2,decide_eq_false h2];rfl
def TwP (others l:List Bs):Prop:=∃ k x,l[k]?=some x/\x∈others++l.take k
theorem Yin {others l:List Bs} (hh:∀ i,i<k->∀ x,l[i]?=some x->x ∉ others++l.take i) (hk:l.length<=k):¬TwP others l:=by
 rintro ⟨i,x,h1,h2⟩;have:=(Zg h1).1;exact hh i Zi x h1 h2
def parN (l:List Param):List Bs:=l.map (·.name)
theorem YfK {l:List Param} {x:Param} (h:l[k]?=some x):(parN l)[k]?=some x.name:=by unfold parN;rw [List.getElem?_map,h];rfl
theorem Ydc {l:List Param}:(parN l).length=l.length:=List.length_map ..
theorem YaY {l:List Param}:parN (l.take k)=(parN l).take k:=List.map_take ..
theorem Yk9 {m d:Nat} {l others:List Param} (h1:Sl paramL fz A n c l) (h2:Sl paramL fz B m d others):
 QFn prog 181 [Zc A n c,Zc B m d] fz (errV (if TwP (parN others) (parN l) then 4 else 0)):=by
 have l1:=h1.len;have l2:=h2.len;have s1:=h1.short;have s2:=h2.short;refine qF Tryz.func181 Tryz.ntmps181 (fun w0=>?_);refine zV ?_;refine Ya (Xf (fun gm=>?_));refine zV ?_;refine Yi (fun q σ fz' H'=>∃ (k:Nat) (ms:List (Bs × Value)),k<=m/\q=m - k/\σ=[(13,Zk k),(12,Zk m),(11,Zc B m d),(5,.map (some gm)),(0,Zc A n c)]/\fz=fz'/\H'=[(gm,mapS ms)]/\YdT ms (parN (others.take k))) ⟨0,[],Z0 _,rfl,rfl,rfl,rfl,YdT.nil⟩ Zw Zb ?_;rintro q σ fz' H' ⟨k,ms,hk,rfl,rfl,rfl,rfl,hS⟩;refine vC ?_ ?_<;>intro c1
 ·obtain ⟨x,hx⟩:=Yc (l:=others) (k:=k) Zi;refine vI h2 hx (fun p hp=>?_);refine zL hp ?_;intro cs hcs;obtain ⟨rfl,hR⟩:=Yz hcs;refine zV ?_;intros;refine YA (Xs (pre:=[_]) (Zr _) ?_);exact vP (h:=by exact ⟨k+1,_,by omega,rfl,rfl,rfl,rfl,by rw [List.take_add_one,hx];simpa [parN] using hS.add x.name⟩)
 rw [Zl Zi] at hS;refine zV ?_;refine Yi (fun q σ fz' H'=>∃ (k:Nat) (ms:List (Bs × Value)),k<=n/\q=n - k/\σ=[(23,Zk k),(22,Zk n),(21,Zc A n c),(5,.map (some gm))]/\fz=fz'/\H'=[(gm,mapS ms)]/\YdT ms (parN others++parN (l.take k))/\(∀ i,i<k->∀ x,(parN l)[i]?=some x->x ∉ parN others++(parN l).take i)) ⟨0,ms,Z0 _,rfl,rfl,rfl,rfl,by simpa [parN] using hS,fun i hi=>absurd hi Zi⟩ Zw Zb ?_;rintro q σ fz' H' ⟨k,ms,hk,rfl,rfl,rfl,rfl,hS,hh⟩;refine vC ?_ ?_<;>intro c2
 ·obtain ⟨x,hx⟩:=Yc (l:=l) (k:=k) Zi;have hxn:=YfK hx;refine vI h1 hx (fun p hp=>?_);refine zL hp ?_;intro cs hcs;obtain ⟨rfl,hR⟩:=Yz hcs;refine zV ?_;intros;refine zG ?_;refine YbU 1 hS.get ?_;refine zV ?_;by_cases hm:x.name∈parN others++parN (l.take k)
  ·rw [decide_eq_true hm];exact vR (h:=by rw [if_pos ⟨k,x.name,hxn,by rw [<- YaY];exact hm⟩];rfl)
  rw [decide_eq_false hm];refine zV ?_;refine YA (Xs (pre:=[_]) (Zr _) ?_);exact vP (h:=by exact ⟨k+1,_,by omega,rfl,rfl,rfl,rfl,by rw [List.take_add_one,hx];simpa [parN] using hS.add x.name,YbD (p:=fun i x=>x ∉ parN others++(parN l).take i) hh hxn (by rw [<- YaY];exact hm)⟩)
 exact vR (h:=by rw [if_neg (Yin hh (by rw [Ydc];omega))];rfl)
def CkR (fz:FZ) (v:Value) (d:Domain) (p:Problem) (all:List Param) (vf vp vg vo:Value):Prop:=∃ gc v1 v2 v3 v4 v5 v6 u1 u2 u3 u4 u5 u6 u7 Aa na ca,v=Zp gc/\
 fz gc=some (Zu #[Zy d.name,v1,v2,v3,v4,v5,v6,Zy p.name,Zy p.domain,u1,u2,u3,Zy p.goal.op,Zy p.goal.name,u4,u5,u6,u7,vf,vp,vg,vo,Zc Aa na ca] 185)/\
 DomainR fz d v1 v2 v3 v4 v5 v6/\ProblemR fz p u1 u2 u3 u4 u5 u6 u7/\Sl paramL fz Aa na ca all
theorem CkR.mono {p:Problem} {all:List Param} {vf vg vo:Value} (h:CkR fz v d p all vf vp vg vo) (hle:Le fz fz'):CkR fz' v d p all vf vp vg vo:=by
 obtain ⟨gc,v1,v2,v3,v4,v5,v6,u1,u2,u3,u4,u5,u6,u7,Aa,na,ca,h1,h2,h3,h4,h5⟩:=h;exact ⟨gc,v1,v2,v3,v4,v5,v6,u1,u2,u3,u4,u5,u6,u7,Aa,na,ca,h1,hle _ _ h2,h3.mono hle,h4.mono hle,h5.mono hle⟩
def ExP (tys l:List Param):Prop:=∀ p∈l,HasT tys p.typ
theorem YlF {p:Problem} {all l tys:List Param} {vf vg vo:Value} (h:CkR fz v d p all vf vp vg vo) (hf:ForR fz vf tys) (h1:Sl paramL fz A n c l):
 QFn prog 182 [v,Zc A n c] fz (errV (if ExP tys l then 0 else 3)):=by
 obtain ⟨gc,v1,v2,v3,v4,v5,v6,u1,u2,u3,u4,u5,u6,u7,Aa,na,ca,rfl,hc,hD,hP,hall⟩:=h;have hf0:=hf;obtain ⟨gf,gm,rfl,hf1,hf2⟩:=hf;have l1:=h1.len;have s1:=h1.short;refine qF Tryz.func182 Tryz.ntmps182 (fun w0=>?_);refine zV ?_;refine XW n (fun k=>[(9,Zk k),(8,Zk n),(7,Zc A n c),(0,Zp gc)]) [] (fun k=>(∀ i,i<k->∀ x,l[i]?=some x->HasT tys x.typ)) (fun i hi=>absurd hi Zi) ?_;intro k hk hh;refine vC ?_ ?_<;>intro c1
 ·obtain ⟨x,hx⟩:=Yc (l:=l) (k:=k) Zi;refine vI h1 hx (fun p1 hp=>?_);refine zL hp ?_;intro cs hcs;obtain ⟨rfl,hR⟩:=Yz hcs;refine zV ?_;intros;refine zb (YnC hf0) (fun f1=>?_) (fun f1=>?_)
  ·exact vM (h:=by exact Yx hh hx (Zt f1))
  exact vR (h:=by rw [if_neg (fun h0=>Zf f1 (h0 x (Zm hx)))];rfl)
 have hA:=YQ hh Zi;exact vR (h:=by rw [if_pos (show ExP tys l from hA)];rfl)
def repM:List Bs->List Param->Option Bs
 | _,[]=>none
 | seen,x::r=>if x.name∈seen then some x.typ else repM (seen++ [x.name]) r
theorem YoJ:∀ {l:List Param} {k:Nat} {x:Param} {seen:List Bs},l[k]?=some x->(∀ i,i<k->∀ y,l[i]?=some y->y.name ∉ seen++(parN l).take i)->repM seen l=repM (seen++(parN l).take k) (l.drop k)
 | [],k,x,_,h,_=>by simp at h
 | y::r,0,x,seen,h,_=>by simp
 | y::r,k+1,x,seen,h,hh=>by
  have h0:=hh 0 Zi y rfl;rw [List.take_zero,List.append_nil] at h0;rw [repM,if_neg h0,YoJ (l:=r) (k:=k) (x:=x) (seen:=seen++ [y.name]) (by simpa using h) (fun i hi z hz=>by
   have:=hh (i+1) Zi z (by simpa using hz);simpa [parN] using this)]
  simp [parN]
theorem YjT:∀ {l:List Param} {seen:List Bs},(∀ i x,l[i]?=some x->x.name ∉ seen++(parN l).take i)->repM seen l=none
 | [],_,_=>rfl
 | y::r,seen,hh=>by
  have h0:=hh 0 y rfl;rw [List.take_zero,List.append_nil] at h0;rw [repM,if_neg h0];exact YjT (fun i z hz=>by
   have:=hh (i+1) z (by simpa using hz);simpa [parN] using this)
def repV (o:Option Bs):Value:=.tuple #[Zy (o.getD ⟨#[]⟩),errV (if o.isSome=true then 4 else 0)]
theorem YeJ {l:List Param} (h1:Sl paramL fz A n c l):
 QFn prog 250 [Zc A n c] fz (repV (repM [] l)):=by
 have l1:=h1.len;have s1:=h1.short;refine qF Tryz.func250 Tryz.ntmps250 (fun w0=>?_);refine zV ?_;refine Ya (Xf (fun gm=>?_));refine zV ?_;refine Yi (fun q σ fz' H'=>∃ (k:Nat) (ms:List (Bs × Value)),k<=n/\q=n - k/\σ=[(10,Zk k),(9,Zk n),(8,Zc A n c),(4,.map (some gm))]/\fz=fz'/\H'=[(gm,mapS ms)]/\YdT ms (parN (l.take k))/\(∀ i,i<k->∀ x,l[i]?=some x->x.name ∉ []++(parN l).take i)) ⟨0,[],Z0 _,rfl,rfl,rfl,rfl,YdT.nil,fun i hi=>absurd hi Zi⟩ Zw Zb ?_;rintro q σ fz' H' ⟨k,ms,hk,rfl,rfl,rfl,rfl,hS,hh⟩;refine vC ?_ ?_<;>intro c2
 ·obtain ⟨x,hx⟩:=Yc (l:=l) (k:=k) Zi;refine vI h1 hx (fun p hp=>?_);refine zL hp ?_;intro cs hcs;obtain ⟨rfl,hR⟩:=Yz hcs;refine zV ?_;intros;refine zG ?_;refine YbU 1 hS.get ?_;refine zV ?_;by_cases hm:x.name∈parN (l.take k)
  ·have e1:repM [] l=some x.typ:=by
    rw [YoJ hx hh];have hd:l.drop k=x::l.drop (k+1):=by
     have:=List.drop_eq_getElem_cons (l:=l) (i:=k) (Zg hx).1;rw [this,(Zg hx).2]
    rw [hd,repM,if_pos (by rw [List.nil_append,<- YaY];exact hm)]
   rw [decide_eq_true hm];exact vS (h:=by rw [e1];rfl)
  rw [decide_eq_false hm];refine zV ?_;refine YA (Xs (pre:=[_]) (Zr _) ?_);exact vP (h:=by exact ⟨k+1,_,by omega,rfl,rfl,rfl,rfl,by rw [List.take_add_one,hx];simpa [parN] using hS.add x.name,YbD (p:=fun i x=>x.name ∉ []++(parN l).take i) hh hx (by rw [List.nil_append,<- YaY];exact hm)⟩)
 have e1:repM [] l=none:=YjT (fun i x hx=>hh i (by have:=(Zg hx).1;omega) x hx);exact vS (h:=by rw [e1];rfl)
end Go.Proofs.YtacfpcbladaohaaGreatDoor
namespace Go.Lx
open Go.RowKit
section
variable {P:Program} {cx:Cx} {r:Operand->Option Value} {fz:FZ} {H:HP} {dst:Option Nat} {ty:TypeId} {pos:String} {af:Array Edge} {gd:Option (Nat × Bool)} {V:Value->Prop}
def updH (fz:FZ):HP->FZ
 | []=>fz
 | p::r=>upd (updH fz r) p.1 p.2
theorem Yl2 {fz:FZ}:∀ {H:HP},(H.map Prod.fst).Nodup->∀ p∈H,updH fz H p.1=some p.2
 | [],_,p,hp=>by cases hp
 | q::r,hn,p,hp=>by
  rw [List.map_cons,List.nodup_cons] at hn;rw [updH,upd];rcases List.mem_cons.1 hp with rfl | hp
  ·rw [if_pos rfl]
  rw [if_neg (fun h0=>hn.1 (by rw [<- h0];exact List.mem_map_of_mem hp)),Yl2 hn.2 p hp]
theorem Yoe {fz:FZ}:∀ {H:HP},(∀ p∈H,fz p.1=none)->Le fz (updH fz H)
 | [],_=>Zd
 | q::r,h=>fun b o hb=>by
  rw [updH,upd,if_neg (fun h0=>by rw [h0,h q (by simp)] at hb;cases hb)];exact Yoe (fun p hp=>h p (by simp [hp])) b o hb
theorem Yof {fz:FZ}:∀ {H:HP} {b:Nat} {o:Obj},updH fz H b=some o->fz b=some o\/(b,o)∈H
 | [],_,_,h=>.inl h
 | q::r,b,o,h=>by
  rw [updH,upd] at h;split at h
  ·rename_i hb;injection h with h;subst hb h;exact .inr (by simp)
  rcases Yof h with h | h
  ·exact .inl h
  exact .inr (by simp [h])
variable {w:World}
theorem Hp.all (h:Hp fz H w):Hp (updH fz H) [] w:=
 ⟨fun b o hb=>(Yof hb).elim (h.keep b o) (fun hm=>(h.own _ hm).1),by simp,by simp⟩
theorem Hp.allLe (h:Hp fz H w):Le fz (updH fz H)/\∀ p∈H,updH fz H p.1=some p.2:=⟨Yoe fun p hp=>(h.own p hp).2,Yl2 h.nd⟩
variable {v:Value}
theorem XJ {f:FuncId} {xs:List Operand} {ats:Array TypeId} {vs:List Value} (hq:∀ fz',Le fz fz'->(∀ p∈H,fz' p.1=some p.2)->QFn P f vs fz' v) (h:V v) (hx:rds r xs=some vs:=by exact rfl) (hf:r (.func f)=some (.func (.func f) #[] #[]):=by exact rfl):
 DoesQ P cx ⟨dst,.call {callee:=.value (.func f),args:=xs.toArray,argTypes:=ats},ty,pos,af,gd⟩ r fz H V:=
 DoesQ.of h fun ρ w hr hw=>by
  have hq':=hq _ hw.hp.allLe.1 hw.hp.allLe.2;unfold QFn at hq';rw [YdY hr (first:=[]) (capt:=[]) hf hx (vs:=vs) (by simp) hq'.1];exact (hq'.2 w hw.hp.all).mono fun e w' ⟨he,hfr⟩=>⟨v,he,rfl,hfr⟩
variable {b:Bool}
theorem YaQ {f:FuncId} {xs:List Operand} {ats:Array TypeId} {vs:List Value} (hq:∀ fz',Le fz fz'->(∀ p∈H,fz' p.1=some p.2)->QFn P f vs fz' (Zo b)) (h1:b=true->V (Zo true)) (h2:b=false->V (Zo false)) (hx:rds r xs=some vs:=by exact rfl) (hf:r (.func f)=some (.func (.func f) #[] #[]):=by exact rfl):
 DoesQ P cx ⟨dst,.call {callee:=.value (.func f),args:=xs.toArray,argTypes:=ats},ty,pos,af,gd⟩ r fz H V:=
 XJ hq (v_bool h1 h2) (hx:=hx) (hf:=hf)
theorem q_callvU {f:FuncId} {ff:Operand} {xs:List Operand} {ats:Array TypeId} {us vs first capt:List Value} (hf:r ff=some (.func (.func f) first.toArray capt.toArray)) (hx:rds r xs=some us) (hv:first++us++capt=vs) (hq:∀ fz',Le fz fz'->(∀ p∈H,fz' p.1=some p.2)->QFn P f vs fz' v) (h:V v):
 DoesQ P cx ⟨dst,.call {callee:=.value ff,args:=xs.toArray,argTypes:=ats},ty,pos,af,gd⟩ r fz H V:=
 DoesQ.of h fun ρ w hr hw=>by
  have hq':=hq _ hw.hp.allLe.1 hw.hp.allLe.2;unfold QFn at hq';rw [YdY hr hf hx hv hq'.1];exact (hq'.2 w hw.hp.all).mono fun e w' ⟨he,hfr⟩=>⟨v,he,rfl,hfr⟩
variable {X Y:Ty} {g n:Nat} {x:Operand}
theorem We (T:Tab P) {t e:Nat} {i:Operand} {k:IntKind} {j:Int} (hT:T.inf t=some X) (hd:X.desc=.array n e) (hY:T.inf e=some Y)
 (hx:r x=some (Zp g)) (hi:r i=some (.int k j)) (h0:0<=j) (hn:j<n) (h:V (.pointer (some ((⟨g,0,none⟩:Addr).add (j.toNat*Y.size))))):DoesQ P cx ⟨dst,.indexAddr t x i,ty,pos,af,gd⟩ r fz H V:=
 YC (fun ρ w hr=>by
  have hu:=run_underlying (und_plain T hT hd rfl) w;have hs:=Lx.run_sizeOf T hY w;simp [execOp,hr _ _ hx,hr _ _ hi,Instr.indexAt,asIntOf,hu,hs,h0,hn,Instr.sureAddr]) h
theorem YiH {t e n:Nat} {x i:Operand} {X Y:Ty} {k:IntKind} {j:Int} {cs:List Value} {v:Value}
 (h:V v) (T:Tab P:=by exact T) (hT:T.inf t=some X:=by exact rfl) (hd:X.desc=.array n e:=by exact rfl) (hY:T.inf e=some Y:=by exact rfl) (hY1:Y.size=1:=by exact rfl) (hA:XU Y.desc=false:=by exact rfl) (hx:r x=some (.agg cs.toArray):=by exact rfl) (hi:r i=some (.int k j):=by exact rfl) (h0:0<=j:=by decide) (hn:j<n:=by decide) (hv:cs[j.toNat]?=some v:=by exact rfl):DoesQ P cx ⟨dst,.index t x i,ty,pos,af,gd⟩ r fz H V:=
  YC (fun ρ w hr=>by
   have hu:=run_underlying (und_plain T hT hd rfl) w;have hs:=Lx.run_sizeOf T hY w;have hv2:=Lx.run_isAgg T hY w;rw [hA] at hv2;simp [execOp,hr _ _ hx,hr _ _ hi,Instr.index,asIntOf,hu,hs,h0,hn,hY1,part,hv2,hv]) h
end
end Go.Lx
namespace Go.Proofs.YtacfpcbladaohaaGreatDoor
variable {d:Domain} {fz:FZ} {v vp:Value}
def XO:Bs:=⟨#[112,114,101,100,105,99,97,116,101,32]⟩
def Xl:Bs:=⟨#[102,117,110,99,116,105,111,110,32]⟩
def Ycm:Bs:=⟨#[111,98,106,101,99,116,32]⟩
def Wl:Bs:=⟨#[97,99,116,105,111,110,32]⟩
def Xm:Bs:=⟨#[100,117,114,97,116,105,118,101,32]⟩
def YX {α:Type} (E:α->Int):List (Bs × α)->Bs × Int
 | []=>(⟨#[]⟩,0)
 | p::r=>if E p.2=0 then YX E r else (p.1,E p.2)
theorem YO {α β:Type} {E:β->Int} {f:α->Bs} {g:α->β} {r:List (Bs × β)}:∀ {l:List α},(∀ x∈l,E (g x)=0)->YX E (l.map (fun x=>(f x,g x))++r)=YX E r
 | [],_=>rfl
 | x::l,h=>by
  rw [List.map_cons,List.cons_append,YX,if_pos (h x (by simp))];exact YO (fun y hy=>h y (by simp [hy]))
theorem XC {α β:Type} {E:β->Int} {f:α->Bs} {g:α->β} {r:List (Bs × β)}:∀ {l:List α} {k:Nat} {x:α},l[k]?=some x->(∀ i,i<k->∀ y,l[i]?=some y->E (g y)=0)->E (g x)≠0->YX E (l.map (fun x=>(f x,g x))++r)=(f x,E (g x))
 | [],k,x,h,_,_=>by simp at h
 | y::l,0,x,h,_,hx=>by
  simp at h;subst h;rw [List.map_cons,List.cons_append,YX,if_neg hx]
 | y::l,k+1,x,h,hh,hx=>by
  rw [List.map_cons,List.cons_append,YX,if_pos (hh 0 Zi y rfl)];exact XC (k:=k) (by simpa using h) (fun i hi z hz=>hh (i+1) Zi z (by simpa using hz)) hx
def resV (a:Bs × Int):Value:=.tuple #[Zy a.1,errV a.2]
structure NmS (d:Domain) (all:List Param):Prop where
 p:∀ x∈d.predicates,x.name.size<=1000
 f:∀ x∈d.functions,x.name.size<=1000
 o:∀ x∈all,x.name.size<=1000
 a:∀ x∈d.actions,x.name.size<=1000
 u:∀ x∈d.duratives,x.name.size<=1000
def YbK (d:Domain) (all:List Param):List (Bs × List Param):=
 d.predicates.map (fun x=>(XO++x.name,x.params))++(d.functions.map (fun x=>(Xl++x.name,x.params))++(all.map (fun x=>(Ycm++x.name,[x]))++(d.actions.map (fun x=>(Wl++x.name,x.params))++(d.duratives.map (fun x=>(Xm++x.name,x.params))++ []))))
/-- lists, without the objects (ob false) or with them: fv is the check -/
theorem Ypg {p:Problem} {all:List Param} {vf vg vo:Value} {ob:Bool} {f:FuncId} {first capt:List Value} {E:List Param->Int} (h:CkR fz v d p all vf vp vg vo) (hs:NmS d all)
 (hE:∀ {A:Option Addr} {n c:Nat} {l:List Param} {fz':FZ},Le fz fz'->Sl paramL fz' A n c l->QFn prog f (first++ [Zc A n c]++capt) fz' (errV (E l))):
 QFn prog 179 [v,.func (.func f) first.toArray capt.toArray,Zo ob] fz (resV (YX E (YbK d (if ob=true then all else [])))):=by
 obtain ⟨gc,v1,v2,v3,v4,v5,v6,u1,u2,u3,u4,u5,u6,u7,Aa,na,ca,rfl,hc,hD,hP,hall⟩:=h;obtain ⟨⟨A1,n1,b1,rfl,i1⟩,⟨A2,n2,b2,rfl,i2⟩,⟨A3,n3,b3,rfl,i3⟩,⟨A4,n4,b4,rfl,i4⟩,⟨A5,n5,b5,rfl,i5⟩,⟨A6,n6,b6,rfl,i6⟩⟩:=hD.sls;have l3:=i3.len;have l4:=i4.len;have l5:=i5.len;have l6:=i6.len;have la:=hall.len;have s3:=i3.short;have s4:=i4.short;have s5:=i5.short;have s6:=i6.short;have sa:=hall.short;refine qF Tryz.func179 Tryz.ntmps179 (fun w0=>?_);refine zV ?_;refine XW n3 (fun k=>[(29,Zk k),(28,Zk n3),(27,Zc A3 n3 b3),(0,Zp gc),(1,.func (.func f) first.toArray capt.toArray),(2,Zo ob)]) [] (fun k=>(∀ i,i<k->∀ x,d.predicates[i]?=some x->E x.params=0)) (fun i hi=>absurd hi Zi) ?_;intro k hk hh;refine zV ?_;refine zC ?_ ?_<;>intro c1
 ·obtain ⟨x,hx⟩:=Yc (l:=d.predicates) (k:=k) Zi;have hxs:=hs.p x (Zm hx);refine zV ?_;refine zI i3 hx (fun p1 hp=>?_);refine zL hp ?_;intro cs hcs;obtain ⟨w1,rfl,hR⟩:=Xo hcs;obtain ⟨Ap,np,cp,rfl,ip⟩:=hR.params;refine zV ?_;intros;refine zG ?_;refine Ybr (hE Zd ip) ?_;by_cases hz:E x.params=0
  ·rw [hz,show errV 0=.nilIface from rfl];refine zV ?_;exact Wr ⟨k+1,by omega,rfl,rfl,rfl,rfl,Yx hh hx hz⟩ Zi Zw Zb
  rw [Yq hz];refine zV ?_;refine zG ?_;refine XM Zz Zz (by show _+_<=_;exact Nat.le_trans (Nat.add_le_add_left hxs _) Zh) ?_;refine zV ?_;exact ret2 rfl rfl rfl Zb (by rw [YbK,XC (l:=d.predicates) (E:=E) (f:=fun x=>XO++x.name) (g:=fun x=>x.params) hx hh hz];rw [resV,Yq hz];rfl)
 have hzp:=fun x (hx:x∈d.predicates)=>(by obtain ⟨i,hi⟩:=List.getElem?_of_mem hx;exact YQ hh Zi x hx:E x.params=0)
 refine zV ?_;refine XW n4 (fun k=>[(50,Zk k),(49,Zk n4),(48,Zc A4 n4 b4),(0,Zp gc),(1,.func (.func f) first.toArray capt.toArray),(2,Zo ob)]) [] (fun k=>(∀ i,i<k->∀ x,d.functions[i]?=some x->E x.params=0)) (fun i hi=>absurd hi Zi) ?_;intro k hk hh;refine zV ?_;refine zC ?_ ?_<;>intro c1
 ·obtain ⟨x,hx⟩:=Yc (l:=d.functions) (k:=k) Zi;have hxs:=hs.f x (Zm hx);refine zV ?_;refine zI i4 hx (fun p1 hp=>?_);refine zL hp ?_;intro cs hcs;obtain ⟨w1,rfl,hR⟩:=YU hcs;obtain ⟨Ap,np,cp,rfl,ip⟩:=hR.params;refine zV ?_;intros;refine zG ?_;refine Ybr (hE Zd ip) ?_;by_cases hz:E x.params=0
  ·rw [hz,show errV 0=.nilIface from rfl];refine zV ?_;exact Wr ⟨k+1,by omega,rfl,rfl,rfl,rfl,Yx hh hx hz⟩ Zi Zw Zb
  rw [Yq hz];refine zV ?_;refine zG ?_;refine XM Zz Zz (by show _+_<=_;exact Nat.le_trans (Nat.add_le_add_left hxs _) Zh) ?_;refine zV ?_;exact ret2 rfl rfl rfl Zb (by rw [YbK,YO (l:=d.predicates) (E:=E) (f:=fun x=>XO++x.name) (g:=fun x=>x.params) hzp,XC (l:=d.functions) (E:=E) (f:=fun x=>Xl++x.name) (g:=fun x=>x.params) hx hh hz];rw [resV,Yq hz];rfl)
 have hzf:=fun x (hx:x∈d.functions)=>(by obtain ⟨i,hi⟩:=List.getElem?_of_mem hx;exact YQ hh Zi x hx:E x.params=0)
 refine zVX ?_;refine Yy ?_;refine zVX ?_;refine Yy (YV (fun σ fz' H'=>σ=[(0,Zp gc),(1,.func (.func f) first.toArray capt.toArray)]/\fz=fz'/\H'=[]/\(∀ r,YX E ((if ob=true then all else []).map (fun x=>(Ycm++x.name,[x]))++r)=YX E r)) ?_ ?_)
 ·refine zV ?_;refine Yi (fun q σ fz' H'=>∃ k:Nat,k<=na/\q=na - k/\σ=[(70,Zk k),(69,Zk na),(68,Zc Aa na ca),(0,Zp gc),(1,.func (.func f) first.toArray capt.toArray),(2,Zo ob)]/\fz=fz'/\H'=[]/\(∀ i,i<k->∀ x,all[i]?=some x->E [x]=0)/\(ob=false->k=0)) ⟨0,Z0 _,rfl,rfl,rfl,rfl,fun i hi=>absurd hi Zi,fun _=>rfl⟩ Zw Zb ?_;rintro q σ fz' H' ⟨k,hk,rfl,rfl,rfl,rfl,hh,hob⟩;refine zV ?_;refine zC ?_ ?_<;>intro c1
  ·obtain ⟨x,hx⟩:=Yc (l:=all) (k:=k) Zi;have hxs:=hs.o x (Zm hx);refine zV ?_;refine zI hall hx (fun p1 hp=>?_);refine zL hp ?_;intro cs hcs;obtain ⟨rfl,hR⟩:=Yz hcs;cases ob with
   | false=>
    refine zV ?_;intros;exact midN ⟨rfl,rfl,rfl,fun r=>rfl⟩ Zw Zb
   | true=>
    refine zV ?_;intros;refine Ya (Yb (cs:=[Zy x.name,Zy x.typ]) (fun gb=>?_));refine zG ?_;refine q_callvU Zz Zz Zz (fun fz' hl hf=>hE hl (XI (l:=[x]) (ys:=[(x,[Zy x.name,Zy x.typ])]) (hf _ (.head _)) rfl rfl (by simpa using Ygk (hR.mono hl)) rfl (by simp))) ?_;by_cases hz:E [x]=0
    ·rw [hz,show errV 0=.nilIface from rfl];refine zV ?_;exact Wr ⟨k+1,by omega,rfl,rfl,rfl,rfl,Yx hh hx hz,fun h0=>by cases h0⟩ Zi Zw Zb
    rw [Yq hz];refine zV ?_;refine zG ?_;refine XM Zz Zz (by show _+_<=_;exact Nat.le_trans (Nat.add_le_add_left hxs _) Zh) ?_;refine zV ?_;exact ret2 rfl rfl rfl Zb (by rw [YbK,YO (l:=d.predicates) (E:=E) (f:=fun x=>XO++x.name) (g:=fun x=>x.params) hzp,YO (l:=d.functions) (E:=E) (f:=fun x=>Xl++x.name) (g:=fun x=>x.params) hzf,if_pos rfl,XC (l:=all) (E:=E) (f:=fun x=>Ycm++x.name) (g:=fun x=>[x]) hx hh hz];rw [resV,Yq hz];rfl)
  have hzo:∀ x∈all,E [x]=0\/ob=false:=fun x hx=>by
   cases ob with
   | false=>exact .inr rfl
   | true=>obtain ⟨i,hi⟩:=List.getElem?_of_mem hx;exact .inl (YQ (p:=fun x=>E [x]=0) hh Zi x hx)
  refine zV ?_;exact midN ⟨rfl,rfl,rfl,fun r=>by
   cases ob with
   | false=>rfl
   | true=>exact YO (l:=all) (E:=E) (f:=fun x=>Ycm++x.name) (g:=fun x=>[x]) (fun x hx=>(hzo x hx).elim (fun h=>h) (fun h=>by cases h))⟩ Zw Zb
 rintro σ fz' H' ⟨rfl,rfl,rfl,hzo⟩;refine zV ?_;refine XW n5 (fun k=>[(93,Zk k),(92,Zk n5),(91,Zc A5 n5 b5),(0,Zp gc),(1,.func (.func f) first.toArray capt.toArray)]) [] (fun k=>(∀ i,i<k->∀ x,d.actions[i]?=some x->E x.params=0)) (fun i hi=>absurd hi Zi) ?_;intro k hk hh;refine zV ?_;refine zC ?_ ?_<;>intro c1
 ·obtain ⟨x,hx⟩:=Yc (l:=d.actions) (k:=k) Zi;have hxs:=hs.a x (Zm hx);refine zV ?_;refine zI i5 hx (fun p1 hp=>?_);refine zL hp ?_;intro cs hcs;obtain ⟨w1,w2,w3,w4,w5,w6,rfl,hR⟩:=Y7 hcs;obtain ⟨Ap,np,cp,rfl,ip⟩:=hR.params;obtain ⟨⟨B0,e0,j0,rfl,_⟩,⟨B1,e1,j1,rfl,_⟩,⟨B2,e2,j2,rfl,_⟩,⟨B3,e3,j3,rfl,_⟩⟩:=hR.pre.sls;obtain ⟨B4,e4,j4,rfl,_⟩:=hR.changes;refine zV ?_;intros;refine zG ?_;refine Ybr (hE Zd ip) ?_;by_cases hz:E x.params=0
  ·rw [hz,show errV 0=.nilIface from rfl];refine zV ?_;exact Wr ⟨k+1,by omega,rfl,rfl,rfl,rfl,Yx hh hx hz⟩ Zi Zw Zb
  rw [Yq hz];refine zV ?_;refine zG ?_;refine XM Zz Zz (by show _+_<=_;exact Nat.le_trans (Nat.add_le_add_left hxs _) Zh) ?_;refine zV ?_;exact ret2 rfl rfl rfl Zb (by rw [YbK,YO (l:=d.predicates) (E:=E) (f:=fun x=>XO++x.name) (g:=fun x=>x.params) hzp,YO (l:=d.functions) (E:=E) (f:=fun x=>Xl++x.name) (g:=fun x=>x.params) hzf,hzo,XC (l:=d.actions) (E:=E) (f:=fun x=>Wl++x.name) (g:=fun x=>x.params) hx hh hz];rw [resV,Yq hz];rfl)
 have hza:=fun x (hx:x∈d.actions)=>(by obtain ⟨i,hi⟩:=List.getElem?_of_mem hx;exact YQ hh Zi x hx:E x.params=0)
 refine zV ?_;refine XW n6 (fun k=>[(114,Zk k),(113,Zk n6),(112,Zc A6 n6 b6),(1,.func (.func f) first.toArray capt.toArray)]) [] (fun k=>(∀ i,i<k->∀ x,d.duratives[i]?=some x->E x.params=0)) (fun i hi=>absurd hi Zi) ?_;intro k hk hh;refine zV ?_;refine zC ?_ ?_<;>intro c1
 ·obtain ⟨x,hx⟩:=Yc (l:=d.duratives) (k:=k) Zi;have hxs:=hs.u x (Zm hx);refine zV ?_;refine zI i6 hx (fun p1 hp=>?_);refine zL hp ?_;intro cs hcs;obtain ⟨w0,w1,w2,w3,w4,w5,w6,w7,w8,w9,w10,w11,w12,w13,w14,rfl,hR⟩:=Xx hcs;obtain ⟨Ap,np,cp,rfl,ip⟩:=hR.params;obtain ⟨⟨B0,e0,j0,rfl,_⟩,⟨B1,e1,j1,rfl,_⟩,⟨B2,e2,j2,rfl,_⟩,⟨B3,e3,j3,rfl,_⟩⟩:=hR.start.sls;obtain ⟨⟨B4,e4,j4,rfl,_⟩,⟨B5,e5,j5,rfl,_⟩,⟨B6,e6,j6,rfl,_⟩,⟨B7,e7,j7,rfl,_⟩⟩:=hR.over.sls;obtain ⟨⟨B8,e8,j8,rfl,_⟩,⟨B9,e9,j9,rfl,_⟩,⟨B10,e10,j10,rfl,_⟩,⟨B11,e11,j11,rfl,_⟩⟩:=hR.fin.sls;obtain ⟨B12,e12,j12,rfl,_⟩:=hR.atStart;obtain ⟨B13,e13,j13,rfl,_⟩:=hR.atEnd;refine zV ?_;intros;refine zG ?_;refine Ybr (hE Zd ip) ?_;by_cases hz:E x.params=0
  ·rw [hz,show errV 0=.nilIface from rfl];refine zV ?_;exact Wr ⟨k+1,by omega,rfl,rfl,rfl,rfl,Yx hh hx hz⟩ Zi Zw Zb
  rw [Yq hz];refine zV ?_;refine zG ?_;refine XM Zz Zz (by show _+_<=_;exact Nat.le_trans (Nat.add_le_add_left hxs _) Zh) ?_;refine zV ?_;exact ret2 rfl rfl rfl Zb (by rw [YbK,YO (l:=d.predicates) (E:=E) (f:=fun x=>XO++x.name) (g:=fun x=>x.params) hzp,YO (l:=d.functions) (E:=E) (f:=fun x=>Xl++x.name) (g:=fun x=>x.params) hzf,hzo,YO (l:=d.actions) (E:=E) (f:=fun x=>Wl++x.name) (g:=fun x=>x.params) hza,XC (l:=d.duratives) (E:=E) (f:=fun x=>Xm++x.name) (g:=fun x=>x.params) hx hh hz];rw [resV,Yq hz];rfl)
 have hzu:=fun x (hx:x∈d.duratives)=>(by obtain ⟨i,hi⟩:=List.getElem?_of_mem hx;exact YQ hh Zi x hx:E x.params=0)
 refine zV ?_;exact ret2 rfl rfl rfl Zb (by rw [YbK,YO (l:=d.predicates) (E:=E) (f:=fun x=>XO++x.name) (g:=fun x=>x.params) hzp,YO (l:=d.functions) (E:=E) (f:=fun x=>Xl++x.name) (g:=fun x=>x.params) hzf,hzo,YO (l:=d.actions) (E:=E) (f:=fun x=>Wl++x.name) (g:=fun x=>x.params) hza,YO (l:=d.duratives) (E:=E) (f:=fun x=>Xm++x.name) (g:=fun x=>x.params) hzu];rfl)
end Go.Proofs.YtacfpcbladaohaaGreatDoor
namespace Go.Lx
variable {α:Type} {A:Option Addr} {c n:Nat} {fz:FZ} {L:Lay α} {l:List α}
theorem Sl.reps (h:Sl L fz A n c l) {x:α} (hx:x∈l):∃ cs,L.rep fz x cs:=by
 obtain ⟨i,hi⟩:=List.getElem?_of_mem hx;have h1:=(Zg hi).1;have h2:=h.len;rcases h.elem with h0 | ⟨ad,_,h3⟩
 ·omega
 obtain ⟨cs,h4,_⟩:=h3 i x hi;exact ⟨cs,h4⟩
end Go.Lx
namespace Go.Proofs.YtacfpcbladaohaaGreatDoor
variable {A:Option Addr} {c n:Nat} {fz fz':FZ} {s:Bs} {d:Domain} {v vp:Value} {vars:List Param}
theorem XY {l:List Param} (h:Sl paramL fz A n c l):∀ p∈l,Short p.name/\Short p.typ:=fun p hp=>by
 obtain ⟨cs,hr⟩:=h.reps hp;obtain ⟨_,hR⟩:=Yz hr;exact ⟨hR.name,hR.typ⟩
def kQm:Bs:=⟨#[63]⟩
theorem Yfe {p:Bs} (hs:Short s) (hp:Short p):QFn prog 224 [Zy s,Zy p] fz (Zo (decide (PreP s p))):=by
 refine qF Tryz.func224 Tryz.ntmps224 (fun w0=>?_);refine vc (YgP hs hp) ?_;exact vR (h:=rfl)
def YbY:List Param->Bs->Option Bs
 | [],_=>none
 | p::r,t=>match YbY r t with
  | some u=>some u
  | none=>if p.name=t then some p.typ else none
theorem Yb6:∀ {l:List Param} {t:Bs},(∀ p∈l,p.name≠t)->YbY l t=none
 | [],_,_=>rfl
 | p::r,t,h=>by rw [YbY,Yb6 (fun q hq=>h q (by simp [hq]))];exact if_neg (h p (by simp))
theorem YiP:∀ {l:List Param} {j:Nat} {x:Param} {t:Bs},l[j]?=some x->x.name=t->(∀ i,j<i->∀ y,l[i]?=some y->y.name≠t)->YbY l t=some x.typ
 | [],j,x,t,h,_,_=>by simp at h
 | p::r,0,x,t,h,hx,hh=>by
  simp at h;subst h;rw [YbY,Yb6 (fun q hq=>by obtain ⟨i,hi⟩:=List.getElem?_of_mem hq;exact hh (i+1) Zi q (by simpa using hi))];exact if_pos hx
 | p::r,j+1,x,t,h,hx,hh=>by
  rw [YbY,YiP (l:=r) (j:=j) (by simpa using h) hx (fun i hi y hy=>hh (i+1) Zi y (by simpa using hy))]
theorem YgB:∀ {l:List Param} {t u:Bs},YbY l t=some u->∃ p∈l,p.typ=u
 | [],_,_,h=>by cases h
 | p::r,t,u,h=>by
  rw [YbY] at h;cases hr:YbY r t with
  | some w=>
   rw [hr] at h;injection h with h
   subst h;obtain ⟨q,hq,e⟩:=YgB hr;exact ⟨q,by simp [hq],e⟩
  | none=>
   rw [hr] at h;split at h
   ·rename_i h0;cases h0
   split at h
   ·injection h with h;exact ⟨p,by simp,h⟩
   cases h
theorem Yf3:∀ {l:List Param} {t u:Bs},tyF l t=some u->∃ p∈l,p.typ=u
 | [],_,_,h=>by cases h
 | p::r,t,u,h=>by
  rw [tyF] at h;split at h
  ·injection h with h;exact ⟨p,by simp,h⟩
  obtain ⟨q,hq,e⟩:=Yf3 h;exact ⟨q,by simp [hq],e⟩
def WK (all vars:List Param) (t:Bs):Option Bs:=if PreP t kQm then YbY vars t else tyF all t
def ObjR (fz:FZ) (vo:Value) (all:List Param):Prop:=∃ g m,vo=.map (some g)/\fz g=some (mapS m)/\∀ x,valS m x=(tyF all x).map Value.string
theorem ObjR.mono {vo:Value} {all:List Param} (h:ObjR fz vo all) (hle:Le fz fz'):ObjR fz' vo all:=by
 obtain ⟨g,m,h1,h2,h3⟩:=h;exact ⟨g,m,h1,hle _ _ h2,h3⟩
def Yhs (o:Option Bs):Value:=.tuple #[Zy (o.getD ⟨#[]⟩),errV (if o.isSome=true then 0 else 8)]
theorem find_q {p:Problem} {all:List Param} {vf vg vo:Value} {t:Bs} (h:CkR fz v d p all vf vp vg vo) (ho:ObjR fz vo all) (h1:Sl paramL fz A n c vars) (ht:Short t):
 QFn prog 287 [v,Zc A n c,Zy t] fz (Yhs (WK all vars t)):=by
 obtain ⟨gc,v1,v2,v3,v4,v5,v6,u1,u2,u3,u4,u5,u6,u7,Aa,na,ca,rfl,hc,hD,hP,hall⟩:=h;obtain ⟨go,mo,rfl,hgo,hmo⟩:=ho;have l1:=h1.len;have s1:=h1.short;refine qF Tryz.func287 Tryz.ntmps287 (fun w0=>?_);refine vG ?_;refine Xu (Yfe (p:=kQm) ht (by unfold Short kQm;decide)) (fun f1=>?_) (fun f1=>?_)
 ·have hp:=Zt f1;refine zV ?_;refine Yi (fun q σ fz' H'=>∃ (k:Nat) (z:Int),k<=n/\q=n - k/\z=(n:Int) - 1 - k/\σ=[(10,Zk z),(1,Zc A n c),(2,Zy t)]/\fz=fz'/\H'=[]/\(∀ i,n - 1 - k<i->i<n->∀ x,vars[i]?=some x->x.name≠t)/\(k=n->∀ x∈vars,x.name≠t)) ⟨0,(n:Int) - 1,Z0 _,rfl,by omega,rfl,rfl,rfl,fun i hi h2=>absurd hi Zi,fun h0 x hx=>by rw [List.eq_nil_of_length_eq_zero (l:=vars) Zi] at hx;cases hx⟩ Zw Zb ?_;rintro q σ fz' H' ⟨k,z,hk,rfl,hzk,rfl,rfl,rfl,hh,hz⟩;refine vC ?_ ?_<;>intro c1
  ·obtain ⟨x,hx⟩:=Yc (l:=vars) (k:=n - 1 - k) Zi;refine vI h1 hx (fun p1 hp1=>?_);refine vH hp1.Param_name (fun hn1=>?_);refine vC ?_ ?_<;>intro c2
   ·have e1:WK all vars t=some x.typ:=by
     rw [WK,if_pos hp];exact YiP hx c2 (fun i hi y hy=>hh i hi (by have:=(Zg hy).1;omega) y hy)
    refine vI h1 hx (fun p2 hp2=>?_);refine vH hp2.Param_typ (fun hn2=>?_);exact vS (h:=by rw [e1];rfl)
   refine zV ?_;exact Wr ⟨k+1,z - 1,by omega,rfl,by omega,rfl,rfl,rfl,fun i hi h2 y hy=>by
    by_cases he:i=n - 1 - k
    ·subst he;rw [hx] at hy;injection hy with hy;subst hy;exact c2
    ·exact hh i Zi h2 y hy,fun h0 y hy=>by
    obtain ⟨i,hi⟩:=List.getElem?_of_mem hy;have hin:=(Zg hi).1;by_cases he:i=n - 1 - k
    ·subst he;rw [hx] at hi;injection hi with hi;subst hi;exact c2
    exact hh i Zi Zi y hi⟩ Zi Zw Zb
  have e1:WK all vars t=none:=by
   rw [WK,if_pos hp];exact Yb6 (hz Zi)
  exact vS (h:=by rw [e1];rfl)
 have hp:=Zf f1;have e0:WK all vars t=tyF all t:=if_neg hp;refine vG ?_;refine Xe (v:=Zy ((tyF all t).getD ⟨#[]⟩)) (b:=(tyF all t).isSome) hgo ?_ (hv:=by rw [Yhu,hmo];cases tyF all t<;>rfl) (hb:=by rw [YeX,hmo];cases tyF all t<;>rfl);cases hr:tyF all t with
 | some u=>
  exact vS (h:=by exact (by rw [e0,hr];rfl))
 | none=>
  exact vS (h:=by exact (by rw [e0,hr];rfl))
end Go.Proofs.YtacfpcbladaohaaGreatDoor
