/- The texts PWalkG, PWalkH, PWalkI, PWalkJ, PCC, PText, PBuild, PCU, laid together. Conditions: none. -/
import Derived.Test.YtfjopfinkdhmaaaGreatDoorRZF
import Derived.Lib.AppendStr
import Derived.Lib.UnsafeStr
import Derived.Lib.Join
import Derived.Lib.ItoaNum
import Derived.Lib.ItoaMem
import Derived.Lib.Repeat
import Derived.Laws.StructEq
import Derived.Tactics
import Derived.Laws.StandIn
import Derived.Lib.Bytealg
set_option linter.all false
noncomputable section
set_option maxRecDepth 20000
namespace Go.Proofs.YtfjopfinkdhmaaaGreatDoor
open Go.Lx Go.RowKit
attribute [local instance 10] Classical.propDecidable
open Go.Proofs.Tryz (prog)
theorem XN {b:UInt8}:∀ {l:List UInt8},0<=Lib.indexByte l b↔b∈l
 | []=>by simp [Lib.indexByte]
 | x::r=>by
  have ih:=XN (b:=b) (l:=r);simp only [Lib.indexByte,List.mem_cons];split
  ·rename_i h;have:x=b:=by simpa using h
   simp [this]
  rename_i h;have hx:¬b=x:=by
   intro h0;subst h0;simp at h
  simp only [hx,false_or];split
  ·rename_i h1;rw [<- ih,eq_of_beq h1]
  rename_i h1;have h2:Lib.indexByte r b≠ -1:=by simpa using h1
  have:=Lib.indexByte_ge r b;rw [<- ih];omega
variable {fz:FZ}
theorem sibs_q {s:Bs} {n:Int}:QFn prog 206 [.string s,.int .u8 n] fz (Zk (Lib.indexByte s.data.toList n.toNat.toUInt8)):=by
 refine GFn.quiet ?_;refine zF Tryz.func206 Tryz.ntmps206 (fun w0=>?_);refine zW ?_;refine Seq.q rfl (DoesQ.of (v:=Zk (Lib.indexByte s.data.toList n.toNat.toUInt8)) ?_ fun ρ w hr hi=>?_)
 ·exact wR (h:=rfl)
 have h5:ρ (.tmp 5)=.string s:=hr _ _ rfl;have h6:ρ (.tmp 6)=.int .u8 n:=hr _ _ rfl;have h7:ρ (.func 235)=.func (.func 235) #[] #[]:=hr _ _ rfl;have hrun:=run_callFunc_indexByte (P:=prog) Tryz.func235 Zj rfl (by rfl) (by rfl) #[.string s,.int .u8 n] w;rw [Lib.run_indexByteString] at hrun;simp only [execOp,resolve,Deferred.ofValue,invoke,List.map_toArray,List.map_cons,List.map_nil,h5,h6,h7,Sem.run_bind,Sem.run_pure,Result.andThen_ok] at hrun ⊢;simp only [Array.empty_append,Array.append_empty];rw [hrun];exact ⟨rfl,Fr.refl _ _⟩
theorem ibs_q {s:Bs} {n:Int}:QFn prog 177 [.string s,.int .u8 n] fz (Zk (Lib.indexByte s.data.toList n.toNat.toUInt8)):=by
 refine GFn.quiet ?_;refine zF Tryz.func177 Tryz.ntmps177 (fun w0=>?_);refine wc sibs_q ?_;exact wR (h:=rfl)
def UpC (n:Int):Prop:=65<=n/\n<=90
def SymL:List UInt8:=[45,95,63,58,60,62,61,43,42]
def LowC (b:UInt8):Prop:=LetP b.toNat\/DigP b.toNat\/b∈SymL
def AnyC (b:UInt8):Prop:=UpC b.toNat\/LowC b
def lowB (b:UInt8):UInt8:=if UpC b.toNat then b+32 else b
def lowS (s:Bs):Bs:=⟨(s.data.toList.map lowB).toArray⟩
def LowP (s:Bs):Prop:=s≠kEmpty/\s.size<=32/\∀ b∈s.data.toList,AnyC b
theorem Yjt {n:Int} (h:0<=n/\n<=255):IntKind.u8.wrap n=n:=by
 simp only [IntKind.wrap,IntKind.signed,IntKind.bits];simp;omega
theorem byteV_up {b:UInt8} (h:UpC b.toNat):Value.int .u8 ((b.toNat:Int)+97 - 65)=Ycn (lowB b):=by
 unfold UpC at h;have h2:(b+32).toNat=b.toNat+32:=by rw [UInt8.toNat_add];simp;omega
 unfold Ycn lowB UpC;rw [if_pos h,h2]
 congr 1
 omega
theorem YaF {s:Bs}:s.data.toList.length=s.size:=by rw [Array.length_toList];rfl
variable {k:Nat}
theorem Ye7 {s:Bs} (h:k<s.size):s.data.toList[k]?=some s[k]:=by
 rw [List.getElem?_eq_getElem (by rw [YaF];exact h)];rfl
theorem set_mid {α:Type} {f:α->α} {l:List α} {x:α} (h:l[k]?=some x):((l.take k).map f++l.drop k).set k (f x)=(l.take (k+1)).map f++l.drop (k+1):=by
 have hk:k<l.length:=(Zg h).1;have hl:((l.take k).map f).length=k:=by simp;omega
 rw [List.set_append_right _ _ Zi,hl,Nat.sub_self,List.take_add_one,h];have:l.drop k=x::l.drop (k+1):=by
  rw [List.drop_eq_getElem_cons hk];rw [List.getElem?_eq_getElem hk] at h;cases h;rfl
 rw [this];simp
theorem Ycg {α:Type} {f:α->α} {l:List α} {x:α} (h:l[k]?=some x) (hf:f x=x):(l.take k).map f++l.drop k=(l.take (k+1)).map f++l.drop (k+1):=by
 rw [<- set_mid h,hf];have hk:k<l.length:=(Zg h).1;apply List.ext_getElem?;intro i;rw [List.getElem?_set];split
 ·rename_i he;subst he;have hl:((l.take k).map f).length=k:=by simp;omega
  rw [if_pos (by simp;omega),List.getElem?_append_right Zi,hl,Nat.sub_self,List.getElem?_drop,Nat.add_zero,h]
 rfl
theorem get_mid {α:Type} {f:α->α} {l:List α} {x:α} (h:l[k]?=some x):((l.take k).map f++l.drop k)[k]?=some x:=by
 have hk:k<l.length:=(Zg h).1;have hl:((l.take k).map f).length=k:=by simp;omega
 rw [List.getElem?_append_right Zi,hl,Nat.sub_self,List.getElem?_drop,Nat.add_zero,h]
theorem YbA {α:Type} {p:α->Prop} {l:List α} {x:α} (h:∀ b∈l.take k,p b) (hx:l[k]?=some x) (hp:p x):∀ b∈l.take (k+1),p b:=by
 rw [List.take_add_one,hx];intro b hb;rcases List.mem_append.1 hb with hb | hb
 ·exact h b hb
 simp at hb;subst hb;exact hp
theorem Ycc {b:UInt8} (h:¬UpC b.toNat):lowB b=b:=if_neg h
theorem Ydv {b:UInt8}:((b.toNat:Int).toNat).toUInt8=b:=by simp [Nat.toUInt8]
set_option maxHeartbeats 1000000 in
theorem YjP {s:Bs}:QFn prog 137 [.string s] fz (.tuple #[.string (if LowP s then lowS s else kEmpty),.bool (decide (LowP s))]):=by
 refine GFn.quiet ?_;have no:¬LowP s->Value.tuple #[.string kEmpty,.bool false]=.tuple #[.string (if LowP s then lowS s else kEmpty),.bool (decide (LowP s))]:=fun h=>by rw [if_neg h,decide_eq_false h]
 refine zF Tryz.func137 Tryz.ntmps137 (fun w0=>?_);refine wC (fun c1=>?_) (fun c1=>?_)
 ·exact wS (h:=by exact no (fun h=>h.1 c1))
 refine wC (fun c2=>?_) (fun c2=>?_)
 ·exact wS (h:=by exact no (fun h=>by have:=h.2.1;omega))
 refine zW ?_;refine Ya Zz (k_bytes T Zz Zz Zz Zz Zz Zz Zz (fun g k0=>?_));have hz:s.size<=32:=by omega
 refine zW ?_;refine Ym (fun q σ fz' H'=>∃ k:Nat,k<=s.size/\q=s.size - k/\σ=[(18,Zk k),(17,Zk s.size),(16,Zv g s.size (s.size+k0)),(4,Zv g s.size (s.size+k0))]/\fz=fz'/\
  H'=[(g,YbY 5 ((s.data.toList.take k).map lowB++s.data.toList.drop k) k0)]/\(∀ b∈s.data.toList.take k,AnyC b)) ⟨0,Z0 _,rfl,rfl,rfl,rfl,by simp⟩ Zw Zb ?_
 rintro q σ fz' H' ⟨k,hk,rfl,rfl,rfl,rfl,hh⟩;have hlen:((s.data.toList.take k).map lowB++s.data.toList.drop k).length=s.size:=by
  have:=YaF (s:=s);simp only [List.length_append,List.length_map,List.length_take,List.length_drop];omega
 refine wC (fun c3=>?_) (fun c3=>?_)
 ·obtain ⟨b,hb⟩:∃ b,s.data.toList[k]?=some b:=⟨_,Ye7 Zi⟩;have hlt:=b.toNat_lt;have bad:¬AnyC b->¬LowP s:=fun h0 h1=>h0 (h1.2.2 b (Zm hb))
  refine wG ?_;refine XJ T Zz Zz Zz Zz Zz Zz Zi Zi ?_;refine zG ?_;refine YjH T 0 Zz Zz Zz Zz (get_mid hb) ?_;refine wC (fun d1=>?_) (fun d1=>?_)
  ·refine wC (fun d2=>?_) (fun d2=>?_)
   ·refine wG ?_;refine Yaz Zz Zz (Yjt Zi) ?_;refine zG ?_;refine q_sub Zz Zz (Yjt Zi) ?_;refine zG ?_;refine XJ T Zz Zz Zz Zz Zz Zz Zi Zi ?_;refine YF (YiR T (pre:=[]) Zz Zz (congrArg some (byteV_up ⟨d1,d2⟩)) rfl Zz (by rw [hlen];exact (by omega:k<s.size)) ?_);exact wP (h:=by exact ⟨k+1,by omega,rfl,rfl,rfl,by rw [<- set_mid hb],YbA hh hb (.inl ⟨d1,d2⟩)⟩)
   have nu:¬UpC b.toNat:=fun h0=>d2 h0.2
   refine wC (fun d3=>?_) (fun d3=>?_)
   ·refine wC (fun d4=>?_) (fun d4=>?_)
    ·exact wP (h:=by exact ⟨k+1,by omega,rfl,rfl,rfl,by rw [<- Ycg hb (Ycc nu)],YbA hh hb (.inr (.inl ⟨d3,d4⟩))⟩)
    have nl:¬LetP b.toNat:=fun h0=>d4 h0.2
    refine wb (YhO (n:=b.toNat)) (fun f1=>?_) (fun f1=>?_)
    ·exact wP (h:=by exact ⟨k+1,by omega,rfl,rfl,rfl,by rw [<- Ycg hb (Ycc nu)],YbA hh hb (.inr (.inr (.inl (Zt f1))))⟩)
    refine wc (ibs_q (n:=b.toNat)) ?_;refine zC (fun e1=>?_) (fun e1=>?_)
    ·exact wP (h:=by exact ⟨k+1,by omega,rfl,rfl,rfl,by rw [<- Ycg hb (Ycc nu)],YbA hh hb (.inr (.inr (.inr (by rw [XN,Ydv] at e1;exact e1))))⟩)
    refine zW ?_;exact ret2 rfl rfl rfl Zb (no (bad (fun h0=>by
     rcases h0 with h0 | h0 | h0 | h0
     ·exact nu h0
     ·exact nl h0
     ·exact Zf f1 h0
     exact e1 (XN.2 (by rw [Ydv];exact h0)))))
   have nl:¬LetP b.toNat:=fun h0=>d3 h0.1
   refine wb (YhO (n:=b.toNat)) (fun f1=>?_) (fun f1=>?_)
   ·exact wP (h:=by exact ⟨k+1,by omega,rfl,rfl,rfl,by rw [<- Ycg hb (Ycc nu)],YbA hh hb (.inr (.inr (.inl (Zt f1))))⟩)
   refine wc (ibs_q (n:=b.toNat)) ?_;refine zC (fun e1=>?_) (fun e1=>?_)
   ·exact wP (h:=by exact ⟨k+1,by omega,rfl,rfl,rfl,by rw [<- Ycg hb (Ycc nu)],YbA hh hb (.inr (.inr (.inr (by rw [XN,Ydv] at e1;exact e1))))⟩)
   refine zW ?_;exact ret2 rfl rfl rfl Zb (no (bad (fun h0=>by
    rcases h0 with h0 | h0 | h0 | h0
    ·exact nu h0
    ·exact nl h0
    ·exact Zf f1 h0
    exact e1 (XN.2 (by rw [Ydv];exact h0)))))
  have nu:¬UpC b.toNat:=fun h0=>d1 h0.1
  refine wC (fun d3=>?_) (fun d3=>?_)
  ·exact absurd d3 Zi
  have nl:¬LetP b.toNat:=fun h0=>d3 h0.1
  refine wb (YhO (n:=b.toNat)) (fun f1=>?_) (fun f1=>?_)
  ·exact wP (h:=by exact ⟨k+1,by omega,rfl,rfl,rfl,by rw [<- Ycg hb (Ycc nu)],YbA hh hb (.inr (.inr (.inl (Zt f1))))⟩)
  refine wc (ibs_q (n:=b.toNat)) ?_;refine zC (fun e1=>?_) (fun e1=>?_)
  ·exact wP (h:=by exact ⟨k+1,by omega,rfl,rfl,rfl,by rw [<- Ycg hb (Ycc nu)],YbA hh hb (.inr (.inr (.inr (by rw [XN,Ydv] at e1;exact e1))))⟩)
  refine zW ?_;exact ret2 rfl rfl rfl Zb (no (bad (fun h0=>by
   rcases h0 with h0 | h0 | h0 | h0
   ·exact nu h0
   ·exact nl h0
   ·exact Zf f1 h0
   exact e1 (XN.2 (by rw [Ydv];exact h0)))))
 rw [show s.data.toList.take k=s.data.toList from Zl (by rw [YaF];omega),show s.data.toList.drop k=[] from List.drop_eq_nil_of_le (by rw [YaF];omega),List.append_nil] at*;have hP:LowP s:=⟨c1,by omega,hh⟩;refine wG ?_;refine YjE T 0 Zz Zz Zz Zz Zz Zz Zz Zz hlen ?_;exact wS (h:=by exact (by rw [if_pos hP,decide_eq_true hP];rfl))
def WordT (s:Bs):Prop:=s≠kEmpty/\s.size<=32/\(∀ b∈s.data.toList,LowC b)/\¬NumP s
def YeA (x:Sexpr):Prop:=(x.kind=1/\WordT x.text/\x.value=0/\x.kids=[])\/(x.kind=2/\x.text=kEmpty/\x.kids=[]/\NumOk x.value)\/(x.kind=3/\x.text=kEmpty/\x.value=0)
abbrev XOk (x:Sexpr):Prop:=XAll YeA x
def XVal (x:Sexpr):Prop:=XOk x/\xdepth x<=32/\xcount x<=4096
theorem YiN {s:Bs}:(lowS s).size=s.size:=by
 have:=YaF (s:=s);simp only [lowS,ByteArray.size,List.size_toArray,List.length_map];exact this
theorem lowB_fix {b:UInt8} (h:lowB b=b):¬UpC b.toNat:=by
 intro hu;rw [lowB,if_pos hu] at h;have h1:=congrArg UInt8.toNat h;unfold UpC at hu;rw [UInt8.toNat_add] at h1;simp at h1;omega
theorem Ym7 {α:Type} {f:α->α}:∀ {l:List α},l.map f=l->∀ x∈l,f x=x
 | [],_,_,hx=>by cases hx
 | a::r,h,x,hx=>by
  simp only [List.map_cons,List.cons.injEq] at h;rcases List.mem_cons.1 hx with rfl | hx
  ·exact h.1
  exact Ym7 h.2 x hx
theorem YnA {α:Type} {f:α->α}:∀ {l:List α},(∀ x∈l,f x=x)->l.map f=l
 | [],_=>rfl
 | a::r,h=>by rw [List.map_cons,h a (by simp),YnA (fun x hx=>h x (by simp [hx]))]
theorem low_upc {b:UInt8} (h:LowC b):¬UpC b.toNat:=by
 unfold LowC LetP DigP SymL at h;unfold UpC;rcases h with h | h | h
 ·omega
 ·omega
 simp only [List.mem_cons,List.not_mem_nil,or_false] at h;rcases h with rfl | rfl | rfl | rfl | rfl | rfl | rfl | rfl | rfl<;>decide
theorem Yhw {s:Bs}:LowP s/\lowS s=s↔s≠kEmpty/\s.size<=32/\∀ b∈s.data.toList,LowC b:=by
 constructor
 ·rintro ⟨⟨h1,h2,h3⟩,h4⟩;refine ⟨h1,h2,fun b hb=>?_⟩;have h5:s.data.toList.map lowB=s.data.toList:=by
   have:=congrArg (fun t:Bs=>t.data.toList) h4;simpa [lowS] using this
  exact (h3 b hb).resolve_left (lowB_fix (Ym7 h5 b hb))
 rintro ⟨h1,h2,h3⟩;refine ⟨⟨h1,h2,fun b hb=>.inr (h3 b hb)⟩,?_⟩;have:=YnA (f:=lowB) (l:=s.data.toList) (fun b hb=>if_neg (low_upc (h3 b hb)));unfold lowS;rw [this]
def cntO (c:Int):Obj:=.cells #[Zk c] 3 (0,0)
def XBud (g:Nat) (x:Sexpr) (d c:Nat) (v:Value) (H':HP):Prop:=
 ∃ (b:Bool) (c':Int),v=.bool b/\H'=[(g,cntO c')]/\(b=true->c'=((c+xcount x:Nat):Int))/\(b=true↔XOk x/\d+xdepth x<=32/\c+xcount x<=4096)
variable {c g:Nat}
theorem YgW {x:Sexpr} {d:Nat} {c':Int} (h:¬(XOk x/\d+xdepth x<=32/\c+xcount x<=4096)):XBud g x d c (.bool false) [(g,cntO c')]:=⟨false,c',rfl,rfl,(by simp),iff_of_false (by simp) h⟩
theorem Yh3 {x:Sexpr} {d:Nat} (h:YeA x) (hk:x.kids=[]) (h3:x.kind≠3) (hc:c+1<=4096) (hd:d<=32):XBud g x d c (.bool true) [(g,cntO (c+1:Nat))]:=by
 have h1:xcount x=1:=by rw [Y4,hk];simp [xcountL]
 have h2:xdepth x=0:=by rw [Ybd,hk,if_neg h3];simp [xdepthL]
 exact ⟨true,_,rfl,rfl,fun _=>by rw [h1],iff_of_true rfl ⟨Y2.2 ⟨h,by rw [hk];simp⟩,by omega,by omega⟩⟩
theorem xnode1 {x:Sexpr} (h:x.kind=1):YeA x↔WordT x.text/\x.value=0/\x.kids=[]:=by
 unfold YeA;rw [h];simp
theorem xnode2 {x:Sexpr} (h:x.kind=2):YeA x↔x.text=kEmpty/\x.kids=[]/\NumOk x.value:=by
 unfold YeA;rw [h];simp
theorem xnode3 {x:Sexpr} (h:x.kind=3):YeA x↔x.text=kEmpty/\x.value=0:=by
 unfold YeA;rw [h];simp
set_option maxHeartbeats 2000000 in
theorem YlZ:∀ (s:Nat) {fz:FZ} {x:Sexpr} {vk:Value} {g d c:Nat},SizeOf.sizeOf x<=s->YS fz x vk->d<=32->c<=4096->
 GFn prog 88 [.agg #[Zk x.kind,Zk x.value,Zk x.line,Zk x.column,.string x.text,vk],Zk d,Zp g] fz [(g,cntO c)] (fun v fz' H'=>Le fz fz'/\XBud g x d c v H')
 | 0,_,x,_,_,_,_,hs,_,_,_=>by cases x;simp at hs
 | s+1,fz,x,vk,g,d,c,hs,h,hd,hc=>by
  obtain ⟨A,n,ca,rfl,hk⟩:=h.kids;have no:∀ {c':Int},¬YeA x->XBud g x d c (.bool false) [(g,cntO c')]:=fun h0=>YgW (fun h1=>h0 (Y2.1 h1.1).1)
  have e1:=Y4 x;have e2:=Ybd x;unfold cntO;refine zF Tryz.func88 Tryz.ntmps88 (fun w0=>?_);refine Yj (Yq (Ya Zz (Xb _ Zz Zz (fun g0=>?_))));refine wC (fun c1=>?_) (fun c1=>?_)
  ·refine zW ?_;exact ret1 rfl rfl (List.Sublist.cons _ (List.Sublist.refl _)) ⟨Le.refl _,YgW (fun h0=>by omega)⟩
  refine wC (fun x1=>?_) (fun y1=>?_)
  ·have hn:=xnode1 x1;by_cases hL:LowP x.text
   ·have hq:=YjP (fz:=fz) (s:=x.text);rw [if_pos hL,decide_eq_true hL] at hq;refine wc hq ?_;refine wC (fun n1=>?_) (fun n1=>?_)
    ·have hw:=(Yhw.1 ⟨hL,n1⟩);refine wG ?_;refine We Zz Zz (YiI (s:=lowS x.text) (by unfold Short;rw [YiN];exact h.text)) (fun f1=>?_) (fun f1=>?_)
     ·refine zW ?_;exact ret1 rfl rfl Zb ⟨Le.refl _,no (fun h0=>(hn.1 h0).1.2.2.2 (by rw [<- n1];exact Zt f1))⟩
     refine zW ?_
     (((refine zC (fun n2=>?_) (fun n2=>?_));rotate_left 1;((refine zW ?_);(exact ret1 rfl rfl Zb ⟨Le.refl _,no (fun h0=>n2 (hn.1 h0).2.1)⟩));(refine zW ?_)))
     (((refine zC (fun n3=>?_) (fun n3=>?_));rotate_left 1;((refine zW ?_);(exact ret1 rfl rfl Zb ⟨Le.refl _,no (fun h0=>n3 ((len0 hk.len).2 (hn.1 h0).2.2))⟩));(refine zW ?_)));exact wR (h:=by exact ⟨Le.refl _,Yh3 (hn.2 ⟨⟨hw.1,hw.2.1,hw.2.2,by rw [<- n1];exact Zf f1⟩,n2,(len0 hk.len).1 n3⟩) ((len0 hk.len).1 n3) Zi Zi hd⟩)
    refine zW ?_;exact ret1 rfl rfl (List.Sublist.cons _ (List.Sublist.refl _)) ⟨Le.refl _,no (fun h0=>n1 (Yhw.2 ⟨(hn.1 h0).1.1,(hn.1 h0).1.2.1,(hn.1 h0).1.2.2.1⟩).2)⟩
   have hq:=YjP (fz:=fz) (s:=x.text);rw [if_neg hL,decide_eq_false hL] at hq;refine zW ?_;refine zc hq ?_;refine zW ?_;exact ret1 rfl rfl (List.Sublist.cons _ (List.Sublist.refl _)) ⟨Le.refl _,no (fun h0=>hL (Yhw.2 ⟨(hn.1 h0).1.1,(hn.1 h0).1.2.1,(hn.1 h0).1.2.2.1⟩).1)⟩
  refine zW ?_;refine zC (fun x2=>?_) (fun y2=>?_)
  ·have hn:=xnode2 x2;refine zW ?_
   (((refine zC (fun n1=>?_) (fun n1=>?_));rotate_left 1;((refine zW ?_);(exact ret1 rfl rfl Zb ⟨Le.refl _,no (fun h0=>n1 (hn.1 h0).1)⟩));(refine zW ?_)))
   (((refine zC (fun n3=>?_) (fun n3=>?_));rotate_left 1;((refine zW ?_);(exact ret1 rfl rfl Zb ⟨Le.refl _,no (fun h0=>n3 ((len0 hk.len).2 (hn.1 h0).2.1))⟩));(refine zW ?_)))
   (((refine zC (fun n4=>?_) (fun n4=>?_));rotate_left 1;((refine zW ?_);(exact ret1 rfl rfl Zb ⟨Le.refl _,no (fun h0=>n4 (hn.1 h0).2.2.1)⟩));(refine zW ?_)))
   (((refine zC (fun n5=>?_) (fun n5=>?_));rotate_left 1;((refine zW ?_);(exact ret1 rfl rfl Zb ⟨Le.refl _,no (fun h0=>n5 (hn.1 h0).2.2.2)⟩));(refine zW ?_)));exact ret1 rfl rfl Zb ⟨Le.refl _,Yh3 (hn.2 ⟨n1,(len0 hk.len).1 n3,n4,n5⟩) ((len0 hk.len).1 n3) Zi Zi hd⟩
  refine zW ?_;refine zC (fun x3=>?_) (fun y3=>?_)
  ·have hn:=xnode3 x3;rw [if_pos x3] at e2;have sk:=hk.short;have lk:=hk.len;refine zW ?_
   (((refine zC (fun n1=>?_) (fun n1=>?_));((refine zW ?_);(exact ret1 rfl rfl Zb ⟨Le.refl _,no (fun h0=>n1 (hn.1 h0).1)⟩));(refine zW ?_)))
   (((refine zC (fun n2=>?_) (fun n2=>?_));((refine zW ?_);(exact ret1 rfl rfl Zb ⟨Le.refl _,no (fun h0=>n2 (hn.1 h0).2)⟩));(refine zW ?_)))
   (((refine zC (fun n3=>?_) (fun n3=>?_));((refine zW ?_);(exact ret1 rfl rfl Zb ⟨Le.refl _,YgW (fun h0=>by omega)⟩));(refine zW ?_)));refine Ym (fun mm σ fz' H'=>∃ k:Nat,k<=n/\mm=n - k/\σ=[(91,Zk k),(90,Zk n),(89,.slice A n ca),(2,Zp g),(1,Zk d)]/\Le fz fz'/\H'=[(g,.cells #[Zk (c+1+xcountL (x.kids.take k):Nat)] 3 (0,0))]/\(∀ i,i<k->∀ y,x.kids[i]?=some y->XOk y/\d+1+xdepth y<=32)/\c+1+xcountL (x.kids.take k)<=4096) ⟨0,Z0 _,rfl,rfl,Le.refl _,rfl,(fun i hi=>absurd hi Zi),by simp [xcountL];omega⟩ Zw Zb ?_;rintro _ σ fz' H' ⟨k,hkn,rfl,rfl,hle,rfl,hh,hcc⟩;have hk2:=hk.mono hle;refine zW ?_;refine zC (fun c2=>?_) (fun c2=>?_)
   ·obtain ⟨y,hy⟩:=Yl (l:=x.kids) (k:=k) Zi;have hym:=Zm hy;have hlt:=Sexpr.kids_lt hym;have hst:=Yh1 hy;have htk:=YeC (l:=x.kids) (k:=k+1);refine zW ?_;refine zI hk2 hy (fun p1 hp1=>?_);refine zL hp1 ?_;intro cs hcs;obtain ⟨wk,rfl,hRy⟩:=Yi hcs;obtain ⟨A1,n6,b1,rfl,_⟩:=hRy.kids;refine zW ?_;intros
    first | refine Wp.perm (List.Perm.swap _ _ _) ?_ | refine Seq.perm (List.Perm.swap _ _ _) ?_
    refine Ya Zz (Yx [_] [_] Zz Zz Zz (YlZ s (x:=y) (d:=d+1) (c:=c+1+xcountL (x.kids.take k)) Zi hRy Zi hcc) (fun v5 fz5 H5 hle5 hR5=>?_));obtain ⟨_,b5,c5,rfl,rfl,hc5,hb5⟩:=hR5;cases b5
    ·refine zW ?_;exact ret1 rfl rfl Zb ⟨hle.trans hle5,YgW (fun h0=>absurd (hb5.2 ⟨(Y2.1 h0.1).2 y hym,by have:=(Yat (l:=x.kids)).1 (Zs _) y hym;omega,by omega⟩) (by simp))⟩
    have hc5:=hc5 rfl;have hb5:=hb5.1 rfl;subst hc5;refine zW ?_;exact WO ⟨k+1,by omega,rfl,rfl,hle.trans hle5,by rw [hst,<- Nat.add_assoc],YL hh hy ⟨hb5.1,hb5.2.1⟩,by omega⟩ Zi Zw Zb
   rw [show x.kids.take k=x.kids from Zl Zi] at hcc ⊢;have hK:=Xy hh Zi;refine zW ?_;exact ret1 rfl rfl (List.Sublist.refl _) ⟨hle,true,_,rfl,rfl,fun _=>by rw [e1];simp only [Nat.add_assoc],iff_of_true rfl ⟨Y2.2 ⟨hn.2 ⟨n1,n2⟩,fun y hy=>(hK y hy).1⟩,by
    have e3:xdepthL x.kids<=31 - d:=Yat.2 (fun y hy=>by have:=(hK y hy).2;omega);omega,by omega⟩⟩
  refine zW ?_;exact ret1 rfl rfl Zb ⟨Le.refl _,no (fun h0=>by rcases h0 with h0 | h0 | h0;exact y1 h0.1;exact y2 h0.1;exact y3 h0.1)⟩
variable {vk:Value}
theorem WZ {x:Sexpr} (h:YS fz x vk):QFn prog 35 [.agg #[Zk x.kind,Zk x.value,Zk x.line,Zk x.column,.string x.text,vk]] fz (.bool (decide (XVal x))):=by
 obtain ⟨A,n,ca,rfl,hk⟩:=h.kids;refine GFn.quiet ?_;refine zF Tryz.func35 Tryz.ntmps35 (fun w0=>?_);refine Yj (Yq (Ya Zz (Xb _ Zz Zz (fun g0=>?_))));refine zW ?_;intros;refine Ya Zz (Yx [_] [_] Zz Zz Zz (YlZ _ (d:=0) (c:=0) (Zs _) h Zi Zi) (fun v5 fz5 H5 hle5 hR5=>?_));obtain ⟨_,b5,c5,rfl,rfl,hc5,hb5⟩:=hR5;refine zW ?_;have hb:(b5=true)↔XVal x:=by rw [hb5];unfold XVal;simp only [Nat.zero_add]
 have hd:decide (XVal x)=b5:=by cases b5<;>simp_all
 exact zR (h:=by rw [hd])
def errV:Int->Value:=fun n=>if n=0 then .nilIface else .iface 65 (Zk n)
theorem Yk {n:Int} (h:n≠0):errV n=.iface 65 (Zk n):=if_neg h
def ESmN (e:Lx.Expr):Prop:=e.args.length<=1000000000
def FSmN (f:Formula):Prop:=f.args.length<=1000000000/\f.params.length<=1000000000/\f.kids.length<=1000000000
abbrev ESm (e:Lx.Expr):Prop:=EAll ESmN e
abbrev FSm (f:Formula):Prop:=FAll FSmN ESmN f
theorem YbW:∀ (s:Nat) {e:Lx.Expr},SizeOf.sizeOf e<=s->EOk e->ESm e->EShape e
 | 0,e,h,_,_=>by cases e;simp at h
 | s+1,e,h,h1,h2=>by
  have h3:=W0.1 h1;have h4:=W0.1 h2;rcases h3.1 with h5 | h5 | h5
  ·exact .num h5.1
  ·exact .flu h5.1 h4.1
  obtain ⟨a,b,hab⟩:∃ a b,e.kids=[a,b]:=by
   match hK:e.kids,h5.2.2.2.2 with
   | [a,b],_=>exact ⟨a,b,rfl⟩
  have ka:a∈e.kids:=by rw [hab];simp
  have kb:b∈e.kids:=by rw [hab];simp
  have la:=Lx.Expr.kids_lt ka;have lb:=Lx.Expr.kids_lt kb;refine .bin (fun h0=>?_) (fun h0=>?_) hab (YbW s Zi (h3.2 a ka) (h4.2 a ka)) (YbW s Zi (h3.2 b kb) (h4.2 b kb))
  ·have h6:=h5.1;rw [h0] at h6;rcases h6 with h6 | h6 | h6<;>exact absurd (congrArg ByteArray.size h6) Zh
  have h6:=h5.1;rw [h0] at h6;rcases h6 with h6 | h6 | h6<;>exact absurd (congrArg ByteArray.size h6) Zh
theorem YfK:∀ (s:Nat) {f:Formula},SizeOf.sizeOf f<=s->FOk f->FSm f->FShape f
 | 0,f,h,_,_=>by cases f;simp at h
 | s+1,f,h,h1,h2=>by
  have h3:=Wc.1 h1;have h4:=Wc.1 h2;by_cases k1:f.op=kAtom
  ·exact .atom (.inl k1) h4.1.1
  by_cases k2:f.op=kSame
  ·exact .atom (.inr k2) h4.1.1
  by_cases k3:CmpOp f.op
  ·obtain ⟨_,⟨k,hk,hr⟩,_⟩:=h3.1;rw [YcK,if_neg (fun h0=>h0.elim k1 k2),if_pos k3] at hk;cases hk;obtain ⟨a,b,hab⟩:∃ a b,f.exprs=[a,b]:=by
    match hK:f.exprs,hr.2.1 with
    | [a,b],_=>exact ⟨a,b,rfl⟩
   have ka:a∈f.exprs:=by rw [hab];simp
   have kb:b∈f.exprs:=by rw [hab];simp
   exact .cmp k3 hab (YbW _ (Zs _) (h3.2.1 a ka) (h4.2.1 a ka)) (YbW _ (Zs _) (h3.2.1 b kb) (h4.2.1 b kb))
  exact .other k1 k2 k3 h4.1.2.1 h4.1.2.2 (fun k hk=>YfK s (by have:=Formula.kids_lt hk;omega) (h3.2.2 k hk) (h4.2.2 k hk))
theorem YbU:∀ (s:Nat) {e:Lx.Expr},SizeOf.sizeOf e<=s->EOk e->ecount e<=xcount (XU e)/\edepth e<=xdepth (XU e)+1
 | 0,e,h,_=>by cases e;simp at h
 | s+1,e,h,h1=>by
  have h3:=W0.1 h1;rw [Ye9,YcM,Yd0];split
  ·rename_i h0;have hk:=((YdX h0).1 h3.1).2.2.1;rw [hk];simp [ecountL,edepthL,numE,xcount,xcountL,xdepth]
  split
  ·rename_i h0;have hk:=((YdY h0).1 h3.1).2.1;rw [hk];simp [ecountL,edepthL,W5,YD,xcount,xdepth]
  rename_i k1 k2;have h5:=(YdZ k1 k2).1 h3.1;obtain ⟨a,b,hab⟩:∃ a b,e.kids=[a,b]:=by
   match hK:e.kids,h5.2.2.2.2 with
   | [a,b],_=>exact ⟨a,b,rfl⟩
  have ka:a∈e.kids:=by rw [hab];simp
  have kb:b∈e.kids:=by rw [hab];simp
  have la:=YbU s (by have:=Lx.Expr.kids_lt ka;omega) (h3.2 a ka);have lb:=YbU s (by have:=Lx.Expr.kids_lt kb;omega) (h3.2 b kb);rw [hab];simp only [ecountL,edepthL,YD,xcount,xcountL,xdepth,xdepthL,List.map_cons,List.map_nil,Yg];simp;omega
theorem YgV {l:List Formula} (h:∀ k∈l,fcount k<=xcount (Xc k)):fcountL l<=xcountL (l.map Xc):=by
 induction l with
 | nil=>simp [fcountL]
 | cons a r ih=>
  have h1:=h a (by simp);have h2:=ih (fun k hk=>h k (by simp [hk]));simp only [fcountL,List.map_cons,xcountL];omega
theorem YgU {l:List Formula} (h:∀ k∈l,fdepth k<=xdepth (Xc k)+1):fdepthL l<=xdepthL (l.map Xc)+1:=by
 induction l with
 | nil=>simp [fdepthL]
 | cons a r ih=>
  have h1:=h a (by simp);have h2:=ih (fun k hk=>h k (by simp [hk]));simp only [fdepthL,List.map_cons,xdepthL];omega
theorem Ycf {l:List Sexpr}:xcount (YD l)=1+xcountL l:=by simp [YD,xcount]
theorem Yce {l:List Sexpr}:xdepth (YD l)=xdepthL l+1:=by simp [YD,xdepth]
theorem Yep:∀ (s:Nat) {f:Formula},SizeOf.sizeOf f<=s->FOk f->fcount f<=xcount (Xc f)/\fdepth f<=xdepth (Xc f)+1
 | 0,f,h,_=>by cases f;simp at h
 | s+1,f,h,h1=>by
  have h3:=Wc.1 h1;obtain ⟨_,⟨k,hk,hr⟩,_⟩:=h3.1;rw [Ye8,YdW,YfS];by_cases k1:f.op=kAtom
  ·rw [YcK,if_pos (.inl k1)] at hk;cases hk;rw [List.eq_nil_of_length_eq_zero hr.2.1,List.eq_nil_of_length_eq_zero hr.2.2.1,if_pos k1];simp [ecountL,edepthL,fcountL,fdepthL,W5,Ycf,Yce]
  by_cases k2:f.op=kSame
  ·rw [YcK,if_pos (.inr k2)] at hk;cases hk;rw [List.eq_nil_of_length_eq_zero hr.2.1,List.eq_nil_of_length_eq_zero hr.2.2.1,if_neg k1,if_pos k2];simp [ecountL,edepthL,fcountL,fdepthL,W5,Ycf,Yce]
  by_cases k3:CmpOp f.op
  ·rw [YcK,if_neg (fun h0=>h0.elim k1 k2),if_pos k3] at hk;cases hk;obtain ⟨a,b,hab⟩:∃ a b,f.exprs=[a,b]:=by
    match hK:f.exprs,hr.2.1 with
    | [a,b],_=>exact ⟨a,b,rfl⟩
   have la:=YbU _ (Zs _) (h3.2.1 a (by rw [hab];simp));have lb:=YbU _ (Zs _) (h3.2.1 b (by rw [hab];simp));rw [hab,List.eq_nil_of_length_eq_zero hr.2.2.1,if_neg k1,if_neg k2,if_pos k3];simp only [ecountL,edepthL,fcountL,fdepthL,Ycf,Yce,xcountL,xdepthL,List.map_cons,List.map_nil];omega
  have he:f.exprs=[]:=by
   refine List.eq_nil_of_length_eq_zero ?_;rw [hr.2.1];rw [YcK,if_neg (fun h0=>h0.elim k1 k2),if_neg k3] at hk;split at hk
   ·cases hk;rfl
   split at hk
   ·cases hk;rfl
   split at hk
   ·cases hk;rfl
   split at hk
   ·cases hk;rfl
   cases hk
  have c1:=YgV (l:=f.kids) (fun k hk=>(Yep s (by have:=Formula.kids_lt hk;omega) (h3.2.2 k hk)).1);have c2:=YgU (l:=f.kids) (fun k hk=>(Yep s (by have:=Formula.kids_lt hk;omega) (h3.2.2 k hk)).2);rw [he,if_neg k1,if_neg k2,if_neg k3,Ycf,Yce,Wo,Yga];simp only [ecountL,edepthL];omega
def FVal (f:Formula):Prop:=FOk f/\XVal (Xc f)
def EVal (e:Lx.Expr):Prop:=EOk e/\XVal (XU e)
variable {f:Formula} {va ve vp:Value}
theorem Yk0 (h:FormulaR fz f va vp ve vk) (hs:FSm f):
 QFn prog 107 [.agg #[.string f.op,.string f.name,va,vp,ve,vk]] fz (.bool (decide (FVal f))):=by
 obtain ⟨A,n,ca,rfl,ha⟩:=h.args;obtain ⟨B,m,cb,rfl,hp⟩:=h.params;obtain ⟨C,r,cr,rfl,he⟩:=h.exprs;obtain ⟨D,q,cq,rfl,hk⟩:=h.kids;refine GFn.quiet ?_;refine zF Tryz.func107 Tryz.ntmps107 (fun w0=>?_);refine Yj (Yq (Ya Zz (Xb _ Zz Zz (fun g0=>?_))));refine zW ?_;intros;rename_i g1;refine Ya Zz (Yx [_] [_] Zz Zz Zz (shaped_q (g:=g1) (d:=0) (c:=0) h Zi Zi) (fun v5 fz5 H5 hle5 hR5=>?_));obtain ⟨_,b5,c5,rfl,rfl,hc5,hb5⟩:=hR5;cases b5
 ·refine zW ?_
  (exact ret1 rfl rfl Zb (Yn (fun h0=>by
   have h1:=Yep _ (Zs _) h0.1;exact absurd (hb5.2 ⟨h0.1,by have:=h0.2.2.1;omega,by have:=h0.2.2.2;omega⟩) (by simp))))
 have hb:=hb5.1 rfl;refine zW ?_;refine Seq.guard_yesK Zz Zz Zz (Yx [] _ Zz Zz Zz (YlT (h.mono hle5) (YfK _ (Zs _) hb.1 hs)) (fun v6 fz6 H6 hle6 hR6=>?_));obtain ⟨rfl,cs,rfl,hr⟩:=hR6;obtain ⟨vk6,rfl,hX⟩:=Yi hr;refine wc (WZ hX) ?_;refine zW ?_;have hd:decide (FVal f)=decide (XVal (Xc f)):=decide_eq_decide.2 ⟨fun h0=>h0.2,fun h0=>⟨hb.1,h0⟩⟩;exact zR (h:=by rw [hd])
theorem Ylc {e:Lx.Expr} (h:ExprR fz e va vk) (hs:ESm e):
 QFn prog 226 [.agg #[.string e.op,.string e.name,Zk e.n,va,vk]] fz (.bool (decide (EVal e))):=by
 obtain ⟨A,n,ca,rfl,ha⟩:=h.args;obtain ⟨D,q,cq,rfl,hk⟩:=h.kids;refine GFn.quiet ?_;refine zF Tryz.func226 Tryz.ntmps226 (fun w0=>?_);refine Yj (Yq (Ya Zz (Xb _ Zz Zz (fun g0=>?_))));refine zW ?_;intros;rename_i g1;refine Ya Zz (Yx [_] [_] Zz Zz Zz (Yk2 (g:=g1) (d:=0) (c:=0) h Zi Zi) (fun v5 fz5 H5 hle5 hR5=>?_));obtain ⟨_,b5,c5,rfl,rfl,hc5,hb5⟩:=hR5;cases b5
 ·refine zW ?_
  (exact ret1 rfl rfl Zb (Yn (fun h0=>by
   have h1:=YbU _ (Zs _) h0.1;exact absurd (hb5.2 ⟨h0.1,by have:=h0.2.2.1;omega,by have:=h0.2.2.2;omega⟩) (by simp))))
 have hb:=hb5.1 rfl;refine zW ?_;refine Seq.guard_yesK Zz Zz Zz (Yx [] _ Zz Zz Zz (WS (h.mono hle5) (YbW _ (Zs _) hb.1 hs)) (fun v6 fz6 H6 hle6 hR6=>?_));obtain ⟨rfl,cs,rfl,hr⟩:=hR6;obtain ⟨vk6,rfl,hX⟩:=Yi hr;refine wc (WZ hX) ?_;refine zW ?_;have hd:decide (EVal e)=decide (XVal (XU e)):=decide_eq_decide.2 ⟨fun h0=>h0.2,fun h0=>⟨hb.1,h0⟩⟩;exact zR (h:=by rw [hd])
def YhZ:Sexpr:=.mk 0 0 0 0 ⟨#[]⟩ []
theorem YaX:SxIs fz (sxV 0 0 ⟨#[]⟩ Zn) YhZ:=⟨_,rfl,Yh (x:=YhZ) ⟨Wd,Wd,Wd,Wd,Xu,IsSl.nil⟩⟩
def WrR (P:Prop) (x:Sexpr) (v:Value) (fz':FZ) (H':HP):Prop:=H'=[]/\∃ u y,v=.tuple #[u,errV (if P then 0 else 2)]/\SxIs fz' u y/\(P->y=x)
theorem Yk9 (h:FormulaR fz f va vp ve vk) (hs:FSm f):
 GFn prog 54 [.agg #[.string f.op,.string f.name,va,vp,ve,vk]] fz [] (WrR (FVal f) (Xc f)):=by
 obtain ⟨A,n,ca,rfl,ha⟩:=h.args;obtain ⟨B,m,cb,rfl,hp⟩:=h.params;obtain ⟨C,r,cr,rfl,he⟩:=h.exprs;obtain ⟨D,q,cq,rfl,hk⟩:=h.kids;refine zF Tryz.func54 Tryz.ntmps54 (fun w0=>?_);refine Yj (Yq (Ya Zz (Xb _ Zz Zz (fun g0=>?_))));refine zW ?_;intros;rename_i g1;refine zb (Yk0 h hs) (fun f1=>?_) (fun f1=>?_)
 ·have hv:=Zt f1;refine wK (q:=YlT h (YfK _ (Zs _) hv.1 hs)) (h:=fun v6 fz6 H6 hle6 hR6=>?_);obtain ⟨rfl,cs,rfl,hr⟩:=hR6;obtain ⟨vk6,rfl,hX⟩:=Yi hr;obtain ⟨A6,n6,b6,rfl,_⟩:=hX.kids;refine zW ?_;refine YN T (vs:=[.agg #[_,_,_,_,_,_],.nilIface]) Zz ⟨⟨_,_,0,_,_,_,rfl,rfl,rfl,rfl,rfl,rfl⟩,rfl,trivial⟩ (fun fz3 hle3 hf3=>?_);exact ⟨rfl,_,_,by rw [if_pos hv];rfl,SxIs.mono hle3 ⟨_,rfl,Yh hX⟩,fun _=>rfl⟩
 have hv:=Zf f1;refine zW ?_;refine YN T (vs:=[.agg #[_,_,_,_,_,_],_]) Zz ⟨⟨_,_,0,_,_,_,rfl,rfl,rfl,rfl,rfl,rfl⟩,rfl,trivial⟩ (fun fz3 hle3 hf3=>?_);exact ⟨rfl,_,_,by rw [if_neg hv,Yk Zh];rfl,YaX,fun h0=>absurd h0 hv⟩
theorem eWrite_q {e:Lx.Expr} (h:ExprR fz e va vk) (hs:ESm e):
 GFn prog 191 [.agg #[.string e.op,.string e.name,Zk e.n,va,vk]] fz [] (WrR (EVal e) (XU e)):=by
 obtain ⟨A,n,ca,rfl,ha⟩:=h.args;obtain ⟨D,q,cq,rfl,hk⟩:=h.kids;refine zF Tryz.func191 Tryz.ntmps191 (fun w0=>?_);refine Yj (Yq (Ya Zz (Xb _ Zz Zz (fun g0=>?_))));refine zW ?_;intros;rename_i g1;refine zb (Ylc h hs) (fun f1=>?_) (fun f1=>?_)
 ·have hv:=Zt f1;refine wK (q:=WS h (YbW _ (Zs _) hv.1 hs)) (h:=fun v6 fz6 H6 hle6 hR6=>?_);obtain ⟨rfl,cs,rfl,hr⟩:=hR6;obtain ⟨vk6,rfl,hX⟩:=Yi hr;obtain ⟨A6,n6,b6,rfl,_⟩:=hX.kids;refine zW ?_;refine YN T (vs:=[.agg #[_,_,_,_,_,_],.nilIface]) Zz ⟨⟨_,_,0,_,_,_,rfl,rfl,rfl,rfl,rfl,rfl⟩,rfl,trivial⟩ (fun fz3 hle3 hf3=>?_);exact ⟨rfl,_,_,by rw [if_pos hv];rfl,SxIs.mono hle3 ⟨_,rfl,Yh hX⟩,fun _=>rfl⟩
 have hv:=Zf f1;refine zW ?_;refine YN T (vs:=[.agg #[_,_,_,_,_,_],_]) Zz ⟨⟨_,_,0,_,_,_,rfl,rfl,rfl,rfl,rfl,rfl⟩,rfl,trivial⟩ (fun fz3 hle3 hf3=>?_);exact ⟨rfl,_,_,by rw [if_neg hv,Yk Zh];rfl,YaX,fun h0=>absurd h0 hv⟩
theorem toList_inj {a b:Bs}:a.toList=b.toList↔a=b:=by
 constructor
 ·intro h;rw [ByteArray.toList_eq,ByteArray.toList_eq] at h;cases a;cases b;simp only [ByteArray.mk.injEq];exact Array.toList_inj.1 h
 intro h;rw [h]
theorem eq_param (a b c d:Bs) (w:World):(Op.equalIn 10000 110 (.agg #[.string a,.string b]) (.agg #[.string c,.string d])).run prog w=.ok (decide (a=c/\b=d)) w:=by
 have u3:=Tryz.underlying9;have a3:=Tryz.isAgg9;have z3:=Tryz.sizeOf9;have hS:prog.underlying 110=some (.struct (prog.fieldsOf 110)):=by kernel_rfl
 rw [show (10000:Nat)=9999+1 from rfl,run_equalIn_agg w 9999 110 _ _ hS Zj];simp only [Program.fieldsOf,Tryz.underlying110]
 go_simp
 by_cases h1:a=c<;>by_cases h2:b=d<;>simp [h1,h2,toList_inj]
variable {H:HP} {x y:Operand}
theorem Yfn {cx:Cx} {r:Operand->Option Value} {V:Value->Prop} {dst:Option Nat} {ty t':TypeId} {pos:String} {af:Array Edge} {gd:Option (Nat × Bool)} {a b:Param} (hx:r x=some (.agg #[.string a.name,.string a.typ])) (hy:r y=some (.agg #[.string b.name,.string b.typ]))
 (ht:a≠b->V (.bool true)) (hf:a=b->V (.bool false)):DoesQ prog cx ⟨dst,.binOp .neq 110 x y t',ty,pos,af,gd⟩ r fz H V:=by
 have hab:a=b↔(a.name=b.name/\a.typ=b.typ):=by
  cases a;cases b;simp
 have hV:V (.bool (!decide (a.name=b.name/\a.typ=b.typ))):=by
  by_cases h:a=b
  ·rw [decide_eq_true (hab.1 h)];exact hf h
  rw [decide_eq_false (fun h0=>h (hab.2 h0))];exact ht h
 refine DoesQ.of hV fun ρ w hr hw=>?_
 have hg:=run_eqGuard_agg (P:=prog) w .neq 110 x y #[.string a.name,.string a.typ] #[.string b.name,.string b.typ] Zj;have hb:=run_neq_struct (P:=prog) w 110 #[.string a.name,.string a.typ] #[.string b.name,.string b.typ];rw [eq_param,Result.andThen_ok] at hb;have:(execOp ρ ⟨dst,.binOp .neq 110 x y t',ty,pos,af,gd⟩).run prog w=.ok (.value (.bool (!decide (a.name=b.name/\a.typ=b.typ)))) w:=by
  simp only [execOp,hr _ _ hx,hr _ _ hy,Sem.run_bind,hg,hb,Result.andThen_ok,Sem.run_pure]
 rw [this];exact ⟨rfl,Fr.refl _ _⟩
theorem YcY {α:Type} {l m:List α} (hl:l.length=m.length) (h:∀ i,i<l.length->∀ x,l[i]?=some x->m[i]?=some x):l=m:=by
 apply List.ext_getElem?;intro i;by_cases hi:i<l.length
 ·have hx:l[i]?=some l[i]:=List.getElem?_eq_getElem hi;rw [hx,h i hi _ hx]
 rw [List.getElem?_eq_none Zi,List.getElem?_eq_none Zi]
theorem Ybo {α:Type} {p:Nat->α->Prop} {l:List α} {x:α} (h:∀ i,i<k->∀ x,l[i]?=some x->p i x) (hx:l[k]?=some x) (hp:p k x):∀ i,i<k+1->∀ x,l[i]?=some x->p i x:=fun i hi y hy=>by
 by_cases he:i=k
 ·subst he;rw [hx] at hy;cases hy;exact hp
 exact h i Zi y hy
theorem Yld {fz:FZ} {A B:Option Addr} {n c m d:Nat} {l1 l2} (h1:Sl strL fz A n c l1) (h2:Sl strL fz B m d l2):
 QFn prog 148 [.slice A n c,.slice B m d] fz (.bool (decide (l1=l2))):=by
 refine GFn.quiet ?_;have k1:=h1.len;have k2:=h2.len;have k3:=h1.short;have k4:=h2.short;refine zF Tryz.func148 Tryz.ntmps148 (fun w0=>?_);refine wC (fun c1=>?_) (fun c1=>?_)
 ·exact wR (h:=by exact Yn (fun h=>c1 (by rw [<- k1,<- k2,h])))
 refine zW ?_;refine Ym (fun q σ fz' H'=>∃ k:Nat,k<=n/\q=n - k/\σ=[(13,Zk k),(12,Zk n),(0,.slice A n c),(1,.slice B m d)]/\fz=fz'/\H'=[]/\(∀ i,i<k->∀ x,l1[i]?=some x->l2[i]?=some x)) ⟨0,Z0 _,rfl,rfl,rfl,rfl,fun i hi=>absurd hi Zi⟩ Zw Zb ?_;rintro q σ fz' H' ⟨k,hk,rfl,rfl,rfl,rfl,hh⟩;refine wC (fun c2=>?_) (fun c2=>?_)
 ·obtain ⟨x,hx⟩:=Yl (l:=l1) (k:=k) Zi;obtain ⟨y,hy⟩:=Yl (l:=l2) (k:=k) Zi;refine wI h1 hx (fun a ha=>?_);refine zH ha (fun sx=>?_);refine wI h2 hy (fun b hb=>?_);refine zH hb (fun sy=>?_);refine wC (fun e1=>?_) (fun e1=>?_)
  ·exact wR (h:=by exact Yn (fun h=>e1 (by rw [h,hy] at hx;exact (Option.some.inj hx).symm)))
  exact wP (h:=by exact ⟨k+1,by omega,rfl,rfl,rfl,rfl,Ybo hh hx (by rw [hy,e1])⟩)
 exact wR (h:=by exact Yw (YcY Zi (fun i hi x hx=>hh i Zi x hx)))
theorem equalP_q {fz:FZ} {A B:Option Addr} {n c m d:Nat} {l1 l2} (h1:Sl paramL fz A n c l1) (h2:Sl paramL fz B m d l2):
 QFn prog 149 [.slice A n c,.slice B m d] fz (.bool (decide (l1=l2))):=by
 refine GFn.quiet ?_;have k1:=h1.len;have k2:=h2.len;have k3:=h1.short;have k4:=h2.short;refine zF Tryz.func149 Tryz.ntmps149 (fun w0=>?_);refine wC (fun c1=>?_) (fun c1=>?_)
 ·exact wR (h:=by exact Yn (fun h=>c1 (by rw [<- k1,<- k2,h])))
 refine zW ?_;refine Ym (fun q σ fz' H'=>∃ k:Nat,k<=n/\q=n - k/\σ=[(13,Zk k),(12,Zk n),(0,.slice A n c),(1,.slice B m d)]/\fz=fz'/\H'=[]/\(∀ i,i<k->∀ x,l1[i]?=some x->l2[i]?=some x)) ⟨0,Z0 _,rfl,rfl,rfl,rfl,fun i hi=>absurd hi Zi⟩ Zw Zb ?_;rintro q σ fz' H' ⟨k,hk,rfl,rfl,rfl,rfl,hh⟩;refine wC (fun c2=>?_) (fun c2=>?_)
 ·obtain ⟨x,hx⟩:=Yl (l:=l1) (k:=k) Zi;obtain ⟨y,hy⟩:=Yl (l:=l2) (k:=k) Zi;refine wI h1 hx (fun a ha=>?_)
  ((refine zL ha ?_;intro cs1 hcs1;obtain ⟨rfl,hR1⟩:=YR hcs1));refine wI h2 hy (fun b hb=>?_)
  ((refine zL hb ?_;intro cs2 hcs2;obtain ⟨rfl,hR2⟩:=YR hcs2));refine zW ?_
  (((refine zG ?_);refine Yfn Zz Zz (fun e1=>?_) (fun e1=>?_)))
  ·exact wR (h:=by exact Yn (fun h=>e1 (by rw [h,hy] at hx;exact (Option.some.inj hx).symm)))
  exact wP (h:=by exact ⟨k+1,by omega,rfl,rfl,rfl,rfl,Ybo hh hx (by rw [hy,e1])⟩)
 exact wR (h:=by exact Yw (YcY Zi (fun i hi x hx=>hh i Zi x hx)))
variable {A B:Option Addr} {n:Nat}
theorem eqfE_q {m d:Nat} {l1 l2:List Lx.Expr} {ff:FuncId} (h1:Sl exprL fz A n c l1) (h2:Sl exprL fz B m d l2) (hq:∀ x y cs ds,x∈l1->exprL.rep fz x cs->exprL.rep fz y ds->QFn prog ff [.agg (List.toArray cs),.agg (List.toArray ds)] fz (.bool (decide (x=y)))):
 QFn prog 150 [.slice A n c,.slice B m d,.func (.func ff) #[] #[]] fz (.bool (decide (l1=l2))):=by
 refine GFn.quiet ?_;have k1:=h1.len;have k2:=h2.len;have k3:=h1.short;have k4:=h2.short;refine zF Tryz.func150 Tryz.ntmps150 (fun w0=>?_);refine wC (fun c1=>?_) (fun c1=>?_)
 ·exact wR (h:=by exact Yn (fun h=>c1 (by rw [<- k1,<- k2,h])))
 refine zW ?_;refine Ym (fun q σ fz' H'=>∃ k:Nat,k<=n/\q=n - k/\σ=[(17,Zk k),(16,Zk n),(15,.slice A n c),(2,.func (.func ff) #[] #[]),(1,.slice B m d)]/\fz=fz'/\H'=[]/\(∀ i,i<k->∀ x,l1[i]?=some x->l2[i]?=some x)) ⟨0,Z0 _,rfl,rfl,rfl,rfl,fun i hi=>absurd hi Zi⟩ Zw Zb ?_;rintro q σ fz' H' ⟨k,hk,rfl,rfl,rfl,rfl,hh⟩;refine wC (fun c2=>?_) (fun c2=>?_)
 ·obtain ⟨x,hx⟩:=Yl (l:=l1) (k:=k) Zi;obtain ⟨y,hy⟩:=Yl (l:=l2) (k:=k) Zi;refine wI h1 hx (fun a ha=>?_);refine zL ha ?_;intro cs1 hcs1;have hq1:=fun y ds=>hq x y cs1 ds (Zm hx) hcs1
  obtain ⟨u1,u2,rfl,hR1⟩:=YK hcs1
  ((obtain ⟨A1,n1,c1',rfl,ia1⟩:=hR1.args;obtain ⟨A2,n2,c2',rfl,ik1⟩:=hR1.kids));refine zW ?_;intros;refine zI h2 hy (fun b hb=>?_);refine zL hb ?_;intro cs2 hcs2;have hq2:=hq1 y cs2 hcs2;obtain ⟨w1,w2,rfl,hR2⟩:=YK hcs2
  ((obtain ⟨A3,n3,c3',rfl,ia2⟩:=hR2.args;obtain ⟨A4,n4,c4',rfl,ik2⟩:=hR2.kids));refine zW ?_;intros
  ((refine zG ?_);refine Yab Zz Zz Zz hq2 (fun e1=>?_) (fun e1=>?_))
  ·exact wP (h:=by exact ⟨k+1,by omega,rfl,rfl,rfl,rfl,Ybo hh hx (by rw [hy,e1])⟩)
  exact wR (h:=by exact Yn (fun h=>e1 (by rw [h,hy] at hx;exact (Option.some.inj hx).symm)))
 exact wR (h:=by exact Yw (YcY Zi (fun i hi x hx=>hh i Zi x hx)))
theorem eqfF_q {m d:Nat} {l1 l2:List Lx.Formula} {ff:FuncId} (h1:Sl YW fz A n c l1) (h2:Sl YW fz B m d l2) (hq:∀ x y cs ds,x∈l1->YW.rep fz x cs->YW.rep fz y ds->QFn prog ff [.agg (List.toArray cs),.agg (List.toArray ds)] fz (.bool (decide (x=y)))):
 QFn prog 152 [.slice A n c,.slice B m d,.func (.func ff) #[] #[]] fz (.bool (decide (l1=l2))):=by
 refine GFn.quiet ?_;have k1:=h1.len;have k2:=h2.len;have k3:=h1.short;have k4:=h2.short;refine zF Tryz.func152 Tryz.ntmps152 (fun w0=>?_);refine wC (fun c1=>?_) (fun c1=>?_)
 ·exact wR (h:=by exact Yn (fun h=>c1 (by rw [<- k1,<- k2,h])))
 refine zW ?_;refine Ym (fun q σ fz' H'=>∃ k:Nat,k<=n/\q=n - k/\σ=[(17,Zk k),(16,Zk n),(15,.slice A n c),(2,.func (.func ff) #[] #[]),(1,.slice B m d)]/\fz=fz'/\H'=[]/\(∀ i,i<k->∀ x,l1[i]?=some x->l2[i]?=some x)) ⟨0,Z0 _,rfl,rfl,rfl,rfl,fun i hi=>absurd hi Zi⟩ Zw Zb ?_;rintro q σ fz' H' ⟨k,hk,rfl,rfl,rfl,rfl,hh⟩;refine wC (fun c2=>?_) (fun c2=>?_)
 ·obtain ⟨x,hx⟩:=Yl (l:=l1) (k:=k) Zi;obtain ⟨y,hy⟩:=Yl (l:=l2) (k:=k) Zi;refine wI h1 hx (fun a ha=>?_);refine zL ha ?_;intro cs1 hcs1;have hq1:=fun y ds=>hq x y cs1 ds (Zm hx) hcs1
  obtain ⟨u1,u2,u3,u4,rfl,hR1⟩:=YA hcs1
  ((obtain ⟨A1,n1,c1',rfl,ia1⟩:=hR1.args;obtain ⟨A2,n2,c2',rfl,ip1⟩:=hR1.params;obtain ⟨A3,n3,c3',rfl,ie1⟩:=hR1.exprs;obtain ⟨A4,n4,c4',rfl,ik1⟩:=hR1.kids));refine zW ?_;intros;refine zI h2 hy (fun b hb=>?_);refine zL hb ?_;intro cs2 hcs2;have hq2:=hq1 y cs2 hcs2;obtain ⟨w1,w2,w3,w4,rfl,hR2⟩:=YA hcs2
  ((obtain ⟨A5,n5,c5',rfl,ia2⟩:=hR2.args;obtain ⟨A6,n6,c6',rfl,ip2⟩:=hR2.params;obtain ⟨A7,n7,c7',rfl,ie2⟩:=hR2.exprs;obtain ⟨A8,n8,c8',rfl,ik2⟩:=hR2.kids));refine zW ?_;intros
  ((refine zG ?_);refine Yab Zz Zz Zz hq2 (fun e1=>?_) (fun e1=>?_))
  ·exact wP (h:=by exact ⟨k+1,by omega,rfl,rfl,rfl,rfl,Ybo hh hx (by rw [hy,e1])⟩)
  exact wR (h:=by exact Yn (fun h=>e1 (by rw [h,hy] at hx;exact (Option.some.inj hx).symm)))
 exact wR (h:=by exact Yw (YcY Zi (fun i hi x hx=>hh i Zi x hx)))
theorem Yc4 {a b:Lx.Expr}:a=b↔a.op=b.op/\a.name=b.name/\a.n=b.n/\a.args=b.args/\a.kids=b.kids:=by
 cases a;cases b;simp only [Lx.Expr.op,Lx.Expr.name,Lx.Expr.n,Lx.Expr.args,Lx.Expr.kids,Lx.Expr.mk.injEq]
theorem Ycl {a b:Formula}:a=b↔a.op=b.op/\a.name=b.name/\a.args=b.args/\a.params=b.params/\a.exprs=b.exprs/\a.kids=b.kids:=by
 cases a;cases b;simp only [Formula.op,Formula.name,Formula.args,Formula.params,Formula.exprs,Formula.kids,Formula.mk.injEq]
theorem Ygv:∀ (s:Nat) {fz:FZ} {a b:Lx.Expr} {va vk wa wk:Value},SizeOf.sizeOf a<=s->ExprR fz a va vk->ExprR fz b wa wk->
 QFn prog 151 [.agg #[.string a.op,.string a.name,Zk a.n,va,vk],.agg #[.string b.op,.string b.name,Zk b.n,wa,wk]] fz (.bool (decide (a=b)))
 | 0,_,e,_,_,_,_,_,hs,_,_=>by cases e;simp at hs
 | s+1,fz,a,b,va,vk,wa,wk,hs,hR1,hR2=>by
  refine GFn.quiet ?_
  ((obtain ⟨A1,n1,c1',rfl,ia1⟩:=hR1.args;obtain ⟨A2,n2,c2',rfl,ik1⟩:=hR1.kids))
  ((obtain ⟨A3,n3,c3',rfl,ia2⟩:=hR2.args;obtain ⟨A4,n4,c4',rfl,ik2⟩:=hR2.kids));refine zF Tryz.func151 Tryz.ntmps151 (fun w0=>?_);refine Yj (Yq (Ya Zz (Xb _ Zz Zz (fun g0=>?_))));refine Ya Zz (Xb _ Zz Zz (fun g1=>?_));refine zW ?_
  (((refine zC (fun e1=>?_) (fun e1=>?_));rotate_left 1;((refine zW ?_);(exact ret1 rfl rfl Zb (Yn (fun h=>e1 (Yc4.1 h).1))));(refine zW ?_)))
  (((refine zC (fun e2=>?_) (fun e2=>?_));rotate_left 1;((refine zW ?_);(exact ret1 rfl rfl Zb (Yn (fun h=>e2 (Yc4.1 h).2.1))));(refine zW ?_)))
  (((refine zC (fun e3=>?_) (fun e3=>?_));rotate_left 1;((refine zW ?_);(exact ret1 rfl rfl Zb (Yn (fun h=>e3 (Yc4.1 h).2.2.1))));(refine zW ?_)));refine zb (Yld ia1 ia2) (fun f1=>?_) (fun f1=>?_)
  ·refine zW ?_
   ((refine zG ?_);refine We Zz Zz (eqfE_q ik1 ik2 (fun x y cs ds hx h1 h2=>by
    obtain ⟨u1,u2,rfl,h3⟩:=YK h1;obtain ⟨w1,w2,rfl,h4⟩:=YK h2;exact Ygv s (by have:=Lx.Expr.kids_lt hx;omega) h3 h4)) (fun f2=>?_) (fun f2=>?_))
   ·exact wR (h:=by exact Yw (Yc4.2 ⟨e1,e2,e3,Zt f1,Zt f2⟩))
   exact wR (h:=by exact Yn (fun h=>Zf f2 (Yc4.1 h).2.2.2.2))
  exact wR (h:=by exact Yn (fun h=>Zf f1 (Yc4.1 h).2.2.2.1))
theorem same_f:∀ (s:Nat) {fz:FZ} {a b:Formula} {va vp ve vk wa wp we wk:Value},SizeOf.sizeOf a<=s->FormulaR fz a va vp ve vk->FormulaR fz b wa wp we wk->
 QFn prog 103 [.agg #[.string a.op,.string a.name,va,vp,ve,vk],.agg #[.string b.op,.string b.name,wa,wp,we,wk]] fz (.bool (decide (a=b)))
 | 0,_,e,_,_,_,_,_,_,_,_,_,hs,_,_=>by cases e;simp at hs
 | s+1,fz,a,b,va,vp,ve,vk,wa,wp,we,wk,hs,hR1,hR2=>by
  refine GFn.quiet ?_
  ((obtain ⟨A1,n1,c1',rfl,ia1⟩:=hR1.args;obtain ⟨A2,n2,c2',rfl,ip1⟩:=hR1.params;obtain ⟨A3,n3,c3',rfl,ie1⟩:=hR1.exprs;obtain ⟨A4,n4,c4',rfl,ik1⟩:=hR1.kids))
  ((obtain ⟨A5,n5,c5',rfl,ia2⟩:=hR2.args;obtain ⟨A6,n6,c6',rfl,ip2⟩:=hR2.params;obtain ⟨A7,n7,c7',rfl,ie2⟩:=hR2.exprs;obtain ⟨A8,n8,c8',rfl,ik2⟩:=hR2.kids));refine zF Tryz.func103 Tryz.ntmps103 (fun w0=>?_);refine Yj (Yq (Ya Zz (Xb _ Zz Zz (fun g0=>?_))));refine Ya Zz (Xb _ Zz Zz (fun g1=>?_));refine zW ?_
  (((refine zC (fun e1=>?_) (fun e1=>?_));rotate_left 1;((refine zW ?_);(exact ret1 rfl rfl Zb (Yn (fun h=>e1 (Ycl.1 h).1))));(refine zW ?_)))
  (((refine zC (fun e2=>?_) (fun e2=>?_));rotate_left 1;((refine zW ?_);(exact ret1 rfl rfl Zb (Yn (fun h=>e2 (Ycl.1 h).2.1))));(refine zW ?_)));refine zb (Yld ia1 ia2) (fun f1=>?_) (fun f1=>?_)
  ·refine wb (equalP_q ip1 ip2) (fun f2=>?_) (fun f2=>?_)
   ·refine zW ?_
    ((refine zG ?_);refine We Zz Zz (eqfE_q ie1 ie2 (fun x y cs ds hx h1 h2=>by
     obtain ⟨u1,u2,rfl,h3⟩:=YK h1;obtain ⟨w1,w2,rfl,h4⟩:=YK h2;exact Ygv _ (Zs _) h3 h4)) (fun f3=>?_) (fun f3=>?_))
    ·refine zW ?_
     ((refine zG ?_);refine We Zz Zz (eqfF_q ik1 ik2 (fun x y cs ds hx h1 h2=>by
      obtain ⟨u1,u2,u3,u4,rfl,h3⟩:=YA h1;obtain ⟨w1,w2,w3,w4,rfl,h4⟩:=YA h2;exact same_f s (by have:=Formula.kids_lt hx;omega) h3 h4)) (fun f4=>?_) (fun f4=>?_))
     ·exact wR (h:=by exact Yw (Ycl.2 ⟨e1,e2,Zt f1,Zt f2,Zt f3,Zt f4⟩))
     exact wR (h:=by exact Yn (fun h=>Zf f4 (Ycl.1 h).2.2.2.2.2))
    exact wR (h:=by exact Yn (fun h=>Zf f3 (Ycl.1 h).2.2.2.2.1))
   exact wR (h:=by exact Yn (fun h=>Zf f2 (Ycl.1 h).2.2.2.1))
  exact wR (h:=by exact Yn (fun h=>Zf f1 (Ycl.1 h).2.2.1))
theorem Yfl {a b:Formula} {wa wp we wk:Value} (hR1:FormulaR fz a va vp ve vk) (hR2:FormulaR fz b wa wp we wk):
 QFn prog 103 [.agg #[.string a.op,.string a.name,va,vp,ve,vk],.agg #[.string b.op,.string b.name,wa,wp,we,wk]] fz (.bool (decide (a=b))):=same_f _ (Zs _) hR1 hR2
def Y5:Formula:=.mk kAnd ⟨#[]⟩ [] [] [] []
theorem Ycw:FormulaR fz Y5 Zn Zn Zn Zn:=⟨by unfold Short Y5;decide,Xu,IsSl.nil,IsSl.nil,IsSl.nil,IsSl.nil⟩
def Yc6:Value:=.agg #[.string kAnd,Ze,Zn,Zn,Zn,Zn]
theorem Yaf:QFn prog 104 [] fz Yc6:=by
 refine GFn.quiet ?_;refine zF Tryz.func104 Tryz.ntmps104 (fun w0=>?_);refine zW ?_;intros;exact WT T (i:=0) rfl Zz Zz Zz Zz Zz (fun _ hi=>⟨_,[],hi.forget (List.nil_sublist _),rfl⟩)
theorem Yi3:ExprR fz (.mk ⟨#[]⟩ ⟨#[]⟩ 0 [] []) Zn Zn:=⟨Xu,Xu,Wd,IsSl.nil,IsSl.nil⟩
theorem YfZ {a b:Lx.Expr} {wa wk:Value} (hR1:ExprR fz a va vk) (hR2:ExprR fz b wa wk):
 QFn prog 190 [.agg #[.string a.op,.string a.name,Zk a.n,va,vk],.agg #[.string b.op,.string b.name,Zk b.n,wa,wk]] fz (.bool (decide (a=b))):=by
 refine GFn.quiet ?_
 ((obtain ⟨A1,n1,c1',rfl,ia1⟩:=hR1.args;obtain ⟨A2,n2,c2',rfl,ik1⟩:=hR1.kids))
 ((obtain ⟨A3,n3,c3',rfl,ia2⟩:=hR2.args;obtain ⟨A4,n4,c4',rfl,ik2⟩:=hR2.kids));refine zF Tryz.func190 Tryz.ntmps190 (fun w0=>?_);refine Yj (Yq (Ya Zz (Xb _ Zz Zz (fun g0=>?_))));refine Ya Zz (Xb _ Zz Zz (fun g1=>?_));refine zW ?_;refine Ya Zz (Yb T (cs:=[.string a.op,.string a.name,Zk a.n,.slice A1 n1 c1',.slice A2 n2 c2']) Zz Zz Zz Zz Zz Zz Zz Zz (fun gA=>?_));refine zW ?_;refine Ya Zz (Yb T (cs:=[.string b.op,.string b.name,Zk b.n,.slice A3 n3 c3',.slice A4 n4 c4']) Zz Zz Zz Zz Zz Zz Zz Zz (fun gB=>?_));refine zW ?_
 first | refine Wp.freeze Zz (fun fz1 hl1 hg1=>?_) | refine Seq.freeze Zz (fun fz1 hl1 hg1=>?_)
 first | refine Wp.freeze Zz (fun fz2 hl2 hg2=>?_) | refine Seq.freeze Zz (fun fz2 hl2 hg2=>?_)
 have s1:Sl exprL fz2 (some ⟨gA,0,none⟩) 1 1 [a]:=Xz (ys:=[(a,_)]) hg2 (by simp;rfl) rfl (by simpa using YbV (hR1.mono (hl1.trans hl2))) rfl Zh;have s2:Sl exprL fz2 (some ⟨gB,0,none⟩) 1 1 [b]:=Xz (ys:=[(b,_)]) (hl2 _ _ hg1) (by simp;rfl) rfl (by simpa using YbV (hR2.mono (hl1.trans hl2))) rfl Zh
 ((refine zG ?_);refine Yv Zz Zz (Yfl (a:=.mk ⟨#[]⟩ ⟨#[]⟩ [] [] [a] []) (b:=.mk ⟨#[]⟩ ⟨#[]⟩ [] [] [b] []) ⟨Xu,Xu,IsSl.nil,IsSl.nil,s1.is,IsSl.nil⟩ ⟨Xu,Xu,IsSl.nil,IsSl.nil,s2.is,IsSl.nil⟩) ?_);exact wR (h:=by simp)
def Ycv (m:List (Bs × Value)) (ks:List Bs):Prop:=∀ x,valS m x=if x∈ks then some (.bool true) else none
theorem Ycv.nil:Ycv [] []:=fun x=>by rw [valS_nil,if_neg (by simp)]
theorem Ycv.add {m:List (Bs × Value)} {ks:List Bs} (h:Ycv m ks) (x:Bs):Ycv (updS m x (.bool true)) (ks++ [x]):=fun y=>by
 rw [YeW,h y];by_cases h1:y=x
 ·rw [if_pos h1,if_pos (by simp [h1])]
 rw [if_neg h1];by_cases h2:y∈ks
 ·rw [if_pos h2,if_pos (by simp [h2])]
 rw [if_neg h2,if_neg (by simp [h1,h2])]
theorem Ycv.get {m:List (Bs × Value)} {ks:List Bs} (h:Ycv m ks) {x:Bs}:(fndS m x 0).elim (.bool false) (·.2)=.bool (decide (x∈ks)):=by
 rw [Yj4,h x];by_cases h2:x∈ks
 ·rw [if_pos h2,decide_eq_true h2];rfl
 rw [if_neg h2,decide_eq_false h2];rfl
def TwP (others l:List Bs):Prop:=∃ k x,l[k]?=some x/\x∈others++l.take k
theorem Yks {others l:List Bs} (hh:∀ i,i<k->∀ x,l[i]?=some x->x ∉ others++l.take i) (hk:l.length<=k):¬TwP others l:=by
 rintro ⟨i,x,h1,h2⟩;have:=(Zg h1).1;exact hh i Zi x h1 h2
def parN (l:List Param):List Bs:=l.map (·.name)
theorem YkM {l:List Param} {x:Param} (h:l[k]?=some x):(parN l)[k]?=some x.name:=by unfold parN;rw [List.getElem?_map,h];rfl
theorem Yho {l:List Param}:(parN l).length=l.length:=List.length_map ..
theorem YbQ {l:List Param}:parN (l.take k)=(parN l).take k:=List.map_take ..
set_option maxHeartbeats 1000000 in
theorem Yju {m d:Nat} {l others:List Param} (h1:Sl paramL fz A n c l) (h2:Sl paramL fz B m d others):
 QFn prog 76 [.slice A n c,.slice B m d] fz (errV (if TwP (parN others) (parN l) then 4 else 0)):=by
 have l1:=h1.len;have l2:=h2.len;have s1:=h1.short;have s2:=h2.short;refine GFn.quiet ?_;refine zF Tryz.func76 Tryz.ntmps76 (fun w0=>?_);refine zV ?_;refine Ya Zz (YaP (fun gm=>?_));refine zV ?_;refine Ym (fun q σ fz' H'=>∃ (k:Nat) (ms:List (Bs × Value)),k<=m/\q=m - k/\σ=[(13,Zk k),(12,Zk m),(11,.slice B m d),(5,.map (some gm)),(0,.slice A n c)]/\fz=fz'/\H'=[(gm,mapS ms)]/\Ycv ms (parN (others.take k))) ⟨0,[],Z0 _,rfl,rfl,rfl,rfl,Ycv.nil⟩ Zw Zb ?_;rintro q σ fz' H' ⟨k,ms,hk,rfl,rfl,rfl,rfl,hS⟩;refine vC (fun c1=>?_) (fun c1=>?_)
 ·obtain ⟨x,hx⟩:=Yl (l:=others) (k:=k) Zi;refine vI h2 hx (fun p hp=>?_);refine zL hp ?_;intro cs hcs;obtain ⟨rfl,hR⟩:=YR hcs;refine zV ?_;intros;refine YF (Wl T (pre:=[_]) Zz Zz Zz Zz Zz Zz Zz (Zr _) ?_);exact vP (h:=by exact ⟨k+1,_,by omega,rfl,rfl,rfl,rfl,by rw [List.take_add_one,hx];simpa [parN] using hS.add x.name⟩)
 rw [Zl Zi] at hS;refine zV ?_;refine Ym (fun q σ fz' H'=>∃ (k:Nat) (ms:List (Bs × Value)),k<=n/\q=n - k/\σ=[(23,Zk k),(22,Zk n),(21,.slice A n c),(5,.map (some gm))]/\fz=fz'/\H'=[(gm,mapS ms)]/\Ycv ms (parN others++parN (l.take k))/\(∀ i,i<k->∀ x,(parN l)[i]?=some x->x ∉ parN others++(parN l).take i)) ⟨0,ms,Z0 _,rfl,rfl,rfl,rfl,by simpa [parN] using hS,fun i hi=>absurd hi Zi⟩ Zw Zb ?_;rintro q σ fz' H' ⟨k,ms,hk,rfl,rfl,rfl,rfl,hS,hh⟩;refine vC (fun c2=>?_) (fun c2=>?_)
 ·obtain ⟨x,hx⟩:=Yl (l:=l) (k:=k) Zi;have hxn:=YkM hx;refine vI h1 hx (fun p hp=>?_);refine zL hp ?_;intro cs hcs;obtain ⟨rfl,hR⟩:=YR hcs;refine zV ?_;intros;refine zG ?_;refine YaD T 1 Zz Zz Zz Zz Zz Zz Zz Zz hS.get ?_;refine zV ?_;by_cases hm:x.name∈parN others++parN (l.take k)
  ·rw [decide_eq_true hm];exact vR (h:=by rw [if_pos ⟨k,x.name,hxn,by rw [<- YbQ];exact hm⟩];rfl)
  rw [decide_eq_false hm];refine zV ?_;refine YF (Wl T (pre:=[_]) Zz Zz Zz Zz Zz Zz Zz (Zr _) ?_);exact vP (h:=by exact ⟨k+1,_,by omega,rfl,rfl,rfl,rfl,by rw [List.take_add_one,hx];simpa [parN] using hS.add x.name,Ybo (p:=fun i x=>x ∉ parN others++(parN l).take i) hh hxn (by rw [<- YbQ];exact hm)⟩)
 exact vR (h:=by rw [if_neg (Yks hh (by rw [Yho];omega))];rfl)
def CkR (fz:FZ) (v:Value) (d:Domain) (p:Problem) (all:List Param) (vf vp vg vo:Value):Prop:=∃ gc v1 v2 v3 v4 v5 v6 u1 u2 u3 u4 u5 u6 u7 Aa na ca,v=Zp gc/\
 fz gc=some (.cells #[.string d.name,v1,v2,v3,v4,v5,v6,.string p.name,.string p.domain,u1,u2,u3,.string p.goal.op,.string p.goal.name,u4,u5,u6,u7,vf,vp,vg,vo,.slice Aa na ca] 94 (0,0))/\
 DomainR fz d v1 v2 v3 v4 v5 v6/\ProblemR fz p u1 u2 u3 u4 u5 u6 u7/\Sl paramL fz Aa na ca all
variable {d:Domain} {fz':FZ} {p:Problem} {v:Value}
theorem CkR.mono {all:List Param} {vf vg vo:Value} (h:CkR fz v d p all vf vp vg vo) (hle:Le fz fz'):CkR fz' v d p all vf vp vg vo:=by
 obtain ⟨gc,v1,v2,v3,v4,v5,v6,u1,u2,u3,u4,u5,u6,u7,Aa,na,ca,h1,h2,h3,h4,h5⟩:=h;exact ⟨gc,v1,v2,v3,v4,v5,v6,u1,u2,u3,u4,u5,u6,u7,Aa,na,ca,h1,hle _ _ h2,h3.mono hle,h4.mono hle,h5.mono hle⟩
def ExP (tys l:List Param):Prop:=∀ p∈l,HasT tys p.typ
theorem Yj3 {all l tys:List Param} {vf vg vo:Value} (h:CkR fz v d p all vf vp vg vo) (hf:ForR fz vf tys) (h1:Sl paramL fz A n c l):
 QFn prog 77 [v,.slice A n c] fz (errV (if ExP tys l then 0 else 3)):=by
 obtain ⟨gc,v1,v2,v3,v4,v5,v6,u1,u2,u3,u4,u5,u6,u7,Aa,na,ca,rfl,hc,hD,hP,hall⟩:=h;have hf0:=hf;obtain ⟨gf,gm,rfl,hf1,hf2⟩:=hf;have l1:=h1.len;have s1:=h1.short;refine GFn.quiet ?_;refine zF Tryz.func77 Tryz.ntmps77 (fun w0=>?_);refine zV ?_;refine Ym (fun q σ fz' H'=>∃ k:Nat,k<=n/\q=n - k/\σ=[(9,Zk k),(8,Zk n),(7,.slice A n c),(0,Zp gc)]/\fz=fz'/\H'=[]/\(∀ i,i<k->∀ x,l[i]?=some x->HasT tys x.typ)) ⟨0,Z0 _,rfl,rfl,rfl,rfl,fun i hi=>absurd hi Zi⟩ Zw Zb ?_;rintro q σ fz' H' ⟨k,hk,rfl,rfl,rfl,rfl,hh⟩;refine vC (fun c1=>?_) (fun c1=>?_)
 ·obtain ⟨x,hx⟩:=Yl (l:=l) (k:=k) Zi;refine vI h1 hx (fun p1 hp=>?_);refine zL hp ?_;intro cs hcs;obtain ⟨rfl,hR⟩:=YR hcs;refine zV ?_;intros;refine zb (has_q hf0) (fun f1=>?_) (fun f1=>?_)
  ·exact vP (h:=by exact ⟨k+1,by omega,rfl,rfl,rfl,rfl,YL hh hx (Zt f1)⟩)
  exact vR (h:=by rw [if_neg (fun h0=>Zf f1 (h0 x (Zm hx)))];rfl)
 have hA:=Xy hh Zi;exact vR (h:=by rw [if_pos (show ExP tys l from hA)];rfl)
def repM:List Bs->List Param->Option Bs
 | _,[]=>none
 | seen,x::r=>if x.name∈seen then some x.typ else repM (seen++ [x.name]) r
theorem YmA:∀ {l:List Param} {k:Nat} {x:Param} {seen:List Bs},l[k]?=some x->(∀ i,i<k->∀ y,l[i]?=some y->y.name ∉ seen++(parN l).take i)->repM seen l=repM (seen++(parN l).take k) (l.drop k)
 | [],k,x,_,h,_=>by simp at h
 | y::r,0,x,seen,h,_=>by simp
 | y::r,k+1,x,seen,h,hh=>by
  have h0:=hh 0 Zi y rfl;rw [List.take_zero,List.append_nil] at h0;rw [repM,if_neg h0,YmA (l:=r) (k:=k) (x:=x) (seen:=seen++ [y.name]) (by simpa using h) (fun i hi z hz=>by
   have:=hh (i+1) Zi z (by simpa using hz);simpa [parN] using this)]
  simp [parN]
theorem Yio:∀ {l:List Param} {seen:List Bs},(∀ i x,l[i]?=some x->x.name ∉ seen++(parN l).take i)->repM seen l=none
 | [],_,_=>rfl
 | y::r,seen,hh=>by
  have h0:=hh 0 y rfl;rw [List.take_zero,List.append_nil] at h0;rw [repM,if_neg h0];exact Yio (fun i z hz=>by
   have:=hh (i+1) z (by simpa using hz);simpa [parN] using this)
def repV (o:Option Bs):Value:=.tuple #[.string (o.getD ⟨#[]⟩),errV (if o.isSome=true then 4 else 0)]
theorem Yea {l:List Param} (h1:Sl paramL fz A n c l):
 QFn prog 123 [.slice A n c] fz (repV (repM [] l)):=by
 have l1:=h1.len;have s1:=h1.short;refine GFn.quiet ?_;refine zF Tryz.func123 Tryz.ntmps123 (fun w0=>?_);refine zV ?_;refine Ya Zz (YaP (fun gm=>?_));refine zV ?_;refine Ym (fun q σ fz' H'=>∃ (k:Nat) (ms:List (Bs × Value)),k<=n/\q=n - k/\σ=[(10,Zk k),(9,Zk n),(8,.slice A n c),(4,.map (some gm))]/\fz=fz'/\H'=[(gm,mapS ms)]/\Ycv ms (parN (l.take k))/\(∀ i,i<k->∀ x,l[i]?=some x->x.name ∉ []++(parN l).take i)) ⟨0,[],Z0 _,rfl,rfl,rfl,rfl,Ycv.nil,fun i hi=>absurd hi Zi⟩ Zw Zb ?_;rintro q σ fz' H' ⟨k,ms,hk,rfl,rfl,rfl,rfl,hS,hh⟩;refine vC (fun c2=>?_) (fun c2=>?_)
 ·obtain ⟨x,hx⟩:=Yl (l:=l) (k:=k) Zi;refine vI h1 hx (fun p hp=>?_);refine zL hp ?_;intro cs hcs;obtain ⟨rfl,hR⟩:=YR hcs;refine zV ?_;intros;refine zG ?_;refine YaD T 1 Zz Zz Zz Zz Zz Zz Zz Zz hS.get ?_;refine zV ?_;by_cases hm:x.name∈parN (l.take k)
  ·have e1:repM [] l=some x.typ:=by
    rw [YmA hx hh];have hd:l.drop k=x::l.drop (k+1):=by
     have:=List.drop_eq_getElem_cons (l:=l) (i:=k) (Zg hx).1;rw [this,(Zg hx).2]
    rw [hd,repM,if_pos (by rw [List.nil_append,<- YbQ];exact hm)]
   rw [decide_eq_true hm];exact vS (h:=by rw [e1];rfl)
  rw [decide_eq_false hm];refine zV ?_;refine YF (Wl T (pre:=[_]) Zz Zz Zz Zz Zz Zz Zz (Zr _) ?_);exact vP (h:=by exact ⟨k+1,_,by omega,rfl,rfl,rfl,rfl,by rw [List.take_add_one,hx];simpa [parN] using hS.add x.name,Ybo (p:=fun i x=>x.name ∉ []++(parN l).take i) hh hx (by rw [List.nil_append,<- YbQ];exact hm)⟩)
 have e1:repM [] l=none:=Yio (fun i x hx=>hh i (by have:=(Zg hx).1;omega) x hx);exact vS (h:=by rw [e1];rfl)
end Go.Proofs.YtfjopfinkdhmaaaGreatDoor
namespace Go.Lx
open Go
def strOf (l:List UInt8):Bs:=⟨l.toArray⟩
theorem XF (l:List UInt8):(strOf l).size=l.length:=by simp [strOf,ByteArray.size]
theorem X8 (l:List UInt8):(strOf l).data.toList=l:=by simp [strOf]
theorem Yid (a b:List UInt8):strOf a++strOf b=strOf (a++b):=by
 apply ByteArray.ext;simp [strOf,ByteArray.data_append]
theorem Yky (s:Bs):strOf s.data.toList=s:=by
 apply ByteArray.ext;simp [strOf]
mutual
/-- the text in one line -/
def txt:Sexpr->List UInt8
 | .mk k v _ _ t ks=>if k=1 then t.data.toList else if k=2 then Lib.itoa v else 40::(Lib.join (txtL ks) [32]++ [41])
def txtL:List Sexpr->List (List UInt8)
 | []=>[]
 | x::r=>txt x::txtL r
end
theorem Ykr (l:List Sexpr):txtL l=l.map txt:=by
 induction l with
 | nil=>simp [txtL]
 | cons a r ih=>simp [txtL,ih]
theorem Yl9 (x:Sexpr):txt x=if x.kind=1 then x.text.data.toList else if x.kind=2 then Lib.itoa x.value else 40::(Lib.join (x.kids.map txt) [32]++ [41]):=by
 cases x;rw [txt,Ykr];rfl
mutual
/-- the text in lines -/
def lay (w:Nat):Sexpr->Nat->List UInt8
 | .mk k v l c t ks,i=>if k≠3\/ks.length=0\/i+(txt (.mk k v l c t ks)).length<=w then txt (.mk k v l c t ks) else 40::(layH w ks i++ [41])
def layH (w:Nat):List Sexpr->Nat->List UInt8
 | [],_=>[]
 | x::r,i=>lay w x (i+1)++layT w r (i+2)
def layT (w:Nat):List Sexpr->Nat->List UInt8
 | [],_=>[]
 | x::r,i=>(10::(List.replicate i 32++lay w x i))++layT w r i
end
variable {i:Nat}
theorem YdO {w:Nat} {x:Sexpr} (h:x.kind≠3\/x.kids.length=0\/i+(txt x).length<=w):lay w x i=txt x:=by
 cases x;rw [lay];exact if_pos h
theorem YkV {w:Nat} {x:Sexpr} (h:¬(x.kind≠3\/x.kids.length=0\/i+(txt x).length<=w)):lay w x i=40::(layH w x.kids i++ [41]):=by
 cases x;rw [lay];exact if_neg h
theorem YjR {w:Nat} {l m:List Sexpr}:layT w (l++m) i=layT w l i++layT w m i:=by
 induction l with
 | nil=>simp [layT]
 | cons a r ih=>simp only [List.cons_append,layT,ih,List.append_assoc]
variable {k:Nat}
theorem Ynf {w:Nat} {l:List Sexpr} {x:Sexpr} (hx:l[k]?=some x):layT w (l.take (k+1)) i=layT w (l.take k) i++(10::(List.replicate i 32++lay w x i)):=by
 rw [List.take_add_one,hx];simp only [Option.toList];rw [YjR];simp [layT]
def XSm (x:Sexpr):Prop:=(x.kind=1->x.text.size<=32)/\(x.kind=2->NumOk x.value)
theorem YhP {u:Nat} (h:u<10 ^ (k+1)):(Lib.decDigits u).length<=k+1:=by
 induction k generalizing u with
 | zero=>rw [Lib.decDigits,dif_pos (by simpa using h)];simp
 | succ k ih=>
  by_cases h0:u<10
  ·rw [Lib.decDigits,dif_pos h0];simp
  have:=ih (u:=u / 10) (by rw [Nat.pow_succ] at h;omega);rw [Lib.decDigits,dif_neg h0,List.length_append];simp;omega
theorem itoa_len {n:Int} (h:NumOk n):(Lib.itoa n).length<=14:=by
 unfold NumOk at h;have h1:∀ u:Nat,u<=1099511627776->(Lib.decDigits u).length<=13:=fun u hu=>YhP (k:=12) Zi
 unfold Lib.itoa;split
 ·have:=h1 n.natAbs Zi;simp;omega
 have:=h1 n.toNat Zi;omega
theorem join_len {l:List (List UInt8)}:(Lib.join l [32]).length<=(l.map fun t=>t.length+1).sum:=by
 cases l with
 | nil=>simp [Lib.join_nil]
 | cons x r=>
  rw [Lib.join_cons,List.length_append,Lib.joinTail_length];have:Lib.lens r+r.length=(r.map fun t=>t.length+1).sum:=by
   induction r with
   | nil=>simp [Lib.lens]
   | cons a r ih=>simp only [Lib.lens,List.map_cons,List.sum_cons,List.length_cons] at ih ⊢;omega
  simp only [List.map_cons,List.sum_cons,List.length_cons,List.length_nil] at this ⊢;omega
mutual
theorem txt_len:∀ {x:Sexpr},XAll XSm x->(txt x).length+4<=36*xcount x
 | .mk k v l c t ks,h=>by
  rw [XAll] at h;have hs:=txtL_len h.2;rw [txt,xcount];have h1:=h.1;unfold XSm at h1;split
  ·rename_i hk;have:=h1.1 hk;have e:t.data.toList.length=t.size:=by rw [Array.length_toList];rfl
   simp only [Sexpr.text] at this;omega
  split
  ·rename_i hk;have:=itoa_len (h1.2 hk);simp only [Sexpr.value] at this;omega
  have:=join_len (l:=txtL ks);simp only [List.length_cons,List.length_append,List.length_nil];omega
theorem txtL_len:∀ {l:List Sexpr},XAllL XSm l->((txtL l).map fun t=>t.length+1).sum<=36*xcountL l
 | [],_=>by simp [txtL]
 | x::r,h=>by
  rw [XAllL] at h;have h1:=txt_len h.1;have h2:=txtL_len h.2;simp only [txtL,List.map_cons,List.sum_cons,xcountL];omega
end
mutual
theorem lay_len {w M:Nat}:∀ {x:Sexpr} {i:Nat},XAll XSm x->i+2*xdepth x<=M->(lay w x i).length+M+3<=(M+36)*xcount x
 | .mk k v l c t ks,i,h,hM=>by
  have ht:=txt_len h;have hc:1<=xcount (.mk k v l c t ks):=by rw [xcount];omega
  have hmul:(M+36)*xcount (.mk k v l c t ks)=M*xcount (.mk k v l c t ks)+36*xcount (.mk k v l c t ks):=Nat.add_mul _ _ _;have hM1:M*1<=M*xcount (.mk k v l c t ks):=Nat.mul_le_mul_left _ hc;rw [lay];split
  ·omega
  rename_i hn;have hk:k=3:=Classical.byContradiction fun h0=>hn (.inl h0)
  rw [XAll] at h;rw [xdepth,if_pos hk] at hM;have:=layH_len (w:=w) (M:=M) (l:=ks) (i:=i) h.2 Zi;rw [xcount,Nat.mul_add,Nat.mul_one];simp only [List.length_cons,List.length_append,List.length_nil];omega
theorem layH_len {w M:Nat}:∀ {l:List Sexpr} {i:Nat},XAllL XSm l->i+2+2*xdepthL l<=M->(layH w l i).length<=(M+36)*xcountL l
 | [],_,_,_=>by simp [layH]
 | x::r,i,h,hM=>by
  rw [XAllL] at h;rw [xdepthL] at hM;have h1:=lay_len (w:=w) (M:=M) (i:=i+1) h.1 Zi;have h2:=layT_len (w:=w) (M:=M) (l:=r) (i:=i+2) h.2 Zi;rw [layH,List.length_append,xcountL,Nat.mul_add];omega
theorem layT_len {w M:Nat}:∀ {l:List Sexpr} {i:Nat},XAllL XSm l->i+2*xdepthL l<=M->(layT w l i).length<=(M+36)*xcountL l
 | [],_,_,_=>by simp [layT]
 | x::r,i,h,hM=>by
  rw [XAllL] at h;rw [xdepthL] at hM;have h1:=lay_len (w:=w) (M:=M) (i:=i) h.1 Zi;have h2:=layT_len (w:=w) (M:=M) (l:=r) (i:=i) h.2 Zi;rw [layT,xcountL,Nat.mul_add];simp only [List.length_cons,List.length_append,List.length_replicate];omega
end
theorem Yin (n:Nat):Lib.repeatL [32] n=List.replicate n 32:=by
 induction n with
 | zero=>rfl
 | succ n ih=>rw [Lib.repeatL,ih];rfl
end Go.Lx
namespace Go.Lx
open Go.RowKit
section
variable {P:Program}
theorem Ygc (w:World) (t u ty e:TypeId) (i:TypeInfo) (ht:P.underlying t=some (.slice e)) (hu:P.underlying u=some .string) (hi:P.info? e=some i) (hz:i.zero=some (.int .u8 0))
 (hsize:i.size=1) (hby:i.bytes=1) (v:Value) (n:Nat) (xs:List Value) (hown:w.ownsRow 0 e 1 v n xs) (s:Bs) (hm:n+s.size<=140737488355328):
 ∃ v' w',(Builtin.append_ #[t,u] ty #[v,.string s]).run P w=.ok v' w'/\w'.ownsRow 0 e 1 v' (n+s.size) (xs++s.data.toList.map Ycn)/\w.grownBy w' v.ownBlock/\(v'.ownBlock=v.ownBlock\/v'.ownBlock=some w.heap.size):=by
 obtain ⟨v',w',hr,h2,h3,h4⟩:=Go.Lib.run_append_own_string (P:=P) w 0 t u ty e i ht hu hi hz hsize hby v n xs hown s (by unfold maxLen;omega) hm (Z0 _);refine ⟨v',w',hr,h2,h3,?_⟩;have hxl:xs.length=n:=by simpa using hown.1
 rcases hown.2 with ⟨h5,h6⟩ | ⟨g,cap,cur,h5,_,h7,h8,h9,h10,h11⟩
 ·subst h5 h6;by_cases h0:s.size=0
  ·left;rw [h4.2 ⟨rfl,h0⟩]
  right;have hr2:=run_append_nil_string (P:=P) w t u ty e i (.int .u8 0) ht hu hi hz s Zi Zi (by rw [hby];omega);rw [hr] at hr2;injection hr2 with e1 _
  rw [e1];rfl
 subst h5;by_cases hroom:n+s.size<=cap
 ·left;have hr2:=Go.Lib.run_append_room_string (P:=P) w t u ty e i ht hu hi hsize g n cap cur h7 s hroom (by simp at h10;omega);rw [hr] at hr2;injection hr2 with e1 _
  rw [e1];rfl
 right;have hr2:=Go.Lib.run_append_grow_string (P:=P) w t u ty e i (.int .u8 0) ht hu hi hz ⟨g,0,none⟩ n cap xs (by rw [hsize];omega) (hown.cells (g:=g) rfl) s Zi Zi (by rw [hby];exact growslice_fits Zi Zi);rw [hr] at hr2;injection hr2 with e1 _
 rw [e1];rfl
end
section
variable {P:Program} {cx:Cx} {r:Operand->Option Value} {fz:FZ} {H:HP} {V:Value->Prop} {dst:Option Nat} {ty:TypeId} {pos:String} {af:Array Edge} {gd:Option (Nat × Bool)}
variable {Hr Hs:HP} {X Y:Ty} {n:Nat} {t:TypeId} {v:Value} {x y:Operand}
theorem YjU (T:Tab P) {u e:TypeId} {U:Ty} {xs:List Value} {s:Bs} {K:Value->FZ->HP->Prop} (hT:T.inf t=some X) (hd:X.desc=.slice e) (hU:T.inf u=some U) (hUd:U.desc=.string) (hY:T.inf e=some Y) (hz:Y.zero=.int .u8 0) (hsz:Y.size=1) (hby:Y.bytes=1)
 (hx:r x=some v) (hy:r y=some (.string s)) (hp:H.Perm (Hr++Hs)) (ho:OwnS e 1 v n xs Hs) (hm:n+s.size<=140737488355328)
 (h:∀ v' Hs',OwnS e 1 v' (n+s.size) (xs++s.data.toList.map Ycn) Hs'->K v' fz (Hr++Hs')):
 Does P cx ⟨dst,.call {callee:=.builtin .append,args:=#[x,y],argTypes:=#[t,u]},ty,pos,af,gd⟩ r fz H K:=by
 refine Does.of fun ρ w hr hi=>?_
 have hi':=hi.perm hp.symm;obtain ⟨i,hinf,g1,g2,g3⟩:=(T.ok_ hY).info;rw [hz] at g3;rw [hsz] at g1;rw [hby] at g2;have hown:=ho.owns hi';obtain ⟨v',w',hrun,h2,h3,h5⟩:=Ygc (P:=P) w t u ty e i (und_plain T hT hd rfl) (und_plain T hU hUd rfl) hinf g3 g1 g2 v n xs hown s hm;obtain ⟨Hs',h6,h7⟩:=OwnS.of_owns h2;have hexec:(execOp ρ ⟨dst,.call {callee:=.builtin .append,args:=#[x,y],argTypes:=#[t,u]},ty,pos,af,gd⟩).run P w=.ok (.value v') w':=by
  simp only [execOp,resolve,invoke,builtin,Sem.run_bind,Sem.run_pure,Result.andThen_ok,List.map_toArray,List.map_cons,List.map_nil,hr _ _ hx,hr _ _ hy,hrun]
 rw [hexec];exact ⟨fz,_,hi'.appended ho h3 h6 h7 h5,h v' Hs' h6⟩
theorem Yip {t:TypeId} {x:Operand} {a:Addr} {n c:Nat} (hx:r x=some (.slice (some a) n c)) (hc:c≠0) (h:V (.pointer (some a))):
 DoesQ P cx ⟨dst,.call {callee:=.builtin .unsafeSliceData,args:=#[x],argTypes:=#[t]},ty,pos,af,gd⟩ r fz H V:=
 YJ (fun ρ w hr=>by
  simp only [execOp,resolve,invoke,builtin,Sem.run_bind,Sem.run_pure,Result.andThen_ok,List.map_toArray,List.map_cons,List.map_nil,hr _ _ hx,Go.Lib.run_unsafeSliceData_row _ _ _ _ _ _ hc]) h
variable {g:Nat}
theorem Ygi (T:Tab P) {pt it e:TypeId} {pre post:HP} {cur:List Value} {l:List UInt8} {K:Value->FZ->HP->Prop} (hT:T.inf pt=some X) (hd:X.desc=.pointer e) (hc:P.cellsOf e=1)
 (hx:r x=some (Zp g)) (hy:r y=some (Zk l.length)) (hH:H=pre++(g,.cells cur.toArray e (0,0))::post) (h0:l≠ []) (hl:l.length<=cur.length) (h63:l.length<=140737488355328) (hcur:cur.take l.length=l.map Ycn)
 (h:K (.string (strOf l)) fz (pre++(g,.cells cur.toArray e (0,l.length))::post)):
 Does P cx ⟨dst,.call {callee:=.builtin .unsafeString,args:=#[x,y],argTypes:=#[pt,it]},ty,pos,af,gd⟩ r fz H K:=by
 refine Does.of fun ρ w hr hw=>?_
 subst hH;have hb:=(hw.hp.own (g,.cells cur.toArray e (0,0)) (by simp)).1;have hcell:∀ j x,l[j]?=some x->w.cell? ((⟨g,0,none⟩:Addr).add j)=some (.int .u8 x.toNat):=by
  intro j b hb2;have hadd:(⟨g,0,none⟩:Addr).add j=⟨g,j,none⟩:=by unfold Addr.add;split<;>simp_all
  have hj:j<l.length:=(Zg hb2).1;have h1:(cur.take l.length)[j]?=some (Ycn b):=by rw [hcur,List.getElem?_map,hb2];rfl
  rw [List.getElem?_take,if_pos hj] at h1;rw [hadd];simp only [World.cell?,hb];simpa [Ycn] using h1
 have hrun:=Go.Lib.run_unsafeString_row (P:=P) w pt it ty e (und_plain T hT hd rfl) hc g cur.length (by simp [World.shape?,hb]) l h0 hl Zi hcell;have hexec:(execOp ρ ⟨dst,.call {callee:=.builtin .unsafeString,args:=#[x,y],argTypes:=#[pt,it]},ty,pos,af,gd⟩).run P w=.ok (.value (.string (strOf l))) (w.freeze ⟨g,0,none⟩ l.length):=by
  simp only [execOp,resolve,invoke,builtin,Sem.run_bind,Sem.run_pure,Result.andThen_ok,List.map_toArray,List.map_cons,List.map_nil,hr _ _ hx,hr _ _ hy,hrun];rfl
 rw [hexec];have hl0:l.length≠0:=by simpa using h0
 refine ⟨fz,_,hw.write (o':=.cells cur.toArray e (0,l.length)) (by simp [World.freeze,hl0]) (by simp [World.freeze,hl0]) (by simp [World.freeze,hl0]) (by simp [World.freeze,hl0]) ?_ (fun k hk=>?_),h⟩
 ·simp [World.freeze,hl0,Array.getElem?_modify,hb]
 simp only [World.freeze,if_neg hl0,Array.getElem?_modify];rw [if_neg Zi]
theorem XT {t':TypeId} {a b:Bs} (hx:r x=some (.string a)) (hy:r y=some (.string b)) (hs:a.size+b.size<=9223372036854775807) (h:V (.string (a++b))):
 DoesQ P cx ⟨dst,.binOp .add t x y t',ty,pos,af,gd⟩ r fz H V:=
 YJ (fun ρ w hr=>by
  have:¬(9223372036854775807<((a.size:Int)+(b.size:Int))):=by omega
  simp [execOp,hr _ _ hx,hr _ _ hy,eqGuard_at_string,binOp,Op.stringOp,this]) h
theorem Yfq {t':TypeId} {a b:List UInt8} (hx:r x=some (.string (strOf a))) (hy:r y=some (.string (strOf b))) (hs:a.length+b.length<=9223372036854775807) (h:V (.string (strOf (a++b)))):
 DoesQ P cx ⟨dst,.binOp .add t x y t',ty,pos,af,gd⟩ r fz H V:=
 XT hx hy (by rw [XF,XF];exact hs) (by rw [Yid];exact h)
variable {A:Option Addr} {c j:Nat}
theorem XC (T:Tab P) {α:Type} {L:Lay α} {e:TypeId} {i:Operand} {k:IntKind} {xs:List α} (hT:T.inf t=some X) (hd:X.desc=.slice e) (hY:T.inf e=some Y) (hz:Y.size=L.size)
 (hx:r x=some (.slice A n c)) (hi:r i=some (.int k j)) (hs:Sl L fz A n c xs) (hj:j<=n) (h:∀ A',Sl L fz A' (n - j) (c - j) (xs.drop j)->V (.slice A' (n - j) (c - j))):DoesQ P cx ⟨dst,.slice t x (some i) none none,ty,pos,af,gd⟩ r fz H V:=by
 have h1:=hs.cap;have h2:=hs.max;have h3:=hs.short;have h4:=hs.len;refine YJ (v:=.slice (if c=j then A else A.map (·.add (j*Y.size))) (n - j) (c - j)) (fun ρ w hr=>by
  have hu:=run_underlying (und_plain T hT hd rfl) w;have hs:=Lx.run_sizeOf T hY w;simp [execOp,hr _ _ hx,hr _ _ hi,Instr.sliceAt,Instr.slice,Instr.sliceBounds,Instr.sliceBound,asIntOf,hu,hs,hj]
  try omega) (h _ ?_)
 refine ⟨by rw [List.length_drop,h4],by omega,by omega,by omega,?_⟩;rcases hs.elem with h0 | ⟨ad,h5,h6⟩
 ·exact .inl Zi
 by_cases hn:n - j=0
 ·exact .inl hn
 refine .inr ⟨ad.add (j*L.size),?_,fun i d hd=>?_⟩
 ·rw [if_neg Zi,h5,hz];rfl
 rw [List.getElem?_drop] at hd;have:=h6 (j+i) d hd;have e:(ad.add (j*L.size)).add (i*L.size)=ad.add ((j+i)*L.size):=by
  rw [Nat.add_mul];unfold Addr.add;by_cases h7:j*L.size=0
  ·rw [h7];simp
  by_cases h8:i*L.size=0
  ·rw [h8];simp
  simp [h7,h8,Nat.add_assoc]
 rw [e];exact this
theorem q_min {ats:Array TypeId} {k:IntKind} {a b:Int} (hx:r x=some (.int k a)) (hy:r y=some (.int k b)) (h:V (.int k (min a b))):
 DoesQ P cx ⟨dst,.call {callee:=.builtin .min,args:=#[x,y],argTypes:=ats},ty,pos,af,gd⟩ r fz H V:=
 YJ (fun ρ w hr=>by
  have:(if b<a then b else a)=min a b:=by omega
  simp [execOp,resolve,invoke,builtin,hr _ _ hx,hr _ _ hy,Builtin.min_,Builtin.min2,this]) h
theorem q_neg {k:IntKind} {a c:Int} (hx:r x=some (.int k a)) (hw:k.wrap (0 - a)=c) (h:V (.int k c)):DoesQ P cx ⟨dst,.unOp .neg t x,ty,pos,af,gd⟩ r fz H V:=
 YJ (fun ρ w hr=>by simp [execOp,hr _ _ hx,Op.unary,Op.intArith] at hw ⊢;exact hw) h
end
section
variable {P:Program} {cx:Cx} {r:Operand->Option Value} {fz:FZ} {H:HP} {dst:Option Nat} {ty:TypeId} {pos:String} {af:Array Edge} {gd:Option (Nat × Bool)} {V:Value->Prop}
def updH (fz:FZ):HP->FZ
 | []=>fz
 | p::r=>upd (updH fz r) p.1 p.2
theorem Ykq {fz:FZ}:∀ {H:HP},(H.map Prod.fst).Nodup->∀ p∈H,updH fz H p.1=some p.2
 | [],_,p,hp=>by cases hp
 | q::r,hn,p,hp=>by
  rw [List.map_cons,List.nodup_cons] at hn;rw [updH,upd];rcases List.mem_cons.1 hp with rfl | hp
  ·rw [if_pos rfl]
  rw [if_neg (fun h0=>hn.1 (by rw [<- h0];exact List.mem_map_of_mem hp)),Ykq hn.2 p hp]
theorem Yl1 {fz:FZ}:∀ {H:HP},(∀ p∈H,fz p.1=none)->Le fz (updH fz H)
 | [],_=>Le.refl _
 | q::r,h=>fun b o hb=>by
  rw [updH,upd,if_neg (fun h0=>by rw [h0,h q (by simp)] at hb;cases hb)];exact Yl1 (fun p hp=>h p (by simp [hp])) b o hb
theorem Yl2 {fz:FZ}:∀ {H:HP} {b:Nat} {o:Obj},updH fz H b=some o->fz b=some o\/(b,o)∈H
 | [],_,_,h=>.inl h
 | q::r,b,o,h=>by
  rw [updH,upd] at h;split at h
  ·rename_i hb;injection h with h;subst hb h;exact .inr (by simp)
  rcases Yl2 h with h | h
  ·exact .inl h
  exact .inr (by simp [h])
variable {w:World}
theorem Hp.all (h:Hp fz H w):Hp (updH fz H) [] w:=
 ⟨fun b o hb=>(Yl2 hb).elim (h.keep b o) (fun hm=>(h.own _ hm).1),by simp,by simp⟩
theorem Hp.allLe (h:Hp fz H w):Le fz (updH fz H)/\∀ p∈H,updH fz H p.1=some p.2:=⟨Yl1 fun p hp=>(h.own p hp).2,Ykq h.nd⟩
variable {v:Value}
theorem Yb9 {f:FuncId} {xs:List Operand} {ats:Array TypeId} {vs:List Value} (hx:rds r xs=some vs) (hf:r (.func f)=some (.func (.func f) #[] #[])) (hq:∀ fz',Le fz fz'->(∀ p∈H,fz' p.1=some p.2)->QFn P f vs fz' v) (h:V v):
 DoesQ P cx ⟨dst,.call {callee:=.value (.func f),args:=xs.toArray,argTypes:=ats},ty,pos,af,gd⟩ r fz H V:=
 DoesQ.of h fun ρ w hr hw=>by
  have hq':=hq _ hw.hp.allLe.1 hw.hp.allLe.2;unfold QFn at hq';rw [YdF hr (first:=[]) (capt:=[]) hf hx (vs:=vs) (by simp) hq'.1];exact (hq'.2 w hw.hp.all).mono fun e w' ⟨he,hfr⟩=>⟨v,he,rfl,hfr⟩
theorem q_callBU {f:FuncId} {xs:List Operand} {ats:Array TypeId} {vs:List Value} {b:Bool} (hx:rds r xs=some vs) (hf:r (.func f)=some (.func (.func f) #[] #[])) (hq:∀ fz',Le fz fz'->(∀ p∈H,fz' p.1=some p.2)->QFn P f vs fz' (.bool b)) (h1:b=true->V (.bool true)) (h2:b=false->V (.bool false)):
 DoesQ P cx ⟨dst,.call {callee:=.value (.func f),args:=xs.toArray,argTypes:=ats},ty,pos,af,gd⟩ r fz H V:=
 Yb9 hx hf hq (v_bool h1 h2)
theorem q_callvU {f:FuncId} {ff:Operand} {xs:List Operand} {ats:Array TypeId} {us vs first capt:List Value} (hf:r ff=some (.func (.func f) first.toArray capt.toArray)) (hx:rds r xs=some us) (hv:first++us++capt=vs) (hq:∀ fz',Le fz fz'->(∀ p∈H,fz' p.1=some p.2)->QFn P f vs fz' v) (h:V v):
 DoesQ P cx ⟨dst,.call {callee:=.value ff,args:=xs.toArray,argTypes:=ats},ty,pos,af,gd⟩ r fz H V:=
 DoesQ.of h fun ρ w hr hw=>by
  have hq':=hq _ hw.hp.allLe.1 hw.hp.allLe.2;unfold QFn at hq';rw [YdF hr hf hx hv hq'.1];exact (hq'.2 w hw.hp.all).mono fun e w' ⟨he,hfr⟩=>⟨v,he,rfl,hfr⟩
variable {X Y:Ty} {g n:Nat} {x:Operand}
theorem Wq (T:Tab P) {t e:Nat} {i:Operand} {k:IntKind} {j:Int} (hT:T.inf t=some X) (hd:X.desc=.array n e) (hY:T.inf e=some Y)
 (hx:r x=some (Zp g)) (hi:r i=some (.int k j)) (h0:0<=j) (hn:j<n) (h:V (.pointer (some ((⟨g,0,none⟩:Addr).add (j.toNat*Y.size))))):DoesQ P cx ⟨dst,.indexAddr t x i,ty,pos,af,gd⟩ r fz H V:=
 YJ (fun ρ w hr=>by
  have hu:=run_underlying (und_plain T hT hd rfl) w;have hs:=Lx.run_sizeOf T hY w;simp [execOp,hr _ _ hx,hr _ _ hi,Instr.indexAt,asIntOf,hu,hs,h0,hn,Instr.sureAddr]) h
variable {cs:List Value}
theorem Yhi (T:Tab P) {t e:Nat} {i:Operand} {k:IntKind} {j:Int} (hT:T.inf t=some X) (hd:X.desc=.array n e) (hY:T.inf e=some Y) (hY1:Y.size=1) (hA:W2 Y.desc=false)
 (hx:r x=some (.agg cs.toArray)) (hi:r i=some (.int k j)) (h0:0<=j) (hn:j<n) (hv:cs[j.toNat]?=some v) (h:V v):DoesQ P cx ⟨dst,.index t x i,ty,pos,af,gd⟩ r fz H V:=
 YJ (fun ρ w hr=>by
  have hu:=run_underlying (und_plain T hT hd rfl) w;have hs:=Lx.run_sizeOf T hY w;have hv2:=Lx.run_isAgg T hY w;rw [hA] at hv2;simp [execOp,hr _ _ hx,hr _ _ hi,Instr.index,asIntOf,hu,hs,h0,hn,hY1,part,hv2,hv]) h
end
end Go.Lx
