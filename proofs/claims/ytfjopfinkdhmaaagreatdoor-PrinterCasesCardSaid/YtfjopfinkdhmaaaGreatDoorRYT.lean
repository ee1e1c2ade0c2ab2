/- The texts ShelfC, OpenA, PCQ, PCR, PVal, PCX, YW, YF, YS, StrC, laid together. Conditions: none. -/
import Derived.Test.YtfjopfinkdhmaaaGreatDoorRYS
import Derived.ChangeSame
import Derived.ProofKit
import Derived.Shelf.Strings.Search3
set_option linter.all false
noncomputable section
namespace Go.Proofs
open Go.Shelf
def Tryz.lays144_ren:Go.Shelf.Ren:=⟨fun | 144=>197 | 143=>228 | 219=>242 | 217=>206 | 225=>244 | 224=>245 | 267=>246 | 266=>235 | 314=>247 | n=>n,fun | 9=>9 | 4=>4 | 3=>3 | 5=>5 | 46=>274 | 146=>301 | 51=>283 | n=>n,fun | 1=>1 | n=>n⟩
theorem Tryz.lays144:Go.Proofs.Lays.n144 Tryz.prog Tryz.lays144_ren:={
 mixed:=by kernel_rfl
 f143:=Tryz.func228.trans (congrArg some (by kernel_rfl))
 f144:=Tryz.func197.trans (congrArg some (by kernel_rfl))
 f217:=Tryz.func206.trans (congrArg some (by kernel_rfl))
 f219:=Tryz.func242.trans (congrArg some (by kernel_rfl))
 f224:=Tryz.func245.trans (congrArg some (by kernel_rfl))
 f225:=Tryz.func244.trans (congrArg some (by kernel_rfl))
 f266:=Tryz.func235.trans (congrArg some (by kernel_rfl))
 f267:=Tryz.func246.trans (congrArg some (by kernel_rfl))
 f314:=Tryz.func247.trans (congrArg some (by kernel_rfl))
 t3:=Tryz.underlying3
 a3:=Tryz.isAgg3
 z3:=Tryz.sizeOf3
 v3:=Tryz.zeroValue3
 t4:=Tryz.underlying4
 a4:=Tryz.isAgg4
 z4:=Tryz.sizeOf4
 v4:=Tryz.zeroValue4
 t5:=Tryz.underlying5
 a5:=Tryz.isAgg5
 z5:=Tryz.sizeOf5
 v5:=Tryz.zeroValue5
 t9:=Tryz.underlying9
 a9:=Tryz.isAgg9
 z9:=Tryz.sizeOf9
 v9:=Tryz.zeroValue9
 t46:=Tryz.underlying274
 a46:=Tryz.isAgg274
 z46:=Tryz.sizeOf274
 v46:=Tryz.zeroValue274
 t51:=Tryz.underlying283
 a51:=Tryz.isAgg283
 z51:=Tryz.sizeOf283
 v51:=Tryz.zeroValue283
 t146:=Tryz.underlying301
 a146:=Tryz.isAgg301
 z146:=Tryz.sizeOf301
 v146:=Tryz.zeroValue301
 g1:=by kernel_rfl}
open Go.RowKit Go.Lib in
/-- strings.Contains: "Contains reports whether substr is within s.": IT RETURNS 'Lib.contains s substr'; the world is as1 it was. (LAID: no walk: one application.) -/
theorem Tryz.strings_Contains (s sub:ByteArray) (m:Int) (w:World) (hs:s.size<4294967281) (hm:w.cell? ⟨1,0,none⟩=some (.int .i64 m)):
 Calls Tryz.prog 197 #[.string s,.string sub] w fun e w'=>e=.returned (.bool (Lib.contains s.data.toList sub.data.toList))∧w'=w:=Any.strings_Contains Tryz.lays144 s sub m w hs hm
end Go.Proofs
namespace Go.Lx
open Go.RowKit
def fzOf (w:World):FZ:=fun g=>w.heap[g]?
variable {v:Value} {w:World}
theorem cellF_of {p:Addr} (h:w.cell? p=some v):Yci (fzOf w) p=some v:=by
 unfold World.cell? at h
 unfold Yci fzOf
 exact h
theorem hp_of (w:World):Hp (fzOf w) [] w:=⟨fun _ _ h=>h,by simp,by simp⟩
variable {w':World}
theorem below_of (h:Fr [] w w'):Below w.heap.size w w':=⟨h.os,h.tape,h.output,h.size,fun k hk=>h.block k hk (by simp)⟩
variable {fz:FZ}
theorem QFn.calls {P:Program} {f:FuncId} {args:List Value} (h:QFn P f args fz v) (hw:Hp fz [] w):Calls P f args.toArray w fun e w'=>e=.returned v∧Fr [] w w':=by
 unfold QFn at h
 exact h.2 w hw
end Go.Lx
set_option maxRecDepth 20000
namespace Go.Lx
open Go
theorem Yk4 {s:List UInt8} (h:(32:UInt8) ∉ s) (r:List UInt8):(s++32::r).takeWhile (fun b=>!(b==(32:UInt8)))=s:=by
 induction s with
 | nil=>rfl
 | cons a s ih=>
  have h1:a≠32:=fun e=>h (by simp [e])
  rw [List.cons_append,List.takeWhile_cons,if_pos (by simpa using h1),ih (fun e=>h (by simp [e]))]
variable {j:Nat}
theorem occ_word {R s:List UInt8} (h:(32:UInt8) ∉ s) (ho:Go.Lib.occAt R ([32]++s++ [32]) j=true):s=((R.drop j).drop 1).takeWhile (fun b=>!(b==(32:UInt8))):=by
 unfold Go.Lib.occAt at ho
 obtain ⟨r,hr⟩:=List.isPrefixOf_iff_prefix.1 ho
 rw [← hr]
 have:((([32]:List UInt8)++s++ [32])++r).drop 1=s++32::r:=by simp
 rw [this,Yk4 h]
theorem YiY {R sub:List UInt8} (h:∀ j,j≤R.length→Go.Lib.occAt R sub j=false):Go.Lib.contains R sub=false:=by
 unfold Go.Lib.contains
 rw [Go.Lib.index_none h]
 rfl
def resT:List UInt8:=[32,97,110,100,32,111,114,32,110,111,116,32,105,109,112,108,121,32,102,111,114,97,108,108,32,101,120,105,115,116,115,32,119,104,101,110,32,97,115,115,105,103,110,32,105,110,99,114,101,97,115,101,32,100,101,99,114,101,97,115,101,32,111,98,106,101,99,116,32]
end Go.Lx
namespace Go.Proofs.YtfjopfinkdhmaaaGreatDoor
open Go.Lx Go.RowKit
attribute [local instance 10] Classical.propDecidable
open Go.Proofs.Tryz (prog)
def resB:Bs:=⟨#[32,97,110,100,32,111,114,32,110,111,116,32,105,109,112,108,121,32,102,111,114,97,108,108,32,101,120,105,115,116,115,32,119,104,101,110,32,97,115,115,105,103,110,32,105,110,99,114,101,97,115,101,32,100,101,99,114,101,97,115,101,32,111,98,106,101,99,116,32]⟩
def Yjq:List (List UInt8):=[]::YaR.map (·.data.toList)
theorem res_all:(List.range 70).all (fun j=>!((resT.drop j).headD 0==32) || Yjq.contains (((resT.drop j).drop 1).takeWhile (fun b=>!(b==(32:UInt8)))))=true:=by kernel_rfl
theorem YfO {s:Bs} (h:Y5 s):(32:UInt8) ∉ s.data.toList:=by
 intro h0
 obtain ⟨i,hi⟩:=List.getElem?_of_mem h0
 have hlt:=(Zg hi).1
 have hlt2:i<s.size:=by rw [Array.length_toList] at hlt;exact hlt
 have h1:=h.1 i hlt2
 have h2:Yav s i=32:=by
  unfold Yav
  rw [getElem?_pos s i hlt2]
  have h3:s[i]=32:=by
   have:=(Zg hi).2
   rw [Array.getElem_toList] at this
   exact this
  rw [h3];rfl
 unfold Ya4 LetP DigP at h1
 rw [h2] at h1
 omega
theorem res_no {s:Bs} (h:Y5 s):Lib.contains resT ([32]++s.data.toList++ [32])=false:=by
 refine YiY fun j hj=>?_
 cases ho:Lib.occAt resT ([32]++s.data.toList++ [32]) j with
 | false=>rfl
 | true=>
  exfalso
  have h1:=occ_word (YfO h) ho
  have h2:(resT.drop j).headD 0=32:=by
   unfold Lib.occAt at ho
   obtain ⟨r,hr⟩:=List.isPrefixOf_iff_prefix.1 ho
   rw [← hr];rfl
  have h3:=List.all_eq_true.1 res_all j (by rw [List.mem_range];exact Nat.lt_of_le_of_lt hj Zh)
  rw [h2,← h1] at h3
  simp only [beq_self_eq_true,Bool.not_true,Bool.false_or] at h3
  have h4:s.data.toList∈Yjq:=by simpa using h3
  rcases List.mem_cons.1 h4 with h5 | h5
  ·refine h.2.1 (ByteArray.ext ?_)
   have:s.data=s.data.toList.toArray:=by simp
   rw [this,h5];rfl
  ·obtain ⟨y,hy,he⟩:=List.mem_map.1 h5
   refine h.2.2.2 ?_
   have:y=s:=ByteArray.ext (by
    have e1:y.data=y.data.toList.toArray:=by simp
    have e2:s.data=s.data.toList.toArray:=by simp
    rw [e1,e2,he])
   rw [← this];exact hy
theorem YlZ:∀ {l:List UInt8},(32:UInt8) ∉ l→Lib.indexByte l 32= -1
 | [],_=>rfl
 | a::l,h=>by
  have h1:(a==(32:UInt8))=false:=by simpa using fun e:a=32=>h (by simp [e])
  rw [Lib.indexByte,h1,YlZ (fun e=>h (by simp [e]))];rfl
theorem blank_no {s:Bs} (h:Y5 s):Lib.contains s.data.toList [32]=false:=by
 unfold Lib.contains
 rw [Lib.index_one,YlZ (YfO h)]
 rfl
def MaxF (fz:FZ):Prop:=∃ m,Yci fz ⟨1,0,none⟩=some (.int .i64 m)
variable {fz fz':FZ}
theorem MaxF.mono (hle:Le fz fz') (h:MaxF fz):MaxF fz':=by obtain ⟨m,hm⟩:=h;exact ⟨m,YfX hle hm⟩
theorem YfV {s u:Bs} (hM:MaxF fz) (hs:s.size≤4000000000):QFn prog 197 [.string s,.string u] fz (.bool (Lib.contains s.data.toList u.data.toList)):=by
 obtain ⟨m,hm⟩:=hM
 unfold QFn
 refine ⟨⟨_,Tryz.func197,by decide,by decide⟩,fun w hw=>?_⟩
 refine (Tryz.strings_Contains s u m w Zi (hw.cell hm)).mono fun e w' ⟨he,hb⟩=>⟨he,?_⟩
 subst hb
 exact Fr.refl _ _
theorem tword_q {s:Bs} (hM:MaxF fz) (h:Y5 s):QFn prog 164 [.string s] fz (.bool false):=by
 have hz:=h.2.2.1
 have hne:¬s=⟨#[]⟩:=h.2.1
 refine GFn.quiet ?_
 refine zF Tryz.func164 Tryz.ntmps164 (fun w0=>?_)
 refine zW ?_;intros
 ((refine zG ?_);refine Yw Zz Zz (YfV (u:=⟨#[32]⟩) hM Zi) ?_)
 rw [show (⟨#[32]⟩:Bs).data.toList=[32] from rfl,blank_no h]
 refine zW ?_;intros
 refine zG ?_;refine XK Zz Zz (by show 1+_≤_;omega) ?_
 refine zW ?_;intros
 refine zG ?_;refine XK Zz Zz (by rw [ByteArray.size_append];show 1+_+1≤_;omega) ?_
 refine zW ?_;intros
 ((refine zG ?_);refine Yw Zz Zz (YfV (s:=resB) (u:=(⟨#[32]⟩++s)++⟨#[32]⟩) hM Zh) ?_)
 rw [show resB.data.toList=resT from rfl,show ((⟨#[32]⟩++s)++⟨#[32]⟩:Bs).data.toList=[32]++s.data.toList++ [32] from by simp [ByteArray.data_append],res_no h]
 refine zW ?_;intros
 exact zR (h:=rfl)
theorem Yjl {b:UInt8}:QFn prog 163 [.int .u8 b.toNat] fz (.bool (decide (LetP (b.toNat:Int)))):=by
 refine GFn.quiet ?_
 refine zF Tryz.func163 Tryz.ntmps163 (fun w0=>?_)
 refine zW ?_;intros
 refine zC (fun x1=>?_) (fun x1=>?_)
 ·refine zW ?_;intros
  refine zC (fun x2=>?_) (fun x2=>?_)
  ·refine zW ?_;intros
   exact ret1 rfl rfl Zb (Yv ⟨x1,x2⟩)
  ·refine zW ?_;intros
   exact ret1 rfl rfl Zb (Yo (fun h=>x2 h.2))
 ·refine zW ?_;intros
  exact ret1 rfl rfl Zb (Yo (fun h=>x1 h.1))
theorem YkY {s:Bs} (hM:MaxF fz) (h:Y5 s):QFn prog 120 [.string s] fz (.bool true):=by
 have hz:=h.2.2.1
 have hp:0<s.size:=Nat.pos_of_ne_zero (fun h0=>h.2.1 (ByteArray.ext (Array.eq_empty_of_size_eq_zero h0)))
 obtain ⟨b0,hb0,hb02⟩:=XV (s:=s) (k:=0) hp
 have hlet:LetP (b0.toNat:Int):=by
  have:=h.1 0 hp
  unfold Ya4 at this
  rw [hb02] at this
  rcases this with h1 | ⟨h1,_⟩
  ·exact h1
  ·exact absurd rfl h1
 refine GFn.quiet ?_
 refine zF Tryz.func120 Tryz.ntmps120 (fun w0=>?_)
 refine zW ?_;intros
 refine zC (fun x1=>?_) (fun x1=>?_)
 ·omega
 refine zW ?_;intros
 refine zC (fun x2=>?_) (fun x2=>?_)
 ·omega
 refine zW ?_;intros
 refine zG ?_;refine Xl T Zz Zz Zz Zz Zi (by exact hb0) ?_
 refine zW ?_;intros
 refine zc Yjl ?_
 rw [decide_eq_true hlet]
 refine zW ?_;intros
 refine zc (tword_q hM h) ?_
 refine zW ?_;intros
 refine Yl (fun q σ fz' H'=>∃ k:Nat,k≤s.size∧q=s.size - k∧σ=[(25,.int .i64 k),(24,.int .i64 s.size),(0,.string s)]∧fz=fz'∧H'=[]∧True) ⟨0,Z0 _,rfl,rfl,rfl,rfl,trivial⟩ Zw Zb ?_;rintro q σ fz' H' ⟨k,hk,rfl,rfl,rfl,rfl,hh⟩
 refine zW ?_;intros
 refine zC (fun hlt=>?_) (fun hge=>?_)
 ·refine zW ?_;intros
  obtain ⟨b,hb,hb2⟩:=XV (s:=s) (k:=k) Zi
  have hN:=h.1 k Zi
  unfold Ya4 at hN
  rw [hb2] at hN
  ((refine zG ?_);refine Xl T Zz Zz Zz Zz Zi (by rw [Int.toNat_natCast];exact hb) ?_)
  refine zW ?_;intros
  refine zb Yjl (fun f1=>?_) (fun f1=>?_)
  ·refine zW ?_;intros
   exact Yz ⟨k+1,by omega,rfl,rfl,rfl,rfl,trivial⟩ Zi Zw Zb
  ·have h9:DigP (b.toNat:Int)∨(b.toNat:Int)=45∨(b.toNat:Int)=95:=by
    rcases hN with h1 | h1
    ·exact absurd h1 (Zf f1)
    ·exact h1.2
   unfold DigP at h9
   refine zW ?_;intros
   refine zC (fun x3=>?_) (fun x3=>?_)
   ·refine zW ?_;intros
    refine zC (fun x4=>?_) (fun x4=>?_)
    ·omega
    ·refine zW ?_;intros
     exact Yz ⟨k+1,by omega,rfl,rfl,rfl,rfl,trivial⟩ Zi Zw Zb
   ·refine zW ?_;intros
    refine zC (fun x5=>?_) (fun x5=>?_)
    ·refine zW ?_;intros
     refine zC (fun x4=>?_) (fun x4=>?_)
     ·refine zW ?_;intros
      refine zC (fun x6=>?_) (fun x6=>?_)
      ·omega
      ·refine zW ?_;intros
       exact Yz ⟨k+1,by omega,rfl,rfl,rfl,rfl,trivial⟩ Zi Zw Zb
     ·omega
    ·refine zW ?_;intros
     exact Yz ⟨k+1,by omega,rfl,rfl,rfl,rfl,trivial⟩ Zi Zw Zb
 ·refine zW ?_;intros
  exact zR (h:=rfl)
def newM (l:List Param):Int:=
 if TwP [] (parN l) then 4 else if ¬(∀ p∈l,HasT l p.typ) then 3 else if ∃ p∈l,cycM l p.name l.length p.name=true then 21 else 0
def itU (l:List Param):Nat→Bs→Bs
 | 0,t=>t
 | n+1,t=>itU l n (upT l t)
theorem Ygt {l:List Param}:∀ (i k:Nat) (t:Bs),itU l (i+k) t=itU l k (itU l i t)
 | 0,k,t=>by rw [Nat.zero_add];rfl
 | i+1,k,t=>by rw [show i+1+k=(i+k)+1 from by omega,itU,itU,Ygt i k]
theorem cyc_no {l:List Param} {t:Bs}:∀ (n:Nat) {a:Bs},cycM l t n a=false→∀ j,1≤j→j≤n→(∀ i,1≤i→i<j→itU l i a≠Wh)→itU l j a≠t
 | 0,_,_,j,h1,h2,_=>absurd h1 Zi
 | n+1,a,hc,j,h1,h2,hh=>by
  rw [cycM] at hc
  by_cases hu:upT l a=t
  ·rw [if_pos hu] at hc;cases hc
  ·rw [if_neg hu] at hc
   obtain ⟨j,rfl⟩:∃ i,j=i+1:=⟨j - 1,by omega⟩
   cases j with
   | zero=>exact hu
   | succ j=>
    have h3:upT l a≠Wh:=hh 1 Zi Zi
    rw [if_neg h3] at hc
    exact cyc_no n hc (j+1) Zi Zi (fun i hi hj=>hh (i+1) Zi Zi)
theorem pigeon {α:Type} [DecidableEq α]:∀ (n:Nat) (L:List α) (f:Nat→α),L.length=n→(∀ i,i≤n→f i∈L)→∃ i j,i<j∧j≤n∧f i=f j
 | 0,L,f,hL,hf=>by
  have:=hf 0 Zi
  rw [List.eq_nil_of_length_eq_zero hL] at this
  cases this
 | n+1,L,f,hL,hf=>by
  by_cases he:∃ i,i≤n∧f i=f (n+1)
  ·obtain ⟨i,hi,he⟩:=he;exact ⟨i,n+1,by omega,by omega,he⟩
  ·obtain ⟨i,j,h1,h2,h3⟩:=pigeon n (L.erase (f (n+1))) f (by rw [List.length_erase_of_mem (hf (n+1) Zi),hL];rfl)
    (fun i hi=>(List.mem_erase_of_ne (fun e=>he ⟨i,hi,e⟩)).2 (hf i Zi))
   exact ⟨i,j,h1,by omega,h3⟩
theorem upN_of {l:List Param}:∀ {n:Nat} {t:Bs},itU l n t=Wh→(∀ i,i<n→itU l i t≠Wh)→upN l n t
 | 0,_,h,_=>h
 | n+1,t,h,hh=>⟨hh 0 Zi,upN_of (n:=n) h (fun i hi=>hh (i+1) Zi)⟩
theorem Yea {l:List Param} {t:Bs}:(tyF l t).isSome=true↔t∈parN l:=by
 induction l with
 | nil=>simp [tyF,parN]
 | cons p r ih=>
  rw [tyF]
  by_cases h:t=p.name
  ·rw [if_pos h];simp [parN,h]
  ·rw [if_neg h,ih]
   have:parN (p::r)=p.name::parN r:=rfl
   rw [this,List.mem_cons]
   exact ⟨.inr,fun h1=>h1.elim (fun h2=>absurd h2 h) id⟩
theorem tyF_in:∀ {l:List Param} {t u:Bs},tyF l t=some u→∃ p∈l,p.typ=u
 | p::r,t,u,h=>by
  rw [tyF] at h
  by_cases h1:t=p.name
  ·rw [if_pos h1] at h;injection h with h;exact ⟨p,by simp,h⟩
  ·rw [if_neg h1] at h
   obtain ⟨q,hq,e⟩:=tyF_in h
   exact ⟨q,by simp [hq],e⟩
theorem hasT_up {l:List Param} (h3:∀ p∈l,HasT l p.typ) {t:Bs} (h:HasT l t) (ho:t≠Wh):HasT l (upT l t):=by
 rcases h with h | h
 ·exact absurd h ho
 ·obtain ⟨u,hu⟩:=Option.isSome_iff_exists.1 h
  obtain ⟨p,hp,e⟩:=tyF_in hu
  have:upT l t=p.typ:=by unfold upT;rw [hu,e];rfl
  rw [this];exact h3 p hp
theorem itU_succ {l:List Param} (n:Nat) (t:Bs):itU l (n+1) t=upT l (itU l n t):=by rw [Ygt n 1 t];rfl
theorem wft_of {l:List Param} (hs:∀ p∈l,Short p.typ) (h3:∀ p∈l,HasT l p.typ) (h4:∀ p∈l,cycM l p.name l.length p.name=false) (hl:l.length≤64):WFT l:=by
 refine ⟨hs,fun t ht=>Classical.byContradiction fun hno=>?_⟩
 have hob:∀ i,i≤l.length→itU l i t≠Wh:=by
  intro i
  induction i using Nat.strongRecOn with
  | _ i ih=>
   intro hi he
   exact hno ⟨i,by omega,upN_of he (fun k hk=>ih k hk Zi)⟩
 have hHas:∀ i,i≤l.length→HasT l (itU l i t):=by
  intro i
  induction i with
  | zero=>intro _;exact ht
  | succ i ih=>intro hi;rw [itU_succ];exact hasT_up h3 (ih Zi) (hob i Zi)
 have hmem:∀ i,i≤l.length→itU l i t∈parN l:=fun i hi=>by
  rcases hHas i hi with h | h
  ·exact absurd h (hob i hi)
  ·exact Yea.1 h
 obtain ⟨i,j,hij,hj,he⟩:=pigeon l.length (parN l) (fun i=>itU l i t) Ygq hmem
 obtain ⟨p,hp,hpe⟩:=List.mem_map.1 (hmem i Zi)
 have hc:=h4 p hp
 rw [hpe] at hc
 refine cyc_no l.length hc (j - i) Zi Zi (fun k h1 h2=>?_) ?_
 ·rw [← Ygt];exact hob (i+k) Zi
 ·rw [← Ygt,show i+(j - i)=j from by omega];exact he.symm
theorem newM_wft {l:List Param} (h:newM l=0) (hs:∀ p∈l,Short p.typ) (hl:l.length≤64):WFT l:=by
 unfold newM at h
 by_cases h1:TwP [] (parN l)
 ·rw [if_pos h1] at h;cases h
 ·rw [if_neg h1] at h
  by_cases h2:∀ p∈l,HasT l p.typ
  ·rw [if_neg (by simpa using h2)] at h
   by_cases h3:∃ p∈l,cycM l p.name l.length p.name=true
   ·rw [if_pos h3] at h;cases h
   ·exact wft_of hs h2 (fun p hp=>by
     cases hc:cycM l p.name l.length p.name with
     | false=>rfl
     | true=>exact absurd ⟨p,hp,hc⟩ h3) hl
  ·rw [if_pos h2] at h;cases h
variable {i:Nat}
theorem fndS_no {m:List (Bs × Value)} {x:Bs} (h:(fndS m x i).isSome=false):fndS m x i=none:=by cases hf:fndS m x i with | none=>rfl | some p=>rw [hf] at h;cases h
variable {k:Nat}
theorem tyM_add {l:List Param} {x:Param} (hx:l[k]?=some x) (h:x.name ∉ parN (l.take k)):updS (tyM (l.take k)) x.name (.string x.typ)=tyM (l.take (k+1)):=by
 have h1:fndS (tyM (l.take k)) x.name 0=none:=fndS_no (by
  rw [YkW]
  cases hc:(tyF (l.take k) x.name).isSome with
  | false=>rfl
  | true=>exact absurd (Yea.1 hc) h)
 have h2:l.take (k+1)=l.take k++ [x]:=by rw [List.take_add_one,hx];rfl
 rw [updS,h1,h2]
 unfold tyM
 rw [List.map_append];rfl
variable {A:Option Addr} {c n:Nat}
set_option maxHeartbeats 4000000 in
theorem tnew_q {l:List Param} (hM:MaxF fz) (h1:Sl paramL fz A n c l) (hl:l.length≤64) (hok:∀ p∈l,Y5 p.name∧YcE p.typ):
 GFn prog 72 [.slice A n c] fz [] (fun v fz' H'=>H'=[]∧∃ (vf:Value) (z:Int),v=.tuple #[vf,.int .i64 z,errV (newM l)]∧(newM l=0→ForR fz' vf l)):=by
 have ln:=h1.len
 refine zF Tryz.func72 Tryz.ntmps72 (fun w0=>?_)
 refine zW ?_;intros
 refine zC (fun c0=>?_) (fun c0=>?_)
 ·omega
 refine zW ?_;intros
 refine Yl (fun q σ fz' H'=>∃ k:Nat,k≤n∧q=n - k∧σ=[(22,.int .i64 k),(21,.int .i64 n),(20,.slice A n c),(0,.slice A n c)]∧fz=fz'∧H'=[]∧True) ⟨0,Z0 _,rfl,rfl,rfl,rfl,trivial⟩ Zw Zb ?_;rintro q σ fz' H' ⟨k,hk,rfl,rfl,rfl,rfl,hh⟩
 refine zW ?_;intros
 refine zC (fun c1=>?_) (fun c1=>?_)
 ·obtain ⟨x,hx⟩:=Yn (l:=l) (k:=k) Zi
  obtain ⟨hn,ht⟩:=hok x (Zm hx)
  refine zW ?_;intros
  refine zI h1 hx (fun p1 hp=>?_)
  refine zL hp ?_
  intro cs hcs
  obtain ⟨rfl,hR⟩:=YV hcs
  refine zW ?_;intros
  refine zc (YkY hM hn) ?_
  refine zW ?_;intros
  refine zC (fun x1=>?_) (fun x1=>?_)
  ·have hn2:Y5 x.typ:=ht.elim id (fun h=>absurd h x1)
   refine zW ?_;intros
   refine zc (YkY hM hn2) ?_
   refine zW ?_;intros
   exact Yz ⟨k+1,by omega,rfl,rfl,rfl,rfl,trivial⟩ Zi Zw Zb
  ·refine zW ?_;intros
   exact Yz ⟨k+1,by omega,rfl,rfl,rfl,rfl,trivial⟩ Zi Zw Zb
 ·refine zW ?_;intros
  refine Ya Zz (Yat (fun gm=>?_))
  refine zW ?_;intros
  rename_i gf
  refine Yl (fun q σ fz' H'=>∃ k:Nat,k≤n∧q=n - k∧σ=[(50,.int .i64 k),(49,.int .i64 n),(48,.slice A n c),(7,.pointer (some ⟨gf,0,none⟩)),(0,.slice A n c)]∧fz=fz'∧H'=[(gf,.cells #[.map (some gm)] 195 (0,0)),(gm,mapS (tyM (l.take k)))]∧(∀ i,i<k→∀ x,(parN l)[i]?=some x→x ∉ []++(parN l).take i)) ⟨0,Z0 _,rfl,rfl,rfl,rfl,fun i hi=>absurd hi Zi⟩ Zw Zb ?_
  rintro q σ fz' H' ⟨k,hk,rfl,rfl,rfl,rfl,hh⟩
  refine zW ?_;intros
  refine zC (fun c2=>?_) (fun c2=>?_)
  ·obtain ⟨x,hx⟩:=Yn (l:=l) (k:=k) Zi
   have hxn:=YjC hx
   refine zW ?_;intros
   refine zI h1 hx (fun p1 hp=>?_)
   refine zL hp ?_
   intro cs hcs
   obtain ⟨rfl,hR⟩:=YV hcs
   refine zW ?_;intros
   refine zG ?_;refine Yd2 T 2 Zz Zz Zz Zz Zz Zz Zz Zz Yf8 YkW ?_
   cases hb:(tyF (l.take k) x.name).isSome with
   | true=>
    have hin:=Yea.1 hb
    have e1:newM l=4:=if_pos ⟨k,x.name,hxn,by rw [← Ybv];exact hin⟩
    refine zW ?_;intros
    refine retN T (vs:=[_,_,_]) Zz ⟨rfl,rfl,rfl,trivial⟩ Zb ⟨rfl,.pointer none,k,by rw [e1];rfl,fun h=>by rw [e1] at h;cases h⟩
   | false=>
    have hnin:x.name ∉ parN (l.take k):=fun h=>by rw [Yea.2 h] at hb;cases hb
    refine zWN ?_;intros
    refine Wp.drawK (Hq:=[_,_,_]) T.mixed Zj Zj Zb ?_
    refine zW ?_;intros
    refine Yf ?_
    refine YM ⟨by kernel_rfl,?_⟩
    refine Ch.hard0 Zj (Wb T (pre:=[_,_]) Zz Zz Zz Zz Zz Zz Zz (Zr _) ?_)
    refine Ch.done ?_
    rw [tyM_add hx hnin]
    refine zW ?_;intros
    exact Yz ⟨k+1,by omega,rfl,rfl,rfl,rfl,Ya2 (p:=fun i x=>x ∉ []++(parN l).take i) hh hxn (by rw [← Ybv];exact hnin)⟩ Zi Zw Zb
  ·have hno:¬TwP [] (parN l):=Yjk hh (by rw [Ygq];omega)
   rw [Zl (show l.length≤k by omega)]
   refine zWX ?_;intros
   refine Wp.freezeAll (H1:=[]) (Zr _) (fun fz2 hl2 hf2=>?_)
   have hF:ForR fz2 (.pointer (some ⟨gf,0,none⟩)) l:=⟨gf,gm,rfl,hf2 (gf,.cells #[.map (some gm)] 195 (0,0)) (by simp),hf2 (gm,mapS (tyM l)) (by simp)⟩
   have h2:=h1.mono hl2
   refine zW ?_;intros
   refine Yl (fun q σ fz' H'=>∃ k:Nat,k≤n∧q=n - k∧σ=[(79,.int .i64 k),(78,.int .i64 n),(77,.slice A n c),(7,.pointer (some ⟨gf,0,none⟩)),(0,.slice A n c)]∧fz2=fz'∧H'=[]∧(∀ i,i<k→∀ x,l[i]?=some x→HasT l x.typ)) ⟨0,Z0 _,rfl,rfl,rfl,rfl,fun i hi=>absurd hi Zi⟩ Zw Zb ?_
   rintro q σ fz' H' ⟨k,hk,rfl,rfl,rfl,rfl,hh3⟩
   refine zW ?_;intros
   refine zC (fun c3=>?_) (fun c3=>?_)
   ·obtain ⟨x,hx⟩:=Yn (l:=l) (k:=k) Zi
    refine zW ?_;intros
    refine zI h2 hx (fun p1 hp=>?_)
    refine zL hp ?_
    intro cs hcs
    obtain ⟨rfl,hR⟩:=YV hcs
    refine zW ?_;intros
    refine zb (has_q hF) (fun f1=>?_) (fun f1=>?_)
    ·refine zW ?_;intros
     exact Yz ⟨k+1,by omega,rfl,rfl,rfl,rfl,YL (p:=fun x:Param=>HasT l x.typ) hh3 hx (Zt f1)⟩ Zi Zw Zb
    ·have e1:newM l=3:=by rw [newM,if_neg hno,if_pos (fun h=>Zf f1 (h x (Zm hx)))]
     refine zW ?_;intros
     refine retN T (vs:=[_,_,_]) Zz ⟨rfl,rfl,rfl,trivial⟩ Zb ⟨rfl,.pointer none,k,by rw [e1];rfl,fun h=>by rw [e1] at h;cases h⟩
   ·have hall:=Xs (p:=fun x:Param=>HasT l x.typ) hh3 Zi
    refine zW ?_;intros
    refine Yl (fun q σ fz' H'=>∃ k:Nat,k≤n∧q=n - k∧σ=[(94,.int .i64 k),(93,.int .i64 n),(92,.slice A n c),(7,.pointer (some ⟨gf,0,none⟩))]∧fz2=fz'∧H'=[]∧(∀ i,i<k→∀ x,l[i]?=some x→cycM l x.name l.length x.name=false)) ⟨0,Z0 _,rfl,rfl,rfl,rfl,fun i hi=>absurd hi Zi⟩ Zw Zb ?_
    rintro q σ fz' H' ⟨k,hk,rfl,rfl,rfl,rfl,hh4⟩
    refine zW ?_;intros
    refine zC (fun c4=>?_) (fun c4=>?_)
    ·obtain ⟨x,hx⟩:=Yn (l:=l) (k:=k) Zi
     refine zW ?_;intros
     refine zI h2 hx (fun p1 hp=>?_)
     refine zL hp ?_
     intro cs hcs
     obtain ⟨rfl,hR⟩:=YV hcs
     refine zW ?_;intros
     ((refine zG ?_);refine Yw Zz Zz (cycle_q hF Zi) ?_)
     cases hcy:cycM l x.name l.length x.name with
     | true=>
      have e1:newM l=21:=by rw [newM,if_neg hno,if_neg (by simpa using hall),if_pos ⟨x,Zm hx,hcy⟩]
      refine zW ?_;intros
      refine retN T (vs:=[_,_,_]) Zz ⟨rfl,rfl,rfl,trivial⟩ Zb ⟨rfl,.pointer none,k,by rw [e1];rfl,fun h=>by rw [e1] at h;cases h⟩
     | false=>
      refine zW ?_;intros
      exact Yz ⟨k+1,by omega,rfl,rfl,rfl,rfl,YL (p:=fun x:Param=>cycM l x.name l.length x.name=false) hh4 hx hcy⟩ Zi Zw Zb
    ·have hcn:=Xs (p:=fun x:Param=>cycM l x.name l.length x.name=false) hh4 Zi
     have e1:newM l=0:=by
      rw [newM,if_neg hno,if_neg (by simpa using hall),if_neg]
      rintro ⟨x,hx,h9⟩
      rw [hcn x hx] at h9;cases h9
     refine zW ?_;intros
     refine retN T (vs:=[_,_,_]) Zz ⟨rfl,rfl,rfl,trivial⟩ Zb ⟨rfl,_,0,by rw [e1];rfl,fun _=>hF⟩
end Go.Proofs.YtfjopfinkdhmaaaGreatDoor
namespace Go.Proofs.YtfjopfinkdhmaaaGreatDoor
open Go.Lx Go.RowKit
attribute [local instance 10] Classical.propDecidable
theorem Yja {x k:Sexpr} (h:XVal x) (hk:k∈x.kids):XVal k:=by
 refine ⟨(Y8.1 h.1).2 k hk,?_,?_⟩
 ·have h1:=h.2.1
  rw [YcW] at h1
  have:=Yac.1 (Zs _) k hk
  omega
 ·have h1:=h.2.2
  rw [Xj] at h1
  have:=XT hk
  omega
theorem Yen {l:List Sexpr} {k:Sexpr} (h:XVal (YF l)) (hk:k∈l):XVal k:=Yja h hk
theorem num_ok {n:Int} (h:XVal (numE n)):Ya3 n:=by
 have:=(Y8.1 h.1).1
 rcases this with ⟨h1,_⟩ | ⟨_,_,_,h1⟩ | ⟨h1,_⟩
 ·exact absurd (show (2:Int)=1 from h1) Zh
 ·exact h1
 ·exact absurd (show (2:Int)=3 from h1) Zh
end Go.Proofs.YtfjopfinkdhmaaaGreatDoor
namespace Go.Proofs.YtfjopfinkdhmaaaGreatDoor
open Go.Lx Go.RowKit
attribute [local instance 10] Classical.propDecidable
open Go.Proofs.Tryz (prog)
theorem Yeb:∀ {l:List Param} {seen:List Bs},repM seen l=none→(∀ x∈l,x.name ∉ seen)∧Once (fun q:Param=>q.name) l
 | [],_,_=>⟨by simp,fun i j x y _ h=>by simp at h⟩
 | x::r,seen,h=>by
  rw [repM] at h
  by_cases hx:x.name∈seen
  ·rw [if_pos hx] at h;cases h
  ·rw [if_neg hx] at h
   obtain ⟨h1,h2⟩:=Yeb h
   refine ⟨fun y hy=>?_,fun i j a b hij ha hb=>?_⟩
   ·rcases List.mem_cons.1 hy with rfl | hy
    ·exact hx
    ·exact fun h0=>h1 y hy (by simp [h0])
   ·cases j with
    | zero=>omega
    | succ j=>
     have hb':r[j]?=some b:=by simpa using hb
     cases i with
     | zero=>
      simp at ha;subst ha
      have:=h1 b (Zm hb')
      exact fun e=>this (by simp [e])
     | succ i=>exact h2 i j a b Zi (by simpa using ha) hb'
theorem YeK {α:Type} {f:α→Param} {nm:α→Bs} (hf:∀ x,(f x).name=nm x) {l:List α} {r:List Param} (h:Once (fun q:Param=>q.name) (l.map f++r)):Once nm l:=fun i j x y hij hx hy=>by
 have h1:=(Zg hx).1
 have h2:=(Zg hy).1
 have:=h i j (f x) (f y) hij (by rw [List.getElem?_append_left (by simpa using h1),List.getElem?_map,hx];rfl) (by rw [List.getElem?_append_left (by simpa using h2),List.getElem?_map,hy];rfl)
 rw [← hf x,← hf y];exact this
theorem YfM {α:Type} {f:α→Param} {nm:α→Bs} (hf:∀ x,(f x).name=nm x) {l:List α} {r:List Param} (h:Once (fun q:Param=>q.name) (r++l.map f)):Once nm l:=fun i j x y hij hx hy=>by
 have:=h (r.length+i) (r.length+j) (f x) (f y) Zi (by rw [List.getElem?_append_right Zi,Nat.add_sub_cancel_left,List.getElem?_map,hx];rfl) (by rw [List.getElem?_append_right Zi,Nat.add_sub_cancel_left,List.getElem?_map,hy];rfl)
 rw [← hf x,← hf y];exact this
variable {all:List Param} {d:Domain}
theorem Ykk (h:Yba d all=none):Once (·.name) d.predicates∧Once (·.name) d.functions∧Once (·.name) all∧Once (·.name) d.actions∧Once (·.name) d.duratives:=by
 unfold Yba at h
 cases h0:repM [] (YeM d) with
 | some s=>rw [h0] at h;cases h
 | none=>
  rw [h0] at h
  cases h1:repM [] (YdY all) with
  | some s=>rw [h1] at h;cases h
  | none=>
   rw [h1] at h
   have o0:=(Yeb h0).2
   have o1:=(Yeb h1).2
   have o2:=(Yeb h).2
   exact ⟨YeK (f:=fun x:Predicate=>nmd X2 x.name) (fun _=>rfl) o0,YfM (f:=fun x:Function=>nmd XB x.name) (fun _=>rfl) o0,
    YeK (r:=[]) (f:=fun x:Param=>nmd YbD x.name) (fun _=>rfl) (by simpa [YdY] using o1),YeK (f:=fun x:Action=>nmd Wx x.name) (fun _=>rfl) o2,YfM (f:=fun x:Durative=>nmd XC x.name) (fun _=>rfl) o2⟩
def Ye0 (f:Nat→Bs × Int):Nat→Nat→Bs × Int
 | 0,_=>(⟨#[]⟩,0)
 | n+1,k=>if (f k).2=0 then Ye0 f n (k+1) else f k
def Ya1 (d:Domain) (p:Problem):Bs × Int:=
 if ¬(Yck d∧XVal (domX d)) then (wDomainP,2)
 else if ¬(FVal p.goal∧YcA p∧XVal (prbX p)) then (Yg5,2)
 else if Ydm d p (Yab d p) then (wLimitsP,5)
 else if newM d.types≠0 then (wTypesP,newM d.types)
 else Ye0 (XW d (Yab d p) p) 8 0
structure ChkS (d:Domain) (p:Problem):Prop where
 dsm:DomSm d
 psm:PrbSm p
 wa:∀ a∈d.actions,actW a≤1000000000
 wd:∀ a∈d.duratives,durW a≤1000000000
 wg:fW p.goal≤1000000000
theorem Ybb {s:Bs} (h:Y5 s):s.size≤1000:=Nat.le_trans h.2.2.1 Zh
variable {p:Problem}
theorem nms_of (h1:Yck d) (h2:YcA p):NmS d (Yab d p) where
 p:=fun x hx=>Ybb (h1.2.2.2.1 x hx).1
 f:=fun x hx=>Ybb (h1.2.2.2.2.1 x hx).1
 o:=fun x hx=>by
  rcases List.mem_append.1 hx with hx | hx
  ·have:=(h1.2.2.1 x hx).1;exact Ybb (by simpa using this)
  ·have:=(h2.2.2.1 x hx).1;exact Ybb (by simpa using this)
 a:=fun x hx=>Ybb (h1.2.2.2.2.2.1 x hx).1
 u:=fun x hx=>Ybb (h1.2.2.2.2.2.2 x hx).1
theorem nums_of (h:XVal (domX d)):∀ f∈d.functions,Ya3 f.lo∧Ya3 f.hi:=fun f hf=>by
 have h1:YF (Yi XM::d.functions.map funX)∈(domX d).kids:=by
  have hne:d.functions.map funX≠ []:=by intro h0;rw [List.map_eq_nil_iff] at h0;rw [h0] at hf;cases hf
  show _∈([Yi YB,YF [Yi Y7,Yi d.name]]++grp Yaz (WJ d.types)++grp XN (WJ d.constants)++grp XE (d.predicates.map Ygl)++grp XM (d.functions.map funX)++d.actions.map actX++d.duratives.map durX)
  simp only [List.mem_append]
  refine .inl (.inl (.inr ?_))
  unfold grp
  rw [if_neg hne];simp
 have h2:=Yja h h1
 have h3:=Yen (k:=funX f) h2 (by simp;exact .inr ⟨f,hf,rfl⟩)
 exact ⟨num_ok (Yen h3 (by simp)),num_ok (Yen h3 (by simp))⟩
theorem lens_of (h:¬Ydm d p (Yab d p)):LenS d (Yab d p)∧d.types.length≤64∧∀ f∈d.functions,f.params.length≤6:=by
 unfold Ydm at h
 refine ⟨⟨?_,?_,?_,?_,?_⟩,?_,fun f hf=>?_⟩
 ·exact Classical.byContradiction fun h0=>h (.inr (.inr (.inl Zi)))
 ·exact Classical.byContradiction fun h0=>h (.inr (.inr (.inr (.inl Zi))))
 ·exact Classical.byContradiction fun h0=>h (.inl Zi)
 ·exact Classical.byContradiction fun h0=>h (.inr (.inr (.inr (.inr (.inl Zi)))))
 ·exact Classical.byContradiction fun h0=>h (.inr (.inr (.inr (.inr (.inr (.inl Zi))))))
 ·exact Classical.byContradiction fun h0=>h (.inr (.inl Zi))
 ·exact Classical.byContradiction fun h0=>h (.inr (.inr (.inr (.inr (.inr (.inr (.inr (.inr (.inl ⟨f,hf,by omega⟩)))))))))
variable {fz:FZ} {v1 v2 v3 v4 v5 v6:Value}
theorem forest_f (hM:MaxF fz) (hD:DomainR fz d v1 v2 v3 v4 v5 v6) (hl:d.types.length≤64) (hok:∀ p∈d.types,Y5 p.name∧YcE p.typ):
 GFn prog 30 [.agg #[.string d.name,v1,v2,v3,v4,v5,v6]] fz [] (fun v fz' H'=>H'=[]∧∃ vf,v=.tuple #[vf,errV (newM d.types)]∧(newM d.types=0→ForR fz' vf d.types)):=by
 obtain ⟨A1,n1,b1,rfl,i1⟩:=hD.types
 obtain ⟨A2,n2,b2,rfl,i2⟩:=hD.constants
 obtain ⟨A3,n3,b3,rfl,i3⟩:=hD.predicates
 obtain ⟨A4,n4,b4,rfl,i4⟩:=hD.functions
 obtain ⟨A5,n5,b5,rfl,i5⟩:=hD.actions
 obtain ⟨A6,n6,b6,rfl,i6⟩:=hD.duratives
 refine zF Tryz.func30 Tryz.ntmps30 (fun w0=>?_)
 refine Yk (Yr (Ya Zz (Xc _ Zz Zz (fun g2=>?_))))
 refine zV ?_;intros
 refine Ya Zz (Ym [] _ Zz Zz Zz (tnew_q hM i1 hl hok) (fun v6 fz6 H6 hle6 hR6=>?_))
 obtain ⟨rfl,vf,z,rfl,hv⟩:=hR6
 refine zV ?_;intros
 exact ret2 rfl rfl rfl Zb ⟨rfl,vf,rfl,hv⟩
variable {u1 u2 u3 u4 u5 u6 u7 vp:Value}
theorem ckR_mk {gc:Nat} {vf vg vo:Value} {Aa:Option Addr} {na ca:Nat} (hc:fz gc=some (ckO d p v1 v2 v3 v4 v5 v6 u1 u2 u3 u4 u5 u6 u7 vf vp vg vo (.slice Aa na ca))) (hD:DomainR fz d v1 v2 v3 v4 v5 v6) (hP:ProblemR fz p u1 u2 u3 u4 u5 u6 u7) (hall:Sl paramL fz Aa na ca all):
 CkR fz (.pointer (some ⟨gc,0,none⟩)) d p all vf vp vg vo:=⟨gc,v1,v2,v3,v4,v5,v6,u1,u2,u3,u4,u5,u6,u7,Aa,na,ca,rfl,hc,hD,hP,hall⟩
set_option maxHeartbeats 16000000 in
theorem check_q (hM:MaxF fz) (hD:DomainR fz d v1 v2 v3 v4 v5 v6) (hP:ProblemR fz p u1 u2 u3 u4 u5 u6 u7) (hS:ChkS d p):
 QFn prog 12 [.agg #[.string d.name,v1,v2,v3,v4,v5,v6],.agg #[.string p.name,.string p.domain,u1,u2,u3,.string p.goal.op,.string p.goal.name,u4,u5,u6,u7]] fz (resV (Ya1 d p)):=by
 obtain ⟨A1,n1,b1,rfl,i1⟩:=hD.types
 obtain ⟨A2,n2,b2,rfl,i2⟩:=hD.constants
 obtain ⟨A3,n3,b3,rfl,i3⟩:=hD.predicates
 obtain ⟨A4,n4,b4,rfl,i4⟩:=hD.functions
 obtain ⟨A5,n5,b5,rfl,i5⟩:=hD.actions
 obtain ⟨A6,n6,b6,rfl,i6⟩:=hD.duratives
 obtain ⟨B1,m1,d1,rfl,j1⟩:=hP.objects
 obtain ⟨B2,m2,d2,rfl,j2⟩:=hP.init
 obtain ⟨B3,m3,d3,rfl,j3⟩:=hP.values
 obtain ⟨B4,m4,d4,rfl,_⟩:=hP.goal.args
 obtain ⟨B5,m5,d5,rfl,_⟩:=hP.goal.params
 obtain ⟨B6,m6,d6,rfl,_⟩:=hP.goal.exprs
 obtain ⟨B7,m7,d7,rfl,_⟩:=hP.goal.kids
 refine GFn.quiet ?_
 refine zF Tryz.func12 Tryz.ntmps12 (fun w0=>?_)
 refine Yk (Yr (Ya Zz (Xc _ Zz Zz (fun g2=>?_))))
 refine Ya Zz (Xc _ Zz Zz (fun g3=>?_))
 refine zWO ?_;intros
 refine zV ?_;intros
 refine Ya Zz (Ym [] _ Zz Zz Zz (YgP hD hS.dsm) (fun v6' fz6 H6 hle6 hR6=>?_))
 obtain ⟨rfl,u,y,rfl,⟨cs6,rfl,hr6⟩,_⟩:=hR6
 obtain ⟨vk6,rfl,hx6⟩:=Yh hr6
 obtain ⟨Ak6,nk6,ck6,rfl,_⟩:=hx6.kids
 by_cases hdo:Yck d∧XVal (domX d)
 ·rw [if_pos hdo,show errV 0=.nilIface from rfl]
  refine zV ?_;intros
  refine Ya Zz (Ym [] _ Zz Zz Zz (YjD (hP.mono hle6) hS.psm) (fun v7' fz7 H7 hle7 hR7=>?_))
  obtain ⟨rfl,u',y',rfl,⟨cs7,rfl,hr7⟩,_⟩:=hR7
  obtain ⟨vk7,rfl,hx7⟩:=Yh hr7
  obtain ⟨Ak7,nk7,ck7,rfl,_⟩:=hx7.kids
  by_cases hpo:FVal p.goal∧YcA p∧XVal (prbX p)
  ·rw [if_pos hpo,show errV 0=.nilIface from rfl]
   have hle67:=hle6.trans hle7
   have hD7:=hD.mono hle67
   have hP7:=hP.mono hle67
   refine zWN ?_;intros
   refine Wp.drawK (Hq:=[_,_,_,_]) T.mixed Zj Zj Zb ?_
   refine zW ?_;intros
   refine Yf ?_
   refine Yf ?_
   refine Yf ?_
   refine Yf ?_
   refine YM ⟨by kernel_rfl,?_⟩
   refine Yt (Ym [] [_,_,_,_] Zz Zz Zz (YlF hD7 hP7 hS.dsm.constants hS.psm.objects) (fun v8' fz8 H8 hle8 hR8=>⟨(⟨hle8,Zx⟩),?_⟩))
   obtain ⟨Aa,ca,rfl,_,_⟩:=hR8.form
   refine Ch.qk (⟨hle8,Zx⟩) (Ydx T Zz Zz Zz Zz Zz ?_)
   refine Yt (Xc _ Zz Zz (fun gc=>⟨(⟨hle8,Zx⟩),?_⟩))
   refine Ch.qk (⟨hle8,Zx⟩) (YJ Zz ?_)
   refine Ch.done ?_
   refine Yc0 ?_
   refine Wp.freezeAll (H1:=(gc,_):: [_,_,_,_]) (H2:=H8) (List.Perm.cons _ Zq) (fun fz9 hle9 hf9=>?_)
   obtain ⟨Aa',ca',ea,hall⟩:=hR8.sl hle9 hf9 (by have:=hS.dsm.constants;have:=hS.psm.objects;omega)
   injection ea with ea1 ea2 ea3
   subst ea1
   subst ea3
   have hle89:=hle8.trans hle9
   have hD9:=hD7.mono hle89
   have hP9:=hP7.mono hle89
   have hS9:∀ {vf:Value} {fz':FZ},Le fz9 fz'→fz' gc=some (ckO d p (.slice A1 n1 b1) (.slice A2 n2 b2) (.slice A3 n3 b3) (.slice A4 n4 b4) (.slice A5 n5 b5) (.slice A6 n6 b6) (.slice B1 m1 d1) (.slice B2 m2 d2) (.slice B3 m3 d3) (.slice B4 m4 d4) (.slice B5 m5 d5) (.slice B6 m6 d6) (.slice B7 m7 d7) vf (.map none) (.map none) (.map none) (.slice Aa (d.constants.length+p.objects.length) ca))→CkR fz' (.pointer (some ⟨gc,0,none⟩)) d p (Yab d p) vf (.map none) (.map none) (.map none):=fun hl hg=>ckR_mk hg (hD9.mono hl) (hP9.mono hl) (hall.mono hl)
   refine zV ?_;intros
   refine zG ?_;refine q_callBU (b:=decide (Ydm d p (Yab d p))) Zz Zz (fun fz' hl hf=>large_q (hS9 (vf:=.pointer none) hl (hf (gc,_) (by simp)))) (fun f1=>?_) (fun f1=>?_)
   ·have hlg:=Zt f1
    refine zV ?_;intros
    exact ret2 rfl rfl rfl Zb (by rw [Ya1,if_neg (by simpa using hdo),if_neg (by simpa using hpo),if_pos hlg];rfl)
   ·have hlg:=Zf f1
    obtain ⟨hL,hT64,hp6⟩:=lens_of hlg
    have hns:=nms_of hdo.1 hpo.2.1
    have hM9:=hM.mono (hle67.trans hle89)
    have htok:∀ q∈d.types,Y5 q.name∧YcE q.typ:=fun q hq=>by have:=hdo.1.2.1 q hq;exact ⟨by simpa using this.1,this.2⟩
    refine zV ?_;intros
    refine Ya Zz (Ym [] _ Zz Zz Zz (forest_f hM9 hD9 hT64 htok) (fun v10' fz10 H10 hle10 hR10=>?_))
    obtain ⟨rfl,vf,rfl,hvf⟩:=hR10
    by_cases hn0:newM d.types=0
    ·obtain ⟨gf,gm,evf,hf1,hf2⟩:=hvf hn0
     subst evf
     have hF:ForR fz10 (.pointer (some ⟨gf,0,none⟩)) d.types:=⟨gf,gm,rfl,hf1,hf2⟩
     have hle910:=hle10
     rw [hn0,show errV 0=.nilIface from rfl]
     have hW:WFT d.types:=newM_wft hn0 (fun q hq=>(Ycb i1 q hq).2) hT64
     have hck:Ya1 d p=Ye0 (XW d (Yab d p) p) 8 0:=by rw [Ya1,if_neg (by simpa using hdo),if_neg (by simpa using hpo),if_neg hlg,if_neg (by simpa using hn0)]
     refine zV ?_;intros
     refine Ya Zz (Yc T (cs:=[.int .i64 0,.int .i64 1,.int .i64 2,.int .i64 3,.int .i64 4,.int .i64 5,.int .i64 6,.int .i64 7]) Zz Zz Zz Zz Zz Zz Zz Zz (fun gs=>?_))
     refine zV ?_;intros
     refine Yl (fun q σ fz' H'=>∃ k:Nat,k≤8∧q=8 - k∧σ=[(57,.int .i64 k),(56,.int .i64 8),(55,.slice (some ⟨gs,0,none⟩) 8 8),(10,.pointer (some ⟨gc,0,none⟩))]∧((k≤5∧fz10=fz'∧H'=[(gs,.cells #[.int .i64 0,.int .i64 1,.int .i64 2,.int .i64 3,.int .i64 4,.int .i64 5,.int .i64 6,.int .i64 7] 3 (0,0)),(gc,ckO d p (.slice A1 n1 b1) (.slice A2 n2 b2) (.slice A3 n3 b3) (.slice A4 n4 b4) (.slice A5 n5 b5) (.slice A6 n6 b6) (.slice B1 m1 d1) (.slice B2 m2 d2) (.slice B3 m3 d3) (.slice B4 m4 d4) (.slice B5 m5 d5) (.slice B6 m6 d6) (.slice B7 m7 d7) (.pointer (some ⟨gf,0,none⟩)) (.map none) (.map none) (.map none) (.slice Aa (d.constants.length+p.objects.length) ca))])∨(6≤k∧Le fz10 fz'∧H'=[(gs,.cells #[.int .i64 0,.int .i64 1,.int .i64 2,.int .i64 3,.int .i64 4,.int .i64 5,.int .i64 6,.int .i64 7] 3 (0,0))]∧CkG fz' (.pointer (some ⟨gc,0,none⟩)) d p (Yab d p)))∧(∀ i,i<k→(XW d (Yab d p) p i).2=0)∧Ya1 d p=Ye0 (XW d (Yab d p) p) (8 - k) k) ⟨0,by omega,rfl,rfl,.inl ⟨by omega,rfl,rfl⟩,fun i hi=>absurd hi Zi,hck⟩ Zw Zb ?_
     rintro q σ fz1 H' ⟨k,hk,rfl,rfl,hph,hst,hcm⟩
     rcases hph with ⟨hk5,rfl,rfl⟩ | ⟨hk6,hl1,rfl,hG⟩
     ·refine zV ?_;intros
      refine zC (fun c1=>?_) (fun c1=>?_)
      ·rw [show 8 - k=(8 - (k+1))+1 from by omega,Ye0] at hcm
       refine zV ?_;intros
       obtain rfl | rfl | rfl | rfl | rfl | rfl:k=0∨k=1∨k=2∨k=3∨k=4∨k=5:=by omega
       ·refine zG ?_;refine Y9 T Zz Zz Zz Zz Zz Zz Zi Zi ?_
        refine zG ?_;refine Y0 T 0 Zz Zz Zz Zz Zz ?_
        refine zV ?_;intros
        refine zG ?_;refine YbL (v:=resV (XW d (Yab d p) p 0)) Zz Zz (fun fz' hl hf=>stepA0_q (hS9 (vf:=.pointer (some ⟨gf,0,none⟩)) (hle10.trans hl) (hf (gc,_) (by simp [ckO]))) hns hL) ?_
        generalize hgs:XW d (Yab d p) p 0=st at hcm
        obtain ⟨pl,ec⟩:=st
        rw [show resV (pl,ec)=.tuple #[.string pl,errV ec] from rfl]
        by_cases hz:ec=0
        ·subst hz
         rw [show errV 0=.nilIface from rfl]
         refine zV ?_;intros
         exact Yz ⟨0+1,by omega,rfl,rfl,.inl ⟨by omega,rfl,rfl⟩,fun i hi=>by
          by_cases hi2:i=0
          ·subst hi2;rw [hgs]
          ·exact hst i Zi,by rw [hcm,if_pos rfl]⟩ Zi Zw Zb
        ·rw [Yj hz]
         refine zV ?_;intros
         exact ret2 rfl rfl rfl Zb (by rw [hcm,if_neg hz,resV,Yj hz];rfl)
       ·refine zG ?_;refine Y9 T Zz Zz Zz Zz Zz Zz Zi Zi ?_
        refine zG ?_;refine Y0 T 0 Zz Zz Zz Zz Zz ?_
        refine zV ?_;intros
        refine zG ?_;refine YbL (v:=resV (XW d (Yab d p) p 1)) Zz Zz (fun fz' hl hf=>stepA1_q (hS9 (vf:=.pointer (some ⟨gf,0,none⟩)) (hle10.trans hl) (hf (gc,_) (by simp [ckO]))) hns) ?_
        generalize hgs:XW d (Yab d p) p 1=st at hcm
        obtain ⟨pl,ec⟩:=st
        rw [show resV (pl,ec)=.tuple #[.string pl,errV ec] from rfl]
        by_cases hz:ec=0
        ·subst hz
         rw [show errV 0=.nilIface from rfl]
         refine zV ?_;intros
         exact Yz ⟨1+1,by omega,rfl,rfl,.inl ⟨by omega,rfl,rfl⟩,fun i hi=>by
          by_cases hi2:i=1
          ·subst hi2;rw [hgs]
          ·exact hst i Zi,by rw [hcm,if_pos rfl]⟩ Zi Zw Zb
        ·rw [Yj hz]
         refine zV ?_;intros
         exact ret2 rfl rfl rfl Zb (by rw [hcm,if_neg hz,resV,Yj hz];rfl)
       ·refine zG ?_;refine Y9 T Zz Zz Zz Zz Zz Zz Zi Zi ?_
        refine zG ?_;refine Y0 T 0 Zz Zz Zz Zz Zz ?_
        refine zV ?_;intros
        refine zG ?_;refine YbL (v:=resV (XW d (Yab d p) p 2)) Zz Zz (fun fz' hl hf=>stepA2_q (hS9 (vf:=.pointer (some ⟨gf,0,none⟩)) (hle10.trans hl) (hf (gc,_) (by simp [ckO]))) (hF.mono hl) hns) ?_
        generalize hgs:XW d (Yab d p) p 2=st at hcm
        obtain ⟨pl,ec⟩:=st
        rw [show resV (pl,ec)=.tuple #[.string pl,errV ec] from rfl]
        by_cases hz:ec=0
        ·subst hz
         rw [show errV 0=.nilIface from rfl]
         refine zV ?_;intros
         exact Yz ⟨2+1,by omega,rfl,rfl,.inl ⟨by omega,rfl,rfl⟩,fun i hi=>by
          by_cases hi2:i=2
          ·subst hi2;rw [hgs]
          ·exact hst i Zi,by rw [hcm,if_pos rfl]⟩ Zi Zw Zb
        ·rw [Yj hz]
         refine zV ?_;intros
         exact ret2 rfl rfl rfl Zb (by rw [hcm,if_neg hz,resV,Yj hz];rfl)
       ·refine zG ?_;refine Y9 T Zz Zz Zz Zz Zz Zz Zi Zi ?_
        refine zG ?_;refine Y0 T 0 Zz Zz Zz Zz Zz ?_
        refine zV ?_;intros
        refine zG ?_;refine YbL (v:=resV (XW d (Yab d p) p 3)) Zz Zz (fun fz' hl hf=>stepA3_q (hS9 (vf:=.pointer (some ⟨gf,0,none⟩)) (hle10.trans hl) (hf (gc,_) (by simp [ckO]))) hns) ?_
        generalize hgs:XW d (Yab d p) p 3=st at hcm
        obtain ⟨pl,ec⟩:=st
        rw [show resV (pl,ec)=.tuple #[.string pl,errV ec] from rfl]
        by_cases hz:ec=0
        ·subst hz
         rw [show errV 0=.nilIface from rfl]
         refine zV ?_;intros
         exact Yz ⟨3+1,by omega,rfl,rfl,.inl ⟨by omega,rfl,rfl⟩,fun i hi=>by
          by_cases hi2:i=3
          ·subst hi2;rw [hgs]
          ·exact hst i Zi,by rw [hcm,if_pos rfl]⟩ Zi Zw Zb
        ·rw [Yj hz]
         refine zV ?_;intros
         exact ret2 rfl rfl rfl Zb (by rw [hcm,if_neg hz,resV,Yj hz];rfl)
       ·refine zG ?_;refine Y9 T Zz Zz Zz Zz Zz Zz Zi Zi ?_
        refine zG ?_;refine Y0 T 0 Zz Zz Zz Zz Zz ?_
        refine zV ?_;intros
        refine zG ?_;refine YbL (v:=resV (XW d (Yab d p) p 4)) Zz Zz (fun fz' hl hf=>stepA4_q (hS9 (vf:=.pointer (some ⟨gf,0,none⟩)) (hle10.trans hl) (hf (gc,_) (by simp [ckO]))) hns (nums_of hdo.2)) ?_
        generalize hgs:XW d (Yab d p) p 4=st at hcm
        obtain ⟨pl,ec⟩:=st
        rw [show resV (pl,ec)=.tuple #[.string pl,errV ec] from rfl]
        by_cases hz:ec=0
        ·subst hz
         rw [show errV 0=.nilIface from rfl]
         refine zV ?_;intros
         exact Yz ⟨4+1,by omega,rfl,rfl,.inl ⟨by omega,rfl,rfl⟩,fun i hi=>by
          by_cases hi2:i=4
          ·subst hi2;rw [hgs]
          ·exact hst i Zi,by rw [hcm,if_pos rfl]⟩ Zi Zw Zb
        ·rw [Yj hz]
         refine zV ?_;intros
         exact ret2 rfl rfl rfl Zb (by rw [hcm,if_neg hz,resV,Yj hz];rfl)
       ·have hno:Yba d (Yab d p)=none:=by
         have:=hst 0 Zi
         unfold XW at this
         cases hn9:Yba d (Yab d p) with
         | none=>rfl
         | some s=>rw [hn9] at this;cases this
        obtain ⟨o1,o2,o3,_,_⟩:=Ykk hno
        refine zG ?_;refine Y9 T Zz Zz Zz Zz Zz Zz Zi Zi ?_
        refine zG ?_;refine Y0 T 0 Zz Zz Zz Zz Zz ?_
        refine zV ?_;intros
        first | refine Wp.perm (List.Perm.swap _ _ _) ?_ | refine Seq.perm (List.Perm.swap _ _ _) ?_
        refine Ya Zz (Ym [_] [_] Zz Zz Zz (stepA5_f (hD9.mono hle10) (hP9.mono hle10) (hall.mono hle10) hF hW o1 o2 o3 hns hS.wa hS.wd) (fun v11' fz11 H11 hle11 hR11=>?_))
        obtain ⟨rfl,rfl,hG⟩:=hR11
        generalize hgs:XW d (Yab d p) p 5=st at hcm
        obtain ⟨pl,ec⟩:=st
        rw [show resV (pl,ec)=.tuple #[.string pl,errV ec] from rfl]
        by_cases hz:ec=0
        ·subst hz
         rw [show errV 0=.nilIface from rfl]
         refine zV ?_;intros
         exact Yz ⟨5+1,by omega,rfl,rfl,.inr ⟨by omega,hle11,rfl,hG⟩,fun i hi=>by
          by_cases hi2:i=5
          ·subst hi2;rw [hgs]
          ·exact hst i Zi,by rw [hcm,if_pos rfl]⟩ Zi Zw Zb
        ·rw [Yj hz]
         refine zV ?_;intros
         exact ret2 rfl rfl rfl Zb (by rw [hcm,if_neg hz,resV,Yj hz];rfl)
      ·omega
     ·refine zV ?_;intros
      refine zC (fun c1=>?_) (fun c1=>?_)
      ·rw [show 8 - k=(8 - (k+1))+1 from by omega,Ye0] at hcm
       refine zV ?_;intros
       obtain rfl | rfl:k=6∨k=7:=by omega
       ·refine zG ?_;refine Y9 T Zz Zz Zz Zz Zz Zz Zi Zi ?_
        refine zG ?_;refine Y0 T 0 Zz Zz Zz Zz Zz ?_
        refine zV ?_;intros
        ((refine zG ?_);refine Yw Zz Zz (stepA6_q hG hns (fun f hf=>by have:=hp6 f hf;omega) (fun x hx=>by have:=(hpo.2.1.2.2.2.1 x hx).1;exact ⟨Ybb this.1,fun a ha=>Ybb (this.2 a ha)⟩) (by have:=hL.o;omega)) ?_)
        generalize hgs:XW d (Yab d p) p 6=st at hcm
        obtain ⟨pl,ec⟩:=st
        rw [show resV (pl,ec)=.tuple #[.string pl,errV ec] from rfl]
        by_cases hz:ec=0
        ·subst hz
         rw [show errV 0=.nilIface from rfl]
         refine zV ?_;intros
         exact Yz ⟨6+1,by omega,rfl,rfl,.inr ⟨by omega,hl1,rfl,hG⟩,fun i hi=>by
          by_cases hi2:i=6
          ·subst hi2;rw [hgs]
          ·exact hst i Zi,by rw [hcm,if_pos rfl]⟩ Zi Zw Zb
        ·rw [Yj hz]
         refine zV ?_;intros
         exact ret2 rfl rfl rfl Zb (by rw [hcm,if_neg hz,resV,Yj hz];rfl)
       ·refine zG ?_;refine Y9 T Zz Zz Zz Zz Zz Zz Zi Zi ?_
        refine zG ?_;refine Y0 T 0 Zz Zz Zz Zz Zz ?_
        refine zV ?_;intros
        refine zc (stepA7_q hG hS.wg) ?_
        generalize hgs:XW d (Yab d p) p 7=st at hcm
        obtain ⟨pl,ec⟩:=st
        rw [show resV (pl,ec)=.tuple #[.string pl,errV ec] from rfl]
        by_cases hz:ec=0
        ·subst hz
         rw [show errV 0=.nilIface from rfl]
         refine zV ?_;intros
         exact Yz ⟨7+1,by omega,rfl,rfl,.inr ⟨by omega,hl1,rfl,hG⟩,fun i hi=>by
          by_cases hi2:i=7
          ·subst hi2;rw [hgs]
          ·exact hst i Zi,by rw [hcm,if_pos rfl]⟩ Zi Zw Zb
        ·rw [Yj hz]
         refine zV ?_;intros
         exact ret2 rfl rfl rfl Zb (by rw [hcm,if_neg hz,resV,Yj hz];rfl)
      ·have hk8:k=8:=by omega
       subst hk8
       refine zV ?_;intros
       exact ret2 rfl rfl rfl Zb (by rw [hcm];rfl)
    ·rw [Yj hn0]
     refine zV ?_;intros
     exact ret2 rfl rfl rfl Zb (by rw [Ya1,if_neg (by simpa using hdo),if_neg (by simpa using hpo),if_neg hlg,if_pos hn0,resV,Yj hn0];rfl)
  ·rw [if_neg hpo,show errV 2=.iface 65 (.int .i64 2) from rfl]
   refine zV ?_;intros
   exact ret2 rfl rfl rfl Zb (by rw [Ya1,if_neg (by simpa using hdo),if_pos hpo];rfl)
 ·rw [if_neg hdo,show errV 2=.iface 65 (.int .i64 2) from rfl]
  refine zV ?_;intros
  exact ret2 rfl rfl rfl Zb (by rw [Ya1,if_pos hdo];rfl)
end Go.Proofs.YtfjopfinkdhmaaaGreatDoor
namespace Go.Proofs.YtfjopfinkdhmaaaGreatDoor
open Go.Lx Go.RowKit
attribute [local instance 10] Classical.propDecidable
theorem Yeu {α:Type} {w:α→Nat} {f:α→Sexpr} {m:Nat}:∀ {l:List α},(∀ c∈l,w c≤m*xcount (f c))→(l.map w).sum≤m*xcountL (l.map f)
 | [],_=>Z0 _
 | a::r,h=>by
  have h1:=h a (by simp)
  have h2:=Yeu (w:=w) (f:=f) (m:=m) (l:=r) (fun c hc=>h c (List.mem_cons_of_mem _ hc))
  simp only [List.map_cons,List.sum_cons,xcountL,Nat.mul_add];omega
theorem ew_le:∀ (s:Nat) {e:Lx.Expr},SizeOf.sizeOf e≤s→EOk e→eW e≤xcount (X3 e)
 | 0,e,h,_=>by cases e;simp at h
 | s+1,e,h,h1=>by
  have h3:=Yaa.1 h1
  rw [YjX,eW_eq]
  split
  ·rename_i h0
   obtain ⟨_,ha,hk,_⟩:=(Yfa h0).1 h3.1
   rw [ha,hk,cnt_num];exact Zs _
  ·split
   ·rename_i h0
    rw [((Yfb h0).1 h3.1).2.1,Yah];simp<;>omega
   ·rename_i k1 k2
    have h5:=(Yfc k1 k2).1 h3.1
    have:=Yeu (w:=eW) (f:=X3) (m:=1) (l:=e.kids) (fun c hc=>by rw [Nat.one_mul];exact ew_le s (by have:=Lx.Expr.kids_lt hc;omega) (h3.2 c hc))
    rw [h5.2.2.2.1,WB,xcountL,YaJ];simp<;>omega
variable {f:Formula}
theorem YjU {k:Nat × Bool × Nat} (hk:YcM f=some k) (h:¬(f.op=XZ∨f.op=WX)):k.2.1=false:=by
 rw [YcM,if_neg h] at hk
 split at hk
 ·cases hk;rfl
 split at hk
 ·cases hk;rfl
 split at hk
 ·cases hk;rfl
 split at hk
 ·cases hk;rfl
 split at hk
 ·cases hk;rfl
 ·cases hk
theorem fk_zero {k:Nat × Bool × Nat} (hk:YcM f=some k) (k1:¬(f.op=kAtom∨f.op=kSame)) (k3:¬CmpOp f.op):k.1=0:=by
 rw [YcM,if_neg k1,if_neg k3] at hk
 split at hk
 ·cases hk;rfl
 split at hk
 ·cases hk;rfl
 split at hk
 ·cases hk;rfl
 split at hk
 ·cases hk;rfl
 ·cases hk
theorem fw_le:∀ (s:Nat) {f:Formula},SizeOf.sizeOf f≤s→FOk f→fW f≤xcount (Xh f)
 | 0,f,h,_=>by cases f;simp at h
 | s+1,f,h,h1=>by
  have h3:=Wv.1 h1
  obtain ⟨_,⟨k,hk,hr⟩,_⟩:=h3.1
  rw [YgD,fW_eq]
  by_cases k1:f.op=kAtom∨f.op=kSame
  ·have hp:=hr.2.2.2 (YjU hk (by rintro (h0 | h0)<;>rcases k1 with h5 | h5<;>exact absurd (h5.symm.trans h0) Zh))
   rw [YcM,if_pos k1] at hk
   cases hk
   rw [List.eq_nil_of_length_eq_zero hr.2.1,List.eq_nil_of_length_eq_zero hr.2.2.1,hp]
   split
   ·rw [Yah];simp<;>omega
   ·rename_i h5
    rw [if_pos (k1.resolve_left h5),Yah];simp<;>omega
  ·have k2:=not_or.1 k1
   have ha:=(hr.1 k2.1 k2.2).2
   rw [if_neg k2.1,if_neg k2.2,ha]
   by_cases k3:CmpOp f.op
   ·rw [if_pos k3]
    rw [YcM,if_neg k1,if_pos k3] at hk
    cases hk
    have:=Yeu (w:=eW) (f:=X3) (m:=1) (l:=f.exprs) (fun c hc=>by rw [Nat.one_mul];exact ew_le _ (Zs _) (h3.2.1 c hc))
    rw [List.eq_nil_of_length_eq_zero hr.2.2.1,hr.2.2.2 rfl,WB,xcountL,YaJ];simp<;>omega
   ·rw [if_neg k3]
    have he:f.exprs=[]:=List.eq_nil_of_length_eq_zero (by rw [hr.2.1,fk_zero hk k1 k3])
    have hs:=Yeu (w:=fW) (f:=Xh) (m:=1) (l:=f.kids) (fun c hc=>by rw [Nat.one_mul];exact fw_le s (by have:=Formula.kids_lt hc;omega) (h3.2.2 c hc))
    have hp:f.params.length≤xcountL (if f.op=XZ∨f.op=WX then [YF ((f.params.flatMap W2).map Yi)] else []):=by
     split
     ·have:=YgS f.params
      rw [WJ] at this
      rw [xcountL,WB,this];omega
     ·rename_i h5
      rw [hr.2.2.2 (YjU hk h5)];simp
    rw [he,WB,Wd,Wd]
    simp only [List.length_nil,List.map_nil,List.sum_nil]
    omega
theorem eval_w {e:Lx.Expr} (h:EVal e):eW e≤xcount (X3 e):=ew_le _ (Zs _) h.1
theorem Yl4 (h:FVal f):fW f≤xcount (Xh f):=fw_le _ (Zs _) h.1
theorem Yj5 (x:Sexpr):1≤xcount x:=by rw [Xj];omega
theorem change_w {c:Change} (h:ChOk c):WZ c≤3*xcount (chX c):=by
 obtain ⟨_,hk,hw,_⟩:=h
 have h1:c.args.length+eW c.value+1≤xcount (chX1 c):=by
  unfold chX1
  rcases hk with ⟨h2,h3⟩ | ⟨h2,h3⟩
  ·have hn:¬Num5 c.kind:=by unfold Num5;omega
   have he:eW c.value=1:=by rw [h3];rfl
   rw [he]
   split
   ·simp only [WB,xcountL,YaJ,Yah];omega
   ·first
    | (rw [if_neg hn,Yah];omega)
    | (rw [Yah];omega)
  ·have hn:¬c.kind=2:=by unfold Num5 at h2;omega
   have:=eval_w h3
   rw [if_neg hn,if_pos h2]
   simp only [WB,xcountL,YaJ,Yah];omega
 have h2:c.args.length+eW c.value+fW c.when_≤xcount (chX2 c):=by
  unfold chX2
  by_cases h0:c.when_=XJ
  ·have he:fW c.when_=1:=by rw [h0];rfl
   rw [if_pos h0];omega
  ·have:=Yl4 (hw.resolve_left h0)
   rw [if_neg h0]
   simp only [WB,xcountL,YaJ];omega
 have h4:=Yj5 (chX2 c)
 unfold chX WZ
 split
 ·rename_i h0
  rw [h0];simp<;>omega
 ·have:=YgS c.params
  rw [WJ] at this
  simp only [WB,xcountL,YaJ,this];omega
theorem eff_w {l:List Change} (h:Ya8 l):(l.map WZ).sum≤3*xcount (effX l):=by
 have:=Yeu (w:=WZ) (f:=chX) (m:=3) (fun c hc=>change_w (h c hc))
 unfold effX
 split
 ·rename_i h0;rw [h0];simp
 ·rw [WB,xcountL];omega
variable {n:Nat}
theorem YlE {p:Prop} {kw:Bs} {x:Sexpr} {m:Nat} (h:¬p→m≤n*xcount x) (h2:p→m≤1) (hn:1≤n):m≤1+n*xcountL (opt p kw x):=by
 unfold opt
 split
 ·rename_i h0;have:=h2 h0;omega
 ·rename_i h0
  have:=h h0
  simp only [xcountL,YaJ,Nat.mul_add];omega
theorem YlB {l:List Param} {kw:Bs}:l.length≤1+3*xcountL (opt (l=[]) kw (YaT l)):=YlE (fun _=>by
 have:=YgS l
 rw [WJ] at this
 rw [YaT,WB,this];omega) (fun h=>by rw [h];simp) Zh
theorem YgC {kw:Bs} (h:FVal f):fW f≤1+3*xcountL (opt (f=XJ) kw (Xh f)):=YlE (fun _=>by have:=Yl4 h;omega) (fun h=>by rw [h];exact Zs _) Zh
theorem YiU {l:List Change} {kw:Bs} (h:Ya8 l):(l.map WZ).sum≤1+3*xcountL (opt (l=[]) kw (effX l)):=YlE (fun _=>eff_w h) (fun h=>by rw [h];simp) Zh
theorem act_w {a:Action} (h:YkA a):actW a≤10*xcount (actX a):=by
 have h1:=YlB (l:=a.params) (kw:=YD)
 have h2:=YgC (kw:=Xg) h.2.2.2.1
 have h3:=YiU (kw:=YbV) h.2.2.2.2
 unfold actX actW
 simp only [WB,Wd];omega
theorem dur_w {a:Durative} (h:Yku a):durW a≤10*xcount (durX a):=by
 have h1:=YlB (l:=a.params) (kw:=YD)
 have h2:=YgC (kw:=Yau) h.2.2.1
 have h3:=YgC (kw:=Ycy) h.2.2.2.1
 have h4:=YgC (kw:=kEnd) h.2.2.2.2.1
 have h5:=YiU (kw:=WA) h.2.2.2.2.2.1
 have h6:=YiU (kw:=Ydb) h.2.2.2.2.2.2
 unfold durX durW
 simp only [WB,Wd];omega
theorem Ylf:∀ {r:List Sexpr} {k:Nat} {s:List Bs} {d d':Domain},(∀ y∈r,XSm y∧xcount y≤4096)→DomT k d→secL s d r=.ok d'→∃ k',k'≤k+r.length∧DomT k' d'
 | [],k,s,d,d',_,hd,h=>by rw [secL] at h;injection h with h;subst h;exact ⟨k,Zs _,hd⟩
 | x::r,k,s,d,d',hs,hd,h=>by
  rw [secL] at h
  split at h
  ·cases h
  ·rename_i w t hh
   split at h
   ·cases h
   ·split at h
    ·cases h
    ·rename_i d2 hd2
     obtain ⟨y,hk,_⟩:=XL hh
     have h1:=Xj x
     have h2:=X4 (l:=x.kids)
     have h3:=(hs x (by simp)).2
     rw [hk,List.length_cons] at h2
     rw [hk] at h1
     obtain ⟨k',h4,h5⟩:=Ylf (fun y hy=>hs y (List.mem_cons_of_mem _ hy)) (hd.step (hs x (by simp)).1 (fun y hy=>X7 (hs x (by simp)).1 hh hy) Zi hd2) h
     exact ⟨k',by rw [List.length_cons];omega,h5⟩
theorem YfD {x:Sexpr} (hv:XVal x) {w:Bs} {r:List Sexpr} (hh:XF x=some (w,r)):(∀ y∈r,XSm y∧xcount y≤4096)∧r.length≤4095:=by
 obtain ⟨y,hk,_⟩:=XL hh
 have h1:=Xj x
 have h2:=X4 (l:=x.kids)
 have h3:=hv.2.2
 rw [hk,List.length_cons] at h2
 rw [hk] at h1
 refine ⟨fun z hz=>⟨X7 hv.sm hh hz,?_⟩,by omega⟩
 have:=XT (l:=y::r) (List.mem_cons_of_mem _ hz)
 omega
variable {d:Domain}
theorem Ymr {x:Sexpr} (h:Yb2 x=.ok d):DomSm d∧Yck d∧XVal (domX d):=by
 unfold Yb2 at h
 split at h
 ·rename_i hv
  split at h
  ·cases h
  ·rename_i d2 hd
   split at h
   ·rename_i hok
    injection h with h;subst h
    refine ⟨?_,hok⟩
    unfold dPar at hd
    split at hd
    ·cases hd
    ·rename_i w r hh
     obtain ⟨hs,hl⟩:=YfD hv hh
     split at hd
     ·split at hd
      ·cases hd
      ·rename_i y r'
       split at hd
       ·cases hd
       ·obtain ⟨k',h4,h5⟩:=Ylf (k:=0) (fun y hy=>hs y (List.mem_cons_of_mem _ hy)) ⟨by show 0≤_;omega,by show 0≤_;omega,by show 0≤_;omega,by simp,by show 0≤_;omega,by simp,by show 0≤_;omega,by simp,by show 0≤_;omega,by simp⟩ hd
        rw [List.length_cons] at hl
        exact h5.sm Zi
     ·cases hd
   ·cases h
 ·cases h
theorem Yjx:∀ {r:List Sexpr} {k:Nat} {s:List Bs} {d d':Problem},(∀ y∈r,XSm y∧xcount y≤4096)→PrbT k d→Ygj s d r=.ok d'→∃ k',k'≤k+r.length∧PrbT k' d'
 | [],k,s,d,d',_,hd,h=>by rw [Ygj] at h;injection h with h;subst h;exact ⟨k,Zs _,hd⟩
 | x::r,k,s,d,d',hs,hd,h=>by
  rw [Ygj] at h
  split at h
  ·cases h
  ·rename_i w t hh
   split at h
   ·split at h
    ·cases h
    ·rename_i d2 hd2
     obtain ⟨y,hk,_⟩:=XL hh
     have h1:=Xj x
     have h2:=X4 (l:=x.kids)
     have h3:=(hs x (by simp)).2
     rw [hk,List.length_cons] at h2
     rw [hk] at h1
     obtain ⟨k',h4,h5⟩:=Yjx (fun y hy=>hs y (List.mem_cons_of_mem _ hy)) (hd.step (fun y hy=>X7 (hs x (by simp)).1 hh hy) Zi hd2) h
     exact ⟨k',by rw [List.length_cons];omega,h5⟩
   ·cases h
variable {p:Problem}
theorem YlD {x:Sexpr} (h:YcB x=.ok p):PrbSm p∧FVal p.goal∧YcA p∧XVal (prbX p):=by
 unfold YcB at h
 split at h
 ·rename_i hv
  split at h
  ·cases h
  ·rename_i d2 hd
   split at h
   ·rename_i hok
    injection h with h;subst h
    refine ⟨?_,hok⟩
    unfold pPar at hd
    split at hd
    ·cases hd
    ·rename_i w r hh
     obtain ⟨hs,hl⟩:=YfD hv hh
     split at hd
     ·split at hd
      ·cases hd
      ·split at hd
       ·cases hd
       ·split at hd
        ·cases hd
        ·split at hd
         ·cases hd
         ·obtain ⟨k',h4,h5⟩:=Yjx (k:=0) (fun y hy=>hs y (List.mem_cons_of_mem _ (List.mem_cons_of_mem _ hy))) ⟨by show 0≤_;omega,by show 0≤_;omega,by simp,by show 0≤_;omega,by simp,Ycl⟩ hd
          simp only [List.length_cons] at hl
          exact h5.sm Zi
     ·cases hd
   ·cases h
 ·cases h
theorem chkS_of {x y:Sexpr} (h1:Yb2 x=.ok d) (h2:YcB y=.ok p):ChkS d p:=by
 obtain ⟨a1,a2,a3⟩:=Ymr h1
 obtain ⟨b1,b2,b3,b4⟩:=YlD h2
 have hc:=a3.2.2
 have hX:xcount (domX d)=1+xcountL ([Yi YB,YF [Yi Y7,Yi d.name]]++grp Yaz (WJ d.types)++grp XN (WJ d.constants)++grp XE (d.predicates.map Ygl)++grp XM (d.functions.map funX)++d.actions.map actX++d.duratives.map durX):=by rw [domX,WB]
 simp only [Wd] at hX
 refine ⟨a1,b1,fun a ha=>?_,fun a ha=>?_,?_⟩
 ·have h3:=act_w (a2.2.2.2.2.2.1 a ha)
  have h4:=XT (l:=d.actions.map actX) (List.mem_map.2 ⟨a,ha,rfl⟩)
  omega
 ·have h3:=dur_w (a2.2.2.2.2.2.2 a ha)
  have h4:=XT (l:=d.duratives.map durX) (List.mem_map.2 ⟨a,ha,rfl⟩)
  omega
 ·have h3:=Yl4 b2
  have:=b2.2.2.2
  omega
end Go.Proofs.YtfjopfinkdhmaaaGreatDoor
namespace Go.Proofs.YtfjopfinkdhmaaaGreatDoor
open Go.Lx Go.RowKit
attribute [local instance 10] Classical.propDecidable
open Go.Proofs.Tryz (prog)
def Yfr (a b:Bs):Except Int (Domain × Problem):=match prdM a with
 | .error c=>.error c
 | .ok x=>match Yb2 x with
  | .error c=>.error c
  | .ok d=>match prdM b with
   | .error c=>.error c
   | .ok y=>match YcB y with
    | .error c=>.error c
    | .ok p=>if (Ya1 d p).2=0 then .ok (d,p) else .error (Ya1 d p).2
def LoadR (fz:FZ) (m:Except Int (Domain × Problem)) (v:Value):Prop:=∃ d p cd cp pl,YcP.rep fz d cd∧W7.rep fz p cp∧match m with
 | .error c=>v=.tuple #[.agg cd.toArray,.agg cp.toArray,.string pl,errV c]∧c≠0∧d=YkD∧p=YkC
 | .ok (d',p')=>d'=d∧p'=p∧v=.tuple #[.agg cd.toArray,.agg cp.toArray,.string ⟨#[]⟩,.nilIface]
variable {fz:FZ}
theorem Ycd {m:Except Int (Domain × Problem)} {c:Int} {pl:Bs} (h:m=.error c) (hc:c≠0):LoadR fz m (.tuple #[.agg #[.string ⟨#[]⟩,.slice none 0 0,.slice none 0 0,.slice none 0 0,.slice none 0 0,.slice none 0 0,.slice none 0 0],.agg #[.string ⟨#[]⟩,.string ⟨#[]⟩,.slice none 0 0,.slice none 0 0,.slice none 0 0,.string ⟨#[]⟩,.string ⟨#[]⟩,.slice none 0 0,.slice none 0 0,.slice none 0 0,.slice none 0 0],.string pl,.iface 65 (.int .i64 c)]):=by
 rw [h]
 exact ⟨YkD,YkC,_,_,pl,WM,YcV,by rw [Yj hc],hc,rfl,rfl⟩
set_option maxHeartbeats 16000000 in
theorem YeO {a b:Bs} (hT:TabF fz) (hX:MaxF fz):
 GFn prog 6 [.string a,.string b] fz [] (fun r fz' H'=>H'=[]∧LoadR fz' (Yfr a b) r):=by
 have hM:Yfr a b=match prdM a with
 | .error c=>.error c
 | .ok x=>match Yb2 x with
  | .error c=>.error c
  | .ok d=>match prdM b with
   | .error c=>.error c
   | .ok y=>match YcB y with
    | .error c=>.error c
    | .ok p=>if (Ya1 d p).2=0 then .ok (d,p) else .error (Ya1 d p).2:=rfl
 refine zF Tryz.func6 Tryz.ntmps6 (fun w0=>?_)
 refine zW ?_;intros
 refine Ya Zz (Ym [] _ Zz Zz Zz (Ylt (t:=a) hT Zh) (fun r1 fz1 H1 hle1 hR1=>?_))
 obtain ⟨rfl,x,cs1,pl1,hr1,hR1⟩:=hR1
 rw [List.nil_append]
 obtain ⟨vk1,rfl,hX1⟩:=Yh hr1
 have hX1':=hX1
 obtain ⟨A1,n1,c1,rfl,_⟩:=hX1.kids
 cases e1:prdM a with
 | error c=>
  rw [e1] at hM hR1
  obtain ⟨rfl,hc⟩:=hR1
  rw [Yj hc]
  refine zW ?_;intros
  exact YQ T (vs:=[.agg #[.string ⟨#[]⟩,.slice none 0 0,.slice none 0 0,.slice none 0 0,.slice none 0 0,.slice none 0 0,.slice none 0 0],.agg #[.string ⟨#[]⟩,.string ⟨#[]⟩,.slice none 0 0,.slice none 0 0,.slice none 0 0,.string ⟨#[]⟩,.string ⟨#[]⟩,.slice none 0 0,.slice none 0 0,.slice none 0 0,.slice none 0 0],.string pl1,.iface 65 (.int .i64 c)]) Zz ⟨⟨_,_,2,_,_,_,rfl,rfl,rfl,rfl,rfl,rfl⟩,⟨_,_,1,_,_,_,rfl,rfl,rfl,rfl,rfl,rfl⟩,rfl,rfl,trivial⟩ (fun fz3 hle3 hf3=>⟨rfl,Ycd hM hc⟩)
 | ok x'=>
  rw [e1] at hM hR1
  obtain ⟨rfl,rfl⟩:=hR1
  simp only at hM
  refine zW ?_;intros
  refine Ya Zz (Ym [] _ Zz Zz Zz (dParse_f hX1') (fun r2 fz2 H2 hle2 hR2=>?_))
  obtain ⟨rfl,d,cs2,hr2,hR2⟩:=hR2
  rw [List.nil_append]
  obtain ⟨v1,v2,v3,v4,v5,v6,rfl,hD⟩:=Wc hr2
  have hD':=hD
  obtain ⟨T1,t1,z1,rfl,_⟩:=hD.types
  obtain ⟨T2,t2,z2,rfl,_⟩:=hD.constants
  obtain ⟨T3,t3,z3,rfl,_⟩:=hD.predicates
  obtain ⟨T4,t4,z4,rfl,_⟩:=hD.functions
  obtain ⟨T5,t5,z5,rfl,_⟩:=hD.actions
  obtain ⟨T6,t6,z6,rfl,_⟩:=hD.duratives
  cases e2:Yb2 x' with
  | error c=>
   rw [e2] at hM hR2
   obtain ⟨rfl,hc⟩:=hR2
   rw [Yj hc]
   refine zW ?_;intros
   exact YQ T (vs:=[.agg #[.string ⟨#[]⟩,.slice none 0 0,.slice none 0 0,.slice none 0 0,.slice none 0 0,.slice none 0 0,.slice none 0 0],.agg #[.string ⟨#[]⟩,.string ⟨#[]⟩,.slice none 0 0,.slice none 0 0,.slice none 0 0,.string ⟨#[]⟩,.string ⟨#[]⟩,.slice none 0 0,.slice none 0 0,.slice none 0 0,.slice none 0 0],.string _,.iface 65 (.int .i64 c)]) Zz ⟨⟨_,_,3,_,_,_,rfl,rfl,rfl,rfl,rfl,rfl⟩,⟨_,_,2,_,_,_,rfl,rfl,rfl,rfl,rfl,rfl⟩,rfl,rfl,trivial⟩ (fun fz3 hle3 hf3=>⟨rfl,Ycd hM hc⟩)
  | ok d'=>
   rw [e2] at hM hR2
   obtain ⟨rfl,rfl⟩:=hR2
   simp only at hM
   refine zW ?_;intros
   refine Ya Zz (Ym [] _ Zz Zz Zz (Ylt (t:=b) ((hT.mono hle1).mono hle2) Zh) (fun r3 fz3 H3 hle3 hR3=>?_))
   obtain ⟨rfl,y,cs3,pl3,hr3,hR3⟩:=hR3
   rw [List.nil_append]
   obtain ⟨vk3,rfl,hX3⟩:=Yh hr3
   have hX3':=hX3
   obtain ⟨A3,n3,c3,rfl,_⟩:=hX3.kids
   cases e3:prdM b with
   | error c=>
    rw [e3] at hM hR3
    obtain ⟨rfl,hc⟩:=hR3
    rw [Yj hc]
    refine zW ?_;intros
    exact YQ T (vs:=[.agg #[.string ⟨#[]⟩,.slice none 0 0,.slice none 0 0,.slice none 0 0,.slice none 0 0,.slice none 0 0,.slice none 0 0],.agg #[.string ⟨#[]⟩,.string ⟨#[]⟩,.slice none 0 0,.slice none 0 0,.slice none 0 0,.string ⟨#[]⟩,.string ⟨#[]⟩,.slice none 0 0,.slice none 0 0,.slice none 0 0,.slice none 0 0],.string pl3,.iface 65 (.int .i64 c)]) Zz ⟨⟨_,_,3,_,_,_,rfl,rfl,rfl,rfl,rfl,rfl⟩,⟨_,_,2,_,_,_,rfl,rfl,rfl,rfl,rfl,rfl⟩,rfl,rfl,trivial⟩ (fun fz3 hle3 hf3=>⟨rfl,Ycd hM hc⟩)
   | ok y'=>
    rw [e3] at hM hR3
    obtain ⟨rfl,rfl⟩:=hR3
    simp only at hM
    refine zW ?_;intros
    refine Ya Zz (Ym [] _ Zz Zz Zz (pParse_f hX3') (fun r4 fz4 H4 hle4 hR4=>?_))
    obtain ⟨rfl,p,cs4,hr4,hR4⟩:=hR4
    rw [List.nil_append]
    obtain ⟨w1,w2,w3,w4,w5,w6,w7,rfl,hP⟩:=XP hr4
    have hP':=hP
    obtain ⟨O1,o1,k1,rfl,_⟩:=hP.objects
    obtain ⟨O2,o2,k2,rfl,_⟩:=hP.init
    obtain ⟨O3,o3,k3,rfl,_⟩:=hP.values
    obtain ⟨O4,o4,k4,rfl,_⟩:=hP.goal.args
    obtain ⟨O5,o5,k5,rfl,_⟩:=hP.goal.params
    obtain ⟨O6,o6,k6,rfl,_⟩:=hP.goal.exprs
    obtain ⟨O7,o7,k7,rfl,_⟩:=hP.goal.kids
    cases e4:YcB y' with
    | error c=>
     rw [e4] at hM hR4
     obtain ⟨rfl,hc⟩:=hR4
     rw [Yj hc]
     refine zW ?_;intros
     refine YE (XU T (pre:=[_,_,_,_]) Zz Zz Zz rfl Zz Zz Zz ?_)
     refine zW ?_;intros
     exact YQ T (vs:=[.agg #[.string ⟨#[]⟩,.slice none 0 0,.slice none 0 0,.slice none 0 0,.slice none 0 0,.slice none 0 0,.slice none 0 0],.agg #[.string ⟨#[]⟩,.string ⟨#[]⟩,.slice none 0 0,.slice none 0 0,.slice none 0 0,.string ⟨#[]⟩,.string ⟨#[]⟩,.slice none 0 0,.slice none 0 0,.slice none 0 0,.slice none 0 0],.string _,.iface 65 (.int .i64 c)]) Zz ⟨⟨_,_,4,_,_,_,rfl,rfl,rfl,rfl,rfl,rfl⟩,⟨_,_,3,_,_,_,rfl,rfl,rfl,rfl,rfl,rfl⟩,rfl,rfl,trivial⟩ (fun fz3 hle3 hf3=>⟨rfl,Ycd hM hc⟩)
    | ok p'=>
     rw [e4] at hM hR4
     obtain ⟨rfl,rfl⟩:=hR4
     simp only at hM
     have hle:=hle1.trans (hle2.trans (hle3.trans hle4))
     have hDD:=hD'.mono (hle3.trans hle4)
     have hck:=check_q (hX.mono hle) hDD hP' (chkS_of e2 e4)
     generalize Ya1 d' p'=sc at*
     obtain ⟨s,cc⟩:=sc
     unfold resV at hck
     refine zW ?_;intros
     refine zc hck ?_
     by_cases h0:cc=0
     ·rw [if_pos h0] at hM
      subst h0
      rw [show errV 0=.nilIface from rfl]
      refine zWN ?_;intros
      rename_i g12
      refine Wp.drawP [] (Hq:=[_,_]) T.mixed Zj Zj Zb ?_
      refine zW ?_;intros
      refine Ye ?_
      refine Ye ?_
      refine Ye ?_
      refine Ye ?_
      refine PK.done ⟨by kernel_rfl,?_⟩
      refine Yb Zz Zz ?_
      refine PoS.soft0 (XU T (pre:=[_,_,_,_]) Zz Zz Zz rfl Zz Zz Zz ⟨(⟨(Le.refl _),Zx⟩),?_⟩)
      refine Yb Zz Zz ?_
      refine PoS.hard0 Zj (Wl T Zz Zz Zz Zz Zz Zz ?_)
      refine Yb Zz Zz ?_
      refine PoS.hard Zj (DoesQ.does (YJ Zz ?_))
      refine Yb Zz Zz ?_
      refine PoS.hard Zj (DoesQ.does (YJ Zz ?_))
      refine Po.done ?_
      refine zW ?_;intros
      refine YQ T (vs:=[.agg #[.string d'.name,.slice T1 t1 z1,.slice T2 t2 z2,.slice T3 t3 z3,.slice T4 t4 z4,.slice T5 t5 z5,.slice T6 t6 z6],.agg #[.string p'.name,.string p'.domain,.slice O1 o1 k1,.slice O2 o2 k2,.slice O3 o3 k3,.string p'.goal.op,.string p'.goal.name,.slice O4 o4 k4,.slice O5 o5 k5,.slice O6 o6 k6,.slice O7 o7 k7],.string ⟨#[]⟩,.nilIface]) Zz ⟨⟨_,_,4,_,_,_,rfl,rfl,rfl,rfl,rfl,rfl⟩,⟨_,_,3,_,_,_,rfl,rfl,rfl,rfl,rfl,rfl⟩,rfl,rfl,trivial⟩ (fun fz5 hle5 hf5=>⟨rfl,?_⟩)
      rw [hM]
      exact ⟨d',p',_,_,⟨#[]⟩,Ych (hDD.mono hle5),X9 (hP'.mono hle5),rfl,rfl,rfl⟩
     ·rw [if_neg h0] at hM
      rw [Yj h0]
      refine zW ?_;intros
      refine YE (XU T (pre:=[_,_,_,_]) Zz Zz Zz rfl Zz Zz Zz ?_)
      refine zW ?_;intros
      exact YQ T (vs:=[.agg #[.string ⟨#[]⟩,.slice none 0 0,.slice none 0 0,.slice none 0 0,.slice none 0 0,.slice none 0 0,.slice none 0 0],.agg #[.string ⟨#[]⟩,.string ⟨#[]⟩,.slice none 0 0,.slice none 0 0,.slice none 0 0,.string ⟨#[]⟩,.string ⟨#[]⟩,.slice none 0 0,.slice none 0 0,.slice none 0 0,.slice none 0 0],.string s,.iface 65 (.int .i64 cc)]) Zz ⟨⟨_,_,4,_,_,_,rfl,rfl,rfl,rfl,rfl,rfl⟩,⟨_,_,3,_,_,_,rfl,rfl,rfl,rfl,rfl,rfl⟩,rfl,rfl,trivial⟩ (fun fz3 hle3 hf3=>⟨rfl,Ycd hM h0⟩)
variable {A B:Option Addr} {c n:Nat}
theorem Yme {m d:Nat} {l:List Bs} (h1:Sl strL fz A n c l) (h2:Sl strL fz B m d l):QFn prog 43 [.slice A n c,.slice B m d] fz (.bool true):=by
 have k1:=h1.len
 have k2:=h2.len
 have k3:=h1.short
 subst k1 k2
 refine GFn.quiet ?_
 refine zF Tryz.func43 Tryz.ntmps43 (fun w0=>?_)
 refine zW ?_;intros
 (((refine zC (fun c1=>?_) (fun c1=>?_));(exact absurd rfl c1);(refine zW ?_;intros)))
 refine Yl (fun q σ fz' H'=>∃ k:Nat,k≤l.length∧q=l.length - k∧σ=[(5,.int .i64 k),(0,.slice A l.length c),(1,.slice B l.length d)]∧fz=fz'∧H'=[]) ⟨0,Z0 _,rfl,rfl,rfl,rfl⟩ Zw Zb ?_;rintro q σ fz' H' ⟨k,hk,rfl,rfl,rfl,rfl⟩
 refine zW ?_;intros
 refine zC (fun c2=>?_) (fun c2=>?_)
 ·obtain ⟨x,hx⟩:=Yn (l:=l) (k:=k) Zi
  refine zW ?_;intros
  refine zI h1 hx (fun a ha=>?_)
  refine zH ha (fun sx=>?_)
  refine zW ?_;intros
  refine zI h2 hx (fun b hb=>?_)
  refine zH hb (fun sy=>?_)
  refine zW ?_;intros
  (((refine zC (fun e1=>?_) (fun e1=>?_));(exact absurd rfl e1);(refine zW ?_;intros)))
  exact Yz ⟨k+1,by omega,rfl,rfl,rfl,rfl⟩ Zi Zw Zb
 ·refine zW ?_;intros
  exact zR (h:=rfl)
theorem etexts9 {m d:Nat} {l:List Bs} (h1:Sl strL fz A n c l) (h2:Sl strL fz B m d l):QFn prog 100 [.slice A n c,.slice B m d] fz (.bool true):=by
 have k1:=h1.len
 have k2:=h2.len
 have k3:=h1.short
 subst k1 k2
 refine GFn.quiet ?_
 refine zF Tryz.func100 Tryz.ntmps100 (fun w0=>?_)
 refine zW ?_;intros
 (((refine zC (fun c1=>?_) (fun c1=>?_));(exact absurd rfl c1);(refine zW ?_;intros)))
 refine Yl (fun q σ fz' H'=>∃ k:Nat,k≤l.length∧q=l.length - k∧σ=[(5,.int .i64 k),(0,.slice A l.length c),(1,.slice B l.length d)]∧fz=fz'∧H'=[]) ⟨0,Z0 _,rfl,rfl,rfl,rfl⟩ Zw Zb ?_;rintro q σ fz' H' ⟨k,hk,rfl,rfl,rfl,rfl⟩
 refine zW ?_;intros
 refine zC (fun c2=>?_) (fun c2=>?_)
 ·obtain ⟨x,hx⟩:=Yn (l:=l) (k:=k) Zi
  refine zW ?_;intros
  refine zI h1 hx (fun a ha=>?_)
  refine zH ha (fun sx=>?_)
  refine zW ?_;intros
  refine zI h2 hx (fun b hb=>?_)
  refine zH hb (fun sy=>?_)
  refine zW ?_;intros
  (((refine zC (fun e1=>?_) (fun e1=>?_));(exact absurd rfl e1);(refine zW ?_;intros)))
  exact Yz ⟨k+1,by omega,rfl,rfl,rfl,rfl⟩ Zi Zw Zb
 ·refine zW ?_;intros
  exact zR (h:=rfl)
theorem YgK {m d:Nat} {l:List Param} (h1:Sl paramL fz A n c l) (h2:Sl paramL fz B m d l):QFn prog 18 [.slice A n c,.slice B m d] fz (.bool true):=by
 have k1:=h1.len
 have k2:=h2.len
 have k3:=h1.short
 subst k1 k2
 refine GFn.quiet ?_
 refine zF Tryz.func18 Tryz.ntmps18 (fun w0=>?_)
 refine zW ?_;intros
 (((refine zC (fun c1=>?_) (fun c1=>?_));(exact absurd rfl c1);(refine zW ?_;intros)))
 refine Yl (fun q σ fz' H'=>∃ k:Nat,k≤l.length∧q=l.length - k∧σ=[(5,.int .i64 k),(0,.slice A l.length c),(1,.slice B l.length d)]∧fz=fz'∧H'=[]) ⟨0,Z0 _,rfl,rfl,rfl,rfl⟩ Zw Zb ?_;rintro q σ fz' H' ⟨k,hk,rfl,rfl,rfl,rfl⟩
 refine zW ?_;intros
 refine zC (fun c2=>?_) (fun c2=>?_)
 ·obtain ⟨x,hx⟩:=Yn (l:=l) (k:=k) Zi
  refine zW ?_;intros
  refine zI h1 hx (fun ha0 ha=>?_)
  ((refine zL ha ?_;intro cs1 hcs1;obtain ⟨rfl,hR1⟩:=YV hcs1))
  refine zW ?_;intros
  refine zI h2 hx (fun hb0 hb=>?_)
  ((refine zL hb ?_;intro cs2 hcs2;obtain ⟨rfl,hR2⟩:=YV hcs2))
  refine zW ?_;intros
  (((refine zG ?_);refine Yez Zz Zz (fun e1=>?_) (fun e1=>?_)))
  ·exact absurd rfl e1
  ·refine zW ?_;intros
   exact Yz ⟨k+1,by omega,rfl,rfl,rfl,rfl⟩ Zi Zw Zb
 ·refine zW ?_;intros
  exact zR (h:=rfl)
theorem Ymk:∀ (s:Nat) {fz:FZ} {a:Lx.Expr} {va vk wa wk:Value},SizeOf.sizeOf a≤s→ExprR fz a va vk→ExprR fz a wa wk→
 QFn prog 44 [.agg #[.string a.op,.string a.name,.int .i64 a.n,va,vk],.agg #[.string a.op,.string a.name,.int .i64 a.n,wa,wk]] fz (.bool true)
 | 0,_,e,_,_,_,_,hs,_,_=>by cases e;simp at hs
 | s+1,fz,a,va,vk,wa,wk,hs,hR1,hR2=>by
  refine GFn.quiet ?_
  ((obtain ⟨A1,n1,c1',rfl,ia1⟩:=hR1.args;obtain ⟨A2,n2,c2',rfl,ik1⟩:=hR1.kids))
  ((obtain ⟨A3,n3,c3',rfl,ia2⟩:=hR2.args;obtain ⟨A4,n4,c4',rfl,ik2⟩:=hR2.kids))
  have k1:=ik1.len
  have k2:=ik2.len
  have k3:=ik1.short
  subst k1 k2
  refine zF Tryz.func44 Tryz.ntmps44 (fun w0=>?_)
  refine Yk (Yr (Ya Zz (Xc _ Zz Zz (fun g0=>?_))))
  refine Ya Zz (Xc _ Zz Zz (fun g1=>?_))
  refine zW ?_;intros
  (((refine zC (fun e1=>?_) (fun e1=>?_));(exact absurd rfl e1);(refine zW ?_;intros)))
  (((refine zC (fun e2=>?_) (fun e2=>?_));(exact absurd rfl e2);(refine zW ?_;intros)))
  (((refine zC (fun e3=>?_) (fun e3=>?_));(exact absurd rfl e3);(refine zW ?_;intros)))
  refine zc (Yme ia1 ia2) ?_
  refine zW ?_;intros
  (((refine zC (fun e4=>?_) (fun e4=>?_));(exact absurd rfl e4);(refine zW ?_;intros)))
  refine Yl (fun q σ fz' H'=>∃ k:Nat,k≤a.kids.length∧q=a.kids.length - k∧σ=[(5,.int .i64 k),(3,.pointer (some ⟨g1,0,none⟩)),(2,.pointer (some ⟨g0,0,none⟩))]∧fz=fz'∧H'=[(g1,.cells #[.string a.op,.string a.name,.int .i64 a.n,.slice A3 n3 c3',.slice A4 a.kids.length c4'] 120 (0,0)),(g0,.cells #[.string a.op,.string a.name,.int .i64 a.n,.slice A1 n1 c1',.slice A2 a.kids.length c2'] 120 (0,0))]) ⟨0,Z0 _,rfl,rfl,rfl,rfl⟩ Zw Zb ?_;rintro q σ fz' H' ⟨k,hk,rfl,rfl,rfl,rfl⟩
  refine zW ?_;intros
  refine zC (fun c2=>?_) (fun c2=>?_)
  ·obtain ⟨x,hx⟩:=Yn (l:=a.kids) (k:=k) Zi
   have hlt:=Lx.Expr.kids_lt (Zm hx)
   refine zW ?_;intros
   refine zI ik1 hx (fun p hp=>?_)
   refine zL hp ?_
   intro cs1 hcs1
   obtain ⟨u1,u2,rfl,h3⟩:=YT hcs1
   refine zW ?_;intros
   refine zI ik2 hx (fun p2 hp2=>?_)
   refine zL hp2 ?_
   intro cs2 hcs2
   obtain ⟨w1,w2,rfl,h4⟩:=YT hcs2
   refine zW ?_;intros
   ((refine zG ?_);refine Yw Zz Zz (Ymk s Zi h3 h4) ?_)
   refine zW ?_;intros
   exact Yz ⟨k+1,by omega,rfl,rfl,rfl,rfl⟩ Zi Zw Zb
  ·refine zW ?_;intros
   exact zR (h:=rfl)
variable {va vk:Value}
theorem eexpr {a:Lx.Expr} {wa wk:Value} (h1:ExprR fz a va vk) (h2:ExprR fz a wa wk):
 QFn prog 44 [.agg #[.string a.op,.string a.name,.int .i64 a.n,va,vk],.agg #[.string a.op,.string a.name,.int .i64 a.n,wa,wk]] fz (.bool true):=Ymk _ (Zs _) h1 h2
set_option maxHeartbeats 2000000 in
theorem Ymj:∀ (s:Nat) {fz:FZ} {a:Formula} {v1 v2 v3 v4 w1 w2 w3 w4:Value},SizeOf.sizeOf a≤s→FormulaR fz a v1 v2 v3 v4→FormulaR fz a w1 w2 w3 w4→
 QFn prog 23 [.agg #[.string a.op,.string a.name,v1,v2,v3,v4],.agg #[.string a.op,.string a.name,w1,w2,w3,w4]] fz (.bool true)
 | 0,_,e,_,_,_,_,_,_,_,_,hs,_,_=>by cases e;simp at hs
 | s+1,fz,a,v1,v2,v3,v4,w1,w2,w3,w4,hs,hR1,hR2=>by
  refine GFn.quiet ?_
  ((obtain ⟨A1,n1,c1',rfl,ia1⟩:=hR1.args;obtain ⟨A2,n2,c2',rfl,ip1⟩:=hR1.params;obtain ⟨A3,n3,c3',rfl,ie1⟩:=hR1.exprs;obtain ⟨A4,n4,c4',rfl,ik1⟩:=hR1.kids))
  ((obtain ⟨A5,n5,c5',rfl,ia2⟩:=hR2.args;obtain ⟨A6,n6,c6',rfl,ip2⟩:=hR2.params;obtain ⟨A7,n7,c7',rfl,ie2⟩:=hR2.exprs;obtain ⟨A8,n8,c8',rfl,ik2⟩:=hR2.kids))
  have k1:=ie1.len
  have k2:=ie2.len
  have k3:=ie1.short
  subst k1 k2
  have k4:=ik1.len
  have k5:=ik2.len
  have k6:=ik1.short
  subst k4 k5
  refine zF Tryz.func23 Tryz.ntmps23 (fun w0=>?_)
  refine Yk (Yr (Ya Zz (Xc _ Zz Zz (fun g0=>?_))))
  refine Ya Zz (Xc _ Zz Zz (fun g1=>?_))
  refine zW ?_;intros
  (((refine zC (fun e1=>?_) (fun e1=>?_));(exact absurd rfl e1);(refine zW ?_;intros)))
  (((refine zC (fun e2=>?_) (fun e2=>?_));(exact absurd rfl e2);(refine zW ?_;intros)))
  refine zc (Yme ia1 ia2) ?_
  refine zW ?_;intros
  refine zc (YgK ip1 ip2) ?_
  refine zW ?_;intros
  (((refine zC (fun e4=>?_) (fun e4=>?_));(exact absurd rfl e4);(refine zW ?_;intros)))
  (((refine zC (fun e5=>?_) (fun e5=>?_));(exact absurd rfl e5);(refine zW ?_;intros)))
  refine Yl (fun q σ fz' H'=>∃ k:Nat,k≤a.exprs.length∧q=a.exprs.length - k∧σ=[(5,.int .i64 k),(3,.pointer (some ⟨g1,0,none⟩)),(2,.pointer (some ⟨g0,0,none⟩))]∧fz=fz'∧H'=[(g1,.cells #[.string a.op,.string a.name,.slice A5 n5 c5',.slice A6 n6 c6',.slice A7 a.exprs.length c7',.slice A8 a.kids.length c8'] 38 (0,0)),(g0,.cells #[.string a.op,.string a.name,.slice A1 n1 c1',.slice A2 n2 c2',.slice A3 a.exprs.length c3',.slice A4 a.kids.length c4'] 38 (0,0))]) ⟨0,Z0 _,rfl,rfl,rfl,rfl⟩ Zw Zb ?_;rintro q σ fz' H' ⟨k,hk,rfl,rfl,rfl,rfl⟩
  refine zW ?_;intros
  refine zC (fun c2=>?_) (fun c2=>?_)
  ·obtain ⟨x,hx⟩:=Yn (l:=a.exprs) (k:=k) Zi
   refine zW ?_;intros
   refine zI ie1 hx (fun p hp=>?_)
   refine zL hp ?_
   intro cs1 hcs1
   obtain ⟨u1,u2,rfl,h3⟩:=YT hcs1
   refine zW ?_;intros
   refine zI ie2 hx (fun p2 hp2=>?_)
   refine zL hp2 ?_
   intro cs2 hcs2
   obtain ⟨y1,y2,rfl,h4⟩:=YT hcs2
   refine zW ?_;intros
   refine zc (eexpr h3 h4) ?_
   refine zW ?_;intros
   exact Yz ⟨k+1,by omega,rfl,rfl,rfl,rfl⟩ Zi Zw Zb
  ·refine zW ?_;intros
   refine Yl (fun q σ fz' H'=>∃ k:Nat,k≤a.kids.length∧q=a.kids.length - k∧σ=[(6,.int .i64 k),(3,.pointer (some ⟨g1,0,none⟩)),(2,.pointer (some ⟨g0,0,none⟩))]∧fz=fz'∧H'=[(g1,.cells #[.string a.op,.string a.name,.slice A5 n5 c5',.slice A6 n6 c6',.slice A7 a.exprs.length c7',.slice A8 a.kids.length c8'] 38 (0,0)),(g0,.cells #[.string a.op,.string a.name,.slice A1 n1 c1',.slice A2 n2 c2',.slice A3 a.exprs.length c3',.slice A4 a.kids.length c4'] 38 (0,0))]) ⟨0,Z0 _,rfl,rfl,rfl,rfl⟩ Zw Zb ?_;rintro q σ fz' H' ⟨k,hk,rfl,rfl,rfl,rfl⟩
   refine zW ?_;intros
   refine zC (fun c3=>?_) (fun c3=>?_)
   ·obtain ⟨x,hx⟩:=Yn (l:=a.kids) (k:=k) Zi
    have hlt:=Formula.kids_lt (Zm hx)
    refine zW ?_;intros
    refine zI ik1 hx (fun p hp=>?_)
    refine zL hp ?_
    intro cs1 hcs1
    obtain ⟨u1,u2,u3,u4,rfl,h3⟩:=YK hcs1
    refine zW ?_;intros
    refine zI ik2 hx (fun p2 hp2=>?_)
    refine zL hp2 ?_
    intro cs2 hcs2
    obtain ⟨y1,y2,y3,y4,rfl,h4⟩:=YK hcs2
    refine zW ?_;intros
    ((refine zG ?_);refine Yw Zz Zz (Ymj s Zi h3 h4) ?_)
    refine zW ?_;intros
    exact Yz ⟨k+1,by omega,rfl,rfl,rfl,rfl⟩ Zi Zw Zb
   ·refine zW ?_;intros
    exact zR (h:=rfl)
variable {v1 v2 v3 v4 w1 w2 w3:Value}
theorem Yks {a:Formula} {w4:Value} (h1:FormulaR fz a v1 v2 v3 v4) (h2:FormulaR fz a w1 w2 w3 w4):
 QFn prog 23 [.agg #[.string a.op,.string a.name,v1,v2,v3,v4],.agg #[.string a.op,.string a.name,w1,w2,w3,w4]] fz (.bool true):=Ymj _ (Zs _) h1 h2
end Go.Proofs.YtfjopfinkdhmaaaGreatDoor
namespace Go.Proofs.YtfjopfinkdhmaaaGreatDoor
open Go.Lx Go.RowKit
attribute [local instance 10] Classical.propDecidable
def ltB (a b:Bs):Bool:=Op.bytesLess a.toList b.toList
section
set_option linter.unusedSectionVars false
variable [Dr]
section
variable {P:Program} {cx:Cx} {r:Operand→Option Value} {fz:FZ} {H:HP} {V:Value→Prop} {dst:Option Nat} {ty:TypeId} {pos:String} {af:Array Edge} {gd:Option (Nat × Bool)}
variable {t:TypeId} {x y:Operand}
theorem YfI {t':TypeId} {u v:Bs} (hx:r x=some (.string u)) (hy:r y=some (.string v)) (ht:ltB u v=true→V (.bool true)) (hf:ltB u v=false→V (.bool false)):DoesQ P cx ⟨dst,.binOp .lss t x y t',ty,pos,af,gd⟩ r fz H V:=
 YH (v:=.bool (ltB u v)) (fun ρ w hr=>by
  simp [execOp,hr _ _ hx,hr _ _ hy,binOp,Op.stringOp,eqGuard,ltB]) (by
  cases h:ltB u v with
  | true=>exact ht h
  | false=>exact hf h)
theorem Ykf {t':TypeId} {u v:Bs} (hx:r x=some (.string u)) (hy:r y=some (.string v)) (ht:ltB u v=false→u≠v→V (.bool true)) (hf:ltB u v=true∨u=v→V (.bool false)):DoesQ P cx ⟨dst,.binOp .gtr t x y t',ty,pos,af,gd⟩ r fz H V:=
 YH (v:=.bool (!(ltB u v || decide (u=v)))) (fun ρ w hr=>by
  simp [execOp,hr _ _ hx,hr _ _ hy,binOp,Op.stringOp,eqGuard,ltB,Yio]) (by
  cases h:ltB u v with
  | true=>exact hf (.inl h)
  | false=>
   by_cases e:u=v
   ·rw [decide_eq_true e];exact hf (.inr e)
   ·rw [decide_eq_false e];exact ht h e)
end
end
end Go.Proofs.YtfjopfinkdhmaaaGreatDoor
