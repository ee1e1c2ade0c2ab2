/- The texts YI, PWalkV, PDom, YH, YJ, GOpenA, YRowCB, laid together. Conditions: none. -/
import Derived.Test.YtfjopfinkdhmaaaGreatDoorRYU
import Derived.Lay
import Derived.LaidOnce
import Derived.Carry
import Derived.MakeChecks
import Derived.LaidSub
import Derived.Deep.DeepHandedRow
import Derived.Lib.LaidTab
import Derived.Shelf.Vars
import Derived.Deep.Slices
import Derived.SizedLaws
set_option linter.all false
set_option maxRecDepth 20000
namespace Go.Proofs.YtfjopfinkdhmaaaGreatDoor
open Go.Lx Go.RowKit
attribute [local instance 10] Classical.propDecidable
theorem Yg6 (b:UInt8):(upB2 b).toNat=if LetP b.toNat then b.toNat - 32 else b.toNat:=by
 unfold upB2
 split
 ·rename_i h
  unfold LetP at h
  rw [UInt8.toNat_sub_of_le]
  ·rfl
  ·rw [UInt8.le_iff_toNat_le];show 32≤b.toNat;omega
 ·rfl
theorem Yer {b c:UInt8} (hc:c.toNat<65):upB2 b=c↔b=c:=by
 rw [← UInt8.toNat_inj,← UInt8.toNat_inj,Yg6]
 unfold LetP
 split<;>omega
theorem YkS {b:UInt8}:SepP (upB2 b).toNat↔SepP b.toNat:=by
 rw [Yg6]
 unfold LetP SepP
 split<;>omega
theorem YkR {b:UInt8}:StopP (upB2 b)↔StopP b:=by
 unfold StopP
 rw [YkS,Yer Zh,Yer Zh,Yer Zh]
def sfxL:List UInt8:=[9,59,32,40,32,99,32,41,10,13,32]
theorem skip_sfx (m:Bool):W5 m sfxL=11:=by
 cases m<;>simp [W5,sfxL,SepP]
theorem Yev:∀ (l:List UInt8) (m:Bool),W5 m (l.map upB2++sfxL)=if W5 m l<l.length then W5 m l else l.length+11
 | [],m=>by
  rw [List.map_nil,List.nil_append,skip_sfx,if_neg (by simp)];rfl
 | x::l,true=>by
  have h1:=Yev l true
  have h2:=Yev l false
  rw [List.map_cons,List.cons_append,W5,W5,h1,h2,List.length_cons]
  by_cases hx:x=10
  ·rw [if_pos hx,if_pos ((Yer Zh).2 hx)]
   split<;>split<;>omega
  ·rw [if_neg hx,if_neg (fun h=>hx ((Yer Zh).1 h))]
   split<;>split<;>omega
 | x::l,false=>by
  have h1:=Yev l true
  have h2:=Yev l false
  rw [List.map_cons,List.cons_append,W5,W5,h1,h2,List.length_cons]
  by_cases hx:SepP x.toNat
  ·rw [if_pos hx,if_pos (YkS.2 hx)]
   split<;>split<;>omega
  ·rw [if_neg hx,if_neg (fun h=>hx (YkS.1 h))]
   by_cases hy:x=59
   ·rw [if_pos hy,if_pos ((Yer Zh).2 hy)]
    split<;>split<;>omega
   ·rw [if_neg hy,if_neg (fun h=>hy ((Yer Zh).1 h)),if_pos Zi]
theorem tok_up:∀ (l:List UInt8),tokL (l.map upB2++sfxL)=tokL l
 | []=>by
  rw [List.map_nil,List.nil_append];show tokL sfxL=0;rw [sfxL,tokL,if_pos (.inl Zh)]
 | x::l=>by
  have h1:=tok_up l
  rw [List.map_cons,List.cons_append,tokL,tokL,h1]
  by_cases hx:StopP x
  ·rw [if_pos hx,if_pos (YkR.2 hx)]
  ·rw [if_neg hx,if_neg (fun h=>hx (YkR.1 h))]
theorem pos_up:∀ (l:List UInt8) (p:Int × Int),(l.map upB2).foldl posS p=l.foldl posS p
 | [],p=>rfl
 | x::l,p=>by
  have h:posS p (upB2 x)=posS p x:=by
   unfold posS
   by_cases hx:x=10
   ·rw [if_pos hx,if_pos ((Yer Zh).2 hx)]
   ·rw [if_neg hx,if_neg (fun h=>hx ((Yer Zh).1 h))]
  rw [List.map_cons,List.foldl_cons,List.foldl_cons,h,pos_up l]
theorem Yd8 (t:Bs):(upS t++sfxU).data.toList=t.data.toList.map upB2++sfxL:=by
 rw [ByteArray.data_append,Array.toList_append]
 rfl
theorem Yjh (t:Bs):(upS t++sfxU).size=t.size+11:=by
 rw [← XA,Yd8,List.length_append,List.length_map,XA];rfl
theorem upS_size (t:Bs):(upS t).size=t.size:=by
 rw [← XA,← XA];show (t.data.toList.map upB2).toArray.toList.length=_
 simp
theorem YiV {t:Bs} {a:Nat} (h:a≤t.size):(upS t++sfxU).data.toList.drop a=(t.data.toList.drop a).map upB2++sfxL:=by
 rw [Yd8,List.drop_append_of_le_length (by rw [List.length_map,XA];exact h),List.map_drop]
theorem Yiy {t:Bs} {a:Nat} (h:a≤t.size):posA (upS t++sfxU) a=posA t a:=by
 unfold posA
 rw [Yd8,List.take_append_of_le_length (by rw [List.length_map,XA];exact h),← List.map_take,pos_up]
theorem skip_upx {t:Bs} {a:Nat} (h:a≤t.size):XO false (upS t++sfxU) a=if XO false t a<t.size then XO false t a else t.size+11:=by
 unfold XO
 rw [YiV h,Yev,List.length_drop,XA]
 split<;>split<;>omega
theorem tok_upx {t:Bs} {a:Nat} (h:a≤t.size):tokE (upS t++sfxU) a=tokE t a:=by
 unfold tokE
 rw [YiV h,tok_up]
theorem Yek {t:Bs} {a:Nat}:t[a]?=t.data.toList[a]?:=by
 by_cases ha:a<t.size
 ·rw [Ydd ha,getElem?_pos t a ha]
 ·rw [getElem?_neg t a ha,List.getElem?_eq_none (by rw [XA];omega)]
theorem get_up {t:Bs} {a:Nat} (h:a<t.size):(upS t++sfxU)[a]?=(t[a]?).map upB2:=by
 rw [Yek,Yek,Yd8,List.getElem?_append_left (by rw [List.length_map,XA];exact h),List.getElem?_map]
theorem ext_list {t:Bs} {a e:Nat}:(t.extract a e).data.toList=(t.data.toList.drop a).take (e - a):=by
 rw [ByteArray.data_extract,Array.toList_extract,List.extract_eq_take_drop]
theorem ba_ext {s t:Bs} (h:s.data.toList=t.data.toList):s=t:=by
 cases s;cases t
 simp only at h
 rw [Array.toList_inj] at h
 rw [h]
theorem ext_up {t:Bs} {a e:Nat} (h:a≤t.size) (he:e≤t.size):(upS t++sfxU).extract a e=upS (t.extract a e):=by
 refine ba_ext ?_
 show _=((t.extract a e).data.toList.map upB2).toArray.toList
 rw [ext_list,ext_list,YiV h,List.take_append_of_le_length (by rw [List.length_map,List.length_drop,XA];omega),List.map_take]
theorem Yhy {s:Bs} (h:NumP s):∀ b∈s.data.toList,DigP b.toNat∨b=45:=by
 intro b hb
 obtain ⟨i,hi⟩:=List.getElem?_of_mem hb
 have hl:i<s.size:=by
  rcases Nat.lt_or_ge i s.size with h1 | h1
  ·exact h1
  ·rw [List.getElem?_eq_none (by rw [XA];exact h1)] at hi;cases hi
 obtain ⟨h1,_⟩:=h
 by_cases hp:PreP s Wr
 ·obtain _ | i:=i
  ·right
   have h2:=congrArg (fun x:Bs=>x.data.toList) hp.2
   simp only [ext_list] at h2
   cases hd:s.data.toList with
   | nil=>rw [hd] at hi;cases hi
   | cons c r=>
    rw [hd] at h2 hi
    have h3:c::([]:List UInt8)=[45]:=h2
    injection h3 with h3 _
    injection hi with hi
    rw [← hi,h3]
  ·left
   have h2:=h1 i
   rw [W3,if_pos hp] at h2
   have h3:(s.extract Wr.size s.size)[i]?=some b:=by
    rw [Yek,ext_list,List.getElem?_take_of_lt (show i<s.size - Wr.size by have:Wr.size=1:=rfl;omega),List.getElem?_drop]
    rw [show Wr.size+i=i+1 from Nat.add_comm 1 i];exact hi
   have h4:i<(s.extract Wr.size s.size).size:=by
    rcases Nat.lt_or_ge i (s.extract Wr.size s.size).size with h1 | h1
    ·exact h1
    ·rw [getElem?_neg _ i Zi] at h3;cases h3
   have h5:=h2 h4
   unfold Yav at h5
   rw [h3] at h5
   exact h5
 ·left
  have h2:=h1 i
  rw [W3,if_neg hp] at h2
  have h5:=h2 hl
  unfold Yav at h5
  rw [Yek,hi] at h5
  exact h5
theorem up_fix {s:Bs} (h:∀ b∈s.data.toList,upB2 b=b):upS s=s:=by
 refine ba_ext ?_
 show (s.data.toList.map upB2).toArray.toList=_
 rw [YiQ h]
theorem up_any {b:UInt8}:AnyC (upB2 b)↔AnyC b:=by
 by_cases h:LetP b.toNat
 ·refine iff_of_true (.inl ?_) (.inr (.inl h))
  rw [Yg6,if_pos h]
  unfold LetP at h;unfold UpC;omega
 ·rw [Yeq h]
theorem up_low {b:UInt8}:lowB (upB2 b)=lowB b:=by
 by_cases h:LetP b.toNat
 ·have h1:UpC (upB2 b).toNat:=by rw [Yg6,if_pos h];unfold LetP at h;unfold UpC;omega
  have h2:¬UpC b.toNat:=by unfold LetP at h;unfold UpC;omega
  rw [lowB,if_pos h1,lowB,if_neg h2,upB2,if_pos h,UInt8.sub_add_cancel]
 ·rw [Yeq h]
theorem Yd9 (s:Bs):(upS s).data.toList=s.data.toList.map upB2:=by
 show (s.data.toList.map upB2).toArray.toList=_
 simp
theorem up_tok {s:Bs} {p:Int × Int}:tokX (upS s) p=tokX s p:=by
 by_cases hA:∀ b∈s.data.toList,upB2 b=b
 ·rw [up_fix hA]
 ·obtain ⟨b,hb,hne⟩:∃ b∈s.data.toList,upB2 b≠b:=by
   refine Classical.byContradiction fun h=>hA fun b hb=>Classical.byContradiction fun h2=>h ⟨b,hb,h2⟩
  have hl:LetP b.toNat:=Classical.byContradiction fun h=>hne (Yeq h)
  have n1:¬NumP s:=fun h=>by
   rcases Yhy h b hb with h1 | h1
   ·unfold DigP at h1;unfold LetP at hl;omega
   ·subst h1;unfold LetP at hl;have:(45:UInt8).toNat=45:=rfl;omega
  have n2:¬NumP (upS s):=fun h=>by
   have h3:=Yhy h (upB2 b) (by rw [Yd9];exact List.mem_map_of_mem hb)
   have h4:=Yg6 b
   rw [if_pos hl] at h4
   unfold LetP at hl
   rcases h3 with h1 | h1
   ·unfold DigP at h1;omega
   ·rw [h1] at h4
    have:(45:UInt8).toNat=45:=rfl
    omega
  have e1:LowP (upS s)↔LowP s:=by
   unfold LowP
   have hk:upS s≠WO↔s≠WO:=by
    refine iff_of_true (fun h=>?_) (fun h=>?_)
    ·have:=congrArg (fun x:Bs=>x.data.toList) h
     rw [Yd9] at this
     have h6:upB2 b∈([]:List UInt8):=by rw [show ([]:List UInt8)=WO.data.toList from rfl,← this];exact List.mem_map_of_mem hb
     cases h6
    ·rw [h] at hb;cases hb
   rw [hk,upS_size,Yd9]
   refine and_congr Iff.rfl (and_congr Iff.rfl ⟨fun h c hc=>up_any.1 (h _ (List.mem_map_of_mem hc)),fun h c hc=>?_⟩)
   obtain ⟨d,hd,rfl⟩:=List.mem_map.1 hc
   exact up_any.2 (h d hd)
  have e2:lowS (upS s)=lowS s:=by
   unfold lowS
   rw [Yd9,List.map_map]
   congr 2
   exact List.map_congr_left fun c _=>up_low
  unfold tokX
  rw [if_neg n1,if_neg n2,e2]
  by_cases hL:LowP s
  ·rw [if_pos hL,if_pos (e1.2 hL)]
  ·rw [if_neg hL,if_neg (fun h=>hL (e1.1 h))]
variable {n:Nat}
theorem next_up {t:Bs} {a:Nat} {st:List Lev} (h:a<t.size):Ya7 (upS t++sfxU) a n st=Ya7 t a n st:=by
 obtain ⟨b,hb, -⟩:=XV h
 have h1:(upS t++sfxU)[a]?=some (upB2 b):=by rw [get_up h,hb];rfl
 have h2:tokM (upS t++sfxU) a n st=tokM t a n st:=by
  unfold tokM
  rw [tok_upx Zi,Yiy Zi,ext_up Zi (Yik Zi),up_tok]
 unfold Ya7
 rw [h1,hb,Yiy Zi,h2]
 simp only [Yer (show (40:UInt8).toNat<65 by decide),Yer (show (41:UInt8).toNat<65 by decide)]
theorem next_adv {t:Bs} {a a' n':Nat} {st st':List Lev} (h:Ya7 t a n st=.ok (a',n',st')) (ha:a<t.size) (hs:∀ b,t[a]?=some b→¬SepP b.toNat∧b≠59):a<a'∧a'≤t.size:=by
 obtain ⟨b,hb, -⟩:=XV ha
 have hs:=hs b hb
 unfold Ya7 at h
 rw [hb] at h
 simp only at h
 split at h
 ·split at h
  ·cases h
  ·injection h with h
   injection h with h2 h3
   omega
 ·rename_i h40
  split at h
  ·split at h
   ·injection h with h
    injection h with h2 h3
    omega
   ·cases h
  ·rename_i h41
   have hst:¬StopP b:=by
    rintro (h5 | h5 | h5 | h5)
    ·exact hs.1 h5
    ·exact h40 h5
    ·exact h41 h5
    ·exact hs.2 h5
   unfold tokM at h
   split at h
   ·cases h
   ·split at h
    ·cases h
    ·unfold addM at h
     split at h
     ·cases h
     ·injection h with h
      injection h with h2 h3
      have h6:a+1≤tokE t a:=by rw [Yil hb hst];unfold tokE;omega
      have h7:=Yik (t:=t) (a:=a) Zi
      omega
theorem Yjv {t:Bs}:∀ (f f' a n:Nat) (st:List Lev),a≤t.size→t.size - a<f→t.size - a<f'→YbI (upS t++sfxU) f' a n st=YbI t f a n st
 | 0,f',a,n,st,ha,h1,h2=>by omega
 | f+1,0,a,n,st,ha,h1,h2=>by omega
 | f+1,f'+1,a,n,st,ha,h1,h2=>by
  rw [W1,W1,skip_upx ha,Yjh]
  by_cases hk:t.size≤XO false t a
  ·rw [if_pos hk,if_neg (by omega:¬XO false t a<t.size),if_pos (Zs _)]
  ·have hk2:XO false t a<t.size:=by omega
   rw [if_neg hk,if_pos hk2,if_neg Zi,next_up hk2,Yiy Zi]
   cases hn:Ya7 t (XO false t a) n st with
   | error c=>rfl
   | ok x=>
    obtain ⟨a',n',st'⟩:=x
    have h3:=next_adv hn hk2 (fun b hb=>YfE hb)
    have h4:=Yjo (m:=false) (t:=t) (a:=a)
    exact Yjv f f' a' n' st' h3.2 Zi Zi
theorem read_up {t:Bs} (ht:t.size≤20000):YcH (upS t++sfxU)=YcH t:=by
 unfold YcH
 rw [Yjh,if_neg Zi,if_neg Zi]
 exact Yjv _ _ 0 0 _ (Z0 _) Zi Zi
theorem prd_up {t:Bs} (ht:t.size≤20000):prdM (upS t++sfxU)=prdM t:=by
 unfold prdM
 rw [read_up ht]
theorem load_up {a b:Bs} (ha:a.size≤20000) (hb:b.size≤20000):Yfr (upS a++sfxU) (upS b++sfxU)=Yfr a b:=by
 unfold Yfr
 rw [prd_up ha,prd_up hb]
end Go.Proofs.YtfjopfinkdhmaaaGreatDoor
namespace Go.Proofs.YtfjopfinkdhmaaaGreatDoor
open Go.Lx Go.RowKit
attribute [local instance 10] Classical.propDecidable
open Go.Proofs.Tryz (prog)
theorem Yjc {p q:Sexpr→Prop} (h:∀ x,p x→q x):∀ (s:Nat) {x:Sexpr},SizeOf.sizeOf x≤s→XAll p x→XAll q x
 | 0,x,hs,_=>by cases x;simp at hs
 | s+1,x,hs,hx=>by
  have h1:=Y8.1 hx
  exact Y8.2 ⟨h _ h1.1,fun k hk=>Yjc h s (by have:=Sexpr.kids_lt hk;omega) (h1.2 k hk)⟩
theorem xnode_sm {x:Sexpr} (h:Yfy x):Lx.XSm x:=by
 rcases h with ⟨h1,h2,_⟩ | ⟨h1,_,_,h2⟩ | ⟨h1,_⟩
 ·exact ⟨fun _=>h2.2.1,fun h0=>by omega⟩
 ·exact ⟨fun h0=>by omega,fun _=>h2⟩
 ·exact ⟨fun h0=>by omega,fun h0=>by omega⟩
theorem Yjb {x:Sexpr} (h:XOk x):XAll Lx.XSm x:=Yjc (fun _=>xnode_sm) _ (Zs _) h
theorem YkE {x:Sexpr} (h:XOk x):(txt x).length≤36*xcount x:=by have:=txt_len (Yjb h);omega
variable {fz:FZ}
theorem Yk6 {l:List UInt8} (h:l.length≤1000000000):strL.rep fz (strOf l) [.string (strOf l)]:=⟨rfl,by rw [Wo];omega⟩
theorem YlV {x:Sexpr} (h:XOk x):(Lib.join (x.kids.map txt) [32]).length≤36*xcount x:=by
 cases x with
 | mk k v l c t ks=>
  have h1:=(Y8.1 (Yjb h)).2
  have h2:=txtL_len (Yfk.2 h1)
  have h3:=Lx.join_len (l:=ks.map txt)
  rw [← Yjj] at h3 ⊢
  simp only [Sexpr.kids] at h2 ⊢
  rw [xcount]
  omega
set_option maxHeartbeats 1000000 in
theorem Yi9:∀ (s:Nat) {fz:FZ} {x:Sexpr} {vk:Value},SizeOf.sizeOf x≤s→YW fz x vk→XOk x→xcount x≤4096→TabF fz→
 QFn prog 173 [.agg #[.int .i64 x.kind,.int .i64 x.value,.int .i64 x.line,.int .i64 x.column,.string x.text,vk]] fz (.string (strOf (txt x)))
 | 0,_,x,_,hs,_,_,_,_=>by cases x;simp at hs
 | s+1,fz,x,vk,hs,h,hX,hc,hT=>by
  refine GFn.quiet ?_
  obtain ⟨A,n,ca,rfl,hk⟩:=h.kids
  have l1:=hk.len
  have l2:=hk.short
  have hN:=Y8.1 hX
  have e:=txt_eq x
  have ec:=Xj x
  refine zF Tryz.func173 Tryz.ntmps173 (fun w0=>?_)
  refine Yk (Yr (Ya Zz (Xc _ Zz Zz (fun g0=>?_))))
  refine zW ?_;intros
  refine zC (fun x1=>?_) (fun y1=>?_)
  ·refine zW ?_;intros
   exact zR (h:=by rw [e,if_pos (show x.kind=1 from x1),strOf_of])
  ·refine zW ?_;intros
   refine zC (fun x2=>?_) (fun y2=>?_)
   ·have hNum:Ya3 x.value:=by
     rcases hN.1 with ⟨h1,_⟩ | ⟨_,_,_,h1⟩ | ⟨h1,_⟩
     ·omega
     ·exact h1
     ·omega
    refine zW ?_;intros
    refine zc (YlW hT hNum) ?_
    refine zW ?_;intros
    exact zR (h:=by rw [e,if_neg (show ¬x.kind=1 from y1),if_pos (show x.kind=2 from x2)])
   ·have hlen:=YlV hX
    have hln:=X4 (l:=x.kids)
    refine zW ?_;intros
    refine Yl (fun q σ fz' H'=>∃ (k:Nat) (v:Value) (Hs:HP),k≤n∧q=n - k∧σ=[(20,.int .i64 k),(19,.int .i64 n),(18,.slice A n ca),(3,v)]∧fz=fz'∧H'=Hs∧Grow strL 9 fz' v k Hs (((x.kids.map txt).take k).map strOf))
     ⟨0,_,[],Z0 _,rfl,rfl,rfl,rfl,Grow.nil _ _ _⟩ Zw Zb ?_
    rintro q σ fz' H' ⟨k,v,Hs,hk',rfl,rfl,rfl,rfl,hG⟩
    obtain ⟨Av,cv,rfl,_,_⟩:=hG.form
    refine zW ?_;intros
    refine zC (fun c1=>?_) (fun c1=>?_)
    ·obtain ⟨y,hy⟩:=Yn (l:=x.kids) (k:=k) Zi
     have hym:=Zm hy
     have hlt:=Sexpr.kids_lt hym
     have hcy:=XT hym
     have hyo:=hN.2 y hym
     have hyl:=YkE hyo
     refine zW ?_;intros
     refine zI hk hy (fun p hp=>?_)
     refine zL hp ?_
     intro cs hcs
     obtain ⟨vk2,rfl,hR⟩:=Yh hcs
     obtain ⟨A2,n2,c2,rfl,_⟩:=hR.kids
     refine zW ?_;intros
     ((refine zG ?_);refine Yw Zz Zz (Yi9 s Zi hR hyo Zi hT) ?_)
     refine Ya Zz (Yc T (cs:=[.string (strOf (txt y))]) Zz Zz Zz Zz Zz Zz Zz Zz (fun gb=>?_))
     refine Ya Zz (YS T (Hr:=[_,_]) Zz Zz Zz Zz Zz Zz Zz Zz (Zr _) hG Ydr (.head _) (Yk6 Zi) (by show _*16≤_;omega) Zi (fun v' Hs' hO'=>?_))
     obtain ⟨Av',cv',rfl,_,_⟩:=hO'.form
     refine zW ?_;intros
     exact Yz ⟨k+1,_,Hs',by omega,rfl,rfl,rfl,rfl,hO'.of (by rw [List.take_add_one,List.getElem?_map,hy];simp) rfl⟩ Zi Zw Zb
    ·have hk1:n=k:=by omega
     subst hk1
     rw [Zl (by rw [List.length_map];omega)] at hG
     refine zW ?_;intros
     refine Seq.freezeAll (H1:=[]) (Zr _) (fun fz3 hle3 hf3=>?_)
     ((refine zG ?_);refine Yw Zz Zz (join_q hG hf3 Zi Zi) ?_)
     refine zG ?_;refine YeC (a:=[40]) Zz Zz (by simp;omega) ?_
     refine zG ?_;refine YeC (b:=[41]) Zz Zz (by simp;omega) ?_
     refine zW ?_;intros
     exact zR (h:=by rw [e,if_neg (show ¬x.kind=1 from y1),if_neg (show ¬x.kind=2 from y2)];rfl)
variable {vk:Value}
theorem xwrite_q {x:Sexpr} (h:YW fz x vk) (hX:XOk x) (hc:xcount x≤4096) (hT:TabF fz):
 QFn prog 173 [.agg #[.int .i64 x.kind,.int .i64 x.value,.int .i64 x.line,.int .i64 x.column,.string x.text,vk]] fz (.string (strOf (txt x))):=Yi9 _ (Zs _) h hX hc hT
variable {i:Nat}
theorem Yie {x:Sexpr} {w:Nat} (h:XOk x) (hi:i+2*xdepth x≤66):(lay w x i).length≤102*xcount x:=by
 have:=lay_len (w:=w) (M:=66) (Yjb h) hi
 omega
set_option maxHeartbeats 2000000 in
theorem YkF:∀ (s:Nat) {fz:FZ} {x:Sexpr} {vk:Value} {w i:Nat},SizeOf.sizeOf x≤s→YW fz x vk→XOk x→xcount x≤4096→i+2*xdepth x≤66→w≤200→TabF fz→
 QFn prog 131 [.agg #[.int .i64 x.kind,.int .i64 x.value,.int .i64 x.line,.int .i64 x.column,.string x.text,vk],.int .i64 w,.int .i64 i] fz (.string (strOf (lay w x i)))
 | 0,_,x,_,_,_,hs,_,_,_,_,_,_=>by cases x;simp at hs
 | s+1,fz,x,vk,w,i,hs,h,hX,hc,hi,hw,hT=>by
  refine GFn.quiet ?_
  obtain ⟨A,n,ca,rfl,hk⟩:=h.kids
  have l1:=hk.len
  have l2:=hk.short
  have hN:=Y8.1 hX
  have ec:=Xj x
  have ed:=YcW x
  have htl:=YkE hX
  have hsz:=Wo (txt x)
  refine zF Tryz.func131 Tryz.ntmps131 (fun w0=>?_)
  refine Yk (Yr (Ya Zz (Xc _ Zz Zz (fun g0=>?_))))
  refine zW ?_;intros
  refine zc (xwrite_q h hX hc hT) ?_
  refine zW ?_;intros
  refine zC (fun x3=>?_) (fun y3=>?_)
  ·refine zW ?_;intros
   exact zR (h:=by rw [Yeg (.inl x3)])
  ·refine zW ?_;intros
   refine zC (fun e1=>?_) (fun e1=>?_)
   ·refine zW ?_;intros
    exact zR (h:=by rw [Yeg (.inr (.inl Zi))])
   ·refine zW ?_;intros
    refine zC (fun e2=>?_) (fun e2=>?_)
    ·refine zW ?_;intros
     exact zR (h:=by rw [Yeg (.inr (.inr Zi))])
    ·have hl:=lay_long (w:=w) (i:=i) (x:=x) (fun h0=>by omega)
     obtain ⟨y,hy⟩:=Yn (l:=x.kids) (k:=0) Zi
     have hym:=Zm hy
     have hlt:=Sexpr.kids_lt hym
     have hcy:=XT hym
     have hdy:=Yac.1 (Zs _) y hym
     have hd0:i+2+2*xdepthL x.kids≤66:=by rw [if_pos Zi] at ed;omega
     have hyo:=hN.2 y hym
     have hyl:=Yie (w:=w) (i:=i+1) hyo Zi
     refine zW ?_;intros
     rename_i gb
     refine zI hk hy (fun p hp=>?_)
     refine zL hp ?_
     intro cs hcs
     obtain ⟨vk2,rfl,hR⟩:=Yh hcs
     obtain ⟨A2,n2,c2,rfl,_⟩:=hR.kids
     refine zW ?_;intros
     ((refine zG ?_);refine Yw Zz Zz (YkF s (i:=i+1) Zi hR hyo Zi Zi hw hT) ?_)
     refine zG ?_;refine YeC (a:=[40]) Zz Zz (by simp;omega) ?_
     refine Ya Zz (Ym [_] [_] Zz Zz Zz (YfB (Bld.new gb) (by rw [Wo];simp;omega)) (fun r1 fz1 H1 hle1 hR1=>?_))
     obtain ⟨rfl,rfl,hB⟩:=hR1
     refine Seq.perm (Zq (l₁:=[_])) ?_
     have hkk:x.kids=y::x.kids.drop 1:=by
      cases hq:x.kids with
      | nil=>simp [hq] at hy
      | cons a b=>simp [hq] at hy;subst hy;rfl
     have hcr:xcountL (x.kids.drop 1)≤xcountL x.kids:=by
      have h0:xcountL x.kids=xcountL (y::x.kids.drop 1):=congrArg xcountL hkk
      rw [xcountL] at h0;omega
     have hB2:Bld gb (40::(lay w y (i+1)++layT w ((x.kids.drop 1).take 0) (i+2))) H1:=by simpa [Yds,layT] using hB
     have hlT:∀ k,(layT w ((x.kids.drop 1).take k) (i+2)).length≤102*4096:=fun k=>by
      have h0:=layT_len (w:=w) (M:=66) (l:=(x.kids.drop 1).take k) (i:=i+2) (Yfk.2 (fun z hz=>Yjb (hN.2 z (List.mem_of_mem_drop (List.mem_of_mem_take hz))))) (by
       have:xdepthL ((x.kids.drop 1).take k)≤xdepthL x.kids:=Yac.2 (fun z hz=>Yac.1 (Zs _) z (List.mem_of_mem_drop (List.mem_of_mem_take hz)))
       omega)
      have h1:=YdT (l:=x.kids.drop 1) (k:=k)
      omega
     refine zW ?_;intros
     refine zG ?_;refine Xu T (j:=1) Zz Zz Zz Zz Zz Zz hk Zi (fun B hS=>?_)
     refine zW ?_;intros
     refine Yl (fun q σ fz' H'=>∃ k:Nat,k≤n - 1∧q=n - 1 - k∧σ=[(45,.int .i64 k),(44,.int .i64 ((n - 1:Nat):Int)),(43,.slice B (n - 1) (ca - 1)),(8,.pointer (some ⟨gb,0,none⟩)),(2,.int .i64 i),(1,.int .i64 w)]∧fz=fz'∧Bld gb (40::(lay w y (i+1)++layT w ((x.kids.drop 1).take k) (i+2))) H')
      ⟨0,Z0 _,rfl,rfl,rfl,hB2⟩ Zw Zb ?_
     rintro q σ fz' H' ⟨k,hk',rfl,rfl,rfl,hBk⟩
     have hdl:(x.kids.drop 1).length=n - 1:=by rw [List.length_drop,l1]
     refine zW ?_;intros
     refine zC (fun c1=>?_) (fun c1=>?_)
     ·obtain ⟨z,hz⟩:=Yn (l:=x.kids.drop 1) (k:=k) Zi
      have hzm:z∈x.kids:=List.mem_of_mem_drop (Zm hz)
      have hltz:=Sexpr.kids_lt hzm
      have hcz:=XT hzm
      have hdz:=Yac.1 (Zs _) z hzm
      have hzo:=hN.2 z hzm
      have hzl:=Yie (w:=w) (i:=i+2) hzo Zi
      have hlk:=hlT k
      refine zW ?_;intros
      refine zI hS hz (fun p2 hp2=>?_)
      refine zL hp2 ?_
      intro cs2 hcs2
      obtain ⟨vk3,rfl,hR3⟩:=Yh hcs2
      obtain ⟨A3,n3,c3,rfl,_⟩:=hR3.kids
      refine zWO ?_;intros
      rename_i gk
      refine Wp.drawK (Hq:=[_]) T.mixed Zj Zj Zb ?_
      refine zW ?_;intros
      ((refine zG ?_);refine Yw Zz Zz (repeat_q (n:=i+2) Zi) ?_)
      refine zG ?_;refine YeC (a:=[10]) Zz Zz (by simp;omega) ?_
      refine zW ?_;intros
      ((refine zG ?_);refine Yw Zz Zz (YkF s (i:=i+2) Zi hR3 hzo Zi Zi hw hT) ?_)
      refine zG ?_;refine YeC Zz Zz (by simp;omega) ?_
      refine Yf ?_
      refine YM ⟨by kernel_rfl,?_⟩
      refine Yt (Does.perm (Zq (l₂:=[_])) (Ym _ [_] Zz Zz Zz (YfB hBk (by rw [Wo];simp only [List.length_cons,List.length_append,List.length_replicate,List.length_nil];omega)) (fun r2 fz2 H2 hle2 hR2=>?_)))
      obtain ⟨rfl,rfl,hB3⟩:=hR2
      refine ⟨⟨Le.refl _,by intro p hp;simp only [List.mem_singleton] at hp;subst hp;simp⟩,?_⟩
      refine Ch.done ?_
      have hB4:Bld gb (40::(lay w y (i+1)++layT w ((x.kids.drop 1).take (k+1)) (i+2))) H2:=by
       rw [YlR hz]
       rw [Yds] at hB3
       simpa only [List.cons_append,List.append_assoc,List.nil_append] using hB3
      refine zW ?_;intros
      exact Yz ⟨k+1,by omega,rfl,rfl,rfl,hB4⟩ Zi Zw (List.sublist_append_left _ _)
     ·have hk1:k=n - 1:=by omega
      subst hk1
      rw [Zl Zi] at hBk
      have hll:=hlT (n - 1)
      rw [Zl Zi] at hll
      refine zW ?_;intros
      refine Ya Zz (Ym _ [] (List.append_nil _).symm Zz Zz (YmA hBk (by simp) (by simp only [List.length_cons,List.length_append];omega)) (fun r2 fz2 H2 hle2 hR2=>?_))
      obtain ⟨rfl,rfl,rfl⟩:=hR2
      refine zG ?_;refine YeC (b:=[41]) Zz Zz (by simp only [List.length_cons,List.length_append,List.length_nil];omega) ?_
      refine zW ?_;intros
      exact zR (h:=by rw [hl,hkk];rfl)
set_option maxHeartbeats 1000000 in
theorem YkG {x:Sexpr} (h:YW fz x vk) (hT:TabF fz):
 QFn prog 84 [.agg #[.int .i64 x.kind,.int .i64 x.value,.int .i64 x.line,.int .i64 x.column,.string x.text,vk],.int .i64 80] fz (if XVal x then .tuple #[.string (strOf (lay 80 x 0)),.nilIface] else .tuple #[.string ⟨#[]⟩,errV 2]):=by
 refine GFn.quiet ?_
 obtain ⟨A,n,ca,rfl,hk⟩:=h.kids
 refine zF Tryz.func84 Tryz.ntmps84 (fun w0=>?_)
 refine Yk (Yr (Ya Zz (Xc _ Zz Zz (fun g0=>?_))))
 refine zW ?_;intros
 refine zb (WH h) (fun f1=>?_) (fun f1=>?_)
 ·have hv:=Zt f1
  refine zW ?_;intros
  refine zG ?_;refine q_min Zz Zz ?_
  refine zW ?_;intros
  ((refine zG ?_);refine Yw Zz Zz (YkF (w:=80) (i:=0) _ (Zs _) h hv.1 hv.2.2 (by have:=hv.2.1;omega) Zi hT) ?_)
  refine zW ?_;intros
  exact ret2 rfl rfl rfl Zb (if_pos hv).symm
 ·have hv:=Zf f1
  refine zW ?_;intros
  exact ret2 rfl rfl rfl Zb (if_neg hv).symm
variable {v:Value}
theorem sx_x {x:Sexpr} (h:SxIs fz v x):∃ A n c,v=.agg #[.int .i64 x.kind,.int .i64 x.value,.int .i64 x.line,.int .i64 x.column,.string x.text,.slice A n c]∧YW fz x (.slice A n c):=by
 obtain ⟨cs,rfl,hr⟩:=h
 obtain ⟨vk,rfl,hX⟩:=Yh hr
 obtain ⟨A,n,c,rfl,_⟩:=hX.kids
 exact ⟨A,n,c,rfl,hX⟩
theorem Yki {x:Sexpr} (h:YW fz x vk) (hv:XVal x) (hT:TabF fz):
 QFn prog 32 [.agg #[.int .i64 x.kind,.int .i64 x.value,.int .i64 x.line,.int .i64 x.column,.string x.text,vk],.nilIface] fz (.tuple #[.string (strOf (lay 80 x 0++ [10])),.nilIface]):=by
 obtain ⟨A,n,c,rfl,_⟩:=h.kids
 have hL:=YkG h hT
 rw [if_pos hv] at hL
 have hl:=Yie (w:=80) (i:=0) hv.1 (by have:=hv.2.1;omega)
 have hc:=hv.2.2
 refine GFn.quiet ?_
 refine zF Tryz.func32 Tryz.ntmps32 (fun w0=>?_)
 refine Yk (Yr (Ya Zz (Xc _ Zz Zz (fun g0=>?_))))
 refine zW ?_;intros
 refine zc hL ?_
 refine zW ?_;intros
 refine zG ?_;refine YeC (b:=[10]) Zz Zz (by simp;omega) ?_
 refine zW ?_;intros
 exact ret2 rfl rfl rfl Zb rfl
theorem Yiz {x:Sexpr} (h:YW fz x vk):
 QFn prog 32 [.agg #[.int .i64 x.kind,.int .i64 x.value,.int .i64 x.line,.int .i64 x.column,.string x.text,vk],.iface 65 (.int .i64 2)] fz (.tuple #[.string ⟨#[]⟩,.iface 65 (.int .i64 2)]):=by
 obtain ⟨A,n,c,rfl,_⟩:=h.kids
 refine GFn.quiet ?_
 refine zF Tryz.func32 Tryz.ntmps32 (fun w0=>?_)
 refine Yk (Yr (Ya Zz (Xc _ Zz Zz (fun g0=>?_))))
 refine zW ?_;intros
 exact ret2 rfl rfl rfl Zb rfl
noncomputable def ptxtV (P:Prop) (l:List UInt8):Value:=.tuple #[.string (if P then strOf l else ⟨#[]⟩),errV (if P then 0 else 2)]
variable {d:Domain} {v1 v2 v3 v4 v5 v6:Value}
theorem pdom_q (h:DomainR fz d v1 v2 v3 v4 v5 v6) (hs:DomSm d) (hT:TabF fz):
 QFn prog 13 [.agg #[.string d.name,v1,v2,v3,v4,v5,v6]] fz (ptxtV (Yck d∧XVal (domX d)) (lay 80 (domX d) 0++ [10])):=by
 obtain ⟨A1,n1,b1,rfl,i1⟩:=h.types
 obtain ⟨A2,n2,b2,rfl,i2⟩:=h.constants
 obtain ⟨A3,n3,b3,rfl,i3⟩:=h.predicates
 obtain ⟨A4,n4,b4,rfl,i4⟩:=h.functions
 obtain ⟨A5,n5,b5,rfl,i5⟩:=h.actions
 obtain ⟨A6,n6,b6,rfl,i6⟩:=h.duratives
 refine GFn.quiet ?_
 refine zF Tryz.func13 Tryz.ntmps13 (fun w0=>?_)
 refine Yk (Yr (Ya Zz (Xc _ Zz Zz (fun g0=>?_))))
 refine zW ?_;intros
 refine Ya Zz (Ym [] _ Zz Zz Zz (YgP h hs) (fun v6 fz6 H6 hle6 hR6=>?_))
 obtain ⟨rfl,u,y,rfl,hy,hyx⟩:=hR6
 obtain ⟨A7,m7,c7,rfl,hX7⟩:=sx_x hy
 by_cases hP:Yck d∧XVal (domX d)
 ·have e:=hyx hP
  subst e
  rw [if_pos hP,show errV 0=.nilIface from rfl]
  refine zW ?_;intros
  refine zc (Yki hX7 hP.2 (hT.mono hle6)) ?_
  refine zW ?_;intros
  exact ret2 rfl rfl rfl Zb (by rw [ptxtV,if_pos hP,if_pos hP];rfl)
 ·rw [if_neg hP,Yj Zh]
  refine zW ?_;intros
  refine zc (Yiz hX7) ?_
  refine zW ?_;intros
  exact ret2 rfl rfl rfl Zb (by rw [ptxtV,if_neg hP,if_neg hP,Yj Zh];rfl)
end Go.Proofs.YtfjopfinkdhmaaaGreatDoor
namespace Go.Proofs.YtfjopfinkdhmaaaGreatDoor
open Go.Lx Go.RowKit
attribute [local instance 10] Classical.propDecidable
def bD:Bs:=⟨#[100]⟩
def bP:Bs:=⟨#[112]⟩
def sD:Domain:=⟨bD,[],[],[],[],[],[]⟩
def sP:Problem:=⟨bP,bD,[],[],[],XJ⟩
def kTxD:Bs:=⟨#[40,100,101,102,105,110,101,32,40,100,111,109,97,105,110,32,100,41,41]⟩
def kTxP:Bs:=⟨#[40,100,101,102,105,110,101,32,40,112,114,111,98,108,101,109,32,112,41,32,40,58,100,111,109,97,105,110,32,100,41,41]⟩
theorem nilP {α:Type} {p:α→Prop}:∀ x∈([]:List α),p x:=fun _ h=>by cases h
theorem nm_ok {s:Bs} (h1:0<s.size) (h2:s.size≤32) (h3:∀ b∈s.data.toList,LetP b.toNat) (h4:s.data.toList ∉ YaR.map (·.data.toList)):Y5 s:=by
 refine ⟨fun i hi=>.inl ?_,fun h=>by rw [h] at h1;exact absurd h1 Zh,h2,fun h=>h4 (List.mem_map.2 ⟨s,h,rfl⟩)⟩
 obtain ⟨b,hb,hb2⟩:=XV (s:=s) (k:=i) hi
 rw [hb2]
 refine h3 b ?_
 have:=Ydd hi
 rw [getElem?_pos s i hi] at hb
 injection hb with hb
 rw [hb] at this
 exact Zm this
def WrdP (s:Bs):Prop:=0<s.size∧s.size≤32∧(∀ b∈s.data.toList,(97≤(b.toNat:Int)∧(b.toNat:Int)≤122)∨(48≤(b.toNat:Int)∧(b.toNat:Int)≤57)∨b∈SymL)∧¬PreP s Wr∧¬DigP (Yav s 0)
instance {s:Bs}:Decidable (WrdP s):=inferInstanceAs (Decidable (_∧_))
theorem Yf4 {s:Bs} (h:WrdP s):YkB s:=by
 obtain ⟨h1,h2,h3,h4,h5⟩:=h
 refine ⟨fun h=>by rw [h] at h1;exact absurd h1 Zh,h2,h3,fun hn=>?_⟩
 have h6:=hn.1 0 (by rw [W3,if_neg h4];exact h1)
 rw [W3,if_neg h4] at h6
 exact h5 h6
theorem nD:Y5 bD:=nm_ok Zh Zh (by unfold LetP;decide) Zh
theorem nP:Y5 bP:=nm_ok Zh Zh (by unfold LetP;decide) Zh
theorem xl {k:Int} {l c:Int} {ks:List Sexpr} (hk:k=3) (h:∀ k∈ks,XOk k):XOk (.mk k 0 l c ⟨#[]⟩ ks):=Y8.2 ⟨.inr (.inr ⟨hk,rfl,rfl⟩),h⟩
theorem xw {s:Bs} {l c:Int} (h:YkB s):XOk (.mk 1 0 l c s []):=Y8.2 ⟨.inl ⟨rfl,h,rfl,rfl⟩,by intro k hk;cases hk⟩
theorem xc {k:Sexpr} {r:List Sexpr} (h:XOk k) (h2:∀ j∈r,XOk j):∀ j∈k::r,XOk j:=List.forall_mem_cons.2 ⟨h,h2⟩
theorem xk {s:Bs} {l c:Int} {r:List Sexpr} (h:WrdP s) (h2:∀ j∈r,XOk j):∀ j∈Sexpr.mk 1 0 l c s []::r,XOk j:=xc (xw (Yf4 h)) h2
theorem Ykp:Xh XJ=YF []:=by
 rw [YgD]
 have h1:¬kAnd=kAtom:=by decide
 have h2:¬kAnd=kSame:=by decide
 have h3:¬CmpOp kAnd:=by unfold CmpOp;decide
 have h4:¬(kAnd=XZ∨kAnd=WX):=by decide
 simp [XJ,Formula.op,Formula.kids,h1,h2,h3,h4]
theorem fok_true:FOk XJ:=by
 have h1:¬kAnd=kAtom:=by decide
 have h2:¬kAnd=kSame:=by decide
 have h3:¬CmpOp kAnd:=by unfold CmpOp;decide
 have o:XJ.op=kAnd:=rfl
 refine Wv.2 ⟨⟨⟨fun h=>absurd h h1,fun h=>absurd h h2,fun h=>absurd h (by rw [o];decide)⟩,⟨(0,false,0),?_,fun _ _=>⟨rfl,rfl⟩,rfl,rfl,fun _=>rfl⟩,nilP⟩,nilP,nilP⟩
 rw [YcM,o,if_neg Zh,if_neg h3,if_pos (.inl rfl)];rfl
theorem Yl5:FVal XJ:=⟨fok_true,by rw [Ykp];exact ⟨xl rfl nilP,by decide,by decide⟩⟩
theorem sD_ok:Yck sD:=⟨nD,nilP,nilP,nilP,nilP,nilP,nilP⟩
theorem sP_ok:YcA sP:=⟨nP,nD,nilP,nilP,nilP⟩
theorem domX_s:domX sD=YF [Yi YB,YF [Yi Y7,Yi bD]]:=by
 simp [domX,sD,grp,WJ]
theorem Ylg:XVal (domX sD):=by
 rw [domX_s]
 exact ⟨xl rfl (xk (by decide+kernel) (xc (xl rfl (xk (by decide+kernel) (xk (by decide+kernel) nilP))) nilP)),by decide,by decide⟩
theorem prbX_s:prbX sP=YF [Yi YB,YF [Yi Xe,Yi bP],YF [Yi YI,Yi bD]]:=by
 simp [prbX,sP,grp,WJ,Ykn,XJ,Formula.op,Formula.kids]
theorem sP_val:XVal (prbX sP):=by
 rw [prbX_s]
 exact ⟨xl rfl (xk (by decide+kernel) (xc (xl rfl (xk (by decide+kernel) (xk (by decide+kernel) nilP))) (xc (xl rfl (xk (by decide+kernel) (xk (by decide+kernel) nilP))) nilP))),by decide,by decide⟩
theorem s_tw:¬TwP [] (parN []):=fun ⟨k,x,h,_⟩=>by simp [parN] at h
theorem s_ex:ExP [] []:=nilP
theorem s_names:Yba sD []=none:=by simp [Yba,YeM,YdY,YfN,sD,repM]
theorem s_true:formM sD [] [] XJ=0:=by
 have h4:¬(Yib kAnd):=by unfold Yib;decide
 rw [YgE,if_neg Zh,if_neg (by show ¬ownM sD [] [] kAnd [] []≠0;rw [ownM,if_neg Zh,if_neg h4];decide)]
 rw [if_neg (by show ¬exprML sD [] _ []≠0;rw [exprML];decide)]
 show formML sD [] _ []=0
 rw [formML]
theorem s_long:¬LongP XJ:=by rw [Yef];simp [XJ,Formula.params,Formula.kids]
theorem s_chk:(Ya1 sD sP).2=0:=by
 have ho:Yab sD sP=[]:=rfl
 have hl:¬Ydm sD sP []:=by
  simp [Ydm,sD,sP,s_long]
 have hn:newM sD.types=0:=by
  show newM []=0
  rw [newM,if_neg s_tw];simp
 have h0:(XW sD [] sP 0).2=0:=by simp [XW,s_names]
 have h1:(XW sD [] sP 1).2=0:=by simp [XW,Ybw,sD,Xr]
 have h2:(XW sD [] sP 2).2=0:=by simp [XW,Ybw,sD,Xr,s_ex]
 have h3:(XW sD [] sP 3).2=0:=rfl
 have h4:(XW sD [] sP 4).2=0:=by simp [XW,numsL,sD,Xr]
 have h5:(XW sD [] sP 5).2=0:=by
  show (Xr idN (YaK sD [])).2=0
  have:YaK sD []=[]:=by simp [YaK,sD]
  rw [this]
  rfl
 have h6:(XW sD [] sP 6).2=0:=by simp [XW,WR,sD,sP,Yb1,Yf5]
 have h7:(XW sD [] sP 7).2=0:=by
  have e:(if sD.duratives=[] then formM sD [] [] sP.goal else Ybk sD [] [] sP.goal)=0:=by rw [if_pos (show sD.duratives=[] from rfl)];exact s_true
  simp only [XW,YhJ,e,ne_eq,not_true_eq_false,if_false]
 rw [Ya1,ho,if_neg (fun h=>h ⟨sD_ok,Ylg⟩),if_neg (fun h=>h ⟨Yl5,sP_ok,sP_val⟩),if_neg hl,if_neg (fun h=>h hn)]
 simp only [Ye0,h0,h1,h2,h3,h4,h5,h6,h7,if_true,Nat.zero_add,Nat.reduceAdd]
theorem tok_word {s:Bs} {p:Int × Int} (h:YkB s):tokX s p=.ok (.mk 1 0 p.1 p.2 s []):=by
 have h1:=Ygs.2 ⟨h.1,h.2.1,h.2.2.1⟩
 rw [tokX,if_neg h.2.2.2,if_pos h1.1,h1.2]
variable {k n:Nat}
theorem Yb8 {t:Bs} {f a:Nat} {st:List Lev} (hk:XO false t a=k) (hb:t[k]?=some 40) (hs:st.length≤32) (hn:n<4096):YbI t (f+1) a n st=YbI t f (k+1) (n+1) (⟨3,(posA t k).1,(posA t k).2,[]⟩::st):=by
 have hl:k<t.size:=by
  rcases Nat.lt_or_ge k t.size with h | h
  ·exact h
  ·rw [getElem?_neg t k Zi] at hb;cases hb
 rw [W1,hk,if_neg Zi]
 unfold Ya7
 rw [hb]
 simp only [if_true]
 rw [if_neg Zi]
theorem Ybs {t:Bs} {f a:Nat} {e e2:Lev} {st:List Lev} (hk:XO false t a=k) (hb:t[k]?=some 41):YbI t (f+1) a n (e::e2::st)=YbI t f (k+1) n (e2.add e.x::st):=by
 have hl:k<t.size:=by
  rcases Nat.lt_or_ge k t.size with h | h
  ·exact h
  ·rw [getElem?_neg t k Zi] at hb;cases hb
 rw [W1,hk,if_neg Zi]
 unfold Ya7
 rw [hb]
 simp only [if_neg (show ¬(41:UInt8)=40 by decide),if_true]
theorem Yaq {t:Bs} {f a e:Nat} {b:UInt8} {s:Bs} {e0:Lev} {st:List Lev} (hk:XO false t a=k) (hb:t[k]?=some b) (h1:b≠40) (h2:b≠41) (he:tokE t k=e) (hs:t.extract k e=s) (hw:YkB s) (hn:n<4096):
 YbI t (f+1) a n (e0::st)=YbI t f e (n+1) (e0.add (.mk 1 0 (posA t k).1 (posA t k).2 s [])::st):=by
 have hl:k<t.size:=by
  rcases Nat.lt_or_ge k t.size with h | h
  ·exact h
  ·rw [getElem?_neg t k Zi] at hb;cases hb
 rw [W1,hk,if_neg Zi]
 unfold Ya7
 rw [hb]
 simp only [if_neg h1,if_neg h2]
 rw [tokM,he,hs,tok_word hw]
 simp only
 rw [if_neg Zi]
 rfl
theorem Yju {t:Bs} {f a:Nat} {st:List Lev} (h:t.size≤XO false t a):YbI t (f+1) a n st=endM st:=by
 rw [W1,if_pos h]
instance {b:UInt8}:Decidable (StopP b):=inferInstanceAs (Decidable (_∨_))
def tokC:List UInt8→Nat
 | []=>0
 | b::r=>if StopP b then 0 else 1+tokC r
theorem tok_c:∀ (l:List UInt8),tokL l=tokC l
 | []=>rfl
 | b::r=>by
  rw [tokL,tokC,tok_c r]
  by_cases h:StopP b
  ·rw [if_pos h,if_pos h]
  ·rw [if_neg h,if_neg h]
theorem YdU {t:Bs} {e:Nat} (h:k+tokC (t.data.toList.drop k)=e):tokE t k=e:=by
 rw [tokE,tok_c];exact h
theorem Yb3 {t:Bs} {b:UInt8} (h:t.data.toList[k]?=some b):t[k]?=some b:=by
 have hl:k<t.size:=by
  rcases Nat.lt_or_ge k t.size with h1 | h1
  ·exact h1
  ·rw [List.getElem?_eq_none (by rw [XA];exact h1)] at h;cases h
 rw [Ydd hl] at h
 rw [getElem?_pos t k hl];exact h
def wE (l c:Int) (s:Bs):Sexpr:=.mk 1 0 l c s []
def lE (l c:Int) (ks:List Sexpr):Sexpr:=.mk 3 0 l c ⟨#[]⟩ ks
def xTD:Sexpr:=lE 1 1 [wE 1 2 YB,lE 1 9 [wE 1 10 Y7,wE 1 17 bD]]
theorem prd_D:prdM kTxD=.ok xTD:=by
 have h:YcH kTxD=.ok [xTD]:=by
  rw [YcH,if_neg Zh]
  show YbI kTxD (19+1) 0 0 _=_
  rw [Yb8 (k:=0) (by decide+kernel) (Yb3 rfl) Zh Zh]
  rw [Yaq (f:=18) (k:=1) (e:=7) (s:=YB) (by decide+kernel) (Yb3 rfl) Zh Zh (YdU (by decide+kernel)) (by decide+kernel) (Yf4 (by decide+kernel)) Zh]
  rw [Yb8 (f:=17) (k:=8) (by decide+kernel) (Yb3 rfl) Zh Zh]
  rw [Yaq (f:=16) (k:=9) (e:=15) (s:=Y7) (by decide+kernel) (Yb3 rfl) Zh Zh (YdU (by decide+kernel)) (by decide+kernel) (Yf4 (by decide+kernel)) Zh]
  rw [Yaq (f:=15) (k:=16) (e:=17) (s:=bD) (by decide+kernel) (Yb3 rfl) Zh Zh (YdU (by decide+kernel)) (by decide+kernel) (Yf4 (by decide+kernel)) Zh]
  rw [Ybs (f:=14) (k:=17) (by decide+kernel) (Yb3 rfl)]
  rw [Ybs (f:=13) (k:=18) (by decide+kernel) (Yb3 rfl)]
  rw [Yju (f:=12) (by decide+kernel)]
  rfl
 rw [prdM,h]
def xTP:Sexpr:=lE 1 1 [wE 1 2 YB,lE 1 9 [wE 1 10 Xe,wE 1 18 bP],lE 1 21 [wE 1 22 YI,wE 1 30 bD]]
theorem prd_P:prdM kTxP=.ok xTP:=by
 have h:YcH kTxP=.ok [xTP]:=by
  rw [YcH,if_neg Zh]
  show YbI kTxP (32+1) 0 0 _=_
  rw [Yb8 (k:=0) (by decide+kernel) (Yb3 rfl) Zh Zh]
  rw [Yaq (f:=31) (k:=1) (e:=7) (s:=YB) (by decide+kernel) (Yb3 rfl) Zh Zh (YdU (by decide+kernel)) (by decide+kernel) (Yf4 (by decide+kernel)) Zh]
  rw [Yb8 (f:=30) (k:=8) (by decide+kernel) (Yb3 rfl) Zh Zh]
  rw [Yaq (f:=29) (k:=9) (e:=16) (s:=Xe) (by decide+kernel) (Yb3 rfl) Zh Zh (YdU (by decide+kernel)) (by decide+kernel) (Yf4 (by decide+kernel)) Zh]
  rw [Yaq (f:=28) (k:=17) (e:=18) (s:=bP) (by decide+kernel) (Yb3 rfl) Zh Zh (YdU (by decide+kernel)) (by decide+kernel) (Yf4 (by decide+kernel)) Zh]
  rw [Ybs (f:=27) (k:=18) (by decide+kernel) (Yb3 rfl)]
  rw [Yb8 (f:=26) (k:=20) (by decide+kernel) (Yb3 rfl) Zh Zh]
  rw [Yaq (f:=25) (k:=21) (e:=28) (s:=YI) (by decide+kernel) (Yb3 rfl) Zh Zh (YdU (by decide+kernel)) (by decide+kernel) (Yf4 (by decide+kernel)) Zh]
  rw [Yaq (f:=24) (k:=29) (e:=30) (s:=bD) (by decide+kernel) (Yb3 rfl) Zh Zh (YdU (by decide+kernel)) (by decide+kernel) (Yf4 (by decide+kernel)) Zh]
  rw [Ybs (f:=23) (k:=30) (by decide+kernel) (Yb3 rfl)]
  rw [Ybs (f:=22) (k:=31) (by decide+kernel) (Yb3 rfl)]
  rw [Yju (f:=21) (by decide+kernel)]
  rfl
 rw [prdM,h]
theorem xTD_val:XVal xTD:=⟨xl rfl (xk (by decide+kernel) (xc (xl rfl (xk (by decide+kernel) (xk (by decide+kernel) nilP))) nilP)),by decide,by decide⟩
theorem xTP_val:XVal xTP:=⟨xl rfl (xk (by decide+kernel) (xc (xl rfl (xk (by decide+kernel) (xk (by decide+kernel) nilP))) (xc (xl rfl (xk (by decide+kernel) (xk (by decide+kernel) nilP))) nilP))),by decide,by decide⟩
theorem YhI {l c l2 c2:Int} {w:Bs} {r:List Sexpr}:XF (lE l c (wE l2 c2 w::r))=some (w,r):=by
 unfold XF lE wE
 simp [Sexpr.kids,Sexpr.kind,Sexpr.text]
theorem dParse_D:Yb2 xTD=.ok sD:=by
 have hp:dPar xTD=.ok sD:=by
  have ht:titM (lE 1 9 [wE 1 10 Y7,wE 1 17 bD])=.ok bD:=by
   rw [titM,YhI]
   simp only
   rw [if_pos ⟨trivial,rfl⟩,if_pos (show Y5 (wE 1 17 bD).text from nD)]
   rfl
  rw [dPar,xTD,YhI]
  simp only [if_true]
  rw [ht]
  rfl
 rw [Yb2,if_pos xTD_val,hp]
 simp only
 rw [if_pos ⟨sD_ok,Ylg⟩]
theorem pParse_P:YcB xTP=.ok sP:=by
 have hp:pPar xTP=.ok sP:=by
  have h1:nmdM Xe (lE 1 9 [wE 1 10 Xe,wE 1 18 bP])=.ok bP:=by
   rw [nmdM,YhI]
   simp only
   rw [if_pos ⟨trivial,rfl⟩,if_pos (show Y5 (wE 1 18 bP).text from nP)]
   rfl
  have h2:nmdM YI (lE 1 21 [wE 1 22 YI,wE 1 30 bD])=.ok bD:=by
   rw [nmdM,YhI]
   simp only
   rw [if_pos ⟨trivial,rfl⟩,if_pos (show Y5 (wE 1 30 bD).text from nD)]
   rfl
  rw [pPar,xTP,YhI]
  simp only [if_true]
  rw [h1]
  simp only
  rw [h2]
  rfl
 rw [YcB,if_pos xTP_val,hp]
 simp only
 rw [if_pos ⟨Yl5,sP_ok,sP_val⟩]
theorem load_DP:Yfr kTxD kTxP=.ok (sD,sP):=by
 rw [Yfr,prd_D]
 simp only
 rw [dParse_D]
 simp only
 rw [prd_P]
 simp only
 rw [pParse_P]
 simp only
 rw [if_pos s_chk]
variable {fz:FZ}
theorem sD_R:DomainR fz sD (.slice none 0 0) (.slice none 0 0) (.slice none 0 0) (.slice none 0 0) (.slice none 0 0) (.slice none 0 0):=
 ⟨by unfold Short sD bD;decide,IsSl.nil,IsSl.nil,IsSl.nil,IsSl.nil,IsSl.nil,IsSl.nil⟩
theorem sD_sm:DomSm sD:=⟨by decide,by decide,by decide,nilP,by decide,nilP,by decide,nilP,by decide,nilP⟩
theorem lay_s:lay 80 (domX sD) 0++ [10]=[40,100,101,102,105,110,101,32,40,100,111,109,97,105,110,32,100,41,41,10]:=by
 rw [domX_s,Yeg (.inr (.inr Zh))]
 rfl
end Go.Proofs.YtfjopfinkdhmaaaGreatDoor
namespace Go.Proofs.YtfjopfinkdhmaaaGreatDoor
open Go.Lx Go.RowKit
attribute [local instance 10] Classical.propDecidable
open Go.Proofs.Tryz (prog)
variable {fz:FZ}
set_option maxHeartbeats 8000000 in
theorem YmB (hT:TabF fz) (hX:MaxF fz):QFn prog 5 [] fz (.bool true):=by
 have hpd:=pdom_q (fz:=fz) sD_R sD_sm hT
 have hP:Yck sD∧XVal (domX sD):=⟨sD_ok,Ylg⟩
 rw [ptxtV,if_pos hP,if_pos hP,lay_s,show errV 0=.nilIface from rfl] at hpd
 refine GFn.quiet ?_
 refine zF Tryz.func5 Tryz.ntmps5 (fun w0=>?_)
 refine zW ?_;intros
 refine zc hpd ?_
 refine zW ?_;intros
 refine Ya Zz (Ym [] _ Zz Zz Zz (YeO (a:=kTxD) (b:=kTxP) hT hX) (fun r1 fz1 H1 hle1 hR1=>?_))
 obtain ⟨rfl,hR1⟩:=hR1
 rw [load_DP] at hR1
 obtain ⟨d,p,cd1,cp1,pl1,hd1,hp1,rfl,rfl,rfl⟩:=hR1
 rw [List.nil_append]
 obtain ⟨v1,v2,v3,v4,v5,v6,rfl,hD1⟩:=Wc hd1
 obtain ⟨w1,w2,w3,w4,w5,w6,w7,rfl,hP1⟩:=XP hp1
 have hD1':=hD1
 have hP1':=hP1
 obtain ⟨aD0,ad0,az0,rfl,_⟩:=hD1.types
 obtain ⟨aD1,ad1,az1,rfl,_⟩:=hD1.constants
 obtain ⟨aD2,ad2,az2,rfl,_⟩:=hD1.predicates
 obtain ⟨aD3,ad3,az3,rfl,_⟩:=hD1.functions
 obtain ⟨aD4,ad4,az4,rfl,_⟩:=hD1.actions
 obtain ⟨aD5,ad5,az5,rfl,_⟩:=hD1.duratives
 obtain ⟨aP0,ap0,ay0,rfl,_⟩:=hP1.objects
 obtain ⟨aP1,ap1,ay1,rfl,_⟩:=hP1.init
 obtain ⟨aP2,ap2,ay2,rfl,_⟩:=hP1.values
 obtain ⟨aP3,ap3,ay3,rfl,_⟩:=hP1.goal.args
 obtain ⟨aP4,ap4,ay4,rfl,_⟩:=hP1.goal.params
 obtain ⟨aP5,ap5,ay5,rfl,_⟩:=hP1.goal.exprs
 obtain ⟨aP6,ap6,ay6,rfl,_⟩:=hP1.goal.kids
 refine zW ?_;intros
 refine zC (fun e1=>?_) (fun e1=>?_)
 rotate_left 1
 ·exact absurd rfl e1
 refine zW ?_;intros
 refine zC (fun e2=>?_) (fun e2=>?_)
 rotate_left 1
 ·exact absurd rfl e2
 refine zW ?_;intros
 refine zC (fun e3=>?_) (fun e3=>?_)
 rotate_left 1
 ·exact absurd rfl e3
 refine zW ?_;intros
 refine zC (fun e4=>?_) (fun e4=>?_)
 rotate_left 1
 ·exact absurd rfl e4
 refine zW ?_;intros
 exact zR (h:=rfl)
end Go.Proofs.YtfjopfinkdhmaaaGreatDoor
namespace Go.Lx
open Go.RowKit Go.ChangeShapes Go.WideShapes Go.Deep
section
variable {H:Type} {enc:TypeId × Value→H} {P:Program} {w:World} {base:Nat} {spare:Nat→Bool} {held:Bool}
def Yi5 (enc:TypeId × Value→H) (P:Program) (w:World) (base:Nat) (spare:Nat→Bool) (held:Bool) {α:Type} (L:Lay α) (t:TypeId) (fuel:Nat):Prop:=
 ∀ cs x,DataW.trod enc P w base spare held fuel t cs=some x→(∀ q∈x.1.weights P t,q≤reachBytes)→∃ d,L.rep (fzOf w) d cs
variable {t:TypeId}
theorem YdX {fuel:Nat} (ht:P.underlying t=some .string):Yi5 enc P w base spare held strL t fuel:=fun cs x h _=>by
 obtain ⟨s,h1,_,h2⟩:=DataW.trod_string ht h
 exact ⟨s,h1,by simpa [maxLen] using h2⟩
variable {cs:List Value} {i k n:Nat}
theorem YeJ {α:Type} {L:Lay α} {fs:Array Field} {xs:List (DataW H × List MemPlace)} {tys:List TypeId} (hf:∀ (i:Nat) (f:Field),fs[i]?=some f→DataW.trod enc P w base spare held n f.type ((cs.drop f.offset).take (P.cellsOf f.type))=xs[i]?)
 (hq:∀ q∈DataW.weightsEach P tys (xs.map (·.1)),q≤reachBytes) (hlen:xs.length=fs.size) {f:Field} (hi:fs[i]?=some f) (ht:tys[i]?=some f.type) (he:Yi5 enc P w base spare held L f.type n) (hc:P.cellsOf f.type=k) {cs':List Value} (hv:(cs.drop f.offset).take k=cs'):
 ∃ d,L.rep (fzOf w) d cs':=by
 have hil:i<xs.length:=by rw [hlen];exact (Array.getElem?_eq_some_iff.1 hi).1
 have hx:xs[i]?=some xs[i]:=List.getElem?_eq_getElem hil
 have h1:=hf i f hi
 rw [hc,hx,hv] at h1
 exact he _ _ h1 (fun q hq'=>hq q (DataW.weights_mem_each ht (by rw [List.getElem?_map,hx];rfl) q hq'))
variable {fz:FZ} {v:Value}
theorem str_of {s:Bs} (h:strL.rep fz s [v]):v=.string s∧Short s:=by
 obtain ⟨e,hs⟩:=h
 injection e with e
 exact ⟨e,hs⟩
end
end Go.Lx
set_option maxRecDepth 100000
namespace Go.Proofs.YtfjopfinkdhmaaaGreatDoor
open Go.ChangeShapes Go.WideShapes Go.ChangeAt Go.RowKit Go.Lx Go.Deep
section
variable {H:Type} {enc:TypeId × Value→H} {w:World} {base:Nat} {spare:Nat→Bool} {held:Bool}
theorem YiC {fuel:Nat}:Yi5 enc Tryz.prog w base spare held paramL 23 fuel:=fun cs x h hq=>by
 obtain ⟨xs,n,hfu,rfl,hcl,hxl,hf⟩:=DataW.trod_struct Tryz.underlying23 h
 have hc:Tryz.prog.cellsOf 23=2:=by kernel_rfl
 rw [hc] at hcl
 simp only [DataW.weights,Tryz.underlying23] at hq
 match cs,hcl with
 | [v0,v1],_=>
  obtain ⟨d0,r0⟩:=(YeJ hf hq hxl (i:=0) (k:=1) (cs':=[v0]) rfl rfl (YdX Tryz.underlying9) Zj rfl)
  obtain ⟨rfl,k0⟩:=str_of r0
  obtain ⟨d1,r1⟩:=(YeJ hf hq hxl (i:=1) (k:=1) (cs':=[v1]) rfl rfl (YdX Tryz.underlying9) Zj rfl)
  obtain ⟨rfl,k1⟩:=str_of r1
  exact ⟨⟨d0,d1⟩,rfl,⟨k0,k1⟩⟩
variable {v:Value}
theorem Ykj {r:Reach} {b0:Nat} {d:DataW H} {p:List MemPlace} (hv:Value.okWide Tryz.prog w r b0 23 v) (h:DataW.Trod enc Tryz.prog w base spare held 23 v d p) (hq:∀ q∈d.weights Tryz.prog 23,q≤reachBytes):
 ∃ a b:ByteArray,v=.agg #[.string a,.string b]:=by
 obtain ⟨cs,rfl,hsz⟩:=okWide_struct Tryz.underlying23 hv
 obtain ⟨l⟩:=cs
 obtain ⟨fuel,hf⟩:=h
 obtain ⟨⟨a,b⟩,rfl,_⟩:=YiC (fuel:=fuel) _ _ hf hq
 exact ⟨a,b,rfl⟩
end
theorem YeI:ownKnob Tryz.prog.godebug=none:=by kernel_rfl
theorem YeP:laidOutB Tryz.prog=true:=by kernel_rfl
theorem Ykl {W:World} (h:W.ShapedOpen Tryz.prog):MaxF (fzOf W):=by
 obtain ⟨m,hm⟩:=cell_of_shapedOpen_int (P:=Tryz.prog) (g:=1) (t:=3) (zero:=#[.int .i64 0]) h (of_decide_eq_true Zj) Zj rfl Zj Zj Tryz.underlying3
 exact ⟨m,cellF_of hm⟩
theorem Yj9 {W:World} (h:laidMetH Tryz.prog Rows.printerCasesRow.laid W):TabF (fzOf W):=by
 have h1:=h.filter (fun x=>x.1== "internal/strconv.uint64pow10")
 have h2:laidMetH Tryz.prog [("internal/strconv.uint64pow10",Rows.laid_internal_strconv_uint64pow10)] W:=h1
 rw [MakeChecks.laidMetH_plain _ _ _ Zj] at h2
 have h3:Lib.TabIs Tryz.prog W "internal/strconv.uint64pow10" .u64 Lib.pow10Tab:=Lib.tabIs_of_head (rest:=[]) (g:=0) (t:=282) (e:=257) (n:=20) Zj Zj Tryz.underlying282 Tryz.underlying257 Zj Zj h2
 intro w hw
 have hg:Tryz.prog.globalNamed "internal/strconv.uint64pow10"=some 0:=by kernel_rfl
 unfold Lib.TabIs World.var? at h3 ⊢
 rw [hg] at h3 ⊢
 simp only [Option.bind_some] at h3 ⊢
 cases hb:W.heap[0]? with
 | none=>rw [hb] at h3;cases h3
 | some o=>
  rw [hb] at h3
  rw [hw.keep 0 o hb]
  exact h3
theorem Yhk (os:Os) {H:Type} (enc:TypeId × Value→H):∃ places,DataW.whole enc Tryz.prog ((World.laidAll Tryz.prog os Rows.printerCasesRow.laid).forCall (fun _ _=>0) ⟨#[],#[.agg #[.string ⟨#[]⟩,.string ⟨#[]⟩]],[]⟩).memory Tryz.f3.params.toList (OpenSpec.ofChange Rows.printerCasesSpec).vars false (#[.agg #[.string ⟨#[]⟩,.string ⟨#[]⟩]]:Array Value).toList 8=some ([.agg [.lit (.string []),.lit (.string [])]],[],places):=⟨[],by kernel_rfl⟩
set_option maxHeartbeats 4000000 in
theorem Ygo (os:Os) (started:os.Started) (H:Type) (enc:TypeId × Value→H) (F:Stop.Interp):
 ReturnsInHanded {} Tryz.checked os 3 .any ((OpenSpec.ofChange Rows.printerCasesSpec).preRow enc Tryz.prog Tryz.f3 Rows.printerCasesRow.domain false Rows.printerCasesRow.laid) (((OpenSpec.ofChange Rows.printerCasesSpec).at F).post enc Tryz.prog Tryz.f3 false true false false):=by
 obtain ⟨places,hx⟩:=Yhk os enc
 refine returnsInHanded_of_row (C:=Tryz.checked) (s:=OpenSpec.ofChange Rows.printerCasesSpec) YeI started Zj Tryz.func3
  ⟨World.laidAll Tryz.prog os Rows.printerCasesRow.laid,fun _ _=>0,⟨#[],#[.agg #[.string ⟨#[]⟩,.string ⟨#[]⟩]],[]⟩,World.laidAll_os _ _ _,World.shaped_of_ZipB Zj Zj,rfl,(Input.okWide_of_okWideB Zj).2,
   OpenSpec.preRow_of_cond 8 hx Zj (fun k hk=>by cases hk) Zj (by rw [MakeChecks.laidMetH_plain _ _ _ Zj];exact laidMet_laidAll _ Zj Zj),
   by simp only [Assume.holds];exact ⟨by simp,by simp,fun _=>Modest.zero,by simp,by simp⟩⟩ ?_
 intro W base args ds gs before hval0 hW _ _ hsz0 hL hsh _
 have hval:∀ (j:Nat) t v,Tryz.f3.params[j]?=some t→args[j]?=some v→Value.okWide Tryz.prog W .any base t v:=hval0
 have hsz:(DataW.weightsEach Tryz.prog (Tryz.f3.params.toList++Rows.printerCasesSpec.plain.varTypes Tryz.prog) (ds++gs)).all (·≤reachBytes)=true:=hsz0
 have hW':DataW.Whole enc Tryz.prog Tryz.f3.params.toList Rows.printerCasesSpec.vars false W args.toList ds gs before:=hW
 obtain ⟨p,q,hA0,hV,rfl,_,_⟩:=hW
 have hA:DataW.TrodAll enc Tryz.prog W 0 (fun _=>true) true Tryz.f3.params.toList args.toList ds p:=hA0
 rw [Tryz.params3] at hA hval hsz
 obtain ⟨v0,d0,rfl,rfl,h0⟩:=trodAll_one hA
 obtain ⟨rfl,rfl⟩:=trodVars_none hV
 clear hA0 hval0 hsz0
 simp only [List.append_nil] at hW'
 have hlt:∀ x∈p,x.block<W.heap.size:=fun x hx=>hW'.lt x hx
 have hq0:∀ n∈d0.weights Tryz.prog 23,n≤reachBytes:=fun n hn=>by
  have:=List.all_eq_true.1 hsz n (DataW.weights_mem_each (j:=0) (t:=23) (d:=d0) rfl rfl n hn)
  simpa using this
 obtain ⟨a,b,rfl⟩:=Ykj (hval 0 23 v0 rfl rfl) h0 hq0
 have hT:=Yj9 hL
 have hX:=Ykl hsh
 refine ((lcases_q hT hX (fun _ h=>YmB (hT.mono h) (hX.mono h)) load_up).calls (hp_of W)).mono fun e W' ⟨he1,hfr⟩=>?_
 have hb:=below_of hfr
 have k0:=Below.trod YeP Zj (of_decide_eq_true Zj) h0 hb (fun x hx=>hlt x (by simp [hx]))
 show ∃ v,e=.returned v∧Rows.printerCasesSpec.post enc Tryz.prog Tryz.f3 false true false false W _ v W'
 exact ⟨_,he1,[d0],[],_,[],_,[],hW',trodAll_mk1 (shut_bool Tryz.underlying4 true),trodAll_mk1 k0,rfl,hb.frame _,fun h=>by cases h⟩
end Go.Proofs.YtfjopfinkdhmaaaGreatDoor
