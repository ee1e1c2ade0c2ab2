/- The texts PBytes, PWalkG, PWalkH, PWalkI, PRefA, laid together. Conditions: none. -/
import Derived.Test.YtbhlgkibgajajaaGreatDoorQLB
import Derived.Test.YtbhlgkibgajajaaGreatDoorQLC
import Derived.Test.YtbhlgkibgajajaaGreatDoorQLD
import Derived.Test.YtbhlgkibgajajaaGreatDoorQLE
import Derived.Lib.ConvBytes
import Derived.Laws.BytesArg
import Derived.Test.YtbhlgkibgajajaaGreatDoorQLF
import Derived.Laws.StandIn
import Derived.Lib.Bytealg
namespace Go.Lx
open Go.RowKit
def YaJ (b:UInt8):Value:=Value.int .u8 b.toNat
def Yam (bs:List UInt8) (k:Nat):List Value:=bs.map YaJ++List.replicate k (Value.int .u8 0)
def Yal (e:TypeId) (bs:List UInt8) (k:Nat):Obj:=.cells (Yam bs k).toArray e (bs.length+k,bs.length+k+1)
theorem Yhm {bs:List UInt8} {k:Nat}:(Yam bs k).length=bs.length+k:=by simp [Yam]
theorem Ycb {bs:List UInt8} {k j:Nat} (h:j<bs.length):(Yam bs k)[j]?=some (YaJ bs[j]):=by
 simp [Yam,List.getElem?_append,h]
theorem Yhl {bs:List UInt8} {k j:Nat} {b:UInt8} (h:j<bs.length):(Yam bs k).set j (YaJ b)=Yam (bs.set j b) k:=by
 unfold Yam
 rw [List.set_append_left _ _ (by simpa using h),List.map_set]
theorem Inv.made {cx:Cx} {fz:FZ} {H:HP} {w w':World} {o:Obj} (h:Inv cx fz H w) (h1:w'.os=w.os) (h2:w'.tape=w.tape) (h3:w'.output=w.output) (h4:w'.heap.size=w.heap.size+1) (h5:w'.heap[w.heap.size]?=some o) (h6:∀ j,j<w.heap.size→w'.heap[j]?=w.heap[j]?):
 Inv cx fz ((w.heap.size,o)::H) w':=by
 refine (h.alloc o).world (h1.trans rfl) (h2.trans rfl) (h3.trans rfl) ?_
 apply Array.ext_getElem?
 intro j
 simp only [World.alloc,Array.getElem?_push]
 by_cases hj:j=w.heap.size
 ·subst hj;simp [h5]
 ·simp only [hj,if_false]
  by_cases hl:j<w.heap.size
  ·exact h6 j hl
  ·rw [Array.getElem?_eq_none Zi,Array.getElem?_eq_none Zi]
section
variable {P:Program} {cx:Cx} {r:Operand→Option Value} {fz:FZ} {H:HP} {V:Value→Prop} {dst:Option Nat} {ty:TypeId} {pos:String} {af:Array Edge} {gd:Option (Nat × Bool)}
theorem k_bytes (T:Tab P) {src dt e:TypeId} {x:Operand} {X Y Z:Ty} {s:ByteArray} {K:Value→FZ→HP→Prop} (hX:T.inf src=some X) (hXd:X.desc=.string) (hY:T.inf dt=some Y) (hYd:Y.desc=.slice e) (hZ:T.inf e=some Z) (hZd:Z.desc=.int .u8)
 (hx:r x=some (.string s)) (h:∀ g k,K (.slice (some ⟨g,0,none⟩) s.size (s.size+k)) fz ((g,Yal e s.data.toList k)::H)):Does P cx ⟨dst,.convert src dt x,ty,pos,af,gd⟩ r fz H K:=by
 refine Does.of fun ρ w hr hw=>?_
 have hrun:=Go.Lib.run_convert_string_bytes (P:=P) w src dt e s (und_plain T hX hXd rfl) (und_plain T hY hYd rfl) (und_plain T hZ hZd rfl)
 have:(execOp ρ ⟨dst,.convert src dt x,ty,pos,af,gd⟩).run P w=.ok (.value (.slice (some ⟨w.heap.size,0,none⟩) s.size (grownCap w s.size 0 e))) (Go.Lib.bytesWorld w e s):=by
  simp only [execOp,hr _ _ hx,Sem.run_bind,hrun,Result.andThen_ok,Sem.run_pure]
 rw [this]
 obtain ⟨k,hk⟩:∃ k,grownCap w s.size 0 e=s.size+k:=⟨grownCap w s.size 0 e - s.size,by have:=grownCap_ge w s.size 0 e;omega⟩
 have hcells:Go.Lib.bytesCells w e s=(Yam s.data.toList k).toArray:=by
  simp [Go.Lib.bytesCells,Yam,hk]
  exact fun _ _=>rfl
 have hlen:s.data.toList.length=s.size:=by rw [Array.length_toList];rfl
 have hnew:=Go.Lib.bytesWorld_at_new w e s
 rw [hcells] at hnew
 have hobj:(Go.Lib.bytesWorld w e s).heap[w.heap.size]?=some (Yal e s.data.toList k):=by
  rw [hnew];simp [Yal,Yhm]
 rw [hk]
 exact ⟨fz,_,Inv.made hw rfl rfl rfl (Go.Lib.bytesWorld_size w e s) hobj (fun j hj=>Go.Lib.bytesWorld_at_old w e s j hj),h _ k⟩
theorem YfT (T:Tab P) {t t':TypeId} {x:Operand} {X:Ty} {g j:Nat} {bs:List UInt8} {k:Nat} {b:UInt8} (i:Nat) (hT:T.inf t=some X) (hd:isAggD X.desc=false) (hx:r x=some (.pointer (some ⟨g,j,none⟩))) (hi:H[i]?=some (g,Yal t' bs k)) (hb:bs[j]?=some b) (h:V (YaJ b)):
 DoesQ P cx ⟨dst,.load t x,ty,pos,af,gd⟩ r fz H V:=by
 obtain ⟨hj,rfl⟩:=List.getElem?_eq_some_iff.1 hb
 exact Yo T i hT hd hx hi (Ycb hj) h
theorem Yfm (T:Tab P) {t t':TypeId} {x y:Operand} {X:Ty} {pre post:HP} {g j:Nat} {bs:List UInt8} {k:Nat} {b:UInt8} {K:Value→FZ→HP→Prop} (hT:T.inf t=some X)
 (hx:r x=some (.pointer (some ⟨g,j,none⟩))) (hy:r y=some (YaJ b)) (hH:H=pre++(g,Yal t' bs k)::post) (hs:X.size=1) (hj:j<bs.length)
 (h:K undef fz (pre++(g,Yal t' (bs.set j b) k)::post)):Does P cx ⟨dst,.store t x y,ty,pos,af,gd⟩ r fz H K:=by
 refine Does.of fun ρ w hr hw=>?_
 subst hH
 have hb:=(hw.hp.own (g,Yal t' bs k) (by simp)).1
 have hcell:w.cell? ⟨g,j,none⟩=some (YaJ bs[j]):=by
  simp only [World.cell?,hb,Yal]
  simpa using Ycb hj
 have hfro:w.frozen? ⟨g,j,none⟩=false:=by
  simp only [World.frozen?,hb,Yal,Bool.and_eq_false_iff,decide_eq_false_iff_not]
  left;omega
 have hz:=run_sizeOf T hT w
 rw [hs] at hz
 have hst:(storeCells ⟨g,j,none⟩ [YaJ b] 0).run P w=.ok () (w.setRow g (Yam (bs.set j b) k).toArray):=by
  have hadd:(⟨g,j,none⟩:Addr).add 0=⟨g,j,none⟩:=by simp [Addr.add]
  simp only [storeCells,Sem.run_bind,hadd,run_store P w _ (YaJ b) _ rfl,hcell,hfro]
  simp [setCell_eq_setRow w g j (Yam bs k).toArray t' _ (YaJ b) hb,← Yhl hj]
 have:(execOp ρ ⟨dst,.store t x y,ty,pos,af,gd⟩).run P w=.ok .skip (w.setRow g (Yam (bs.set j b) k).toArray):=by
  simp only [execOp,hr _ _ hx,hr _ _ hy,Instr.storeAt,Instr.sureAddr,Sem.run_bind,Sem.run_pure,Result.andThen_ok,storeVar,hz]
  simp [YaJ,Value.cells] at hst ⊢
  simp [hst]
 rw [this]
 refine ⟨fz,_,hw.write (o':=Yal t' (bs.set j b) k) rfl rfl rfl (by simp) ?_ (fun k hk=>?_),h⟩
 ·simp [World.setRow,Array.getElem?_modify,hb,Yal]
 ·simp only [World.setRow,Array.getElem?_modify]
  rw [if_neg Zi]
theorem YfQ (T:Tab P) {src dt e:TypeId} {x:Operand} {X Y Z:Ty} {t':TypeId} {g n c k:Nat} {bs:List UInt8} (i:Nat) (hX:T.inf src=some X) (hXd:X.desc=.slice e) (hY:T.inf dt=some Y) (hYd:Y.desc=.string) (hZ:T.inf e=some Z) (hZd:Z.desc=.int .u8)
 (hx:r x=some (.slice (some ⟨g,0,none⟩) n c)) (hi:H[i]?=some (g,Yal t' bs k)) (hn:bs.length=n) (h:V (.string ⟨bs.toArray⟩)):DoesQ P cx ⟨dst,.convert src dt x,ty,pos,af,gd⟩ r fz H V:=by
 refine DoesQ.of h fun ρ w hr hw=>?_
 have hcell:∀ j,j<n→w.cell? ⟨g,0+j,none⟩=some (.int .u8 ((bs.map fun b=>(b.toNat:Int)).getD j 0)):=fun j hj=>by
  have hj':j<bs.length:=by omega
  rw [Nat.zero_add,hw.cellOwn hi j]
  have:=Ycb (k:=k) hj'
  simp only [List.getElem?_toArray,this,YaJ]
  simp [List.getD,hj']
 have hrun:=run_convert_bytes_arg (P:=P) w src e (und_plain T hX hXd rfl) (und_plain T hZ hZd rfl) g 0 n c (bs.map fun b=>(b.toNat:Int)) (by simpa using hn) hcell dt (und_plain T hY hYd rfl)
 have hs:strOfNums (bs.map fun b=>(b.toNat:Int))=⟨bs.toArray⟩:=by simp [strOfNums,Function.comp_def]
 rw [hs] at hrun
 have:(execOp ρ ⟨dst,.convert src dt x,ty,pos,af,gd⟩).run P w=.ok (.value (.string ⟨bs.toArray⟩)) w:=by
  simp only [execOp,hr _ _ hx,Sem.run_bind,hrun,Result.andThen_ok,Sem.run_pure]
 rw [this]
 exact ⟨rfl,Fr.refl _ _⟩
end
end Go.Lx
set_option maxRecDepth 20000
namespace Go.Proofs.YtbhlgkibgajajaaGreatDoor
open Go.Lx Go.RowKit
attribute [local instance 10] Classical.propDecidable
theorem Y8 {b:UInt8}:∀ {l:List UInt8},0≤Lib.indexByte l b↔b∈l
 | []=>by simp [Lib.indexByte]
 | x::r=>by
  have ih:=Y8 (b:=b) (l:=r)
  simp only [Lib.indexByte,List.mem_cons]
  split
  ·rename_i h
   have:x=b:=by simpa using h
   simp [this]
  ·rename_i h
   have hx:¬b=x:=by
    intro h0;subst h0;simp at h
   simp only [hx,false_or]
   split
   ·rename_i h1
    rw [← ih,eq_of_beq h1]
   ·rename_i h1
    have h2:Lib.indexByte r b≠ -1:=by simpa using h1
    have:=Lib.indexByte_ge r b
    rw [← ih];omega
theorem sibs_q {fz:FZ} {s:ByteArray} {n:Int}:QFn Tryz.prog 244 [.string s,.int .u8 n] fz (.int .i64 (Lib.indexByte s.data.toList n.toNat.toUInt8)):=by
 refine GFn.quiet ?_
 (refine GFn.of_wp Tryz.func244 rfl Tryz.ntmps244 rfl rfl (fun w0=>?_))
 ((repeat (first | refine zS ?_ | refine zA fun _=>?_)))
 refine Seq.q rfl (DoesQ.of (v:=.int .i64 (Lib.indexByte s.data.toList n.toNat.toUInt8)) ?_ fun ρ w hr hi=>?_)
 ·((repeat (first | refine zS ?_ | refine zA fun _=>?_)))
  (exact ret1 rfl rfl (Zb) rfl)
 ·have h5:ρ (.tmp 5)=.string s:=hr _ _ rfl
  have h6:ρ (.tmp 6)=.int .u8 n:=hr _ _ rfl
  have h7:ρ (.func 270)=.func (.func 270) #[] #[]:=hr _ _ rfl
  have hrun:=run_callFunc_indexByte (P:=Tryz.prog) Tryz.func270 Zj rfl (by rfl) (by rfl) #[.string s,.int .u8 n] w
  rw [Lib.run_indexByteString] at hrun
  simp only [execOp,resolve,Deferred.ofValue,invoke,List.map_toArray,List.map_cons,List.map_nil,h5,h6,h7,Sem.run_bind,Sem.run_pure,Result.andThen_ok] at hrun ⊢
  simp only [Array.empty_append,Array.append_empty]
  rw [hrun]
  exact ⟨rfl,Fr.refl _ _⟩
theorem ibs_q {fz:FZ} {s:ByteArray} {n:Int}:QFn Tryz.prog 207 [.string s,.int .u8 n] fz (.int .i64 (Lib.indexByte s.data.toList n.toNat.toUInt8)):=by
 refine GFn.quiet ?_
 (refine GFn.of_wp Tryz.func207 rfl Tryz.ntmps207 rfl rfl (fun w0=>?_))
 ((repeat (first | refine zS ?_ | refine zA fun _=>?_)))
 (((refine zG ?_));refine Yl Zz Zz sibs_q ?_)
 ((repeat (first | refine zS ?_ | refine zA fun _=>?_)))
 (exact ret1 rfl rfl (Zb) rfl)
def UpC (n:Int):Prop:=65≤n∧n≤90
def SymL:List UInt8:=[45,95,63,58,60,62,61,43,42]
def LowC (b:UInt8):Prop:=LetP b.toNat∨DigP b.toNat∨b∈SymL
def AnyC (b:UInt8):Prop:=UpC b.toNat∨LowC b
noncomputable def lowB (b:UInt8):UInt8:=if UpC b.toNat then b+32 else b
noncomputable def lowS (s:ByteArray):ByteArray:=⟨(s.data.toList.map lowB).toArray⟩
def LowP (s:ByteArray):Prop:=s≠X4∧s.size≤32∧∀ b∈s.data.toList,AnyC b
theorem Yhx {n:Int} (h:0≤n∧n≤255):IntKind.u8.wrap n=n:=by
 simp only [IntKind.wrap,IntKind.signed,IntKind.bits];simp;omega
theorem byteV_up {b:UInt8} (h:UpC b.toNat):Value.int .u8 ((b.toNat:Int)+97 - 65)=YaJ (lowB b):=by
 unfold UpC at h
 have h2:(b+32).toNat=b.toNat+32:=by rw [UInt8.toNat_add];simp;omega
 unfold YaJ lowB UpC
 rw [if_pos h,h2]
 congr 1
 omega
theorem YaA {s:ByteArray}:s.data.toList.length=s.size:=by rw [Array.length_toList];rfl
theorem YgF {s:ByteArray} {k:Nat} (h:k<s.size):s.data.toList[k]?=some s[k]:=by
 rw [List.getElem?_eq_getElem (by rw [YaA];exact h)]
 rfl
theorem set_mid {α:Type} {f:α→α} {l:List α} {k:Nat} {x:α} (h:l[k]?=some x):((l.take k).map f++l.drop k).set k (f x)=(l.take (k+1)).map f++l.drop (k+1):=by
 have hk:k<l.length:=(List.getElem?_eq_some_iff.1 h).1
 have hl:((l.take k).map f).length=k:=by simp;omega
 rw [List.set_append_right _ _ Zi,hl,Nat.sub_self,List.take_add_one,h]
 have:l.drop k=x::l.drop (k+1):=by
  rw [List.drop_eq_getElem_cons hk]
  rw [List.getElem?_eq_getElem hk] at h
  cases h;rfl
 rw [this]
 simp
theorem YaB {α:Type} {f:α→α} {l:List α} {k:Nat} {x:α} (h:l[k]?=some x) (hf:f x=x):(l.take k).map f++l.drop k=(l.take (k+1)).map f++l.drop (k+1):=by
 rw [← set_mid h,hf]
 have hk:k<l.length:=(List.getElem?_eq_some_iff.1 h).1
 apply List.ext_getElem?
 intro i
 rw [List.getElem?_set]
 split
 ·rename_i he
  subst he
  have hl:((l.take k).map f).length=k:=by simp;omega
  rw [if_pos (by simp;omega),List.getElem?_append_right Zi,hl,Nat.sub_self,List.getElem?_drop,Nat.add_zero,h]
 ·rfl
theorem get_mid {α:Type} {f:α→α} {l:List α} {k:Nat} {x:α} (h:l[k]?=some x):((l.take k).map f++l.drop k)[k]?=some x:=by
 have hk:k<l.length:=(List.getElem?_eq_some_iff.1 h).1
 have hl:((l.take k).map f).length=k:=by simp;omega
 rw [List.getElem?_append_right Zi,hl,Nat.sub_self,List.getElem?_drop,Nat.add_zero,h]
theorem W4 {α:Type} {p:α→Prop} {l:List α} {k:Nat} {x:α} (h:∀ b∈l.take k,p b) (hx:l[k]?=some x) (hp:p x):∀ b∈l.take (k+1),p b:=by
 rw [List.take_add_one,hx]
 intro b hb
 rcases List.mem_append.1 hb with hb | hb
 ·exact h b hb
 ·simp at hb;subst hb;exact hp
theorem Yax {b:UInt8} (h:¬UpC b.toNat):lowB b=b:=if_neg h
theorem Ycd {b:UInt8}:((b.toNat:Int).toNat).toUInt8=b:=by simp [Nat.toUInt8]
set_option maxHeartbeats 1000000 in
theorem Yh4 {fz:FZ} {s:ByteArray}:QFn Tryz.prog 149 [.string s] fz (.tuple #[.string (if LowP s then lowS s else X4),.bool (decide (LowP s))]):=by
 refine GFn.quiet ?_
 have no:¬LowP s→Value.tuple #[.string X4,.bool false]=.tuple #[.string (if LowP s then lowS s else X4),.bool (decide (LowP s))]:=fun h=>by rw [if_neg h,decide_eq_false h]
 (refine GFn.of_wp Tryz.func149 rfl Tryz.ntmps149 rfl rfl (fun w0=>?_))
 ((repeat (first | refine zS ?_ | refine zA fun _=>?_)))
 ((refine zG ?_;refine zC (fun c1=>?_) (fun c1=>?_)))
 ·((repeat (first | refine zS ?_ | refine zA fun _=>?_)))
  exact ret2 rfl rfl rfl (Zb) (no (fun h=>h.1 c1))
 ·((repeat (first | refine zS ?_ | refine zA fun _=>?_)))
  ((refine zG ?_;refine zC (fun c2=>?_) (fun c2=>?_)))
  ·((repeat (first | refine zS ?_ | refine zA fun _=>?_)))
   exact ret2 rfl rfl rfl (Zb) (no (fun h=>by have:=h.2.1;omega))
  ·((repeat (first | refine zS ?_ | refine zA fun _=>?_)))
   refine Yd Zz (k_bytes T Zz Zz Zz Zz Zz Zz Zz (fun g k0=>?_))
   have hz:s.size≤32:=by omega
   ((repeat (first | refine zS ?_ | refine zA fun _=>?_)))
   refine YI (fun q σ fz' H'=>∃ k:Nat,k≤s.size∧q=s.size - k∧σ=[(18,.int .i64 k),(17,.int .i64 s.size),(16,.slice (some ⟨g,0,none⟩) s.size (s.size+k0)),(4,.slice (some ⟨g,0,none⟩) s.size (s.size+k0))]∧fz=fz'∧
    H'=[(g,Yal 5 ((s.data.toList.take k).map lowB++s.data.toList.drop k) k0)]∧(∀ b∈s.data.toList.take k,AnyC b)) ⟨0,Nat.zero_le _,rfl,rfl,rfl,rfl,by simp⟩ (Zw) (Zb) ?_
   rintro q σ fz' H' ⟨k,hk,rfl,rfl,rfl,rfl,hh⟩
   have hlen:((s.data.toList.take k).map lowB++s.data.toList.drop k).length=s.size:=by
    have:=YaA (s:=s)
    simp only [List.length_append,List.length_map,List.length_take,List.length_drop];omega
   ((repeat (first | refine zS ?_ | refine zA fun _=>?_)))
   ((refine zG ?_;refine zC (fun c3=>?_) (fun c3=>?_)))
   ·obtain ⟨b,hb⟩:∃ b,s.data.toList[k]?=some b:=⟨_,YgF Zi⟩
    have hlt:=b.toNat_lt
    have bad:¬AnyC b→¬LowP s:=fun h0 h1=>h0 (h1.2.2 b (List.mem_of_getElem? hb))
    ((repeat (first | refine zS ?_ | refine zA fun _=>?_)))
    ((refine zG ?_));refine Ybo T Zz Zz Zz Zz Zz Zz Zi Zi ?_
    ((refine zG ?_));refine YfT T 0 Zz Zz Zz Zz (get_mid hb) ?_
    ((repeat (first | refine zS ?_ | refine zA fun _=>?_)))
    ((refine zG ?_;refine zC (fun d1=>?_) (fun d1=>?_)))
    ·((repeat (first | refine zS ?_ | refine zA fun _=>?_)))
     ((refine zG ?_;refine zC (fun d2=>?_) (fun d2=>?_)))
     ·((repeat (first | refine zS ?_ | refine zA fun _=>?_)))
      ((refine zG ?_));refine Yb1 Zz Zz (Yhx Zi) ?_
      ((refine zG ?_));refine Ye6 Zz Zz (Yhx Zi) ?_
      ((refine zG ?_));refine Ybo T Zz Zz Zz Zz Zz Zz Zi Zi ?_
      refine YC (Yfm T (pre:=[]) Zz Zz (congrArg some (byteV_up ⟨d1,d2⟩)) rfl Zz (by rw [hlen];exact (by omega:k<s.size)) ?_)
      ((repeat (first | refine zS ?_ | refine zA fun _=>?_)))
      exact YY ⟨k+1,by omega,rfl,rfl,rfl,by rw [← set_mid hb],W4 hh hb (.inl ⟨d1,d2⟩)⟩ Zi (Zw) (Zb)
     ·have nu:¬UpC b.toNat:=fun h0=>d2 h0.2
      ((repeat (first | refine zS ?_ | refine zA fun _=>?_)))
      ((refine zG ?_;refine zC (fun d3=>?_) (fun d3=>?_)))
      ·((repeat (first | refine zS ?_ | refine zA fun _=>?_)))
       ((refine zG ?_;refine zC (fun d4=>?_) (fun d4=>?_)))
       ·((repeat (first | refine zS ?_ | refine zA fun _=>?_)))
        exact YY ⟨k+1,by omega,rfl,rfl,rfl,by rw [← YaB hb (Yax nu)],W4 hh hb (.inr (.inl ⟨d3,d4⟩))⟩ Zi (Zw) (Zb)
       ·have nl:¬LetP b.toNat:=fun h0=>d4 h0.2
        ((repeat (first | refine zS ?_ | refine zA fun _=>?_)))
        (((refine zG ?_));refine YO Zz Zz (YeJ (n:=b.toNat)) (fun f1=>?_) (fun f1=>?_))
        ·((repeat (first | refine zS ?_ | refine zA fun _=>?_)))
         exact YY ⟨k+1,by omega,rfl,rfl,rfl,by rw [← YaB hb (Yax nu)],W4 hh hb (.inr (.inr (.inl (of_decide_eq_true f1))))⟩ Zi (Zw) (Zb)
        ·((repeat (first | refine zS ?_ | refine zA fun _=>?_)))
         (((refine zG ?_));refine Yl Zz Zz (ibs_q (n:=b.toNat)) ?_)
         ((refine zG ?_;refine zC (fun e1=>?_) (fun e1=>?_)))
         ·((repeat (first | refine zS ?_ | refine zA fun _=>?_)))
          exact YY ⟨k+1,by omega,rfl,rfl,rfl,by rw [← YaB hb (Yax nu)],W4 hh hb (.inr (.inr (.inr (by rw [Y8,Ycd] at e1;exact e1))))⟩ Zi (Zw) (Zb)
         ·((repeat (first | refine zS ?_ | refine zA fun _=>?_)))
          exact ret2 rfl rfl rfl (Zb) (no (bad (fun h0=>by
           rcases h0 with h0 | h0 | h0 | h0
           ·exact nu h0
           ·exact nl h0
           ·exact of_decide_eq_false f1 h0
           ·exact e1 (Y8.2 (by rw [Ycd];exact h0)))))
      ·have nl:¬LetP b.toNat:=fun h0=>d3 h0.1
       ((repeat (first | refine zS ?_ | refine zA fun _=>?_)))
       (((refine zG ?_));refine YO Zz Zz (YeJ (n:=b.toNat)) (fun f1=>?_) (fun f1=>?_))
       ·((repeat (first | refine zS ?_ | refine zA fun _=>?_)))
        exact YY ⟨k+1,by omega,rfl,rfl,rfl,by rw [← YaB hb (Yax nu)],W4 hh hb (.inr (.inr (.inl (of_decide_eq_true f1))))⟩ Zi (Zw) (Zb)
       ·((repeat (first | refine zS ?_ | refine zA fun _=>?_)))
        (((refine zG ?_));refine Yl Zz Zz (ibs_q (n:=b.toNat)) ?_)
        ((refine zG ?_;refine zC (fun e1=>?_) (fun e1=>?_)))
        ·((repeat (first | refine zS ?_ | refine zA fun _=>?_)))
         exact YY ⟨k+1,by omega,rfl,rfl,rfl,by rw [← YaB hb (Yax nu)],W4 hh hb (.inr (.inr (.inr (by rw [Y8,Ycd] at e1;exact e1))))⟩ Zi (Zw) (Zb)
        ·((repeat (first | refine zS ?_ | refine zA fun _=>?_)))
         exact ret2 rfl rfl rfl (Zb) (no (bad (fun h0=>by
          rcases h0 with h0 | h0 | h0 | h0
          ·exact nu h0
          ·exact nl h0
          ·exact of_decide_eq_false f1 h0
          ·exact e1 (Y8.2 (by rw [Ycd];exact h0)))))
    ·have nu:¬UpC b.toNat:=fun h0=>d1 h0.1
     ((repeat (first | refine zS ?_ | refine zA fun _=>?_)))
     ((refine zG ?_;refine zC (fun d3=>?_) (fun d3=>?_)))
     ·exact absurd d3 Zi
     ·have nl:¬LetP b.toNat:=fun h0=>d3 h0.1
      ((repeat (first | refine zS ?_ | refine zA fun _=>?_)))
      (((refine zG ?_));refine YO Zz Zz (YeJ (n:=b.toNat)) (fun f1=>?_) (fun f1=>?_))
      ·((repeat (first | refine zS ?_ | refine zA fun _=>?_)))
       exact YY ⟨k+1,by omega,rfl,rfl,rfl,by rw [← YaB hb (Yax nu)],W4 hh hb (.inr (.inr (.inl (of_decide_eq_true f1))))⟩ Zi (Zw) (Zb)
      ·((repeat (first | refine zS ?_ | refine zA fun _=>?_)))
       (((refine zG ?_));refine Yl Zz Zz (ibs_q (n:=b.toNat)) ?_)
       ((refine zG ?_;refine zC (fun e1=>?_) (fun e1=>?_)))
       ·((repeat (first | refine zS ?_ | refine zA fun _=>?_)))
        exact YY ⟨k+1,by omega,rfl,rfl,rfl,by rw [← YaB hb (Yax nu)],W4 hh hb (.inr (.inr (.inr (by rw [Y8,Ycd] at e1;exact e1))))⟩ Zi (Zw) (Zb)
       ·((repeat (first | refine zS ?_ | refine zA fun _=>?_)))
        exact ret2 rfl rfl rfl (Zb) (no (bad (fun h0=>by
         rcases h0 with h0 | h0 | h0 | h0
         ·exact nu h0
         ·exact nl h0
         ·exact of_decide_eq_false f1 h0
         ·exact e1 (Y8.2 (by rw [Ycd];exact h0)))))
   ·rw [show s.data.toList.take k=s.data.toList from List.take_of_length_le (by rw [YaA];omega),show s.data.toList.drop k=[] from List.drop_eq_nil_of_le (by rw [YaA];omega),List.append_nil] at*
    have hP:LowP s:=⟨c1,by omega,hh⟩
    ((repeat (first | refine zS ?_ | refine zA fun _=>?_)))
    ((refine zG ?_));refine YfQ T 0 Zz Zz Zz Zz Zz Zz Zz Zz hlen ?_
    ((repeat (first | refine zS ?_ | refine zA fun _=>?_)))
    exact ret2 rfl rfl rfl (Zb) (by rw [if_pos hP,decide_eq_true hP];rfl)
end Go.Proofs.YtbhlgkibgajajaaGreatDoor
set_option maxRecDepth 20000
namespace Go.Proofs.YtbhlgkibgajajaaGreatDoor
open Go.Lx Go.RowKit
attribute [local instance 10] Classical.propDecidable
def WordT (s:ByteArray):Prop:=s≠X4∧s.size≤32∧(∀ b∈s.data.toList,LowC b)∧¬NumP s
def Ybx (x:Sexpr):Prop:=(x.kind=1∧WordT x.text∧x.value=0∧x.kids=[])∨(x.kind=2∧x.text=X4∧x.kids=[]∧YdF x.value)∨(x.kind=3∧x.text=X4∧x.value=0)
abbrev XOk (x:Sexpr):Prop:=XAll Ybx x
def XVal (x:Sexpr):Prop:=XOk x∧xdepth x≤32∧xcount x≤4096
theorem Yh5 {s:ByteArray}:(lowS s).size=s.size:=by
 have:=YaA (s:=s)
 simp only [lowS,ByteArray.size,List.size_toArray,List.length_map];exact this
theorem lowB_fix {b:UInt8} (h:lowB b=b):¬UpC b.toNat:=by
 intro hu
 rw [lowB,if_pos hu] at h
 have h1:=congrArg UInt8.toNat h
 unfold UpC at hu
 rw [UInt8.toNat_add] at h1
 simp at h1
 omega
theorem Yh3 {α:Type} {f:α→α}:∀ {l:List α},l.map f=l→∀ x∈l,f x=x
 | [],_,_,hx=>by cases hx
 | a::r,h,x,hx=>by
  simp only [List.map_cons,List.cons.injEq] at h
  rcases List.mem_cons.1 hx with rfl | hx
  ·exact h.1
  ·exact Yh3 h.2 x hx
theorem Yiy {α:Type} {f:α→α}:∀ {l:List α},(∀ x∈l,f x=x)→l.map f=l
 | [],_=>rfl
 | a::r,h=>by rw [List.map_cons,h a (by simp),Yiy (fun x hx=>h x (by simp [hx]))]
theorem low_upc {b:UInt8} (h:LowC b):¬UpC b.toNat:=by
 unfold LowC LetP DigP SymL at h
 unfold UpC
 rcases h with h | h | h
 ·omega
 ·omega
 ·simp only [List.mem_cons,List.not_mem_nil,or_false] at h
  rcases h with rfl | rfl | rfl | rfl | rfl | rfl | rfl | rfl | rfl<;>decide
theorem YfZ {s:ByteArray}:LowP s∧lowS s=s↔s≠X4∧s.size≤32∧∀ b∈s.data.toList,LowC b:=by
 constructor
 ·rintro ⟨⟨h1,h2,h3⟩,h4⟩
  refine ⟨h1,h2,fun b hb=>?_⟩
  have h5:s.data.toList.map lowB=s.data.toList:=by
   have:=congrArg (fun t:ByteArray=>t.data.toList) h4
   simpa [lowS] using this
  exact (h3 b hb).resolve_left (lowB_fix (Yh3 h5 b hb))
 ·rintro ⟨h1,h2,h3⟩
  refine ⟨⟨h1,h2,fun b hb=>.inr (h3 b hb)⟩,?_⟩
  have:=Yiy (f:=lowB) (l:=s.data.toList) (fun b hb=>if_neg (low_upc (h3 b hb)))
  unfold lowS
  rw [this]
def cntO (c:Int):Obj:=.cells #[.int .i64 c] 3 (0,0)
def XBud (g:Nat) (x:Sexpr) (d c:Nat) (v:Value) (H':HP):Prop:=
 ∃ (b:Bool) (c':Int),v=.bool b∧H'=[(g,cntO c')]∧(b=true→c'=((c+xcount x:Nat):Int))∧(b=true↔XOk x∧d+xdepth x≤32∧c+xcount x≤4096)
theorem Yd6 {g:Nat} {x:Sexpr} {d c:Nat} {c':Int} (h:¬(XOk x∧d+xdepth x≤32∧c+xcount x≤4096)):XBud g x d c (.bool false) [(g,cntO c')]:=⟨false,c',rfl,rfl,(by simp),iff_of_false (by simp) h⟩
theorem YeV {g:Nat} {x:Sexpr} {d c:Nat} (h:Ybx x) (hk:x.kids=[]) (h3:x.kind≠3) (hc:c+1≤4096) (hd:d≤32):XBud g x d c (.bool true) [(g,cntO (c+1:Nat))]:=by
 have h1:xcount x=1:=by rw [YaO,hk];simp [xcountL]
 have h2:xdepth x=0:=by rw [YcN,hk,if_neg h3];simp [xdepthL]
 exact ⟨true,_,rfl,rfl,fun _=>by rw [h1],iff_of_true rfl ⟨Wf.2 ⟨h,by rw [hk];simp⟩,by omega,by omega⟩⟩
theorem xnode1 {x:Sexpr} (h:x.kind=1):Ybx x↔WordT x.text∧x.value=0∧x.kids=[]:=by
 unfold Ybx;rw [h];simp
theorem xnode2 {x:Sexpr} (h:x.kind=2):Ybx x↔x.text=X4∧x.kids=[]∧YdF x.value:=by
 unfold Ybx;rw [h];simp
theorem xnode3 {x:Sexpr} (h:x.kind=3):Ybx x↔x.text=X4∧x.value=0:=by
 unfold Ybx;rw [h];simp
set_option maxHeartbeats 2000000 in
theorem Yhv:∀ (s:Nat) {fz:FZ} {x:Sexpr} {vk:Value} {g d c:Nat},SizeOf.sizeOf x≤s→Y4 fz x vk→d≤32→c≤4096→
 GFn Tryz.prog 72 [.agg #[.int .i64 x.kind,.int .i64 x.value,.int .i64 x.line,.int .i64 x.column,.string x.text,vk],.int .i64 d,.pointer (some ⟨g,0,none⟩)] fz [(g,cntO c)] (fun v fz' H'=>Le fz fz'∧XBud g x d c v H')
 | 0,_,x,_,_,_,_,hs,_,_,_=>by cases x;simp at hs
 | s+1,fz,x,vk,g,d,c,hs,h,hd,hc=>by
  obtain ⟨A,n,ca,rfl,hk⟩:=h.kids
  have no:∀ {c':Int},¬Ybx x→XBud g x d c (.bool false) [(g,cntO c')]:=fun h0=>Yd6 (fun h1=>h0 (Wf.1 h1.1).1)
  have e1:=YaO x
  have e2:=YcN x
  unfold cntO
  (refine GFn.of_wp Tryz.func72 rfl Tryz.ntmps72 rfl rfl (fun w0=>?_))
  (refine Yu (Yy (Yd Zz (XB _ Zz Zz (fun g0=>?_)))))
  ((repeat (first | refine zS ?_ | refine zA fun _=>?_)))
  ((refine zG ?_;refine zC (fun c1=>?_) (fun c1=>?_)))
  ·((repeat (first | refine zS ?_ | refine zA fun _=>?_)))
   exact ret1 rfl rfl (List.Sublist.cons _ (List.Sublist.refl _)) ⟨Le.refl _,Yd6 (fun h0=>by omega)⟩
  ·((repeat (first | refine zS ?_ | refine zA fun _=>?_)))
   ((refine zG ?_;refine zC (fun x1=>?_) (fun y1=>?_)))
   ·have hn:=xnode1 x1
    by_cases hL:LowP x.text
    ·have hq:=Yh4 (fz:=fz) (s:=x.text)
     rw [if_pos hL,decide_eq_true hL] at hq
     ((repeat (first | refine zS ?_ | refine zA fun _=>?_)))
     (((refine zG ?_));refine Yl Zz Zz hq ?_)
     ((repeat (first | refine zS ?_ | refine zA fun _=>?_)))
     ((refine zG ?_;refine zC (fun n1=>?_) (fun n1=>?_)))
     ·have hw:=(YfZ.1 ⟨hL,n1⟩)
      ((repeat (first | refine zS ?_ | refine zA fun _=>?_)))
      (((refine zG ?_));refine YO Zz Zz (YhX (s:=lowS x.text) (by unfold Short;rw [Yh5];exact h.text)) (fun f1=>?_) (fun f1=>?_))
      ·((repeat (first | refine zS ?_ | refine zA fun _=>?_)))
       (exact ret1 rfl rfl (Zb) ⟨Le.refl _,no (fun h0=>(hn.1 h0).1.2.2.2 (by rw [← n1];exact of_decide_eq_true f1))⟩)
      ·((repeat (first | refine zS ?_ | refine zA fun _=>?_)))
       ((((refine zG ?_;refine zC (fun n2=>?_) (fun n2=>?_)));rotate_left 1;(((repeat (first | refine zS ?_ | refine zA fun _=>?_)));(exact ret1 rfl rfl (Zb) ⟨Le.refl _,no (fun h0=>n2 (hn.1 h0).2.1)⟩));((repeat (first | refine zS ?_ | refine zA fun _=>?_)))))
       ((((refine zG ?_;refine zC (fun n3=>?_) (fun n3=>?_)));rotate_left 1;(((repeat (first | refine zS ?_ | refine zA fun _=>?_)));(exact ret1 rfl rfl (Zb) ⟨Le.refl _,no (fun h0=>n3 ((len0 hk.len).2 (hn.1 h0).2.2))⟩));((repeat (first | refine zS ?_ | refine zA fun _=>?_)))))
       (exact ret1 rfl rfl (Zb) ⟨Le.refl _,YeV (hn.2 ⟨⟨hw.1,hw.2.1,hw.2.2,by rw [← n1];exact of_decide_eq_false f1⟩,n2,(len0 hk.len).1 n3⟩) ((len0 hk.len).1 n3) Zi Zi hd⟩)
     ·((repeat (first | refine zS ?_ | refine zA fun _=>?_)))
      exact ret1 rfl rfl (List.Sublist.cons _ (List.Sublist.refl _)) ⟨Le.refl _,no (fun h0=>n1 (YfZ.2 ⟨(hn.1 h0).1.1,(hn.1 h0).1.2.1,(hn.1 h0).1.2.2.1⟩).2)⟩
    ·have hq:=Yh4 (fz:=fz) (s:=x.text)
     rw [if_neg hL,decide_eq_false hL] at hq
     ((repeat (first | refine zS ?_ | refine zA fun _=>?_)))
     (((refine zG ?_));refine Yl Zz Zz hq ?_)
     ((repeat (first | refine zS ?_ | refine zA fun _=>?_)))
     exact ret1 rfl rfl (List.Sublist.cons _ (List.Sublist.refl _)) ⟨Le.refl _,no (fun h0=>hL (YfZ.2 ⟨(hn.1 h0).1.1,(hn.1 h0).1.2.1,(hn.1 h0).1.2.2.1⟩).1)⟩
   ·((repeat (first | refine zS ?_ | refine zA fun _=>?_)))
    ((refine zG ?_;refine zC (fun x2=>?_) (fun y2=>?_)))
    ·have hn:=xnode2 x2
     ((repeat (first | refine zS ?_ | refine zA fun _=>?_)))
     ((((refine zG ?_;refine zC (fun n1=>?_) (fun n1=>?_)));rotate_left 1;(((repeat (first | refine zS ?_ | refine zA fun _=>?_)));(exact ret1 rfl rfl (Zb) ⟨Le.refl _,no (fun h0=>n1 (hn.1 h0).1)⟩));((repeat (first | refine zS ?_ | refine zA fun _=>?_)))))
     ((((refine zG ?_;refine zC (fun n3=>?_) (fun n3=>?_)));rotate_left 1;(((repeat (first | refine zS ?_ | refine zA fun _=>?_)));(exact ret1 rfl rfl (Zb) ⟨Le.refl _,no (fun h0=>n3 ((len0 hk.len).2 (hn.1 h0).2.1))⟩));((repeat (first | refine zS ?_ | refine zA fun _=>?_)))))
     ((((refine zG ?_;refine zC (fun n4=>?_) (fun n4=>?_)));rotate_left 1;(((repeat (first | refine zS ?_ | refine zA fun _=>?_)));(exact ret1 rfl rfl (Zb) ⟨Le.refl _,no (fun h0=>n4 (hn.1 h0).2.2.1)⟩));((repeat (first | refine zS ?_ | refine zA fun _=>?_)))))
     ((((refine zG ?_;refine zC (fun n5=>?_) (fun n5=>?_)));rotate_left 1;(((repeat (first | refine zS ?_ | refine zA fun _=>?_)));(exact ret1 rfl rfl (Zb) ⟨Le.refl _,no (fun h0=>n5 (hn.1 h0).2.2.2)⟩));((repeat (first | refine zS ?_ | refine zA fun _=>?_)))))
     (exact ret1 rfl rfl (Zb) ⟨Le.refl _,YeV (hn.2 ⟨n1,(len0 hk.len).1 n3,n4,n5⟩) ((len0 hk.len).1 n3) Zi Zi hd⟩)
    ·((repeat (first | refine zS ?_ | refine zA fun _=>?_)))
     ((refine zG ?_;refine zC (fun x3=>?_) (fun y3=>?_)))
     ·have hn:=xnode3 x3
      rw [if_pos x3] at e2
      have sk:=hk.short
      have lk:=hk.len
      ((repeat (first | refine zS ?_ | refine zA fun _=>?_)))
      ((((refine zG ?_;refine zC (fun n1=>?_) (fun n1=>?_)));(((repeat (first | refine zS ?_ | refine zA fun _=>?_)));(exact ret1 rfl rfl (Zb) ⟨Le.refl _,no (fun h0=>n1 (hn.1 h0).1)⟩));((repeat (first | refine zS ?_ | refine zA fun _=>?_)))))
      ((((refine zG ?_;refine zC (fun n2=>?_) (fun n2=>?_)));(((repeat (first | refine zS ?_ | refine zA fun _=>?_)));(exact ret1 rfl rfl (Zb) ⟨Le.refl _,no (fun h0=>n2 (hn.1 h0).2)⟩));((repeat (first | refine zS ?_ | refine zA fun _=>?_)))))
      ((((refine zG ?_;refine zC (fun n3=>?_) (fun n3=>?_)));(((repeat (first | refine zS ?_ | refine zA fun _=>?_)));(exact ret1 rfl rfl (Zb) ⟨Le.refl _,Yd6 (fun h0=>by omega)⟩));((repeat (first | refine zS ?_ | refine zA fun _=>?_)))))
      refine YI (fun mm σ fz' H'=>∃ k:Nat,k≤n∧mm=n - k∧σ=[(91,.int .i64 k),(90,.int .i64 n),(89,.slice A n ca),(2,.pointer (some ⟨g,0,none⟩)),(1,.int .i64 d)]∧Le fz fz'∧H'=[(g,.cells #[.int .i64 (c+1+xcountL (x.kids.take k):Nat)] 3 (0,0))]∧(∀ i,i<k→∀ y,x.kids[i]?=some y→XOk y∧d+1+xdepth y≤32)∧c+1+xcountL (x.kids.take k)≤4096) ⟨0,Nat.zero_le _,rfl,rfl,Le.refl _,rfl,(fun i hi=>absurd hi Zi),by simp [xcountL];omega⟩ (Zw) (Zb) ?_
      rintro _ σ fz' H' ⟨k,hkn,rfl,rfl,hle,rfl,hh,hcc⟩
      have hk2:=hk.mono hle
      ((repeat (first | refine zS ?_ | refine zA fun _=>?_)))
      ((refine zG ?_;refine zC (fun c2=>?_) (fun c2=>?_)))
      ·obtain ⟨y,hy⟩:=YH (l:=x.kids) (k:=k) Zi
       have hym:=List.mem_of_getElem? hy
       have hlt:=Sexpr.kids_lt hym
       have hst:=YeT hy
       have htk:=Ycm (l:=x.kids) (k:=k+1)
       ((repeat (first | refine zS ?_ | refine zA fun _=>?_)))
       (((refine zG ?_));refine YG T k Zz Zz Zz Zz Zz Zz hk2 (by first | rfl | omega) hy (fun p1 hp1=>?_))
       (((refine zG ?_));refine YA T Zz Zz Zz hp1 Zz ?_)
       intro cs hcs
       obtain ⟨wk,rfl,hRy⟩:=Yx hcs
       obtain ⟨A1,n6,b1,rfl,_⟩:=hRy.kids
       ((repeat (first | refine zS ?_ | refine zA fun _=>?_)))
       (first | refine Wp.perm (List.Perm.swap _ _ _) ?_ | refine Seq.perm (List.Perm.swap _ _ _) ?_)
       (refine Yd Zz (Yz [_] [_] Zz Zz Zz (Yhv s (x:=y) (d:=d+1) (c:=c+1+xcountL (x.kids.take k)) Zi hRy Zi hcc) (fun v5 fz5 H5 hle5 hR5=>?_)))
       obtain ⟨_,b5,c5,rfl,rfl,hc5,hb5⟩:=hR5
       cases b5
       ·((repeat (first | refine zS ?_ | refine zA fun _=>?_)))
        (exact ret1 rfl rfl (Zb) ⟨hle.trans hle5,Yd6 (fun h0=>absurd (hb5.2 ⟨(Wf.1 h0.1).2 y hym,by have:=(WE (l:=x.kids)).1 (Nat.le_refl _) y hym;omega,by omega⟩) (by simp))⟩)
       ·have hc5:=hc5 rfl
        have hb5:=hb5.1 rfl
        subst hc5
        ((repeat (first | refine zS ?_ | refine zA fun _=>?_)))
        exact YY ⟨k+1,by omega,rfl,rfl,hle.trans hle5,by rw [hst,← Nat.add_assoc],Xw hh hy ⟨hb5.1,hb5.2.1⟩,by omega⟩ Zi (Zw) (Zb)
      ·rw [show x.kids.take k=x.kids from List.take_of_length_le Zi] at hcc ⊢
       have hK:=Yan hh Zi
       ((repeat (first | refine zS ?_ | refine zA fun _=>?_)))
       exact ret1 rfl rfl (List.Sublist.refl _) ⟨hle,true,_,rfl,rfl,fun _=>by rw [e1];simp only [Nat.add_assoc],iff_of_true rfl ⟨Wf.2 ⟨hn.2 ⟨n1,n2⟩,fun y hy=>(hK y hy).1⟩,by
        have e3:xdepthL x.kids≤31 - d:=WE.2 (fun y hy=>by have:=(hK y hy).2;omega)
        omega,by omega⟩⟩
     ·((repeat (first | refine zS ?_ | refine zA fun _=>?_)))
      (exact ret1 rfl rfl (Zb) ⟨Le.refl _,no (fun h0=>by rcases h0 with h0 | h0 | h0;exact y1 h0.1;exact y2 h0.1;exact y3 h0.1)⟩)
theorem YcC {fz:FZ} {x:Sexpr} {vk:Value} (h:Y4 fz x vk):QFn Tryz.prog 37 [.agg #[.int .i64 x.kind,.int .i64 x.value,.int .i64 x.line,.int .i64 x.column,.string x.text,vk]] fz (.bool (decide (XVal x))):=by
 obtain ⟨A,n,ca,rfl,hk⟩:=h.kids
 refine GFn.quiet ?_
 (refine GFn.of_wp Tryz.func37 rfl Tryz.ntmps37 rfl rfl (fun w0=>?_))
 (refine Yu (Yy (Yd Zz (XB _ Zz Zz (fun g0=>?_)))))
 ((repeat (first | refine zS ?_ | refine zA fun _=>?_)))
 (refine Yd Zz (Yz [_] [_] Zz Zz Zz (Yhv _ (d:=0) (c:=0) (Nat.le_refl _) h Zi Zi) (fun v5 fz5 H5 hle5 hR5=>?_)))
 obtain ⟨_,b5,c5,rfl,rfl,hc5,hb5⟩:=hR5
 ((repeat (first | refine zS ?_ | refine zA fun _=>?_)))
 have hb:(b5=true)↔XVal x:=by rw [hb5];unfold XVal;simp only [Nat.zero_add]
 have hd:decide (XVal x)=b5:=by cases b5<;>simp_all
 (exact ret1 rfl rfl (Zb) (by rw [hd]))
end Go.Proofs.YtbhlgkibgajajaaGreatDoor
set_option maxRecDepth 20000
namespace Go.Proofs.YtbhlgkibgajajaaGreatDoor
open Go.Lx Go.RowKit
attribute [local instance 10] Classical.propDecidable
def errV:Int→Value:=fun n=>if n=0 then .nilIface else .iface 47 (.int .i64 n)
theorem Ybt {n:Int} (h:n≠0):errV n=.iface 47 (.int .i64 n):=if_neg h
def ESmN (e:Lx.Expr):Prop:=e.args.length≤1000000000
def FSmN (f:Formula):Prop:=f.args.length≤1000000000∧f.params.length≤1000000000∧f.kids.length≤1000000000
abbrev ESm (e:Lx.Expr):Prop:=EAll ESmN e
abbrev FSm (f:Formula):Prop:=FAll FSmN ESmN f
theorem Yak:∀ (s:Nat) {e:Lx.Expr},SizeOf.sizeOf e≤s→EOk e→ESm e→EShape e
 | 0,e,h,_,_=>by cases e;simp at h
 | s+1,e,h,h1,h2=>by
  have h3:=YaL.1 h1
  have h4:=YaL.1 h2
  rcases h3.1 with h5 | h5 | h5
  ·exact .num h5.1
  ·exact .flu h5.1 h4.1
  ·obtain ⟨a,b,hab⟩:∃ a b,e.kids=[a,b]:=by
    match hK:e.kids,h5.2.2.2.2 with
    | [a,b],_=>exact ⟨a,b,rfl⟩
   have ka:a∈e.kids:=by rw [hab];simp
   have kb:b∈e.kids:=by rw [hab];simp
   have la:=Lx.Expr.kids_lt ka
   have lb:=Lx.Expr.kids_lt kb
   refine .bin (fun h0=>?_) (fun h0=>?_) hab (Yak s Zi (h3.2 a ka) (h4.2 a ka)) (Yak s Zi (h3.2 b kb) (h4.2 b kb))
   ·have h6:=h5.1
    rw [h0] at h6
    rcases h6 with h6 | h6 | h6<;>exact absurd (congrArg ByteArray.size h6) Zh
   ·have h6:=h5.1
    rw [h0] at h6
    rcases h6 with h6 | h6 | h6<;>exact absurd (congrArg ByteArray.size h6) Zh
theorem Ydf:∀ (s:Nat) {f:Formula},SizeOf.sizeOf f≤s→FOk f→FSm f→FShape f
 | 0,f,h,_,_=>by cases f;simp at h
 | s+1,f,h,h1,h2=>by
  have h3:=W6.1 h1
  have h4:=W6.1 h2
  by_cases k1:f.op=kAtom
  ·exact .atom (.inl k1) h4.1.1
  ·by_cases k2:f.op=kSame
   ·exact .atom (.inr k2) h4.1.1
   ·by_cases k3:CmpOp f.op
    ·obtain ⟨_,⟨k,hk,hr⟩,_⟩:=h3.1
     rw [Yfp,if_neg (fun h0=>h0.elim k1 k2),if_pos k3] at hk
     cases hk
     obtain ⟨a,b,hab⟩:∃ a b,f.exprs=[a,b]:=by
      match hK:f.exprs,hr.2.1 with
      | [a,b],_=>exact ⟨a,b,rfl⟩
     have ka:a∈f.exprs:=by rw [hab];simp
     have kb:b∈f.exprs:=by rw [hab];simp
     exact .cmp k3 hab (Yak _ (Nat.le_refl _) (h3.2.1 a ka) (h4.2.1 a ka)) (Yak _ (Nat.le_refl _) (h3.2.1 b kb) (h4.2.1 b kb))
    ·exact .other k1 k2 k3 h4.1.2.1 h4.1.2.2 (fun k hk=>Ydf s (by have:=Formula.kids_lt hk;omega) (h3.2.2 k hk) (h4.2.2 k hk))
theorem Yaj:∀ (s:Nat) {e:Lx.Expr},SizeOf.sizeOf e≤s→EOk e→ecount e≤xcount (Xi e)∧edepth e≤xdepth (Xi e)+1
 | 0,e,h,_=>by cases e;simp at h
 | s+1,e,h,h1=>by
  have h3:=YaL.1 h1
  rw [exprX_eq,Ya1,YbL]
  split
  ·rename_i h0
   have hk:=((Yft h0).1 h3.1).2.2.1
   rw [hk]
   simp [ecountL,edepthL,numE,xcount,xcountL,xdepth]
  ·split
   ·rename_i h0
    have hk:=((Yfu h0).1 h3.1).2.1
    rw [hk]
    simp [ecountL,edepthL,Wy,YM,xcount,xdepth]
   ·rename_i k1 k2
    have h5:=(Yfv k1 k2).1 h3.1
    obtain ⟨a,b,hab⟩:∃ a b,e.kids=[a,b]:=by
     match hK:e.kids,h5.2.2.2.2 with
     | [a,b],_=>exact ⟨a,b,rfl⟩
    have ka:a∈e.kids:=by rw [hab];simp
    have kb:b∈e.kids:=by rw [hab];simp
    have la:=Yaj s (by have:=Lx.Expr.kids_lt ka;omega) (h3.2 a ka)
    have lb:=Yaj s (by have:=Lx.Expr.kids_lt kb;omega) (h3.2 b kb)
    rw [hab]
    simp only [ecountL,edepthL,YM,xcount,xcountL,xdepth,xdepthL,List.map_cons,List.map_nil,Yi]
    simp
    omega
theorem Yd5 {l:List Formula} (h:∀ k∈l,fcount k≤xcount (XL k)):fcountL l≤xcountL (l.map XL):=by
 induction l with
 | nil=>simp [fcountL]
 | cons a r ih=>
  have h1:=h a (by simp)
  have h2:=ih (fun k hk=>h k (by simp [hk]))
  simp only [fcountL,List.map_cons,xcountL];omega
theorem Yd4 {l:List Formula} (h:∀ k∈l,fdepth k≤xdepth (XL k)+1):fdepthL l≤xdepthL (l.map XL)+1:=by
 induction l with
 | nil=>simp [fdepthL]
 | cons a r ih=>
  have h1:=h a (by simp)
  have h2:=ih (fun k hk=>h k (by simp [hk]))
  simp only [fdepthL,List.map_cons,xdepthL];omega
theorem Yaz {l:List Sexpr}:xcount (YM l)=1+xcountL l:=by simp [YM,xcount]
theorem Yay {l:List Sexpr}:xdepth (YM l)=xdepthL l+1:=by simp [YM,xdepth]
theorem Yb6:∀ (s:Nat) {f:Formula},SizeOf.sizeOf f≤s→FOk f→fcount f≤xcount (XL f)∧fdepth f≤xdepth (XL f)+1
 | 0,f,h,_=>by cases f;simp at h
 | s+1,f,h,h1=>by
  have h3:=W6.1 h1
  obtain ⟨_,⟨k,hk,hr⟩,_⟩:=h3.1
  rw [formX_eq,YbK,Ydi]
  by_cases k1:f.op=kAtom
  ·rw [Yfp,if_pos (.inl k1)] at hk
   cases hk
   rw [List.eq_nil_of_length_eq_zero hr.2.1,List.eq_nil_of_length_eq_zero hr.2.2.1,if_pos k1]
   simp [ecountL,edepthL,fcountL,fdepthL,Wy,Yaz,Yay]
  ·by_cases k2:f.op=kSame
   ·rw [Yfp,if_pos (.inr k2)] at hk
    cases hk
    rw [List.eq_nil_of_length_eq_zero hr.2.1,List.eq_nil_of_length_eq_zero hr.2.2.1,if_neg k1,if_pos k2]
    simp [ecountL,edepthL,fcountL,fdepthL,Wy,Yaz,Yay]
   ·by_cases k3:CmpOp f.op
    ·rw [Yfp,if_neg (fun h0=>h0.elim k1 k2),if_pos k3] at hk
     cases hk
     obtain ⟨a,b,hab⟩:∃ a b,f.exprs=[a,b]:=by
      match hK:f.exprs,hr.2.1 with
      | [a,b],_=>exact ⟨a,b,rfl⟩
     have la:=Yaj _ (Nat.le_refl _) (h3.2.1 a (by rw [hab];simp))
     have lb:=Yaj _ (Nat.le_refl _) (h3.2.1 b (by rw [hab];simp))
     rw [hab,List.eq_nil_of_length_eq_zero hr.2.2.1,if_neg k1,if_neg k2,if_pos k3]
     simp only [ecountL,edepthL,fcountL,fdepthL,Yaz,Yay,xcountL,xdepthL,List.map_cons,List.map_nil]
     omega
    ·have he:f.exprs=[]:=by
      refine List.eq_nil_of_length_eq_zero ?_
      rw [hr.2.1]
      rw [Yfp,if_neg (fun h0=>h0.elim k1 k2),if_neg k3] at hk
      split at hk
      ·cases hk;rfl
      ·split at hk
       ·cases hk;rfl
       ·split at hk
        ·cases hk;rfl
        ·split at hk
         ·cases hk;rfl
         ·cases hk
     have c1:=Yd5 (l:=f.kids) (fun k hk=>(Yb6 s (by have:=Formula.kids_lt hk;omega) (h3.2.2 k hk)).1)
     have c2:=Yd4 (l:=f.kids) (fun k hk=>(Yb6 s (by have:=Formula.kids_lt hk;omega) (h3.2.2 k hk)).2)
     rw [he,if_neg k1,if_neg k2,if_neg k3,Yaz,Yay,Ybh,Ydv]
     simp only [ecountL,edepthL]
     omega
def FVal (f:Formula):Prop:=FOk f∧XVal (XL f)
def EVal (e:Lx.Expr):Prop:=EOk e∧XVal (Xi e)
theorem fvalid_q {fz:FZ} {f:Formula} {va vp ve vk:Value} (h:FormulaR fz f va vp ve vk) (hs:FSm f):
 QFn Tryz.prog 88 [.agg #[.string f.op,.string f.name,va,vp,ve,vk]] fz (.bool (decide (FVal f))):=by
 obtain ⟨A,n,ca,rfl,ha⟩:=h.args
 obtain ⟨B,m,cb,rfl,hp⟩:=h.params
 obtain ⟨C,r,cr,rfl,he⟩:=h.exprs
 obtain ⟨D,q,cq,rfl,hk⟩:=h.kids
 refine GFn.quiet ?_
 (refine GFn.of_wp Tryz.func88 rfl Tryz.ntmps88 rfl rfl (fun w0=>?_))
 (refine Yu (Yy (Yd Zz (XB _ Zz Zz (fun g0=>?_)))))
 ((repeat (first | refine zS ?_ | refine zA fun _=>?_)))
 rename_i g1
 (refine Yd Zz (Yz [_] [_] Zz Zz Zz (shaped_q (g:=g1) (d:=0) (c:=0) h Zi Zi) (fun v5 fz5 H5 hle5 hR5=>?_)))
 obtain ⟨_,b5,c5,rfl,rfl,hc5,hb5⟩:=hR5
 cases b5
 ·((repeat (first | refine zS ?_ | refine zA fun _=>?_)))
  (exact ret1 rfl rfl (Zb) (Yt (fun h0=>by
   have h1:=Yb6 _ (Nat.le_refl _) h0.1
   exact absurd (hb5.2 ⟨h0.1,by have:=h0.2.2.1;omega,by have:=h0.2.2.2;omega⟩) (by simp))))
 ·have hb:=hb5.1 rfl
  ((repeat (first | refine zS ?_ | refine zA fun _=>?_)))
  (refine Seq.guard_yesK Zz Zz Zz (Yz [] _ Zz Zz Zz (Yhr (h.mono hle5) (Ydf _ (Nat.le_refl _) hb.1 hs)) (fun v6 fz6 H6 hle6 hR6=>?_)))
  obtain ⟨rfl,cs,rfl,hr⟩:=hR6
  obtain ⟨vk6,rfl,hX⟩:=Yx hr
  ((repeat (first | refine zS ?_ | refine zA fun _=>?_)))
  (((refine zG ?_));refine Yl Zz Zz (YcC hX) ?_)
  ((repeat (first | refine zS ?_ | refine zA fun _=>?_)))
  have hd:decide (FVal f)=decide (XVal (XL f)):=decide_eq_decide.2 ⟨fun h0=>h0.2,fun h0=>⟨hb.1,h0⟩⟩
  (exact ret1 rfl rfl (Zb) (by rw [hd]))
theorem evalid_q {fz:FZ} {e:Lx.Expr} {va vk:Value} (h:ExprR fz e va vk) (hs:ESm e):
 QFn Tryz.prog 243 [.agg #[.string e.op,.string e.name,.int .i64 e.n,va,vk]] fz (.bool (decide (EVal e))):=by
 obtain ⟨A,n,ca,rfl,ha⟩:=h.args
 obtain ⟨D,q,cq,rfl,hk⟩:=h.kids
 refine GFn.quiet ?_
 (refine GFn.of_wp Tryz.func243 rfl Tryz.ntmps243 rfl rfl (fun w0=>?_))
 (refine Yu (Yy (Yd Zz (XB _ Zz Zz (fun g0=>?_)))))
 ((repeat (first | refine zS ?_ | refine zA fun _=>?_)))
 rename_i g1
 (refine Yd Zz (Yz [_] [_] Zz Zz Zz (YgK (g:=g1) (d:=0) (c:=0) h Zi Zi) (fun v5 fz5 H5 hle5 hR5=>?_)))
 obtain ⟨_,b5,c5,rfl,rfl,hc5,hb5⟩:=hR5
 cases b5
 ·((repeat (first | refine zS ?_ | refine zA fun _=>?_)))
  (exact ret1 rfl rfl (Zb) (Yt (fun h0=>by
   have h1:=Yaj _ (Nat.le_refl _) h0.1
   exact absurd (hb5.2 ⟨h0.1,by have:=h0.2.2.1;omega,by have:=h0.2.2.2;omega⟩) (by simp))))
 ·have hb:=hb5.1 rfl
  ((repeat (first | refine zS ?_ | refine zA fun _=>?_)))
  (refine Seq.guard_yesK Zz Zz Zz (Yz [] _ Zz Zz Zz (Xx (h.mono hle5) (Yak _ (Nat.le_refl _) hb.1 hs)) (fun v6 fz6 H6 hle6 hR6=>?_)))
  obtain ⟨rfl,cs,rfl,hr⟩:=hR6
  obtain ⟨vk6,rfl,hX⟩:=Yx hr
  ((repeat (first | refine zS ?_ | refine zA fun _=>?_)))
  (((refine zG ?_));refine Yl Zz Zz (YcC hX) ?_)
  ((repeat (first | refine zS ?_ | refine zA fun _=>?_)))
  have hd:decide (EVal e)=decide (XVal (Xi e)):=decide_eq_decide.2 ⟨fun h0=>h0.2,fun h0=>⟨hb.1,h0⟩⟩
  (exact ret1 rfl rfl (Zb) (by rw [hd]))
def YeS:Sexpr:=.mk 0 0 0 0 ⟨#[]⟩ []
theorem YcB {fz:FZ}:SxIs fz (sxV 0 0 ⟨#[]⟩ (.slice none 0 0)) YeS:=⟨_,rfl,Yf (x:=YeS) ⟨Xf,Xf,Xf,Xf,YP,IsSl.nil⟩⟩
def WrR (P:Prop) (x:Sexpr) (v:Value) (fz':FZ) (H':HP):Prop:=H'=[]∧∃ u y,v=.tuple #[u,errV (if P then 0 else 2)]∧SxIs fz' u y∧(P→y=x)
theorem fWrite_q {fz:FZ} {f:Formula} {va vp ve vk:Value} (h:FormulaR fz f va vp ve vk) (hs:FSm f):
 GFn Tryz.prog 42 [.agg #[.string f.op,.string f.name,va,vp,ve,vk]] fz [] (WrR (FVal f) (XL f)):=by
 obtain ⟨A,n,ca,rfl,ha⟩:=h.args
 obtain ⟨B,m,cb,rfl,hp⟩:=h.params
 obtain ⟨C,r,cr,rfl,he⟩:=h.exprs
 obtain ⟨D,q,cq,rfl,hk⟩:=h.kids
 (refine GFn.of_wp Tryz.func42 rfl Tryz.ntmps42 rfl rfl (fun w0=>?_))
 (refine Yu (Yy (Yd Zz (XB _ Zz Zz (fun g0=>?_)))))
 ((repeat (first | refine zS ?_ | refine zA fun _=>?_)))
 rename_i g1
 (((refine zG ?_));refine YO Zz Zz (fvalid_q h hs) (fun f1=>?_) (fun f1=>?_))
 ·have hv:=of_decide_eq_true f1
  ((repeat (first | refine zS ?_ | refine zA fun _=>?_)))
  (refine Yd Zz (Yz [] _ Zz Zz Zz (Yhr h (Ydf _ (Nat.le_refl _) hv.1 hs)) (fun v6 fz6 H6 hle6 hR6=>?_)))
  obtain ⟨rfl,cs,rfl,hr⟩:=hR6
  obtain ⟨vk6,rfl,hX⟩:=Yx hr
  obtain ⟨A6,n6,b6,rfl,_⟩:=hX.kids
  ((repeat (first | refine zS ?_ | refine zA fun _=>?_)))
  refine YfM T (vs:=[.agg #[_,_,_,_,_,_],.nilIface]) Zz ⟨⟨_,_,0,_,_,_,rfl,rfl,rfl,rfl,rfl,rfl⟩,rfl,trivial⟩ (fun fz3 hle3 hf3=>?_)
  exact ⟨rfl,_,_,by rw [if_pos hv];rfl,SxIs.mono hle3 ⟨_,rfl,Yf hX⟩,fun _=>rfl⟩
 ·have hv:=of_decide_eq_false f1
  ((repeat (first | refine zS ?_ | refine zA fun _=>?_)))
  refine YfM T (vs:=[.agg #[_,_,_,_,_,_],_]) Zz ⟨⟨_,_,0,_,_,_,rfl,rfl,rfl,rfl,rfl,rfl⟩,rfl,trivial⟩ (fun fz3 hle3 hf3=>?_)
  exact ⟨rfl,_,_,by rw [if_neg hv,Ybt Zh];rfl,YcB,fun h0=>absurd h0 hv⟩
theorem eWrite_q {fz:FZ} {e:Lx.Expr} {va vk:Value} (h:ExprR fz e va vk) (hs:ESm e):
 GFn Tryz.prog 205 [.agg #[.string e.op,.string e.name,.int .i64 e.n,va,vk]] fz [] (WrR (EVal e) (Xi e)):=by
 obtain ⟨A,n,ca,rfl,ha⟩:=h.args
 obtain ⟨D,q,cq,rfl,hk⟩:=h.kids
 (refine GFn.of_wp Tryz.func205 rfl Tryz.ntmps205 rfl rfl (fun w0=>?_))
 (refine Yu (Yy (Yd Zz (XB _ Zz Zz (fun g0=>?_)))))
 ((repeat (first | refine zS ?_ | refine zA fun _=>?_)))
 rename_i g1
 (((refine zG ?_));refine YO Zz Zz (evalid_q h hs) (fun f1=>?_) (fun f1=>?_))
 ·have hv:=of_decide_eq_true f1
  ((repeat (first | refine zS ?_ | refine zA fun _=>?_)))
  (refine Yd Zz (Yz [] _ Zz Zz Zz (Xx h (Yak _ (Nat.le_refl _) hv.1 hs)) (fun v6 fz6 H6 hle6 hR6=>?_)))
  obtain ⟨rfl,cs,rfl,hr⟩:=hR6
  obtain ⟨vk6,rfl,hX⟩:=Yx hr
  obtain ⟨A6,n6,b6,rfl,_⟩:=hX.kids
  ((repeat (first | refine zS ?_ | refine zA fun _=>?_)))
  refine YfM T (vs:=[.agg #[_,_,_,_,_,_],.nilIface]) Zz ⟨⟨_,_,0,_,_,_,rfl,rfl,rfl,rfl,rfl,rfl⟩,rfl,trivial⟩ (fun fz3 hle3 hf3=>?_)
  exact ⟨rfl,_,_,by rw [if_pos hv];rfl,SxIs.mono hle3 ⟨_,rfl,Yf hX⟩,fun _=>rfl⟩
 ·have hv:=of_decide_eq_false f1
  ((repeat (first | refine zS ?_ | refine zA fun _=>?_)))
  refine YfM T (vs:=[.agg #[_,_,_,_,_,_],_]) Zz ⟨⟨_,_,0,_,_,_,rfl,rfl,rfl,rfl,rfl,rfl⟩,rfl,trivial⟩ (fun fz3 hle3 hf3=>?_)
  exact ⟨rfl,_,_,by rw [if_neg hv,Ybt Zh];rfl,YcB,fun h0=>absurd h0 hv⟩
end Go.Proofs.YtbhlgkibgajajaaGreatDoor
set_option maxRecDepth 20000
namespace Go.Proofs.YtbhlgkibgajajaaGreatDoor
open Go.Lx Go.RowKit
attribute [local instance 10] Classical.propDecidable
end Go.Proofs.YtbhlgkibgajajaaGreatDoor
