/- The texts PBytes, PWalkG, PWalkH, PWalkI, PRefA, laid together. Conditions: none. -/
import Derived.Test.YtbhlgkibgajajaaGreatDoorQPB
import Derived.Test.YtbhlgkibgajajaaGreatDoorQPC
import Derived.Test.YtbhlgkibgajajaaGreatDoorQPD
import Derived.Test.YtbhlgkibgajajaaGreatDoorQPE
import Derived.Lib.ConvBytes
import Derived.Laws.BytesArg
import Derived.Test.YtbhlgkibgajajaaGreatDoorQPF
import Derived.Laws.StandIn
import Derived.Lib.Bytealg
namespace Go.Lx
open Go.RowKit
def Yao (b:UInt8):Value:=Value.int .u8 b.toNat
def YaW (bs:List UInt8) (k:Nat):List Value:=bs.map Yao++List.replicate k (Value.int .u8 0)
def YaV (e:TypeId) (bs:List UInt8) (k:Nat):Obj:=.cells (YaW bs k).toArray e (bs.length+k,bs.length+k+1)
theorem Yiy {bs:List UInt8} {k:Nat}:(YaW bs k).length=bs.length+k:=by simp [YaW]
theorem YcV {bs:List UInt8} {k j:Nat} (h:j<bs.length):(YaW bs k)[j]?=some (Yao bs[j]):=by
 simp [YaW,List.getElem?_append,h]
theorem Yix {bs:List UInt8} {k j:Nat} {b:UInt8} (h:j<bs.length):(YaW bs k).set j (Yao b)=YaW (bs.set j b) k:=by
 unfold YaW
 rw [List.set_append_left _ _ (by simpa using h),List.map_set]
theorem Inv.made {cx:Cx} {fz:FZ} {H:HP} {w w':World} {o:Obj} (h:Inv cx fz H w) (h1:w'.os=w.os) (h2:w'.tape=w.tape) (h3:w'.output=w.output) (h4:w'.heap.size=w.heap.size+1) (h5:w'.heap[w.heap.size]?=some o) (h6:∀ j,j<w.heap.size→w'.heap[j]?=w.heap[j]?):
 Inv cx fz ((w.heap.size,o)::H) w':=by
 refine (h.alloc o).world (h1.trans rfl) (h2.trans rfl) (h3.trans rfl) ?_
 apply Array.ext_getElem?
 intro j
 simp only [World.alloc,Array.getElem?_push]
 by_cases hj:j=w.heap.size
 ·subst hj;simp [h5]
 ·simp only [hj,if_false]
  by_cases hl:j<w.heap.size
  ·exact h6 j hl
  ·rw [Array.getElem?_eq_none Zi,Array.getElem?_eq_none Zi]
section
variable {P:Program} {cx:Cx} {r:Operand→Option Value} {fz:FZ} {H:HP} {V:Value→Prop} {dst:Option Nat} {ty:TypeId} {pos:String} {af:Array Edge} {gd:Option (Nat × Bool)}
theorem k_bytes (T:Tab P) {src dt e:TypeId} {x:Operand} {X Y Z:Ty} {s:ByteArray} {K:Value→FZ→HP→Prop} (hX:T.inf src=some X) (hXd:X.desc=.string) (hY:T.inf dt=some Y) (hYd:Y.desc=.slice e) (hZ:T.inf e=some Z) (hZd:Z.desc=.int .u8)
 (hx:r x=some (.string s)) (h:∀ g k,K (.slice (some ⟨g,0,none⟩) s.size (s.size+k)) fz ((g,YaV e s.data.toList k)::H)):Does P cx ⟨dst,.convert src dt x,ty,pos,af,gd⟩ r fz H K:=by
 refine Does.of fun ρ w hr hw=>?_
 have hrun:=Go.Lib.run_convert_string_bytes (P:=P) w src dt e s (und_plain T hX hXd rfl) (und_plain T hY hYd rfl) (und_plain T hZ hZd rfl)
 have:(execOp ρ ⟨dst,.convert src dt x,ty,pos,af,gd⟩).run P w=.ok (.value (.slice (some ⟨w.heap.size,0,none⟩) s.size (grownCap w s.size 0 e))) (Go.Lib.bytesWorld w e s):=by
  simp only [execOp,hr _ _ hx,Sem.run_bind,hrun,Result.andThen_ok,Sem.run_pure]
 rw [this]
 obtain ⟨k,hk⟩:∃ k,grownCap w s.size 0 e=s.size+k:=⟨grownCap w s.size 0 e - s.size,by have:=grownCap_ge w s.size 0 e;omega⟩
 have hcells:Go.Lib.bytesCells w e s=(YaW s.data.toList k).toArray:=by
  simp [Go.Lib.bytesCells,YaW,hk]
  exact fun _ _=>rfl
 have hlen:s.data.toList.length=s.size:=by rw [Array.length_toList];rfl
 have hnew:=Go.Lib.bytesWorld_at_new w e s
 rw [hcells] at hnew
 have hobj:(Go.Lib.bytesWorld w e s).heap[w.heap.size]?=some (YaV e s.data.toList k):=by
  rw [hnew];simp [YaV,Yiy]
 rw [hk]
 exact ⟨fz,_,Inv.made hw rfl rfl rfl (Go.Lib.bytesWorld_size w e s) hobj (fun j hj=>Go.Lib.bytesWorld_at_old w e s j hj),h _ k⟩
theorem YgQ (T:Tab P) {t t':TypeId} {x:Operand} {X:Ty} {g j:Nat} {bs:List UInt8} {k:Nat} {b:UInt8} (i:Nat) (hT:T.inf t=some X) (hd:isAggD X.desc=false) (hx:r x=some (.pointer (some ⟨g,j,none⟩))) (hi:H[i]?=some (g,YaV t' bs k)) (hb:bs[j]?=some b) (h:V (Yao b)):
 DoesQ P cx ⟨dst,.load t x,ty,pos,af,gd⟩ r fz H V:=by
 obtain ⟨hj,rfl⟩:=List.getElem?_eq_some_iff.1 hb
 exact Yo T i hT hd hx hi (YcV hj) h
theorem Ygh (T:Tab P) {t t':TypeId} {x y:Operand} {X:Ty} {pre post:HP} {g j:Nat} {bs:List UInt8} {k:Nat} {b:UInt8} {K:Value→FZ→HP→Prop} (hT:T.inf t=some X)
 (hx:r x=some (.pointer (some ⟨g,j,none⟩))) (hy:r y=some (Yao b)) (hH:H=pre++(g,YaV t' bs k)::post) (hs:X.size=1) (hj:j<bs.length)
 (h:K undef fz (pre++(g,YaV t' (bs.set j b) k)::post)):Does P cx ⟨dst,.store t x y,ty,pos,af,gd⟩ r fz H K:=by
 refine Does.of fun ρ w hr hw=>?_
 subst hH
 have hb:=(hw.hp.own (g,YaV t' bs k) (by simp)).1
 have hcell:w.cell? ⟨g,j,none⟩=some (Yao bs[j]):=by
  simp only [World.cell?,hb,YaV]
  simpa using YcV hj
 have hfro:w.frozen? ⟨g,j,none⟩=false:=by
  simp only [World.frozen?,hb,YaV,Bool.and_eq_false_iff,decide_eq_false_iff_not]
  left;omega
 have hz:=run_sizeOf T hT w
 rw [hs] at hz
 have hst:(storeCells ⟨g,j,none⟩ [Yao b] 0).run P w=.ok () (w.setRow g (YaW (bs.set j b) k).toArray):=by
  have hadd:(⟨g,j,none⟩:Addr).add 0=⟨g,j,none⟩:=by simp [Addr.add]
  simp only [storeCells,Sem.run_bind,hadd,run_store P w _ (Yao b) _ rfl,hcell,hfro]
  simp [setCell_eq_setRow w g j (YaW bs k).toArray t' _ (Yao b) hb,← Yix hj]
 have:(execOp ρ ⟨dst,.store t x y,ty,pos,af,gd⟩).run P w=.ok .skip (w.setRow g (YaW (bs.set j b) k).toArray):=by
  simp only [execOp,hr _ _ hx,hr _ _ hy,Instr.storeAt,Instr.sureAddr,Sem.run_bind,Sem.run_pure,Result.andThen_ok,storeVar,hz]
  simp [Yao,Value.cells] at hst ⊢
  simp [hst]
 rw [this]
 refine ⟨fz,_,hw.write (o':=YaV t' (bs.set j b) k) rfl rfl rfl (by simp) ?_ (fun k hk=>?_),h⟩
 ·simp [World.setRow,Array.getElem?_modify,hb,YaV]
 ·simp only [World.setRow,Array.getElem?_modify]
  rw [if_neg Zi]
theorem YgO (T:Tab P) {src dt e:TypeId} {x:Operand} {X Y Z:Ty} {t':TypeId} {g n c k:Nat} {bs:List UInt8} (i:Nat) (hX:T.inf src=some X) (hXd:X.desc=.slice e) (hY:T.inf dt=some Y) (hYd:Y.desc=.string) (hZ:T.inf e=some Z) (hZd:Z.desc=.int .u8)
 (hx:r x=some (.slice (some ⟨g,0,none⟩) n c)) (hi:H[i]?=some (g,YaV t' bs k)) (hn:bs.length=n) (h:V (.string ⟨bs.toArray⟩)):DoesQ P cx ⟨dst,.convert src dt x,ty,pos,af,gd⟩ r fz H V:=by
 refine DoesQ.of h fun ρ w hr hw=>?_
 have hcell:∀ j,j<n→w.cell? ⟨g,0+j,none⟩=some (.int .u8 ((bs.map fun b=>(b.toNat:Int)).getD j 0)):=fun j hj=>by
  have hj':j<bs.length:=by omega
  rw [Nat.zero_add,hw.cellOwn hi j]
  have:=YcV (k:=k) hj'
  simp only [List.getElem?_toArray,this,Yao]
  simp [List.getD,hj']
 have hrun:=run_convert_bytes_arg (P:=P) w src e (und_plain T hX hXd rfl) (und_plain T hZ hZd rfl) g 0 n c (bs.map fun b=>(b.toNat:Int)) (by simpa using hn) hcell dt (und_plain T hY hYd rfl)
 have hs:strOfNums (bs.map fun b=>(b.toNat:Int))=⟨bs.toArray⟩:=by simp [strOfNums,Function.comp_def]
 rw [hs] at hrun
 have:(execOp ρ ⟨dst,.convert src dt x,ty,pos,af,gd⟩).run P w=.ok (.value (.string ⟨bs.toArray⟩)) w:=by
  simp only [execOp,hr _ _ hx,Sem.run_bind,hrun,Result.andThen_ok,Sem.run_pure]
 rw [this]
 exact ⟨rfl,Fr.refl _ _⟩
end
end Go.Lx
set_option maxRecDepth 20000
namespace Go.Proofs.YtbhlgkibgajajaaGreatDoor
open Go.Lx Go.RowKit
attribute [local instance 10] Classical.propDecidable
theorem Xr {b:UInt8}:∀ {l:List UInt8},0≤Lib.indexByte l b↔b∈l
 | []=>by simp [Lib.indexByte]
 | x::r=>by
  have ih:=Xr (b:=b) (l:=r)
  simp only [Lib.indexByte,List.mem_cons]
  split
  ·rename_i h
   have:x=b:=by simpa using h
   simp [this]
  ·rename_i h
   have hx:¬b=x:=by
    intro h0;subst h0;simp at h
   simp only [hx,false_or]
   split
   ·rename_i h1
    rw [← ih,eq_of_beq h1]
   ·rename_i h1
    have h2:Lib.indexByte r b≠ -1:=by simpa using h1
    have:=Lib.indexByte_ge r b
    rw [← ih];omega
theorem sibs_q {fz:FZ} {s:ByteArray} {n:Int}:QFn Tryz.prog 244 [.string s,.int .u8 n] fz (.int .i64 (Lib.indexByte s.data.toList n.toNat.toUInt8)):=by
 refine GFn.quiet ?_
 (refine GFn.of_wp Tryz.func244 rfl Tryz.ntmps244 rfl rfl (fun w0=>?_))
 ((repeat (first | refine zS ?_ | refine zA fun _=>?_)))
 refine Seq.q rfl (DoesQ.of (v:=.int .i64 (Lib.indexByte s.data.toList n.toNat.toUInt8)) ?_ fun ρ w hr hi=>?_)
 ·((repeat (first | refine zS ?_ | refine zA fun _=>?_)))
  (exact ret1 rfl rfl (Zb) rfl)
 ·have h5:ρ (.tmp 5)=.string s:=hr _ _ rfl
  have h6:ρ (.tmp 6)=.int .u8 n:=hr _ _ rfl
  have h7:ρ (.func 270)=.func (.func 270) #[] #[]:=hr _ _ rfl
  have hrun:=run_callFunc_indexByte (P:=Tryz.prog) Tryz.func270 Zj rfl (by rfl) (by rfl) #[.string s,.int .u8 n] w
  rw [Lib.run_indexByteString] at hrun
  simp only [execOp,resolve,Deferred.ofValue,invoke,List.map_toArray,List.map_cons,List.map_nil,h5,h6,h7,Sem.run_bind,Sem.run_pure,Result.andThen_ok] at hrun ⊢
  simp only [Array.empty_append,Array.append_empty]
  rw [hrun]
  exact ⟨rfl,Fr.refl _ _⟩
theorem ibs_q {fz:FZ} {s:ByteArray} {n:Int}:QFn Tryz.prog 207 [.string s,.int .u8 n] fz (.int .i64 (Lib.indexByte s.data.toList n.toNat.toUInt8)):=by
 refine GFn.quiet ?_
 (refine GFn.of_wp Tryz.func207 rfl Tryz.ntmps207 rfl rfl (fun w0=>?_))
 ((repeat (first | refine zS ?_ | refine zA fun _=>?_)))
 (((refine zG ?_));refine Yj Zz Zz sibs_q ?_)
 ((repeat (first | refine zS ?_ | refine zA fun _=>?_)))
 (exact ret1 rfl rfl (Zb) rfl)
def UpC (n:Int):Prop:=65≤n∧n≤90
def SymL:List UInt8:=[45,95,63,58,60,62,61,43,42]
def LowC (b:UInt8):Prop:=LetP b.toNat∨DigP b.toNat∨b∈SymL
def AnyC (b:UInt8):Prop:=UpC b.toNat∨LowC b
noncomputable def lowB (b:UInt8):UInt8:=if UpC b.toNat then b+32 else b
noncomputable def lowS (s:ByteArray):ByteArray:=⟨(s.data.toList.map lowB).toArray⟩
def LowP (s:ByteArray):Prop:=s≠Xx∧s.size≤32∧∀ b∈s.data.toList,AnyC b
theorem YiK {n:Int} (h:0≤n∧n≤255):IntKind.u8.wrap n=n:=by
 simp only [IntKind.wrap,IntKind.signed,IntKind.bits];simp;omega
theorem byteV_up {b:UInt8} (h:UpC b.toNat):Value.int .u8 ((b.toNat:Int)+97 - 65)=Yao (lowB b):=by
 unfold UpC at h
 have h2:(b+32).toNat=b.toNat+32:=by rw [UInt8.toNat_add];simp;omega
 unfold Yao lowB UpC
 rw [if_pos h,h2]
 congr 1
 omega
theorem Ya9 {s:ByteArray}:s.data.toList.length=s.size:=by rw [Array.length_toList];rfl
theorem Yfj {s:ByteArray} {k:Nat} (h:k<s.size):s.data.toList[k]?=some s[k]:=by
 rw [List.getElem?_eq_getElem (by rw [Ya9];exact h)]
 rfl
theorem set_mid {α:Type} {f:α→α} {l:List α} {k:Nat} {x:α} (h:l[k]?=some x):((l.take k).map f++l.drop k).set k (f x)=(l.take (k+1)).map f++l.drop (k+1):=by
 have hk:k<l.length:=(List.getElem?_eq_some_iff.1 h).1
 have hl:((l.take k).map f).length=k:=by simp;omega
 rw [List.set_append_right _ _ Zi,hl,Nat.sub_self,List.take_add_one,h]
 have:l.drop k=x::l.drop (k+1):=by
  rw [List.drop_eq_getElem_cons hk]
  rw [List.getElem?_eq_getElem hk] at h
  cases h;rfl
 rw [this]
 simp
theorem Ybb {α:Type} {f:α→α} {l:List α} {k:Nat} {x:α} (h:l[k]?=some x) (hf:f x=x):(l.take k).map f++l.drop k=(l.take (k+1)).map f++l.drop (k+1):=by
 rw [← set_mid h,hf]
 have hk:k<l.length:=(List.getElem?_eq_some_iff.1 h).1
 apply List.ext_getElem?
 intro i
 rw [List.getElem?_set]
 split
 ·rename_i he
  subst he
  have hl:((l.take k).map f).length=k:=by simp;omega
  rw [if_pos (by simp;omega),List.getElem?_append_right Zi,hl,Nat.sub_self,List.getElem?_drop,Nat.add_zero,h]
 ·rfl
theorem get_mid {α:Type} {f:α→α} {l:List α} {k:Nat} {x:α} (h:l[k]?=some x):((l.take k).map f++l.drop k)[k]?=some x:=by
 have hk:k<l.length:=(List.getElem?_eq_some_iff.1 h).1
 have hl:((l.take k).map f).length=k:=by simp;omega
 rw [List.getElem?_append_right Zi,hl,Nat.sub_self,List.getElem?_drop,Nat.add_zero,h]
theorem YaF {α:Type} {p:α→Prop} {l:List α} {k:Nat} {x:α} (h:∀ b∈l.take k,p b) (hx:l[k]?=some x) (hp:p x):∀ b∈l.take (k+1),p b:=by
 rw [List.take_add_one,hx]
 intro b hb
 rcases List.mem_append.1 hb with hb | hb
 ·exact h b hb
 ·simp at hb;subst hb;exact hp
theorem Ya5 {b:UInt8} (h:¬UpC b.toNat):lowB b=b:=if_neg h
theorem YcX {b:UInt8}:((b.toNat:Int).toNat).toUInt8=b:=by simp [Nat.toUInt8]
set_option maxHeartbeats 1000000 in
theorem Yjm {fz:FZ} {s:ByteArray}:QFn Tryz.prog 149 [.string s] fz (.tuple #[.string (if LowP s then lowS s else Xx),.bool (decide (LowP s))]):=by
 refine GFn.quiet ?_
 have no:¬LowP s→Value.tuple #[.string Xx,.bool false]=.tuple #[.string (if LowP s then lowS s else Xx),.bool (decide (LowP s))]:=fun h=>by rw [if_neg h,decide_eq_false h]
 (refine GFn.of_wp Tryz.func149 rfl Tryz.ntmps149 rfl rfl (fun w0=>?_))
 ((repeat (first | refine zS ?_ | refine zA fun _=>?_)))
 ((refine zG ?_;refine zC (fun c1=>?_) (fun c1=>?_)))
 ·((repeat (first | refine zS ?_ | refine zA fun _=>?_)))
  exact ret2 rfl rfl rfl (Zb) (no (fun h=>h.1 c1))
 ·((repeat (first | refine zS ?_ | refine zA fun _=>?_)))
  ((refine zG ?_;refine zC (fun c2=>?_) (fun c2=>?_)))
  ·((repeat (first | refine zS ?_ | refine zA fun _=>?_)))
   exact ret2 rfl rfl rfl (Zb) (no (fun h=>by have:=h.2.1;omega))
  ·((repeat (first | refine zS ?_ | refine zA fun _=>?_)))
   refine Yb Zz (k_bytes T Zz Zz Zz Zz Zz Zz Zz (fun g k0=>?_))
   have hz:s.size≤32:=by omega
   ((repeat (first | refine zS ?_ | refine zA fun _=>?_)))
   refine YD (fun q σ fz' H'=>∃ k:Nat,k≤s.size∧q=s.size - k∧σ=[(18,.int .i64 k),(17,.int .i64 s.size),(16,.slice (some ⟨g,0,none⟩) s.size (s.size+k0)),(4,.slice (some ⟨g,0,none⟩) s.size (s.size+k0))]∧fz=fz'∧
    H'=[(g,YaV 5 ((s.data.toList.take k).map lowB++s.data.toList.drop k) k0)]∧(∀ b∈s.data.toList.take k,AnyC b)) ⟨0,Nat.zero_le _,rfl,rfl,rfl,rfl,by simp⟩ (Zw) (Zb) ?_
   rintro q σ fz' H' ⟨k,hk,rfl,rfl,rfl,rfl,hh⟩
   have hlen:((s.data.toList.take k).map lowB++s.data.toList.drop k).length=s.size:=by
    have:=Ya9 (s:=s)
    simp only [List.length_append,List.length_map,List.length_take,List.length_drop];omega
   ((repeat (first | refine zS ?_ | refine zA fun _=>?_)))
   ((refine zG ?_;refine zC (fun c3=>?_) (fun c3=>?_)))
   ·obtain ⟨b,hb⟩:∃ b,s.data.toList[k]?=some b:=⟨_,Yfj Zi⟩
    have hlt:=b.toNat_lt
    have bad:¬AnyC b→¬LowP s:=fun h0 h1=>h0 (h1.2.2 b (List.mem_of_getElem? hb))
    ((repeat (first | refine zS ?_ | refine zA fun _=>?_)))
    ((refine zG ?_));refine Yb4 T Zz Zz Zz Zz Zz Zz Zi Zi ?_
    ((refine zG ?_));refine YgQ T 0 Zz Zz Zz Zz (get_mid hb) ?_
    ((repeat (first | refine zS ?_ | refine zA fun _=>?_)))
    ((refine zG ?_;refine zC (fun d1=>?_) (fun d1=>?_)))
    ·((repeat (first | refine zS ?_ | refine zA fun _=>?_)))
     ((refine zG ?_;refine zC (fun d2=>?_) (fun d2=>?_)))
     ·((repeat (first | refine zS ?_ | refine zA fun _=>?_)))
      ((refine zG ?_));refine Yb5 Zz Zz (YiK Zi) ?_
      ((refine zG ?_));refine Yej Zz Zz (YiK Zi) ?_
      ((refine zG ?_));refine Yb4 T Zz Zz Zz Zz Zz Zz Zi Zi ?_
      refine YI (Ygh T (pre:=[]) Zz Zz (congrArg some (byteV_up ⟨d1,d2⟩)) rfl Zz (by rw [hlen];exact (by omega:k<s.size)) ?_)
      ((repeat (first | refine zS ?_ | refine zA fun _=>?_)))
      exact YP ⟨k+1,by omega,rfl,rfl,rfl,by rw [← set_mid hb],YaF hh hb (.inl ⟨d1,d2⟩)⟩ Zi (Zw) (Zb)
     ·have nu:¬UpC b.toNat:=fun h0=>d2 h0.2
      ((repeat (first | refine zS ?_ | refine zA fun _=>?_)))
      ((refine zG ?_;refine zC (fun d3=>?_) (fun d3=>?_)))
      ·((repeat (first | refine zS ?_ | refine zA fun _=>?_)))
       ((refine zG ?_;refine zC (fun d4=>?_) (fun d4=>?_)))
       ·((repeat (first | refine zS ?_ | refine zA fun _=>?_)))
        exact YP ⟨k+1,by omega,rfl,rfl,rfl,by rw [← Ybb hb (Ya5 nu)],YaF hh hb (.inr (.inl ⟨d3,d4⟩))⟩ Zi (Zw) (Zb)
       ·have nl:¬LetP b.toNat:=fun h0=>d4 h0.2
        ((repeat (first | refine zS ?_ | refine zA fun _=>?_)))
        (((refine zG ?_));refine Yz Zz Zz (Yfu (n:=b.toNat)) (fun f1=>?_) (fun f1=>?_))
        ·((repeat (first | refine zS ?_ | refine zA fun _=>?_)))
         exact YP ⟨k+1,by omega,rfl,rfl,rfl,by rw [← Ybb hb (Ya5 nu)],YaF hh hb (.inr (.inr (.inl (of_decide_eq_true f1))))⟩ Zi (Zw) (Zb)
        ·((repeat (first | refine zS ?_ | refine zA fun _=>?_)))
         (((refine zG ?_));refine Yj Zz Zz (ibs_q (n:=b.toNat)) ?_)
         ((refine zG ?_;refine zC (fun e1=>?_) (fun e1=>?_)))
         ·((repeat (first | refine zS ?_ | refine zA fun _=>?_)))
          exact YP ⟨k+1,by omega,rfl,rfl,rfl,by rw [← Ybb hb (Ya5 nu)],YaF hh hb (.inr (.inr (.inr (by rw [Xr,YcX] at e1;exact e1))))⟩ Zi (Zw) (Zb)
         ·((repeat (first | refine zS ?_ | refine zA fun _=>?_)))
          exact ret2 rfl rfl rfl (Zb) (no (bad (fun h0=>by
           rcases h0 with h0 | h0 | h0 | h0
           ·exact nu h0
           ·exact nl h0
           ·exact of_decide_eq_false f1 h0
           ·exact e1 (Xr.2 (by rw [YcX];exact h0)))))
      ·have nl:¬LetP b.toNat:=fun h0=>d3 h0.1
       ((repeat (first | refine zS ?_ | refine zA fun _=>?_)))
       (((refine zG ?_));refine Yz Zz Zz (Yfu (n:=b.toNat)) (fun f1=>?_) (fun f1=>?_))
       ·((repeat (first | refine zS ?_ | refine zA fun _=>?_)))
        exact YP ⟨k+1,by omega,rfl,rfl,rfl,by rw [← Ybb hb (Ya5 nu)],YaF hh hb (.inr (.inr (.inl (of_decide_eq_true f1))))⟩ Zi (Zw) (Zb)
       ·((repeat (first | refine zS ?_ | refine zA fun _=>?_)))
        (((refine zG ?_));refine Yj Zz Zz (ibs_q (n:=b.toNat)) ?_)
        ((refine zG ?_;refine zC (fun e1=>?_) (fun e1=>?_)))
        ·((repeat (first | refine zS ?_ | refine zA fun _=>?_)))
         exact YP ⟨k+1,by omega,rfl,rfl,rfl,by rw [← Ybb hb (Ya5 nu)],YaF hh hb (.inr (.inr (.inr (by rw [Xr,YcX] at e1;exact e1))))⟩ Zi (Zw) (Zb)
        ·((repeat (first | refine zS ?_ | refine zA fun _=>?_)))
         exact ret2 rfl rfl rfl (Zb) (no (bad (fun h0=>by
          rcases h0 with h0 | h0 | h0 | h0
          ·exact nu h0
          ·exact nl h0
          ·exact of_decide_eq_false f1 h0
          ·exact e1 (Xr.2 (by rw [YcX];exact h0)))))
    ·have nu:¬UpC b.toNat:=fun h0=>d1 h0.1
     ((repeat (first | refine zS ?_ | refine zA fun _=>?_)))
     ((refine zG ?_;refine zC (fun d3=>?_) (fun d3=>?_)))
     ·exact absurd d3 Zi
     ·have nl:¬LetP b.toNat:=fun h0=>d3 h0.1
      ((repeat (first | refine zS ?_ | refine zA fun _=>?_)))
      (((refine zG ?_));refine Yz Zz Zz (Yfu (n:=b.toNat)) (fun f1=>?_) (fun f1=>?_))
      ·((repeat (first | refine zS ?_ | refine zA fun _=>?_)))
       exact YP ⟨k+1,by omega,rfl,rfl,rfl,by rw [← Ybb hb (Ya5 nu)],YaF hh hb (.inr (.inr (.inl (of_decide_eq_true f1))))⟩ Zi (Zw) (Zb)
      ·((repeat (first | refine zS ?_ | refine zA fun _=>?_)))
       (((refine zG ?_));refine Yj Zz Zz (ibs_q (n:=b.toNat)) ?_)
       ((refine zG ?_;refine zC (fun e1=>?_) (fun e1=>?_)))
       ·((repeat (first | refine zS ?_ | refine zA fun _=>?_)))
        exact YP ⟨k+1,by omega,rfl,rfl,rfl,by rw [← Ybb hb (Ya5 nu)],YaF hh hb (.inr (.inr (.inr (by rw [Xr,YcX] at e1;exact e1))))⟩ Zi (Zw) (Zb)
       ·((repeat (first | refine zS ?_ | refine zA fun _=>?_)))
        exact ret2 rfl rfl rfl (Zb) (no (bad (fun h0=>by
         rcases h0 with h0 | h0 | h0 | h0
         ·exact nu h0
         ·exact nl h0
         ·exact of_decide_eq_false f1 h0
         ·exact e1 (Xr.2 (by rw [YcX];exact h0)))))
   ·rw [show s.data.toList.take k=s.data.toList from List.take_of_length_le (by rw [Ya9];omega),show s.data.toList.drop k=[] from List.drop_eq_nil_of_le (by rw [Ya9];omega),List.append_nil] at*
    have hP:LowP s:=⟨c1,by omega,hh⟩
    ((repeat (first | refine zS ?_ | refine zA fun _=>?_)))
    ((refine zG ?_));refine YgO T 0 Zz Zz Zz Zz Zz Zz Zz Zz hlen ?_
    ((repeat (first | refine zS ?_ | refine zA fun _=>?_)))
    exact ret2 rfl rfl rfl (Zb) (by rw [if_pos hP,decide_eq_true hP];rfl)
end Go.Proofs.YtbhlgkibgajajaaGreatDoor
set_option maxRecDepth 20000
namespace Go.Proofs.YtbhlgkibgajajaaGreatDoor
open Go.Lx Go.RowKit
attribute [local instance 10] Classical.propDecidable
def Ykc (s:ByteArray):Prop:=s≠Xx∧s.size≤32∧(∀ b∈s.data.toList,LowC b)∧¬NumP s
def YbV (x:Sexpr):Prop:=(x.kind=1∧Ykc x.text∧x.value=0∧x.kids=[])∨(x.kind=2∧x.text=Xx∧x.kids=[]∧YcB x.value)∨(x.kind=3∧x.text=Xx∧x.value=0)
abbrev XOk (x:Sexpr):Prop:=XAll YbV x
def XVal (x:Sexpr):Prop:=XOk x∧xdepth x≤32∧xcount x≤4096
theorem Yjn {s:ByteArray}:(lowS s).size=s.size:=by
 have:=Ya9 (s:=s)
 simp only [lowS,ByteArray.size,List.size_toArray,List.length_map];exact this
theorem lowB_fix {b:UInt8} (h:lowB b=b):¬UpC b.toNat:=by
 intro hu
 rw [lowB,if_pos hu] at h
 have h1:=congrArg UInt8.toNat h
 unfold UpC at hu
 rw [UInt8.toNat_add] at h1
 simp at h1
 omega
theorem Yjl {α:Type} {f:α→α}:∀ {l:List α},l.map f=l→∀ x∈l,f x=x
 | [],_,_,hx=>by cases hx
 | a::r,h,x,hx=>by
  simp only [List.map_cons,List.cons.injEq] at h
  rcases List.mem_cons.1 hx with rfl | hx
  ·exact h.1
  ·exact Yjl h.2 x hx
theorem YjP {α:Type} {f:α→α}:∀ {l:List α},(∀ x∈l,f x=x)→l.map f=l
 | [],_=>rfl
 | a::r,h=>by rw [List.map_cons,h a (by simp),YjP (fun x hx=>h x (by simp [hx]))]
theorem low_upc {b:UInt8} (h:LowC b):¬UpC b.toNat:=by
 unfold LowC LetP DigP SymL at h
 unfold UpC
 rcases h with h | h | h
 ·omega
 ·omega
 ·simp only [List.mem_cons,List.not_mem_nil,or_false] at h
  rcases h with rfl | rfl | rfl | rfl | rfl | rfl | rfl | rfl | rfl<;>decide
theorem YgX {s:ByteArray}:LowP s∧lowS s=s↔s≠Xx∧s.size≤32∧∀ b∈s.data.toList,LowC b:=by
 constructor
 ·rintro ⟨⟨h1,h2,h3⟩,h4⟩
  refine ⟨h1,h2,fun b hb=>?_⟩
  have h5:s.data.toList.map lowB=s.data.toList:=by
   have:=congrArg (fun t:ByteArray=>t.data.toList) h4
   simpa [lowS] using this
  exact (h3 b hb).resolve_left (lowB_fix (Yjl h5 b hb))
 ·rintro ⟨h1,h2,h3⟩
  refine ⟨⟨h1,h2,fun b hb=>.inr (h3 b hb)⟩,?_⟩
  have:=YjP (f:=lowB) (l:=s.data.toList) (fun b hb=>if_neg (low_upc (h3 b hb)))
  unfold lowS
  rw [this]
def cntO (c:Int):Obj:=.cells #[.int .i64 c] 3 (0,0)
def XBud (g:Nat) (x:Sexpr) (d c:Nat) (v:Value) (H':HP):Prop:=
 ∃ (b:Bool) (c':Int),v=.bool b∧H'=[(g,cntO c')]∧(b=true→c'=((c+xcount x:Nat):Int))∧(b=true↔XOk x∧d+xdepth x≤32∧c+xcount x≤4096)
theorem YeS {g:Nat} {x:Sexpr} {d c:Nat} {c':Int} (h:¬(XOk x∧d+xdepth x≤32∧c+xcount x≤4096)):XBud g x d c (.bool false) [(g,cntO c')]:=⟨false,c',rfl,rfl,(by simp),iff_of_false (by simp) h⟩
theorem YfG {g:Nat} {x:Sexpr} {d c:Nat} (h:YbV x) (hk:x.kids=[]) (h3:x.kind≠3) (hc:c+1≤4096) (hd:d≤32):XBud g x d c (.bool true) [(g,cntO (c+1:Nat))]:=by
 have h1:xcount x=1:=by rw [WD,hk];simp [xcountL]
 have h2:xdepth x=0:=by rw [YaO,hk,if_neg h3];simp [xdepthL]
 exact ⟨true,_,rfl,rfl,fun _=>by rw [h1],iff_of_true rfl ⟨Xq.2 ⟨h,by rw [hk];simp⟩,by omega,by omega⟩⟩
theorem xnode1 {x:Sexpr} (h:x.kind=1):YbV x↔Ykc x.text∧x.value=0∧x.kids=[]:=by
 unfold YbV;rw [h];simp
theorem xnode2 {x:Sexpr} (h:x.kind=2):YbV x↔x.text=Xx∧x.kids=[]∧YcB x.value:=by
 unfold YbV;rw [h];simp
theorem xnode3 {x:Sexpr} (h:x.kind=3):YbV x↔x.text=Xx∧x.value=0:=by
 unfold YbV;rw [h];simp
set_option maxHeartbeats 2000000 in
theorem YiI:∀ (s:Nat) {fz:FZ} {x:Sexpr} {vk:Value} {g d c:Nat},SizeOf.sizeOf x≤s→Xd fz x vk→d≤32→c≤4096→
 GFn Tryz.prog 72 [.agg #[.int .i64 x.kind,.int .i64 x.value,.int .i64 x.line,.int .i64 x.column,.string x.text,vk],.int .i64 d,.pointer (some ⟨g,0,none⟩)] fz [(g,cntO c)] (fun v fz' H'=>Le fz fz'∧XBud g x d c v H')
 | 0,_,x,_,_,_,_,hs,_,_,_=>by cases x;simp at hs
 | s+1,fz,x,vk,g,d,c,hs,h,hd,hc=>by
  obtain ⟨A,n,ca,rfl,hk⟩:=h.kids
  have no:∀ {c':Int},¬YbV x→XBud g x d c (.bool false) [(g,cntO c')]:=fun h0=>YeS (fun h1=>h0 (Xq.1 h1.1).1)
  have e1:=WD x
  have e2:=YaO x
  unfold cntO
  (refine GFn.of_wp Tryz.func72 rfl Tryz.ntmps72 rfl rfl (fun w0=>?_))
  (refine Yr (Yp (Yb Zz (Xi _ Zz Zz (fun g0=>?_)))))
  ((repeat (first | refine zS ?_ | refine zA fun _=>?_)))
  ((refine zG ?_;refine zC (fun c1=>?_) (fun c1=>?_)))
  ·((repeat (first | refine zS ?_ | refine zA fun _=>?_)))
   exact ret1 rfl rfl (List.Sublist.cons _ (List.Sublist.refl _)) ⟨Le.refl _,YeS (fun h0=>by omega)⟩
  ·((repeat (first | refine zS ?_ | refine zA fun _=>?_)))
   ((refine zG ?_;refine zC (fun x1=>?_) (fun y1=>?_)))
   ·have hn:=xnode1 x1
    by_cases hL:LowP x.text
    ·have hq:=Yjm (fz:=fz) (s:=x.text)
     rw [if_pos hL,decide_eq_true hL] at hq
     ((repeat (first | refine zS ?_ | refine zA fun _=>?_)))
     (((refine zG ?_));refine Yj Zz Zz hq ?_)
     ((repeat (first | refine zS ?_ | refine zA fun _=>?_)))
     ((refine zG ?_;refine zC (fun n1=>?_) (fun n1=>?_)))
     ·have hw:=(YgX.1 ⟨hL,n1⟩)
      ((repeat (first | refine zS ?_ | refine zA fun _=>?_)))
      (((refine zG ?_));refine Yz Zz Zz (Yje (s:=lowS x.text) (by unfold Short;rw [Yjn];exact h.text)) (fun f1=>?_) (fun f1=>?_))
      ·((repeat (first | refine zS ?_ | refine zA fun _=>?_)))
       (exact ret1 rfl rfl (Zb) ⟨Le.refl _,no (fun h0=>(hn.1 h0).1.2.2.2 (by rw [← n1];exact of_decide_eq_true f1))⟩)
      ·((repeat (first | refine zS ?_ | refine zA fun _=>?_)))
       ((((refine zG ?_;refine zC (fun n2=>?_) (fun n2=>?_)));rotate_left 1;(((repeat (first | refine zS ?_ | refine zA fun _=>?_)));(exact ret1 rfl rfl (Zb) ⟨Le.refl _,no (fun h0=>n2 (hn.1 h0).2.1)⟩));((repeat (first | refine zS ?_ | refine zA fun _=>?_)))))
       ((((refine zG ?_;refine zC (fun n3=>?_) (fun n3=>?_)));rotate_left 1;(((repeat (first | refine zS ?_ | refine zA fun _=>?_)));(exact ret1 rfl rfl (Zb) ⟨Le.refl _,no (fun h0=>n3 ((len0 hk.len).2 (hn.1 h0).2.2))⟩));((repeat (first | refine zS ?_ | refine zA fun _=>?_)))))
       (exact ret1 rfl rfl (Zb) ⟨Le.refl _,YfG (hn.2 ⟨⟨hw.1,hw.2.1,hw.2.2,by rw [← n1];exact of_decide_eq_false f1⟩,n2,(len0 hk.len).1 n3⟩) ((len0 hk.len).1 n3) Zi Zi hd⟩)
     ·((repeat (first | refine zS ?_ | refine zA fun _=>?_)))
      exact ret1 rfl rfl (List.Sublist.cons _ (List.Sublist.refl _)) ⟨Le.refl _,no (fun h0=>n1 (YgX.2 ⟨(hn.1 h0).1.1,(hn.1 h0).1.2.1,(hn.1 h0).1.2.2.1⟩).2)⟩
    ·have hq:=Yjm (fz:=fz) (s:=x.text)
     rw [if_neg hL,decide_eq_false hL] at hq
     ((repeat (first | refine zS ?_ | refine zA fun _=>?_)))
     (((refine zG ?_));refine Yj Zz Zz hq ?_)
     ((repeat (first | refine zS ?_ | refine zA fun _=>?_)))
     exact ret1 rfl rfl (List.Sublist.cons _ (List.Sublist.refl _)) ⟨Le.refl _,no (fun h0=>hL (YgX.2 ⟨(hn.1 h0).1.1,(hn.1 h0).1.2.1,(hn.1 h0).1.2.2.1⟩).1)⟩
   ·((repeat (first | refine zS ?_ | refine zA fun _=>?_)))
    ((refine zG ?_;refine zC (fun x2=>?_) (fun y2=>?_)))
    ·have hn:=xnode2 x2
     ((repeat (first | refine zS ?_ | refine zA fun _=>?_)))
     ((((refine zG ?_;refine zC (fun n1=>?_) (fun n1=>?_)));rotate_left 1;(((repeat (first | refine zS ?_ | refine zA fun _=>?_)));(exact ret1 rfl rfl (Zb) ⟨Le.refl _,no (fun h0=>n1 (hn.1 h0).1)⟩));((repeat (first | refine zS ?_ | refine zA fun _=>?_)))))
     ((((refine zG ?_;refine zC (fun n3=>?_) (fun n3=>?_)));rotate_left 1;(((repeat (first | refine zS ?_ | refine zA fun _=>?_)));(exact ret1 rfl rfl (Zb) ⟨Le.refl _,no (fun h0=>n3 ((len0 hk.len).2 (hn.1 h0).2.1))⟩));((repeat (first | refine zS ?_ | refine zA fun _=>?_)))))
     ((((refine zG ?_;refine zC (fun n4=>?_) (fun n4=>?_)));rotate_left 1;(((repeat (first | refine zS ?_ | refine zA fun _=>?_)));(exact ret1 rfl rfl (Zb) ⟨Le.refl _,no (fun h0=>n4 (hn.1 h0).2.2.1)⟩));((repeat (first | refine zS ?_ | refine zA fun _=>?_)))))
     ((((refine zG ?_;refine zC (fun n5=>?_) (fun n5=>?_)));rotate_left 1;(((repeat (first | refine zS ?_ | refine zA fun _=>?_)));(exact ret1 rfl rfl (Zb) ⟨Le.refl _,no (fun h0=>n5 (hn.1 h0).2.2.2)⟩));((repeat (first | refine zS ?_ | refine zA fun _=>?_)))))
     (exact ret1 rfl rfl (Zb) ⟨Le.refl _,YfG (hn.2 ⟨n1,(len0 hk.len).1 n3,n4,n5⟩) ((len0 hk.len).1 n3) Zi Zi hd⟩)
    ·((repeat (first | refine zS ?_ | refine zA fun _=>?_)))
     ((refine zG ?_;refine zC (fun x3=>?_) (fun y3=>?_)))
     ·have hn:=xnode3 x3
      rw [if_pos x3] at e2
      have sk:=hk.short
      have lk:=hk.len
      ((repeat (first | refine zS ?_ | refine zA fun _=>?_)))
      ((((refine zG ?_;refine zC (fun n1=>?_) (fun n1=>?_)));(((repeat (first | refine zS ?_ | refine zA fun _=>?_)));(exact ret1 rfl rfl (Zb) ⟨Le.refl _,no (fun h0=>n1 (hn.1 h0).1)⟩));((repeat (first | refine zS ?_ | refine zA fun _=>?_)))))
      ((((refine zG ?_;refine zC (fun n2=>?_) (fun n2=>?_)));(((repeat (first | refine zS ?_ | refine zA fun _=>?_)));(exact ret1 rfl rfl (Zb) ⟨Le.refl _,no (fun h0=>n2 (hn.1 h0).2)⟩));((repeat (first | refine zS ?_ | refine zA fun _=>?_)))))
      ((((refine zG ?_;refine zC (fun n3=>?_) (fun n3=>?_)));(((repeat (first | refine zS ?_ | refine zA fun _=>?_)));(exact ret1 rfl rfl (Zb) ⟨Le.refl _,YeS (fun h0=>by omega)⟩));((repeat (first | refine zS ?_ | refine zA fun _=>?_)))))
      refine YD (fun mm σ fz' H'=>∃ k:Nat,k≤n∧mm=n - k∧σ=[(91,.int .i64 k),(90,.int .i64 n),(89,.slice A n ca),(2,.pointer (some ⟨g,0,none⟩)),(1,.int .i64 d)]∧Le fz fz'∧H'=[(g,.cells #[.int .i64 (c+1+xcountL (x.kids.take k):Nat)] 3 (0,0))]∧(∀ i,i<k→∀ y,x.kids[i]?=some y→XOk y∧d+1+xdepth y≤32)∧c+1+xcountL (x.kids.take k)≤4096) ⟨0,Nat.zero_le _,rfl,rfl,Le.refl _,rfl,(fun i hi=>absurd hi Zi),by simp [xcountL];omega⟩ (Zw) (Zb) ?_
      rintro _ σ fz' H' ⟨k,hkn,rfl,rfl,hle,rfl,hh,hcc⟩
      have hk2:=hk.mono hle
      ((repeat (first | refine zS ?_ | refine zA fun _=>?_)))
      ((refine zG ?_;refine zC (fun c2=>?_) (fun c2=>?_)))
      ·obtain ⟨y,hy⟩:=YG (l:=x.kids) (k:=k) Zi
       have hym:=List.mem_of_getElem? hy
       have hlt:=Sexpr.kids_lt hym
       have hst:=Yc4 hy
       have htk:=YaA (l:=x.kids) (k:=k+1)
       ((repeat (first | refine zS ?_ | refine zA fun _=>?_)))
       (((refine zG ?_));refine YA T k Zz Zz Zz Zz Zz Zz hk2 (by first | rfl | omega) hy (fun p1 hp1=>?_))
       (((refine zG ?_));refine Yx T Zz Zz Zz hp1 Zz ?_)
       intro cs hcs
       obtain ⟨wk,rfl,hRy⟩:=Yt hcs
       obtain ⟨A1,n6,b1,rfl,_⟩:=hRy.kids
       ((repeat (first | refine zS ?_ | refine zA fun _=>?_)))
       (first | refine Wp.perm (List.Perm.swap _ _ _) ?_ | refine Seq.perm (List.Perm.swap _ _ _) ?_)
       (refine Yb Zz (YB [_] [_] Zz Zz Zz (YiI s (x:=y) (d:=d+1) (c:=c+1+xcountL (x.kids.take k)) Zi hRy Zi hcc) (fun v5 fz5 H5 hle5 hR5=>?_)))
       obtain ⟨_,b5,c5,rfl,rfl,hc5,hb5⟩:=hR5
       cases b5
       ·((repeat (first | refine zS ?_ | refine zA fun _=>?_)))
        (exact ret1 rfl rfl (Zb) ⟨hle.trans hle5,YeS (fun h0=>absurd (hb5.2 ⟨(Xq.1 h0.1).2 y hym,by have:=(XF (l:=x.kids)).1 (Nat.le_refl _) y hym;omega,by omega⟩) (by simp))⟩)
       ·have hc5:=hc5 rfl
        have hb5:=hb5.1 rfl
        subst hc5
        ((repeat (first | refine zS ?_ | refine zA fun _=>?_)))
        exact YP ⟨k+1,by omega,rfl,rfl,hle.trans hle5,by rw [hst,← Nat.add_assoc],YZ hh hy ⟨hb5.1,hb5.2.1⟩,by omega⟩ Zi (Zw) (Zb)
      ·rw [show x.kids.take k=x.kids from List.take_of_length_le Zi] at hcc ⊢
       have hK:=XW hh Zi
       ((repeat (first | refine zS ?_ | refine zA fun _=>?_)))
       exact ret1 rfl rfl (List.Sublist.refl _) ⟨hle,true,_,rfl,rfl,fun _=>by rw [e1];simp only [Nat.add_assoc],iff_of_true rfl ⟨Xq.2 ⟨hn.2 ⟨n1,n2⟩,fun y hy=>(hK y hy).1⟩,by
        have e3:xdepthL x.kids≤31 - d:=XF.2 (fun y hy=>by have:=(hK y hy).2;omega)
        omega,by omega⟩⟩
     ·((repeat (first | refine zS ?_ | refine zA fun _=>?_)))
      (exact ret1 rfl rfl (Zb) ⟨Le.refl _,no (fun h0=>by rcases h0 with h0 | h0 | h0;exact y1 h0.1;exact y2 h0.1;exact y3 h0.1)⟩)
theorem Yb9 {fz:FZ} {x:Sexpr} {vk:Value} (h:Xd fz x vk):QFn Tryz.prog 37 [.agg #[.int .i64 x.kind,.int .i64 x.value,.int .i64 x.line,.int .i64 x.column,.string x.text,vk]] fz (.bool (decide (XVal x))):=by
 obtain ⟨A,n,ca,rfl,hk⟩:=h.kids
 refine GFn.quiet ?_
 (refine GFn.of_wp Tryz.func37 rfl Tryz.ntmps37 rfl rfl (fun w0=>?_))
 (refine Yr (Yp (Yb Zz (Xi _ Zz Zz (fun g0=>?_)))))
 ((repeat (first | refine zS ?_ | refine zA fun _=>?_)))
 (refine Yb Zz (YB [_] [_] Zz Zz Zz (YiI _ (d:=0) (c:=0) (Nat.le_refl _) h Zi Zi) (fun v5 fz5 H5 hle5 hR5=>?_)))
 obtain ⟨_,b5,c5,rfl,rfl,hc5,hb5⟩:=hR5
 ((repeat (first | refine zS ?_ | refine zA fun _=>?_)))
 have hb:(b5=true)↔XVal x:=by rw [hb5];unfold XVal;simp only [Nat.zero_add]
 have hd:decide (XVal x)=b5:=by cases b5<;>simp_all
 (exact ret1 rfl rfl (Zb) (by rw [hd]))
end Go.Proofs.YtbhlgkibgajajaaGreatDoor
set_option maxRecDepth 20000
namespace Go.Proofs.YtbhlgkibgajajaaGreatDoor
open Go.Lx Go.RowKit
attribute [local instance 10] Classical.propDecidable
def errV:Int→Value:=fun n=>if n=0 then .nilIface else .iface 47 (.int .i64 n)
theorem WN {n:Int} (h:n≠0):errV n=.iface 47 (.int .i64 n):=if_neg h
def ESmN (e:Lx.Expr):Prop:=e.args.length≤1000000000
def FSmN (f:Formula):Prop:=f.args.length≤1000000000∧f.params.length≤1000000000∧f.kids.length≤1000000000
abbrev ESm (e:Lx.Expr):Prop:=EAll ESmN e
abbrev FSm (f:Formula):Prop:=FAll FSmN ESmN f
theorem YaT:∀ (s:Nat) {e:Lx.Expr},SizeOf.sizeOf e≤s→EOk e→ESm e→EShape e
 | 0,e,h,_,_=>by cases e;simp at h
 | s+1,e,h,h1,h2=>by
  have h3:=WZ.1 h1
  have h4:=WZ.1 h2
  rcases h3.1 with h5 | h5 | h5
  ·exact .num h5.1
  ·exact .flu h5.1 h4.1
  ·obtain ⟨a,b,hab⟩:∃ a b,e.kids=[a,b]:=by
    match hK:e.kids,h5.2.2.2.2 with
    | [a,b],_=>exact ⟨a,b,rfl⟩
   have ka:a∈e.kids:=by rw [hab];simp
   have kb:b∈e.kids:=by rw [hab];simp
   have la:=Lx.Expr.kids_lt ka
   have lb:=Lx.Expr.kids_lt kb
   refine .bin (fun h0=>?_) (fun h0=>?_) hab (YaT s Zi (h3.2 a ka) (h4.2 a ka)) (YaT s Zi (h3.2 b kb) (h4.2 b kb))
   ·have h6:=h5.1
    rw [h0] at h6
    rcases h6 with h6 | h6 | h6<;>exact absurd (congrArg ByteArray.size h6) Zh
   ·have h6:=h5.1
    rw [h0] at h6
    rcases h6 with h6 | h6 | h6<;>exact absurd (congrArg ByteArray.size h6) Zh
theorem Yco:∀ (s:Nat) {f:Formula},SizeOf.sizeOf f≤s→FOk f→FSm f→FShape f
 | 0,f,h,_,_=>by cases f;simp at h
 | s+1,f,h,h1,h2=>by
  have h3:=Wl.1 h1
  have h4:=Wl.1 h2
  by_cases k1:f.op=kAtom
  ·exact .atom (.inl k1) h4.1.1
  ·by_cases k2:f.op=kSame
   ·exact .atom (.inr k2) h4.1.1
   ·by_cases k3:CmpOp f.op
    ·obtain ⟨_,⟨k,hk,hr⟩,_⟩:=h3.1
     rw [Ydi,if_neg (fun h0=>h0.elim k1 k2),if_pos k3] at hk
     cases hk
     obtain ⟨a,b,hab⟩:∃ a b,f.exprs=[a,b]:=by
      match hK:f.exprs,hr.2.1 with
      | [a,b],_=>exact ⟨a,b,rfl⟩
     have ka:a∈f.exprs:=by rw [hab];simp
     have kb:b∈f.exprs:=by rw [hab];simp
     exact .cmp k3 hab (YaT _ (Nat.le_refl _) (h3.2.1 a ka) (h4.2.1 a ka)) (YaT _ (Nat.le_refl _) (h3.2.1 b kb) (h4.2.1 b kb))
    ·exact .other k1 k2 k3 h4.1.2.1 h4.1.2.2 (fun k hk=>Yco s (by have:=Formula.kids_lt hk;omega) (h3.2.2 k hk) (h4.2.2 k hk))
theorem YaS:∀ (s:Nat) {e:Lx.Expr},SizeOf.sizeOf e≤s→EOk e→ecount e≤xcount (Y8 e)∧edepth e≤xdepth (Y8 e)+1
 | 0,e,h,_=>by cases e;simp at h
 | s+1,e,h,h1=>by
  have h3:=WZ.1 h1
  rw [Ycs,Ybx,Yct]
  split
  ·rename_i h0
   have hk:=((Yd4 h0).1 h3.1).2.2.1
   rw [hk]
   simp [ecountL,edepthL,numE,xcount,xcountL,xdepth]
  ·split
   ·rename_i h0
    have hk:=((Yd5 h0).1 h3.1).2.1
    rw [hk]
    simp [ecountL,edepthL,Xj,Yv,xcount,xdepth]
   ·rename_i k1 k2
    have h5:=(Yd6 k1 k2).1 h3.1
    obtain ⟨a,b,hab⟩:∃ a b,e.kids=[a,b]:=by
     match hK:e.kids,h5.2.2.2.2 with
     | [a,b],_=>exact ⟨a,b,rfl⟩
    have ka:a∈e.kids:=by rw [hab];simp
    have kb:b∈e.kids:=by rw [hab];simp
    have la:=YaS s (by have:=Lx.Expr.kids_lt ka;omega) (h3.2 a ka)
    have lb:=YaS s (by have:=Lx.Expr.kids_lt kb;omega) (h3.2 b kb)
    rw [hab]
    simp only [ecountL,edepthL,Yv,xcount,xcountL,xdepth,xdepthL,List.map_cons,List.map_nil,Yd]
    simp
    omega
theorem YeR {l:List Formula} (h:∀ k∈l,fcount k≤xcount (YN k)):fcountL l≤xcountL (l.map YN):=by
 induction l with
 | nil=>simp [fcountL]
 | cons a r ih=>
  have h1:=h a (by simp)
  have h2:=ih (fun k hk=>h k (by simp [hk]))
  simp only [fcountL,List.map_cons,xcountL];omega
theorem YeQ {l:List Formula} (h:∀ k∈l,fdepth k≤xdepth (YN k)+1):fdepthL l≤xdepthL (l.map YN)+1:=by
 induction l with
 | nil=>simp [fdepthL]
 | cons a r ih=>
  have h1:=h a (by simp)
  have h2:=ih (fun k hk=>h k (by simp [hk]))
  simp only [fdepthL,List.map_cons,xdepthL];omega
theorem Ya7 {l:List Sexpr}:xcount (Yv l)=1+xcountL l:=by simp [Yv,xcount]
theorem Ya6 {l:List Sexpr}:xdepth (Yv l)=xdepthL l+1:=by simp [Yv,xdepth]
theorem YcQ:∀ (s:Nat) {f:Formula},SizeOf.sizeOf f≤s→FOk f→fcount f≤xcount (YN f)∧fdepth f≤xdepth (YN f)+1
 | 0,f,h,_=>by cases f;simp at h
 | s+1,f,h,h1=>by
  have h3:=Wl.1 h1
  obtain ⟨_,⟨k,hk,hr⟩,_⟩:=h3.1
  rw [YaE,Ycr,Yd3]
  by_cases k1:f.op=kAtom
  ·rw [Ydi,if_pos (.inl k1)] at hk
   cases hk
   rw [List.eq_nil_of_length_eq_zero hr.2.1,List.eq_nil_of_length_eq_zero hr.2.2.1,if_pos k1]
   simp [ecountL,edepthL,fcountL,fdepthL,Xj,Ya7,Ya6]
  ·by_cases k2:f.op=kSame
   ·rw [Ydi,if_pos (.inr k2)] at hk
    cases hk
    rw [List.eq_nil_of_length_eq_zero hr.2.1,List.eq_nil_of_length_eq_zero hr.2.2.1,if_neg k1,if_pos k2]
    simp [ecountL,edepthL,fcountL,fdepthL,Xj,Ya7,Ya6]
   ·by_cases k3:CmpOp f.op
    ·rw [Ydi,if_neg (fun h0=>h0.elim k1 k2),if_pos k3] at hk
     cases hk
     obtain ⟨a,b,hab⟩:∃ a b,f.exprs=[a,b]:=by
      match hK:f.exprs,hr.2.1 with
      | [a,b],_=>exact ⟨a,b,rfl⟩
     have la:=YaS _ (Nat.le_refl _) (h3.2.1 a (by rw [hab];simp))
     have lb:=YaS _ (Nat.le_refl _) (h3.2.1 b (by rw [hab];simp))
     rw [hab,List.eq_nil_of_length_eq_zero hr.2.2.1,if_neg k1,if_neg k2,if_pos k3]
     simp only [ecountL,edepthL,fcountL,fdepthL,Ya7,Ya6,xcountL,xdepthL,List.map_cons,List.map_nil]
     omega
    ·have he:f.exprs=[]:=by
      refine List.eq_nil_of_length_eq_zero ?_
      rw [hr.2.1]
      rw [Ydi,if_neg (fun h0=>h0.elim k1 k2),if_neg k3] at hk
      split at hk
      ·cases hk;rfl
      ·split at hk
       ·cases hk;rfl
       ·split at hk
        ·cases hk;rfl
        ·split at hk
         ·cases hk;rfl
         ·cases hk
     have c1:=YeR (l:=f.kids) (fun k hk=>(YcQ s (by have:=Formula.kids_lt hk;omega) (h3.2.2 k hk)).1)
     have c2:=YeQ (l:=f.kids) (fun k hk=>(YcQ s (by have:=Formula.kids_lt hk;omega) (h3.2.2 k hk)).2)
     rw [he,if_neg k1,if_neg k2,if_neg k3,Ya7,Ya6,X1,Yeh]
     simp only [ecountL,edepthL]
     omega
def FVal (f:Formula):Prop:=FOk f∧XVal (YN f)
def EVal (e:Lx.Expr):Prop:=EOk e∧XVal (Y8 e)
theorem fvalid_q {fz:FZ} {f:Formula} {va vp ve vk:Value} (h:FormulaR fz f va vp ve vk) (hs:FSm f):
 QFn Tryz.prog 88 [.agg #[.string f.op,.string f.name,va,vp,ve,vk]] fz (.bool (decide (FVal f))):=by
 obtain ⟨A,n,ca,rfl,ha⟩:=h.args
 obtain ⟨B,m,cb,rfl,hp⟩:=h.params
 obtain ⟨C,r,cr,rfl,he⟩:=h.exprs
 obtain ⟨D,q,cq,rfl,hk⟩:=h.kids
 refine GFn.quiet ?_
 (refine GFn.of_wp Tryz.func88 rfl Tryz.ntmps88 rfl rfl (fun w0=>?_))
 (refine Yr (Yp (Yb Zz (Xi _ Zz Zz (fun g0=>?_)))))
 ((repeat (first | refine zS ?_ | refine zA fun _=>?_)))
 rename_i g1
 (refine Yb Zz (YB [_] [_] Zz Zz Zz (shaped_q (g:=g1) (d:=0) (c:=0) h Zi Zi) (fun v5 fz5 H5 hle5 hR5=>?_)))
 obtain ⟨_,b5,c5,rfl,rfl,hc5,hb5⟩:=hR5
 cases b5
 ·((repeat (first | refine zS ?_ | refine zA fun _=>?_)))
  (exact ret1 rfl rfl (Zb) (Ya (fun h0=>by
   have h1:=YcQ _ (Nat.le_refl _) h0.1
   exact absurd (hb5.2 ⟨h0.1,by have:=h0.2.2.1;omega,by have:=h0.2.2.2;omega⟩) (by simp))))
 ·have hb:=hb5.1 rfl
  ((repeat (first | refine zS ?_ | refine zA fun _=>?_)))
  (refine Seq.guard_yesK Zz Zz Zz (YB [] _ Zz Zz Zz (YiE (h.mono hle5) (Yco _ (Nat.le_refl _) hb.1 hs)) (fun v6 fz6 H6 hle6 hR6=>?_)))
  obtain ⟨rfl,cs,rfl,hr⟩:=hR6
  obtain ⟨vk6,rfl,hX⟩:=Yt hr
  ((repeat (first | refine zS ?_ | refine zA fun _=>?_)))
  (((refine zG ?_));refine Yj Zz Zz (Yb9 hX) ?_)
  ((repeat (first | refine zS ?_ | refine zA fun _=>?_)))
  have hd:decide (FVal f)=decide (XVal (YN f)):=decide_eq_decide.2 ⟨fun h0=>h0.2,fun h0=>⟨hb.1,h0⟩⟩
  (exact ret1 rfl rfl (Zb) (by rw [hd]))
theorem evalid_q {fz:FZ} {e:Lx.Expr} {va vk:Value} (h:ExprR fz e va vk) (hs:ESm e):
 QFn Tryz.prog 243 [.agg #[.string e.op,.string e.name,.int .i64 e.n,va,vk]] fz (.bool (decide (EVal e))):=by
 obtain ⟨A,n,ca,rfl,ha⟩:=h.args
 obtain ⟨D,q,cq,rfl,hk⟩:=h.kids
 refine GFn.quiet ?_
 (refine GFn.of_wp Tryz.func243 rfl Tryz.ntmps243 rfl rfl (fun w0=>?_))
 (refine Yr (Yp (Yb Zz (Xi _ Zz Zz (fun g0=>?_)))))
 ((repeat (first | refine zS ?_ | refine zA fun _=>?_)))
 rename_i g1
 (refine Yb Zz (YB [_] [_] Zz Zz Zz (YhO (g:=g1) (d:=0) (c:=0) h Zi Zi) (fun v5 fz5 H5 hle5 hR5=>?_)))
 obtain ⟨_,b5,c5,rfl,rfl,hc5,hb5⟩:=hR5
 cases b5
 ·((repeat (first | refine zS ?_ | refine zA fun _=>?_)))
  (exact ret1 rfl rfl (Zb) (Ya (fun h0=>by
   have h1:=YaS _ (Nat.le_refl _) h0.1
   exact absurd (hb5.2 ⟨h0.1,by have:=h0.2.2.1;omega,by have:=h0.2.2.2;omega⟩) (by simp))))
 ·have hb:=hb5.1 rfl
  ((repeat (first | refine zS ?_ | refine zA fun _=>?_)))
  (refine Seq.guard_yesK Zz Zz Zz (YB [] _ Zz Zz Zz (X4 (h.mono hle5) (YaT _ (Nat.le_refl _) hb.1 hs)) (fun v6 fz6 H6 hle6 hR6=>?_)))
  obtain ⟨rfl,cs,rfl,hr⟩:=hR6
  obtain ⟨vk6,rfl,hX⟩:=Yt hr
  ((repeat (first | refine zS ?_ | refine zA fun _=>?_)))
  (((refine zG ?_));refine Yj Zz Zz (Yb9 hX) ?_)
  ((repeat (first | refine zS ?_ | refine zA fun _=>?_)))
  have hd:decide (EVal e)=decide (XVal (Y8 e)):=decide_eq_decide.2 ⟨fun h0=>h0.2,fun h0=>⟨hb.1,h0⟩⟩
  (exact ret1 rfl rfl (Zb) (by rw [hd]))
def YfC:Sexpr:=.mk 0 0 0 0 ⟨#[]⟩ []
theorem XP {fz:FZ}:SxIs fz (sxV 0 0 ⟨#[]⟩ (.slice none 0 0)) YfC:=⟨_,rfl,Yg (x:=YfC) ⟨Xp,Xp,Xp,Xp,Y0,IsSl.nil⟩⟩
def WrR (P:Prop) (x:Sexpr) (v:Value) (fz':FZ) (H':HP):Prop:=H'=[]∧∃ u y,v=.tuple #[u,errV (if P then 0 else 2)]∧SxIs fz' u y∧(P→y=x)
theorem YhU {fz:FZ} {f:Formula} {va vp ve vk:Value} (h:FormulaR fz f va vp ve vk) (hs:FSm f):
 GFn Tryz.prog 42 [.agg #[.string f.op,.string f.name,va,vp,ve,vk]] fz [] (WrR (FVal f) (YN f)):=by
 obtain ⟨A,n,ca,rfl,ha⟩:=h.args
 obtain ⟨B,m,cb,rfl,hp⟩:=h.params
 obtain ⟨C,r,cr,rfl,he⟩:=h.exprs
 obtain ⟨D,q,cq,rfl,hk⟩:=h.kids
 (refine GFn.of_wp Tryz.func42 rfl Tryz.ntmps42 rfl rfl (fun w0=>?_))
 (refine Yr (Yp (Yb Zz (Xi _ Zz Zz (fun g0=>?_)))))
 ((repeat (first | refine zS ?_ | refine zA fun _=>?_)))
 rename_i g1
 (((refine zG ?_));refine Yz Zz Zz (fvalid_q h hs) (fun f1=>?_) (fun f1=>?_))
 ·have hv:=of_decide_eq_true f1
  ((repeat (first | refine zS ?_ | refine zA fun _=>?_)))
  (refine Yb Zz (YB [] _ Zz Zz Zz (YiE h (Yco _ (Nat.le_refl _) hv.1 hs)) (fun v6 fz6 H6 hle6 hR6=>?_)))
  obtain ⟨rfl,cs,rfl,hr⟩:=hR6
  obtain ⟨vk6,rfl,hX⟩:=Yt hr
  obtain ⟨A6,n6,b6,rfl,_⟩:=hX.kids
  ((repeat (first | refine zS ?_ | refine zA fun _=>?_)))
  refine YaI T (vs:=[.agg #[_,_,_,_,_,_],.nilIface]) Zz ⟨⟨_,_,0,_,_,_,rfl,rfl,rfl,rfl,rfl,rfl⟩,rfl,trivial⟩ (fun fz3 hle3 hf3=>?_)
  exact ⟨rfl,_,_,by rw [if_pos hv];rfl,SxIs.mono hle3 ⟨_,rfl,Yg hX⟩,fun _=>rfl⟩
 ·have hv:=of_decide_eq_false f1
  ((repeat (first | refine zS ?_ | refine zA fun _=>?_)))
  refine YaI T (vs:=[.agg #[_,_,_,_,_,_],_]) Zz ⟨⟨_,_,0,_,_,_,rfl,rfl,rfl,rfl,rfl,rfl⟩,rfl,trivial⟩ (fun fz3 hle3 hf3=>?_)
  exact ⟨rfl,_,_,by rw [if_neg hv,WN Zh];rfl,XP,fun h0=>absurd h0 hv⟩
theorem eWrite_q {fz:FZ} {e:Lx.Expr} {va vk:Value} (h:ExprR fz e va vk) (hs:ESm e):
 GFn Tryz.prog 205 [.agg #[.string e.op,.string e.name,.int .i64 e.n,va,vk]] fz [] (WrR (EVal e) (Y8 e)):=by
 obtain ⟨A,n,ca,rfl,ha⟩:=h.args
 obtain ⟨D,q,cq,rfl,hk⟩:=h.kids
 (refine GFn.of_wp Tryz.func205 rfl Tryz.ntmps205 rfl rfl (fun w0=>?_))
 (refine Yr (Yp (Yb Zz (Xi _ Zz Zz (fun g0=>?_)))))
 ((repeat (first | refine zS ?_ | refine zA fun _=>?_)))
 rename_i g1
 (((refine zG ?_));refine Yz Zz Zz (evalid_q h hs) (fun f1=>?_) (fun f1=>?_))
 ·have hv:=of_decide_eq_true f1
  ((repeat (first | refine zS ?_ | refine zA fun _=>?_)))
  (refine Yb Zz (YB [] _ Zz Zz Zz (X4 h (YaT _ (Nat.le_refl _) hv.1 hs)) (fun v6 fz6 H6 hle6 hR6=>?_)))
  obtain ⟨rfl,cs,rfl,hr⟩:=hR6
  obtain ⟨vk6,rfl,hX⟩:=Yt hr
  obtain ⟨A6,n6,b6,rfl,_⟩:=hX.kids
  ((repeat (first | refine zS ?_ | refine zA fun _=>?_)))
  refine YaI T (vs:=[.agg #[_,_,_,_,_,_],.nilIface]) Zz ⟨⟨_,_,0,_,_,_,rfl,rfl,rfl,rfl,rfl,rfl⟩,rfl,trivial⟩ (fun fz3 hle3 hf3=>?_)
  exact ⟨rfl,_,_,by rw [if_pos hv];rfl,SxIs.mono hle3 ⟨_,rfl,Yg hX⟩,fun _=>rfl⟩
 ·have hv:=of_decide_eq_false f1
  ((repeat (first | refine zS ?_ | refine zA fun _=>?_)))
  refine YaI T (vs:=[.agg #[_,_,_,_,_,_],_]) Zz ⟨⟨_,_,0,_,_,_,rfl,rfl,rfl,rfl,rfl,rfl⟩,rfl,trivial⟩ (fun fz3 hle3 hf3=>?_)
  exact ⟨rfl,_,_,by rw [if_neg hv,WN Zh];rfl,XP,fun h0=>absurd h0 hv⟩
end Go.Proofs.YtbhlgkibgajajaaGreatDoor
set_option maxRecDepth 20000
namespace Go.Proofs.YtbhlgkibgajajaaGreatDoor
open Go.Lx Go.RowKit
attribute [local instance 10] Classical.propDecidable
theorem YgL {fz:FZ} {s:ByteArray}:QFn Tryz.prog 94 [.string s] fz (.bool (decide (s∈XU))):=by
 refine GFn.quiet ?_
 (refine GFn.of_wp Tryz.func94 rfl Tryz.ntmps94 rfl rfl (fun w0=>?_))
 ((repeat (first | refine zS ?_ | refine zA fun _=>?_)))
 refine Yb Zz (Yc T (cs:=XU.map Value.string) Zz Zz Zz Zz Zz Zz Zz Zz (fun g=>?_))
 (first | refine Wp.freeze Zz (fun fz1 hl1 hg1=>?_) | refine Seq.freeze Zz (fun fz1 hl1 hg1=>?_))
 have hsl:Sl strL fz1 (some ⟨g,0,none⟩) 11 11 XU:=YiP (l:=XU) hg1 (by intro s hs;simp only [XU,List.mem_cons,List.not_mem_nil,or_false] at hs;rcases hs with rfl | rfl | rfl | rfl | rfl | rfl | rfl | rfl | rfl | rfl | rfl<;>(unfold Short;decide)) Zh
 ((repeat (first | refine zS ?_ | refine zA fun _=>?_)))
 refine YD (fun q σ fz' H'=>∃ k:Nat,k≤11∧q=11 - k∧σ=[(4,.int .i64 k),(3,.slice (some ⟨g,0,none⟩) 11 11),(0,.string s)]∧fz1=fz'∧H'=[]∧(∀ i,i<k→∀ y,XU[i]?=some y→¬y=s)) ⟨0,Nat.zero_le _,rfl,rfl,rfl,rfl,fun i hi=>absurd hi Zi⟩ (Zw) (Zb) ?_
 rintro q σ fz' H' ⟨k,hk,rfl,rfl,rfl,rfl,hh⟩
 have l1:=hsl.len
 ((repeat (first | refine zS ?_ | refine zA fun _=>?_)))
 ((refine zG ?_;refine zC (fun hlt=>?_) (fun hge=>?_)))
 ·((repeat (first | refine zS ?_ | refine zA fun _=>?_)))
  obtain ⟨y,hy⟩:=YG (l:=XU) (k:=k) Zi
  (((refine zG ?_));refine YA T k Zz Zz Zz Zz Zz Zz hsl (by first | rfl | omega) hy (fun a ha=>?_))
  (((refine zG ?_));refine Y9 T Zz Zz Zz ha (fun iy=>?_))
  ((repeat (first | refine zS ?_ | refine zA fun _=>?_)))
  ((refine zG ?_;refine zC (fun c1=>?_) (fun c1=>?_)))
  ·((repeat (first | refine zS ?_ | refine zA fun _=>?_)))
   (exact ret1 rfl rfl (Zb) (Yw (by rw [← c1];exact List.mem_of_getElem? hy)))
  ·((repeat (first | refine zS ?_ | refine zA fun _=>?_)))
   (exact YP ⟨k+1,by omega,rfl,rfl,rfl,rfl,(YZ hh hy c1)⟩ Zi (Zw) (Zb))
 ·((repeat (first | refine zS ?_ | refine zA fun _=>?_)))
  (exact ret1 rfl rfl (Zb) (Ya (fun h=>XW hh Zi s h rfl)))
theorem Yau {fz:FZ} {s:ByteArray} (hs:Short s):QFn Tryz.prog 48 [.string s] fz (.bool (decide (Xn s))):=by
 have hz:s.size≤9223372036854775807:=hs
 have emp:s=Xx→s.size=0:=fun h=>by rw [h];rfl
 refine GFn.quiet ?_
 (refine GFn.of_wp Tryz.func48 rfl Tryz.ntmps48 rfl rfl (fun w0=>?_))
 ((repeat (first | refine zS ?_ | refine zA fun _=>?_)))
 ((((refine zG ?_;refine zC (fun n1=>?_) (fun n1=>?_)));(((repeat (first | refine zS ?_ | refine zA fun _=>?_)));(exact ret1 rfl rfl (Zb) (Ya (fun h=>h.2.1 (by cases s with | mk d=>cases d with | mk l=>cases l with | nil=>rfl | cons a r=>(exfalso;simp [ByteArray.size] at n1;omega))))));((repeat (first | refine zS ?_ | refine zA fun _=>?_)))))
 ((((refine zG ?_;refine zC (fun n2=>?_) (fun n2=>?_)));(((repeat (first | refine zS ?_ | refine zA fun _=>?_)));(exact ret1 rfl rfl (Zb) (Ya (fun h=>by have:=h.2.2.1;omega))));((repeat (first | refine zS ?_ | refine zA fun _=>?_)))))
 obtain ⟨b0,hb0,hc0⟩:=Wf (s:=s) (k:=0) Zi
 have first:Xn s→LetP b0.toNat:=fun h=>by
  have:=h.1 0 Zi
  rw [Yag,hc0] at this
  rcases this with h1 | h1
  ·exact h1
  ·exact absurd rfl h1.1
 ((refine zG ?_));refine Y7 T Zz Zz Zz Zz Zi hb0 ?_
 ((repeat (first | refine zS ?_ | refine zA fun _=>?_)))
 ((((refine zG ?_;refine zC (fun n3=>?_) (fun n3=>?_)));(((repeat (first | refine zS ?_ | refine zA fun _=>?_)));(exact ret1 rfl rfl (Zb) (Ya (fun h=>by have:=(first h).1;omega))));((repeat (first | refine zS ?_ | refine zA fun _=>?_)))))
 ((refine zG ?_));refine Y7 T Zz Zz Zz Zz Zi hb0 ?_
 ((repeat (first | refine zS ?_ | refine zA fun _=>?_)))
 ((((refine zG ?_;refine zC (fun n4=>?_) (fun n4=>?_)));(((repeat (first | refine zS ?_ | refine zA fun _=>?_)));(exact ret1 rfl rfl (Zb) (Ya (fun h=>by have:=(first h).2;omega))));((repeat (first | refine zS ?_ | refine zA fun _=>?_)))))
 (((refine zG ?_));refine Yz Zz Zz (YgL (s:=s)) (fun f1=>?_) (fun f1=>?_))
 ·((repeat (first | refine zS ?_ | refine zA fun _=>?_)))
  (exact ret1 rfl rfl (Zb) (Ya (fun h=>h.2.2.2 (of_decide_eq_true f1))))
 ·((repeat (first | refine zS ?_ | refine zA fun _=>?_)))
  refine YD (fun q σ fz' H'=>∃ k:Nat,k≤s.size∧q=s.size - k∧σ=[(3,.int .i64 k),(0,.string s)]∧fz=fz'∧H'=[]∧(∀ i,i<k→Yag s i)) ⟨0,Nat.zero_le _,rfl,rfl,rfl,rfl,fun i hi=>absurd hi Zi⟩ (Zw) (Zb) ?_
  rintro q σ fz' H' ⟨k,hk,rfl,rfl,rfl,rfl,hh⟩
  ((repeat (first | refine zS ?_ | refine zA fun _=>?_)))
  ((refine zG ?_;refine zC (fun hlt=>?_) (fun hge=>?_)))
  ·((repeat (first | refine zS ?_ | refine zA fun _=>?_)))
   obtain ⟨b,hb,hb2⟩:=Wf (s:=s) (k:=k) Zi
   have bad:¬(LetP b.toNat∨DigP b.toNat∨(b.toNat:Int)=45∨(b.toNat:Int)=95)→¬Xn s:=fun h hc=>h (by
    have:=hc.1 k Zi
    rw [Yag,hb2] at this
    rcases this with h1 | ⟨_,h1⟩
    ·exact .inl h1
    ·exact .inr h1)
   have ok:(LetP b.toNat∨DigP b.toNat∨(b.toNat:Int)=45∨(b.toNat:Int)=95)→Yag s k:=fun h=>by
    rw [Yag,hb2]
    by_cases hk0:k=0
    ·subst hk0
     rw [hb0] at hb;cases hb
     exact .inl ⟨by omega,by omega⟩
    ·rcases h with h | h
     ·exact .inl h
     ·exact .inr ⟨hk0,h⟩
   unfold LetP DigP at bad ok
   (((refine zG ?_));refine Y7 T Zz Zz Zz Zz Zi (by rw [Int.toNat_natCast];exact hb) ?_)
   ((repeat (first | refine zS ?_ | refine zA fun _=>?_)))
   ((refine zG ?_;refine zC (fun c1=>?_) (fun c1=>?_)))
   ·((repeat (first | refine zS ?_ | refine zA fun _=>?_)))
    ((refine zG ?_;refine zC (fun c3=>?_) (fun c3=>?_)))
    ·((repeat (first | refine zS ?_ | refine zA fun _=>?_)))
     ((refine zG ?_;refine zC (fun c5=>?_) (fun c5=>?_)))
     ·((repeat (first | refine zS ?_ | refine zA fun _=>?_)))
      ((refine zG ?_;refine zC (fun c6=>?_) (fun c6=>?_)))
      ·((repeat (first | refine zS ?_ | refine zA fun _=>?_)))
       (exact ret1 rfl rfl (Zb) (Ya (bad Zi)))
      ·((repeat (first | refine zS ?_ | refine zA fun _=>?_)))
       (exact YP ⟨k+1,by omega,rfl,rfl,rfl,rfl,(YM hh (ok Zi))⟩ Zi (Zw) (Zb))
     ·((repeat (first | refine zS ?_ | refine zA fun _=>?_)))
      (exact YP ⟨k+1,by omega,rfl,rfl,rfl,rfl,(YM hh (ok Zi))⟩ Zi (Zw) (Zb))
    ·((repeat (first | refine zS ?_ | refine zA fun _=>?_)))
     ((refine zG ?_;refine zC (fun c4=>?_) (fun c4=>?_)))
     ·((repeat (first | refine zS ?_ | refine zA fun _=>?_)))
      ((refine zG ?_;refine zC (fun c5=>?_) (fun c5=>?_)))
      ·((repeat (first | refine zS ?_ | refine zA fun _=>?_)))
       ((refine zG ?_;refine zC (fun c6=>?_) (fun c6=>?_)))
       ·((repeat (first | refine zS ?_ | refine zA fun _=>?_)))
        (exact ret1 rfl rfl (Zb) (Ya (bad Zi)))
       ·((repeat (first | refine zS ?_ | refine zA fun _=>?_)))
        (exact YP ⟨k+1,by omega,rfl,rfl,rfl,rfl,(YM hh (ok Zi))⟩ Zi (Zw) (Zb))
      ·((repeat (first | refine zS ?_ | refine zA fun _=>?_)))
       (exact YP ⟨k+1,by omega,rfl,rfl,rfl,rfl,(YM hh (ok Zi))⟩ Zi (Zw) (Zb))
     ·((repeat (first | refine zS ?_ | refine zA fun _=>?_)))
      (exact YP ⟨k+1,by omega,rfl,rfl,rfl,rfl,(YM hh (ok Zi))⟩ Zi (Zw) (Zb))
   ·((repeat (first | refine zS ?_ | refine zA fun _=>?_)))
    ((refine zG ?_;refine zC (fun c2=>?_) (fun c2=>?_)))
    ·((repeat (first | refine zS ?_ | refine zA fun _=>?_)))
     ((refine zG ?_;refine zC (fun c3=>?_) (fun c3=>?_)))
     ·exact absurd c3 Zi
     ·((repeat (first | refine zS ?_ | refine zA fun _=>?_)))
      ((refine zG ?_;refine zC (fun c4=>?_) (fun c4=>?_)))
      ·((repeat (first | refine zS ?_ | refine zA fun _=>?_)))
       ((refine zG ?_;refine zC (fun c5=>?_) (fun c5=>?_)))
       ·((repeat (first | refine zS ?_ | refine zA fun _=>?_)))
        ((refine zG ?_;refine zC (fun c6=>?_) (fun c6=>?_)))
        ·((repeat (first | refine zS ?_ | refine zA fun _=>?_)))
         (exact ret1 rfl rfl (Zb) (Ya (bad Zi)))
        ·((repeat (first | refine zS ?_ | refine zA fun _=>?_)))
         (exact YP ⟨k+1,by omega,rfl,rfl,rfl,rfl,(YM hh (ok Zi))⟩ Zi (Zw) (Zb))
       ·((repeat (first | refine zS ?_ | refine zA fun _=>?_)))
        (exact YP ⟨k+1,by omega,rfl,rfl,rfl,rfl,(YM hh (ok Zi))⟩ Zi (Zw) (Zb))
      ·((repeat (first | refine zS ?_ | refine zA fun _=>?_)))
       (exact YP ⟨k+1,by omega,rfl,rfl,rfl,rfl,(YM hh (ok Zi))⟩ Zi (Zw) (Zb))
    ·((repeat (first | refine zS ?_ | refine zA fun _=>?_)))
     (exact YP ⟨k+1,by omega,rfl,rfl,rfl,rfl,(YM hh (ok Zi))⟩ Zi (Zw) (Zb))
  ·((repeat (first | refine zS ?_ | refine zA fun _=>?_)))
   (exact ret1 rfl rfl (Zb) (Yw ⟨fun i hi=>hh i Zi,fun h=>by have:=emp h;omega,by omega,of_decide_eq_false f1⟩))
theorem Ydz {fz:FZ} {s:ByteArray} (hs:Short s):QFn Tryz.prog 95 [.string s] fz (.bool (decide (VarP s))):=by
 have hz:s.size≤9223372036854775807:=hs
 refine GFn.quiet ?_
 (refine GFn.of_wp Tryz.func95 rfl Tryz.ntmps95 rfl rfl (fun w0=>?_))
 ((repeat (first | refine zS ?_ | refine zA fun _=>?_)))
 ((((refine zG ?_;refine zC (fun n1=>?_) (fun n1=>?_)));rotate_left 1;(((repeat (first | refine zS ?_ | refine zA fun _=>?_)));(exact ret1 rfl rfl (Zb) (Ya (fun h=>by have:=h.1;omega))));((repeat (first | refine zS ?_ | refine zA fun _=>?_)))))
 ((((refine zG ?_;refine zC (fun n2=>?_) (fun n2=>?_)));rotate_left 1;(((repeat (first | refine zS ?_ | refine zA fun _=>?_)));(exact ret1 rfl rfl (Zb) (Ya (fun h=>by have:=h.2.1;omega))));((repeat (first | refine zS ?_ | refine zA fun _=>?_)))))
 obtain ⟨b0,hb0,hc0⟩:=Wf (s:=s) (k:=0) Zi
 ((refine zG ?_));refine Y7 T Zz Zz Zz Zz Zi hb0 ?_
 ((repeat (first | refine zS ?_ | refine zA fun _=>?_)))
 ((((refine zG ?_;refine zC (fun n3=>?_) (fun n3=>?_)));rotate_left 1;(((repeat (first | refine zS ?_ | refine zA fun _=>?_)));(exact ret1 rfl rfl (Zb) (Ya (fun h=>n3 (by rw [← hc0];exact h.2.2.1)))));((repeat (first | refine zS ?_ | refine zA fun _=>?_)))))
 (((refine zG ?_));refine YbN T Zz Zz Zz Zz Zi Zi ?_)
 ((repeat (first | refine zS ?_ | refine zA fun _=>?_)))
 (((refine zG ?_));refine Yz Zz Zz (Yau (s:=s.extract 1 s.size) (by unfold Short;rw [WM (Nat.le_refl _)];omega)) (fun f1=>?_) (fun f1=>?_))
 ·((repeat (first | refine zS ?_ | refine zA fun _=>?_)))
  (exact ret1 rfl rfl (Zb) (Yw ⟨by omega,by omega,by rw [hc0];exact n3,of_decide_eq_true f1⟩))
 ·((repeat (first | refine zS ?_ | refine zA fun _=>?_)))
  (exact ret1 rfl rfl (Zb) (Ya (fun h=>of_decide_eq_false f1 h.2.2.2)))
theorem termR_q {fz:FZ} {s:ByteArray} (hs:Short s):QFn Tryz.prog 165 [.string s] fz (.bool (decide (YbE s))):=by
 refine GFn.quiet ?_
 (refine GFn.of_wp Tryz.func165 rfl Tryz.ntmps165 rfl rfl (fun w0=>?_))
 ((repeat (first | refine zS ?_ | refine zA fun _=>?_)))
 (((refine zG ?_));refine Yz Zz Zz (Yau hs) (fun f1=>?_) (fun f1=>?_))
 ·((repeat (first | refine zS ?_ | refine zA fun _=>?_)))
  (exact ret1 rfl rfl (Zb) (Yw (.inl (of_decide_eq_true f1))))
 ·((repeat (first | refine zS ?_ | refine zA fun _=>?_)))
  (((refine zG ?_));refine Yz Zz Zz (Ydz hs) (fun f2=>?_) (fun f2=>?_))
  ·((repeat (first | refine zS ?_ | refine zA fun _=>?_)))
   (exact ret1 rfl rfl (Zb) (Yw (.inr (of_decide_eq_true f2))))
  ·((repeat (first | refine zS ?_ | refine zA fun _=>?_)))
   (exact ret1 rfl rfl (Zb) (Ya (fun h=>h.elim (of_decide_eq_false f1) (of_decide_eq_false f2))))
theorem Yj9 {fz:FZ} {A:Option Addr} {n c:Nat} {l:List ByteArray} (h1:Sl strL fz A n c l):QFn Tryz.prog 97 [.slice A n c] fz (.bool (decide (∀ s∈l,YbE s))):=by
 refine GFn.quiet ?_
 have l1:=h1.len
 have hm:=h1.short
 (refine GFn.of_wp Tryz.func97 rfl Tryz.ntmps97 rfl rfl (fun w0=>?_))
 ((repeat (first | refine zS ?_ | refine zA fun _=>?_)))
 refine YD (fun q σ fz' H'=>∃ k:Nat,k≤n∧q=n - k∧σ=[(3,.int .i64 k),(0,.slice A n c)]∧fz=fz'∧H'=[]∧(∀ i,i<k→∀ x,l[i]?=some x→YbE x)) ⟨0,Nat.zero_le _,rfl,rfl,rfl,rfl,fun i hi=>absurd hi Zi⟩ (Zw) (Zb) ?_
 rintro q σ fz' H' ⟨k,hk,rfl,rfl,rfl,rfl,hh⟩
 ((repeat (first | refine zS ?_ | refine zA fun _=>?_)))
 ((refine zG ?_;refine zC (fun hlt=>?_) (fun hge=>?_)))
 ·((repeat (first | refine zS ?_ | refine zA fun _=>?_)))
  obtain ⟨x,hx⟩:=YG (l:=l) (k:=k) Zi
  (((refine zG ?_));refine YA T k Zz Zz Zz Zz Zz Zz h1 (by first | rfl | omega) hx (fun a ha=>?_))
  (((refine zG ?_));refine Y9 T Zz Zz Zz ha (fun iy=>?_))
  ((repeat (first | refine zS ?_ | refine zA fun _=>?_)))
  (((refine zG ?_));refine Yz Zz Zz (termR_q iy) (fun f1=>?_) (fun f1=>?_))
  ·((repeat (first | refine zS ?_ | refine zA fun _=>?_)))
   (exact YP ⟨k+1,by omega,rfl,rfl,rfl,rfl,(YZ hh hx (of_decide_eq_true f1))⟩ Zi (Zw) (Zb))
  ·((repeat (first | refine zS ?_ | refine zA fun _=>?_)))
   (exact ret1 rfl rfl (Zb) (Ya (fun h=>of_decide_eq_false f1 (h x (List.mem_of_getElem? hx)))))
 ·((repeat (first | refine zS ?_ | refine zA fun _=>?_)))
  (exact ret1 rfl rfl (Zb) (Yw (XW hh Zi)))
end Go.Proofs.YtbhlgkibgajajaaGreatDoor
