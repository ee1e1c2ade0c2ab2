/- The texts Mk, PBytes, PPlain, PText, PBuild, Tab, PWalkA, QQ, SMap, PWalkB, PCA, laid together. Conditions: none. -/
import Derived.Test.YtiligkgjcmokbaaGreatDoorKSKRowA
import Derived.Test.YtiligkgjcmokbaaGreatDoorProg
import Derived.Lib.AppendStr
import Derived.Lib.UnsafeStr
import Derived.Lib.Join
import Derived.Lib.ItoaNum
import Derived.Lib.ItoaMem
import Derived.Lib.Repeat
import Derived.Lib.ConvBytes
import Derived.Laws.BytesArg
set_option linter.all false
set_option maxHeartbeats 1000000
open Go.Lx Go.RowKit
attribute [local instance 10] Classical.propDecidable
open Go.Proofs.Tryz (prog)
namespace Go.Lx
open Go.RowKit
variable {k j:Nat} {H:HP} {fz:FZ} {w w':World}
section
variable {P:Program} {cx:Cx} {r:Operand->Option Value} {fz:FZ} {H:HP} {dst:Option Nat} {ty:TypeId} {pos:String} {af:Array Edge} {gd:Option (Nat × Bool)}
theorem Yl2 {t e:TypeId} {x y:Operand} {X Y:Ty} {k1 k2:IntKind} {l c:Nat} {K:Value->FZ->HP->Prop}
 (hlc:l<=c)
  (h:∀ g,K (Zv g l c) fz ((g,.cells (repZ Y.zero.cells.toList c).toArray e (0,0))::H)) (T:Tab P:=by exact T) (hT:T.inf t=some X:=by exact rfl) (hd:X.desc=.slice e:=by exact rfl) (hY:T.inf e=some Y:=by exact rfl) (hzs:Nat.beq Y.zero.cells.toList.length Y.size=true:=by exact rfl) (hx:r x=some (.int k1 l):=by exact rfl) (hy:r y=some (.int k2 c):=by exact rfl) (hb:c*Y.bytes<=1099511627776:=by exact mulB) (hc:c<=1099511627776:=by omega):Does P cx ⟨dst,.makeSlice t x y,ty,pos,af,gd⟩ r fz H K:=by
  unfold Does;intro ρ w hr hw;have hu:=und_plain T hT hd rfl;have hsz:=run_sizeOf T hY w;have hzr:=YcR T hY w;obtain ⟨inf,hi,i1,i2,i3⟩:=(T.ok_ hY).info;have hwq:IntKind.i64.wrap (c:Int)=c:=YQ Zi;have hwl:IntKind.i64.wrap (l:Int)=l:=YQ Zi;have hti:(typeInfo e).run P w=.ok inf w:=by simp [typeInfo,hi]
  have hrow:=Ypa Y.zero.cells c Y.size (by simpa using Nat.eq_of_beq_eq_true hzs);have hroom:∀ w,(askRoom (c*Y.bytes)).run P w=.ok () w:=fun w=>by
   unfold askRoom roomBytes;rw [if_neg Zi];rfl
  have hcomm:Y.bytes*c=c*Y.bytes:=Nat.mul_comm _ _;have hcond:(((decide ((c:Int)<0) || decide (((Y.bytes:Int))*(c:Int)>2 ^ 48)) || decide ((l:Int)<0)) || decide ((l:Int)>(c:Int)))=false:=by
   have h5:¬((Y.bytes:Int)*(c:Int)>2 ^ 48):=by
    have:((Y.bytes*c:Nat):Int)<=1099511627776:=by omega
    rw [Int.natCast_mul] at this;omega
   simp;omega
  have:(execOp ρ ⟨dst,.makeSlice t x y,ty,pos,af,gd⟩).run P w=.ok (.value (.slice (some ⟨w.heap.size,0,none⟩) l c)) (w.alloc (.cells (repZ Y.zero.cells.toList c).toArray e (0,0))):=by
   simp only [execOp,hr _ _ hx,hr _ _ hy,Instr.makeSlice,Sem.run_bind,run_underlying hu w,Result.andThen_ok,asInt,asIntOf,Sem.run_pure,hti,i2,hwq,hwl];rw [if_neg (by rw [hcond];simp)];simp only [Sem.run_bind,Int.toNat_natCast,hroom,Result.andThen_ok,hsz];by_cases h0:c*Y.size=0
   ·have hnil:(repZ Y.zero.cells.toList c).toArray=#[]:=by rw [<- hrow,h0];simp
    simp only [if_pos h0,Sem.run_bind,Sem.run_pure,Result.andThen_ok,hnil,newRow,newObj,Sem.run];rw [h0,show Array.range 0=#[] from rfl,Array.map_empty];rfl
   simp only [if_neg h0,Sem.run_bind,Sem.run_pure,Result.andThen_ok,hzr,hrow,newRow,newObj,Sem.run];rfl
  rw [this];exact ⟨fz,_,hw.alloc _,h _⟩
end
def Ydf (b:UInt8):Value:=Value.int .u8 b.toNat
def YcI (bs:List UInt8) (k:Nat):List Value:=bs.map Ydf++List.replicate k (Value.int .u8 0)
def YcH (e:TypeId) (bs:List UInt8) (k:Nat):Obj:=.cells (YcI bs k).toArray e (bs.length+k,bs.length+k+1)
theorem Yoo {bs:List UInt8}:(YcI bs k).length=bs.length+k:=by simp [YcI]
theorem YfT {bs:List UInt8} (h:j<bs.length):(YcI bs k)[j]?=some (Ydf bs[j]):=by
 simp [YcI,List.getElem?_append,h]
theorem Yon {bs:List UInt8} {b:UInt8} (h:j<bs.length):(YcI bs k).set j (Ydf b)=YcI (bs.set j b) k:=by
 unfold YcI;rw [List.set_append_left _ _ (by simpa using h),List.map_set]
theorem Inv.made {cx:Cx} {o:Obj} (h:Inv cx fz H w) (h1:w'.os=w.os) (h2:w'.tape=w.tape) (h3:w'.output=w.output) (h4:w'.heap.size=w.heap.size+1) (h5:w'.heap[w.heap.size]?=some o) (h6:∀ j,j<w.heap.size->w'.heap[j]?=w.heap[j]?):
 Inv cx fz ((w.heap.size,o)::H) w':=by
 refine (h.alloc o).world (h1.trans rfl) (h2.trans rfl) (h3.trans rfl) ?_;apply Array.ext_getElem?;intro j;simp only [World.alloc,Array.getElem?_push];by_cases hj:j=w.heap.size
 ·subst hj;simp [h5]
 simp only [hj,if_false];by_cases hl:j<w.heap.size
 ·exact h6 j hl
 rw [Array.getElem?_eq_none Zi,Array.getElem?_eq_none Zi]
section
variable {P:Program} {cx:Cx} {r:Operand->Option Value} {fz:FZ} {H:HP} {V:Value->Prop} {dst:Option Nat} {ty:TypeId} {pos:String} {af:Array Edge} {gd:Option (Nat × Bool)}
theorem k_bytes {src dt e:TypeId} {x:Operand} {X Y Z:Ty} {s:Bs} {K:Value->FZ->HP->Prop}
 (h:∀ g k,K (Zv g s.size (s.size+k)) fz ((g,YcH e s.data.toList k)::H)) (T:Tab P:=by exact T) (hX:T.inf src=some X:=by exact rfl) (hXd:X.desc=.string:=by exact rfl) (hY:T.inf dt=some Y:=by exact rfl) (hYd:Y.desc=.slice e:=by exact rfl) (hZ:T.inf e=some Z:=by exact rfl) (hZd:Z.desc=.int .u8:=by exact rfl) (hx:r x=some (.string s):=by exact rfl):Does P cx ⟨dst,.convert src dt x,ty,pos,af,gd⟩ r fz H K:=by
  refine Does.of fun ρ w hr hw=>?_
  have hrun:=Go.Lib.run_convert_string_bytes (P:=P) w src dt e s (und_plain T hX hXd rfl) (und_plain T hY hYd rfl) (und_plain T hZ hZd rfl);have:(execOp ρ ⟨dst,.convert src dt x,ty,pos,af,gd⟩).run P w=.ok (.value (.slice (some ⟨w.heap.size,0,none⟩) s.size (grownCap w s.size 0 e))) (Go.Lib.bytesWorld w e s):=by
   simp only [execOp,hr _ _ hx,Sem.run_bind,hrun,Result.andThen_ok,Sem.run_pure]
  rw [this];obtain ⟨k,hk⟩:∃ k,grownCap w s.size 0 e=s.size+k:=⟨grownCap w s.size 0 e - s.size,by have:=grownCap_ge w s.size 0 e;omega⟩;have hcells:Go.Lib.bytesCells w e s=(YcI s.data.toList k).toArray:=by
   simp [Go.Lib.bytesCells,YcI,hk];exact fun _ _=>rfl
  have hlen:s.data.toList.length=s.size:=by rw [Array.length_toList];rfl
  have hnew:=Go.Lib.bytesWorld_at_new w e s;rw [hcells] at hnew;have hobj:(Go.Lib.bytesWorld w e s).heap[w.heap.size]?=some (YcH e s.data.toList k):=by
   rw [hnew];simp [YcH,Yoo]
  rw [hk];exact ⟨fz,_,Inv.made hw rfl rfl rfl (Go.Lib.bytesWorld_size w e s) hobj (fun j hj=>Go.Lib.bytesWorld_at_old w e s j hj),h _ k⟩
theorem YlK {t t':TypeId} {x:Operand} {X:Ty} {g j:Nat} {bs:List UInt8} {k:Nat} {b:UInt8} (i:Nat) (hb:bs[j]?=some b) (h:V (Ydf b)) (T:Tab P:=by exact T) (hT:T.inf t=some X:=by exact rfl) (hd:W5 X.desc=false:=by exact rfl) (hx:r x=some (.pointer (some ⟨g,j,none⟩)):=by exact rfl) (hi:H[i]?=some (g,YcH t' bs k):=by exact rfl):
 DoesQ P cx ⟨dst,.load t x,ty,pos,af,gd⟩ r fz H V:=by
 obtain ⟨hj,rfl⟩:=Zg hb;exact Yx i h (hT:=hT) (hd:=hd) (hx:=hx) (hi:=hi) (hv:=YfT hj)
theorem YkM {t t':TypeId} {x y:Operand} {X:Ty} {pre post:HP} {g j:Nat} {bs:List UInt8} {k:Nat} {b:UInt8} {K:Value->FZ->HP->Prop}
 (hy:r y=some (Ydf b)) (hH:H=pre++(g,YcH t' bs k)::post)
  (h:K undef fz (pre++(g,YcH t' (bs.set j b) k)::post)) (T:Tab P:=by exact T) (hT:T.inf t=some X:=by exact rfl) (hx:r x=some (.pointer (some ⟨g,j,none⟩)):=by exact rfl) (hs:X.size=1:=by exact rfl) (hj:j<bs.length):Does P cx ⟨dst,.store t x y,ty,pos,af,gd⟩ r fz H K:=by
  refine Does.of fun ρ w hr hw=>?_
  subst hH;have hb:=(hw.hp.own (g,YcH t' bs k) (by simp)).1;have hcell:w.cell? ⟨g,j,none⟩=some (Ydf bs[j]):=by
   simp only [World.cell?,hb,YcH];simpa using YfT hj
  have hfro:w.frozen? ⟨g,j,none⟩=false:=by
   simp only [World.frozen?,hb,YcH,Bool.and_eq_false_iff,decide_eq_false_iff_not];left;omega
  have hz:=run_sizeOf T hT w;rw [hs] at hz;have hst:(storeCells ⟨g,j,none⟩ [Ydf b] 0).run P w=.ok () (w.setRow g (YcI (bs.set j b) k).toArray):=by
   have hadd:(⟨g,j,none⟩:Addr).add 0=⟨g,j,none⟩:=by simp [Addr.add]
   simp only [storeCells,Sem.run_bind,hadd,run_store P w _ (Ydf b) _ rfl,hcell,hfro];simp [setCell_eq_setRow w g j (YcI bs k).toArray t' _ (Ydf b) hb,<- Yon hj]
  have:(execOp ρ ⟨dst,.store t x y,ty,pos,af,gd⟩).run P w=.ok .skip (w.setRow g (YcI (bs.set j b) k).toArray):=by
   simp only [execOp,hr _ _ hx,hr _ _ hy,Instr.storeAt,Instr.sureAddr,Sem.run_bind,Sem.run_pure,Result.andThen_ok,storeVar,hz];simp [Ydf,Value.cells] at hst ⊢;simp [hst]
  rw [this];refine ⟨fz,_,hw.write (o':=YcH t' (bs.set j b) k) rfl rfl rfl (by simp) ?_ (fun k hk=>?_),h⟩
  ·simp [World.setRow,Array.getElem?_modify,hb,YcH]
  simp only [World.setRow,Array.getElem?_modify];rw [if_neg Zi]
theorem YlI {src dt e:TypeId} {x:Operand} {X Y Z:Ty} {t':TypeId} {g n c k:Nat} {bs:List UInt8} (i:Nat)
 (hn:bs.length=n) (h:V (.string ⟨bs.toArray⟩)) (T:Tab P:=by exact T) (hX:T.inf src=some X:=by exact rfl) (hXd:X.desc=.slice e:=by exact rfl) (hY:T.inf dt=some Y:=by exact rfl) (hYd:Y.desc=.string:=by exact rfl) (hZ:T.inf e=some Z:=by exact rfl) (hZd:Z.desc=.int .u8:=by exact rfl) (hx:r x=some (Zv g n c):=by exact rfl) (hi:H[i]?=some (g,YcH t' bs k):=by exact rfl):DoesQ P cx ⟨dst,.convert src dt x,ty,pos,af,gd⟩ r fz H V:=by
  refine DoesQ.of h fun ρ w hr hw=>?_
  have hcell:∀ j,j<n->w.cell? ⟨g,0+j,none⟩=some (.int .u8 ((bs.map fun b=>(b.toNat:Int)).getD j 0)):=fun j hj=>by
   have hj':j<bs.length:=by omega
   rw [Nat.zero_add,hw.cellOwn hi j];have:=YfT (k:=k) hj';simp only [List.getElem?_toArray,this,Ydf];simp [List.getD,hj']
  have hrun:=run_convert_bytes_arg (P:=P) w src e (und_plain T hX hXd rfl) (und_plain T hZ hZd rfl) g 0 n c (bs.map fun b=>(b.toNat:Int)) (by simpa using hn) hcell dt (und_plain T hY hYd rfl);have hs:strOfNums (bs.map fun b=>(b.toNat:Int))=⟨bs.toArray⟩:=by simp [strOfNums,Function.comp_def]
  rw [hs] at hrun;have:(execOp ρ ⟨dst,.convert src dt x,ty,pos,af,gd⟩).run P w=.ok (.value (.string ⟨bs.toArray⟩)) w:=by
   simp only [execOp,hr _ _ hx,Sem.run_bind,hrun,Result.andThen_ok,Sem.run_pure]
  rw [this];exact ⟨rfl,Fr.refl _ _⟩
end
end Go.Lx
namespace Go.Lx
variable {k:Nat} {f:Formula}
def Yca (n:Int):Prop:= -1099511627776<=n/\n<=1099511627776
mutual
def ecount:Expr->Nat
 | .mk _ _ _ _ kids=>1+ecountL kids
def ecountL:List Expr->Nat
 | []=>0
 | k::r=>ecount k+ecountL r
end
mutual
def edepth:Expr->Nat
 | .mk _ _ _ _ kids=>1+edepthL kids
def edepthL:List Expr->Nat
 | []=>0
 | k::r=>max (edepth k) (edepthL r)
end
mutual
def fcount:Formula->Nat
 | .mk _ _ _ _ exprs kids=>1+ecountL exprs+fcountL kids
def fcountL:List Formula->Nat
 | []=>0
 | k::r=>fcount k+fcountL r
end
mutual
def fdepth:Formula->Nat
 | .mk _ _ _ _ exprs kids=>1+max (edepthL exprs) (fdepthL kids)
def fdepthL:List Formula->Nat
 | []=>0
 | k::r=>max (fdepth k) (fdepthL r)
end
mutual
def xcount:Sexpr->Nat
 | .mk _ _ _ _ _ kids=>1+xcountL kids
def xcountL:List Sexpr->Nat
 | []=>0
 | k::r=>xcount k+xcountL r
end
mutual
def xdepth:Sexpr->Nat
 | .mk kind _ _ _ _ kids=>xdepthL kids+(if kind=3 then 1 else 0)
def xdepthL:List Sexpr->Nat
 | []=>0
 | k::r=>max (xdepth k) (xdepthL r)
end
theorem YdM (e:Expr):ecount e=1+ecountL e.kids:=by cases e;simp [ecount,Expr.kids]
theorem Ye5 (e:Expr):edepth e=1+edepthL e.kids:=by cases e;simp [edepth,Expr.kids]
theorem Ye4 (f:Formula):fcount f=1+ecountL f.exprs+fcountL f.kids:=by cases f;simp [fcount,Formula.kids,Formula.exprs]
theorem Yhl (f:Formula):fdepth f=1+max (edepthL f.exprs) (fdepthL f.kids):=by cases f;simp [fdepth,Formula.kids,Formula.exprs]
theorem Xj (x:Sexpr):xcount x=1+xcountL x.kids:=by cases x;simp [xcount,Sexpr.kids]
theorem Ycs (x:Sexpr):xdepth x=xdepthL x.kids+(if x.kind=3 then 1 else 0):=by cases x;rw [xdepth];rfl
theorem Yk8 {l:List Expr} {x:Expr}:ecountL (l++ [x])=ecountL l+ecount x:=by
 induction l with
 | nil=>simp [ecountL]
 | cons a r ih=>simp only [List.cons_append,ecountL,ih];omega
theorem Yk4 {l:List Formula} {x:Formula}:fcountL (l++ [x])=fcountL l+fcount x:=by
 induction l with
 | nil=>simp [fcountL]
 | cons a r ih=>simp only [List.cons_append,fcountL,ih];omega
theorem YjX {l:List Sexpr} {x:Sexpr}:xcountL (l++ [x])=xcountL l+xcount x:=by
 induction l with
 | nil=>simp [xcountL]
 | cons a r ih=>simp only [List.cons_append,xcountL,ih];omega
theorem Yh2 {l m:List Expr}:ecountL (l++m)=ecountL l+ecountL m:=by
 induction l with
 | nil=>simp [ecountL]
 | cons a r ih=>simp only [List.cons_append,ecountL,ih];omega
theorem Yh1 {l m:List Formula}:fcountL (l++m)=fcountL l+fcountL m:=by
 induction l with
 | nil=>simp [fcountL]
 | cons a r ih=>simp only [List.cons_append,fcountL,ih];omega
theorem WF {l m:List Sexpr}:xcountL (l++m)=xcountL l+xcountL m:=by
 induction l with
 | nil=>simp [xcountL]
 | cons a r ih=>simp only [List.cons_append,xcountL,ih];omega
theorem YhL {l m:List Sexpr}:xdepthL (l++m)=max (xdepthL l) (xdepthL m):=by
 induction l with
 | nil=>simp [xdepthL]
 | cons a r ih=>simp only [List.cons_append,xdepthL,ih];omega
theorem Wg {l:List Sexpr} {x:Sexpr} (h:x∈l):xcount x<=xcountL l:=by
 induction l with
 | nil=>cases h
 | cons a r ih=>
  simp only [xcountL];rcases List.mem_cons.1 h with rfl | h
  ·omega
  have:=ih h;omega
theorem Yis {l:List Expr} {b:Nat}:edepthL l<=b↔∀ x∈l,edepth x<=b:=by
 induction l with
 | nil=>simp [edepthL]
 | cons a r ih=>simp only [edepthL,List.mem_cons,forall_eq_or_imp,Nat.max_le,ih]
theorem Yir {l:List Formula} {b:Nat}:fdepthL l<=b↔∀ x∈l,fdepth x<=b:=by
 induction l with
 | nil=>simp [fdepthL]
 | cons a r ih=>simp only [fdepthL,List.mem_cons,forall_eq_or_imp,Nat.max_le,ih]
theorem Wq {l:List Sexpr} {b:Nat}:xdepthL l<=b↔∀ x∈l,xdepth x<=b:=by
 induction l with
 | nil=>simp [xdepthL]
 | cons a r ih=>simp only [xdepthL,List.mem_cons,forall_eq_or_imp,Nat.max_le,ih]
theorem Wt {l:List Sexpr}:l.length<=xcountL l:=by
 induction l with
 | nil=>simp
 | cons a r ih=>simp only [List.length_cons,xcountL,Xj a];omega
theorem YdO {l:List Expr} {x:Expr} (hx:l[k]?=some x):ecountL (l.take (k+1))=ecountL (l.take k)+ecount x:=by
 rw [List.take_add_one,hx];simp only [Option.toList];exact Yk8
theorem YdN {l:List Expr}:ecountL (l.take k)<=ecountL l:=by
 have h:=Yh2 (l:=l.take k) (m:=l.drop k);rw [List.take_append_drop] at h;omega
theorem Yf5 {l:List Formula} {x:Formula} (hx:l[k]?=some x):fcountL (l.take (k+1))=fcountL (l.take k)+fcount x:=by
 rw [List.take_add_one,hx];simp only [Option.toList];exact Yk4
theorem Yf4 {l:List Formula}:fcountL (l.take k)<=fcountL l:=by
 have h:=Yh1 (l:=l.take k) (m:=l.drop k);rw [List.take_append_drop] at h;omega
theorem YjW {l:List Sexpr} {x:Sexpr} (hx:l[k]?=some x):xcountL (l.take (k+1))=xcountL (l.take k)+xcount x:=by
 rw [List.take_add_one,hx];simp only [Option.toList];exact YjX
theorem YfX {l:List Sexpr}:xcountL (l.take k)<=xcountL l:=by
 have h:=WF (l:=l.take k) (m:=l.drop k);rw [List.take_append_drop] at h;omega
mutual
/-- what holds of all parts -/
def EAll (p:Expr->Prop):Expr->Prop
 | .mk op name n args kids=>p (.mk op name n args kids)/\EAllL p kids
def EAllL (p:Expr->Prop):List Expr->Prop
 | []=>True
 | k::r=>EAll p k/\EAllL p r
end
mutual
def FAll (p:Formula->Prop) (q:Expr->Prop):Formula->Prop
 | .mk op name args params exprs kids=>p (.mk op name args params exprs kids)/\EAllL q exprs/\FAllL p q kids
def FAllL (p:Formula->Prop) (q:Expr->Prop):List Formula->Prop
 | []=>True
 | k::r=>FAll p q k/\FAllL p q r
end
mutual
def XAll (p:Sexpr->Prop):Sexpr->Prop
 | .mk kind value line column text kids=>p (.mk kind value line column text kids)/\XAllL p kids
def XAllL (p:Sexpr->Prop):List Sexpr->Prop
 | []=>True
 | k::r=>XAll p k/\XAllL p r
end
theorem Yls {p:Expr->Prop} {l:List Expr}:EAllL p l↔∀ k∈l,EAll p k:=by
 induction l with
 | nil=>simp [EAllL]
 | cons a r ih=>simp only [EAllL,ih,List.mem_cons,forall_eq_or_imp]
theorem Yq1 {p:Formula->Prop} {q:Expr->Prop} {l:List Formula}:FAllL p q l↔∀ k∈l,FAll p q k:=by
 induction l with
 | nil=>simp [FAllL]
 | cons a r ih=>simp only [FAllL,ih,List.mem_cons,forall_eq_or_imp]
theorem YhG {p:Sexpr->Prop} {l:List Sexpr}:XAllL p l↔∀ k∈l,XAll p k:=by
 induction l with
 | nil=>simp [XAllL]
 | cons a r ih=>simp only [XAllL,ih,List.mem_cons,forall_eq_or_imp]
theorem YaN {p:Expr->Prop} {e:Expr}:EAll p e↔p e/\∀ k∈e.kids,EAll p k:=by cases e;simp only [EAll,Yls,Expr.kids]
theorem WV {p:Formula->Prop} {q:Expr->Prop}:FAll p q f↔p f/\(∀ e∈f.exprs,EAll q e)/\∀ k∈f.kids,FAll p q k:=by cases f;simp only [FAll,Yq1,Yls,Formula.kids,Formula.exprs]
theorem Xe {p:Sexpr->Prop} {x:Sexpr}:XAll p x↔p x/\∀ k∈x.kids,XAll p k:=by cases x;simp only [XAll,YhG,Sexpr.kids]
end Go.Lx
namespace Go.Lx
open Go
variable {i k:Nat}
def strOf (l:List UInt8):Bs:=⟨l.toArray⟩
theorem WW (l:List UInt8):(strOf l).size=l.length:=by simp [strOf,ByteArray.size]
theorem Yfi (l:List UInt8):(strOf l).data.toList=l:=by simp [strOf]
theorem Yj6 (a b:List UInt8):strOf a++strOf b=strOf (a++b):=by
 apply ByteArray.ext;simp [strOf,ByteArray.data_append]
theorem strOf_of (s:Bs):strOf s.data.toList=s:=by
 apply ByteArray.ext;simp [strOf]
mutual
/-- the text in one line -/
def txt:Sexpr->List UInt8
 | .mk k v _ _ t ks=>if k=1 then t.data.toList else if k=2 then Lib.itoa v else 40::(Lib.join (txtL ks) [32]++ [41])
def txtL:List Sexpr->List (List UInt8)
 | []=>[]
 | x::r=>txt x::txtL r
end
theorem YmJ (l:List Sexpr):txtL l=l.map txt:=by
 induction l with
 | nil=>simp [txtL]
 | cons a r ih=>simp [txtL,ih]
theorem txt_eq (x:Sexpr):txt x=if x.kind=1 then x.text.data.toList else if x.kind=2 then Lib.itoa x.value else 40::(Lib.join (x.kids.map txt) [32]++ [41]):=by
 cases x;rw [txt,YmJ];rfl
mutual
/-- the text in lines -/
def lay (w:Nat):Sexpr->Nat->List UInt8
 | .mk k v l c t ks,i=>if k≠3\/ks.length=0\/i+(txt (.mk k v l c t ks)).length<=w then txt (.mk k v l c t ks) else 40::(layH w ks i++ [41])
def layH (w:Nat):List Sexpr->Nat->List UInt8
 | [],_=>[]
 | x::r,i=>lay w x (i+1)++layT w r (i+2)
def layT (w:Nat):List Sexpr->Nat->List UInt8
 | [],_=>[]
 | x::r,i=>(10::(List.replicate i 32++lay w x i))++layT w r i
end
theorem Ygv {w:Nat} {x:Sexpr} (h:x.kind≠3\/x.kids.length=0\/i+(txt x).length<=w):lay w x i=txt x:=by
 cases x;rw [lay];exact if_pos h
theorem lay_long {w:Nat} {x:Sexpr} (h:¬(x.kind≠3\/x.kids.length=0\/i+(txt x).length<=w)):lay w x i=40::(layH w x.kids i++ [41]):=by
 cases x;rw [lay];exact if_neg h
theorem Yl0 {w:Nat} {l m:List Sexpr}:layT w (l++m) i=layT w l i++layT w m i:=by
 induction l with
 | nil=>simp [layT]
 | cons a r ih=>simp only [List.cons_append,layT,ih,List.append_assoc]
theorem YpP {w:Nat} {l:List Sexpr} {x:Sexpr} (hx:l[k]?=some x):layT w (l.take (k+1)) i=layT w (l.take k) i++(10::(List.replicate i 32++lay w x i)):=by
 rw [List.take_add_one,hx];simp only [Option.toList];rw [Yl0];simp [layT]
def XSm (x:Sexpr):Prop:=(x.kind=1->x.text.size<=32)/\(x.kind=2->Yca x.value)
theorem Yjy {u:Nat} (h:u<10 ^ (k+1)):(Lib.decDigits u).length<=k+1:=by
 induction k generalizing u with
 | zero=>rw [Lib.decDigits,dif_pos (by simpa using h)];simp
 | succ k ih=>
  by_cases h0:u<10
  ·rw [Lib.decDigits,dif_pos h0];simp
  have:=ih (u:=u / 10) (by rw [Nat.pow_succ] at h;omega);rw [Lib.decDigits,dif_neg h0,List.length_append];simp;omega
theorem itoa_len {n:Int} (h:Yca n):(Lib.itoa n).length<=14:=by
 unfold Yca at h;have h1:∀ u:Nat,u<=1099511627776->(Lib.decDigits u).length<=13:=fun u hu=>Yjy (k:=12) Zi
 unfold Lib.itoa;split
 ·have:=h1 n.natAbs Zi;simp;omega
 have:=h1 n.toNat Zi;omega
theorem join_len {l:List (List UInt8)}:(Lib.join l [32]).length<=(l.map fun t=>t.length+1).sum:=by
 cases l with
 | nil=>simp [Lib.join_nil]
 | cons x r=>
  rw [Lib.join_cons,List.length_append,Lib.joinTail_length];have:Lib.lens r+r.length=(r.map fun t=>t.length+1).sum:=by
   induction r with
   | nil=>simp [Lib.lens]
   | cons a r ih=>simp only [Lib.lens,List.map_cons,List.sum_cons,List.length_cons] at ih ⊢;omega
  simp only [List.map_cons,List.sum_cons,List.length_cons,List.length_nil] at this ⊢;omega
mutual
theorem txt_len:∀ {x:Sexpr},XAll XSm x->(txt x).length+4<=36*xcount x
 | .mk k v l c t ks,h=>by
  rw [XAll] at h;have hs:=txtL_len h.2;rw [txt,xcount];have h1:=h.1;unfold XSm at h1;split
  ·rename_i hk;have:=h1.1 hk;have e:t.data.toList.length=t.size:=by rw [Array.length_toList];rfl
   simp only [Sexpr.text] at this;omega
  split
  ·rename_i hk;have:=itoa_len (h1.2 hk);simp only [Sexpr.value] at this;omega
  have:=join_len (l:=txtL ks);simp only [List.length_cons,List.length_append,List.length_nil];omega
theorem txtL_len:∀ {l:List Sexpr},XAllL XSm l->((txtL l).map fun t=>t.length+1).sum<=36*xcountL l
 | [],_=>by simp [txtL]
 | x::r,h=>by
  rw [XAllL] at h;have h1:=txt_len h.1;have h2:=txtL_len h.2;simp only [txtL,List.map_cons,List.sum_cons,xcountL];omega
end
mutual
theorem lay_len {w M:Nat}:∀ {x:Sexpr} {i:Nat},XAll XSm x->i+2*xdepth x<=M->(lay w x i).length+M+3<=(M+36)*xcount x
 | .mk k v l c t ks,i,h,hM=>by
  have ht:=txt_len h;have hc:1<=xcount (.mk k v l c t ks):=by rw [xcount];omega
  have hmul:(M+36)*xcount (.mk k v l c t ks)=M*xcount (.mk k v l c t ks)+36*xcount (.mk k v l c t ks):=Nat.add_mul _ _ _;have hM1:M*1<=M*xcount (.mk k v l c t ks):=Nat.mul_le_mul_left _ hc;rw [lay];split
  ·omega
  rename_i hn;have hk:k=3:=Classical.byContradiction fun h0=>hn (.inl h0)
  rw [XAll] at h;rw [xdepth,if_pos hk] at hM;have:=layH_len (w:=w) (M:=M) (l:=ks) (i:=i) h.2 Zi;rw [xcount,Nat.mul_add,Nat.mul_one];simp only [List.length_cons,List.length_append,List.length_nil];omega
theorem layH_len {w M:Nat}:∀ {l:List Sexpr} {i:Nat},XAllL XSm l->i+2+2*xdepthL l<=M->(layH w l i).length<=(M+36)*xcountL l
 | [],_,_,_=>by simp [layH]
 | x::r,i,h,hM=>by
  rw [XAllL] at h;rw [xdepthL] at hM;have h1:=lay_len (w:=w) (M:=M) (i:=i+1) h.1 Zi;have h2:=layT_len (w:=w) (M:=M) (l:=r) (i:=i+2) h.2 Zi;rw [layH,List.length_append,xcountL,Nat.mul_add];omega
theorem layT_len {w M:Nat}:∀ {l:List Sexpr} {i:Nat},XAllL XSm l->i+2*xdepthL l<=M->(layT w l i).length<=(M+36)*xcountL l
 | [],_,_,_=>by simp [layT]
 | x::r,i,h,hM=>by
  rw [XAllL] at h;rw [xdepthL] at hM;have h1:=lay_len (w:=w) (M:=M) (i:=i) h.1 Zi;have h2:=layT_len (w:=w) (M:=M) (l:=r) (i:=i) h.2 Zi;rw [layT,xcountL,Nat.mul_add];simp only [List.length_cons,List.length_append,List.length_replicate];omega
end
theorem Ykh (n:Nat):Lib.repeatL [32] n=List.replicate n 32:=by
 induction n with
 | zero=>rfl
 | succ n ih=>rw [Lib.repeatL,ih];rfl
end Go.Lx
namespace Go.Lx
open Go.RowKit
section
variable {P:Program}
theorem YhN (w:World) (t u ty e:TypeId) (i:TypeInfo) (ht:P.underlying t=some (.slice e)) (hu:P.underlying u=some .string) (hi:P.info? e=some i) (hz:i.zero=some (.int .u8 0))
 (hsize:i.size=1) (hby:i.bytes=1) (v:Value) (n:Nat) (xs:List Value) (hown:w.ownsRow 0 e 1 v n xs) (s:Bs) (hm:n+s.size<=140737488355328):
 ∃ v' w',(Builtin.append_ #[t,u] ty #[v,.string s]).run P w=.ok v' w'/\w'.ownsRow 0 e 1 v' (n+s.size) (xs++s.data.toList.map Ydf)/\w.grownBy w' v.ownBlock/\(v'.ownBlock=v.ownBlock\/v'.ownBlock=some w.heap.size):=by
 obtain ⟨v',w',hr,h2,h3,h4⟩:=Go.Lib.run_append_own_string (P:=P) w 0 t u ty e i ht hu hi hz hsize hby v n xs hown s (by unfold maxLen;omega) hm (Z0 _);refine ⟨v',w',hr,h2,h3,?_⟩;have hxl:xs.length=n:=by simpa using hown.1
 rcases hown.2 with ⟨h5,h6⟩ | ⟨g,cap,cur,h5,_,h7,h8,h9,h10,h11⟩
 ·subst h5 h6;by_cases h0:s.size=0
  ·left;rw [h4.2 ⟨rfl,h0⟩]
  right;have hr2:=run_append_nil_string (P:=P) w t u ty e i (.int .u8 0) ht hu hi hz s Zi Zi (by rw [hby];omega);rw [hr] at hr2;injection hr2 with e1 _
  rw [e1];rfl
 subst h5;by_cases hroom:n+s.size<=cap
 ·left;have hr2:=Go.Lib.run_append_room_string (P:=P) w t u ty e i ht hu hi hsize g n cap cur h7 s hroom (by simp at h10;omega);rw [hr] at hr2;injection hr2 with e1 _
  rw [e1];rfl
 right;have hr2:=Go.Lib.run_append_grow_string (P:=P) w t u ty e i (.int .u8 0) ht hu hi hz ⟨g,0,none⟩ n cap xs (by rw [hsize];omega) (hown.cells (g:=g) rfl) s Zi Zi (by rw [hby];exact growslice_fits Zi Zi);rw [hr] at hr2;injection hr2 with e1 _
 rw [e1];rfl
end
section
variable {P:Program} {cx:Cx} {r:Operand->Option Value} {fz:FZ} {H:HP} {V:Value->Prop} {dst:Option Nat} {ty:TypeId} {pos:String} {af:Array Edge} {gd:Option (Nat × Bool)}
variable {Hr Hs:HP} {X Y:Ty} {e t:TypeId} {n:Nat} {s:Bs} {v:Value} {x y:Operand}
theorem Yl3 (T:Tab P) {u:TypeId} {U:Ty} {xs:List Value} {K:Value->FZ->HP->Prop} (hT:T.inf t=some X) (hd:X.desc=.slice e) (hU:T.inf u=some U) (hUd:U.desc=.string) (hY:T.inf e=some Y) (hz:Y.zero=.int .u8 0) (hsz:Y.size=1) (hby:Y.bytes=1)
 (hx:r x=some v) (hy:r y=some (.string s)) (hp:H.Perm (Hr++Hs)) (ho:OwnS e 1 v n xs Hs) (hm:n+s.size<=140737488355328)
 (h:∀ v' Hs',OwnS e 1 v' (n+s.size) (xs++s.data.toList.map Ydf) Hs'->K v' fz (Hr++Hs')):
 Does P cx ⟨dst,.call {callee:=.builtin .append,args:=#[x,y],argTypes:=#[t,u]},ty,pos,af,gd⟩ r fz H K:=by
 refine Does.of fun ρ w hr hi=>?_
 have hi':=hi.perm hp.symm;obtain ⟨i,hinf,g1,g2,g3⟩:=(T.ok_ hY).info;rw [hz] at g3;rw [hsz] at g1;rw [hby] at g2;have hown:=ho.owns hi';obtain ⟨v',w',hrun,h2,h3,h5⟩:=YhN (P:=P) w t u ty e i (und_plain T hT hd rfl) (und_plain T hU hUd rfl) hinf g3 g1 g2 v n xs hown s hm;obtain ⟨Hs',h6,h7⟩:=Yga h2;have hexec:(execOp ρ ⟨dst,.call {callee:=.builtin .append,args:=#[x,y],argTypes:=#[t,u]},ty,pos,af,gd⟩).run P w=.ok (.value v') w':=by
  simp only [execOp,resolve,invoke,builtin,Sem.run_bind,Sem.run_pure,Result.andThen_ok,List.map_toArray,List.map_cons,List.map_nil,hr _ _ hx,hr _ _ hy,hrun]
 rw [hexec];exact ⟨fz,_,hi'.appended ho h3 h6 h7 h5,h v' Hs' h6⟩
theorem Ykj {t:TypeId} {x:Operand} {a:Addr} {n c:Nat} (hx:r x=some (.slice (some a) n c)) (hc:c≠0) (h:V (.pointer (some a))):
 DoesQ P cx ⟨dst,.call {callee:=.builtin .unsafeSliceData,args:=#[x],argTypes:=#[t]},ty,pos,af,gd⟩ r fz H V:=
 YC (fun ρ w hr=>by
  simp only [execOp,resolve,invoke,builtin,Sem.run_bind,Sem.run_pure,Result.andThen_ok,List.map_toArray,List.map_cons,List.map_nil,hr _ _ hx,Go.Lib.run_unsafeSliceData_row _ _ _ _ _ _ hc]) h
variable {g:Nat}
theorem YhW (T:Tab P) {pt it:TypeId} {pre post:HP} {cur:List Value} {l:List UInt8} {K:Value->FZ->HP->Prop} (hT:T.inf pt=some X) (hd:X.desc=.pointer e) (hc:P.cellsOf e=1)
 (hx:r x=some (Zp g)) (hy:r y=some (Zk l.length)) (hH:H=pre++(g,.cells cur.toArray e (0,0))::post) (h0:l≠ []) (hl:l.length<=cur.length) (h63:l.length<=140737488355328) (hcur:cur.take l.length=l.map Ydf)
 (h:K (.string (strOf l)) fz (pre++(g,.cells cur.toArray e (0,l.length))::post)):
 Does P cx ⟨dst,.call {callee:=.builtin .unsafeString,args:=#[x,y],argTypes:=#[pt,it]},ty,pos,af,gd⟩ r fz H K:=by
 refine Does.of fun ρ w hr hw=>?_
 subst hH;have hb:=(hw.hp.own (g,.cells cur.toArray e (0,0)) (by simp)).1;have hcell:∀ j x,l[j]?=some x->w.cell? ((⟨g,0,none⟩:Addr).add j)=some (.int .u8 x.toNat):=by
  intro j b hb2;have hadd:(⟨g,0,none⟩:Addr).add j=⟨g,j,none⟩:=by unfold Addr.add;split<;>simp_all
  have hj:j<l.length:=(Zg hb2).1;have h1:(cur.take l.length)[j]?=some (Ydf b):=by rw [hcur,List.getElem?_map,hb2];rfl
  rw [List.getElem?_take,if_pos hj] at h1;rw [hadd];simp only [World.cell?,hb];simpa [Ydf] using h1
 have hrun:=Go.Lib.run_unsafeString_row (P:=P) w pt it ty e (und_plain T hT hd rfl) hc g cur.length (by simp [World.shape?,hb]) l h0 hl Zi hcell;have hexec:(execOp ρ ⟨dst,.call {callee:=.builtin .unsafeString,args:=#[x,y],argTypes:=#[pt,it]},ty,pos,af,gd⟩).run P w=.ok (.value (.string (strOf l))) (w.freeze ⟨g,0,none⟩ l.length):=by
  simp only [execOp,resolve,invoke,builtin,Sem.run_bind,Sem.run_pure,Result.andThen_ok,List.map_toArray,List.map_cons,List.map_nil,hr _ _ hx,hr _ _ hy,hrun];rfl
 rw [hexec];have hl0:l.length≠0:=by simpa using h0
 refine ⟨fz,_,hw.write (o':=.cells cur.toArray e (0,l.length)) (by simp [World.freeze,hl0]) (by simp [World.freeze,hl0]) (by simp [World.freeze,hl0]) (by simp [World.freeze,hl0]) ?_ (fun k hk=>?_),h⟩
 ·simp [World.freeze,hl0,Array.getElem?_modify,hb]
 simp only [World.freeze,if_neg hl0,Array.getElem?_modify];rw [if_neg Zi]
variable {t':TypeId}
theorem Wa {a b:Bs} (hx:r x=some (.string a)) (hy:r y=some (.string b)) (hs:a.size+b.size<=9223372036854775807) (h:V (.string (a++b))):
 DoesQ P cx ⟨dst,.binOp .add t x y t',ty,pos,af,gd⟩ r fz H V:=
 YC (fun ρ w hr=>by
  have:¬(9223372036854775807<((a.size:Int)+(b.size:Int))):=by omega
  simp [execOp,hr _ _ hx,hr _ _ hy,eqGuard_at_string,binOp,Op.stringOp,this]) h
theorem YgS {a b:List UInt8} (hx:r x=some (.string (strOf a))) (hy:r y=some (.string (strOf b))) (hs:a.length+b.length<=9223372036854775807) (h:V (.string (strOf (a++b)))):
 DoesQ P cx ⟨dst,.binOp .add t x y t',ty,pos,af,gd⟩ r fz H V:=
 Wa hx hy (by rw [WW,WW];exact hs) (by rw [Yj6];exact h)
theorem Xy {α:Type} {L:Lay α} {t e:TypeId} {x i:Operand} {X Y:Ty} {A:Option Addr} {n c:Nat} {k:IntKind} {j:Nat} {xs:List α}
 (hs:Sl L fz A n c xs) (h:∀ A',Sl L fz A' (n - j) (c - j) (xs.drop j)->V (.slice A' (n - j) (c - j))) (T:Tab P:=by exact T) (hT:T.inf t=some X:=by exact rfl) (hd:X.desc=.slice e:=by exact rfl) (hY:T.inf e=some Y:=by exact rfl) (hz:Y.size=L.size:=by exact rfl) (hx:r x=some (.slice A n c):=by exact rfl) (hi:r i=some (.int k j):=by exact rfl) (hj:j<=n:=by omega):DoesQ P cx ⟨dst,.slice t x (some i) none none,ty,pos,af,gd⟩ r fz H V:=by
  have h1:=hs.cap;have h2:=hs.max;have h3:=hs.short;have h4:=hs.len;refine YC (v:=.slice (if c=j then A else A.map (·.add (j*Y.size))) (n - j) (c - j)) (fun ρ w hr=>by
   have hu:=run_underlying (und_plain T hT hd rfl) w;have hs:=Lx.run_sizeOf T hY w;simp [execOp,hr _ _ hx,hr _ _ hi,Instr.sliceAt,Instr.slice,Instr.sliceBounds,Instr.sliceBound,asIntOf,hu,hs,hj]
   try omega) (h _ ?_)
  refine ⟨by rw [List.length_drop,h4],by omega,by omega,by omega,?_⟩;rcases hs.elem with h0 | ⟨ad,h5,h6⟩
  ·exact .inl Zi
  by_cases hn:n - j=0
  ·exact .inl hn
  refine .inr ⟨ad.add (j*L.size),?_,fun i d hd=>?_⟩
  ·rw [if_neg Zi,h5,hz];rfl
  rw [List.getElem?_drop] at hd;have:=h6 (j+i) d hd;have e:(ad.add (j*L.size)).add (i*L.size)=ad.add ((j+i)*L.size):=by
   rw [Nat.add_mul];unfold Addr.add;by_cases h7:j*L.size=0
   ·rw [h7];simp
   by_cases h8:i*L.size=0
   ·rw [h8];simp
   simp [h7,h8,Nat.add_assoc]
  rw [e];exact this
theorem q_min {x y:Operand} {ats:Array TypeId} {k:IntKind} {a b:Int} (h:V (.int k (min a b))) (hx:r x=some (.int k a):=by exact rfl) (hy:r y=some (.int k b):=by exact rfl):
 DoesQ P cx ⟨dst,.call {callee:=.builtin .min,args:=#[x,y],argTypes:=ats},ty,pos,af,gd⟩ r fz H V:=
 YC (fun ρ w hr=>by
  have:(if b<a then b else a)=min a b:=by omega
  simp [execOp,resolve,invoke,builtin,hr _ _ hx,hr _ _ hy,Builtin.min_,Builtin.min2,this]) h
theorem q_neg {k:IntKind} {a c:Int} (hx:r x=some (.int k a)) (hw:k.wrap (0 - a)=c) (h:V (.int k c)):DoesQ P cx ⟨dst,.unOp .neg t x,ty,pos,af,gd⟩ r fz H V:=
 YC (fun ρ w hr=>by simp [execOp,hr _ _ hx,Op.unary,Op.intArith] at hw ⊢;exact hw) h
end
end Go.Lx
namespace Go.Proofs.YtiligkgjcmokbaaGreatDoor
open Go.Lx
set_option maxRecDepth 100000
theorem allTy_of {P:Program}:∀ l:List (Nat × Ty),(l.map fun p=>(P.underlying p.1).map Lx.blank)=(l.map fun p=>some p.2.desc)->(l.map fun p=>(P.info? p.1).map fun i=>(i.size,i.bytes,i.zero))=(l.map fun p=>some (p.2.size,p.2.bytes,some p.2.zero))->AllTy P l
 |[],_,_=>trivial
 |p::r,h,g=>by
  simp only [List.map_cons,List.cons.injEq] at h g;exact ⟨TyOk.mk' h.1 g.1,allTy_of r h.2 g.2⟩
def tabL:List (Nat × Ty):=[(3,⟨.int .i64,1,8,Zk 0⟩),(4,⟨.bool,1,1,.bool false⟩),(5,⟨.int .u8,1,1,.int .u8 0⟩),(9,⟨.string,1,16,Ze⟩),(22,⟨.slice 123,1,24,Zn⟩),(23,⟨.slice 61,1,24,Zn⟩),(24,⟨.slice 63,1,24,Zn⟩),(25,⟨.slice 52,1,24,Zn⟩),(26,⟨.slice 55,1,24,Zn⟩),(27,⟨.struct #[fld 9 0,fld 22 1,fld 22 2,fld 23 3,fld 24 4,fld 25 5,fld 26 6],7,160,.agg #[Ze,Zn,Zn,Zn,Zn,Zn,Zn]⟩),(28,⟨.struct #[fld 9 0,fld 22 1,fld 22 2,fld 23 3,fld 24 4,fld 25 5,fld 26 6],7,160,.agg #[Ze,Zn,Zn,Zn,Zn,Zn,Zn]⟩),(29,⟨.slice 77,1,24,Zn⟩),(30,⟨.slice 80,1,24,Zn⟩),(31,⟨.slice 9,1,24,Zn⟩),(32,⟨.slice 112,1,24,Zn⟩),(33,⟨.slice 35,1,24,Zn⟩),(34,⟨.struct #[fld 9 0,fld 9 1,fld 31 2,fld 22 3,fld 32 4,fld 33 5],6,128,.agg #[Ze,Ze,Zn,Zn,Zn,Zn]⟩),(35,⟨.struct #[fld 9 0,fld 9 1,fld 31 2,fld 22 3,fld 32 4,fld 33 5],6,128,.agg #[Ze,Ze,Zn,Zn,Zn,Zn]⟩),(36,⟨.struct #[fld 9 0,fld 9 1,fld 22 2,fld 29 3,fld 30 4,fld 35 5],11,232,.agg #[Ze,Ze,Zn,Zn,Zn,Ze,Ze,Zn,Zn,Zn,Zn]⟩),(37,⟨.struct #[fld 9 0,fld 9 1,fld 22 2,fld 29 3,fld 30 4,fld 35 5],11,232,.agg #[Ze,Ze,Zn,Zn,Zn,Ze,Ze,Zn,Zn,Zn,Zn]⟩),(42,⟨.interface #[],1,16,.nilIface⟩),(43,⟨.interface #[],1,16,.nilIface⟩),(50,⟨.slice 114,1,24,Zn⟩),(51,⟨.struct #[fld 9 0,fld 22 1,fld 3 2,fld 35 3,fld 50 9],10,200,.agg #[Ze,Zn,Zk 0,Ze,Ze,Zn,Zn,Zn,Zn,Zn]⟩),(52,⟨.struct #[fld 9 0,fld 22 1,fld 3 2,fld 35 3,fld 50 9],10,200,.agg #[Ze,Zn,Zk 0,Ze,Ze,Zn,Zn,Zn,Zn,Zn]⟩),(54,⟨.struct #[fld 9 0,fld 22 1,fld 3 2,fld 35 3,fld 35 9,fld 35 15,fld 50 21,fld 50 22],23,480,.agg #[Ze,Zn,Zk 0,Ze,Ze,Zn,Zn,Zn,Zn,Ze,Ze,Zn,Zn,Zn,Zn,Ze,Ze,Zn,Zn,Zn,Zn,Zn,Zn]⟩),(55,⟨.struct #[fld 9 0,fld 22 1,fld 3 2,fld 35 3,fld 35 9,fld 35 15,fld 50 21,fld 50 22],23,480,.agg #[Ze,Zn,Zk 0,Ze,Ze,Zn,Zn,Zn,Zn,Ze,Ze,Zn,Zn,Zn,Zn,Ze,Ze,Zn,Zn,Zn,Zn,Zn,Zn]⟩),(60,⟨.struct #[fld 9 0,fld 22 1],2,40,.agg #[Ze,Zn]⟩),(61,⟨.struct #[fld 9 0,fld 22 1],2,40,.agg #[Ze,Zn]⟩),(62,⟨.struct #[fld 9 0,fld 22 1,fld 3 2,fld 3 3],4,56,.agg #[Ze,Zn,Zk 0,(Zk 0)]⟩),(63,⟨.struct #[fld 9 0,fld 22 1,fld 3 2,fld 3 3],4,56,.agg #[Ze,Zn,Zk 0,(Zk 0)]⟩),(76,⟨.struct #[fld 9 0,fld 31 1],2,40,.agg #[Ze,Zn]⟩),(77,⟨.struct #[fld 9 0,fld 31 1],2,40,.agg #[Ze,Zn]⟩),(79,⟨.struct #[fld 77 0,fld 3 2],3,48,.agg #[Ze,Zn,(Zk 0)]⟩),(80,⟨.struct #[fld 77 0,fld 3 2],3,48,.agg #[Ze,Zn,(Zk 0)]⟩),(84,⟨.slice 86,1,24,Zn⟩),(85,⟨.struct #[fld 3 0,fld 3 1,fld 3 2,fld 3 3,fld 9 4,fld 84 5],6,72,.agg #[(Zk 0),Zk 0,Zk 0,Zk 0,Ze,Zn]⟩),(86,⟨.struct #[fld 3 0,fld 3 1,fld 3 2,fld 3 3,fld 9 4,fld 84 5],6,72,.agg #[(Zk 0),Zk 0,Zk 0,Zk 0,Ze,Zn]⟩),(89,⟨.int .i64,1,8,Zk 0⟩),(93,⟨.pointer 220,1,8,.pointer none⟩),(94,⟨.map 9 22,1,8,.map none⟩),(95,⟨.map 9 63,1,8,.map none⟩),(96,⟨.map 9 9,1,8,.map none⟩),(97,⟨.struct #[fld 28 0,fld 37 7,fld 93 18,fld 94 19,fld 95 20,fld 96 21,fld 22 22],23,448,.agg #[Ze,Zn,Zn,Zn,Zn,Zn,Zn,Ze,Ze,Zn,Zn,Zn,Ze,Ze,Zn,Zn,Zn,Zn,.pointer none,.map none,.map none,.map none,Zn]⟩),(98,⟨.struct #[fld 28 0,fld 37 7,fld 93 18,fld 94 19,fld 95 20,fld 96 21,fld 22 22],23,448,.agg #[Ze,Zn,Zn,Zn,Zn,Zn,Zn,Ze,Ze,Zn,Zn,Zn,Ze,Ze,Zn,Zn,Zn,Zn,.pointer none,.map none,.map none,.map none,Zn]⟩),(101,⟨.slice 3,1,24,Zn⟩),(111,⟨.struct #[fld 9 0,fld 9 1,fld 3 2,fld 31 3,fld 32 4],5,88,.agg #[Ze,Ze,Zk 0,Zn,Zn]⟩),(112,⟨.struct #[fld 9 0,fld 9 1,fld 3 2,fld 31 3,fld 32 4],5,88,.agg #[Ze,Ze,Zk 0,Zn,Zn]⟩),(113,⟨.struct #[fld 3 0,fld 22 1,fld 35 2,fld 9 8,fld 31 9,fld 112 10],15,288,.agg #[(Zk 0),Zn,Ze,Ze,Zn,Zn,Zn,Zn,Ze,Zn,Ze,Ze,Zk 0,Zn,Zn]⟩),(114,⟨.struct #[fld 3 0,fld 22 1,fld 35 2,fld 9 8,fld 31 9,fld 112 10],15,288,.agg #[(Zk 0),Zn,Ze,Ze,Zn,Zn,Zn,Zn,Ze,Zn,Ze,Ze,Zk 0,Zn,Zn]⟩),(122,⟨.struct #[fld 9 0,fld 9 1],2,32,.agg #[Ze,Ze]⟩),(123,⟨.struct #[fld 9 0,fld 9 1],2,32,.agg #[Ze,Ze]⟩),(143,⟨.struct #[fld 4 0],1,1,.agg #[(.bool false)]⟩),(144,⟨.struct #[fld 4 0],1,1,.agg #[(.bool false)]⟩),(158,⟨.func #[] #[] false,1,8,.nilFunc⟩),(183,⟨.map 9 4,1,8,.map none⟩),(200,⟨.int .u64,1,8,.int .u64 0⟩),(219,⟨.struct #[fld 96 0],1,8,.agg #[(.map none)]⟩),(220,⟨.struct #[fld 96 0],1,8,.agg #[(.map none)]⟩),(222,⟨.slice 225,1,24,Zn⟩),(223,⟨.array 3 222,3,72,.agg #[Zn,Zn,Zn]⟩),(224,⟨.struct #[fld 9 0,fld 9 1],2,32,.agg #[Ze,Ze]⟩),(225,⟨.struct #[fld 9 0,fld 9 1],2,32,.agg #[Ze,Ze]⟩),(229,⟨.slice 50,1,24,Zn⟩),(235,⟨.struct #[fld 9 0,fld 3 1,fld 3 2,fld 3 3,fld 3 4,fld 84 5],6,72,.agg #[Ze,Zk 0,Zk 0,Zk 0,Zk 0,Zn]⟩),(236,⟨.struct #[fld 9 0,fld 3 1,fld 3 2,fld 3 3,fld 3 4,fld 84 5],6,72,.agg #[Ze,Zk 0,Zk 0,Zk 0,Zk 0,Zn]⟩),(275,⟨.struct #[fld 3 0],1,8,.agg #[(Zk 0)]⟩),(276,⟨.struct #[fld 3 0],1,8,.agg #[(Zk 0)]⟩),(293,⟨.pointer 296,1,8,.pointer none⟩),(294,⟨.slice 5,1,24,Zn⟩),(295,⟨.struct #[fld 293 0,fld 294 1],2,32,.agg #[(.pointer none),Zn]⟩),(296,⟨.struct #[fld 293 0,fld 294 1],2,32,.agg #[(.pointer none),Zn]⟩),(330,⟨.pointer 5,1,8,.pointer none⟩),(336,⟨.struct #[fld 22 0,fld 33 1],2,48,.agg #[Zn,Zn]⟩),(337,⟨.struct #[fld 22 0,fld 33 1],2,48,.agg #[Zn,Zn]⟩)]
theorem tabL_ok:AllTy prog tabL:=allTy_of _ (by kernel_rfl) (by kernel_rfl)
def T:Tab prog:=⟨tabL,tabL_ok,by kernel_rfl⟩
end Go.Proofs.YtiligkgjcmokbaaGreatDoor
set_option maxRecDepth 20000
namespace Go.Proofs.YtiligkgjcmokbaaGreatDoor
variable {k i j c n g:Nat} {s:Bs} {fz:FZ} {A:Option Addr} {t:TypeId}
def Yb8 (s:Bs) (i:Nat):Nat:=((s[i]?).map UInt8.toNat).getD 0
theorem WC (h:k<s.size):∃ b:UInt8,s[k]?=some b/\Yb8 s k=b.toNat:=by
 refine ⟨s[k],getElem?_pos s k h,?_⟩;simp [Yb8,getElem?_pos s k h]
def DigP (n:Int):Prop:=48<=n/\n<=57
instance {n:Int}:Decidable (DigP n):=inferInstanceAs (Decidable (_/\_))
theorem Yjx {n:Int}:QFn prog 263 [.int .u8 n] fz (Zo (decide (DigP n))):=by
 refine qF Tryz.func263 Tryz.ntmps263 (fun w0=>?_);refine wC ?_ ?_<;>intro c1
 ·refine wC ?_ ?_<;>intro c2
  ·exact wR (h:=by exact (Yu ⟨c1,c2⟩))
  exact wR (h:=by exact Yl (fun h=>c2 h.2))
 exact wR (h:=by exact Yl (fun h=>c1 h.1))
def PreP (s p:Bs):Prop:=p.size<=s.size/\s.extract 0 p.size=p
instance {s p:Bs}:Decidable (PreP s p):=inferInstanceAs (Decidable (_/\_))
def Ya6 (s p:Bs):Bs:=if PreP s p then s.extract p.size s.size else s
theorem Yb7 (h:j<=s.size):(s.extract i j).size=j - i:=by
 simp [ByteArray.size_extract,Nat.min_eq_left h]
theorem YnP {p:Bs} (h:Short s):Short (Ya6 s p):=by
 unfold Ya6 Short at*;split
 ·rw [Yb7 (Zs _)];omega
 exact h
theorem Yer {p:Bs} (_hs:Short s) (hp:Short p):QFn prog 297 [Zy s,Zy p] fz (Zo (decide (PreP s p))):=by
 unfold Short at hp;refine qF Tryz.func297 Tryz.ntmps297 (fun w0=>?_);refine wC ?_ ?_<;>intro c1
 ·refine wG ?_;refine q_str_to T Zz Zz Zz Zz Zi Zi ?_;refine wC ?_ ?_<;>intro c2
  ·exact wR (h:=by exact (Yu ⟨by omega,by simpa using c2⟩))
  exact wR (h:=by exact Yl (fun h=>c2 (by simpa using h.2)))
 exact wR (h:=by exact Yl (fun h=>by have:=h.1;omega))
theorem YiL {p:Bs} (hs:Short s) (hp:Short p):QFn prog 294 [Zy s,Zy p] fz (Zy (Ya6 s p)):=by
 refine qF Tryz.func294 Tryz.ntmps294 (fun w0=>?_);refine wb (Yer hs hp) (fun f1=>?_) (fun f1=>?_)
 ·have hc:=Zt f1;have:=hc.1;refine wG ?_;refine Yfo ?_ (h1:=by omega);exact wR (h:=by rw [Ya6,if_pos hc];rfl)
 have hc:=Zf f1;exact wR (h:=by rw [Ya6,if_neg hc])
theorem Yj3 {p:Bs} (hs:Short s) (hp:Short p):QFn prog 265 [Zy s,Zy p] fz (Zy (Ya6 s p)):=by
 refine qF Tryz.func265 Tryz.ntmps265 (fun w0=>?_);refine wc (YiL hs hp) ?_;exact wR (h:=rfl)
def YaB:Bs:=⟨#[45]⟩
def Ya5:Bs:=⟨#[]⟩
def NumP (s:Bs):Prop:=(∀ i,i<(Ya6 s YaB).size->DigP (Yb8 (Ya6 s YaB) i))/\Ya6 s YaB≠Ya5
open Classical in
theorem YkC (hs:Short s):QFn prog 212 [Zy s] fz (Zo (decide (NumP s))):=by
 refine qF Tryz.func212 Tryz.ntmps212 (fun w0=>?_);refine wG ?_;refine YF (Yj3 (p:=YaB) hs (by unfold Short YaB;decide)) ?_;have hz:(Ya6 s YaB).size<=9223372036854775807:=YnP hs;refine zW ?_;refine Yav ((Ya6 s YaB).size) (fun k=>[(8,Zk k),(7,Zk (Ya6 s YaB).size),(0,Zy (Ya6 s YaB))]) [] (fun k=>(∀ i,i<k->DigP (Yb8 (Ya6 s YaB) i))) (fun i hi=>absurd hi Zi) ?_;intro k hk hh;refine wC (fun hlt=>?_) (fun hge=>?_)
 ·refine zW ?_;obtain ⟨b,hb,hb2⟩:=WC (s:=Ya6 s YaB) (k:=k) Zi
  ((refine zG ?_);refine Xq ?_ (hb:=by rw [Int.toNat_natCast];exact hb));refine wb (Yjx (n:=b.toNat)) (fun f1=>?_) (fun f1=>?_)
  ·exact wM (h:=by exact Xs hh (by rw [hb2];exact Zt f1))
  exact wR (h:=by exact Yl (fun h=>Zf f1 (by rw [<- hb2];exact h.1 k Zi)))
 refine wC ?_ ?_<;>intro c1
 ·exact wR (h:=by exact (Yu ⟨fun i hi=>hh i Zi,c1⟩))
 exact wR (h:=by exact Yl (fun h=>h.2 c1))
open Classical in
theorem Ygy {l:List Bs} {x:Bs} (h1:Sl strL fz A n c l):
 QFn prog 178 [Zc A n c,Zy x] fz (Zk (W6 (fun y=>x=y) l 0)):=by
 refine qF Tryz.func178 Tryz.ntmps178 (fun w0=>?_);have l1:=h1.len;have hm:=h1.short;refine zW ?_;refine Yav n (fun k=>[(8,Zk k),(7,Zk n),(0,Zc A n c),(1,Zy x)]) [] (fun k=>(∀ i,i<k->∀ y,l[i]?=some y->¬x=y)) (fun i hi=>absurd hi Zi) ?_;intro k hk hh;refine wC (fun hlt=>?_) (fun hge=>?_)
 ·refine zW ?_;obtain ⟨y,hy⟩:=Ye (l:=l) (k:=k) Zi;refine zI h1 hy (fun a ha=>?_);refine zH ha (fun iy=>?_);refine wC ?_ ?_<;>intro c1
  ·exact wR (h:=by rw [YaG hh hy c1,Int.zero_add])
  exact wM (h:=by exact YL hh hy c1)
 exact wR (h:=by rw [WL (Xu hh Zi)])
open Classical in
theorem Yew {l:List Bs} {x:Bs} (h1:Sl strL fz A n c l):
 QFn prog 119 [Zc A n c,Zy x] fz (Zo (decide (x∈l))):=by
 refine qF Tryz.func119 Tryz.ntmps119 (fun w0=>?_);refine wc (Ygy h1) ?_;refine zC ?_ ?_<;>intro c1
 ·exact wR (h:=by exact Yu (by obtain ⟨y,h,e⟩:=(Xt (Int.le_refl 0)).1 c1;rw [e];exact h))
 exact wR (h:=by exact Yl (fun h=>c1 ((Xt (Int.le_refl 0)).2 ⟨x,h,rfl⟩)))
theorem sl_strs {f:Nat × Nat} {l:List Bs} (h:fz g=some (.cells (l.map Value.string).toArray t f)) (hs:∀ s∈l,Short s) (hn:l.length<=140737488355328):Sl strL fz (some ⟨g,0,none⟩) l.length l.length l:=
 ⟨rfl,Zs _,by omega,hn,.inr ⟨_,rfl,fun i d hd=>⟨[Zy d],⟨rfl,hs d (Zm hd)⟩,fun j v hv=>by
  have hadd:((⟨g,0,none⟩:Addr).add (i*strL.size)).add j=⟨g,i+j,none⟩:=by
   show ((⟨g,0,none⟩:Addr).add (i*1)).add j=_;unfold Addr.add;split<;>split<;>simp_all
  rw [hadd];cases j with
  | zero=>simp at hv;subst hv;simp [YcG,h,hd]
  | succ j=>simp at hv⟩⟩⟩
def YbU:List Bs:=[⟨#[97,110,100]⟩,⟨#[111,114]⟩,⟨#[110,111,116]⟩,⟨#[105,109,112,108,121]⟩,⟨#[102,111,114,97,108,108]⟩,⟨#[101,120,105,115,116,115]⟩,⟨#[119,104,101,110]⟩,⟨#[97,115,115,105,103,110]⟩,⟨#[105,110,99,114,101,97,115,101]⟩,⟨#[100,101,99,114,101,97,115,101]⟩,⟨#[111,98,106,101,99,116]⟩]
theorem YnX:GFn prog 205 [] fz [] (fun v fz' H'=>H'=[]/\∃ A,v=Zc A 11 11/\Sl strL fz' A 11 11 YbU):=by
 refine zF Tryz.func205 Tryz.ntmps205 (fun w0=>?_);refine zW ?_;refine Ya (Yb (cs:=YbU.map Value.string) (fun g=>?_));refine zW ?_;exact YnW rfl rfl (fun fz' hle hf=>⟨rfl,_,rfl,sl_strs (l:=YbU) (hf _ (.head _)) (by intro s hs;simp only [YbU,List.mem_cons,List.not_mem_nil,or_false] at hs;rcases hs with rfl | rfl | rfl | rfl | rfl | rfl | rfl | rfl | rfl | rfl | rfl<;>(unfold Short;decide)) Zh⟩)
def LetP (n:Int):Prop:=97<=n/\n<=122
def Ycb (s:Bs) (i:Nat):Prop:=LetP (Yb8 s i)\/(i≠0/\(DigP (Yb8 s i)\/(Yb8 s i:Int)=45\/(Yb8 s i:Int)=95))
def Xc (s:Bs):Prop:=(∀ i,i<s.size->Ycb s i)/\s≠Ya5/\s.size<=32/\s ∉ YbU
open Classical in
theorem WN (hs:Short s):QFn prog 140 [Zy s] fz (Zo (decide (Xc s))):=by
 have hz:s.size<=9223372036854775807:=hs;refine qF Tryz.func140 Tryz.ntmps140 (fun w0=>?_);refine zW ?_;refine Yav (s.size) (fun k=>[(8,Zk k),(7,Zk s.size),(0,Zy s)]) [] (fun k=>(∀ i,i<k->Ycb s i)) (fun i hi=>absurd hi Zi) ?_;intro k hk hh;refine wC (fun hlt=>?_) (fun hge=>?_)
 ·refine zW ?_;obtain ⟨b,hb,hb2⟩:=WC (s:=s) (k:=k) Zi;have bad:¬Ycb s k->¬Xc s:=fun h hc=>h (hc.1 k Zi)
  ((refine zG ?_);refine Xq ?_ (hb:=by rw [Int.toNat_natCast];exact hb));refine wC ?_ ?_<;>intro c1
  ·refine wC ?_ ?_<;>intro c2
   ·exact wM (h:=by exact Xs hh (by rw [Ycb,hb2];exact .inl ⟨c1,c2⟩))
   have nl:¬LetP b.toNat:=fun h=>c2 h.2
   refine wC ?_ ?_<;>intro c3
   ·exact wR (h:=by exact Yl (bad (by rw [Ycb,hb2];intro h;rcases h with h | h;exact nl h;omega)))
   refine wC ?_ ?_<;>intro c4
   ·refine wC ?_ ?_<;>intro c5
    ·refine wC ?_ ?_<;>intro c6
     ·exact wR (h:=by exact Yl (bad (by rw [Ycb,hb2];unfold DigP;intro h;rcases h with h | ⟨_,h | h | h⟩;exact nl h;omega;omega;omega)))
     exact wM (h:=by exact Xs hh (by rw [Ycb,hb2];right;refine ⟨by omega,?_⟩;omega))
    exact wM (h:=by exact Xs hh (by rw [Ycb,hb2];right;refine ⟨by omega,?_⟩;omega))
   refine wC ?_ ?_<;>intro c7
   ·refine wC ?_ ?_<;>intro c5
    ·refine wC ?_ ?_<;>intro c6
     ·exact wR (h:=by exact Yl (bad (by rw [Ycb,hb2];unfold DigP;intro h;rcases h with h | ⟨_,h | h | h⟩;exact nl h;omega;omega;omega)))
     exact wM (h:=by exact Xs hh (by rw [Ycb,hb2];right;refine ⟨by omega,?_⟩;omega))
    exact wM (h:=by exact Xs hh (by rw [Ycb,hb2];right;refine ⟨by omega,?_⟩;omega))
   exact wM (h:=by exact Xs hh (by rw [Ycb,hb2];right;refine ⟨by omega,?_⟩;unfold DigP;omega))
  have nl:¬LetP b.toNat:=fun h=>c1 h.1
  refine wC ?_ ?_<;>intro c3
  ·exact wR (h:=by exact Yl (bad (by rw [Ycb,hb2];intro h;rcases h with h | h;exact nl h;omega)))
  refine wC ?_ ?_<;>intro c4
  ·refine wC ?_ ?_<;>intro c5
   ·refine wC ?_ ?_<;>intro c6
    ·exact wR (h:=by exact Yl (bad (by rw [Ycb,hb2];unfold DigP;intro h;rcases h with h | ⟨_,h | h | h⟩;exact nl h;omega;omega;omega)))
    exact wM (h:=by exact Xs hh (by rw [Ycb,hb2];right;refine ⟨by omega,?_⟩;omega))
   exact wM (h:=by exact Xs hh (by rw [Ycb,hb2];right;refine ⟨by omega,?_⟩;omega))
  refine wC ?_ ?_<;>intro c7
  ·refine wC ?_ ?_<;>intro c5
   ·refine wC ?_ ?_<;>intro c6
    ·exact wR (h:=by exact Yl (bad (by rw [Ycb,hb2];unfold DigP;intro h;rcases h with h | ⟨_,h | h | h⟩;exact nl h;omega;omega;omega)))
    exact wM (h:=by exact Xs hh (by rw [Ycb,hb2];right;refine ⟨by omega,?_⟩;omega))
   exact wM (h:=by exact Xs hh (by rw [Ycb,hb2];right;refine ⟨by omega,?_⟩;omega))
  exact wM (h:=by exact Xs hh (by rw [Ycb,hb2];right;refine ⟨by omega,?_⟩;unfold DigP;omega))
 refine wC ?_ ?_<;>intro c1
 ·refine wC ?_ ?_<;>intro c2
  ·refine zW ?_;refine Yab (Ym [] [] Zz YnX (fun v fz2 H2 hle2 hR=>?_));obtain ⟨rfl,A,rfl,hsl⟩:=hR;refine wb (Yew (x:=s) hsl) (fun f1=>?_) (fun f1=>?_)
   ·exact wR (h:=by exact Yl (fun h=>h.2.2.2 (Zt f1)))
   exact wR (h:=by exact (Yu ⟨fun i hi=>hh i Zi,c1,by omega,Zf f1⟩))
  exact wR (h:=by exact Yl (fun h=>by have:=h.2.2.1;omega))
 exact wR (h:=by exact Yl (fun h=>h.2.1 c1))
def VarP (s:Bs):Prop:=1<s.size/\s.size<=32/\(Yb8 s 0:Int)=63/\Xc (s.extract 1 s.size)
def YfW (s:Bs):Prop:=Xc s\/VarP s
def WK:Bs:=⟨#[111,98,106,101,99,116]⟩
def Yei (s:Bs):Prop:=Xc s\/s=WK
open Classical in
theorem Ycu (hs:Short s):QFn prog 141 [Zy s] fz (Zo (decide (VarP s))):=by
 have hz:s.size<=9223372036854775807:=hs;refine qF Tryz.func141 Tryz.ntmps141 (fun w0=>?_);refine wC ?_ ?_<;>intro c1
 ·refine wC ?_ ?_<;>intro c2
  ·refine zW ?_;obtain ⟨b,hb,hb2⟩:=WC (s:=s) (k:=0) Zi;refine zG ?_;refine Xq ?_ (hb:=hb);refine wC ?_ ?_<;>intro c3
   ·refine wG ?_;refine Yfo ?_ (h1:=by omega);refine wG ?_;refine WJ (WN (s:=s.extract 1 s.size) (by unfold Short;rw [Yb7 (Zs _)];omega)) (fun f1=>?_) (fun f1=>?_)
    ·exact wR (h:=by exact (Yu ⟨by omega,by omega,by rw [hb2];exact c3,Zt f1⟩))
    exact wR (h:=by exact Yl (fun h=>Zf f1 h.2.2.2))
   exact wR (h:=by exact Yl (fun h=>c3 (by rw [<- hb2];exact h.2.2.1)))
  exact wR (h:=by exact Yl (fun h=>by have:=h.2.1;omega))
 exact wR (h:=by exact Yl (fun h=>by have:=h.1;omega))
open Classical in
theorem YoP (hs:Short s):QFn prog 268 [Zy s] fz (Zo (decide (YfW s))):=by
 refine qF Tryz.func268 Tryz.ntmps268 (fun w0=>?_);refine wb (WN hs) (fun f1=>?_) (fun f1=>?_)
 ·exact wR (h:=by exact Yu (.inl (Zt f1)))
 refine wb (Ycu hs) (fun f2=>?_) (fun f2=>?_)
 ·exact wR (h:=by exact Yu (.inr (Zt f2)))
 exact wR (h:=by exact Yl (fun h=>h.elim (Zf f1) (Zf f2)))
open Classical in
theorem Yqt (hs:Short s):QFn prog 291 [Zy s] fz (Zo (decide (YfW s))):=by
 refine qF Tryz.func291 Tryz.ntmps291 (fun w0=>?_);refine wb (WN hs) (fun f1=>?_) (fun f1=>?_)
 ·exact wR (h:=by exact Yu (.inl (Zt f1)))
 refine wb (Ycu hs) (fun f2=>?_) (fun f2=>?_)
 ·exact wR (h:=by exact Yu (.inr (Zt f2)))
 exact wR (h:=by exact Yl (fun h=>h.elim (Zf f1) (Zf f2)))
open Classical in
theorem YoG (hs:Short s):QFn prog 240 [Zy s] fz (Zo (decide (Yei s))):=by
 refine qF Tryz.func240 Tryz.ntmps240 (fun w0=>?_);refine wb (WN hs) (fun f1=>?_) (fun f1=>?_)
 ·exact wR (h:=by exact Yu (.inl (Zt f1)))
 refine wC ?_ ?_<;>intro c2
 ·exact wR (h:=by exact Yu (.inr c2))
 exact wR (h:=by exact Yl (fun h=>h.elim (Zf f1) c2))
end Go.Proofs.YtiligkgjcmokbaaGreatDoor
namespace Go.Lx
end Go.Lx
namespace Go.Proofs.YtiligkgjcmokbaaGreatDoor
end Go.Proofs.YtiligkgjcmokbaaGreatDoor
namespace Go.Lx
open Go.RowKit
def WM:List (Bs × Value)->Nat->List MapEntry
 | [],_=>[]
 | (k,v)::r,i=>⟨.string k,v,i⟩::WM r (i+1)
def mapS (m:List (Bs × Value)):Obj:=.map (WM m 0).toArray m.length
theorem Yhp:∀ (m:List (Bs × Value)) (i:Nat),(WM m i).length=m.length
 | [],_=>rfl
 | (k,v)::r,i=>by simp [WM,Yhp r]
theorem Yhq:∀ (m:List (Bs × Value)) (i j:Nat),(WM m i)[j]?=(m[j]?).map fun p=>⟨.string p.1,p.2,i+j⟩
 | [],_,_=>by simp [WM]
 | (k,v)::r,i,0=>by simp [WM]
 | (k,v)::r,i,j+1=>by
  simp only [WM,List.getElem?_cons_succ,Yhq r (i+1) j];rw [show i+1+j=i+(j+1) from by omega]
theorem Yeg:∀ (m:List (Bs × Value)) (k:Bs) (v:Value) (i:Nat),WM (m++ [(k,v)]) i=WM m i++ [⟨.string k,v,i+m.length⟩]
 | [],k,v,i=>by simp [WM]
 | (a,b)::r,k,v,i=>by
  simp only [List.cons_append,WM,Yeg r k v (i+1),List.length_cons];rw [show i+1+r.length=i+(r.length+1) from by omega]
def fndS:List (Bs × Value)->Bs->Nat->Option (Nat × Value)
 | [],_,_=>none
 | (k,v)::r,x,i=>if x=k then some (i,v) else fndS r x (i+1)
theorem Yhh:∀ (m:List (Bs × Value)) (x:Bs) (i j:Nat) (v:Value),fndS m x i=some (j,v)->i<=j/\m[j - i]?=some (x,v)
 | [],_,_,_,_,h=>by cases h
 | (k,u)::r,x,i,j,v,h=>by
  unfold fndS at h;split at h
  ·rename_i hk;injection h with h;injection h with h1 h2;subst h1 h2 hk;simp
  obtain ⟨h1,h2⟩:=Yhh r x (i+1) j v h;exact ⟨by omega,by rw [show j - i=(j - (i+1))+1 from by omega];simpa using h2⟩
theorem bytes_beq (a b:Bs):(a==b)=decide (a=b):=by
 have h1:(a==b)=(a.data==b.data):=rfl;rw [h1,Bool.eq_iff_iff,beq_iff_eq,decide_eq_true_iff];exact ⟨fun h=>by cases a;cases b;simp at h;rw [h],fun h=>by rw [h]⟩
theorem Yhk:∀ (m:List (Bs × Value)) (x:Bs) (i j:Nat),Instr.findNow .string (.string x) (WM m j) i=some (fndS m x i)
 | [],_,_,_=>rfl
 | (k,v)::r,x,i,j=>by
  simp only [WM,Instr.findNow,Instr.sameNow,fndS];by_cases h:x=k
  ·subst h;simp [bytes_beq]
  have:(x==k)=false:=by rw [bytes_beq];simpa using h
  simp only [this,if_neg h];exact Yhk r x (i+1) (j+1)
def updS (m:List (Bs × Value)) (x:Bs) (v:Value):List (Bs × Value):=match fndS m x 0 with
 | some (i,_)=>m.set i (x,v)
 | none=>m++ [(x,v)]
theorem Yho:∀ (m:List (Bs × Value)) (i j:Nat) (x:Bs) (v:Value),WM (m.set i (x,v)) j=(WM m j).modify i fun e=>{e with key:=.string x,val:=v}
 | [],i,j,x,v=>by simp [WM]
 | (a,b)::r,0,j,x,v=>by simp [WM]
 | (a,b)::r,i+1,j,x,v=>by simp [WM,Yho r i (j+1) x v]
def valS (m:List (Bs × Value)) (x:Bs):Option Value:=(fndS m x 0).map (·.2)
theorem Yip:∀ (m:List (Bs × Value)) (x:Bs) (i j:Nat),(fndS m x i).map (·.2)=(fndS m x j).map (·.2)
 | [],_,_,_=>rfl
 | (k,v)::r,x,i,j=>by
  unfold fndS;split
  ·rfl
  exact Yip r x (i+1) (j+1)
theorem valS_nil (x:Bs):valS [] x=none:=rfl
theorem Ybj (k:Bs) (v:Value) (r:List (Bs × Value)) (x:Bs):valS ((k,v)::r) x=if x=k then some v else valS r x:=by
 unfold valS;rw [fndS];split
 ·rfl
 exact Yip r x 1 0
theorem Ylu (m:List (Bs × Value)) (k:Bs) (v:Value) (x:Bs) (h:valS m k=none):valS (m++ [(k,v)]) x=if x=k then some v else valS m x:=by
 induction m with
 | nil=>rw [List.nil_append,Ybj]
 | cons p r ih=>
  obtain ⟨a,u⟩:=p;rw [Ybj] at h;split at h
  ·cases h
  rename_i hk;rw [List.cons_append,Ybj,Ybj,ih h];split
  ·rename_i hx;rw [if_neg (fun h0=>hk (by rw [<- h0,hx]))]
  rfl
theorem valS_set (m:List (Bs × Value)) (i:Nat) (k:Bs) (v u:Value) (x:Bs) (h:fndS m k 0=some (i,u)):valS (m.set i (k,v)) x=if x=k then some v else valS m x:=by
 have key:∀ (m:List (Bs × Value)) (i j:Nat),fndS m k j=some (i+j,u)->valS (m.set i (k,v)) x=if x=k then some v else valS m x:=by
  intro m
  induction m with
  | nil=>intro i j h;cases h
  | cons p r ih=>
   obtain ⟨a,w⟩:=p;intro i j h;unfold fndS at h;split at h
   ·rename_i hk;injection h with h;injection h with h1 h2
    have:i=0:=by omega
    subst this hk;rw [List.set_cons_zero,Ybj,Ybj];split<;>rfl
   rename_i hk;have h3:=Yhh r k (j+1) (i+j) u h;obtain ⟨i',rfl⟩:∃ i',i=i'+1:=⟨i - 1,by omega⟩;rw [List.set_cons_succ,Ybj,Ybj,ih i' (j+1) (by rw [h];congr 2;omega)];split
   ·rename_i hx;rw [if_neg (fun h0=>hk (by rw [<- h0,hx]))]
   rfl
 exact key m i 0 (by simpa using h)
theorem Ygm (m:List (Bs × Value)) (k:Bs) (v:Value) (x:Bs):valS (updS m k v) x=if x=k then some v else valS m x:=by
 unfold updS;cases h:fndS m k 0 with
 | none=>exact Ylu m k v x (by unfold valS;rw [h];rfl)
 | some p=>obtain ⟨i,u⟩:=p;exact valS_set m i k v u x h
theorem Ymb (m:List (Bs × Value)) (x:Bs) (z:Value):(fndS m x 0).elim z (·.2)=(valS m x).getD z:=by unfold valS;cases fndS m x 0<;>rfl
theorem Yg7 (m:List (Bs × Value)) (x:Bs):(fndS m x 0).isSome=(valS m x).isSome:=by unfold valS;cases fndS m x 0<;>rfl
section
variable {P:Program} {cx:Cx} {r:Operand->Option Value} {fz:FZ} {H:HP} {dst:Option Nat} {ty:TypeId} {pos:String} {af:Array Edge} {gd:Option (Nat × Bool)} {V:Value->Prop}
variable {g:Nat} {m:List (Bs × Value)} {w:World}
theorem YcS (h:w.heap[g]?=some (mapS m)):(getObj g).run P w=.ok (mapS m) w:=by
 simp [getObj,Sem.run,h,mapS]
theorem Ybs (T:Tab P) {k:TypeId} {K:Ty} (hK:T.inf k=some K) (hd:K.desc=.string) (b:Bool) (x:Bs) (w:World):(Instr.checkKey b 10000 k (.string x)).run P w=.ok () w:=by
 have hu:=run_underlying (und_plain T hK hd rfl) w;have:∀ n:Nat,(Instr.checkKey b (n+1) k (.string x)).run P w=.ok () w:=fun n=>by
  unfold Instr.checkKey;simp only [Sem.run_bind,hu,Result.andThen_ok,Sem.run_pure]
 exact this 9999
theorem YbT (T:Tab P) {k:TypeId} {K:Ty} (hK:T.inf k=some K) (hd:K.desc=.string) (x:Bs) (m:List (Bs × Value)) (w:World):(Instr.findKey k (.string x) (WM m 0)).run P w=.ok (fndS m x 0) w:=by
 have hu:=run_underlying (und_plain T hK hd rfl) w;simp only [Instr.findKey,Sem.run_bind,hu,Result.andThen_ok,Yhk,Sem.run_pure]
variable {X:Ty} {e t:TypeId}
theorem YgL (T:Tab P) {k:TypeId} {K E:Ty} {x:Bs} (hT:T.inf t=some X) (hd:X.desc=.map k e) (hK:T.inf k=some K) (hkd:K.desc=.string) (hE:T.inf e=some E)
 (hg:w.heap[g]?=some (mapS m)):(Instr.lookup t (.map (some g)) (.string x) false).run P w=.ok ((fndS m x 0).elim E.zero (·.2)) w:=by
 have hu:=run_underlying (und_plain T hT hd rfl) w;have hz:=YcR T hE w;simp only [Instr.lookup,Sem.run_bind,hu,Result.andThen_ok,YcS hg,mapS,Sem.run_pure,Ybs T hK hkd,YbT T hK hkd];cases hf:fndS m x 0 with
 | none=>simp [hz]
 | some p=>simp
variable {y:Operand}
theorem YiW (T:Tab P) {k:TypeId} {z:Operand} {K E:Ty} {x:Bs} (i:Nat) (hT:T.inf t=some X) (hd:X.desc=.map k e) (hK:T.inf k=some K) (hkd:K.desc=.string) (hE:T.inf e=some E)
 (hy:r y=some (.map (some g))) (hz:r z=some (.string x)) (hH:H[i]?=some (g,mapS m)) (h:V ((fndS m x 0).elim E.zero (·.2))):DoesQ P cx ⟨dst,.lookup t y z false,ty,pos,af,gd⟩ r fz H V:=
 DoesQ.of h fun ρ w hr hi=>by
  have hg:=(hi.hp.own _ (Zm hH)).1;simp only [execOp,hr _ _ hy,hr _ _ hz,Sem.run_bind,YgL T hT hd hK hkd hE hg,Result.andThen_ok,Sem.run_pure];exact ⟨rfl,Fr.refl _ _⟩
theorem Ykm (T:Tab P) {k:TypeId} {z:Operand} {K E:Ty} {x:Bs} (hT:T.inf t=some X) (hd:X.desc=.map k e) (hK:T.inf k=some K) (hkd:K.desc=.string) (hE:T.inf e=some E)
 (hy:r y=some (.map (some g))) (hz:r z=some (.string x)) (hH:fz g=some (mapS m)) (h:V ((fndS m x 0).elim E.zero (·.2))):DoesQ P cx ⟨dst,.lookup t y z false,ty,pos,af,gd⟩ r fz H V:=
 DoesQ.of h fun ρ w hr hi=>by
  have hg:=hi.hp.keep _ _ hH;simp only [execOp,hr _ _ hy,hr _ _ hz,Sem.run_bind,YgL T hT hd hK hkd hE hg,Result.andThen_ok,Sem.run_pure];exact ⟨rfl,Fr.refl _ _⟩
theorem YeK (T:Tab P) {k:TypeId} {K E:Ty} {x:Bs} (hT:T.inf t=some X) (hd:X.desc=.map k e) (hK:T.inf k=some K) (hkd:K.desc=.string) (hE:T.inf e=some E)
 (hg:w.heap[g]?=some (mapS m)):(Instr.lookup t (.map (some g)) (.string x) true).run P w=.ok (.tuple #[(fndS m x 0).elim E.zero (·.2),.bool (fndS m x 0).isSome]) w:=by
 have hu:=run_underlying (und_plain T hT hd rfl) w;have hz:=YcR T hE w;simp only [Instr.lookup,Sem.run_bind,hu,Result.andThen_ok,YcS hg,mapS,Sem.run_pure,Ybs T hK hkd,YbT T hK hkd];cases hf:fndS m x 0 with
 | none=>simp [hz]
 | some p=>simp
theorem YgP (T:Tab P) {k:TypeId} {z:Operand} {K E:Ty} {x:Bs} (i:Nat) (hT:T.inf t=some X) (hd:X.desc=.map k e) (hK:T.inf k=some K) (hkd:K.desc=.string) (hE:T.inf e=some E)
 (hy:r y=some (.map (some g))) (hz:r z=some (.string x)) (hH:H[i]?=some (g,mapS m)) (h:V (.tuple #[(fndS m x 0).elim E.zero (·.2),.bool (fndS m x 0).isSome])):DoesQ P cx ⟨dst,.lookup t y z true,ty,pos,af,gd⟩ r fz H V:=
 DoesQ.of h fun ρ w hr hi=>by
  have hg:=(hi.hp.own _ (Zm hH)).1;simp only [execOp,hr _ _ hy,hr _ _ hz,Sem.run_bind,YeK T hT hd hK hkd hE hg,Result.andThen_ok,Sem.run_pure];exact ⟨rfl,Fr.refl _ _⟩
theorem YhQ (T:Tab P) {k:TypeId} {z:Operand} {K E:Ty} {x:Bs} (hT:T.inf t=some X) (hd:X.desc=.map k e) (hK:T.inf k=some K) (hkd:K.desc=.string) (hE:T.inf e=some E)
 (hy:r y=some (.map (some g))) (hz:r z=some (.string x)) (hH:fz g=some (mapS m)) (h:V (.tuple #[(fndS m x 0).elim E.zero (·.2),.bool (fndS m x 0).isSome])):DoesQ P cx ⟨dst,.lookup t y z true,ty,pos,af,gd⟩ r fz H V:=
 DoesQ.of h fun ρ w hr hi=>by
  have hg:=hi.hp.keep _ _ hH;simp only [execOp,hr _ _ hy,hr _ _ hz,Sem.run_bind,YeK T hT hd hK hkd hE hg,Result.andThen_ok,Sem.run_pure];exact ⟨rfl,Fr.refl _ _⟩
theorem Ybe {t k e:TypeId} {y z:Operand} {X K E:Ty} {g:Nat} {m:List (Bs × Value)} {x:Bs} (i:Nat)
 {v:Value} (hv:(fndS m x 0).elim E.zero (·.2)=v) (h:V v) (T:Tab P:=by exact T) (hT:T.inf t=some X:=by exact rfl) (hd:X.desc=.map k e:=by exact rfl) (hK:T.inf k=some K:=by exact rfl) (hkd:K.desc=.string:=by exact rfl) (hE:T.inf e=some E:=by exact rfl) (hy:r y=some (.map (some g)):=by exact rfl) (hz:r z=some (.string x):=by exact rfl) (hH:H[i]?=some (g,mapS m):=by exact rfl):DoesQ P cx ⟨dst,.lookup t y z false,ty,pos,af,gd⟩ r fz H V:=
  YiW T i hT hd hK hkd hE hy hz hH (by rw [hv];exact h)
theorem YbE {t k e:TypeId} {y z:Operand} {X K E:Ty} {g:Nat} {m:List (Bs × Value)} {x:Bs}
 (hH:fz g=some (mapS m)) {v:Value} (h:V v) (T:Tab P:=by exact T) (hT:T.inf t=some X:=by exact rfl) (hd:X.desc=.map k e:=by exact rfl) (hK:T.inf k=some K:=by exact rfl) (hkd:K.desc=.string:=by exact rfl) (hE:T.inf e=some E:=by exact rfl) (hy:r y=some (.map (some g)):=by exact rfl) (hz:r z=some (.string x):=by exact rfl) (hv:(fndS m x 0).elim E.zero (·.2)=v):DoesQ P cx ⟨dst,.lookup t y z false,ty,pos,af,gd⟩ r fz H V:=
  Ykm T hT hd hK hkd hE hy hz hH (by rw [hv];exact h)
theorem Ygc {t k e:TypeId} {y z:Operand} {X K E:Ty} {g:Nat} {m:List (Bs × Value)} {x:Bs} (i:Nat)
 {v:Value} {b:Bool} (hb:(fndS m x 0).isSome=b) (h:V (.tuple #[v,.bool b])) (T:Tab P:=by exact T) (hT:T.inf t=some X:=by exact rfl) (hd:X.desc=.map k e:=by exact rfl) (hK:T.inf k=some K:=by exact rfl) (hkd:K.desc=.string:=by exact rfl) (hE:T.inf e=some E:=by exact rfl) (hy:r y=some (.map (some g)):=by exact rfl) (hz:r z=some (.string x):=by exact rfl) (hH:H[i]?=some (g,mapS m):=by exact rfl) (hv:(fndS m x 0).elim E.zero (·.2)=v):DoesQ P cx ⟨dst,.lookup t y z true,ty,pos,af,gd⟩ r fz H V:=
  YgP T i hT hd hK hkd hE hy hz hH (by rw [hv,hb];exact h)
theorem WX {t k e:TypeId} {y z:Operand} {X K E:Ty} {g:Nat} {m:List (Bs × Value)} {x:Bs}
 (hH:fz g=some (mapS m)) {v:Value} {b:Bool} (h:V (.tuple #[v,.bool b])) (T:Tab P:=by exact T) (hT:T.inf t=some X:=by exact rfl) (hd:X.desc=.map k e:=by exact rfl) (hK:T.inf k=some K:=by exact rfl) (hkd:K.desc=.string:=by exact rfl) (hE:T.inf e=some E:=by exact rfl) (hy:r y=some (.map (some g)):=by exact rfl) (hz:r z=some (.string x):=by exact rfl) (hv:(fndS m x 0).elim E.zero (·.2)=v) (hb:(fndS m x 0).isSome=b):DoesQ P cx ⟨dst,.lookup t y z true,ty,pos,af,gd⟩ r fz H V:=
  YhQ T hT hd hK hkd hE hy hz hH (by rw [hv,hb];exact h)
theorem Wz {t k e:TypeId} {y z u:Operand} {X K:Ty} {g:Nat} {m:List (Bs × Value)} {x:Bs} {v:Value} {pre post:HP} {KK:Value->FZ->HP->Prop}
 (hp:H.Perm (pre++(g,mapS m)::post)) (h:KK undef fz (pre++(g,mapS (updS m x v))::post)) (T:Tab P:=by exact T) (hT:T.inf t=some X:=by exact rfl) (hd:X.desc=.map k e:=by exact rfl) (hK:T.inf k=some K:=by exact rfl) (hkd:K.desc=.string:=by exact rfl) (hy:r y=some (.map (some g)):=by exact rfl) (hz:r z=some (.string x):=by exact rfl) (hu:r u=some v:=by exact rfl):Does P cx ⟨dst,.mapUpdate t y z u,ty,pos,af,gd⟩ r fz H KK:=
  Does.of fun ρ w hr hi=>by
   have hi':=hi.perm hp.symm;have hg:=(hi'.hp.own (g,mapS m) (by simp)).1;have hund:=run_underlying (und_plain T hT hd rfl) w;have hset:∀ o',(Go.setObj g o').run P w=.ok () {w with heap:=w.heap.setIfInBounds g o'}:=fun o'=>by
    simp [Go.setObj,Sem.run,hg,mapS]
   have:(execOp ρ ⟨dst,.mapUpdate t y z u,ty,pos,af,gd⟩).run P w=.ok .skip {w with heap:=w.heap.setIfInBounds g (mapS (updS m x v))}:=by
    simp only [execOp,hr _ _ hy,hr _ _ hz,hr _ _ hu,Sem.run_bind,Instr.mapUpdate,hund,Result.andThen_ok,YcS hg,mapS,Ybs T hK hkd,YbT T hK hkd];cases hf:fndS m x 0 with
    | none=>
     have hupd:updS m x v=m++ [(x,v)]:=by simp [updS,hf]
     simp only [hset,hupd,Yeg,Nat.zero_add,Result.andThen_ok,Sem.run_pure,List.length_append,List.length_cons,List.length_nil,List.push_toArray]
    | some p=>
     obtain ⟨i,u'⟩:=p;have hupd:updS m x v=m.set i (x,v):=by simp [updS,hf]
     have hfs:=Yhh m x 0 i u' hf;have hkey:(((WM m 0).toArray[i]?).map (·.key)).getD (.string x)=.string x:=by
      have:=Yhq m 0 i;simp only [Nat.sub_zero] at hfs;rw [hfs.2] at this;simp [this]
     have hstay:(Instr.keyThatStays (.string x) (.string x)).run P w=.ok (.string x) w:=by
      simp [Instr.keyThatStays,Instr.sameBits,bytes_beq]
     simp only [hkey,hstay,Sem.run_bind,Result.andThen_ok,hset,hupd,Yho,Sem.run_pure,List.length_set,List.modify_toArray]
   rw [this];exact ⟨fz,_,hi'.setObj,h⟩
variable {x:Operand}
theorem YiX (T:Tab P) {k:TypeId} (hT:T.inf t=some X) (hd:X.desc=.map k e) (hx:r x=some (.map (some g))) (hH:fz g=some (mapS m)) (h:V (Zk m.length)):
 DoesQ P cx ⟨dst,.call {callee:=.builtin .len,args:=#[x],argTypes:=#[t]},ty,pos,af,gd⟩ r fz H V:=
 DoesQ.of h fun ρ w hr hi=>by
  have hg:=hi.hp.keep _ _ hH;have hu:=run_underlying (und_plain T hT hd rfl) w;have:(execOp ρ ⟨dst,.call {callee:=.builtin .len,args:=#[x],argTypes:=#[t]},ty,pos,af,gd⟩).run P w=.ok (.value (Zk m.length)) w:=by
   simp [execOp,resolve,invoke,builtin,hr _ _ hx,Builtin.len_,hu,goInt,YcS hg,mapS,Yhp]
  rw [this];exact ⟨rfl,Fr.refl _ _⟩
end
end Go.Lx
namespace Go.Proofs.YtiligkgjcmokbaaGreatDoor
variable {α β:Type} {fz fz':FZ} {s:Bs} {A:Option Addr} {c n k:Nat} {v:Value} {l:List α} {L:Lay α}
def sxV (k v:Int) (s:Bs) (kids:Value):Value:=.agg #[Zk k,Zk v,Zk 0,Zk 0,Zy s,kids]
theorem Yb4:QFn prog 153 [Zy s] fz (sxV 1 0 s Zn):=by
 refine qF Tryz.func153 Tryz.ntmps153 (fun w0=>?_);refine zW ?_;intros;exact Yan (i:=0) rfl (fun _ hi=>⟨_,[],hi.forget (List.nil_sublist _),rfl⟩)
theorem YaP:QFn prog 73 [Zy s] fz (sxV 1 0 s Zn):=by
 refine qF Tryz.func73 Tryz.ntmps73 (fun w0=>?_);refine zW ?_;intros;exact Yan (i:=0) rfl (fun _ hi=>⟨_,[],hi.forget (List.nil_sublist _),rfl⟩)
theorem Ybv:QFn prog 84 [Zy s] fz (sxV 1 0 s Zn):=by
 refine qF Tryz.func84 Tryz.ntmps84 (fun w0=>?_);refine zW ?_;intros;exact Yan (i:=0) rfl (fun _ hi=>⟨_,[],hi.forget (List.nil_sublist _),rfl⟩)
theorem YdK:QFn prog 215 [Zc A n c] fz (sxV 3 0 ⟨#[]⟩ (Zc A n c)):=by
 refine qF Tryz.func215 Tryz.ntmps215 (fun w0=>?_);refine zW ?_;intros;exact Yan (i:=0) rfl (fun _ hi=>⟨_,[],hi.forget (List.nil_sublist _),rfl⟩)
theorem YaC:QFn prog 72 [Zc A n c] fz (sxV 3 0 ⟨#[]⟩ (Zc A n c)):=by
 refine qF Tryz.func72 Tryz.ntmps72 (fun w0=>?_);refine zW ?_;intros;exact Yan (i:=0) rfl (fun _ hi=>⟨_,[],hi.forget (List.nil_sublist _),rfl⟩)
theorem Yen:QFn prog 83 [Zc A n c] fz (sxV 3 0 ⟨#[]⟩ (Zc A n c)):=by
 refine qF Tryz.func83 Tryz.ntmps83 (fun w0=>?_);refine zW ?_;intros;exact Yan (i:=0) rfl (fun _ hi=>⟨_,[],hi.forget (List.nil_sublist _),rfl⟩)
theorem YgA {n:Int}:QFn prog 77 [Zk n] fz (sxV 2 n ⟨#[]⟩ Zn):=by
 refine qF Tryz.func77 Tryz.ntmps77 (fun w0=>?_);refine zW ?_;intros;exact Yan (i:=0) rfl (fun _ hi=>⟨_,[],hi.forget (List.nil_sublist _),rfl⟩)
theorem flat_get {α:Type} {f:α->List Value} {z:Nat} (hz:∀ x,(f x).length=z):∀ {l:List α} {i j:Nat} {x:α} {u:Value},l[i]?=some x->(f x)[j]?=some u->(l.flatMap f)[i*z+j]?=some u
 | [],i,j,x,u,h,_=>by simp at h
 | y::r,0,j,x,u,h,hu=>by
  simp at h;subst h;have hj:j<(f y).length:=(Zg hu).1;rw [List.flatMap_cons,Nat.zero_mul,Nat.zero_add,List.getElem?_append_left hj];exact hu
 | y::r,i+1,j,x,u,h,hu=>by
  have h2:=flat_get hz (l:=r) (i:=i) (j:=j) (x:=x) (u:=u) (by simpa using h) hu;have e:(i+1)*z+j=z+(i*z+j):=by rw [Nat.succ_mul];omega
  rw [List.flatMap_cons,e,List.getElem?_append_right (by rw [hz];omega),hz,Nat.add_sub_cancel_left];exact h2
theorem Yp8 {f:α->List β} {a:α} {x:α} (hx:l[k]?=some x):(a::l.take (k+1)).flatMap f=(a::l.take k).flatMap f++f x:=by
 rw [List.take_add_one,hx];simp
theorem YiN {f:β->List Value} {g:β->α} {e:Nat} {l:List β} {b:HP} (hz:∀ x,(f x).length=L.size) (hO:OwnS e L.size v n (l.flatMap f) b) (hf:∀ p∈b,fz' p.1=some p.2) (hl:l.length=n) (hn:n<=140737488355328) (hr:∀ x∈l,L.rep fz' (g x) (f x)):
 ∃ A c,v=Zc A n c/\Sl L fz' A n c (l.map g):=by
 obtain ⟨A,c,h1,h2,h3,h4⟩:=hO.row hf;refine ⟨A,c,h1,h4.sl h2 h3 hn (by simpa using hl) fun i d hd=>?_⟩;rw [List.getElem?_map] at hd;cases hx:l[i]? with
 | none=>simp [hx] at hd
 | some x=>
  simp [hx] at hd;subst hd;exact ⟨f x,hr x (Zm hx),fun j u hu=>flat_get hz hx hu⟩
theorem short_of {l:List Bs} (h:Sl strL fz A n c l) {x:Bs} (hx:x∈l):Short x:=by
 obtain ⟨i,hi⟩:=List.mem_iff_getElem?.1 hx;rcases h.elem with h0 | ⟨ad,h1,h2⟩
 ·have:=Yg5 hi;have:=h.len;omega
 obtain ⟨v,⟨_,h3⟩,_⟩:=(h2 i x hi).cell rfl;exact h3
def Yp (s:Bs):Sexpr:=.mk 1 0 0 0 s []
def YH (s:Bs):List Value:=[Zk 1,Zk 0,Zk 0,Zk 0,Zy s,Zn]
theorem YO (hs:Short s):YE.rep fz (Yp s) (YH s):=
 Ys (x:=Yp s) ⟨by show I64 1;unfold I64;omega,by show I64 0;unfold I64;omega,by show I64 0;unfold I64;omega,by show I64 0;unfold I64;omega,hs,IsSl.nil⟩
theorem Yjh {f0:Bs} {l:List Bs} (hf:Short f0) (h1:Sl strL fz A n c l) (hn:n<=1000000000):
 GFn prog 214 [Zy f0,Zc A n c] fz [] (fun v fz' H'=>H'=[]/\∃ B m cc,v=sxV 3 0 ⟨#[]⟩ (Zc B m cc)/\Sl YE fz' B m cc (Yp f0::l.map Yp)):=by
 have l1:=h1.len;refine zF Tryz.func214 Tryz.ntmps214 (fun w0=>?_);refine zW ?_;intros;rename_i g4;refine zc (Yb4 (s:=f0)) ?_;refine Ya (Yb (cs:=YH f0) (fun gb=>?_));refine zc YdK ?_;refine zW ?_;intros;rename_i g5;refine Wp.perm (List.Perm.cons _ (List.Perm.swap _ _ _)) ?_;refine Yi (fun q σ fz' H'=>∃ (k:Nat) (v:Value) (Hs:HP),k<=n/\q=n - k/\σ=[(14,Zk k),(13,Zk n),(12,Zc A n c),(5,Zp g5),(4,Zp g4)]/\fz=fz'/\
  H'=(g5,Zu #[Zk 3,Zk 0,Zk 0,Zk 0,Ze,v] 86)::(g4,Zu #[Zk 0,Zk 0,Zk 0,Zk 0,Ze,Zn] 86)::Hs/\OwnS 86 6 v (k+1) ((f0::l.take k).flatMap YH) Hs)
  ⟨0,_,[_],Z0 _,rfl,rfl,rfl,rfl,?_⟩ Zw Zb ?_
 ·exact OwnS.of_block (size:=6) (cs:=YH f0) (n:=1) rfl
 rintro q σ fz' H' ⟨k,v,Hs,hk,rfl,rfl,rfl,rfl,hO⟩;refine wC ?_ ?_<;>intro c1
 ·obtain ⟨x,hx⟩:=Ye (l:=l) (k:=k) Zi;obtain ⟨Av,cv,rfl,_,_⟩:=hO.form;refine wI h1 hx (fun p hp=>?_);refine zH hp (fun ix=>?_);refine zW ?_;refine XF [_,_] ?_;refine zW ?_;refine Yk (Yk (Yk ?_));refine zW ?_;refine pU ?_;refine Ch.qk ⟨Zd,Zx⟩ (YF (Yb4 (s:=x)) ?_);refine Yj (Yb (cs:=YH x) (fun gb=>⟨⟨Zd,Zx⟩,?_⟩));refine Yj (Ygx (Hr:=[_,_,_]) (Zr _) (YlE (.head _)) (fun v' Hs' hO'=>⟨⟨Zd,Zx⟩,?_⟩) (ho:=hO) (hl:=rfl) (h1:=by intro u hu;simp [YH] at hu;rcases hu with rfl | rfl | rfl | rfl | rfl | rfl<;>rfl));obtain ⟨Av',cv',rfl,_,_⟩:=hO'.form;refine Ch.hard0 (Y9 ?_);refine Ch.done ?_;exact wP (h:=by exact ⟨k+1,_,Hs',by omega,rfl,rfl,rfl,rfl,by rw [Yp8 (a:=f0) hx];exact hO'⟩)
 have hk1:k=n:=by omega
 subst hk1;obtain ⟨Av,cv,rfl,_,_⟩:=hO.form;refine zW ?_;refine XJ (i:=1) rfl (fun fz3 hle3 hf3=>?_);rw [Zl Zi] at hO;obtain ⟨A',c',he,hsl⟩:=YiN (L:=YE) (g:=Yp) (fun _=>rfl) hO (fun p hp=>hf3 p (by simp [hp])) (by simp [l1]) Zi (fun x hx=>YO (by
  rcases List.mem_cons.1 hx with rfl | hx
  ·exact hf
  exact short_of h1 hx))
 exact ⟨rfl,_,_,_,by rw [he];rfl,hsl⟩
theorem YnN {l:List Bs}:∀ u∈l.flatMap YH,u.oneCell'=true:=by
 intro u hu;obtain ⟨x,_,hx⟩:=List.mem_flatMap.1 hu;simp [YH] at hx;rcases hx with rfl | rfl | rfl | rfl<;>rfl
theorem rep_of (h:Sl L fz A n c l) {x:α} (hx:x∈l):∃ cs,L.rep fz x cs:=by
 obtain ⟨i,hi⟩:=List.mem_iff_getElem?.1 hx;rcases h.elem with h0 | ⟨ad,h1,h2⟩
 ·have:=Yg5 hi;have:=h.len;omega
 obtain ⟨cs,hr,_⟩:=h2 i x hi;exact ⟨cs,hr⟩
def YaS (p:Param):List Bs:=[p.name,YaB,p.typ]
theorem Yob {γ:Type} {f:α->List β} {h:β->List γ} {x:α} (hx:l[k]?=some x):((l.take (k+1)).flatMap f).flatMap h=((l.take k).flatMap f).flatMap h++(f x).flatMap h:=by
 rw [List.take_add_one,hx];simp
theorem YdY:∀ {l:List Param},(l.flatMap YaS).length=3*l.length
 | []=>rfl
 | p::r=>by rw [List.flatMap_cons,List.length_append,YdY];simp [YaS];omega
theorem Ygr {l:List Param} (h1:Sl paramL fz A n c l) (hn:n<=1000000000):
 GFn prog 85 [Zc A n c] fz [] (fun v fz' H'=>H'=[]/\∃ B cc,v=Zc B (3*n) cc/\Sl YE fz' B (3*n) cc ((l.flatMap YaS).map Yp)):=by
 have l1:=h1.len;refine zF Tryz.func85 Tryz.ntmps85 (fun w0=>?_);refine zW ?_;refine Yi (fun q σ fz' H'=>∃ (k:Nat) (v:Value) (Hs:HP),k<=n/\q=n - k/\σ=[(8,Zk k),(7,Zk n),(6,Zc A n c),(3,v)]/\fz=fz'/\
  H'=Hs/\OwnS 86 6 v (3*k) (((l.take k).flatMap YaS).flatMap YH) Hs)
  ⟨0,_,[],Z0 _,rfl,rfl,rfl,rfl,OwnS.nil _ _⟩ Zw Zb ?_
 rintro q σ fz' H' ⟨k,v,Hs,hk,rfl,rfl,rfl,rfl,hO⟩;refine wC ?_ ?_<;>intro c1
 ·obtain ⟨x,hx⟩:=Ye (l:=l) (k:=k) Zi;obtain ⟨Av,cv,rfl,_,_⟩:=hO.form;refine wI h1 hx (fun p hp=>?_);refine zL hp ?_;intro cs hcs;obtain ⟨rfl,hR⟩:=YJ hcs;refine zW ?_;intros;rename_i g5;refine XF [_] ?_;refine zW ?_;refine Yk (Yk ?_);refine zW ?_;refine pU ?_;refine Ch.qk ⟨Zd,Zx⟩ (YF (Yb4 (s:=x.name)) ?_);refine Ch.qk ⟨Zd,Zx⟩ (YF (Yb4 (s:=YaB)) ?_);refine Ch.qk ⟨Zd,Zx⟩ (YF (Yb4 (s:=x.typ)) ?_);refine Yj (Yb (cs:=(YaS x).flatMap YH) (fun gb=>⟨⟨Zd,Zx⟩,?_⟩));refine Yj (Ygx (Hr:=[_,_]) (Zr _) (YlE (.head _)) (fun v' Hs' hO'=>⟨⟨Zd,Zx⟩,?_⟩) (ho:=hO) (hl:=rfl) (h1:=YnN));refine Ch.qk ⟨Zd,Zx⟩ (YV ?_);refine Ch.done ?_;exact wP (h:=by exact ⟨k+1,_,Hs',by omega,rfl,rfl,rfl,rfl,by rw [Yob hx];exact hO'⟩)
 have hk1:k=n:=by omega
 subst hk1;obtain ⟨Av,cv,rfl,_,_⟩:=hO.form;refine zW ?_;refine YnW rfl rfl (fun fz3 hle3 hf3=>?_);rw [Zl Zi] at hO;obtain ⟨A',c',he,hsl⟩:=YiN (L:=YE) (g:=Yp) (fun _=>rfl) hO (fun p hp=>hf3 p hp) (by rw [YdY,l1]) Zi (fun x hx=>YO (by
  obtain ⟨p,hp,hx⟩:=List.mem_flatMap.1 hx;obtain ⟨cs,hr⟩:=rep_of h1 hp;obtain ⟨_,hR⟩:=YJ hr;simp only [YaS,List.mem_cons,List.not_mem_nil,or_false] at hx;rcases hx with rfl | rfl | rfl
  ·exact hR.name
  ·unfold Short YaB;decide
  exact hR.typ))
 exact ⟨rfl,_,_,he,hsl⟩
end Go.Proofs.YtiligkgjcmokbaaGreatDoor
namespace Go.Lx
open Go.RowKit
section
variable {P:Program} {cx:Cx} {r:Operand->Option Value} {fz:FZ} {H:HP} {dst:Option Nat} {ty:TypeId} {pos:String} {af:Array Edge} {gd:Option (Nat × Bool)} {V:Value->Prop}
variable {X:Ty} {e t t':TypeId} {x y:Operand}
theorem Yko (T:Tab P) {p:Option Addr} (hT:T.inf t=some X) (hd:X.desc=.pointer e) (hx:r x=some (.pointer p)) (hy:r y=some (.pointer none)) (h:V (Zo p.isNone)):
 DoesQ P cx ⟨dst,.binOp .eql t x y t',ty,pos,af,gd⟩ r fz H V:=
 YC (fun ρ w hr=>by
  have hu:P.underlying t=some (.pointer (P.pointee t)):=by rw [Program.pointee,und_plain T hT hd rfl]
  simp only [execOp,hr _ _ hx,hr _ _ hy,Sem.run_bind,eqGuard_at_pointer,Sem.run_pure,Result.andThen_ok,run_eql_pointer_nil w t p hu]) h
end
end Go.Lx
namespace Go.Proofs.YtiligkgjcmokbaaGreatDoor
variable {i:Nat} {m:List (Bs × Value)} {fz fz':FZ} {v:Value}
def tyM (l:List Param):List (Bs × Value):=l.map fun p=>(p.name,Zy p.typ)
def tyF:List Param->Bs->Option Bs
 | [],_=>none
 | p::r,t=>if t=p.name then some p.typ else tyF r t
theorem Yjo (t:Bs):∀ (l:List Param) (i:Nat),(fndS (tyM l) t i).map (·.2)=(tyF l t).map Value.string
 | [],_=>rfl
 | p::r,i=>by
  rw [show tyM (p::r)=(p.name,Zy p.typ)::tyM r from rfl,fndS,tyF];split
  ·rfl
  exact Yjo t r (i+1)
theorem fndS_val {t:Bs} {z:Value}:(fndS m t i).elim z (·.2)=((fndS m t i).map (·.2)).getD z:=by cases fndS m t i<;>rfl
theorem fndS_ok {t:Bs}:(fndS m t i).isSome=((fndS m t i).map (·.2)).isSome:=by cases fndS m t i<;>rfl
theorem YiE {l:List Param} {t:Bs}:(fndS (tyM l) t 0).elim Ze (·.2)=Zy ((tyF l t).getD ⟨#[]⟩):=by
 rw [fndS_val,Yjo];cases tyF l t<;>rfl
theorem YoH {l:List Param} {t:Bs}:(fndS (tyM l) t 0).isSome=(tyF l t).isSome:=by
 rw [fndS_ok,Yjo];cases tyF l t<;>rfl
def ForR (fz:FZ) (v:Value) (l:List Param):Prop:=∃ gf gm,v=Zp gf/\fz gf=some (Zu #[.map (some gm)] 220)/\fz gm=some (mapS (tyM l))
theorem ForR.mono {l:List Param} (h:ForR fz v l) (hle:Le fz fz'):ForR fz' v l:=by
 obtain ⟨gf,gm,h1,h2,h3⟩:=h;exact ⟨gf,gm,h1,hle _ _ h2,hle _ _ h3⟩
def HasT (l:List Param) (t:Bs):Prop:=t=WK\/(tyF l t).isSome=true
theorem has_q {l:List Param} {t:Bs} (h:ForR fz v l):QFn prog 162 [v,Zy t] fz (Zo (decide (HasT l t))):=by
 obtain ⟨gf,gm,rfl,h1,h2⟩:=h;refine qF Tryz.func162 Tryz.ntmps162 (fun w0=>?_);refine vG ?_;refine WX h2 ?_ (hv:=YiE) (hb:=YoH);refine zV ?_;cases hs:(tyF l t).isSome with
 | true=>
  exact vR (h:=by exact Yu (.inr hs))
 | false=>
  refine vC ?_ ?_<;>intro c1
  ·exact vR (h:=by exact Yu (.inl c1))
  exact vR (h:=by exact Yl (fun h0=>h0.elim c1 (fun h0=>by rw [hs] at h0;cases h0)))
def upT (l:List Param) (t:Bs):Bs:=(tyF l t).getD ⟨#[]⟩
noncomputable def cycM (l:List Param) (t:Bs):Nat->Bs->Bool
 | 0,_=>false
 | n+1,a=>if upT l a=t then true else if upT l a=WK then false else cycM l t n (upT l a)
theorem cycle_q {l:List Param} {t:Bs} (h:ForR fz v l) (hn:l.length<=1000000000):QFn prog 163 [v,Zy t] fz (Zo (cycM l t l.length t)):=by
 obtain ⟨gf,gm,rfl,h1,h2⟩:=h;have hlen:(tyM l).length=l.length:=by unfold tyM;simp
 refine qF Tryz.func163 Tryz.ntmps163 (fun w0=>?_);refine vG ?_;refine YiX T Zz Zz Zz h2 ?_;rw [hlen];refine zV ?_;refine Yi (fun q σ fz' H'=>∃ (k:Nat) (a:Bs),k<=l.length/\q=l.length - k/\σ=[(12,Zk k),(11,Zk l.length),(5,Zy a),(0,Zp gf),(1,Zy t)]/\fz=fz'/\H'=[]/\cycM l t (l.length - k) a=cycM l t l.length t) ⟨0,t,Z0 _,rfl,rfl,rfl,rfl,rfl⟩ Zw Zb ?_;rintro q σ fz' H' ⟨k,a,hk,rfl,rfl,rfl,rfl,hh⟩;refine vC ?_ ?_<;>intro c1
 ·have e1:l.length - k=(l.length - (k+1))+1:=by omega
  rw [e1,cycM] at hh;refine vG ?_;refine YbE h2 ?_ (hv:=YiE);rw [show (tyF l a).getD ⟨#[]⟩=upT l a from rfl];refine vC ?_ ?_<;>intro c2
  ·rw [if_pos c2] at hh;exact vR (h:=by rw [<- hh])
  rw [if_neg c2] at hh;refine vC ?_ ?_<;>intro c3
  ·rw [if_pos (show upT l a=WK from c3)] at hh;exact vR (h:=by rw [<- hh])
  rw [if_neg (show ¬upT l a=WK from c3)] at hh;exact vP (h:=by exact ⟨k+1,upT l a,by omega,rfl,rfl,rfl,rfl,hh⟩)
 have e1:l.length - k=0:=by omega
 rw [e1] at hh;exact vR (h:=by rw [<- hh];rfl)
def upN (l:List Param):Nat->Bs->Prop
 | 0,t=>t=WK
 | n+1,t=>t≠WK/\upN l n (upT l t)
def chN (l:List Param):Nat->Bs->List Bs
 | 0,t=>[t]
 | n+1,t=>t::chN l n (upT l t)
theorem YoF {l:List Param}:∀ {n m:Nat} {t:Bs},upN l n t->upN l m t->n=m
 | 0,0,_,_,_=>rfl
 | 0,m+1,t,h1,h2=>absurd h1 h2.1
 | n+1,0,t,h1,h2=>absurd h2 h1.1
 | n+1,m+1,t,h1,h2=>by rw [YoF h1.2 h2.2]
theorem YoE {l:List Param} (hs:∀ p∈l,Short p.typ) {t:Bs}:Short (upT l t):=by
 unfold upT
 induction l with
 | nil=>show Short ⟨#[]⟩;unfold Short;decide
 | cons p r ih=>
  rw [tyF];split
  ·exact hs p (by simp)
  exact ih (fun q hq=>hs q (by simp [hq]))
theorem YgJ:OneC strL:=by
 intro fz d cs h u hu;obtain ⟨rfl,_⟩:=h;simp at hu;subst hu;rfl
theorem above_q {l:List Param} {t:Bs} {m:Nat} (h:ForR fz v l) (hs:∀ p∈l,Short p.typ) (ht:Short t) (hm:m<=1000000000) (hu:upN l m t):
 GFn prog 298 [v,Zy t] fz [] (fun v fz' H'=>H'=[]/\∃ A c,v=Zc A (m+1) c/\Sl strL fz' A (m+1) c (chN l m t)):=by
 obtain ⟨gf,gm,rfl,h1,h2⟩:=h;refine zF Tryz.func298 Tryz.ntmps298 (fun w0=>?_);refine zV ?_;refine Ya (Yb (cs:=[Zy t]) (fun gb=>?_));refine zV ?_;refine Yi (fun q σ fz' H'=>∃ (k n:Nat) (a:Bs) (vo:Value) (Ho:HP) (out:List Bs),k<=m/\q=m - k/\n=k+1/\σ=[(5,vo),(0,Zp gf),(1,Zy a)]/\fz=fz'/\H'=Ho/\Short a/\upN l (m - k) a/\Grow strL 9 fz vo n Ho (out++ [a])/\out++chN l (m - k) a=chN l m t)
  ⟨0,1,t,_,_,[],Z0 _,rfl,rfl,rfl,rfl,rfl,ht,hu,Grow.block (ys:=[(t,[Zy t])]) rfl rfl (by intro p hp;simp only [List.mem_singleton] at hp;subst hp;exact ⟨rfl,ht⟩) rfl,rfl⟩ Zw Zb ?_
 rintro q σ fz' H' ⟨k,n,a,vo,Ho,out,hk,rfl,rfl,rfl,rfl,rfl,ha,hua,hG,hh⟩;obtain ⟨Ao,co,rfl,_,_⟩:=hG.form;refine vC ?_ ?_<;>intro c1
 ·have e1:m - k=(m - (k+1))+1:=by
   have:m - k≠0:=fun h0=>by rw [h0] at hua;exact c1 hua
   omega
  rw [e1] at hua hh;refine vG ?_;refine YbE h2 ?_ (hv:=YiE);rw [show (tyF l a).getD ⟨#[]⟩=upT l a from rfl];have hsu:=YoE hs (t:=a);refine zV ?_;refine Ya (Yb (cs:=[Zy (upT l a)]) (fun gc=>?_));refine Ya (YN (Hr:=[_]) (d:=upT l a) (Zr _) hG YgJ (.head _) ⟨rfl,hsu⟩ (fun v' Hs' hO'=>?_));obtain ⟨Av',cv',rfl,_,_⟩:=hO'.form;exact vP (h:=by exact ⟨k+1,_,upT l a,_,Hs',out++ [a],by omega,rfl,rfl,rfl,rfl,rfl,hsu,hua.2,hO',by rw [<- hh,chN];simp⟩)
 have e1:m - k=0:=by
  cases hd:m - k with
  | zero=>rfl
  | succ j=>rw [hd] at hua;exact absurd c1 hua.1
 rw [e1] at hh;have hkm:k=m:=by omega
 subst hkm;refine zV ?_;refine YnW rfl rfl (fun fz3 hle3 hf3=>?_);obtain ⟨A',c',he,hsl⟩:=hG.sl hle3 hf3 Zi;injection he with x1 x2 x3
 subst x1 x3;exact ⟨rfl,_,_,rfl,by rw [<- hh];exact hsl⟩
end Go.Proofs.YtiligkgjcmokbaaGreatDoor
