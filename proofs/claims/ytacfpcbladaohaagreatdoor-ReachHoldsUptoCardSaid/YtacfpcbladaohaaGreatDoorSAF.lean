/- The texts Mk, PBytes, PPlain, PText, PBuild, Tab, PWalkA, QQ, SMap, SRange, laid together. Conditions: none. -/
import Derived.Test.YtacfpcbladaohaaGreatDoorSAVRowHA
import Derived.Test.YtacfpcbladaohaaGreatDoorProg
import Derived.Lib.AppendStr
import Derived.Lib.UnsafeStr
import Derived.Lib.Join
import Derived.Lib.ItoaNum
import Derived.Lib.ItoaMem
import Derived.Lib.Repeat
import Derived.Lib.ConvBytes
import Derived.Laws.BytesArg
set_option linter.all false
open Go.Lx Go.RowKit
attribute [local instance 10] Classical.propDecidable
open Go.Proofs.Tryz (prog)
namespace Go.Lx
open Go.RowKit
variable {k j:Nat} {H:HP} {fz:FZ} {w w':World}
section
variable {P:Program} {cx:Cx} {r:Operand->Option Value} {fz:FZ} {H:HP} {dst:Option Nat} {ty:TypeId} {pos:String} {af:Array Edge} {gd:Option (Nat × Bool)}
variable {A:Option Addr} {X:Ty} {c n:Nat} {e t:TypeId} {x:Operand}
theorem Yll (T:Tab P) {V:Value->Prop} (hT:T.inf t=some X) (hd:X.desc=.slice e) (hx:r x=some (.slice A n c)) (h:V (Zk c)):
 DoesQ P cx ⟨dst,.call {callee:=.builtin .cap,args:=#[x],argTypes:=#[t]},ty,pos,af,gd⟩ r fz H V:=
 YC (fun ρ w hr=>by
  have hu:=run_underlying (und_plain T hT hd rfl) w;simp [execOp,resolve,invoke,builtin,hr _ _ hx,Builtin.cap_,hu,goInt]) h
theorem YdM {t e:TypeId} {x y:Operand} {X Y:Ty} {k1 k2:IntKind} {l c:Nat} {K:Value->FZ->HP->Prop}
 (hlc:l<=c)
  (h:∀ g,K (Zv g l c) fz ((g,.cells (repZ Y.zero.cells.toList c).toArray e (0,0))::H)) (T:Tab P:=by exact T) (hT:T.inf t=some X:=by exact rfl) (hd:X.desc=.slice e:=by exact rfl) (hY:T.inf e=some Y:=by exact rfl) (hzs:Nat.beq Y.zero.cells.toList.length Y.size=true:=by exact rfl) (hx:r x=some (.int k1 l):=by exact rfl) (hy:r y=some (.int k2 c):=by exact rfl) (hb:c*Y.bytes<=1099511627776:=by exact mulB) (hc:c<=1099511627776:=by omega):Does P cx ⟨dst,.makeSlice t x y,ty,pos,af,gd⟩ r fz H K:=by
  unfold Does;intro ρ w hr hw;have hu:=und_plain T hT hd rfl;have hsz:=run_sizeOf T hY w;have hzr:=YbF T hY w;obtain ⟨inf,hi,i1,i2,i3⟩:=(T.ok_ hY).info;have hwq:IntKind.i64.wrap (c:Int)=c:=Xb Zi;have hwl:IntKind.i64.wrap (l:Int)=l:=Xb Zi;have hti:(typeInfo e).run P w=.ok inf w:=by simp [typeInfo,hi]
  have hrow:=YoI Y.zero.cells c Y.size (by simpa using Nat.eq_of_beq_eq_true hzs);have hroom:∀ w,(askRoom (c*Y.bytes)).run P w=.ok () w:=fun w=>by
   unfold askRoom roomBytes;rw [if_neg Zi];rfl
  have hcomm:Y.bytes*c=c*Y.bytes:=Nat.mul_comm _ _;have hcond:(((decide ((c:Int)<0) || decide (((Y.bytes:Int))*(c:Int)>2 ^ 48)) || decide ((l:Int)<0)) || decide ((l:Int)>(c:Int)))=false:=by
   have h5:¬((Y.bytes:Int)*(c:Int)>2 ^ 48):=by
    have:((Y.bytes*c:Nat):Int)<=1099511627776:=by omega
    rw [Int.natCast_mul] at this;omega
   simp;omega
  have:(execOp ρ ⟨dst,.makeSlice t x y,ty,pos,af,gd⟩).run P w=.ok (.value (.slice (some ⟨w.heap.size,0,none⟩) l c)) (w.alloc (.cells (repZ Y.zero.cells.toList c).toArray e (0,0))):=by
   simp only [execOp,hr _ _ hx,hr _ _ hy,Instr.makeSlice,Sem.run_bind,run_underlying hu w,Result.andThen_ok,asInt,asIntOf,Sem.run_pure,hti,i2,hwq,hwl];rw [if_neg (by rw [hcond];simp)];simp only [Sem.run_bind,Int.toNat_natCast,hroom,Result.andThen_ok,hsz];by_cases h0:c*Y.size=0
   ·have hnil:(repZ Y.zero.cells.toList c).toArray=#[]:=by rw [<- hrow,h0];simp
    simp only [if_pos h0,Sem.run_bind,Sem.run_pure,Result.andThen_ok,hnil,newRow,newObj,Sem.run];rw [h0,show Array.range 0=#[] from rfl,Array.map_empty];rfl
   simp only [if_neg h0,Sem.run_bind,Sem.run_pure,Result.andThen_ok,hzr,hrow,newRow,newObj,Sem.run];rfl
  rw [this];exact ⟨fz,_,hw.alloc _,h _⟩
end
def Yax (b:UInt8):Value:=Value.int .u8 b.toNat
def Ycf (bs:List UInt8) (k:Nat):List Value:=bs.map Yax++List.replicate k (Value.int .u8 0)
def Yce (e:TypeId) (bs:List UInt8) (k:Nat):Obj:=.cells (Ycf bs k).toArray e (bs.length+k,bs.length+k+1)
theorem YnR {bs:List UInt8}:(Ycf bs k).length=bs.length+k:=by simp [Ycf]
theorem Ye8 {bs:List UInt8} (h:j<bs.length):(Ycf bs k)[j]?=some (Yax bs[j]):=by
 simp [Ycf,List.getElem?_append,h]
theorem YnQ {bs:List UInt8} {b:UInt8} (h:j<bs.length):(Ycf bs k).set j (Yax b)=Ycf (bs.set j b) k:=by
 unfold Ycf;rw [List.set_append_left _ _ (by simpa using h),List.map_set]
theorem Inv.made {cx:Cx} {o:Obj} (h:Inv cx fz H w) (h1:w'.os=w.os) (h2:w'.tape=w.tape) (h3:w'.output=w.output) (h4:w'.heap.size=w.heap.size+1) (h5:w'.heap[w.heap.size]?=some o) (h6:∀ j,j<w.heap.size->w'.heap[j]?=w.heap[j]?):
 Inv cx fz ((w.heap.size,o)::H) w':=by
 refine (h.alloc o).world (h1.trans rfl) (h2.trans rfl) (h3.trans rfl) ?_;apply Array.ext_getElem?;intro j;simp only [World.alloc,Array.getElem?_push];by_cases hj:j=w.heap.size
 ·subst hj;simp [h5]
 simp only [hj,if_false];by_cases hl:j<w.heap.size
 ·exact h6 j hl
 rw [Array.getElem?_eq_none Zi,Array.getElem?_eq_none Zi]
section
variable {P:Program} {cx:Cx} {r:Operand->Option Value} {fz:FZ} {H:HP} {V:Value->Prop} {dst:Option Nat} {ty:TypeId} {pos:String} {af:Array Edge} {gd:Option (Nat × Bool)}
theorem k_bytes {src dt e:TypeId} {x:Operand} {X Y Z:Ty} {s:Bs} {K:Value->FZ->HP->Prop}
 (h:∀ g k,K (Zv g s.size (s.size+k)) fz ((g,Yce e s.data.toList k)::H)) (T:Tab P:=by exact T) (hX:T.inf src=some X:=by exact rfl) (hXd:X.desc=.string:=by exact rfl) (hY:T.inf dt=some Y:=by exact rfl) (hYd:Y.desc=.slice e:=by exact rfl) (hZ:T.inf e=some Z:=by exact rfl) (hZd:Z.desc=.int .u8:=by exact rfl) (hx:r x=some (.string s):=by exact rfl):Does P cx ⟨dst,.convert src dt x,ty,pos,af,gd⟩ r fz H K:=by
  refine Does.of fun ρ w hr hw=>?_
  have hrun:=Go.Lib.run_convert_string_bytes (P:=P) w src dt e s (und_plain T hX hXd rfl) (und_plain T hY hYd rfl) (und_plain T hZ hZd rfl);have:(execOp ρ ⟨dst,.convert src dt x,ty,pos,af,gd⟩).run P w=.ok (.value (.slice (some ⟨w.heap.size,0,none⟩) s.size (grownCap w s.size 0 e))) (Go.Lib.bytesWorld w e s):=by
   simp only [execOp,hr _ _ hx,Sem.run_bind,hrun,Result.andThen_ok,Sem.run_pure]
  rw [this];obtain ⟨k,hk⟩:∃ k,grownCap w s.size 0 e=s.size+k:=⟨grownCap w s.size 0 e - s.size,by have:=grownCap_ge w s.size 0 e;omega⟩;have hcells:Go.Lib.bytesCells w e s=(Ycf s.data.toList k).toArray:=by
   simp [Go.Lib.bytesCells,Ycf,hk];exact fun _ _=>rfl
  have hlen:s.data.toList.length=s.size:=by rw [Array.length_toList];rfl
  have hnew:=Go.Lib.bytesWorld_at_new w e s;rw [hcells] at hnew;have hobj:(Go.Lib.bytesWorld w e s).heap[w.heap.size]?=some (Yce e s.data.toList k):=by
   rw [hnew];simp [Yce,YnR]
  rw [hk];exact ⟨fz,_,Inv.made hw rfl rfl rfl (Go.Lib.bytesWorld_size w e s) hobj (fun j hj=>Go.Lib.bytesWorld_at_old w e s j hj),h _ k⟩
theorem Ylj {t t':TypeId} {x:Operand} {X:Ty} {g j:Nat} {bs:List UInt8} {k:Nat} {b:UInt8} (i:Nat) (hb:bs[j]?=some b) (h:V (Yax b)) (T:Tab P:=by exact T) (hT:T.inf t=some X:=by exact rfl) (hd:XU X.desc=false:=by exact rfl) (hx:r x=some (.pointer (some ⟨g,j,none⟩)):=by exact rfl) (hi:H[i]?=some (g,Yce t' bs k):=by exact rfl):
 DoesQ P cx ⟨dst,.load t x,ty,pos,af,gd⟩ r fz H V:=by
 obtain ⟨hj,rfl⟩:=Zg hb;exact Yp i h (hT:=hT) (hd:=hd) (hx:=hx) (hi:=hi) (hv:=Ye8 hj)
theorem Yko {t t':TypeId} {x y:Operand} {X:Ty} {pre post:HP} {g j:Nat} {bs:List UInt8} {k:Nat} {b:UInt8} {K:Value->FZ->HP->Prop}
 (hy:r y=some (Yax b)) (hH:H=pre++(g,Yce t' bs k)::post)
  (h:K undef fz (pre++(g,Yce t' (bs.set j b) k)::post)) (T:Tab P:=by exact T) (hT:T.inf t=some X:=by exact rfl) (hx:r x=some (.pointer (some ⟨g,j,none⟩)):=by exact rfl) (hs:X.size=1:=by exact rfl) (hj:j<bs.length):Does P cx ⟨dst,.store t x y,ty,pos,af,gd⟩ r fz H K:=by
  refine Does.of fun ρ w hr hw=>?_
  subst hH;have hb:=(hw.hp.own (g,Yce t' bs k) (by simp)).1;have hcell:w.cell? ⟨g,j,none⟩=some (Yax bs[j]):=by
   simp only [World.cell?,hb,Yce];simpa using Ye8 hj
  have hfro:w.frozen? ⟨g,j,none⟩=false:=by
   simp only [World.frozen?,hb,Yce,Bool.and_eq_false_iff,decide_eq_false_iff_not];left;omega
  have hz:=run_sizeOf T hT w;rw [hs] at hz;have hst:(storeCells ⟨g,j,none⟩ [Yax b] 0).run P w=.ok () (w.setRow g (Ycf (bs.set j b) k).toArray):=by
   have hadd:(⟨g,j,none⟩:Addr).add 0=⟨g,j,none⟩:=by simp [Addr.add]
   simp only [storeCells,Sem.run_bind,hadd,run_store P w _ (Yax b) _ rfl,hcell,hfro];simp [setCell_eq_setRow w g j (Ycf bs k).toArray t' _ (Yax b) hb,<- YnQ hj]
  have:(execOp ρ ⟨dst,.store t x y,ty,pos,af,gd⟩).run P w=.ok .skip (w.setRow g (Ycf (bs.set j b) k).toArray):=by
   simp only [execOp,hr _ _ hx,hr _ _ hy,Instr.storeAt,Instr.sureAddr,Sem.run_bind,Sem.run_pure,Result.andThen_ok,storeVar,hz];simp [Yax,Value.cells] at hst ⊢;simp [hst]
  rw [this];refine ⟨fz,_,hw.write (o':=Yce t' (bs.set j b) k) rfl rfl rfl (by simp) ?_ (fun k hk=>?_),h⟩
  ·simp [World.setRow,Array.getElem?_modify,hb,Yce]
  simp only [World.setRow,Array.getElem?_modify];rw [if_neg Zi]
theorem Ylg {src dt e:TypeId} {x:Operand} {X Y Z:Ty} {t':TypeId} {g n c k:Nat} {bs:List UInt8} (i:Nat)
 (hn:bs.length=n) (h:V (.string ⟨bs.toArray⟩)) (T:Tab P:=by exact T) (hX:T.inf src=some X:=by exact rfl) (hXd:X.desc=.slice e:=by exact rfl) (hY:T.inf dt=some Y:=by exact rfl) (hYd:Y.desc=.string:=by exact rfl) (hZ:T.inf e=some Z:=by exact rfl) (hZd:Z.desc=.int .u8:=by exact rfl) (hx:r x=some (Zv g n c):=by exact rfl) (hi:H[i]?=some (g,Yce t' bs k):=by exact rfl):DoesQ P cx ⟨dst,.convert src dt x,ty,pos,af,gd⟩ r fz H V:=by
  refine DoesQ.of h fun ρ w hr hw=>?_
  have hcell:∀ j,j<n->w.cell? ⟨g,0+j,none⟩=some (.int .u8 ((bs.map fun b=>(b.toNat:Int)).getD j 0)):=fun j hj=>by
   have hj':j<bs.length:=by omega
   rw [Nat.zero_add,hw.cellOwn hi j];have:=Ye8 (k:=k) hj';simp only [List.getElem?_toArray,this,Yax];simp [List.getD,hj']
  have hrun:=run_convert_bytes_arg (P:=P) w src e (und_plain T hX hXd rfl) (und_plain T hZ hZd rfl) g 0 n c (bs.map fun b=>(b.toNat:Int)) (by simpa using hn) hcell dt (und_plain T hY hYd rfl);have hs:strOfNums (bs.map fun b=>(b.toNat:Int))=⟨bs.toArray⟩:=by simp [strOfNums,Function.comp_def]
  rw [hs] at hrun;have:(execOp ρ ⟨dst,.convert src dt x,ty,pos,af,gd⟩).run P w=.ok (.value (.string ⟨bs.toArray⟩)) w:=by
   simp only [execOp,hr _ _ hx,Sem.run_bind,hrun,Result.andThen_ok,Sem.run_pure]
  rw [this];exact ⟨rfl,Fr.refl _ _⟩
end
end Go.Lx
namespace Go.Lx
variable {k:Nat} {f:Formula}
def Yex (n:Int):Prop:= -1099511627776<=n/\n<=1099511627776
mutual
def ecount:Expr->Nat
 | .mk _ _ _ _ kids=>1+ecountL kids
def ecountL:List Expr->Nat
 | []=>0
 | k::r=>ecount k+ecountL r
end
mutual
def edepth:Expr->Nat
 | .mk _ _ _ _ kids=>1+edepthL kids
def edepthL:List Expr->Nat
 | []=>0
 | k::r=>max (edepth k) (edepthL r)
end
mutual
def fcount:Formula->Nat
 | .mk _ _ _ _ exprs kids=>1+ecountL exprs+fcountL kids
def fcountL:List Formula->Nat
 | []=>0
 | k::r=>fcount k+fcountL r
end
mutual
def fdepth:Formula->Nat
 | .mk _ _ _ _ exprs kids=>1+max (edepthL exprs) (fdepthL kids)
def fdepthL:List Formula->Nat
 | []=>0
 | k::r=>max (fdepth k) (fdepthL r)
end
mutual
def xcount:Sexpr->Nat
 | .mk _ _ _ _ _ kids=>1+xcountL kids
def xcountL:List Sexpr->Nat
 | []=>0
 | k::r=>xcount k+xcountL r
end
mutual
def xdepth:Sexpr->Nat
 | .mk kind _ _ _ _ kids=>xdepthL kids+(if kind=3 then 1 else 0)
def xdepthL:List Sexpr->Nat
 | []=>0
 | k::r=>max (xdepth k) (xdepthL r)
end
theorem Yc2 (e:Expr):ecount e=1+ecountL e.kids:=by cases e;simp [ecount,Expr.kids]
theorem Yep (e:Expr):edepth e=1+edepthL e.kids:=by cases e;simp [edepth,Expr.kids]
theorem Yem (f:Formula):fcount f=1+ecountL f.exprs+fcountL f.kids:=by cases f;simp [fcount,Formula.kids,Formula.exprs]
theorem YgY (f:Formula):fdepth f=1+max (edepthL f.exprs) (fdepthL f.kids):=by cases f;simp [fdepth,Formula.kids,Formula.exprs]
theorem YfY (x:Sexpr):xcount x=1+xcountL x.kids:=by cases x;simp [xcount,Sexpr.kids]
theorem YfX (x:Sexpr):xdepth x=xdepthL x.kids+(if x.kind=3 then 1 else 0):=by cases x;rw [xdepth];rfl
theorem YkL {l:List Expr} {x:Expr}:ecountL (l++ [x])=ecountL l+ecount x:=by
 induction l with
 | nil=>simp [ecountL]
 | cons a r ih=>simp only [List.cons_append,ecountL,ih];omega
theorem YkF {l:List Formula} {x:Formula}:fcountL (l++ [x])=fcountL l+fcount x:=by
 induction l with
 | nil=>simp [fcountL]
 | cons a r ih=>simp only [List.cons_append,fcountL,ih];omega
theorem Yjy {l:List Sexpr} {x:Sexpr}:xcountL (l++ [x])=xcountL l+xcount x:=by
 induction l with
 | nil=>simp [xcountL]
 | cons a r ih=>simp only [List.cons_append,xcountL,ih];omega
theorem Yhv {l m:List Expr}:ecountL (l++m)=ecountL l+ecountL m:=by
 induction l with
 | nil=>simp [ecountL]
 | cons a r ih=>simp only [List.cons_append,ecountL,ih];omega
theorem Yht {l m:List Formula}:fcountL (l++m)=fcountL l+fcountL m:=by
 induction l with
 | nil=>simp [fcountL]
 | cons a r ih=>simp only [List.cons_append,fcountL,ih];omega
theorem Ydu {l m:List Sexpr}:xcountL (l++m)=xcountL l+xcountL m:=by
 induction l with
 | nil=>simp [xcountL]
 | cons a r ih=>simp only [List.cons_append,xcountL,ih];omega
theorem Yhi {l m:List Sexpr}:xdepthL (l++m)=max (xdepthL l) (xdepthL m):=by
 induction l with
 | nil=>simp [xdepthL]
 | cons a r ih=>simp only [List.cons_append,xdepthL,ih];omega
theorem Yk3 {l:List Sexpr} {x:Sexpr} (h:x∈l):xcount x<=xcountL l:=by
 induction l with
 | nil=>cases h
 | cons a r ih=>
  simp only [xcountL];rcases List.mem_cons.1 h with rfl | h
  ·omega
  have:=ih h;omega
theorem Yh6 {l:List Expr} {b:Nat}:edepthL l<=b↔∀ x∈l,edepth x<=b:=by
 induction l with
 | nil=>simp [edepthL]
 | cons a r ih=>simp only [edepthL,List.mem_cons,forall_eq_or_imp,Nat.max_le,ih]
theorem Yh5 {l:List Formula} {b:Nat}:fdepthL l<=b↔∀ x∈l,fdepth x<=b:=by
 induction l with
 | nil=>simp [fdepthL]
 | cons a r ih=>simp only [fdepthL,List.mem_cons,forall_eq_or_imp,Nat.max_le,ih]
theorem YeC {l:List Sexpr} {b:Nat}:xdepthL l<=b↔∀ x∈l,xdepth x<=b:=by
 induction l with
 | nil=>simp [xdepthL]
 | cons a r ih=>simp only [xdepthL,List.mem_cons,forall_eq_or_imp,Nat.max_le,ih]
theorem Yc4 {l:List Expr} {x:Expr} (hx:l[k]?=some x):ecountL (l.take (k+1))=ecountL (l.take k)+ecount x:=by
 rw [List.take_add_one,hx];simp only [Option.toList];exact YkL
theorem Yc3 {l:List Expr}:ecountL (l.take k)<=ecountL l:=by
 have h:=Yhv (l:=l.take k) (m:=l.drop k);rw [List.take_append_drop] at h;omega
theorem Yfo {l:List Formula} {x:Formula} (hx:l[k]?=some x):fcountL (l.take (k+1))=fcountL (l.take k)+fcount x:=by
 rw [List.take_add_one,hx];simp only [Option.toList];exact YkF
theorem Yfn {l:List Formula}:fcountL (l.take k)<=fcountL l:=by
 have h:=Yht (l:=l.take k) (m:=l.drop k);rw [List.take_append_drop] at h;omega
theorem Yjx {l:List Sexpr} {x:Sexpr} (hx:l[k]?=some x):xcountL (l.take (k+1))=xcountL (l.take k)+xcount x:=by
 rw [List.take_add_one,hx];simp only [Option.toList];exact Yjy
theorem Yjw {l:List Sexpr}:xcountL (l.take k)<=xcountL l:=by
 have h:=Ydu (l:=l.take k) (m:=l.drop k);rw [List.take_append_drop] at h;omega
mutual
/-- what holds of all parts -/
def EAll (p:Expr->Prop):Expr->Prop
 | .mk op name n args kids=>p (.mk op name n args kids)/\EAllL p kids
def EAllL (p:Expr->Prop):List Expr->Prop
 | []=>True
 | k::r=>EAll p k/\EAllL p r
end
mutual
def FAll (p:Formula->Prop) (q:Expr->Prop):Formula->Prop
 | .mk op name args params exprs kids=>p (.mk op name args params exprs kids)/\EAllL q exprs/\FAllL p q kids
def FAllL (p:Formula->Prop) (q:Expr->Prop):List Formula->Prop
 | []=>True
 | k::r=>FAll p q k/\FAllL p q r
end
mutual
def XAll (p:Sexpr->Prop):Sexpr->Prop
 | .mk kind value line column text kids=>p (.mk kind value line column text kids)/\XAllL p kids
def XAllL (p:Sexpr->Prop):List Sexpr->Prop
 | []=>True
 | k::r=>XAll p k/\XAllL p r
end
theorem Yk1 {p:Expr->Prop} {l:List Expr}:EAllL p l↔∀ k∈l,EAll p k:=by
 induction l with
 | nil=>simp [EAllL]
 | cons a r ih=>simp only [EAllL,ih,List.mem_cons,forall_eq_or_imp]
theorem YqH {p:Formula->Prop} {q:Expr->Prop} {l:List Formula}:FAllL p q l↔∀ k∈l,FAll p q k:=by
 induction l with
 | nil=>simp [FAllL]
 | cons a r ih=>simp only [FAllL,ih,List.mem_cons,forall_eq_or_imp]
theorem YqA {p:Sexpr->Prop} {l:List Sexpr}:XAllL p l↔∀ k∈l,XAll p k:=by
 induction l with
 | nil=>simp [XAllL]
 | cons a r ih=>simp only [XAllL,ih,List.mem_cons,forall_eq_or_imp]
theorem YbT {p:Expr->Prop} {e:Expr}:EAll p e↔p e/\∀ k∈e.kids,EAll p k:=by cases e;simp only [EAll,Yk1,Expr.kids]
theorem XT {p:Formula->Prop} {q:Expr->Prop}:FAll p q f↔p f/\(∀ e∈f.exprs,EAll q e)/\∀ k∈f.kids,FAll p q k:=by cases f;simp only [FAll,YqH,Yk1,Formula.kids,Formula.exprs]
theorem Ybd {p:Sexpr->Prop} {x:Sexpr}:XAll p x↔p x/\∀ k∈x.kids,XAll p k:=by cases x;simp only [XAll,YqA,Sexpr.kids]
end Go.Lx
namespace Go.Lx
open Go
def strOf (l:List UInt8):Bs:=⟨l.toArray⟩
theorem YaE (l:List UInt8):(strOf l).size=l.length:=by simp [strOf,ByteArray.size]
theorem YjJ (a b:List UInt8):strOf a++strOf b=strOf (a++b):=by
 apply ByteArray.ext;simp [strOf,ByteArray.data_append]
theorem strOf_of (s:Bs):strOf s.data.toList=s:=by
 apply ByteArray.ext;simp [strOf]
theorem Yow {a b:List UInt8} (h:strOf a=strOf b):a=b:=by
 have:=congrArg (fun s:Bs=>s.data.toList) h;simpa [strOf] using this
end Go.Lx
namespace Go.Lx
open Go.RowKit
section
variable {P:Program} {cx:Cx} {r:Operand->Option Value} {fz:FZ} {H:HP} {V:Value->Prop} {dst:Option Nat} {ty:TypeId} {pos:String} {af:Array Edge} {gd:Option (Nat × Bool)}
variable {t t':TypeId} {x y:Operand}
theorem XM {a b:Bs} (hx:r x=some (.string a)) (hy:r y=some (.string b)) (hs:a.size+b.size<=9223372036854775807) (h:V (.string (a++b))):
 DoesQ P cx ⟨dst,.binOp .add t x y t',ty,pos,af,gd⟩ r fz H V:=
 YC (fun ρ w hr=>by
  have:¬(9223372036854775807<((a.size:Int)+(b.size:Int))):=by omega
  simp [execOp,hr _ _ hx,hr _ _ hy,eqGuard_at_string,binOp,Op.stringOp,this]) h
theorem Yfh {α:Type} {L:Lay α} {t e:TypeId} {x i:Operand} {X Y:Ty} {A:Option Addr} {n c:Nat} {k:IntKind} {j:Nat} {xs:List α}
 (hs:Sl L fz A n c xs) (h:∀ A',Sl L fz A' (n - j) (c - j) (xs.drop j)->V (.slice A' (n - j) (c - j))) (T:Tab P:=by exact T) (hT:T.inf t=some X:=by exact rfl) (hd:X.desc=.slice e:=by exact rfl) (hY:T.inf e=some Y:=by exact rfl) (hz:Y.size=L.size:=by exact rfl) (hx:r x=some (.slice A n c):=by exact rfl) (hi:r i=some (.int k j):=by exact rfl) (hj:j<=n:=by omega):DoesQ P cx ⟨dst,.slice t x (some i) none none,ty,pos,af,gd⟩ r fz H V:=by
  have h1:=hs.cap;have h2:=hs.max;have h3:=hs.short;have h4:=hs.len;refine YC (v:=.slice (if c=j then A else A.map (·.add (j*Y.size))) (n - j) (c - j)) (fun ρ w hr=>by
   have hu:=run_underlying (und_plain T hT hd rfl) w;have hs:=Lx.run_sizeOf T hY w;simp [execOp,hr _ _ hx,hr _ _ hi,Instr.sliceAt,Instr.slice,Instr.sliceBounds,Instr.sliceBound,asIntOf,hu,hs,hj]
   try omega) (h _ ?_)
  refine ⟨by rw [List.length_drop,h4],by omega,by omega,by omega,?_⟩;rcases hs.elem with h0 | ⟨ad,h5,h6⟩
  ·exact .inl Zi
  by_cases hn:n - j=0
  ·exact .inl hn
  refine .inr ⟨ad.add (j*L.size),?_,fun i d hd=>?_⟩
  ·rw [if_neg Zi,h5,hz];rfl
  rw [List.getElem?_drop] at hd;have:=h6 (j+i) d hd;have e:(ad.add (j*L.size)).add (i*L.size)=ad.add ((j+i)*L.size):=by
   rw [Nat.add_mul];unfold Addr.add;by_cases h7:j*L.size=0
   ·rw [h7];simp
   by_cases h8:i*L.size=0
   ·rw [h8];simp
   simp [h7,h8,Nat.add_assoc]
  rw [e];exact this
theorem YoQ {x y:Operand} {ats:Array TypeId} {k:IntKind} {a b:Int} (h:V (.int k (min a b))) (hx:r x=some (.int k a):=by exact rfl) (hy:r y=some (.int k b):=by exact rfl):
 DoesQ P cx ⟨dst,.call {callee:=.builtin .min,args:=#[x,y],argTypes:=ats},ty,pos,af,gd⟩ r fz H V:=
 YC (fun ρ w hr=>by
  have:(if b<a then b else a)=min a b:=by omega
  simp [execOp,resolve,invoke,builtin,hr _ _ hx,hr _ _ hy,Builtin.min_,Builtin.min2,this]) h
theorem q_neg {k:IntKind} {a c:Int} (hx:r x=some (.int k a)) (hw:k.wrap (0 - a)=c) (h:V (.int k c)):DoesQ P cx ⟨dst,.unOp .neg t x,ty,pos,af,gd⟩ r fz H V:=
 YC (fun ρ w hr=>by simp [execOp,hr _ _ hx,Op.unary,Op.intArith] at hw ⊢;exact hw) h
theorem q_remN {x y:Operand} {t t':TypeId} {a b:Nat} (h:V (Zk (a % b:Nat))) (hx:r x=some (Zk a):=by exact rfl) (hy:r y=some (Zk b):=by exact rfl) (hb:0<b:=by omega):DoesQ P cx ⟨dst,.binOp .rem t x y t',ty,pos,af,gd⟩ r fz H V:=
 YC (fun ρ w hr=>by
  have h0:¬(b:Int)=0:=by omega
  have h1:(a:Int).tmod b=((a % b:Nat):Int):=(Int.ofNat_tmod a b).symm;have h2:(eqGuard .rem t x y (Zk a) (Zk b)).run P w=.ok () w:=by simp [eqGuard]
  have h3:binOp .rem t (Zk a) (Zk b)=Op.intDiv .rem .i64 a b:=by simp [binOp]
  rw [<- h1];simp [execOp,hr _ _ hx,hr _ _ hy,h2,h3,Op.intDiv];omega) h
theorem q_quoN {x y:Operand} {t t':TypeId} {a b:Nat} (h:V (Zk (a / b:Nat))) (hx:r x=some (Zk a):=by exact rfl) (hy:r y=some (Zk b):=by exact rfl) (hb:0<b:=by decide) (ha:a<=9223372036854775807:=by omega):DoesQ P cx ⟨dst,.binOp .quo t x y t',ty,pos,af,gd⟩ r fz H V:=
 YC (fun ρ w hr=>by
  have h0:¬(b:Int)=0:=by omega
  have h1:(a:Int).tdiv b=((a / b:Nat):Int):=(Int.ofNat_tdiv a b).symm;have h2:(eqGuard .quo t x y (Zk a) (Zk b)).run P w=.ok () w:=by simp [eqGuard]
  have h3:binOp .quo t (Zk a) (Zk b)=Op.intDiv .quo .i64 a b:=by simp [binOp]
  have h4:a / b<=a:=Nat.div_le_self a b;have h5:IntKind.i64.wrap ((a:Int).tdiv b)=((a / b:Nat):Int):=by rw [h1];generalize a / b=q at h4;exact Xb Zi
  simp only [execOp,hr _ _ hx,hr _ _ hy,h2,h3,Op.intDiv,Sem.run_bind,Result.andThen_ok,if_neg h0,h5,Sem.run_pure]) h
theorem YoP {src dt e:TypeId} {x:Operand} {X Y Z:Ty} {t':TypeId} {g n c:Nat} {cs:List Value} {f:Nat × Nat} {bs:List UInt8} (i:Nat)
 (h:V (.string (strOf bs))) (T:Tab P:=by exact T) (hX:T.inf src=some X:=by exact rfl) (hXd:X.desc=.slice e:=by exact rfl) (hY:T.inf dt=some Y:=by exact rfl) (hYd:Y.desc=.string:=by exact rfl) (hZ:T.inf e=some Z:=by exact rfl) (hZd:Z.desc=.int .u8:=by exact rfl) (hx:r x=some (Zv g n c):=by exact rfl) (hi:H[i]?=some (g,.cells cs.toArray t' f):=by exact rfl) (hcs:cs.take n=bs.map Yax) (hn:bs.length=n):DoesQ P cx ⟨dst,.convert src dt x,ty,pos,af,gd⟩ r fz H V:=by
  refine DoesQ.of h fun ρ w hr hw=>?_
  have hcell:∀ j,j<n->w.cell? ⟨g,0+j,none⟩=some (.int .u8 ((bs.map fun b=>(b.toNat:Int)).getD j 0)):=fun j hj=>by
   have hj':j<bs.length:=by omega
   rw [Nat.zero_add,hw.cellOwn hi j];have h1:(cs.take n)[j]?=some (Yax bs[j]):=by rw [hcs,List.getElem?_map,List.getElem?_eq_getElem hj'];rfl
   rw [List.getElem?_take,if_pos hj] at h1;simp only [List.getElem?_toArray,h1,Yax];simp [List.getD,hj']
  have hrun:=run_convert_bytes_arg (P:=P) w src e (und_plain T hX hXd rfl) (und_plain T hZ hZd rfl) g 0 n c (bs.map fun b=>(b.toNat:Int)) (by simpa using hn) hcell dt (und_plain T hY hYd rfl);have hs:strOfNums (bs.map fun b=>(b.toNat:Int))=strOf bs:=by simp [strOfNums,Function.comp_def,strOf]
  rw [hs] at hrun;have:(execOp ρ ⟨dst,.convert src dt x,ty,pos,af,gd⟩).run P w=.ok (.value (.string (strOf bs))) w:=by
   simp only [execOp,hr _ _ hx,Sem.run_bind,hrun,Result.andThen_ok,Sem.run_pure]
  rw [this];exact ⟨rfl,Fr.refl _ _⟩
end
end Go.Lx
namespace Go.Proofs.YtacfpcbladaohaaGreatDoor
open Go.Lx
set_option maxRecDepth 100000
theorem allTy_of {P:Program}:∀ l:List (Nat × Ty),(l.map fun p=>(P.underlying p.1).map Lx.blank)=(l.map fun p=>some p.2.desc)->(l.map fun p=>(P.info? p.1).map fun i=>(i.size,i.bytes,i.zero))=(l.map fun p=>some (p.2.size,p.2.bytes,some p.2.zero))->AllTy P l
 |[],_,_=>trivial
 |p::r,h,g=>by
  simp only [List.map_cons,List.cons.injEq] at h g;exact ⟨TyOk.mk' h.1 g.1,allTy_of r h.2 g.2⟩
def tabL:List (Nat × Ty):=[(2,⟨.int .i64,1,8,Zk 0⟩),(3,⟨.int .i64,1,8,Zk 0⟩),(4,⟨.bool,1,1,.bool false⟩),(5,⟨.int .u8,1,1,.int .u8 0⟩),(6,⟨.int .u8,1,1,.int .u8 0⟩),(7,⟨.struct #[fld 2 0,fld 3 1,fld 4 2,fld 6 3],4,24,.agg #[(Zk 0),Zk 0,.bool false,(.int .u8 0)]⟩),(8,⟨.struct #[fld 2 0,fld 3 1,fld 4 2,fld 6 3],4,24,.agg #[(Zk 0),Zk 0,.bool false,(.int .u8 0)]⟩),(9,⟨.string,1,16,Ze⟩),(12,⟨.int .u64,1,8,.int .u64 0⟩),(13,⟨.struct #[fld 9 0,fld 12 1],2,24,.agg #[Ze,(.int .u64 0)]⟩),(14,⟨.struct #[fld 9 0,fld 12 1],2,24,.agg #[Ze,(.int .u64 0)]⟩),(21,⟨.int .i32,1,4,.int .i32 0⟩),(22,⟨.slice 132,1,24,Zn⟩),(23,⟨.slice 106,1,24,Zn⟩),(24,⟨.slice 237,1,24,Zn⟩),(25,⟨.slice 102,1,24,Zn⟩),(26,⟨.slice 110,1,24,Zn⟩),(27,⟨.struct #[fld 9 0,fld 22 1,fld 22 2,fld 23 3,fld 24 4,fld 25 5,fld 26 6],7,160,.agg #[Ze,Zn,Zn,Zn,Zn,Zn,Zn]⟩),(28,⟨.struct #[fld 9 0,fld 22 1,fld 22 2,fld 23 3,fld 24 4,fld 25 5,fld 26 6],7,160,.agg #[Ze,Zn,Zn,Zn,Zn,Zn,Zn]⟩),(29,⟨.slice 67,1,24,Zn⟩),(30,⟨.slice 210,1,24,Zn⟩),(31,⟨.slice 9,1,24,Zn⟩),(32,⟨.slice 61,1,24,Zn⟩),(33,⟨.slice 35,1,24,Zn⟩),(34,⟨.struct #[fld 9 0,fld 9 1,fld 31 2,fld 22 3,fld 32 4,fld 33 5],6,128,.agg #[Ze,Ze,Zn,Zn,Zn,Zn]⟩),(35,⟨.struct #[fld 9 0,fld 9 1,fld 31 2,fld 22 3,fld 32 4,fld 33 5],6,128,.agg #[Ze,Ze,Zn,Zn,Zn,Zn]⟩),(36,⟨.struct #[fld 9 0,fld 9 1,fld 22 2,fld 29 3,fld 30 4,fld 35 5],11,232,.agg #[Ze,Ze,Zn,Zn,Zn,Ze,Ze,Zn,Zn,Zn,Zn]⟩),(37,⟨.struct #[fld 9 0,fld 9 1,fld 22 2,fld 29 3,fld 30 4,fld 35 5],11,232,.agg #[Ze,Ze,Zn,Zn,Zn,Ze,Ze,Zn,Zn,Zn,Zn]⟩),(38,⟨.slice 5,1,24,Zn⟩),(39,⟨.struct #[fld 38 0,fld 35 1],7,152,.agg #[Zn,Ze,Ze,Zn,Zn,Zn,Zn]⟩),(40,⟨.struct #[fld 38 0,fld 35 1],7,152,.agg #[Zn,Ze,Ze,Zn,Zn,Zn,Zn]⟩),(44,⟨.interface #[],1,16,.nilIface⟩),(45,⟨.interface #[],1,16,.nilIface⟩),(48,⟨.slice 56,1,24,Zn⟩),(49,⟨.slice 69,1,24,Zn⟩),(55,⟨.struct #[fld 29 0,fld 30 1],2,48,.agg #[Zn,Zn]⟩),(56,⟨.struct #[fld 29 0,fld 30 1],2,48,.agg #[Zn,Zn]⟩),(60,⟨.struct #[fld 9 0,fld 9 1,fld 3 2,fld 31 3,fld 32 4],5,88,.agg #[Ze,Ze,Zk 0,Zn,Zn]⟩),(61,⟨.struct #[fld 9 0,fld 9 1,fld 3 2,fld 31 3,fld 32 4],5,88,.agg #[Ze,Ze,Zk 0,Zn,Zn]⟩),(66,⟨.struct #[fld 9 0,fld 31 1],2,40,.agg #[Ze,Zn]⟩),(67,⟨.struct #[fld 9 0,fld 31 1],2,40,.agg #[Ze,Zn]⟩),(68,⟨.struct #[fld 3 0,fld 9 1,fld 31 2],3,48,.agg #[(Zk 0),Ze,Zn]⟩),(69,⟨.struct #[fld 3 0,fld 9 1,fld 31 2],3,48,.agg #[(Zk 0),Ze,Zn]⟩),(70,⟨.pointer 124,1,8,.pointer none⟩),(76,⟨.slice 113,1,24,Zn⟩),(77,⟨.map 9 67,1,8,.map none⟩),(78,⟨.map 9 67,1,8,.map none⟩),(79,⟨.slice 114,1,24,Zn⟩),(80,⟨.struct #[fld 70 0,fld 76 1,fld 78 2,fld 79 3,fld 79 4],5,88,.agg #[(.pointer none),Zn,.map none,Zn,Zn]⟩),(81,⟨.struct #[fld 70 0,fld 76 1,fld 78 2,fld 79 3,fld 79 4],5,88,.agg #[(.pointer none),Zn,.map none,Zn,Zn]⟩),(86,⟨.int .i64,1,8,Zk 0⟩),(94,⟨.pointer 160,1,8,.pointer none⟩),(100,⟨.slice 104,1,24,Zn⟩),(101,⟨.struct #[fld 9 0,fld 22 1,fld 3 2,fld 35 3,fld 100 9],10,200,.agg #[Ze,Zn,Zk 0,Ze,Ze,Zn,Zn,Zn,Zn,Zn]⟩),(102,⟨.struct #[fld 9 0,fld 22 1,fld 3 2,fld 35 3,fld 100 9],10,200,.agg #[Ze,Zn,Zk 0,Ze,Ze,Zn,Zn,Zn,Zn,Zn]⟩),(103,⟨.struct #[fld 3 0,fld 22 1,fld 35 2,fld 9 8,fld 31 9,fld 61 10],15,288,.agg #[(Zk 0),Zn,Ze,Ze,Zn,Zn,Zn,Zn,Ze,Zn,Ze,Ze,Zk 0,Zn,Zn]⟩),(104,⟨.struct #[fld 3 0,fld 22 1,fld 35 2,fld 9 8,fld 31 9,fld 61 10],15,288,.agg #[(Zk 0),Zn,Ze,Ze,Zn,Zn,Zn,Zn,Ze,Zn,Ze,Ze,Zk 0,Zn,Zn]⟩),(105,⟨.struct #[fld 9 0,fld 22 1],2,40,.agg #[Ze,Zn]⟩),(106,⟨.struct #[fld 9 0,fld 22 1],2,40,.agg #[Ze,Zn]⟩),(109,⟨.struct #[fld 9 0,fld 22 1,fld 3 2,fld 35 3,fld 35 9,fld 35 15,fld 100 21,fld 100 22],23,480,.agg #[Ze,Zn,Zk 0,Ze,Ze,Zn,Zn,Zn,Zn,Ze,Ze,Zn,Zn,Zn,Zn,Ze,Ze,Zn,Zn,Zn,Zn,Zn,Zn]⟩),(110,⟨.struct #[fld 9 0,fld 22 1,fld 3 2,fld 35 3,fld 35 9,fld 35 15,fld 100 21,fld 100 22],23,480,.agg #[Ze,Zn,Zk 0,Ze,Ze,Zn,Zn,Zn,Zn,Ze,Ze,Zn,Zn,Zn,Zn,Ze,Ze,Zn,Zn,Zn,Zn,Zn,Zn]⟩),(111,⟨.slice 31,1,24,Zn⟩),(112,⟨.struct #[fld 9 0,fld 22 1,fld 35 2,fld 35 8,fld 35 14,fld 35 20,fld 100 26,fld 100 27,fld 4 28,fld 111 29],30,632,.agg #[Ze,Zn,Ze,Ze,Zn,Zn,Zn,Zn,Ze,Ze,Zn,Zn,Zn,Zn,Ze,Ze,Zn,Zn,Zn,Zn,Ze,Ze,Zn,Zn,Zn,Zn,Zn,Zn,.bool false,Zn]⟩),(113,⟨.struct #[fld 9 0,fld 22 1,fld 35 2,fld 35 8,fld 35 14,fld 35 20,fld 100 26,fld 100 27,fld 4 28,fld 111 29],30,632,.agg #[Ze,Zn,Ze,Ze,Zn,Zn,Zn,Zn,Ze,Ze,Zn,Zn,Zn,Zn,Ze,Ze,Zn,Zn,Zn,Zn,Ze,Ze,Zn,Zn,Zn,Zn,Zn,Zn,.bool false,Zn]⟩),(114,⟨.slice 4,1,24,Zn⟩),(118,⟨.pointer 249,1,8,.pointer none⟩),(122,⟨.map 9 4,1,8,.map none⟩),(123,⟨.struct #[fld 28 0,fld 37 7,fld 118 18,fld 22 19,fld 122 20,fld 78 21],22,440,.agg #[Ze,Zn,Zn,Zn,Zn,Zn,Zn,Ze,Ze,Zn,Zn,Zn,Ze,Ze,Zn,Zn,Zn,Zn,.pointer none,Zn,.map none,(.map none)]⟩),(124,⟨.struct #[fld 28 0,fld 37 7,fld 118 18,fld 22 19,fld 122 20,fld 78 21],22,440,.agg #[Ze,Zn,Zn,Zn,Zn,Zn,Zn,Ze,Ze,Zn,Zn,Zn,Ze,Ze,Zn,Zn,Zn,Zn,.pointer none,Zn,.map none,(.map none)]⟩),(131,⟨.struct #[fld 9 0,fld 9 1],2,32,.agg #[Ze,Ze]⟩),(132,⟨.struct #[fld 9 0,fld 9 1],2,32,.agg #[Ze,Ze]⟩),(141,⟨.struct #[fld 3 0],1,8,.agg #[(Zk 0)]⟩),(142,⟨.struct #[fld 3 0],1,8,.agg #[(Zk 0)]⟩),(144,⟨.slice 146,1,24,Zn⟩),(145,⟨.struct #[fld 3 0,fld 3 1,fld 3 2,fld 3 3,fld 9 4,fld 144 5],6,72,.agg #[(Zk 0),Zk 0,Zk 0,Zk 0,Ze,Zn]⟩),(146,⟨.struct #[fld 3 0,fld 3 1,fld 3 2,fld 3 3,fld 9 4,fld 144 5],6,72,.agg #[(Zk 0),Zk 0,Zk 0,Zk 0,Ze,Zn]⟩),(153,⟨.map 9 9,1,8,.map none⟩),(159,⟨.struct #[fld 28 0,fld 37 7,fld 118 18,fld 22 19],20,424,.agg #[Ze,Zn,Zn,Zn,Zn,Zn,Zn,Ze,Ze,Zn,Zn,Zn,Ze,Ze,Zn,Zn,Zn,Zn,.pointer none,Zn]⟩),(160,⟨.struct #[fld 28 0,fld 37 7,fld 118 18,fld 22 19],20,424,.agg #[Ze,Zn,Zn,Zn,Zn,Zn,Zn,Ze,Ze,Zn,Zn,Zn,Ze,Ze,Zn,Zn,Zn,Zn,.pointer none,Zn]⟩),(182,⟨.map 9 22,1,8,.map none⟩),(183,⟨.map 9 237,1,8,.map none⟩),(184,⟨.struct #[fld 28 0,fld 37 7,fld 118 18,fld 182 19,fld 183 20,fld 153 21,fld 22 22],23,448,.agg #[Ze,Zn,Zn,Zn,Zn,Zn,Zn,Ze,Ze,Zn,Zn,Zn,Ze,Ze,Zn,Zn,Zn,Zn,.pointer none,.map none,.map none,.map none,Zn]⟩),(185,⟨.struct #[fld 28 0,fld 37 7,fld 118 18,fld 182 19,fld 183 20,fld 153 21,fld 22 22],23,448,.agg #[Ze,Zn,Zn,Zn,Zn,Zn,Zn,Ze,Ze,Zn,Zn,Zn,Ze,Ze,Zn,Zn,Zn,Zn,.pointer none,.map none,.map none,.map none,Zn]⟩),(186,⟨.slice 3,1,24,Zn⟩),(192,⟨.func #[] #[] false,1,8,.nilFunc⟩),(204,⟨.int .u64,1,8,.int .u64 0⟩),(209,⟨.struct #[fld 67 0,fld 3 2],3,48,.agg #[Ze,Zn,(Zk 0)]⟩),(210,⟨.struct #[fld 67 0,fld 3 2],3,48,.agg #[Ze,Zn,(Zk 0)]⟩),(236,⟨.struct #[fld 9 0,fld 22 1,fld 3 2,fld 3 3],4,56,.agg #[Ze,Zn,Zk 0,(Zk 0)]⟩),(237,⟨.struct #[fld 9 0,fld 22 1,fld 3 2,fld 3 3],4,56,.agg #[Ze,Zn,Zk 0,(Zk 0)]⟩),(245,⟨.slice 22,1,24,Zn⟩),(248,⟨.struct #[fld 153 0],1,8,.agg #[(.map none)]⟩),(249,⟨.struct #[fld 153 0],1,8,.agg #[(.map none)]⟩),(254,⟨.struct #[fld 4 0],1,1,.agg #[(.bool false)]⟩),(255,⟨.struct #[fld 4 0],1,1,.agg #[(.bool false)]⟩),(265,⟨.func #[] #[] false,1,8,.nilFunc⟩),(284,⟨.int .u32,1,4,.int .u32 0⟩),(312,⟨.slice 315,1,24,Zn⟩),(313,⟨.array 3 312,3,72,.agg #[Zn,Zn,Zn]⟩),(314,⟨.struct #[fld 9 0,fld 9 1],2,32,.agg #[Ze,Ze]⟩),(315,⟨.struct #[fld 9 0,fld 9 1],2,32,.agg #[Ze,Ze]⟩),(318,⟨.slice 100,1,24,Zn⟩),(373,⟨.int .u16,1,2,.int .u16 0⟩),(374,⟨.slice 373,1,24,Zn⟩),(376,⟨.slice 284,1,24,Zn⟩)]
theorem tabL_ok:AllTy prog tabL:=allTy_of _ (by kernel_rfl) (by kernel_rfl)
def T:Tab prog:=⟨tabL,tabL_ok,by kernel_rfl⟩
end Go.Proofs.YtacfpcbladaohaaGreatDoor
set_option maxRecDepth 20000
namespace Go.Proofs.YtacfpcbladaohaaGreatDoor
variable {k i j c n g:Nat} {s:Bs} {fz:FZ} {A:Option Addr} {t:TypeId}
def Yac (s:Bs) (i:Nat):Nat:=((s[i]?).map UInt8.toNat).getD 0
theorem YbC (h:k<s.size):∃ b:UInt8,s[k]?=some b/\Yac s k=b.toNat:=by
 refine ⟨s[k],getElem?_pos s k h,?_⟩;simp [Yac,getElem?_pos s k h]
def DigP (n:Int):Prop:=48<=n/\n<=57
instance {n:Int}:Decidable (DigP n):=inferInstanceAs (Decidable (_/\_))
theorem Yjb {n:Int}:QFn prog 273 [.int .u8 n] fz (Zo (decide (DigP n))):=by
 refine qF Tryz.func273 Tryz.ntmps273 (fun w0=>?_);refine wC ?_ ?_<;>intro c1
 ·refine wC ?_ ?_<;>intro c2
  ·exact wR (h:=by exact (Ym ⟨c1,c2⟩))
  exact wR (h:=by exact Yg (fun h=>c2 h.2))
 exact wR (h:=by exact Yg (fun h=>c1 h.1))
def PreP (s p:Bs):Prop:=p.size<=s.size/\s.extract 0 p.size=p
instance {s p:Bs}:Decidable (PreP s p):=inferInstanceAs (Decidable (_/\_))
def YcL (s p:Bs):Bs:=if PreP s p then s.extract p.size s.size else s
theorem Yc1 (h:j<=s.size):(s.extract i j).size=j - i:=by
 simp [ByteArray.size_extract,Nat.min_eq_left h]
theorem Ym5 {p:Bs} (h:Short s):Short (YcL s p):=by
 unfold YcL Short at*;split
 ·rw [Yc1 (Zs _)];omega
 exact h
theorem YgP {p:Bs} (_hs:Short s) (hp:Short p):QFn prog 276 [Zy s,Zy p] fz (Zo (decide (PreP s p))):=by
 unfold Short at hp;refine qF Tryz.func276 Tryz.ntmps276 (fun w0=>?_);refine wC ?_ ?_<;>intro c1
 ·refine wG ?_;refine q_str_to T Zz Zz Zz Zz Zi Zi ?_;refine wC ?_ ?_<;>intro c2
  ·exact wR (h:=by exact (Ym ⟨by omega,by simpa using c2⟩))
  exact wR (h:=by exact Yg (fun h=>c2 (by simpa using h.2)))
 exact wR (h:=by exact Yg (fun h=>by have:=h.1;omega))
theorem Yis {p:Bs} (hs:Short s) (hp:Short p):QFn prog 299 [Zy s,Zy p] fz (Zy (YcL s p)):=by
 refine qF Tryz.func299 Tryz.ntmps299 (fun w0=>?_);refine wb (YgP hs hp) (fun f1=>?_) (fun f1=>?_)
 ·have hc:=Zt f1;have:=hc.1;refine wG ?_;refine YeL ?_ (h1:=by omega);exact wR (h:=by rw [YcL,if_pos hc];rfl)
 have hc:=Zf f1;exact wR (h:=by rw [YcL,if_neg hc])
theorem YjG {p:Bs} (hs:Short s) (hp:Short p):QFn prog 275 [Zy s,Zy p] fz (Zy (YcL s p)):=by
 refine qF Tryz.func275 Tryz.ntmps275 (fun w0=>?_);refine wc (Yis hs hp) ?_;exact wR (h:=rfl)
def Yb7:Bs:=⟨#[45]⟩
def YaC:Bs:=⟨#[]⟩
def NumP (s:Bs):Prop:=(∀ i,i<(YcL s Yb7).size->DigP (Yac (YcL s Yb7) i))/\YcL s Yb7≠YaC
open Classical in
theorem Yo0 (hs:Short s):QFn prog 223 [Zy s] fz (Zo (decide (NumP s))):=by
 refine qF Tryz.func223 Tryz.ntmps223 (fun w0=>?_);refine wG ?_;refine Yu (YjG (p:=Yb7) hs (by unfold Short Yb7;decide)) ?_;have hz:(YcL s Yb7).size<=9223372036854775807:=Ym5 hs;refine zW ?_;refine XW ((YcL s Yb7).size) (fun k=>[(8,Zk k),(7,Zk (YcL s Yb7).size),(0,Zy (YcL s Yb7))]) [] (fun k=>(∀ i,i<k->DigP (Yac (YcL s Yb7) i))) (fun i hi=>absurd hi Zi) ?_;intro k hk hh;refine wC (fun hlt=>?_) (fun hge=>?_)
 ·refine zW ?_;obtain ⟨b,hb,hb2⟩:=YbC (s:=YcL s Yb7) (k:=k) Zi
  ((refine zG ?_);refine Wc ?_ (hb:=by rw [Int.toNat_natCast];exact hb));refine wb (Yjb (n:=b.toNat)) (fun f1=>?_) (fun f1=>?_)
  ·exact wM (h:=by exact Y9 hh (by rw [hb2];exact Zt f1))
  exact wR (h:=by exact Yg (fun h=>Zf f1 (by rw [<- hb2];exact h.1 k Zi)))
 refine wC ?_ ?_<;>intro c1
 ·exact wR (h:=by exact (Ym ⟨fun i hi=>hh i Zi,c1⟩))
 exact wR (h:=by exact Yg (fun h=>h.2 c1))
open Classical in
theorem Ymz {l:List Bs} {x:Bs} (h1:Sl strL fz A n c l):
 QFn prog 154 [Zc A n c,Zy x] fz (Zk (WU (fun y=>x=y) l 0)):=by
 refine qF Tryz.func154 Tryz.ntmps154 (fun w0=>?_);have l1:=h1.len;have hm:=h1.short;refine zW ?_;refine XW n (fun k=>[(8,Zk k),(7,Zk n),(0,Zc A n c),(1,Zy x)]) [] (fun k=>(∀ i,i<k->∀ y,l[i]?=some y->¬x=y)) (fun i hi=>absurd hi Zi) ?_;intro k hk hh;refine wC (fun hlt=>?_) (fun hge=>?_)
 ·refine zW ?_;obtain ⟨y,hy⟩:=Yc (l:=l) (k:=k) Zi;refine zI h1 hy (fun a ha=>?_);refine zH ha (fun iy=>?_);refine wC ?_ ?_<;>intro c1
  ·exact wR (h:=by rw [Xg hh hy c1,Int.zero_add])
  exact wM (h:=by exact Yx hh hy c1)
 exact wR (h:=by rw [YR (YQ hh Zi)])
open Classical in
theorem YdQ {l:List Bs} {x:Bs} (h1:Sl strL fz A n c l):
 QFn prog 212 [Zc A n c,Zy x] fz (Zo (decide (x∈l))):=by
 refine qF Tryz.func212 Tryz.ntmps212 (fun w0=>?_);refine wc (Ymz h1) ?_;refine zC ?_ ?_<;>intro c1
 ·exact wR (h:=by exact Ym (by obtain ⟨y,h,e⟩:=(YN (Int.le_refl 0)).1 c1;rw [e];exact h))
 exact wR (h:=by exact Yg (fun h=>c1 ((YN (Int.le_refl 0)).2 ⟨x,h,rfl⟩)))
theorem sl_strs {f:Nat × Nat} {l:List Bs} (h:fz g=some (.cells (l.map Value.string).toArray t f)) (hs:∀ s∈l,Short s) (hn:l.length<=140737488355328):Sl strL fz (some ⟨g,0,none⟩) l.length l.length l:=
 ⟨rfl,Zs _,by omega,hn,.inr ⟨_,rfl,fun i d hd=>⟨[Zy d],⟨rfl,hs d (Zm hd)⟩,fun j v hv=>by
  have hadd:((⟨g,0,none⟩:Addr).add (i*strL.size)).add j=⟨g,i+j,none⟩:=by
   show ((⟨g,0,none⟩:Addr).add (i*1)).add j=_;unfold Addr.add;split<;>split<;>simp_all
  rw [hadd];cases j with
  | zero=>simp at hv;subst hv;simp [Ycd,h,hd]
  | succ j=>simp at hv⟩⟩⟩
def Ybq:List Bs:=[⟨#[97,110,100]⟩,⟨#[111,114]⟩,⟨#[110,111,116]⟩,⟨#[105,109,112,108,121]⟩,⟨#[102,111,114,97,108,108]⟩,⟨#[101,120,105,115,116,115]⟩,⟨#[119,104,101,110]⟩,⟨#[97,115,115,105,103,110]⟩,⟨#[105,110,99,114,101,97,115,101]⟩,⟨#[100,101,99,114,101,97,115,101]⟩,⟨#[111,98,106,101,99,116]⟩]
theorem Ynf:GFn prog 219 [] fz [] (fun v fz' H'=>H'=[]/\∃ A,v=Zc A 11 11/\Sl strL fz' A 11 11 Ybq):=by
 refine zF Tryz.func219 Tryz.ntmps219 (fun w0=>?_);refine zW ?_;refine Ya (Yb (cs:=Ybq.map Value.string) (fun g=>?_));refine zW ?_;exact Yb3 rfl rfl (fun fz' hle hf=>⟨rfl,_,rfl,sl_strs (l:=Ybq) (hf _ (.head _)) (by intro s hs;simp only [Ybq,List.mem_cons,List.not_mem_nil,or_false] at hs;rcases hs with rfl | rfl | rfl | rfl | rfl | rfl | rfl | rfl | rfl | rfl | rfl<;>(unfold Short;decide)) Zh⟩)
def LetP (n:Int):Prop:=97<=n/\n<=122
def Ybf (s:Bs) (i:Nat):Prop:=LetP (Yac s i)\/(i≠0/\(DigP (Yac s i)\/(Yac s i:Int)=45\/(Yac s i:Int)=95))
def YZ (s:Bs):Prop:=(∀ i,i<s.size->Ybf s i)/\s≠YaC/\s.size<=32/\s ∉ Ybq
open Classical in
theorem Ya2 (hs:Short s):QFn prog 123 [Zy s] fz (Zo (decide (YZ s))):=by
 have hz:s.size<=9223372036854775807:=hs;refine qF Tryz.func123 Tryz.ntmps123 (fun w0=>?_);refine zW ?_;refine XW (s.size) (fun k=>[(8,Zk k),(7,Zk s.size),(0,Zy s)]) [] (fun k=>(∀ i,i<k->Ybf s i)) (fun i hi=>absurd hi Zi) ?_;intro k hk hh;refine wC (fun hlt=>?_) (fun hge=>?_)
 ·refine zW ?_;obtain ⟨b,hb,hb2⟩:=YbC (s:=s) (k:=k) Zi;have bad:¬Ybf s k->¬YZ s:=fun h hc=>h (hc.1 k Zi)
  ((refine zG ?_);refine Wc ?_ (hb:=by rw [Int.toNat_natCast];exact hb));refine wC ?_ ?_<;>intro c1
  ·refine wC ?_ ?_<;>intro c2
   ·exact wM (h:=by exact Y9 hh (by rw [Ybf,hb2];exact .inl ⟨c1,c2⟩))
   have nl:¬LetP b.toNat:=fun h=>c2 h.2
   refine wC ?_ ?_<;>intro c3
   ·exact wR (h:=by exact Yg (bad (by rw [Ybf,hb2];intro h;rcases h with h | h;exact nl h;omega)))
   refine wC ?_ ?_<;>intro c4
   ·refine wC ?_ ?_<;>intro c5
    ·refine wC ?_ ?_<;>intro c6
     ·exact wR (h:=by exact Yg (bad (by rw [Ybf,hb2];unfold DigP;intro h;rcases h with h | ⟨_,h | h | h⟩;exact nl h;omega;omega;omega)))
     exact wM (h:=by exact Y9 hh (by rw [Ybf,hb2];right;refine ⟨by omega,?_⟩;omega))
    exact wM (h:=by exact Y9 hh (by rw [Ybf,hb2];right;refine ⟨by omega,?_⟩;omega))
   refine wC ?_ ?_<;>intro c7
   ·refine wC ?_ ?_<;>intro c5
    ·refine wC ?_ ?_<;>intro c6
     ·exact wR (h:=by exact Yg (bad (by rw [Ybf,hb2];unfold DigP;intro h;rcases h with h | ⟨_,h | h | h⟩;exact nl h;omega;omega;omega)))
     exact wM (h:=by exact Y9 hh (by rw [Ybf,hb2];right;refine ⟨by omega,?_⟩;omega))
    exact wM (h:=by exact Y9 hh (by rw [Ybf,hb2];right;refine ⟨by omega,?_⟩;omega))
   exact wM (h:=by exact Y9 hh (by rw [Ybf,hb2];right;refine ⟨by omega,?_⟩;unfold DigP;omega))
  have nl:¬LetP b.toNat:=fun h=>c1 h.1
  refine wC ?_ ?_<;>intro c3
  ·exact wR (h:=by exact Yg (bad (by rw [Ybf,hb2];intro h;rcases h with h | h;exact nl h;omega)))
  refine wC ?_ ?_<;>intro c4
  ·refine wC ?_ ?_<;>intro c5
   ·refine wC ?_ ?_<;>intro c6
    ·exact wR (h:=by exact Yg (bad (by rw [Ybf,hb2];unfold DigP;intro h;rcases h with h | ⟨_,h | h | h⟩;exact nl h;omega;omega;omega)))
    exact wM (h:=by exact Y9 hh (by rw [Ybf,hb2];right;refine ⟨by omega,?_⟩;omega))
   exact wM (h:=by exact Y9 hh (by rw [Ybf,hb2];right;refine ⟨by omega,?_⟩;omega))
  refine wC ?_ ?_<;>intro c7
  ·refine wC ?_ ?_<;>intro c5
   ·refine wC ?_ ?_<;>intro c6
    ·exact wR (h:=by exact Yg (bad (by rw [Ybf,hb2];unfold DigP;intro h;rcases h with h | ⟨_,h | h | h⟩;exact nl h;omega;omega;omega)))
    exact wM (h:=by exact Y9 hh (by rw [Ybf,hb2];right;refine ⟨by omega,?_⟩;omega))
   exact wM (h:=by exact Y9 hh (by rw [Ybf,hb2];right;refine ⟨by omega,?_⟩;omega))
  exact wM (h:=by exact Y9 hh (by rw [Ybf,hb2];right;refine ⟨by omega,?_⟩;unfold DigP;omega))
 refine wC ?_ ?_<;>intro c1
 ·refine wC ?_ ?_<;>intro c2
  ·refine zW ?_;refine Wy (Yh [] [] Zz Ynf (fun v fz2 H2 hle2 hR=>?_));obtain ⟨rfl,A,rfl,hsl⟩:=hR;refine wb (YdQ (x:=s) hsl) (fun f1=>?_) (fun f1=>?_)
   ·exact wR (h:=by exact Yg (fun h=>h.2.2.2 (Zt f1)))
   exact wR (h:=by exact (Ym ⟨fun i hi=>hh i Zi,c1,by omega,Zf f1⟩))
  exact wR (h:=by exact Yg (fun h=>by have:=h.2.2.1;omega))
 exact wR (h:=by exact Yg (fun h=>h.2.1 c1))
def VarP (s:Bs):Prop:=1<s.size/\s.size<=32/\(Yac s 0:Int)=63/\YZ (s.extract 1 s.size)
def Yfb (s:Bs):Prop:=YZ s\/VarP s
def YaJ:Bs:=⟨#[111,98,106,101,99,116]⟩
def YdB (s:Bs):Prop:=YZ s\/s=YaJ
open Classical in
theorem Yc9 (hs:Short s):QFn prog 127 [Zy s] fz (Zo (decide (VarP s))):=by
 have hz:s.size<=9223372036854775807:=hs;refine qF Tryz.func127 Tryz.ntmps127 (fun w0=>?_);refine wC ?_ ?_<;>intro c1
 ·refine wC ?_ ?_<;>intro c2
  ·refine zW ?_;obtain ⟨b,hb,hb2⟩:=YbC (s:=s) (k:=0) Zi;refine zG ?_;refine Wc ?_ (hb:=hb);refine wC ?_ ?_<;>intro c3
   ·refine wG ?_;refine YeL ?_ (h1:=by omega);refine wG ?_;refine Xu (Ya2 (s:=s.extract 1 s.size) (by unfold Short;rw [Yc1 (Zs _)];omega)) (fun f1=>?_) (fun f1=>?_)
    ·exact wR (h:=by exact (Ym ⟨by omega,by omega,by rw [hb2];exact c3,Zt f1⟩))
    exact wR (h:=by exact Yg (fun h=>Zf f1 h.2.2.2))
   exact wR (h:=by exact Yg (fun h=>c3 (by rw [<- hb2];exact h.2.2.1)))
  exact wR (h:=by exact Yg (fun h=>by have:=h.2.1;omega))
 exact wR (h:=by exact Yg (fun h=>by have:=h.1;omega))
open Classical in
theorem term_q (hs:Short s):QFn prog 126 [Zy s] fz (Zo (decide (Yfb s))):=by
 refine qF Tryz.func126 Tryz.ntmps126 (fun w0=>?_);refine wb (Ya2 hs) (fun f1=>?_) (fun f1=>?_)
 ·exact wR (h:=by exact Ym (.inl (Zt f1)))
 refine wb (Yc9 hs) (fun f2=>?_) (fun f2=>?_)
 ·exact wR (h:=by exact Ym (.inr (Zt f2)))
 exact wR (h:=by exact Yg (fun h=>h.elim (Zf f1) (Zf f2)))
open Classical in
theorem dterm_q (hs:Short s):QFn prog 319 [Zy s] fz (Zo (decide (Yfb s))):=by
 refine qF Tryz.func319 Tryz.ntmps319 (fun w0=>?_);refine wb (Ya2 hs) (fun f1=>?_) (fun f1=>?_)
 ·exact wR (h:=by exact Ym (.inl (Zt f1)))
 refine wb (Yc9 hs) (fun f2=>?_) (fun f2=>?_)
 ·exact wR (h:=by exact Ym (.inr (Zt f2)))
 exact wR (h:=by exact Yg (fun h=>h.elim (Zf f1) (Zf f2)))
open Classical in
theorem typed_q (hs:Short s):QFn prog 128 [Zy s] fz (Zo (decide (YdB s))):=by
 refine qF Tryz.func128 Tryz.ntmps128 (fun w0=>?_);refine wb (Ya2 hs) (fun f1=>?_) (fun f1=>?_)
 ·exact wR (h:=by exact Ym (.inl (Zt f1)))
 refine wC ?_ ?_<;>intro c2
 ·exact wR (h:=by exact Ym (.inr c2))
 exact wR (h:=by exact Yg (fun h=>h.elim (Zf f1) c2))
end Go.Proofs.YtacfpcbladaohaaGreatDoor
namespace Go.Lx
theorem wrapU32 {n:Int} (h:0<=n/\n<=4294967295):IntKind.u32.wrap n=n:=by
 show n % 4294967296=n;omega
theorem wrapU8 {n:Int} (h:0<=n/\n<=255):IntKind.u8.wrap n=n:=by
 show n % 256=n;omega
theorem YnY {n:Int} (h:0<=n/\n<=2147483647):IntKind.i32.wrap n=n:=by
 have e1:n % 4294967296=n:=by omega
 have e2:¬(n>=2147483648):=by omega
 simp [IntKind.wrap,IntKind.bits,IntKind.signed,e1];omega
end Go.Lx
namespace Go.Proofs.YtacfpcbladaohaaGreatDoor
variable {fz:FZ} {Hs:HP} {n c:Nat} {v:Value} {s:Bs} {A:Option Addr}
def PlnB (b:UInt8):Prop:=32<=b.toNat/\b.toNat<=126/\b.toNat≠34/\b.toNat≠92
def PlnS (s:Bs):Prop:=s.size<=1000/\∀ b∈s.data.toList,PlnB b
def Yb4 (l:List UInt8):List UInt8:=34::(l++ [34])
def Yal (s:Bs):Bs:=strOf (Yb4 s.data.toList)
theorem YpC {n:Int} (h:32<=n/\n<=126):QFn prog 315 [.int .i32 n] fz (Zo true):=by
 refine qF Tryz.func315 Tryz.ntmps315 (fun w0=>?_);refine wC ?_ ?_<;>intro x1
 ·refine wC ?_ ?_<;>intro x2
  ·refine wC ?_ ?_<;>intro x3
   ·exact wR (h:=rfl)
   omega
  omega
 omega
theorem YkU {xs:List Value} {b:UInt8} (ho:OwnS 5 1 v n xs Hs) (hb:b.toNat<=126) (hn:n<=2000000):
 GFn prog 317 [v,.int .i32 b.toNat] fz Hs (fun r fz' H'=>OwnS 5 1 r (n+1) (xs++ [Yax b]) H'):=by
 obtain ⟨A,c,rfl,_,_⟩:=ho.form;refine zF Tryz.func317 Tryz.ntmps317 (fun w0=>?_);refine wG ?_;refine Yao ?_ (hw:=wrapU32 Zi);refine wC ?_ ?_<;>intro x1
 ·refine wG ?_;refine Yao ?_ (hw:=wrapU8 Zi);refine Ya (Yb (cs:=[Yax b]) (fun gb=>?_));refine Ya (Ycz (Hr:=[_]) (news:=[Yax b]) (Zr _) (YeI (.head _)) (fun v' Hs' hO'=>?_) (ho:=ho) (hl:=rfl) (h1:=by intro u hu;simp at hu;subst hu;rfl));obtain ⟨A',c',rfl,_,_⟩:=hO'.form;refine zW ?_;exact Yd2 (H':=Hs') (H2:=[_]) rfl rfl Zq (fun fz3 hle3 _=>hO')
 omega
theorem decode_q {b:UInt8} (hs:s[0]?=some b) (hz:s.size<=1000) (hb:b.toNat<=126):QFn prog 300 [Zy s] fz (.tuple #[.int .i32 b.toNat,Zk 1]):=by
 have hp:0<s.size:=by
  cases Nat.eq_zero_or_pos s.size with
  | inl h=>rw [getElem?_neg s 0 Zi] at hs;cases hs
  | inr h=>exact h
 have hne:¬s=⟨#[]⟩:=fun h=>by rw [h] at hp;exact absurd hp Zh
 refine qF Tryz.func300 Tryz.ntmps300 (fun w0=>?_);refine wG ?_;refine Wc ?_ (hb:=by exact hs);refine wC ?_ ?_<;>intro x1
 ·refine wG ?_;refine Wc ?_ (hb:=by exact hs);refine wG ?_;refine Yao ?_ (hw:=YnY Zi);exact wS (h:=rfl)
 omega
theorem Yp6 {xs:List Value} {b:UInt8} (ho:OwnS 5 1 v n xs Hs) (hb:PlnB b) (hn:n<=2000000):
 GFn prog 301 [v,.int .i32 b.toNat,.int .u8 34,Zo false,Zo false] fz Hs (fun r fz' H'=>OwnS 5 1 r (n+1) (xs++ [Yax b]) H'):=by
 obtain ⟨h1,h2,h3,h4⟩:=hb;obtain ⟨A,c,rfl,_,_⟩:=ho.form;refine zF Tryz.func301 Tryz.ntmps301 (fun w0=>?_);refine wG ?_;refine Yao ?_ (hw:=YnY Zi);refine wC ?_ ?_<;>intro x1
 ·omega
 refine wC ?_ ?_<;>intro x2
 ·omega
 refine wG ?_;refine Yu (YpC (n:=b.toNat) Zi) ?_;refine zW ?_;refine Ya (Yh Hs [] ((List.append_nil _).symm) (YkU ho h2 hn) (fun v6 fz6 H6 hle6 hR6=>?_));obtain ⟨A',c',rfl,_,_⟩:=hR6.form;refine zW ?_;exact Yd2 (H':=H6) (H2:=[]) rfl rfl (Zr _) (fun fz3 hle3 _=>hR6)
theorem Ym6 {b:UInt8} {r:List UInt8}:(strOf (b::r)).extract 1 (strOf (b::r)).size=strOf r:=by
 apply ByteArray.ext;rw [ByteArray.data_extract];simp [strOf,ByteArray.size]
theorem Ym7 {b:UInt8} {r:List UInt8}:(strOf (b::r))[0]?=some b:=by
 rw [getElem?_pos _ 0 (by rw [YaE];simp)];rfl
set_option maxHeartbeats 2000000 in
theorem quoted_f (ho:OwnS 5 1 (Zc A 0 c) 0 [] Hs) (hc:s.size<=c) (hs:PlnS s):
 GFn prog 277 [Zc A 0 c,Zy s,.int .u8 34,Zo false,Zo false] fz Hs (fun r fz' H'=>OwnS 5 1 r (s.size+2) ((Yb4 s.data.toList).map Yax) H'):=by
 obtain ⟨hz,hpl⟩:=hs;obtain ⟨_,_,e,_,hc2⟩:=ho.form;injection e with _ _ e3
 subst e3;refine zF Tryz.func277 Tryz.ntmps277 (fun w0=>?_);refine wG ?_;refine Yll T Zz Zz Zz ?_;refine wC ?_ ?_<;>intro x1
 ·omega
 refine zW ?_;refine Ya (Yb (cs:=[Yax 34]) (fun gb=>?_));refine Ya (Ycz (Hr:=[_]) (news:=[Yax 34]) (Zr _) (YeI (.head _)) (fun v1 Hs1 hO1=>?_) (ho:=ho) (hl:=rfl) (h1:=by intro u hu;simp at hu;subst hu;rfl));obtain ⟨A1,c1,rfl,_,_⟩:=hO1.form;refine zW ?_;refine Yi (fun q σ fz' H'=>∃ (done rest:List UInt8) (v:Value) (Hs':HP),s.data.toList=done++rest/\q=rest.length/\σ=[(0,v),(1,Zy (strOf rest)),(2,.int .u8 34),(3,Zo false),(4,Zo false)]/\Le fz fz'/\H'=Hs'/\OwnS 5 1 v (done.length+1) ((34::done).map Yax) Hs') ⟨[],s.data.toList,_,Hs1,rfl,rfl,rfl,Zd,rfl,hO1⟩ (by rw [strOf_of];exact ⟨rfl,rfl,rfl,rfl,rfl,trivial⟩) (List.sublist_append_right _ _) ?_;rintro q σ fz1 H' ⟨done,rest,v,Hs',hdr,rfl,rfl,hl1,rfl,hO⟩;obtain ⟨A',c',rfl,_,_⟩:=hO.form;have hln:done.length+rest.length=s.size:=by
  have:=congrArg List.length hdr;rw [List.length_append,Array.length_toList] at this;exact this.symm
 refine wC ?_ ?_<;>intro c2
 ·rw [YaE] at c2;cases rest with
  | nil=>simp at c2
  | cons b r=>
   have hb:PlnB b:=hpl b (by rw [hdr];simp);have e1:(1:Int)=1:=rfl;refine wG ?_;refine Yu (decode_q (s:=strOf (b::r)) Ym7 (by rw [YaE];omega) hb.2.1) ?_;refine wC ?_ ?_<;>intro x5
   ·have:=hb.2.1;omega
   refine zW ?_;refine Ya (Yh H' [] ((List.append_nil _).symm) (Yp6 hO hb Zi) (fun v6 fz6 H6 hle6 hR6=>?_));obtain ⟨A6,c6,rfl,_,_⟩:=hR6.form;refine wG ?_;refine YeL ?_ (h1:=by rw [YaE];simp;omega);rw [show (strOf (b::r)).extract (Int.toNat 1) (strOf (b::r)).size=strOf r from Ym6];refine zW ?_;exact Wr ⟨done++ [b],r,_,_,by rw [hdr];simp,rfl,rfl,hl1.trans hle6,rfl,by simpa using hR6⟩ (by simp) Zw (by simp)
 rw [YaE] at c2;have hnil:rest=[]:=List.eq_nil_of_length_eq_zero Zi;subst hnil;rw [List.append_nil] at hdr;refine zW ?_;refine Ya (Yb (cs:=[Yax 34]) (fun gb=>?_));refine Ya (Ycz (Hr:=[_]) (news:=[Yax 34]) (Zr _) (YeI (.head _)) (fun v3 Hs3 hO3=>?_) (ho:=hO) (hl:=rfl) (h1:=by intro u hu;simp at hu;subst hu;rfl));obtain ⟨A3,c3,rfl,_,_⟩:=hO3.form;refine zW ?_;refine Yd2 (H':=Hs3) (H2:=[_]) rfl rfl Zq (fun fz3 hle3 _=>?_);have e1:done.length+1+1=s.size+2:=by simp at hln;omega
 have e2:(34::done).map Yax++ [Yax 34]=(Yb4 s.data.toList).map Yax:=by rw [hdr];simp [Yb4]
 rw [<- e1,<- e2];exact hO3
theorem Ylf (hs:PlnS s):QFn prog 225 [Zy s,.int .u8 34,Zo false,Zo false] fz (Zy (Yal s)):=by
 have hz:=hs.1;refine qF Tryz.func225 Tryz.ntmps225 (fun w0=>?_);refine wG ?_;refine YjY (c:=((3*s.size:Nat):Int)) Zz Zz (by rw [Xb Zi];omega) ?_;refine zG ?_;refine q_quoN (a:=3*s.size) (b:=2) ?_;refine Ya (YdM (l:=0) (c:=3*s.size / 2) (Z0 _) (fun g=>?_));refine zW ?_;refine Ya (Yh [(g,_)] [] Zz (quoted_f (A:=some ⟨g,0,none⟩) (c:=3*s.size / 2) ⟨by simp,.inr ⟨g,3*s.size / 2,(repZ [Value.int .u8 0] (3*s.size / 2)).toArray,rfl,rfl,Z0 _,by unfold maxLen;omega,by rw [List.size_toArray,YiB];rfl,by simp⟩⟩ Zi hs) (fun v6 fz6 H6 hle6 hR6=>?_));rcases hR6.2 with ⟨_,h0,_⟩ | ⟨g6,cap6,cur6,rfl,rfl,h61,h62,h63,h64⟩
 ·omega
 obtain ⟨curl,rfl⟩:∃ cl:List Value,cur6=cl.toArray:=⟨cur6.toList,by simp⟩;refine wG ?_;refine YoP 0 (bs:=Yb4 s.data.toList) ?_ (hcs:=by simpa using h64) (hn:=by unfold Yb4;rw [List.length_cons,List.length_append,Array.length_toList];rfl);exact wR (h:=rfl)
theorem YoL (hs:PlnS s):QFn prog 143 [Zy s] fz (Zy (Yal s)):=by
 refine qF Tryz.func143 Tryz.ntmps143 (fun w0=>?_);refine wc (Ylf hs) ?_;exact wR (h:=rfl)
end Go.Proofs.YtacfpcbladaohaaGreatDoor
namespace Go.Lx
open Go.RowKit
def Xc:List (Bs × Value)->Nat->List MapEntry
 | [],_=>[]
 | (k,v)::r,i=>⟨.string k,v,i⟩::Xc r (i+1)
def mapS (m:List (Bs × Value)):Obj:=.map (Xc m 0).toArray m.length
theorem YdP:∀ (m:List (Bs × Value)) (i:Nat),(Xc m i).length=m.length
 | [],_=>rfl
 | (k,v)::r,i=>by simp [Xc,YdP r]
theorem YbA:∀ (m:List (Bs × Value)) (i j:Nat),(Xc m i)[j]?=(m[j]?).map fun p=>⟨.string p.1,p.2,i+j⟩
 | [],_,_=>by simp [Xc]
 | (k,v)::r,i,0=>by simp [Xc]
 | (k,v)::r,i,j+1=>by
  simp only [Xc,List.getElem?_cons_succ,YbA r (i+1) j];rw [show i+1+j=i+(j+1) from by omega]
theorem Ydy:∀ (m:List (Bs × Value)) (k:Bs) (v:Value) (i:Nat),Xc (m++ [(k,v)]) i=Xc m i++ [⟨.string k,v,i+m.length⟩]
 | [],k,v,i=>by simp [Xc]
 | (a,b)::r,k,v,i=>by
  simp only [List.cons_append,Xc,Ydy r k v (i+1),List.length_cons];rw [show i+1+r.length=i+(r.length+1) from by omega]
def fndS:List (Bs × Value)->Bs->Nat->Option (Nat × Value)
 | [],_,_=>none
 | (k,v)::r,x,i=>if x=k then some (i,v) else fndS r x (i+1)
theorem Yat:∀ (m:List (Bs × Value)) (x:Bs) (i j:Nat) (v:Value),fndS m x i=some (j,v)->i<=j/\m[j - i]?=some (x,v)
 | [],_,_,_,_,h=>by cases h
 | (k,u)::r,x,i,j,v,h=>by
  unfold fndS at h;split at h
  ·rename_i hk;injection h with h;injection h with h1 h2;subst h1 h2 hk;simp
  obtain ⟨h1,h2⟩:=Yat r x (i+1) j v h;exact ⟨by omega,by rw [show j - i=(j - (i+1))+1 from by omega];simpa using h2⟩
theorem YgU:∀ (m:List (Bs × Value)) (x:Bs) (i:Nat),fndS m x i=none->∀ p∈m,p.1≠x
 | [],_,_,_,p,hp=>by cases hp
 | (k,u)::r,x,i,h,p,hp=>by
  unfold fndS at h;split at h
  ·cases h
  rename_i hk;cases hp with
  | head=>exact fun he=>hk he.symm
  | tail _ hp=>exact YgU r x (i+1) h p hp
theorem bytes_beq (a b:Bs):(a==b)=decide (a=b):=by
 have h1:(a==b)=(a.data==b.data):=rfl;rw [h1,Bool.eq_iff_iff,beq_iff_eq,decide_eq_true_iff];exact ⟨fun h=>by cases a;cases b;simp at h;rw [h],fun h=>by rw [h]⟩
theorem YgX:∀ (m:List (Bs × Value)) (x:Bs) (i j:Nat),Instr.findNow .string (.string x) (Xc m j) i=some (fndS m x i)
 | [],_,_,_=>rfl
 | (k,v)::r,x,i,j=>by
  simp only [Xc,Instr.findNow,Instr.sameNow,fndS];by_cases h:x=k
  ·subst h;simp [bytes_beq]
  have:(x==k)=false:=by rw [bytes_beq];simpa using h
  simp only [this,if_neg h];exact YgX r x (i+1) (j+1)
def updS (m:List (Bs × Value)) (x:Bs) (v:Value):List (Bs × Value):=match fndS m x 0 with
 | some (i,_)=>m.set i (x,v)
 | none=>m++ [(x,v)]
theorem Yg0:∀ (m:List (Bs × Value)) (i j:Nat) (x:Bs) (v:Value),Xc (m.set i (x,v)) j=(Xc m j).modify i fun e=>{e with key:=.string x,val:=v}
 | [],i,j,x,v=>by simp [Xc]
 | (a,b)::r,0,j,x,v=>by simp [Xc]
 | (a,b)::r,i+1,j,x,v=>by simp [Xc,Yg0 r i (j+1) x v]
def valS (m:List (Bs × Value)) (x:Bs):Option Value:=(fndS m x 0).map (·.2)
theorem Yh3:∀ (m:List (Bs × Value)) (x:Bs) (i j:Nat),(fndS m x i).map (·.2)=(fndS m x j).map (·.2)
 | [],_,_,_=>rfl
 | (k,v)::r,x,i,j=>by
  unfold fndS;split
  ·rfl
  exact Yh3 r x (i+1) (j+1)
theorem valS_nil (x:Bs):valS [] x=none:=rfl
theorem YaU (k:Bs) (v:Value) (r:List (Bs × Value)) (x:Bs):valS ((k,v)::r) x=if x=k then some v else valS r x:=by
 unfold valS;rw [fndS];split
 ·rfl
 exact Yh3 r x 1 0
theorem Yk7 (m:List (Bs × Value)) (k:Bs) (v:Value) (x:Bs) (h:valS m k=none):valS (m++ [(k,v)]) x=if x=k then some v else valS m x:=by
 induction m with
 | nil=>rw [List.nil_append,YaU]
 | cons p r ih=>
  obtain ⟨a,u⟩:=p;rw [YaU] at h;split at h
  ·cases h
  rename_i hk;rw [List.cons_append,YaU,YaU,ih h];split
  ·rename_i hx;rw [if_neg (fun h0=>hk (by rw [<- h0,hx]))]
  rfl
theorem valS_set (m:List (Bs × Value)) (i:Nat) (k:Bs) (v u:Value) (x:Bs) (h:fndS m k 0=some (i,u)):valS (m.set i (k,v)) x=if x=k then some v else valS m x:=by
 have key:∀ (m:List (Bs × Value)) (i j:Nat),fndS m k j=some (i+j,u)->valS (m.set i (k,v)) x=if x=k then some v else valS m x:=by
  intro m
  induction m with
  | nil=>intro i j h;cases h
  | cons p r ih=>
   obtain ⟨a,w⟩:=p;intro i j h;unfold fndS at h;split at h
   ·rename_i hk;injection h with h;injection h with h1 h2
    have:i=0:=by omega
    subst this hk;rw [List.set_cons_zero,YaU,YaU];split<;>rfl
   rename_i hk;have h3:=Yat r k (j+1) (i+j) u h;obtain ⟨i',rfl⟩:∃ i',i=i'+1:=⟨i - 1,by omega⟩;rw [List.set_cons_succ,YaU,YaU,ih i' (j+1) (by rw [h];congr 2;omega)];split
   ·rename_i hx;rw [if_neg (fun h0=>hk (by rw [<- h0,hx]))]
   rfl
 exact key m i 0 (by simpa using h)
theorem Ycn (m:List (Bs × Value)) (k:Bs) (v:Value) (x:Bs):valS (updS m k v) x=if x=k then some v else valS m x:=by
 unfold updS;cases h:fndS m k 0 with
 | none=>exact Yk7 m k v x (by unfold valS;rw [h];rfl)
 | some p=>obtain ⟨i,u⟩:=p;exact valS_set m i k v u x h
theorem Yhu (m:List (Bs × Value)) (x:Bs) (z:Value):(fndS m x 0).elim z (·.2)=(valS m x).getD z:=by unfold valS;cases fndS m x 0<;>rfl
theorem YeX (m:List (Bs × Value)) (x:Bs):(fndS m x 0).isSome=(valS m x).isSome:=by unfold valS;cases fndS m x 0<;>rfl
section
variable {P:Program} {cx:Cx} {r:Operand->Option Value} {fz:FZ} {H:HP} {dst:Option Nat} {ty:TypeId} {pos:String} {af:Array Edge} {gd:Option (Nat × Bool)} {V:Value->Prop}
variable {g:Nat} {m:List (Bs × Value)} {w:World}
theorem Wn (h:w.heap[g]?=some (mapS m)):(getObj g).run P w=.ok (mapS m) w:=by
 simp [getObj,Sem.run,h,mapS]
theorem WX (T:Tab P) {k:TypeId} {K:Ty} (hK:T.inf k=some K) (hd:K.desc=.string) (b:Bool) (x:Bs) (w:World):(Instr.checkKey b 10000 k (.string x)).run P w=.ok () w:=by
 have hu:=run_underlying (und_plain T hK hd rfl) w;have:∀ n:Nat,(Instr.checkKey b (n+1) k (.string x)).run P w=.ok () w:=fun n=>by
  unfold Instr.checkKey;simp only [Sem.run_bind,hu,Result.andThen_ok,Sem.run_pure]
 exact this 9999
theorem Yaj (T:Tab P) {k:TypeId} {K:Ty} (hK:T.inf k=some K) (hd:K.desc=.string) (x:Bs) (m:List (Bs × Value)) (w:World):(Instr.findKey k (.string x) (Xc m 0)).run P w=.ok (fndS m x 0) w:=by
 have hu:=run_underlying (und_plain T hK hd rfl) w;simp only [Instr.findKey,Sem.run_bind,hu,Result.andThen_ok,YgX,Sem.run_pure]
variable {X:Ty} {e t:TypeId}
theorem Yga (T:Tab P) {k:TypeId} {K E:Ty} {x:Bs} (hT:T.inf t=some X) (hd:X.desc=.map k e) (hK:T.inf k=some K) (hkd:K.desc=.string) (hE:T.inf e=some E)
 (hg:w.heap[g]?=some (mapS m)):(Instr.lookup t (.map (some g)) (.string x) false).run P w=.ok ((fndS m x 0).elim E.zero (·.2)) w:=by
 have hu:=run_underlying (und_plain T hT hd rfl) w;have hz:=YbF T hE w;simp only [Instr.lookup,Sem.run_bind,hu,Result.andThen_ok,Wn hg,mapS,Sem.run_pure,WX T hK hkd,Yaj T hK hkd];cases hf:fndS m x 0 with
 | none=>simp [hz]
 | some p=>simp
variable {y:Operand}
theorem YiE (T:Tab P) {k:TypeId} {z:Operand} {K E:Ty} {x:Bs} (i:Nat) (hT:T.inf t=some X) (hd:X.desc=.map k e) (hK:T.inf k=some K) (hkd:K.desc=.string) (hE:T.inf e=some E)
 (hy:r y=some (.map (some g))) (hz:r z=some (.string x)) (hH:H[i]?=some (g,mapS m)) (h:V ((fndS m x 0).elim E.zero (·.2))):DoesQ P cx ⟨dst,.lookup t y z false,ty,pos,af,gd⟩ r fz H V:=
 DoesQ.of h fun ρ w hr hi=>by
  have hg:=(hi.hp.own _ (Zm hH)).1;simp only [execOp,hr _ _ hy,hr _ _ hz,Sem.run_bind,Yga T hT hd hK hkd hE hg,Result.andThen_ok,Sem.run_pure];exact ⟨rfl,Fr.refl _ _⟩
theorem YjZ (T:Tab P) {k:TypeId} {z:Operand} {K E:Ty} {x:Bs} (hT:T.inf t=some X) (hd:X.desc=.map k e) (hK:T.inf k=some K) (hkd:K.desc=.string) (hE:T.inf e=some E)
 (hy:r y=some (.map (some g))) (hz:r z=some (.string x)) (hH:fz g=some (mapS m)) (h:V ((fndS m x 0).elim E.zero (·.2))):DoesQ P cx ⟨dst,.lookup t y z false,ty,pos,af,gd⟩ r fz H V:=
 DoesQ.of h fun ρ w hr hi=>by
  have hg:=hi.hp.keep _ _ hH;simp only [execOp,hr _ _ hy,hr _ _ hz,Sem.run_bind,Yga T hT hd hK hkd hE hg,Result.andThen_ok,Sem.run_pure];exact ⟨rfl,Fr.refl _ _⟩
theorem YdX (T:Tab P) {k:TypeId} {K E:Ty} {x:Bs} (hT:T.inf t=some X) (hd:X.desc=.map k e) (hK:T.inf k=some K) (hkd:K.desc=.string) (hE:T.inf e=some E)
 (hg:w.heap[g]?=some (mapS m)):(Instr.lookup t (.map (some g)) (.string x) true).run P w=.ok (.tuple #[(fndS m x 0).elim E.zero (·.2),.bool (fndS m x 0).isSome]) w:=by
 have hu:=run_underlying (und_plain T hT hd rfl) w;have hz:=YbF T hE w;simp only [Instr.lookup,Sem.run_bind,hu,Result.andThen_ok,Wn hg,mapS,Sem.run_pure,WX T hK hkd,Yaj T hK hkd];cases hf:fndS m x 0 with
 | none=>simp [hz]
 | some p=>simp
theorem Ygg (T:Tab P) {k:TypeId} {z:Operand} {K E:Ty} {x:Bs} (i:Nat) (hT:T.inf t=some X) (hd:X.desc=.map k e) (hK:T.inf k=some K) (hkd:K.desc=.string) (hE:T.inf e=some E)
 (hy:r y=some (.map (some g))) (hz:r z=some (.string x)) (hH:H[i]?=some (g,mapS m)) (h:V (.tuple #[(fndS m x 0).elim E.zero (·.2),.bool (fndS m x 0).isSome])):DoesQ P cx ⟨dst,.lookup t y z true,ty,pos,af,gd⟩ r fz H V:=
 DoesQ.of h fun ρ w hr hi=>by
  have hg:=(hi.hp.own _ (Zm hH)).1;simp only [execOp,hr _ _ hy,hr _ _ hz,Sem.run_bind,YdX T hT hd hK hkd hE hg,Result.andThen_ok,Sem.run_pure];exact ⟨rfl,Fr.refl _ _⟩
theorem Yhk (T:Tab P) {k:TypeId} {z:Operand} {K E:Ty} {x:Bs} (hT:T.inf t=some X) (hd:X.desc=.map k e) (hK:T.inf k=some K) (hkd:K.desc=.string) (hE:T.inf e=some E)
 (hy:r y=some (.map (some g))) (hz:r z=some (.string x)) (hH:fz g=some (mapS m)) (h:V (.tuple #[(fndS m x 0).elim E.zero (·.2),.bool (fndS m x 0).isSome])):DoesQ P cx ⟨dst,.lookup t y z true,ty,pos,af,gd⟩ r fz H V:=
 DoesQ.of h fun ρ w hr hi=>by
  have hg:=hi.hp.keep _ _ hH;simp only [execOp,hr _ _ hy,hr _ _ hz,Sem.run_bind,YdX T hT hd hK hkd hE hg,Result.andThen_ok,Sem.run_pure];exact ⟨rfl,Fr.refl _ _⟩
theorem YbU {t k e:TypeId} {y z:Operand} {X K E:Ty} {g:Nat} {m:List (Bs × Value)} {x:Bs} (i:Nat)
 {v:Value} (hv:(fndS m x 0).elim E.zero (·.2)=v) (h:V v) (T:Tab P:=by exact T) (hT:T.inf t=some X:=by exact rfl) (hd:X.desc=.map k e:=by exact rfl) (hK:T.inf k=some K:=by exact rfl) (hkd:K.desc=.string:=by exact rfl) (hE:T.inf e=some E:=by exact rfl) (hy:r y=some (.map (some g)):=by exact rfl) (hz:r z=some (.string x):=by exact rfl) (hH:H[i]?=some (g,mapS m):=by exact rfl):DoesQ P cx ⟨dst,.lookup t y z false,ty,pos,af,gd⟩ r fz H V:=
  YiE T i hT hd hK hkd hE hy hz hH (by rw [hv];exact h)
theorem WL {t k e:TypeId} {y z:Operand} {X K E:Ty} {g:Nat} {m:List (Bs × Value)} {x:Bs}
 (hH:fz g=some (mapS m)) {v:Value} (h:V v) (T:Tab P:=by exact T) (hT:T.inf t=some X:=by exact rfl) (hd:X.desc=.map k e:=by exact rfl) (hK:T.inf k=some K:=by exact rfl) (hkd:K.desc=.string:=by exact rfl) (hE:T.inf e=some E:=by exact rfl) (hy:r y=some (.map (some g)):=by exact rfl) (hz:r z=some (.string x):=by exact rfl) (hv:(fndS m x 0).elim E.zero (·.2)=v):DoesQ P cx ⟨dst,.lookup t y z false,ty,pos,af,gd⟩ r fz H V:=
  YjZ T hT hd hK hkd hE hy hz hH (by rw [hv];exact h)
theorem WZ {t k e:TypeId} {y z:Operand} {X K E:Ty} {g:Nat} {m:List (Bs × Value)} {x:Bs} (i:Nat)
 {v:Value} {b:Bool} (hb:(fndS m x 0).isSome=b) (h:V (.tuple #[v,.bool b])) (T:Tab P:=by exact T) (hT:T.inf t=some X:=by exact rfl) (hd:X.desc=.map k e:=by exact rfl) (hK:T.inf k=some K:=by exact rfl) (hkd:K.desc=.string:=by exact rfl) (hE:T.inf e=some E:=by exact rfl) (hy:r y=some (.map (some g)):=by exact rfl) (hz:r z=some (.string x):=by exact rfl) (hH:H[i]?=some (g,mapS m):=by exact rfl) (hv:(fndS m x 0).elim E.zero (·.2)=v):DoesQ P cx ⟨dst,.lookup t y z true,ty,pos,af,gd⟩ r fz H V:=
  Ygg T i hT hd hK hkd hE hy hz hH (by rw [hv,hb];exact h)
theorem Xe {t k e:TypeId} {y z:Operand} {X K E:Ty} {g:Nat} {m:List (Bs × Value)} {x:Bs}
 (hH:fz g=some (mapS m)) {v:Value} {b:Bool} (h:V (.tuple #[v,.bool b])) (T:Tab P:=by exact T) (hT:T.inf t=some X:=by exact rfl) (hd:X.desc=.map k e:=by exact rfl) (hK:T.inf k=some K:=by exact rfl) (hkd:K.desc=.string:=by exact rfl) (hE:T.inf e=some E:=by exact rfl) (hy:r y=some (.map (some g)):=by exact rfl) (hz:r z=some (.string x):=by exact rfl) (hv:(fndS m x 0).elim E.zero (·.2)=v) (hb:(fndS m x 0).isSome=b):DoesQ P cx ⟨dst,.lookup t y z true,ty,pos,af,gd⟩ r fz H V:=
  Yhk T hT hd hK hkd hE hy hz hH (by rw [hv,hb];exact h)
theorem Xs {t k e:TypeId} {y z u:Operand} {X K:Ty} {g:Nat} {m:List (Bs × Value)} {x:Bs} {v:Value} {pre post:HP} {KK:Value->FZ->HP->Prop}
 (hp:H.Perm (pre++(g,mapS m)::post)) (h:KK undef fz (pre++(g,mapS (updS m x v))::post)) (T:Tab P:=by exact T) (hT:T.inf t=some X:=by exact rfl) (hd:X.desc=.map k e:=by exact rfl) (hK:T.inf k=some K:=by exact rfl) (hkd:K.desc=.string:=by exact rfl) (hy:r y=some (.map (some g)):=by exact rfl) (hz:r z=some (.string x):=by exact rfl) (hu:r u=some v:=by exact rfl):Does P cx ⟨dst,.mapUpdate t y z u,ty,pos,af,gd⟩ r fz H KK:=
  Does.of fun ρ w hr hi=>by
   have hi':=hi.perm hp.symm;have hg:=(hi'.hp.own (g,mapS m) (by simp)).1;have hund:=run_underlying (und_plain T hT hd rfl) w;have hset:∀ o',(Go.setObj g o').run P w=.ok () {w with heap:=w.heap.setIfInBounds g o'}:=fun o'=>by
    simp [Go.setObj,Sem.run,hg,mapS]
   have:(execOp ρ ⟨dst,.mapUpdate t y z u,ty,pos,af,gd⟩).run P w=.ok .skip {w with heap:=w.heap.setIfInBounds g (mapS (updS m x v))}:=by
    simp only [execOp,hr _ _ hy,hr _ _ hz,hr _ _ hu,Sem.run_bind,Instr.mapUpdate,hund,Result.andThen_ok,Wn hg,mapS,WX T hK hkd,Yaj T hK hkd];cases hf:fndS m x 0 with
    | none=>
     have hupd:updS m x v=m++ [(x,v)]:=by simp [updS,hf]
     simp only [hset,hupd,Ydy,Nat.zero_add,Result.andThen_ok,Sem.run_pure,List.length_append,List.length_cons,List.length_nil,List.push_toArray]
    | some p=>
     obtain ⟨i,u'⟩:=p;have hupd:updS m x v=m.set i (x,v):=by simp [updS,hf]
     have hfs:=Yat m x 0 i u' hf;have hkey:(((Xc m 0).toArray[i]?).map (·.key)).getD (.string x)=.string x:=by
      have:=YbA m 0 i;simp only [Nat.sub_zero] at hfs;rw [hfs.2] at this;simp [this]
     have hstay:(Instr.keyThatStays (.string x) (.string x)).run P w=.ok (.string x) w:=by
      simp [Instr.keyThatStays,Instr.sameBits,bytes_beq]
     simp only [hkey,hstay,Sem.run_bind,Result.andThen_ok,hset,hupd,Yg0,Sem.run_pure,List.length_set,List.modify_toArray]
   rw [this];exact ⟨fz,_,hi'.setObj,h⟩
variable {x:Operand}
theorem YiF (T:Tab P) {k:TypeId} (hT:T.inf t=some X) (hd:X.desc=.map k e) (hx:r x=some (.map (some g))) (hH:fz g=some (mapS m)) (h:V (Zk m.length)):
 DoesQ P cx ⟨dst,.call {callee:=.builtin .len,args:=#[x],argTypes:=#[t]},ty,pos,af,gd⟩ r fz H V:=
 DoesQ.of h fun ρ w hr hi=>by
  have hg:=hi.hp.keep _ _ hH;have hu:=run_underlying (und_plain T hT hd rfl) w;have:(execOp ρ ⟨dst,.call {callee:=.builtin .len,args:=#[x],argTypes:=#[t]},ty,pos,af,gd⟩).run P w=.ok (.value (Zk m.length)) w:=by
   simp [execOp,resolve,invoke,builtin,hr _ _ hx,Builtin.len_,hu,goInt,Wn hg,mapS,YdP]
  rw [this];exact ⟨rfl,Fr.refl _ _⟩
end
section
variable {P:Program} {cx:Cx} {r:Operand->Option Value} {fz:FZ} {H:HP} {dst:Option Nat} {ty:TypeId} {pos:String} {af:Array Edge} {gd:Option (Nat × Bool)} {V:Value->Prop}
theorem YgD {t k e:TypeId} {y:Operand} {X:Ty} {g:Nat} {m:List (Bs × Value)} {KK:Value->FZ->HP->Prop} (hH:fz g=some (mapS m))
 (h:∀ gi,KK (Zp gi) fz ((gi,Yb8 g m.length [])::H)) (T:Tab P:=by exact T) (hT:T.inf t=some X:=by exact rfl) (hd:X.desc=.map k e:=by exact rfl) (hy:r y=some (.map (some g)):=by exact rfl):Does P cx ⟨dst,.range t y,ty,pos,af,gd⟩ r fz H KK:=
 Does.of fun ρ w hr hi=>by
  have hg:=hi.hp.keep _ _ hH;have hund:=run_underlying (und_plain T hT hd rfl) w;have:(execOp ρ ⟨dst,.range t y,ty,pos,af,gd⟩).run P w=.ok (.value (.pointer (some ⟨w.heap.size,0,none⟩))) (w.alloc (Yb8 g m.length [])):=by
   simp only [execOp,hr _ _ hy,Sem.run_bind,Instr.range,hund,Result.andThen_ok,Wn hg,mapS,Sem.run_pure,newObj,Sem.run,Yb8];rfl
  rw [this];exact ⟨fz,_,hi.alloc _,h _⟩
variable {g:Nat} {m:List (Bs × Value)} {y:Operand}
theorem YiR {gi:Nat} {seen:List Nat} {H':HP} {KK:Value->FZ->HP->Prop} (hy:r y=some (Zp gi)) (hj:fz g=some (mapS m))
 (hend:(∀ i,i<m.length->i∈seen)->KK (.tuple #[.bool false]) fz ((gi,Yb8 g m.length seen)::H'))
 (hmore:∀ i p,m[i]?=some p->i ∉ seen->KK (.tuple #[.bool true,.string p.1,p.2]) fz ((gi,Yb8 g m.length (seen++ [i]))::H')):Does P cx ⟨dst,.next y false,ty,pos,af,gd⟩ r fz ((gi,Yb8 g m.length seen)::H') KK:=
 Does.of fun ρ w hr hi=>by
  have hit:=(hi.hp.own (gi,Yb8 g m.length seen) (by simp)).1;have hg:=hi.hp.keep _ _ hj
  -- what is left
  have hb:∀ e∈Xc m 0,e.born<m.length:=fun e he=>by
   obtain ⟨i,hi⟩:=List.mem_iff_getElem?.1 he;rw [YbA] at hi;cases hm:m[i]? with
   | none=>simp [hm] at hi
   | some p=>simp [hm] at hi;subst hi;simpa using (Zg hm).1
  let left:=(Xc m 0).filter fun e=>!seen.contains e.born
  have hold:left.filter (fun e=>decide (e.born<m.length))=left:=List.filter_eq_self.2 fun e he=>by simpa using hb e (List.mem_filter.1 he).1
  have hnew:left.filter (fun e=>decide (e.born>=m.length))=[]:=List.filter_eq_nil_iff.2 fun e he=>by have:=hb e (List.mem_filter.1 he).1;simpa using this
  have hcond:(!seen.toArray.isEmpty && !(Xc m 0).toArray.isEmpty && (Xc m 0).toArray.all (fun e=>decide (e.born>=m.length)))=false:=by
   cases hm:Xc m 0 with
   | nil=>simp
   | cons e r=>
    have:=hb e (by rw [hm];simp);have h2:¬e.born>=m.length:=by omega
    simp [h2]
  have hset:∀ (w1:World) (o':Obj),w1.heap=w.heap->(Go.setObj gi o').run P w1=.ok () {w1 with heap:=w1.heap.setIfInBounds gi o'}:=fun w1 o' hw=>by
   simp [Go.setObj,Sem.run,hw,hit,Yb8]
  have hrun:∃ w1,w1.os=w.os/\w1.tape=w.tape/\w1.output=w.output/\w1.heap=w.heap/\
   ((left=[]/\(execOp ρ ⟨dst,.next y false,ty,pos,af,gd⟩).run P w=.ok (.value (.tuple #[.bool false])) w1)\/
    ∃ e∈left,(execOp ρ ⟨dst,.next y false,ty,pos,af,gd⟩).run P w=.ok (.value (.tuple #[.bool true,e.key,e.val])) {w1 with heap:=w1.heap.setIfInBounds gi (Yb8 g m.length (seen++ [e.born]))}):=by
   have hleftA:(Xc m 0).toArray.filter (fun e=>!seen.toArray.contains e.born)=left.toArray:=by simp [left]
   have holdA:left.toArray.filter (fun e=>decide (e.born<m.length))=left.toArray:=by simp [hold]
   have hnewA:left.toArray.filter (fun e=>decide (e.born>=m.length))=#[]:=by simp [hnew]
   by_cases hl:left=[]
   ·obtain ⟨k,w1,hc,hk,e1,e2,e3,e4⟩:=Ydz (P:=P) 1 Zi w;have hk0:k=0:=by omega
    subst hk0;refine ⟨w1,e1,e2,e3,e4,.inl ⟨hl,?_⟩⟩;simp only [execOp,hr _ _ hy,Sem.run_bind,Instr.next,YdG hit,Result.andThen_ok,Yb8,Wn hg,mapS,hcond,Bool.false_eq_true,if_false,Sem.run_pure,hleftA,holdA,hnewA];have hcand:(((if left.toArray.isEmpty=true then #[none] else #[])++Array.map some (left.toArray++#[])):Array (Option MapEntry))=#[none]:=by simp [hl]
    have hsz:(#[none]:Array (Option MapEntry)).size=1:=rfl;have hget:(#[none]:Array (Option MapEntry))[0]?=some none:=rfl;simp only [hcand,hsz,hc,Result.andThen_ok,hget,Sem.run_pure]
   have hpos:0<left.length:=List.length_pos_iff.2 hl;obtain ⟨k,w1,hc,hk,e1,e2,e3,e4⟩:=Ydz (P:=P) left.length hpos w;refine ⟨w1,e1,e2,e3,e4,.inr ⟨left[k],List.getElem_mem hk,?_⟩⟩;have hemp:left.toArray.isEmpty=false:=by simp [hl]
   have hcand:(((if left.toArray.isEmpty=true then #[none] else #[])++Array.map some (left.toArray++#[])):Array (Option MapEntry))=(left.map some).toArray:=by simp [hemp]
   simp only [execOp,hr _ _ hy,Sem.run_bind,Instr.next,YdG hit,Result.andThen_ok,Yb8,Wn hg,mapS,hcond,Bool.false_eq_true,if_false,Sem.run_pure,hleftA,holdA,hnewA,hcand];have hsz:(left.map some).toArray.size=left.length:=by simp
   have hget:(left.map some).toArray[k]?=some (some left[k]):=by simp [hk]
   simp only [hsz,hc,Result.andThen_ok,hget,Sem.run_bind,hset w1 _ e4,Sem.run_pure,List.push_toArray]
  obtain ⟨w1,e1,e2,e3,e4,hh⟩:=hrun;have hi1:Inv cx fz ((gi,Yb8 g m.length seen)::H') w1:=hi.world e1 e2 e3 e4;rcases hh with ⟨hl,hx⟩ | ⟨e,he,hx⟩
  ·rw [hx];refine ⟨fz,_,hi1,hend fun i hil=>?_⟩;rw [List.filter_eq_nil_iff] at hl;obtain ⟨p,hp⟩:∃ p,m[i]?=some p:=⟨_,List.getElem?_eq_getElem hil⟩;have hm:(⟨.string p.1,p.2,i⟩:MapEntry)∈Xc m 0:=Zm (i:=i) (by rw [YbA,hp];simp);have:=hl _ hm;simpa using this
  rw [hx];obtain ⟨h1,h2⟩:=List.mem_filter.1 he;obtain ⟨i,hii⟩:=List.mem_iff_getElem?.1 h1;rw [YbA] at hii;cases hm:m[i]? with
  | none=>simp [hm] at hii
  | some p=>
   simp [hm] at hii;subst hii;refine ⟨fz,_,hi1.setObj (pre:=[]),hmore i p hm (by simpa using h2)⟩
variable {i:Nat}
theorem Ygj {gi:Nat} {seen:List Nat} {p:Bs × Value} (j:Nat) (hk:fz g=some (mapS m)) (hp:m[i]?=some p) (h:V (.tuple #[.string p.1,p.2])) (hy:r y=some (Zp gi):=by exact rfl) (hj:H[j]?=some (gi,Yb8 g m.length (seen++ [i])):=by exact rfl):
 DoesQ P cx ⟨dst,.entry y,ty,pos,af,gd⟩ r fz H V:=
 DoesQ.of h fun ρ w hr hi=>by
  have hit:=(hi.hp.own _ (Zm hj)).1;have hg:=hi.hp.keep _ _ hk;have hfind:(Xc m 0).toArray.find? (fun e=>e.born==i)=some ⟨.string p.1,p.2,i⟩:=by
   rw [List.find?_toArray];have key:∀ (m:List (Bs × Value)) (b i:Nat) (p:Bs × Value),m[i]?=some p->(Xc m b).find? (fun e=>e.born==b+i)=some ⟨.string p.1,p.2,b+i⟩:=by
    intro m
    induction m with
    | nil=>intro b i p hp;simp at hp
    | cons q r ih=>
     intro b i p hp;obtain ⟨a,v⟩:=q;cases i with
     | zero=>simp at hp;subst hp;simp [Xc]
     | succ i=>
      have:=ih (b+1) i p (by simpa using hp);simp only [Xc,List.find?_cons];have hne:(b==b+(i+1))=false:=by simp
      simp only [hne];rw [show b+(i+1)=b+1+i from by omega];exact this
   have:=key m 0 i p hp;simpa using this
  have:(execOp ρ ⟨dst,.entry y,ty,pos,af,gd⟩).run P w=.ok (.value (.tuple #[.string p.1,p.2])) w:=by
   simp only [execOp,hr _ _ hy,Sem.run_bind,Instr.entry,YdG hit,Result.andThen_ok,Yb8];simp [Wn hg,mapS,hfind]
  rw [this];exact ⟨rfl,Fr.refl _ _⟩
def Yho:Obj:=.mapIter none 0 #[] 0
variable {X:Ty} {e t:TypeId}
theorem k_rangeN (T:Tab P) {k:TypeId} {KK:Value->FZ->HP->Prop} (hT:T.inf t=some X) (hd:X.desc=.map k e) (hy:r y=some (.map none))
 (h:∀ gi,KK (Zp gi) fz ((gi,Yho)::H)):Does P cx ⟨dst,.range t y,ty,pos,af,gd⟩ r fz H KK:=
 Does.of fun ρ w hr hi=>by
  have hund:=run_underlying (und_plain T hT hd rfl) w;have:(execOp ρ ⟨dst,.range t y,ty,pos,af,gd⟩).run P w=.ok (.value (.pointer (some ⟨w.heap.size,0,none⟩))) (w.alloc Yho):=by
   simp only [execOp,hr _ _ hy,Sem.run_bind,Instr.range,hund,Result.andThen_ok,Sem.run_pure,newObj,Sem.run,Yho];rfl
  rw [this];exact ⟨fz,_,hi.alloc _,h _⟩
theorem k_nextN {gi:Nat} {H':HP} {KK:Value->FZ->HP->Prop} (hy:r y=some (Zp gi))
 (hend:KK (.tuple #[.bool false]) fz ((gi,Yho)::H')):Does P cx ⟨dst,.next y false,ty,pos,af,gd⟩ r fz ((gi,Yho)::H') KK:=
 Does.of fun ρ w hr hi=>by
  have hit:=(hi.hp.own (gi,Yho) (by simp)).1;have hget:(getObj gi).run P w=.ok Yho w:=by simp [getObj,Sem.run,hit,Yho]
  have:(execOp ρ ⟨dst,.next y false,ty,pos,af,gd⟩).run P w=.ok (.value (.tuple #[.bool false])) w:=by
   simp only [execOp,hr _ _ hy,Sem.run_bind,Instr.next,hget,Result.andThen_ok,Yho,Sem.run_pure]
  rw [this];exact ⟨fz,_,hi,hend⟩
end
end Go.Lx
