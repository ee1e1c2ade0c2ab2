/- The texts PBytes, PPlain, PText, PBuild, Tab, PWalkA, QQ, SMap, PWalkB, PCA, PCB, PWalkC, PWalkD, PWalkE, PWalkF, PWalkG, PWalkH, PWalkI, PWalkJ, PCC, PCU, PCD, PCG, PCH, PCI, PWt, PCJ, PCK, PCM, laid together. Conditions: none. -/
import Derived.Test.YtaaanbkahfeknaaGreatDoorCNNRowA
import Derived.Laws.StructEq
import Derived.Tactics
import Derived.Laws.StandIn
import Derived.Lib.Bytealg
import Derived.Test.YtaaanbkahfeknaaGreatDoorProg
import Derived.Lib.AppendStr
import Derived.Lib.UnsafeStr
import Derived.Lib.Join
import Derived.Lib.ItoaNum
import Derived.Lib.ItoaMem
import Derived.Lib.Repeat
import Derived.Lib.ConvBytes
import Derived.Laws.BytesArg
set_option linter.all false
set_option maxHeartbeats 2000000
noncomputable section
open Go.Lx Go.RowKit
attribute [local instance 10] Classical.propDecidable
open Go.Proofs.Tryz (prog)
namespace Go.Lx
open Go.RowKit
variable {k j:Nat} {H:HP} {fz:FZ} {w w':World}
def YaN (b:UInt8):Value:=Value.int .u8 b.toNat
def Yaw (bs:List UInt8) (k:Nat):List Value:=bs.map YaN++List.replicate k (Value.int .u8 0)
def Yav (e:TypeId) (bs:List UInt8) (k:Nat):Obj:=.cells (Yaw bs k).toArray e (bs.length+k,bs.length+k+1)
theorem YiC {bs:List UInt8}:(Yaw bs k).length=bs.length+k:=by simp [Yaw]
theorem Yce {bs:List UInt8} (h:j<bs.length):(Yaw bs k)[j]?=some (YaN bs[j]):=by
 simp [Yaw,List.getElem?_append,h]
theorem YiB {bs:List UInt8} {b:UInt8} (h:j<bs.length):(Yaw bs k).set j (YaN b)=Yaw (bs.set j b) k:=by
 unfold Yaw;rw [List.set_append_left _ _ (by simpa using h),List.map_set]
theorem Inv.made {cx:Cx} {o:Obj} (h:Inv cx fz H w) (h1:w'.os=w.os) (h2:w'.tape=w.tape) (h3:w'.output=w.output) (h4:w'.heap.size=w.heap.size+1) (h5:w'.heap[w.heap.size]?=some o) (h6:∀ j,j<w.heap.size->w'.heap[j]?=w.heap[j]?):
 Inv cx fz ((w.heap.size,o)::H) w':=by
 refine (h.alloc o).world (h1.trans rfl) (h2.trans rfl) (h3.trans rfl) ?_;apply Array.ext_getElem?;intro j;simp only [World.alloc,Array.getElem?_push];by_cases hj:j=w.heap.size
 ·subst hj;simp [h5]
 simp only [hj,if_false];by_cases hl:j<w.heap.size
 ·exact h6 j hl
 rw [Array.getElem?_eq_none Zi,Array.getElem?_eq_none Zi]
section
variable {P:Program} {cx:Cx} {r:Operand->Option Value} {fz:FZ} {H:HP} {V:Value->Prop} {dst:Option Nat} {ty:TypeId} {pos:String} {af:Array Edge} {gd:Option (Nat × Bool)}
theorem k_bytes {src dt e:TypeId} {x:Operand} {X Y Z:Ty} {s:Bs} {K:Value->FZ->HP->Prop}
 (h:∀ g k,K (Zv g s.size (s.size+k)) fz ((g,Yav e s.data.toList k)::H)) (T:Tab P:=by exact T) (hX:T.inf src=some X:=by exact rfl) (hXd:X.desc=.string:=by exact rfl) (hY:T.inf dt=some Y:=by exact rfl) (hYd:Y.desc=.slice e:=by exact rfl) (hZ:T.inf e=some Z:=by exact rfl) (hZd:Z.desc=.int .u8:=by exact rfl) (hx:r x=some (.string s):=by exact rfl):Does P cx ⟨dst,.convert src dt x,ty,pos,af,gd⟩ r fz H K:=by
  refine Does.of fun ρ w hr hw=>?_
  have hrun:=Go.Lib.run_convert_string_bytes (P:=P) w src dt e s (und_plain T hX hXd rfl) (und_plain T hY hYd rfl) (und_plain T hZ hZd rfl);have:(execOp ρ ⟨dst,.convert src dt x,ty,pos,af,gd⟩).run P w=.ok (.value (.slice (some ⟨w.heap.size,0,none⟩) s.size (grownCap w s.size 0 e))) (Go.Lib.bytesWorld w e s):=by
   simp only [execOp,hr _ _ hx,Sem.run_bind,hrun,Result.andThen_ok,Sem.run_pure]
  rw [this];obtain ⟨k,hk⟩:∃ k,grownCap w s.size 0 e=s.size+k:=⟨grownCap w s.size 0 e - s.size,by have:=grownCap_ge w s.size 0 e;omega⟩;have hcells:Go.Lib.bytesCells w e s=(Yaw s.data.toList k).toArray:=by
   simp [Go.Lib.bytesCells,Yaw,hk];exact fun _ _=>rfl
  have hlen:s.data.toList.length=s.size:=by rw [Array.length_toList];rfl
  have hnew:=Go.Lib.bytesWorld_at_new w e s;rw [hcells] at hnew;have hobj:(Go.Lib.bytesWorld w e s).heap[w.heap.size]?=some (Yav e s.data.toList k):=by
   rw [hnew];simp [Yav,YiC]
  rw [hk];exact ⟨fz,_,Inv.made hw rfl rfl rfl (Go.Lib.bytesWorld_size w e s) hobj (fun j hj=>Go.Lib.bytesWorld_at_old w e s j hj),h _ k⟩
theorem Ygq {t t':TypeId} {x:Operand} {X:Ty} {g j:Nat} {bs:List UInt8} {k:Nat} {b:UInt8} (i:Nat) (hb:bs[j]?=some b) (h:V (YaN b)) (T:Tab P:=by exact T) (hT:T.inf t=some X:=by exact rfl) (hd:isAggD X.desc=false:=by exact rfl) (hx:r x=some (.pointer (some ⟨g,j,none⟩)):=by exact rfl) (hi:H[i]?=some (g,Yav t' bs k):=by exact rfl):
 DoesQ P cx ⟨dst,.load t x,ty,pos,af,gd⟩ r fz H V:=by
 obtain ⟨hj,rfl⟩:=Zg hb;exact Xm i h (hT:=hT) (hd:=hd) (hx:=hx) (hi:=hi) (hv:=Yce hj)
theorem YfS {t t':TypeId} {x y:Operand} {X:Ty} {pre post:HP} {g j:Nat} {bs:List UInt8} {k:Nat} {b:UInt8} {K:Value->FZ->HP->Prop}
 (hy:r y=some (YaN b)) (hH:H=pre++(g,Yav t' bs k)::post)
  (h:K undef fz (pre++(g,Yav t' (bs.set j b) k)::post)) (T:Tab P:=by exact T) (hT:T.inf t=some X:=by exact rfl) (hx:r x=some (.pointer (some ⟨g,j,none⟩)):=by exact rfl) (hs:X.size=1:=by exact rfl) (hj:j<bs.length):Does P cx ⟨dst,.store t x y,ty,pos,af,gd⟩ r fz H K:=by
  refine Does.of fun ρ w hr hw=>?_
  subst hH;have hb:=(hw.hp.own (g,Yav t' bs k) (by simp)).1;have hcell:w.cell? ⟨g,j,none⟩=some (YaN bs[j]):=by
   simp only [World.cell?,hb,Yav];simpa using Yce hj
  have hfro:w.frozen? ⟨g,j,none⟩=false:=by
   simp only [World.frozen?,hb,Yav,Bool.and_eq_false_iff,decide_eq_false_iff_not];left;omega
  have hz:=run_sizeOf T hT w;rw [hs] at hz;have hst:(storeCells ⟨g,j,none⟩ [YaN b] 0).run P w=.ok () (w.setRow g (Yaw (bs.set j b) k).toArray):=by
   have hadd:(⟨g,j,none⟩:Addr).add 0=⟨g,j,none⟩:=by simp [Addr.add]
   simp only [storeCells,Sem.run_bind,hadd,run_store P w _ (YaN b) _ rfl,hcell,hfro];simp [setCell_eq_setRow w g j (Yaw bs k).toArray t' _ (YaN b) hb,<- YiB hj]
  have:(execOp ρ ⟨dst,.store t x y,ty,pos,af,gd⟩).run P w=.ok .skip (w.setRow g (Yaw (bs.set j b) k).toArray):=by
   simp only [execOp,hr _ _ hx,hr _ _ hy,Instr.storeAt,Instr.sureAddr,Sem.run_bind,Sem.run_pure,Result.andThen_ok,storeVar,hz];simp [YaN,Value.cells] at hst ⊢;simp [hst]
  rw [this];refine ⟨fz,_,hw.write (o':=Yav t' (bs.set j b) k) rfl rfl rfl (by simp) ?_ (fun k hk=>?_),h⟩
  ·simp [World.setRow,Array.getElem?_modify,hb,Yav]
  simp only [World.setRow,Array.getElem?_modify];rw [if_neg Zi]
theorem Ygo {src dt e:TypeId} {x:Operand} {X Y Z:Ty} {t':TypeId} {g n c k:Nat} {bs:List UInt8} (i:Nat)
 (hn:bs.length=n) (h:V (.string ⟨bs.toArray⟩)) (T:Tab P:=by exact T) (hX:T.inf src=some X:=by exact rfl) (hXd:X.desc=.slice e:=by exact rfl) (hY:T.inf dt=some Y:=by exact rfl) (hYd:Y.desc=.string:=by exact rfl) (hZ:T.inf e=some Z:=by exact rfl) (hZd:Z.desc=.int .u8:=by exact rfl) (hx:r x=some (Zv g n c):=by exact rfl) (hi:H[i]?=some (g,Yav t' bs k):=by exact rfl):DoesQ P cx ⟨dst,.convert src dt x,ty,pos,af,gd⟩ r fz H V:=by
  refine DoesQ.of h fun ρ w hr hw=>?_
  have hcell:∀ j,j<n->w.cell? ⟨g,0+j,none⟩=some (.int .u8 ((bs.map fun b=>(b.toNat:Int)).getD j 0)):=fun j hj=>by
   have hj':j<bs.length:=by omega
   rw [Nat.zero_add,hw.cellOwn hi j];have:=Yce (k:=k) hj';simp only [List.getElem?_toArray,this,YaN];simp [List.getD,hj']
  have hrun:=run_convert_bytes_arg (P:=P) w src e (und_plain T hX hXd rfl) (und_plain T hZ hZd rfl) g 0 n c (bs.map fun b=>(b.toNat:Int)) (by simpa using hn) hcell dt (und_plain T hY hYd rfl);have hs:strOfNums (bs.map fun b=>(b.toNat:Int))=⟨bs.toArray⟩:=by simp [strOfNums,Function.comp_def]
  rw [hs] at hrun;have:(execOp ρ ⟨dst,.convert src dt x,ty,pos,af,gd⟩).run P w=.ok (.value (.string ⟨bs.toArray⟩)) w:=by
   simp only [execOp,hr _ _ hx,Sem.run_bind,hrun,Result.andThen_ok,Sem.run_pure]
  rw [this];exact ⟨rfl,Fr.refl _ _⟩
end
end Go.Lx
namespace Go.Lx
variable {k:Nat}
def Yfn (n:Int):Prop:= -1099511627776<=n/\n<=1099511627776
mutual
def ecount:Expr->Nat
 | .mk _ _ _ _ kids=>1+ecountL kids
def ecountL:List Expr->Nat
 | []=>0
 | k::r=>ecount k+ecountL r
end
mutual
def fcount:Formula->Nat
 | .mk _ _ _ _ exprs kids=>1+ecountL exprs+fcountL kids
def fcountL:List Formula->Nat
 | []=>0
 | k::r=>fcount k+fcountL r
end
mutual
def xcount:Sexpr->Nat
 | .mk _ _ _ _ _ kids=>1+xcountL kids
def xcountL:List Sexpr->Nat
 | []=>0
 | k::r=>xcount k+xcountL r
end
mutual
def xdepth:Sexpr->Nat
 | .mk kind _ _ _ _ kids=>xdepthL kids+(if kind=3 then 1 else 0)
def xdepthL:List Sexpr->Nat
 | []=>0
 | k::r=>max (xdepth k) (xdepthL r)
end
theorem Ykt (e:Expr):ecount e=1+ecountL e.kids:=by cases e;simp [ecount,Expr.kids]
theorem Ykk (f:Formula):fcount f=1+ecountL f.exprs+fcountL f.kids:=by cases f;simp [fcount,Formula.kids,Formula.exprs]
theorem YaT (x:Sexpr):xcount x=1+xcountL x.kids:=by cases x;simp [xcount,Sexpr.kids]
theorem Yc2 (x:Sexpr):xdepth x=xdepthL x.kids+(if x.kind=3 then 1 else 0):=by cases x;rw [xdepth];rfl
theorem Yf2 {l:List Expr} {x:Expr}:ecountL (l++ [x])=ecountL l+ecount x:=by
 induction l with
 | nil=>simp [ecountL]
 | cons a r ih=>simp only [List.cons_append,ecountL,ih];omega
theorem Yf1 {l:List Formula} {x:Formula}:fcountL (l++ [x])=fcountL l+fcount x:=by
 induction l with
 | nil=>simp [fcountL]
 | cons a r ih=>simp only [List.cons_append,fcountL,ih];omega
theorem Yfs {l:List Sexpr} {x:Sexpr}:xcountL (l++ [x])=xcountL l+xcount x:=by
 induction l with
 | nil=>simp [xcountL]
 | cons a r ih=>simp only [List.cons_append,xcountL,ih];omega
theorem Yd8 {l m:List Expr}:ecountL (l++m)=ecountL l+ecountL m:=by
 induction l with
 | nil=>simp [ecountL]
 | cons a r ih=>simp only [List.cons_append,ecountL,ih];omega
theorem Yd7 {l m:List Formula}:fcountL (l++m)=fcountL l+fcountL m:=by
 induction l with
 | nil=>simp [fcountL]
 | cons a r ih=>simp only [List.cons_append,fcountL,ih];omega
theorem Yd0 {l m:List Sexpr}:xcountL (l++m)=xcountL l+xcountL m:=by
 induction l with
 | nil=>simp [xcountL]
 | cons a r ih=>simp only [List.cons_append,xcountL,ih];omega
theorem Ybo {l:List Sexpr} {x:Sexpr} (h:x∈l):xcount x<=xcountL l:=by
 induction l with
 | nil=>cases h
 | cons a r ih=>
  simp only [xcountL];rcases List.mem_cons.1 h with rfl | h
  ·omega
  have:=ih h;omega
theorem WU {l:List Sexpr} {b:Nat}:xdepthL l<=b↔∀ x∈l,xdepth x<=b:=by
 induction l with
 | nil=>simp [xdepthL]
 | cons a r ih=>simp only [xdepthL,List.mem_cons,forall_eq_or_imp,Nat.max_le,ih]
theorem Ygf {l:List Sexpr}:l.length<=xcountL l:=by
 induction l with
 | nil=>simp
 | cons a r ih=>simp only [List.length_cons,xcountL,YaT a];omega
theorem YcC {l:List Expr} {x:Expr} (hx:l[k]?=some x):ecountL (l.take (k+1))=ecountL (l.take k)+ecount x:=by
 rw [List.take_add_one,hx];simp only [Option.toList];exact Yf2
theorem YcB {l:List Expr}:ecountL (l.take k)<=ecountL l:=by
 have h:=Yd8 (l:=l.take k) (m:=l.drop k);rw [List.take_append_drop] at h;omega
theorem Yf0 {l:List Formula} {x:Formula} (hx:l[k]?=some x):fcountL (l.take (k+1))=fcountL (l.take k)+fcount x:=by
 rw [List.take_add_one,hx];simp only [Option.toList];exact Yf1
theorem YfZ {l:List Formula}:fcountL (l.take k)<=fcountL l:=by
 have h:=Yd7 (l:=l.take k) (m:=l.drop k);rw [List.take_append_drop] at h;omega
theorem Yfr {l:List Sexpr} {x:Sexpr} (hx:l[k]?=some x):xcountL (l.take (k+1))=xcountL (l.take k)+xcount x:=by
 rw [List.take_add_one,hx];simp only [Option.toList];exact Yfs
theorem Ycq {l:List Sexpr}:xcountL (l.take k)<=xcountL l:=by
 have h:=Yd0 (l:=l.take k) (m:=l.drop k);rw [List.take_append_drop] at h;omega
mutual
/-- what holds of all parts -/
def EAll (p:Expr->Prop):Expr->Prop
 | .mk op name n args kids=>p (.mk op name n args kids)/\EAllL p kids
def EAllL (p:Expr->Prop):List Expr->Prop
 | []=>True
 | k::r=>EAll p k/\EAllL p r
end
mutual
def FAll (p:Formula->Prop) (q:Expr->Prop):Formula->Prop
 | .mk op name args params exprs kids=>p (.mk op name args params exprs kids)/\EAllL q exprs/\FAllL p q kids
def FAllL (p:Formula->Prop) (q:Expr->Prop):List Formula->Prop
 | []=>True
 | k::r=>FAll p q k/\FAllL p q r
end
mutual
def XAll (p:Sexpr->Prop):Sexpr->Prop
 | .mk kind value line column text kids=>p (.mk kind value line column text kids)/\XAllL p kids
def XAllL (p:Sexpr->Prop):List Sexpr->Prop
 | []=>True
 | k::r=>XAll p k/\XAllL p r
end
theorem YdS {p:Sexpr->Prop} {l:List Sexpr}:XAllL p l↔∀ k∈l,XAll p k:=by
 induction l with
 | nil=>simp [XAllL]
 | cons a r ih=>simp only [XAllL,ih,List.mem_cons,forall_eq_or_imp]
theorem Wo {p:Sexpr->Prop} {x:Sexpr}:XAll p x↔p x/\∀ k∈x.kids,XAll p k:=by cases x;simp only [XAll,YdS,Sexpr.kids]
end Go.Lx
namespace Go.Lx
open Go
variable {i k:Nat}
def strOf (l:List UInt8):Bs:=⟨l.toArray⟩
theorem WV (l:List UInt8):(strOf l).size=l.length:=by simp [strOf,ByteArray.size]
theorem Yb1 (l:List UInt8):(strOf l).data.toList=l:=by simp [strOf]
theorem Ycs (a b:List UInt8):strOf a++strOf b=strOf (a++b):=by
 apply ByteArray.ext;simp [strOf,ByteArray.data_append]
theorem strOf_of (s:Bs):strOf s.data.toList=s:=by
 apply ByteArray.ext;simp [strOf]
theorem YiV {a b:List UInt8} (h:strOf a=strOf b):a=b:=by
 have:=congrArg (fun s:Bs=>s.data.toList) h;simpa [strOf] using this
mutual
/-- the text in one line -/
def txt:Sexpr->List UInt8
 | .mk k v _ _ t ks=>if k=1 then t.data.toList else if k=2 then Lib.itoa v else 40::(Lib.join (txtL ks) [32]++ [41])
def txtL:List Sexpr->List (List UInt8)
 | []=>[]
 | x::r=>txt x::txtL r
end
theorem Yhb (l:List Sexpr):txtL l=l.map txt:=by
 induction l with
 | nil=>simp [txtL]
 | cons a r ih=>simp [txtL,ih]
theorem txt_eq (x:Sexpr):txt x=if x.kind=1 then x.text.data.toList else if x.kind=2 then Lib.itoa x.value else 40::(Lib.join (x.kids.map txt) [32]++ [41]):=by
 cases x;rw [txt,Yhb];rfl
mutual
/-- the text in lines -/
def lay (w:Nat):Sexpr->Nat->List UInt8
 | .mk k v l c t ks,i=>if k≠3\/ks.length=0\/i+(txt (.mk k v l c t ks)).length<=w then txt (.mk k v l c t ks) else 40::(layH w ks i++ [41])
def layH (w:Nat):List Sexpr->Nat->List UInt8
 | [],_=>[]
 | x::r,i=>lay w x (i+1)++layT w r (i+2)
def layT (w:Nat):List Sexpr->Nat->List UInt8
 | [],_=>[]
 | x::r,i=>(10::(List.replicate i 32++lay w x i))++layT w r i
end
theorem YcV {w:Nat} {x:Sexpr} (h:x.kind≠3\/x.kids.length=0\/i+(txt x).length<=w):lay w x i=txt x:=by
 cases x;rw [lay];exact if_pos h
theorem lay_long {w:Nat} {x:Sexpr} (h:¬(x.kind≠3\/x.kids.length=0\/i+(txt x).length<=w)):lay w x i=40::(layH w x.kids i++ [41]):=by
 cases x;rw [lay];exact if_neg h
theorem YgC {w:Nat} {l m:List Sexpr}:layT w (l++m) i=layT w l i++layT w m i:=by
 induction l with
 | nil=>simp [layT]
 | cons a r ih=>simp only [List.cons_append,layT,ih,List.append_assoc]
theorem YjP {w:Nat} {l:List Sexpr} {x:Sexpr} (hx:l[k]?=some x):layT w (l.take (k+1)) i=layT w (l.take k) i++(10::(List.replicate i 32++lay w x i)):=by
 rw [List.take_add_one,hx];simp only [Option.toList];rw [YgC];simp [layT]
def XSm (x:Sexpr):Prop:=(x.kind=1->x.text.size<=32)/\(x.kind=2->Yfn x.value)
theorem Ye9 {u:Nat} (h:u<10 ^ (k+1)):(Lib.decDigits u).length<=k+1:=by
 induction k generalizing u with
 | zero=>rw [Lib.decDigits,dif_pos (by simpa using h)];simp
 | succ k ih=>
  by_cases h0:u<10
  ·rw [Lib.decDigits,dif_pos h0];simp
  have:=ih (u:=u / 10) (by rw [Nat.pow_succ] at h;omega);rw [Lib.decDigits,dif_neg h0,List.length_append];simp;omega
theorem itoa_len {n:Int} (h:Yfn n):(Lib.itoa n).length<=14:=by
 unfold Yfn at h;have h1:∀ u:Nat,u<=1099511627776->(Lib.decDigits u).length<=13:=fun u hu=>Ye9 (k:=12) Zi
 unfold Lib.itoa;split
 ·have:=h1 n.natAbs Zi;simp;omega
 have:=h1 n.toNat Zi;omega
theorem join_len {l:List (List UInt8)}:(Lib.join l [32]).length<=(l.map fun t=>t.length+1).sum:=by
 cases l with
 | nil=>simp [Lib.join_nil]
 | cons x r=>
  rw [Lib.join_cons,List.length_append,Lib.joinTail_length];have:Lib.lens r+r.length=(r.map fun t=>t.length+1).sum:=by
   induction r with
   | nil=>simp [Lib.lens]
   | cons a r ih=>simp only [Lib.lens,List.map_cons,List.sum_cons,List.length_cons] at ih ⊢;omega
  simp only [List.map_cons,List.sum_cons,List.length_cons,List.length_nil] at this ⊢;omega
mutual
theorem txt_len:∀ {x:Sexpr},XAll XSm x->(txt x).length+4<=36*xcount x
 | .mk k v l c t ks,h=>by
  rw [XAll] at h;have hs:=txtL_len h.2;rw [txt,xcount];have h1:=h.1;unfold XSm at h1;split
  ·rename_i hk;have:=h1.1 hk;have e:t.data.toList.length=t.size:=by rw [Array.length_toList];rfl
   simp only [Sexpr.text] at this;omega
  split
  ·rename_i hk;have:=itoa_len (h1.2 hk);simp only [Sexpr.value] at this;omega
  have:=join_len (l:=txtL ks);simp only [List.length_cons,List.length_append,List.length_nil];omega
theorem txtL_len:∀ {l:List Sexpr},XAllL XSm l->((txtL l).map fun t=>t.length+1).sum<=36*xcountL l
 | [],_=>by simp [txtL]
 | x::r,h=>by
  rw [XAllL] at h;have h1:=txt_len h.1;have h2:=txtL_len h.2;simp only [txtL,List.map_cons,List.sum_cons,xcountL];omega
end
mutual
theorem lay_len {w M:Nat}:∀ {x:Sexpr} {i:Nat},XAll XSm x->i+2*xdepth x<=M->(lay w x i).length+M+3<=(M+36)*xcount x
 | .mk k v l c t ks,i,h,hM=>by
  have ht:=txt_len h;have hc:1<=xcount (.mk k v l c t ks):=by rw [xcount];omega
  have hmul:(M+36)*xcount (.mk k v l c t ks)=M*xcount (.mk k v l c t ks)+36*xcount (.mk k v l c t ks):=Nat.add_mul _ _ _;have hM1:M*1<=M*xcount (.mk k v l c t ks):=Nat.mul_le_mul_left _ hc;rw [lay];split
  ·omega
  rename_i hn;have hk:k=3:=Classical.byContradiction fun h0=>hn (.inl h0)
  rw [XAll] at h;rw [xdepth,if_pos hk] at hM;have:=layH_len (w:=w) (M:=M) (l:=ks) (i:=i) h.2 Zi;rw [xcount,Nat.mul_add,Nat.mul_one];simp only [List.length_cons,List.length_append,List.length_nil];omega
theorem layH_len {w M:Nat}:∀ {l:List Sexpr} {i:Nat},XAllL XSm l->i+2+2*xdepthL l<=M->(layH w l i).length<=(M+36)*xcountL l
 | [],_,_,_=>by simp [layH]
 | x::r,i,h,hM=>by
  rw [XAllL] at h;rw [xdepthL] at hM;have h1:=lay_len (w:=w) (M:=M) (i:=i+1) h.1 Zi;have h2:=layT_len (w:=w) (M:=M) (l:=r) (i:=i+2) h.2 Zi;rw [layH,List.length_append,xcountL,Nat.mul_add];omega
theorem layT_len {w M:Nat}:∀ {l:List Sexpr} {i:Nat},XAllL XSm l->i+2*xdepthL l<=M->(layT w l i).length<=(M+36)*xcountL l
 | [],_,_,_=>by simp [layT]
 | x::r,i,h,hM=>by
  rw [XAllL] at h;rw [xdepthL] at hM;have h1:=lay_len (w:=w) (M:=M) (i:=i) h.1 Zi;have h2:=layT_len (w:=w) (M:=M) (l:=r) (i:=i) h.2 Zi;rw [layT,xcountL,Nat.mul_add];simp only [List.length_cons,List.length_append,List.length_replicate];omega
end
theorem YfB (n:Nat):Lib.repeatL [32] n=List.replicate n 32:=by
 induction n with
 | zero=>rfl
 | succ n ih=>rw [Lib.repeatL,ih];rfl
end Go.Lx
namespace Go.Lx
open Go.RowKit
section
variable {P:Program}
theorem Yd1 (w:World) (t u ty e:TypeId) (i:TypeInfo) (ht:P.underlying t=some (.slice e)) (hu:P.underlying u=some .string) (hi:P.info? e=some i) (hz:i.zero=some (.int .u8 0))
 (hsize:i.size=1) (hby:i.bytes=1) (v:Value) (n:Nat) (xs:List Value) (hown:w.ownsRow 0 e 1 v n xs) (s:Bs) (hm:n+s.size<=140737488355328):
 ∃ v' w',(Builtin.append_ #[t,u] ty #[v,.string s]).run P w=.ok v' w'/\w'.ownsRow 0 e 1 v' (n+s.size) (xs++s.data.toList.map YaN)/\w.grownBy w' v.ownBlock/\(v'.ownBlock=v.ownBlock\/v'.ownBlock=some w.heap.size):=by
 obtain ⟨v',w',hr,h2,h3,h4⟩:=Go.Lib.run_append_own_string (P:=P) w 0 t u ty e i ht hu hi hz hsize hby v n xs hown s (by unfold maxLen;omega) hm (Z0 _);refine ⟨v',w',hr,h2,h3,?_⟩;have hxl:xs.length=n:=by simpa using hown.1
 rcases hown.2 with ⟨h5,h6⟩ | ⟨g,cap,cur,h5,_,h7,h8,h9,h10,h11⟩
 ·subst h5 h6;by_cases h0:s.size=0
  ·left;rw [h4.2 ⟨rfl,h0⟩]
  right;have hr2:=run_append_nil_string (P:=P) w t u ty e i (.int .u8 0) ht hu hi hz s Zi Zi (by rw [hby];omega);rw [hr] at hr2;injection hr2 with e1 _
  rw [e1];rfl
 subst h5;by_cases hroom:n+s.size<=cap
 ·left;have hr2:=Go.Lib.run_append_room_string (P:=P) w t u ty e i ht hu hi hsize g n cap cur h7 s hroom (by simp at h10;omega);rw [hr] at hr2;injection hr2 with e1 _
  rw [e1];rfl
 right;have hr2:=Go.Lib.run_append_grow_string (P:=P) w t u ty e i (.int .u8 0) ht hu hi hz ⟨g,0,none⟩ n cap xs (by rw [hsize];omega) (hown.cells (g:=g) rfl) s Zi Zi (by rw [hby];exact growslice_fits Zi Zi);rw [hr] at hr2;injection hr2 with e1 _
 rw [e1];rfl
end
section
variable {P:Program} {cx:Cx} {r:Operand->Option Value} {fz:FZ} {H:HP} {V:Value->Prop} {dst:Option Nat} {ty:TypeId} {pos:String} {af:Array Edge} {gd:Option (Nat × Bool)}
variable {Hr Hs:HP} {X Y:Ty} {e t:TypeId} {n:Nat} {s:Bs} {v:Value} {x y:Operand}
theorem YgE (T:Tab P) {u:TypeId} {U:Ty} {xs:List Value} {K:Value->FZ->HP->Prop} (hT:T.inf t=some X) (hd:X.desc=.slice e) (hU:T.inf u=some U) (hUd:U.desc=.string) (hY:T.inf e=some Y) (hz:Y.zero=.int .u8 0) (hsz:Y.size=1) (hby:Y.bytes=1)
 (hx:r x=some v) (hy:r y=some (.string s)) (hp:H.Perm (Hr++Hs)) (ho:OwnS e 1 v n xs Hs) (hm:n+s.size<=140737488355328)
 (h:∀ v' Hs',OwnS e 1 v' (n+s.size) (xs++s.data.toList.map YaN) Hs'->K v' fz (Hr++Hs')):
 Does P cx ⟨dst,.call {callee:=.builtin .append,args:=#[x,y],argTypes:=#[t,u]},ty,pos,af,gd⟩ r fz H K:=by
 refine Does.of fun ρ w hr hi=>?_
 have hi':=hi.perm hp.symm;obtain ⟨i,hinf,g1,g2,g3⟩:=(T.ok_ hY).info;rw [hz] at g3;rw [hsz] at g1;rw [hby] at g2;have hown:=ho.owns hi';obtain ⟨v',w',hrun,h2,h3,h5⟩:=Yd1 (P:=P) w t u ty e i (und_plain T hT hd rfl) (und_plain T hU hUd rfl) hinf g3 g1 g2 v n xs hown s hm;obtain ⟨Hs',h6,h7⟩:=YcF h2;have hexec:(execOp ρ ⟨dst,.call {callee:=.builtin .append,args:=#[x,y],argTypes:=#[t,u]},ty,pos,af,gd⟩).run P w=.ok (.value v') w':=by
  simp only [execOp,resolve,invoke,builtin,Sem.run_bind,Sem.run_pure,Result.andThen_ok,List.map_toArray,List.map_cons,List.map_nil,hr _ _ hx,hr _ _ hy,hrun]
 rw [hexec];exact ⟨fz,_,hi'.appended ho h3 h6 h7 h5,h v' Hs' h6⟩
theorem YfD {t:TypeId} {x:Operand} {a:Addr} {n c:Nat} (hx:r x=some (.slice (some a) n c)) (hc:c≠0) (h:V (.pointer (some a))):
 DoesQ P cx ⟨dst,.call {callee:=.builtin .unsafeSliceData,args:=#[x],argTypes:=#[t]},ty,pos,af,gd⟩ r fz H V:=
 Yo (fun ρ w hr=>by
  simp only [execOp,resolve,invoke,builtin,Sem.run_bind,Sem.run_pure,Result.andThen_ok,List.map_toArray,List.map_cons,List.map_nil,hr _ _ hx,Go.Lib.run_unsafeSliceData_row _ _ _ _ _ _ hc]) h
variable {g:Nat}
theorem Yd5 (T:Tab P) {pt it:TypeId} {pre post:HP} {cur:List Value} {l:List UInt8} {K:Value->FZ->HP->Prop} (hT:T.inf pt=some X) (hd:X.desc=.pointer e) (hc:P.cellsOf e=1)
 (hx:r x=some (Zp g)) (hy:r y=some (Zk l.length)) (hH:H=pre++(g,.cells cur.toArray e (0,0))::post) (h0:l≠ []) (hl:l.length<=cur.length) (h63:l.length<=140737488355328) (hcur:cur.take l.length=l.map YaN)
 (h:K (.string (strOf l)) fz (pre++(g,.cells cur.toArray e (0,l.length))::post)):
 Does P cx ⟨dst,.call {callee:=.builtin .unsafeString,args:=#[x,y],argTypes:=#[pt,it]},ty,pos,af,gd⟩ r fz H K:=by
 refine Does.of fun ρ w hr hw=>?_
 subst hH;have hb:=(hw.hp.own (g,.cells cur.toArray e (0,0)) (by simp)).1;have hcell:∀ j x,l[j]?=some x->w.cell? ((⟨g,0,none⟩:Addr).add j)=some (.int .u8 x.toNat):=by
  intro j b hb2;have hadd:(⟨g,0,none⟩:Addr).add j=⟨g,j,none⟩:=by unfold Addr.add;split<;>simp_all
  have hj:j<l.length:=(Zg hb2).1;have h1:(cur.take l.length)[j]?=some (YaN b):=by rw [hcur,List.getElem?_map,hb2];rfl
  rw [List.getElem?_take,if_pos hj] at h1;rw [hadd];simp only [World.cell?,hb];simpa [YaN] using h1
 have hrun:=Go.Lib.run_unsafeString_row (P:=P) w pt it ty e (und_plain T hT hd rfl) hc g cur.length (by simp [World.shape?,hb]) l h0 hl Zi hcell;have hexec:(execOp ρ ⟨dst,.call {callee:=.builtin .unsafeString,args:=#[x,y],argTypes:=#[pt,it]},ty,pos,af,gd⟩).run P w=.ok (.value (.string (strOf l))) (w.freeze ⟨g,0,none⟩ l.length):=by
  simp only [execOp,resolve,invoke,builtin,Sem.run_bind,Sem.run_pure,Result.andThen_ok,List.map_toArray,List.map_cons,List.map_nil,hr _ _ hx,hr _ _ hy,hrun];rfl
 rw [hexec];have hl0:l.length≠0:=by simpa using h0
 refine ⟨fz,_,hw.write (o':=.cells cur.toArray e (0,l.length)) (by simp [World.freeze,hl0]) (by simp [World.freeze,hl0]) (by simp [World.freeze,hl0]) (by simp [World.freeze,hl0]) ?_ (fun k hk=>?_),h⟩
 ·simp [World.freeze,hl0,Array.getElem?_modify,hb]
 simp only [World.freeze,if_neg hl0,Array.getElem?_modify];rw [if_neg Zi]
variable {t':TypeId}
theorem q_addS {a b:Bs} (hx:r x=some (.string a)) (hy:r y=some (.string b)) (hs:a.size+b.size<=9223372036854775807) (h:V (.string (a++b))):
 DoesQ P cx ⟨dst,.binOp .add t x y t',ty,pos,af,gd⟩ r fz H V:=
 Yo (fun ρ w hr=>by
  have:¬(9223372036854775807<((a.size:Int)+(b.size:Int))):=by omega
  simp [execOp,hr _ _ hx,hr _ _ hy,eqGuard_at_string,binOp,Op.stringOp,this]) h
theorem Ydn {a b:List UInt8} (hx:r x=some (.string (strOf a))) (hy:r y=some (.string (strOf b))) (hs:a.length+b.length<=9223372036854775807) (h:V (.string (strOf (a++b)))):
 DoesQ P cx ⟨dst,.binOp .add t x y t',ty,pos,af,gd⟩ r fz H V:=
 q_addS hx hy (by rw [WV,WV];exact hs) (by rw [Ycs];exact h)
theorem WB {α:Type} {L:Lay α} {t e:TypeId} {x i:Operand} {X Y:Ty} {A:Option Addr} {n c:Nat} {k:IntKind} {j:Nat} {xs:List α}
 (hs:Sl L fz A n c xs) (h:∀ A',Sl L fz A' (n - j) (c - j) (xs.drop j)->V (.slice A' (n - j) (c - j))) (T:Tab P:=by exact T) (hT:T.inf t=some X:=by exact rfl) (hd:X.desc=.slice e:=by exact rfl) (hY:T.inf e=some Y:=by exact rfl) (hz:Y.size=L.size:=by exact rfl) (hx:r x=some (.slice A n c):=by exact rfl) (hi:r i=some (.int k j):=by exact rfl) (hj:j<=n:=by omega):DoesQ P cx ⟨dst,.slice t x (some i) none none,ty,pos,af,gd⟩ r fz H V:=by
  have h1:=hs.cap;have h2:=hs.max;have h3:=hs.short;have h4:=hs.len;refine Yo (v:=.slice (if c=j then A else A.map (·.add (j*Y.size))) (n - j) (c - j)) (fun ρ w hr=>by
   have hu:=run_underlying (und_plain T hT hd rfl) w;have hs:=Lx.run_sizeOf T hY w;simp [execOp,hr _ _ hx,hr _ _ hi,Instr.sliceAt,Instr.slice,Instr.sliceBounds,Instr.sliceBound,asIntOf,hu,hs,hj]
   try omega) (h _ ?_)
  refine ⟨by rw [List.length_drop,h4],by omega,by omega,by omega,?_⟩;rcases hs.elem with h0 | ⟨ad,h5,h6⟩
  ·exact .inl Zi
  by_cases hn:n - j=0
  ·exact .inl hn
  refine .inr ⟨ad.add (j*L.size),?_,fun i d hd=>?_⟩
  ·rw [if_neg Zi,h5,hz];rfl
  rw [List.getElem?_drop] at hd;have:=h6 (j+i) d hd;have e:(ad.add (j*L.size)).add (i*L.size)=ad.add ((j+i)*L.size):=by
   rw [Nat.add_mul];unfold Addr.add;by_cases h7:j*L.size=0
   ·rw [h7];simp
   by_cases h8:i*L.size=0
   ·rw [h8];simp
   simp [h7,h8,Nat.add_assoc]
  rw [e];exact this
theorem q_min {x y:Operand} {ats:Array TypeId} {k:IntKind} {a b:Int} (h:V (.int k (min a b))) (hx:r x=some (.int k a):=by exact rfl) (hy:r y=some (.int k b):=by exact rfl):
 DoesQ P cx ⟨dst,.call {callee:=.builtin .min,args:=#[x,y],argTypes:=ats},ty,pos,af,gd⟩ r fz H V:=
 Yo (fun ρ w hr=>by
  have:(if b<a then b else a)=min a b:=by omega
  simp [execOp,resolve,invoke,builtin,hr _ _ hx,hr _ _ hy,Builtin.min_,Builtin.min2,this]) h
end
end Go.Lx
namespace Go.Proofs.YtaaanbkahfeknaaGreatDoor
open Go.Lx
set_option maxRecDepth 100000
theorem allTy_of {P:Program}:∀ l:List (Nat × Ty),(l.map fun p=>(P.underlying p.1).map Lx.blank)=(l.map fun p=>some p.2.desc)->(l.map fun p=>(P.info? p.1).map fun i=>(i.size,i.bytes,i.zero))=(l.map fun p=>some (p.2.size,p.2.bytes,some p.2.zero))->AllTy P l
 |[],_,_=>trivial
 |p::r,h,g=>by
  simp only [List.map_cons,List.cons.injEq] at h g;exact ⟨TyOk.mk' h.1 g.1,allTy_of r h.2 g.2⟩
def tabL:List (Nat × Ty):=[(3,⟨.int .i64,1,8,Zk 0⟩),(4,⟨.bool,1,1,.bool false⟩),(5,⟨.int .u8,1,1,.int .u8 0⟩),(9,⟨.string,1,16,Ze⟩),(22,⟨.slice 110,1,24,Zn⟩),(23,⟨.slice 59,1,24,Zn⟩),(24,⟨.slice 61,1,24,Zn⟩),(25,⟨.slice 47,1,24,Zn⟩),(26,⟨.slice 50,1,24,Zn⟩),(27,⟨.struct #[fld 9 0,fld 22 1,fld 22 2,fld 23 3,fld 24 4,fld 25 5,fld 26 6],7,160,.agg #[Ze,Zn,Zn,Zn,Zn,Zn,Zn]⟩),(28,⟨.struct #[fld 9 0,fld 22 1,fld 22 2,fld 23 3,fld 24 4,fld 25 5,fld 26 6],7,160,.agg #[Ze,Zn,Zn,Zn,Zn,Zn,Zn]⟩),(29,⟨.slice 83,1,24,Zn⟩),(30,⟨.slice 86,1,24,Zn⟩),(31,⟨.slice 9,1,24,Zn⟩),(32,⟨.slice 93,1,24,Zn⟩),(33,⟨.slice 35,1,24,Zn⟩),(34,⟨.struct #[fld 9 0,fld 9 1,fld 31 2,fld 22 3,fld 32 4,fld 33 5],6,128,.agg #[Ze,Ze,Zn,Zn,Zn,Zn]⟩),(35,⟨.struct #[fld 9 0,fld 9 1,fld 31 2,fld 22 3,fld 32 4,fld 33 5],6,128,.agg #[Ze,Ze,Zn,Zn,Zn,Zn]⟩),(36,⟨.struct #[fld 9 0,fld 9 1,fld 22 2,fld 29 3,fld 30 4,fld 35 5],11,232,.agg #[Ze,Ze,Zn,Zn,Zn,Ze,Ze,Zn,Zn,Zn,Zn]⟩),(37,⟨.struct #[fld 9 0,fld 9 1,fld 22 2,fld 29 3,fld 30 4,fld 35 5],11,232,.agg #[Ze,Ze,Zn,Zn,Zn,Ze,Ze,Zn,Zn,Zn,Zn]⟩),(45,⟨.slice 95,1,24,Zn⟩),(46,⟨.struct #[fld 9 0,fld 22 1,fld 3 2,fld 35 3,fld 45 9],10,200,.agg #[Ze,Zn,Zk 0,Ze,Ze,Zn,Zn,Zn,Zn,Zn]⟩),(47,⟨.struct #[fld 9 0,fld 22 1,fld 3 2,fld 35 3,fld 45 9],10,200,.agg #[Ze,Zn,Zk 0,Ze,Ze,Zn,Zn,Zn,Zn,Zn]⟩),(49,⟨.struct #[fld 9 0,fld 22 1,fld 3 2,fld 35 3,fld 35 9,fld 35 15,fld 45 21,fld 45 22],23,480,.agg #[Ze,Zn,Zk 0,Ze,Ze,Zn,Zn,Zn,Zn,Ze,Ze,Zn,Zn,Zn,Zn,Ze,Ze,Zn,Zn,Zn,Zn,Zn,Zn]⟩),(50,⟨.struct #[fld 9 0,fld 22 1,fld 3 2,fld 35 3,fld 35 9,fld 35 15,fld 45 21,fld 45 22],23,480,.agg #[Ze,Zn,Zk 0,Ze,Ze,Zn,Zn,Zn,Zn,Ze,Ze,Zn,Zn,Zn,Zn,Ze,Ze,Zn,Zn,Zn,Zn,Zn,Zn]⟩),(51,⟨.interface #[],1,16,.nilIface⟩),(52,⟨.interface #[],1,16,.nilIface⟩),(58,⟨.struct #[fld 9 0,fld 22 1],2,40,.agg #[Ze,Zn]⟩),(59,⟨.struct #[fld 9 0,fld 22 1],2,40,.agg #[Ze,Zn]⟩),(60,⟨.struct #[fld 9 0,fld 22 1,fld 3 2,fld 3 3],4,56,.agg #[Ze,Zn,Zk 0,(Zk 0)]⟩),(61,⟨.struct #[fld 9 0,fld 22 1,fld 3 2,fld 3 3],4,56,.agg #[Ze,Zn,Zk 0,(Zk 0)]⟩),(76,⟨.slice 3,1,24,Zn⟩),(82,⟨.struct #[fld 9 0,fld 31 1],2,40,.agg #[Ze,Zn]⟩),(83,⟨.struct #[fld 9 0,fld 31 1],2,40,.agg #[Ze,Zn]⟩),(85,⟨.struct #[fld 83 0,fld 3 2],3,48,.agg #[Ze,Zn,(Zk 0)]⟩),(86,⟨.struct #[fld 83 0,fld 3 2],3,48,.agg #[Ze,Zn,(Zk 0)]⟩),(92,⟨.struct #[fld 9 0,fld 9 1,fld 3 2,fld 31 3,fld 32 4],5,88,.agg #[Ze,Ze,Zk 0,Zn,Zn]⟩),(93,⟨.struct #[fld 9 0,fld 9 1,fld 3 2,fld 31 3,fld 32 4],5,88,.agg #[Ze,Ze,Zk 0,Zn,Zn]⟩),(94,⟨.struct #[fld 3 0,fld 22 1,fld 35 2,fld 9 8,fld 31 9,fld 93 10],15,288,.agg #[(Zk 0),Zn,Ze,Ze,Zn,Zn,Zn,Zn,Ze,Zn,Ze,Ze,Zk 0,Zn,Zn]⟩),(95,⟨.struct #[fld 3 0,fld 22 1,fld 35 2,fld 9 8,fld 31 9,fld 93 10],15,288,.agg #[(Zk 0),Zn,Ze,Ze,Zn,Zn,Zn,Zn,Ze,Zn,Ze,Ze,Zk 0,Zn,Zn]⟩),(97,⟨.slice 99,1,24,Zn⟩),(98,⟨.struct #[fld 3 0,fld 3 1,fld 3 2,fld 3 3,fld 9 4,fld 97 5],6,72,.agg #[(Zk 0),Zk 0,Zk 0,Zk 0,Ze,Zn]⟩),(99,⟨.struct #[fld 3 0,fld 3 1,fld 3 2,fld 3 3,fld 9 4,fld 97 5],6,72,.agg #[(Zk 0),Zk 0,Zk 0,Zk 0,Ze,Zn]⟩),(109,⟨.struct #[fld 9 0,fld 9 1],2,32,.agg #[Ze,Ze]⟩),(110,⟨.struct #[fld 9 0,fld 9 1],2,32,.agg #[Ze,Ze]⟩),(136,⟨.struct #[fld 4 0],1,1,.agg #[(.bool false)]⟩),(137,⟨.struct #[fld 4 0],1,1,.agg #[(.bool false)]⟩),(147,⟨.int .i64,1,8,Zk 0⟩),(152,⟨.map 9 4,1,8,.map none⟩),(159,⟨.pointer 285,1,8,.pointer none⟩),(160,⟨.map 9 22,1,8,.map none⟩),(161,⟨.map 9 61,1,8,.map none⟩),(162,⟨.map 9 9,1,8,.map none⟩),(163,⟨.struct #[fld 28 0,fld 37 7,fld 159 18,fld 160 19,fld 161 20,fld 162 21,fld 22 22],23,448,.agg #[Ze,Zn,Zn,Zn,Zn,Zn,Zn,Ze,Ze,Zn,Zn,Zn,Ze,Ze,Zn,Zn,Zn,Zn,.pointer none,.map none,.map none,.map none,Zn]⟩),(164,⟨.struct #[fld 28 0,fld 37 7,fld 159 18,fld 160 19,fld 161 20,fld 162 21,fld 22 22],23,448,.agg #[Ze,Zn,Zn,Zn,Zn,Zn,Zn,Ze,Ze,Zn,Zn,Zn,Ze,Ze,Zn,Zn,Zn,Zn,.pointer none,.map none,.map none,.map none,Zn]⟩),(181,⟨.int .u64,1,8,.int .u64 0⟩),(195,⟨.struct #[fld 9 0,fld 3 1,fld 3 2,fld 3 3,fld 3 4,fld 97 5],6,72,.agg #[Ze,Zk 0,Zk 0,Zk 0,Zk 0,Zn]⟩),(196,⟨.struct #[fld 9 0,fld 3 1,fld 3 2,fld 3 3,fld 3 4,fld 97 5],6,72,.agg #[Ze,Zk 0,Zk 0,Zk 0,Zk 0,Zn]⟩),(217,⟨.func #[] #[] false,1,8,.nilFunc⟩),(249,⟨.pointer 252,1,8,.pointer none⟩),(250,⟨.slice 5,1,24,Zn⟩),(251,⟨.struct #[fld 249 0,fld 250 1],2,32,.agg #[(.pointer none),Zn]⟩),(252,⟨.struct #[fld 249 0,fld 250 1],2,32,.agg #[(.pointer none),Zn]⟩),(284,⟨.struct #[fld 162 0],1,8,.agg #[(.map none)]⟩),(285,⟨.struct #[fld 162 0],1,8,.agg #[(.map none)]⟩),(286,⟨.slice 289,1,24,Zn⟩),(287,⟨.array 3 286,3,72,.agg #[Zn,Zn,Zn]⟩),(288,⟨.struct #[fld 9 0,fld 9 1],2,32,.agg #[Ze,Ze]⟩),(289,⟨.struct #[fld 9 0,fld 9 1],2,32,.agg #[Ze,Ze]⟩),(293,⟨.slice 45,1,24,Zn⟩),(310,⟨.pointer 5,1,8,.pointer none⟩),(327,⟨.struct #[fld 3 0],1,8,.agg #[(Zk 0)]⟩),(328,⟨.struct #[fld 3 0],1,8,.agg #[(Zk 0)]⟩)]
theorem tabL_ok:AllTy prog tabL:=allTy_of _ (by kernel_rfl) (by kernel_rfl)
def T:Tab prog:=⟨tabL,tabL_ok,by kernel_rfl⟩
end Go.Proofs.YtaaanbkahfeknaaGreatDoor
set_option maxRecDepth 20000
namespace Go.Proofs.YtaaanbkahfeknaaGreatDoor
variable {k i j:Nat} {s:Bs} {fz:FZ}
def Ybm (s:Bs) (i:Nat):Nat:=((s[i]?).map UInt8.toNat).getD 0
theorem YkE (h:k<s.size):∃ b:UInt8,s[k]?=some b/\Ybm s k=b.toNat:=by
 refine ⟨s[k],getElem?_pos s k h,?_⟩;simp [Ybm,getElem?_pos s k h]
def DigP (n:Int):Prop:=48<=n/\n<=57
instance {n:Int}:Decidable (DigP n):=inferInstanceAs (Decidable (_/\_))
theorem Ye8 {n:Int}:QFn prog 258 [.int .u8 n] fz (Zo (decide (DigP n))):=by
 refine qF Tryz.func258 Tryz.ntmps258 (fun w0=>?_);refine wC ?_ ?_<;>intro c1
 ·refine wC ?_ ?_<;>intro c2
  ·exact wR (h:=by exact (W9 ⟨c1,c2⟩))
  exact wR (h:=by exact Xf (fun h=>c2 h.2))
 exact wR (h:=by exact Xf (fun h=>c1 h.1))
def PreP (s p:Bs):Prop:=p.size<=s.size/\s.extract 0 p.size=p
instance {s p:Bs}:Decidable (PreP s p):=inferInstanceAs (Decidable (_/\_))
def YaV (s p:Bs):Bs:=if PreP s p then s.extract p.size s.size else s
theorem YdG (h:j<=s.size):(s.extract i j).size=j - i:=by
 simp [ByteArray.size_extract,Nat.min_eq_left h]
theorem Yh1 {p:Bs} (h:Short s):Short (YaV s p):=by
 unfold YaV Short at*;split
 ·rw [YdG (Zs _)];omega
 exact h
theorem YgI {p:Bs} (_hs:Short s) (hp:Short p):QFn prog 292 [Zy s,Zy p] fz (Zo (decide (PreP s p))):=by
 unfold Short at hp;refine qF Tryz.func292 Tryz.ntmps292 (fun w0=>?_);refine wC ?_ ?_<;>intro c1
 ·refine wG ?_;refine q_str_to T Zz Zz Zz Zz Zi Zi ?_;refine wC ?_ ?_<;>intro c2
  ·exact wR (h:=by exact (W9 ⟨by omega,by simpa using c2⟩))
  exact wR (h:=by exact Xf (fun h=>c2 (by simpa using h.2)))
 exact wR (h:=by exact Xf (fun h=>by have:=h.1;omega))
theorem YeI {p:Bs} (hs:Short s) (hp:Short p):QFn prog 297 [Zy s,Zy p] fz (Zy (YaV s p)):=by
 refine qF Tryz.func297 Tryz.ntmps297 (fun w0=>?_);refine wb (YgI hs hp) (fun f1=>?_) (fun f1=>?_)
 ·have hc:=Zt f1;have:=hc.1;refine wG ?_;refine Yij ?_ (h1:=by omega);exact wR (h:=by rw [YaV,if_pos hc];rfl)
 have hc:=Zf f1;exact wR (h:=by rw [YaV,if_neg hc])
theorem Yfw {p:Bs} (hs:Short s) (hp:Short p):QFn prog 260 [Zy s,Zy p] fz (Zy (YaV s p)):=by
 refine qF Tryz.func260 Tryz.ntmps260 (fun w0=>?_);refine wc (YeI hs hp) ?_;exact wR (h:=rfl)
def YbL:Bs:=⟨#[45]⟩
def WK:Bs:=⟨#[]⟩
def NumP (s:Bs):Prop:=(∀ i,i<(YaV s YbL).size->DigP (Ybm (YaV s YbL) i))/\YaV s YbL≠WK
open Classical in
theorem Yjy (hs:Short s):QFn prog 200 [Zy s] fz (Zo (decide (NumP s))):=by
 refine qF Tryz.func200 Tryz.ntmps200 (fun w0=>?_);refine wG ?_;refine Xn (Yfw (p:=YbL) hs (by unfold Short YbL;decide)) ?_;have hz:(YaV s YbL).size<=9223372036854775807:=Yh1 hs;refine zW ?_;refine YjK ((YaV s YbL).size) (fun k=>[(8,Zk k),(7,Zk (YaV s YbL).size),(0,Zy (YaV s YbL))]) [] (fun k=>(∀ i,i<k->DigP (Ybm (YaV s YbL) i))) (fun i hi=>absurd hi Zi) ?_;intro k hk hh;refine wC (fun hlt=>?_) (fun hge=>?_)
 ·refine zW ?_;obtain ⟨b,hb,hb2⟩:=YkE (s:=YaV s YbL) (k:=k) Zi
  ((refine zG ?_);refine Ybj ?_ (hb:=by rw [Int.toNat_natCast];exact hb));refine wb (Ye8 (n:=b.toNat)) (fun f1=>?_) (fun f1=>?_)
  ·exact wM (h:=by exact YbJ hh (by rw [hb2];exact Zt f1))
  exact wR (h:=by exact Xf (fun h=>Zf f1 (by rw [<- hb2];exact h.1 k Zi)))
 refine wC ?_ ?_<;>intro c1
 ·exact wR (h:=by exact (W9 ⟨fun i hi=>hh i Zi,c1⟩))
 exact wR (h:=by exact Xf (fun h=>h.2 c1))
def Yjd:List Bs:=[⟨#[97,110,100]⟩,⟨#[111,114]⟩,⟨#[110,111,116]⟩,⟨#[105,109,112,108,121]⟩,⟨#[102,111,114,97,108,108]⟩,⟨#[101,120,105,115,116,115]⟩,⟨#[119,104,101,110]⟩,⟨#[97,115,115,105,103,110]⟩,⟨#[105,110,99,114,101,97,115,101]⟩,⟨#[100,101,99,114,101,97,115,101]⟩,⟨#[111,98,106,101,99,116]⟩]
def LetP (n:Int):Prop:=97<=n/\n<=122
def NamAt (s:Bs) (i:Nat):Prop:=LetP (Ybm s i)\/(i≠0/\(DigP (Ybm s i)\/(Ybm s i:Int)=45\/(Ybm s i:Int)=95))
def YkO (s:Bs):Prop:=(∀ i,i<s.size->NamAt s i)/\s≠WK/\s.size<=32/\s ∉ Yjd
def VarP (s:Bs):Prop:=1<s.size/\s.size<=32/\(Ybm s 0:Int)=63/\YkO (s.extract 1 s.size)
def TermP (s:Bs):Prop:=YkO s\/VarP s
def Ye1:Bs:=⟨#[111,98,106,101,99,116]⟩
def TypedP (s:Bs):Prop:=YkO s\/s=Ye1
end Go.Proofs.YtaaanbkahfeknaaGreatDoor
namespace Go.Lx
end Go.Lx
namespace Go.Proofs.YtaaanbkahfeknaaGreatDoor
def PlnB (b:UInt8):Prop:=32<=b.toNat/\b.toNat<=126/\b.toNat≠34/\b.toNat≠92
def PlnS (s:Bs):Prop:=s.size<=1000/\∀ b∈s.data.toList,PlnB b
def Ydl (l:List UInt8):List UInt8:=34::(l++ [34])
def YfC (s:Bs):Bs:=strOf (Ydl s.data.toList)
end Go.Proofs.YtaaanbkahfeknaaGreatDoor
namespace Go.Lx
open Go.RowKit
def Ykp:List (Bs × Value)->Nat->List MapEntry
 | [],_=>[]
 | (k,v)::r,i=>⟨.string k,v,i⟩::Ykp r (i+1)
def mapS (m:List (Bs × Value)):Obj:=.map (Ykp m 0).toArray m.length
def fndS:List (Bs × Value)->Bs->Nat->Option (Nat × Value)
 | [],_,_=>none
 | (k,v)::r,x,i=>if x=k then some (i,v) else fndS r x (i+1)
theorem Yau:∀ (m:List (Bs × Value)) (x:Bs) (i j:Nat) (v:Value),fndS m x i=some (j,v)->i<=j/\m[j - i]?=some (x,v)
 | [],_,_,_,_,h=>by cases h
 | (k,u)::r,x,i,j,v,h=>by
  unfold fndS at h;split at h
  ·rename_i hk;injection h with h;injection h with h1 h2;subst h1 h2 hk;simp
  obtain ⟨h1,h2⟩:=Yau r x (i+1) j v h;exact ⟨by omega,by rw [show j - i=(j - (i+1))+1 from by omega];simpa using h2⟩
theorem YdE:∀ (m:List (Bs × Value)) (x:Bs) (i:Nat),fndS m x i=none->∀ p∈m,p.1≠x
 | [],_,_,_,p,hp=>by cases hp
 | (k,u)::r,x,i,h,p,hp=>by
  unfold fndS at h;split at h
  ·cases h
  rename_i hk;cases hp with
  | head=>exact fun he=>hk he.symm
  | tail _ hp=>exact YdE r x (i+1) h p hp
def updS (m:List (Bs × Value)) (x:Bs) (v:Value):List (Bs × Value):=match fndS m x 0 with
 | some (i,_)=>m.set i (x,v)
 | none=>m++ [(x,v)]
def valS (m:List (Bs × Value)) (x:Bs):Option Value:=(fndS m x 0).map (·.2)
theorem Yev:∀ (m:List (Bs × Value)) (x:Bs) (i j:Nat),(fndS m x i).map (·.2)=(fndS m x j).map (·.2)
 | [],_,_,_=>rfl
 | (k,v)::r,x,i,j=>by
  unfold fndS;split
  ·rfl
  exact Yev r x (i+1) (j+1)
theorem valS_nil (x:Bs):valS [] x=none:=rfl
theorem Wz (k:Bs) (v:Value) (r:List (Bs × Value)) (x:Bs):valS ((k,v)::r) x=if x=k then some v else valS r x:=by
 unfold valS;rw [fndS];split
 ·rfl
 exact Yev r x 1 0
theorem Ygh (m:List (Bs × Value)) (k:Bs) (v:Value) (x:Bs) (h:valS m k=none):valS (m++ [(k,v)]) x=if x=k then some v else valS m x:=by
 induction m with
 | nil=>rw [List.nil_append,Wz]
 | cons p r ih=>
  obtain ⟨a,u⟩:=p;rw [Wz] at h;split at h
  ·cases h
  rename_i hk;rw [List.cons_append,Wz,Wz,ih h];split
  ·rename_i hx;rw [if_neg (fun h0=>hk (by rw [<- h0,hx]))]
  rfl
theorem valS_set (m:List (Bs × Value)) (i:Nat) (k:Bs) (v u:Value) (x:Bs) (h:fndS m k 0=some (i,u)):valS (m.set i (k,v)) x=if x=k then some v else valS m x:=by
 have key:∀ (m:List (Bs × Value)) (i j:Nat),fndS m k j=some (i+j,u)->valS (m.set i (k,v)) x=if x=k then some v else valS m x:=by
  intro m
  induction m with
  | nil=>intro i j h;cases h
  | cons p r ih=>
   obtain ⟨a,w⟩:=p;intro i j h;unfold fndS at h;split at h
   ·rename_i hk;injection h with h;injection h with h1 h2
    have:i=0:=by omega
    subst this hk;rw [List.set_cons_zero,Wz,Wz];split<;>rfl
   rename_i hk;have h3:=Yau r k (j+1) (i+j) u h;obtain ⟨i',rfl⟩:∃ i',i=i'+1:=⟨i - 1,by omega⟩;rw [List.set_cons_succ,Wz,Wz,ih i' (j+1) (by rw [h];congr 2;omega)];split
   ·rename_i hx;rw [if_neg (fun h0=>hk (by rw [<- h0,hx]))]
   rfl
 exact key m i 0 (by simpa using h)
theorem YbD (m:List (Bs × Value)) (k:Bs) (v:Value) (x:Bs):valS (updS m k v) x=if x=k then some v else valS m x:=by
 unfold updS;cases h:fndS m k 0 with
 | none=>exact Ygh m k v x (by unfold valS;rw [h];rfl)
 | some p=>obtain ⟨i,u⟩:=p;exact valS_set m i k v u x h
theorem elimS (m:List (Bs × Value)) (x:Bs) (z:Value):(fndS m x 0).elim z (·.2)=(valS m x).getD z:=by unfold valS;cases fndS m x 0<;>rfl
end Go.Lx
namespace Go.Proofs.YtaaanbkahfeknaaGreatDoor
variable {fz:FZ} {s:Bs}
def WZ (s:Bs):Sexpr:=.mk 1 0 0 0 s []
def Ybi (s:Bs):List Value:=[Zk 1,Zk 0,Zk 0,Zk 0,Zy s,Zn]
theorem Yc3 (hs:Short s):YbE.rep fz (WZ s) (Ybi s):=
 Ydf (x:=WZ s) ⟨by show I64 1;unfold I64;omega,by show I64 0;unfold I64;omega,by show I64 0;unfold I64;omega,by show I64 0;unfold I64;omega,hs,IsSl.nil⟩
def paramS (p:Param):List Bs:=[p.name,YbL,p.typ]
end Go.Proofs.YtaaanbkahfeknaaGreatDoor
namespace Go.Lx
open Go.RowKit
end Go.Lx
namespace Go.Proofs.YtaaanbkahfeknaaGreatDoor
variable {fz fz':FZ} {v:Value}
def tyM (l:List Param):List (Bs × Value):=l.map fun p=>(p.name,Zy p.typ)
def tyF:List Param->Bs->Option Bs
 | [],_=>none
 | p::r,t=>if t=p.name then some p.typ else tyF r t
def ForR (fz:FZ) (v:Value) (l:List Param):Prop:=∃ gf gm,v=Zp gf/\fz gf=some (Zu #[.map (some gm)] 285)/\fz gm=some (mapS (tyM l))
theorem ForR.mono {l:List Param} (h:ForR fz v l) (hle:Le fz fz'):ForR fz' v l:=by
 obtain ⟨gf,gm,h1,h2,h3⟩:=h;exact ⟨gf,gm,h1,hle _ _ h2,hle _ _ h3⟩
def HasT (l:List Param) (t:Bs):Prop:=t=Ye1\/(tyF l t).isSome=true
def upT (l:List Param) (t:Bs):Bs:=(tyF l t).getD ⟨#[]⟩
def upN (l:List Param):Nat->Bs->Prop
 | 0,t=>t=Ye1
 | n+1,t=>t≠Ye1/\upN l n (upT l t)
def chN (l:List Param):Nat->Bs->List Bs
 | 0,t=>[t]
 | n+1,t=>t::chN l n (upT l t)
theorem YiM {l:List Param}:∀ {n m:Nat} {t:Bs},upN l n t->upN l m t->n=m
 | 0,0,_,_,_=>rfl
 | 0,m+1,t,h1,h2=>absurd h1 h2.1
 | n+1,0,t,h1,h2=>absurd h2 h1.1
 | n+1,m+1,t,h1,h2=>by rw [YiM h1.2 h2.2]
theorem Yb0:OneC strL:=by
 intro fz d cs h u hu;obtain ⟨rfl,_⟩:=h;simp at hu;subst hu;rfl
def WFT (l:List Param):Prop:=(∀ p∈l,Short p.typ)/\∀ t,HasT l t->∃ m,m<=1000/\upN l m t
theorem YjY {l:List Param} {a b:Bs} {m:Nat} (h:upN l m a):(∃ m,upN l m a/\b∈chN l m a)↔b∈chN l m a:=
 ⟨fun ⟨k,h1,h2⟩=>by rw [YiM h h1];exact h2,fun h2=>⟨m,h,h2⟩⟩
end Go.Proofs.YtaaanbkahfeknaaGreatDoor
namespace Go.Proofs.YtaaanbkahfeknaaGreatDoor
variable {fz fz':FZ} {v:Value}
def kNumber:Bs:=⟨#[110,117,109,98,101,114]⟩
def kFluent:Bs:=⟨#[102,108,117,101,110,116]⟩
def SxIs (fz:FZ) (v:Value) (x:Sexpr):Prop:=∃ cs,v=.agg (List.toArray cs)/\YbE.rep fz x cs
theorem SxIs.mono (h:Le fz fz') {x:Sexpr} (hs:SxIs fz v x):SxIs fz' v x:=by
 obtain ⟨cs,e,hr⟩:=hs;exact ⟨cs,e,YbE.mono h hr⟩
def Yd4 (l:List Sexpr):Sexpr:=.mk 3 0 0 0 ⟨#[]⟩ l
def numE (n:Int):Sexpr:=.mk 2 n 0 0 ⟨#[]⟩ []
def YiI (f:Bs) (l:List Bs):Sexpr:=Yd4 (WZ f::l.map WZ)
def exprE:Nat->Lx.Expr->Sexpr
 | 0,_=>numE 0
 | s+1,e=>open Classical in if e.op=kNumber then numE e.n else if e.op=kFluent then YiI e.name e.args else Yd4 (WZ e.op::e.kids.map (exprE s))
def exprX (e:Lx.Expr):Sexpr:=exprE (SizeOf.sizeOf e) e
def kAtom:Bs:=⟨#[97,116,111,109]⟩
def kSame:Bs:=⟨#[115,97,109,101]⟩
def kEq:Bs:=⟨#[61]⟩
def kLt:Bs:=⟨#[60]⟩
def kLe:Bs:=⟨#[60,61]⟩
def kAnd:Bs:=⟨#[97,110,100]⟩
def kForall:Bs:=⟨#[102,111,114,97,108,108]⟩
def kExists:Bs:=⟨#[101,120,105,115,116,115]⟩
def CmpOp (s:Bs):Prop:=s=kLt\/s=kLe\/s=kEq
open Classical in
def formE:Nat->Formula->Sexpr
 | 0,_=>numE 0
 | s+1,f=>if f.op=kAtom then YiI f.name f.args else if f.op=kSame then YiI kEq f.args else if CmpOp f.op then Yd4 (WZ f.op::f.exprs.map exprX)
  else Yd4 ((if f.op≠kAnd\/f.kids≠ [] then [WZ f.op] else [])++(if f.op=kForall\/f.op=kExists then [Yd4 ((f.params.flatMap paramS).map WZ)] else [])++f.kids.map (formE s))
def formX (f:Formula):Sexpr:=formE (SizeOf.sizeOf f) f
end Go.Proofs.YtaaanbkahfeknaaGreatDoor
namespace Go.Lx
theorem Yhm {P:Program} {cx:Cx} {r:Operand->Option Value} {fz:FZ} {H:HP} {V:Value->Prop} {dst:Option Nat} {ty:TypeId} {pos:String} {af:Array Edge} {gd:Option (Nat × Bool)} {f:FuncId} {ff:Operand} {xs:List Operand} {ats:Array TypeId} {us vs first capt:List Value} {p:Prop} [Decidable p] (hf:r ff=some (.func (.func f) first.toArray capt.toArray)) (hx:rds r xs=some us) (hv:first++us++capt=vs) (hq:QFn P f vs fz (Zo (decide p)))
 (h1:p->V (.bool true)) (h2:¬p->V (.bool false)):DoesQ P cx ⟨dst,.call {callee:=.value ff,args:=xs.toArray,argTypes:=ats},ty,pos,af,gd⟩ r fz H V:=
 YY hq (YeC h1 h2) (hf:=hf) (hx:=hx) (hv:=hv)
end Go.Lx
namespace Go.Proofs.YtaaanbkahfeknaaGreatDoor
def kPlus:Bs:=⟨#[43]⟩
def kStar:Bs:=⟨#[42]⟩
def BinP (s:Bs):Prop:=s=kPlus\/s=YbL\/s=kStar
def ENode (e:Lx.Expr):Prop:=
 (e.op=kNumber/\e.name=WK/\e.args=[]/\e.kids=[]/\Yfn e.n)\/(e.op=kFluent/\e.n=0/\e.kids=[]/\YkO e.name/\∀ s∈e.args,TermP s)\/(BinP e.op/\e.n=0/\e.name=WK/\e.args=[]/\e.kids.length=2)
abbrev EOk (e:Lx.Expr):Prop:=EAll ENode e
theorem len0 {α:Type} {l:List α} {n:Nat} (h:l.length=n):(n:Int)=0↔l=[]:=by
 constructor
 ·intro h0;exact List.eq_nil_of_length_eq_zero Zi
 intro h0;subst h0;simp at h;omega
def kOr:Bs:=⟨#[111,114]⟩
def kNot:Bs:=⟨#[110,111,116]⟩
def kImply:Bs:=⟨#[105,109,112,108,121]⟩
def fkind (f:Formula):Option (Nat × Bool × Nat):=
 if f.op=kAtom\/f.op=kSame then some (0,false,0) else if CmpOp f.op then some (2,false,0) else if f.op=kAnd\/f.op=kOr then some (0,false,f.kids.length) else if f.op=kNot then some (0,false,1)
 else if f.op=kImply then some (0,false,2) else if f.op=kForall\/f.op=kExists then some (0,true,1) else none
def fhead (f:Formula):Prop:=(f.op=kAtom->YkO f.name)/\(f.op=kSame->f.name=WK/\f.args.length=2)/\(f.op=kAtom\/f.op=kSame->∀ s∈f.args,TermP s)
def frest (f:Formula) (k:Nat × Bool × Nat):Prop:=(f.op≠kAtom->f.op≠kSame->f.name=WK/\f.args=[])/\f.exprs.length=k.1/\f.kids.length=k.2.2/\(k.2.1=false->f.params=[])
def FNode (f:Formula):Prop:=fhead f/\(∃ k,fkind f=some k/\frest f k)/\∀ p∈f.params,VarP p.name/\TypedP p.typ
abbrev FOk (f:Formula):Prop:=FAll FNode ENode f
end Go.Proofs.YtaaanbkahfeknaaGreatDoor
namespace Go.Proofs.YtaaanbkahfeknaaGreatDoor
variable {α:Type} {fz:FZ} {s:Bs} {k c g:Nat} {vk:Value} {l:List α}
theorem Y1 {b:UInt8}:∀ {l:List UInt8},0<=Lib.indexByte l b↔b∈l
 | []=>by simp [Lib.indexByte]
 | x::r=>by
  have ih:=Y1 (b:=b) (l:=r);simp only [Lib.indexByte,List.mem_cons];split
  ·rename_i h;have:x=b:=by simpa using h
   simp [this]
  rename_i h;have hx:¬b=x:=by
   intro h0;subst h0;simp at h
  simp only [hx,false_or];split
  ·rename_i h1;rw [<- ih,eq_of_beq h1]
  rename_i h1;have h2:Lib.indexByte r b≠ -1:=by simpa using h1
  have:=Lib.indexByte_ge r b;rw [<- ih];omega
theorem sibs_q {n:Int}:QFn prog 296 [Zy s,.int .u8 n] fz (Zk (Lib.indexByte s.data.toList n.toNat.toUInt8)):=by
 refine qF Tryz.func296 Tryz.ntmps296 (fun w0=>?_);refine zW ?_;refine Seq.q rfl (DoesQ.of (v:=Zk (Lib.indexByte s.data.toList n.toNat.toUInt8)) ?_ fun ρ w hr hi=>?_)
 ·exact wR (h:=rfl)
 have h5:ρ (.tmp 5)=Zy s:=hr _ _ rfl;have h6:ρ (.tmp 6)=.int .u8 n:=hr _ _ rfl;have h7:ρ (.func 325)=.func (.func 325) #[] #[]:=hr _ _ rfl;have hrun:=run_callFunc_indexByte (P:=prog) Tryz.func325 Zj rfl (by rfl) (by rfl) #[Zy s,.int .u8 n] w;rw [Lib.run_indexByteString] at hrun;simp only [execOp,resolve,Deferred.ofValue,invoke,List.map_toArray,List.map_cons,List.map_nil,h5,h6,h7,Sem.run_bind,Sem.run_pure,Result.andThen_ok] at hrun ⊢;simp only [Array.empty_append,Array.append_empty];rw [hrun];exact ⟨rfl,Fr.refl _ _⟩
theorem ibs_q {n:Int}:QFn prog 259 [Zy s,.int .u8 n] fz (Zk (Lib.indexByte s.data.toList n.toNat.toUInt8)):=by
 refine qF Tryz.func259 Tryz.ntmps259 (fun w0=>?_);refine wc sibs_q ?_;exact wR (h:=rfl)
def UpC (n:Int):Prop:=65<=n/\n<=90
def SymL:List UInt8:=[45,95,63,58,60,62,61,43,42]
def LowC (b:UInt8):Prop:=LetP b.toNat\/DigP b.toNat\/b∈SymL
def AnyC (b:UInt8):Prop:=UpC b.toNat\/LowC b
def lowB (b:UInt8):UInt8:=if UpC b.toNat then b+32 else b
def lowS (s:Bs):Bs:=⟨(s.data.toList.map lowB).toArray⟩
def LowP (s:Bs):Prop:=s≠WK/\s.size<=32/\∀ b∈s.data.toList,AnyC b
theorem YiO {n:Int} (h:0<=n/\n<=255:=by omega):IntKind.u8.wrap n=n:=by
 simp only [IntKind.wrap,IntKind.signed,IntKind.bits];simp;omega
theorem byteV_up {b:UInt8} (h:UpC b.toNat):Value.int .u8 ((b.toNat:Int)+97 - 65)=YaN (lowB b):=by
 unfold UpC at h;have h2:(b+32).toNat=b.toNat+32:=by rw [UInt8.toNat_add];simp;omega
 unfold YaN lowB UpC;rw [if_pos h,h2]
 congr 1
 omega
theorem YbK:s.data.toList.length=s.size:=by rw [Array.length_toList];rfl
theorem get_data (h:k<s.size):s.data.toList[k]?=some s[k]:=by
 rw [List.getElem?_eq_getElem (by rw [YbK];exact h)];rfl
theorem set_mid {f:α->α} {x:α} (h:l[k]?=some x):((l.take k).map f++l.drop k).set k (f x)=(l.take (k+1)).map f++l.drop (k+1):=by
 have hk:k<l.length:=(Zg h).1;have hl:((l.take k).map f).length=k:=by simp;omega
 rw [List.set_append_right _ _ Zi,hl,Nat.sub_self,List.take_add_one,h];have:l.drop k=x::l.drop (k+1):=by
  rw [List.drop_eq_getElem_cons hk];rw [List.getElem?_eq_getElem hk] at h;cases h;rfl
 rw [this];simp
theorem YaI {f:α->α} {x:α} (h:l[k]?=some x) (hf:f x=x):(l.take k).map f++l.drop k=(l.take (k+1)).map f++l.drop (k+1):=by
 rw [<- set_mid h,hf];have hk:k<l.length:=(Zg h).1;apply List.ext_getElem?;intro i;rw [List.getElem?_set];split
 ·rename_i he;subst he;have hl:((l.take k).map f).length=k:=by simp;omega
  rw [if_pos (by simp;omega),List.getElem?_append_right Zi,hl,Nat.sub_self,List.getElem?_drop,Nat.add_zero,h]
 rfl
theorem get_mid {f:α->α} {x:α} (h:l[k]?=some x):((l.take k).map f++l.drop k)[k]?=some x:=by
 have hk:k<l.length:=(Zg h).1;have hl:((l.take k).map f).length=k:=by simp;omega
 rw [List.getElem?_append_right Zi,hl,Nat.sub_self,List.getElem?_drop,Nat.add_zero,h]
theorem Yah {p:α->Prop} {x:α} (h:∀ b∈l.take k,p b) (hx:l[k]?=some x) (hp:p x):∀ b∈l.take (k+1),p b:=by
 rw [List.take_add_one,hx];intro b hb;rcases List.mem_append.1 hb with hb | hb
 ·exact h b hb
 simp at hb;subst hb;exact hp
theorem YaH {b:UInt8} (h:¬UpC b.toNat):lowB b=b:=if_neg h
theorem Ycg {b:UInt8}:((b.toNat:Int).toNat).toUInt8=b:=by simp [Nat.toUInt8]
theorem YjG:QFn prog 199 [Zy s] fz (.tuple #[Zy (if LowP s then lowS s else WK),Zo (decide (LowP s))]):=by
 refine GFn.quiet ?_;have no:¬LowP s->Value.tuple #[Zy WK,Zo false]=.tuple #[Zy (if LowP s then lowS s else WK),Zo (decide (LowP s))]:=fun h=>by rw [if_neg h,decide_eq_false h]
 refine zF Tryz.func199 Tryz.ntmps199 (fun w0=>?_);refine wC ?_ ?_<;>intro c1
 ·exact wS (h:=by exact no (fun h=>h.1 c1))
 refine wC ?_ ?_<;>intro c2
 ·exact wS (h:=by exact no (fun h=>by have:=h.2.1;omega))
 refine zW ?_;refine Yc (k_bytes (fun g k0=>?_));have hz:s.size<=32:=by omega
 refine zW ?_;refine Yd (fun q σ fz' H'=>∃ k:Nat,k<=s.size/\q=s.size - k/\σ=[(18,Zk k),(17,Zk s.size),(16,Zv g s.size (s.size+k0)),(4,Zv g s.size (s.size+k0))]/\fz=fz'/\
  H'=[(g,Yav 5 ((s.data.toList.take k).map lowB++s.data.toList.drop k) k0)]/\(∀ b∈s.data.toList.take k,AnyC b)) ⟨0,Z0 _,rfl,rfl,rfl,rfl,by simp⟩ Zw Zb ?_
 rintro q σ fz' H' ⟨k,hk,rfl,rfl,rfl,rfl,hh⟩;have hlen:((s.data.toList.take k).map lowB++s.data.toList.drop k).length=s.size:=by
  have:=YbK (s:=s);simp only [List.length_append,List.length_map,List.length_take,List.length_drop];omega
 refine wC ?_ ?_<;>intro c3
 ·obtain ⟨b,hb⟩:∃ b,s.data.toList[k]?=some b:=⟨_,get_data Zi⟩;have hlt:=b.toNat_lt;have bad:¬AnyC b->¬LowP s:=fun h0 h1=>h0 (h1.2.2 b (Zm hb))
  refine wG ?_;refine Ydm T Zz Zz Zz Zz Zz Zz Zi Zi ?_;refine zG ?_;refine Ygq 0 (get_mid hb) ?_;refine wC ?_ ?_<;>intro d1
  ·refine wC ?_ ?_<;>intro d2
   ·refine wG ?_;refine YM Zz Zz (YiO) ?_;refine zG ?_;refine Ybp Zz Zz (YiO) ?_;refine zG ?_;refine Ydm T Zz Zz Zz Zz Zz Zz Zi Zi ?_;refine Yx (YfS (pre:=[]) (congrArg some (byteV_up ⟨d1,d2⟩)) rfl ?_ (hj:=by rw [hlen];exact (by omega:k<s.size)));exact wP (h:=by exact ⟨k+1,by omega,rfl,rfl,rfl,by rw [<- set_mid hb],Yah hh hb (.inl ⟨d1,d2⟩)⟩)
   have nu:¬UpC b.toNat:=fun h0=>d2 h0.2
   refine wC ?_ ?_<;>intro d3
   ·refine wC ?_ ?_<;>intro d4
    ·exact wP (h:=by exact ⟨k+1,by omega,rfl,rfl,rfl,by rw [<- YaI hb (YaH nu)],Yah hh hb (.inr (.inl ⟨d3,d4⟩))⟩)
    have nl:¬LetP b.toNat:=fun h0=>d4 h0.2
    refine wb (Ye8 (n:=b.toNat)) (fun f1=>?_) (fun f1=>?_)
    ·exact wP (h:=by exact ⟨k+1,by omega,rfl,rfl,rfl,by rw [<- YaI hb (YaH nu)],Yah hh hb (.inr (.inr (.inl (Zt f1))))⟩)
    refine wc (ibs_q (n:=b.toNat)) ?_;refine zC ?_ ?_<;>intro e1
    ·exact wP (h:=by exact ⟨k+1,by omega,rfl,rfl,rfl,by rw [<- YaI hb (YaH nu)],Yah hh hb (.inr (.inr (.inr (by rw [Y1,Ycg] at e1;exact e1))))⟩)
    refine zW ?_;exact ret2 rfl rfl rfl Zb (no (bad (fun h0=>by
     rcases h0 with h0 | h0 | h0 | h0
     ·exact nu h0
     ·exact nl h0
     ·exact Zf f1 h0
     exact e1 (Y1.2 (by rw [Ycg];exact h0)))))
   have nl:¬LetP b.toNat:=fun h0=>d3 h0.1
   refine wb (Ye8 (n:=b.toNat)) (fun f1=>?_) (fun f1=>?_)
   ·exact wP (h:=by exact ⟨k+1,by omega,rfl,rfl,rfl,by rw [<- YaI hb (YaH nu)],Yah hh hb (.inr (.inr (.inl (Zt f1))))⟩)
   refine wc (ibs_q (n:=b.toNat)) ?_;refine zC ?_ ?_<;>intro e1
   ·exact wP (h:=by exact ⟨k+1,by omega,rfl,rfl,rfl,by rw [<- YaI hb (YaH nu)],Yah hh hb (.inr (.inr (.inr (by rw [Y1,Ycg] at e1;exact e1))))⟩)
   refine zW ?_;exact ret2 rfl rfl rfl Zb (no (bad (fun h0=>by
    rcases h0 with h0 | h0 | h0 | h0
    ·exact nu h0
    ·exact nl h0
    ·exact Zf f1 h0
    exact e1 (Y1.2 (by rw [Ycg];exact h0)))))
  have nu:¬UpC b.toNat:=fun h0=>d1 h0.1
  refine wC ?_ ?_<;>intro d3
  ·exact absurd d3 Zi
  have nl:¬LetP b.toNat:=fun h0=>d3 h0.1
  refine wb (Ye8 (n:=b.toNat)) (fun f1=>?_) (fun f1=>?_)
  ·exact wP (h:=by exact ⟨k+1,by omega,rfl,rfl,rfl,by rw [<- YaI hb (YaH nu)],Yah hh hb (.inr (.inr (.inl (Zt f1))))⟩)
  refine wc (ibs_q (n:=b.toNat)) ?_;refine zC ?_ ?_<;>intro e1
  ·exact wP (h:=by exact ⟨k+1,by omega,rfl,rfl,rfl,by rw [<- YaI hb (YaH nu)],Yah hh hb (.inr (.inr (.inr (by rw [Y1,Ycg] at e1;exact e1))))⟩)
  refine zW ?_;exact ret2 rfl rfl rfl Zb (no (bad (fun h0=>by
   rcases h0 with h0 | h0 | h0 | h0
   ·exact nu h0
   ·exact nl h0
   ·exact Zf f1 h0
   exact e1 (Y1.2 (by rw [Ycg];exact h0)))))
 rw [show s.data.toList.take k=s.data.toList from Zl (by rw [YbK];omega),show s.data.toList.drop k=[] from List.drop_eq_nil_of_le (by rw [YbK];omega),List.append_nil] at*;have hP:LowP s:=⟨c1,by omega,hh⟩;refine wG ?_;refine Ygo 0 hlen ?_;exact wS (h:=by exact (by rw [if_pos hP,decide_eq_true hP];rfl))
def WordT (s:Bs):Prop:=s≠WK/\s.size<=32/\(∀ b∈s.data.toList,LowC b)/\¬NumP s
def Yd9 (x:Sexpr):Prop:=(x.kind=1/\WordT x.text/\x.value=0/\x.kids=[])\/(x.kind=2/\x.text=WK/\x.kids=[]/\Yfn x.value)\/(x.kind=3/\x.text=WK/\x.value=0)
abbrev XOk (x:Sexpr):Prop:=XAll Yd9 x
def XVal (x:Sexpr):Prop:=XOk x/\xdepth x<=32/\xcount x<=4096
theorem YjH:(lowS s).size=s.size:=by
 have:=YbK (s:=s);simp only [lowS,ByteArray.size,List.size_toArray,List.length_map];exact this
theorem lowB_fix {b:UInt8} (h:lowB b=b):¬UpC b.toNat:=by
 intro hu;rw [lowB,if_pos hu] at h;have h1:=congrArg UInt8.toNat h;unfold UpC at hu;rw [UInt8.toNat_add] at h1;simp at h1;omega
theorem YjD {α:Type} {f:α->α}:∀ {l:List α},l.map f=l->∀ x∈l,f x=x
 | [],_,_,hx=>by cases hx
 | a::r,h,x,hx=>by
  simp only [List.map_cons,List.cons.injEq] at h;rcases List.mem_cons.1 hx with rfl | hx
  ·exact h.1
  exact YjD h.2 x hx
theorem Yki {α:Type} {f:α->α}:∀ {l:List α},(∀ x∈l,f x=x)->l.map f=l
 | [],_=>rfl
 | a::r,h=>by rw [List.map_cons,h a (by simp),Yki (fun x hx=>h x (by simp [hx]))]
theorem low_upc {b:UInt8} (h:LowC b):¬UpC b.toNat:=by
 unfold LowC LetP DigP SymL at h;unfold UpC;rcases h with h | h | h
 ·omega
 ·omega
 simp only [List.mem_cons,List.not_mem_nil,or_false] at h;rcases h with rfl | rfl | rfl | rfl | rfl | rfl | rfl | rfl | rfl<;>decide
theorem YgB:LowP s/\lowS s=s↔s≠WK/\s.size<=32/\∀ b∈s.data.toList,LowC b:=by
 constructor
 ·rintro ⟨⟨h1,h2,h3⟩,h4⟩;refine ⟨h1,h2,fun b hb=>?_⟩;have h5:s.data.toList.map lowB=s.data.toList:=by
   have:=congrArg (fun t:Bs=>t.data.toList) h4;simpa [lowS] using this
  exact (h3 b hb).resolve_left (lowB_fix (YjD h5 b hb))
 rintro ⟨h1,h2,h3⟩;refine ⟨⟨h1,h2,fun b hb=>.inr (h3 b hb)⟩,?_⟩;have:=Yki (f:=lowB) (l:=s.data.toList) (fun b hb=>if_neg (low_upc (h3 b hb)));unfold lowS;rw [this]
def cntO (c:Int):Obj:=Zu #[Zk c] 3
def XBud (g:Nat) (x:Sexpr) (d c:Nat) (v:Value) (H':HP):Prop:=
 ∃ (b:Bool) (c':Int),v=Zo b/\H'=[(g,cntO c')]/\(b=true->c'=((c+xcount x:Nat):Int))/\(b=true↔XOk x/\d+xdepth x<=32/\c+xcount x<=4096)
theorem YeB {x:Sexpr} {d:Nat} {c':Int} (h:¬(XOk x/\d+xdepth x<=32/\c+xcount x<=4096)):XBud g x d c (Zo false) [(g,cntO c')]:=⟨false,c',rfl,rfl,(by simp),iff_of_false (by simp) h⟩
theorem Yft {g:Nat} {x:Sexpr} {d c:Nat} (h:Yd9 x) (hk:x.kids=[]) (hd:d<=32) (h3:x.kind≠3:=by omega) (hc:c+1<=4096:=by omega):XBud g x d c (Zo true) [(g,cntO (c+1:Nat))]:=by
 have h1:xcount x=1:=by rw [YaT,hk];simp [xcountL]
 have h2:xdepth x=0:=by rw [Yc2,hk,if_neg h3];simp [xdepthL]
 exact ⟨true,_,rfl,rfl,fun _=>by rw [h1],iff_of_true rfl ⟨Wo.2 ⟨h,by rw [hk];simp⟩,by omega,by omega⟩⟩
theorem xnode1 {x:Sexpr} (h:x.kind=1):Yd9 x↔WordT x.text/\x.value=0/\x.kids=[]:=by
 unfold Yd9;rw [h];simp
theorem xnode2 {x:Sexpr} (h:x.kind=2):Yd9 x↔x.text=WK/\x.kids=[]/\Yfn x.value:=by
 unfold Yd9;rw [h];simp
theorem xnode3 {x:Sexpr} (h:x.kind=3):Yd9 x↔x.text=WK/\x.value=0:=by
 unfold Yd9;rw [h];simp
theorem YiK:∀ (s:Nat) {fz:FZ} {x:Sexpr} {vk:Value} {g d c:Nat},SizeOf.sizeOf x<=s->Yay fz x vk->d<=32->c<=4096->
 GFn prog 128 [.agg #[Zk x.kind,Zk x.value,Zk x.line,Zk x.column,Zy x.text,vk],Zk d,Zp g] fz [(g,cntO c)] (fun v fz' H'=>Le fz fz'/\XBud g x d c v H')
 | 0,_,x,_,_,_,_,hs,_,_,_=>by cases x;simp at hs
 | s+1,fz,x,vk,g,d,c,hs,h,hd,hc=>by
  obtain ⟨A,n,ca,rfl,hk⟩:=h.kids;have no:∀ {c':Int},¬Yd9 x->XBud g x d c (Zo false) [(g,cntO c')]:=fun h0=>YeB (fun h1=>h0 (Wo.1 h1.1).1)
  have e1:=YaT x;have e2:=Yc2 x;unfold cntO;refine zF Tryz.func128 Tryz.ntmps128 (fun w0=>?_);refine pX (fun g0=>?_);refine wC ?_ ?_<;>intro c1
  ·refine zW ?_;exact ret1 rfl rfl (List.Sublist.cons _ (List.Sublist.refl _)) ⟨Zd,YeB (fun h0=>by omega)⟩
  refine wC (fun x1=>?_) (fun y1=>?_)
  ·have hn:=xnode1 x1;by_cases hL:LowP x.text
   ·have hq:=YjG (fz:=fz) (s:=x.text);rw [if_pos hL,decide_eq_true hL] at hq;refine wc hq ?_;refine wC ?_ ?_<;>intro n1
    ·have hw:=(YgB.1 ⟨hL,n1⟩);refine wG ?_;refine Yjq (Yjy (s:=lowS x.text) (by unfold Short;rw [YjH];exact h.text)) (fun f1=>?_) (fun f1=>?_)
     ·refine zW ?_;exact ret1 rfl rfl Zb ⟨Zd,no (fun h0=>(hn.1 h0).1.2.2.2 (by rw [<- n1];exact Zt f1))⟩
     refine zW ?_
     (((refine zC (fun n2=>?_) (fun n2=>?_));rotate_left 1;((refine zW ?_);(exact ret1 rfl rfl Zb ⟨Zd,no (fun h0=>n2 (hn.1 h0).2.1)⟩));(refine zW ?_)))
     (((refine zC (fun n3=>?_) (fun n3=>?_));rotate_left 1;((refine zW ?_);(exact ret1 rfl rfl Zb ⟨Zd,no (fun h0=>n3 ((len0 hk.len).2 (hn.1 h0).2.2))⟩));(refine zW ?_)));exact wR (h:=by exact ⟨Zd,Yft (hn.2 ⟨⟨hw.1,hw.2.1,hw.2.2,by rw [<- n1];exact Zf f1⟩,n2,(len0 hk.len).1 n3⟩) ((len0 hk.len).1 n3) hd⟩)
    refine zW ?_;exact ret1 rfl rfl (List.Sublist.cons _ (List.Sublist.refl _)) ⟨Zd,no (fun h0=>n1 (YgB.2 ⟨(hn.1 h0).1.1,(hn.1 h0).1.2.1,(hn.1 h0).1.2.2.1⟩).2)⟩
   have hq:=YjG (fz:=fz) (s:=x.text);rw [if_neg hL,decide_eq_false hL] at hq;refine wc hq ?_;refine zW ?_;exact ret1 rfl rfl (List.Sublist.cons _ (List.Sublist.refl _)) ⟨Zd,no (fun h0=>hL (YgB.2 ⟨(hn.1 h0).1.1,(hn.1 h0).1.2.1,(hn.1 h0).1.2.2.1⟩).1)⟩
  refine wC (fun x2=>?_) (fun y2=>?_)
  ·have hn:=xnode2 x2;refine zW ?_
   (((refine zC (fun n1=>?_) (fun n1=>?_));rotate_left 1;((refine zW ?_);(exact ret1 rfl rfl Zb ⟨Zd,no (fun h0=>n1 (hn.1 h0).1)⟩));(refine zW ?_)))
   (((refine zC (fun n3=>?_) (fun n3=>?_));rotate_left 1;((refine zW ?_);(exact ret1 rfl rfl Zb ⟨Zd,no (fun h0=>n3 ((len0 hk.len).2 (hn.1 h0).2.1))⟩));(refine zW ?_)))
   (((refine zC (fun n4=>?_) (fun n4=>?_));rotate_left 1;((refine zW ?_);(exact ret1 rfl rfl Zb ⟨Zd,no (fun h0=>n4 (hn.1 h0).2.2.1)⟩));(refine zW ?_)))
   (((refine zC (fun n5=>?_) (fun n5=>?_));rotate_left 1;((refine zW ?_);(exact ret1 rfl rfl Zb ⟨Zd,no (fun h0=>n5 (hn.1 h0).2.2.2)⟩));(refine zW ?_)));exact wR (h:=by exact ⟨Zd,Yft (hn.2 ⟨n1,(len0 hk.len).1 n3,n4,n5⟩) ((len0 hk.len).1 n3) hd⟩)
  refine wC (fun x3=>?_) (fun y3=>?_)
  ·have hn:=xnode3 x3;rw [if_pos x3] at e2;have sk:=hk.short;have lk:=hk.len;refine zW ?_
   (((refine zC (fun n1=>?_) (fun n1=>?_));((refine zW ?_);(exact ret1 rfl rfl Zb ⟨Zd,no (fun h0=>n1 (hn.1 h0).1)⟩));(refine zW ?_)))
   (((refine zC (fun n2=>?_) (fun n2=>?_));((refine zW ?_);(exact ret1 rfl rfl Zb ⟨Zd,no (fun h0=>n2 (hn.1 h0).2)⟩));(refine zW ?_)))
   (((refine zC (fun n3=>?_) (fun n3=>?_));((refine zW ?_);(exact ret1 rfl rfl Zb ⟨Zd,YeB (fun h0=>by omega)⟩));(refine zW ?_)));refine Yd (fun mm σ fz' H'=>∃ k:Nat,k<=n/\mm=n - k/\σ=[(91,Zk k),(90,Zk n),(89,Zc A n ca),(2,Zp g),(1,Zk d)]/\Le fz fz'/\H'=[(g,Zu #[Zk (c+1+xcountL (x.kids.take k):Nat)] 3)]/\(∀ i,i<k->∀ y,x.kids[i]?=some y->XOk y/\d+1+xdepth y<=32)/\c+1+xcountL (x.kids.take k)<=4096) ⟨0,Z0 _,rfl,rfl,Zd,rfl,(fun i hi=>absurd hi Zi),by simp [xcountL];omega⟩ Zw Zb ?_;rintro _ σ fz' H' ⟨k,hkn,rfl,rfl,hle,rfl,hh,hcc⟩;have hk2:=hk.mono hle;refine wC ?_ ?_<;>intro c2
   ·obtain ⟨y,hy⟩:=Yq (l:=x.kids) (k:=k) Zi;have hym:=Zm hy;have hlt:=Sexpr.kids_lt hym;have hst:=Yfr hy;have htk:=Ycq (l:=x.kids) (k:=k+1);refine zW ?_;refine zI hk2 hy (fun p1 hp1=>?_);refine zL hp1 ?_;intro cs hcs;obtain ⟨wk,rfl,hRy⟩:=YaB hcs;obtain ⟨A1,n6,b1,rfl,_⟩:=hRy.kids;refine zW ?_;intros
    first | refine Wp.perm (List.Perm.swap _ _ _) ?_ | refine Seq.perm (List.Perm.swap _ _ _) ?_
    refine Yc (Ym [_] [_] Zz (YiK s (x:=y) (d:=d+1) (c:=c+1+xcountL (x.kids.take k)) Zi hRy Zi hcc) (fun v5 fz5 H5 hle5 hR5=>?_));obtain ⟨_,b5,c5,rfl,rfl,hc5,hb5⟩:=hR5;cases b5
    ·refine zW ?_;exact ret1 rfl rfl Zb ⟨hle.trans hle5,YeB (fun h0=>absurd (hb5.2 ⟨(Wo.1 h0.1).2 y hym,by have:=(WU (l:=x.kids)).1 (Zs _) y hym;omega,by omega⟩) (by simp))⟩
    have hc5:=hc5 rfl;have hb5:=hb5.1 rfl;subst hc5;exact wP (h:=by exact ⟨k+1,by omega,rfl,rfl,hle.trans hle5,by rw [hst,<- Nat.add_assoc],all_next hh hy ⟨hb5.1,hb5.2.1⟩,by omega⟩)
   rw [show x.kids.take k=x.kids from Zl Zi] at hcc ⊢;have hK:=all_of hh Zi;refine zW ?_;exact ret1 rfl rfl (List.Sublist.refl _) ⟨hle,true,_,rfl,rfl,fun _=>by rw [e1];simp only [Nat.add_assoc],iff_of_true rfl ⟨Wo.2 ⟨hn.2 ⟨n1,n2⟩,fun y hy=>(hK y hy).1⟩,by
    have e3:xdepthL x.kids<=31 - d:=WU.2 (fun y hy=>by have:=(hK y hy).2;omega);omega,by omega⟩⟩
  refine zW ?_;exact ret1 rfl rfl Zb ⟨Zd,no (fun h0=>by rcases h0 with h0 | h0 | h0;exact y1 h0.1;exact y2 h0.1;exact y3 h0.1)⟩
theorem xvalid_q {x:Sexpr} (h:Yay fz x vk):QFn prog 86 [.agg #[Zk x.kind,Zk x.value,Zk x.line,Zk x.column,Zy x.text,vk]] fz (Zo (decide (XVal x))):=by
 obtain ⟨A,n,ca,rfl,hk⟩:=h.kids;refine qF Tryz.func86 Tryz.ntmps86 (fun w0=>?_);refine pX (fun g0=>?_);refine zW ?_;intros;refine Yc (Ym [_] [_] Zz (YiK _ (d:=0) (c:=0) (Zs _) h Zi Zi) (fun v5 fz5 H5 hle5 hR5=>?_));obtain ⟨_,b5,c5,rfl,rfl,hc5,hb5⟩:=hR5;refine zW ?_;have hb:(b5=true)↔XVal x:=by rw [hb5];unfold XVal;simp only [Nat.zero_add]
 have hd:decide (XVal x)=b5:=by cases b5<;>simp_all
 exact zR (h:=by rw [hd])
end Go.Proofs.YtaaanbkahfeknaaGreatDoor
namespace Go.Proofs.YtaaanbkahfeknaaGreatDoor
def errV:Int->Value:=fun n=>if n=0 then .nilIface else .iface 147 (Zk n)
def FVal (f:Formula):Prop:=FOk f/\XVal (formX f)
def EVal (e:Lx.Expr):Prop:=EOk e/\XVal (exprX e)
end Go.Proofs.YtaaanbkahfeknaaGreatDoor
namespace Go.Proofs.YtaaanbkahfeknaaGreatDoor
variable {α:Type} {H:HP} {fz:FZ} {t':TypeId} {x y:Operand} {k:Nat} {l:List α}
theorem toList_inj {a b:Bs}:a.toList=b.toList↔a=b:=by
 constructor
 ·intro h;rw [ByteArray.toList_eq,ByteArray.toList_eq] at h;cases a;cases b;simp only [ByteArray.mk.injEq];exact Array.toList_inj.1 h
 intro h;rw [h]
theorem eq_param (a b c d:Bs) (w:World):(Op.equalIn 10000 110 (.agg #[Zy a,Zy b]) (.agg #[Zy c,Zy d])).run prog w=.ok (decide (a=c/\b=d)) w:=by
 have u3:=Tryz.underlying9;have a3:=Tryz.isAgg9;have z3:=Tryz.sizeOf9;have hS:prog.underlying 110=some (.struct (prog.fieldsOf 110)):=by kernel_rfl
 rw [show (10000:Nat)=9999+1 from rfl,run_equalIn_agg w 9999 110 _ _ hS Zj];simp only [Program.fieldsOf,Tryz.underlying110]
 go_simp
 by_cases h1:a=c<;>by_cases h2:b=d<;>simp [h1,h2,toList_inj]
theorem Ygp {cx:Cx} {r:Operand->Option Value} {V:Value->Prop} {dst:Option Nat} {ty:TypeId} {pos:String} {af:Array Edge} {gd:Option (Nat × Bool)} {a b:Param} (hx:r x=some (.agg #[Zy a.name,Zy a.typ])) (hy:r y=some (.agg #[Zy b.name,Zy b.typ]))
 (ht:a≠b->V (.bool true)) (hf:a=b->V (.bool false)):DoesQ prog cx ⟨dst,.binOp .neq 110 x y t',ty,pos,af,gd⟩ r fz H V:=by
 have hab:a=b↔(a.name=b.name/\a.typ=b.typ):=by
  cases a;cases b;simp
 have hV:V (Zo (!decide (a.name=b.name/\a.typ=b.typ))):=by
  by_cases h:a=b
  ·rw [decide_eq_true (hab.1 h)];exact hf h
  rw [decide_eq_false (fun h0=>h (hab.2 h0))];exact ht h
 refine DoesQ.of hV fun ρ w hr hw=>?_
 have hg:=run_eqGuard_agg (P:=prog) w .neq 110 x y #[Zy a.name,Zy a.typ] #[Zy b.name,Zy b.typ] Zj;have hb:=run_neq_struct (P:=prog) w 110 #[Zy a.name,Zy a.typ] #[Zy b.name,Zy b.typ];rw [eq_param,Result.andThen_ok] at hb;have:(execOp ρ ⟨dst,.binOp .neq 110 x y t',ty,pos,af,gd⟩).run prog w=.ok (.value (.bool (!decide (a.name=b.name/\a.typ=b.typ)))) w:=by
  simp only [execOp,hr _ _ hx,hr _ _ hy,Sem.run_bind,hg,hb,Result.andThen_ok,Sem.run_pure]
 rw [this];exact ⟨rfl,Fr.refl _ _⟩
theorem Yh9 {m:List α} (h:∀ i,i<l.length->∀ x,l[i]?=some x->m[i]?=some x) (hl:l.length=m.length:=by omega):l=m:=by
 apply List.ext_getElem?;intro i;by_cases hi:i<l.length
 ·have hx:l[i]?=some l[i]:=List.getElem?_eq_getElem hi;rw [hx,h i hi _ hx]
 rw [List.getElem?_eq_none Zi,List.getElem?_eq_none Zi]
theorem YkL {p:Nat->α->Prop} {x:α} (h:∀ i,i<k->∀ x,l[i]?=some x->p i x) (hx:l[k]?=some x) (hp:p k x):∀ i,i<k+1->∀ x,l[i]?=some x->p i x:=fun i hi y hy=>by
 by_cases he:i=k
 ·subst he;rw [hx] at hy;cases hy;exact hp
 exact h i Zi y hy
theorem equalS_q {fz:FZ} {A B:Option Addr} {n c m d:Nat} {l1 l2} (h1:Sl strL fz A n c l1) (h2:Sl strL fz B m d l2):
 QFn prog 115 [Zc A n c,Zc B m d] fz (Zo (decide (l1=l2))):=by
 refine GFn.quiet ?_;have k1:=h1.len;have k2:=h2.len;have k3:=h1.short;have k4:=h2.short;refine zF Tryz.func115 Tryz.ntmps115 (fun w0=>?_);refine wC ?_ ?_<;>intro c1
 ·exact wR (h:=by exact Xf (fun h=>c1 (by rw [<- k1,<- k2,h])))
 refine zW ?_;refine YjK n (fun k=>[(13,Zk k),(12,Zk n),(0,Zc A n c),(1,Zc B m d)]) [] (fun k=>(∀ i,i<k->∀ x,l1[i]?=some x->l2[i]?=some x)) (fun i hi=>absurd hi Zi) ?_;intro k hk hh;refine wC ?_ ?_<;>intro c2
 ·obtain ⟨x,hx⟩:=Yq (l:=l1) (k:=k) Zi;obtain ⟨y,hy⟩:=Yq (l:=l2) (k:=k) Zi;refine wI h1 hx (fun a ha=>?_);refine zH ha (fun sx=>?_);refine wI h2 hy (fun b hb=>?_);refine zH hb (fun sy=>?_);refine wC ?_ ?_<;>intro e1
  ·exact wR (h:=by exact Xf (fun h=>e1 (by rw [h,hy] at hx;exact (Option.some.inj hx).symm)))
  exact wM (h:=by exact YkL hh hx (by rw [hy,e1]))
 exact wR (h:=by exact W9 (Yh9 (fun i hi x hx=>hh i Zi x hx)))
end Go.Proofs.YtaaanbkahfeknaaGreatDoor
namespace Go.Proofs.YtaaanbkahfeknaaGreatDoor
variable {m:List (Bs × Value)} {d:Domain} {fz fz':FZ} {p:Problem} {v vp:Value}
def Yg0 (m:List (Bs × Value)) (ks:List Bs):Prop:=∀ x,valS m x=if x∈ks then some (Zo true) else none
theorem Yg0.nil:Yg0 [] []:=fun x=>by rw [valS_nil,if_neg (by simp)]
theorem Yg0.add {ks:List Bs} (h:Yg0 m ks) (x:Bs):Yg0 (updS m x (Zo true)) (ks++ [x]):=fun y=>by
 rw [YbD,h y];by_cases h1:y=x
 ·rw [if_pos h1,if_pos (by simp [h1])]
 rw [if_neg h1];by_cases h2:y∈ks
 ·rw [if_pos h2,if_pos (by simp [h2])]
 rw [if_neg h2,if_neg (by simp [h1,h2])]
theorem Yg0.get {ks:List Bs} (h:Yg0 m ks) {x:Bs}:(fndS m x 0).elim (Zo false) (·.2)=Zo (decide (x∈ks)):=by
 rw [elimS,h x];by_cases h2:x∈ks
 ·rw [if_pos h2,decide_eq_true h2];rfl
 rw [if_neg h2,decide_eq_false h2];rfl
def CkR (fz:FZ) (v:Value) (d:Domain) (p:Problem) (all:List Param) (vf vp vg vo:Value):Prop:=∃ gc v1 v2 v3 v4 v5 v6 u1 u2 u3 u4 u5 u6 u7 Aa na ca,v=Zp gc/\
 fz gc=some (Zu #[Zy d.name,v1,v2,v3,v4,v5,v6,Zy p.name,Zy p.domain,u1,u2,u3,Zy p.goal.op,Zy p.goal.name,u4,u5,u6,u7,vf,vp,vg,vo,Zc Aa na ca] 164)/\
 DomainR fz d v1 v2 v3 v4 v5 v6/\ProblemR fz p u1 u2 u3 u4 u5 u6 u7/\Sl paramL fz Aa na ca all
theorem CkR.mono {all:List Param} {vf vg vo:Value} (h:CkR fz v d p all vf vp vg vo) (hle:Le fz fz'):CkR fz' v d p all vf vp vg vo:=by
 obtain ⟨gc,v1,v2,v3,v4,v5,v6,u1,u2,u3,u4,u5,u6,u7,Aa,na,ca,h1,h2,h3,h4,h5⟩:=h;exact ⟨gc,v1,v2,v3,v4,v5,v6,u1,u2,u3,u4,u5,u6,u7,Aa,na,ca,h1,hle _ _ h2,h3.mono hle,h4.mono hle,h5.mono hle⟩
end Go.Proofs.YtaaanbkahfeknaaGreatDoor
namespace Go.Lx
open Go.RowKit
section
variable {P:Program} {cx:Cx} {r:Operand->Option Value} {fz:FZ} {H:HP} {dst:Option Nat} {ty:TypeId} {pos:String} {af:Array Edge} {gd:Option (Nat × Bool)} {V:Value->Prop}
def updH (fz:FZ):HP->FZ
 | []=>fz
 | p::r=>upd (updH fz r) p.1 p.2
theorem YiL {fz:FZ}:∀ {H:HP} {b:Nat} {o:Obj},updH fz H b=some o->fz b=some o\/(b,o)∈H
 | [],_,_,h=>.inl h
 | q::r,b,o,h=>by
  rw [updH,upd] at h;split at h
  ·rename_i hb;injection h with h;subst hb h;exact .inr (by simp)
  rcases YiL h with h | h
  ·exact .inl h
  exact .inr (by simp [h])
variable {w:World}
theorem Hp.all (h:Hp fz H w):Hp (updH fz H) [] w:=
 ⟨fun b o hb=>(YiL hb).elim (h.keep b o) (fun hm=>(h.own _ hm).1),by simp,by simp⟩
end
end Go.Lx
namespace Go.Proofs.YtaaanbkahfeknaaGreatDoor
end Go.Proofs.YtaaanbkahfeknaaGreatDoor
namespace Go.Lx
end Go.Lx
namespace Go.Proofs.YtaaanbkahfeknaaGreatDoor
variable {fz fz':FZ} {v:Value} {d:Domain} {p:Problem}
def ObjR (fz:FZ) (vo:Value) (all:List Param):Prop:=∃ g m,vo=.map (some g)/\fz g=some (mapS m)/\∀ x,valS m x=(tyF all x).map Value.string
theorem ObjR.mono {vo:Value} {all:List Param} (h:ObjR fz vo all) (hle:Le fz fz'):ObjR fz' vo all:=by
 obtain ⟨g,m,h1,h2,h3⟩:=h;exact ⟨g,m,h1,hle _ _ h2,h3⟩
def fstP (l:List Predicate) (x:Bs):Option Predicate:=l.find? fun p=>decide (p.name=x)
def fstF (l:List Function) (x:Bs):Option Function:=l.find? fun p=>decide (p.name=x)
def PrdR (fz:FZ) (vp:Value) (l:List Predicate):Prop:=∃ g m,vp=.map (some g)/\fz g=some (mapS m)/\∀ x,(fstP l x=none->valS m x=none)/\∀ p,fstP l x=some p->∃ A n c,valS m x=some (Zc A n c)/\Sl paramL fz A n c p.params
def FunR (fz:FZ) (vg:Value) (l:List Function):Prop:=∃ g m,vg=.map (some g)/\fz g=some (mapS m)/\∀ x,(fstF l x=none->valS m x=none)/\∀ f,fstF l x=some f->∃ A n c,valS m x=some (.agg #[Zy f.name,Zc A n c,Zk f.lo,Zk f.hi])/\Sl paramL fz A n c f.params
theorem PrdR.mono {l:List Predicate} (h:PrdR fz v l) (hle:Le fz fz'):PrdR fz' v l:=by
 obtain ⟨g,m,h1,h2,h3⟩:=h;exact ⟨g,m,h1,hle _ _ h2,fun x=>⟨(h3 x).1,fun p hp=>by obtain ⟨A,n,c,h4,h5⟩:=(h3 x).2 p hp;exact ⟨A,n,c,h4,h5.mono hle⟩⟩⟩
theorem FunR.mono {l:List Function} (h:FunR fz v l) (hle:Le fz fz'):FunR fz' v l:=by
 obtain ⟨g,m,h1,h2,h3⟩:=h;exact ⟨g,m,h1,hle _ _ h2,fun x=>⟨(h3 x).1,fun p hp=>by obtain ⟨A,n,c,h4,h5⟩:=(h3 x).2 p hp;exact ⟨A,n,c,h4,h5.mono hle⟩⟩⟩
structure CkG (fz:FZ) (v:Value) (d:Domain) (p:Problem) (all:List Param):Prop where
 ex:∃ vf vp vg vo,CkR fz v d p all vf vp vg vo/\ForR fz vf d.types/\PrdR fz vp d.predicates/\FunR fz vg d.functions/\ObjR fz vo all
 wf:WFT d.types
theorem CkG.mono {all:List Param} (h:CkG fz v d p all) (hle:Le fz fz'):CkG fz' v d p all:=by
 obtain ⟨⟨vf,vp,vg,vo,h1,h2,h3,h4,h5⟩,hw⟩:=h;exact ⟨⟨vf,vp,vg,vo,h1.mono hle,h2.mono hle,h3.mono hle,h4.mono hle,h5.mono hle⟩,hw⟩
end Go.Proofs.YtaaanbkahfeknaaGreatDoor
namespace Go.Proofs.YtaaanbkahfeknaaGreatDoor
variable {A:Option Addr} {c n:Nat} {fz:FZ}
theorem YiA {l:List Param} (h:Sl paramL fz A n c l) (hn:n<=1000000000):
 GFn prog 55 [Zc A n c] fz [] (fun v fz' H'=>Grow paramL 110 fz' v n H' l):=by
 have l1:=h.len;refine zF Tryz.func55 Tryz.ntmps55 (fun w0=>?_);refine vG ?_;refine XU (fun eA=>?_) (fun eA=>?_)
 ·subst eA;have hl:l=[]:=by
   rcases h.elem with h0 | ⟨_,h0,_⟩
   ·exact List.eq_nil_of_length_eq_zero Zi
   cases h0
  subst hl;simp at l1;subst l1;refine zV ?_;refine Ydj (H':=[]) (H2:=[]) rfl rfl (Zr _) (fun fz3 hle3 _=>Grow.nil _ _ _)
 refine zV ?_;refine Yc (Wm (fun gb=>?_));refine zV ?_;refine Yc (W8 T (Hr:=[]) (n:=0) (l:=[]) Zz Zz Zz Zz Zz Zz Zz Zz (Zr _) (Grow.block (ys:=[]) rfl rfl (by intro p hp;cases hp) rfl) XC h (by show _*32<=_;omega) Zi (fun v' Hs' hO'=>?_));obtain ⟨Av',cv',rfl,_,_⟩:=hO'.form;refine zV ?_;refine Ydj (H':=Hs') (H2:=[]) rfl rfl (by simp) (fun fz3 hle3 _=>(hO'.mono hle3).of (by simp) Zi)
end Go.Proofs.YtaaanbkahfeknaaGreatDoor
namespace Go.Lx
mutual
def eW:Expr->Nat
 | .mk _ _ _ args kids=>1+args.length+eWL kids
def eWL:List Expr->Nat
 | []=>0
 | k::r=>eW k+eWL r
end
mutual
def fW:Formula->Nat
 | .mk _ _ args params exprs kids=>1+args.length+params.length+eWL exprs+fWL kids
def fWL:List Formula->Nat
 | []=>0
 | k::r=>fW k+fWL r
end
theorem Ykv (l:List Expr):eWL l=(l.map eW).sum:=by
 induction l with
 | nil=>rfl
 | cons a r ih=>simp [eWL,ih]
theorem fWL_sum (l:List Formula):fWL l=(l.map fW).sum:=by
 induction l with
 | nil=>rfl
 | cons a r ih=>simp [fWL,ih]
def parW (_:Param):Nat:=1
def strW (_:Bs):Nat:=1
def Yfd (a:Atom):Nat:=1+a.args.length
def Ycr (v:Value_):Nat:=1+Yfd v.fluent
def XZ (c:Change):Nat:=1+c.params.length+fW c.when_+c.args.length+eW c.value
def YfH (p:Predicate):Nat:=1+p.params.length
def funW (p:Function):Nat:=1+p.params.length
def actW (a:Action):Nat:=1+a.params.length+fW a.pre+(a.changes.map XZ).sum
def durW (a:Durative):Nat:=1+a.params.length+fW a.start+fW a.over+fW a.fin+(a.atStart.map XZ).sum+(a.atEnd.map XZ).sum
def domW (d:Domain):Nat:=1+d.types.length+d.constants.length+(d.predicates.map YfH).sum+(d.functions.map funW).sum+(d.actions.map actW).sum+(d.duratives.map durW).sum
def prbW (p:Problem):Nat:=1+p.objects.length+(p.init.map Yfd).sum+(p.values.map Ycr).sum+fW p.goal
theorem eW_eq (e:Expr):eW e=1+e.args.length+(e.kids.map eW).sum:=by cases e;rw [eW,Ykv];rfl
theorem fW_eq (f:Formula):fW f=1+f.args.length+f.params.length+(f.exprs.map eW).sum+(f.kids.map fW).sum:=by cases f;rw [fW,Ykv,fWL_sum];rfl
theorem XW (l:List Param):(l.map parW).sum=l.length:=by
 induction l with
 | nil=>rfl
 | cons a r ih=>simp [parW] at ih ⊢;omega
theorem XV (l:List Bs):(l.map strW).sum=l.length:=by
 induction l with
 | nil=>rfl
 | cons a r ih=>simp [strW] at ih ⊢;omega
theorem Wr {α:Type} {w:α->Nat}:∀ {l:List α} {x:α},x∈l->w x<=(l.map w).sum
 | [],_,h=>by cases h
 | a::r,x,h=>by
  simp only [List.map_cons,List.sum_cons];rcases List.mem_cons.1 h with rfl | h
  ·omega
  have:=Wr (w:=w) h;omega
theorem Ws {α:Type} {w:α->Nat} (h:∀ x,1<=w x):∀ (l:List α),l.length<=(l.map w).sum
 | []=>by simp
 | a::r=>by
  have h1:=h a;have h2:=Ws h r;simp only [List.length_cons,List.map_cons,List.sum_cons];omega
theorem YeH {α:Type} {w:α->Nat} {n:α->Nat} {k:Nat} (h:∀ x,n x<=k*w x):∀ (l:List α),(l.map n).sum<=k*(l.map w).sum
 | []=>by simp
 | a::r=>by
  have h1:=h a;have h2:=YeH h r;simp only [List.map_cons,List.sum_cons,Nat.mul_add];omega
theorem eW_pos (e:Expr):1<=eW e:=by rw [eW_eq];omega
theorem fW_pos (f:Formula):1<=fW f:=by rw [fW_eq];omega
theorem Yju (c:Predicate):1<=YfH c:=by unfold YfH;omega
theorem funW_pos (c:Function):1<=funW c:=by unfold funW;omega
theorem YkI (c:Atom):1<=Yfd c:=by unfold Yfd;omega
theorem Yh0 (c:Value_):1<=Ycr c:=by unfold Ycr;omega
end Go.Lx
namespace Go.Proofs.YtaaanbkahfeknaaGreatDoor
end Go.Proofs.YtaaanbkahfeknaaGreatDoor
