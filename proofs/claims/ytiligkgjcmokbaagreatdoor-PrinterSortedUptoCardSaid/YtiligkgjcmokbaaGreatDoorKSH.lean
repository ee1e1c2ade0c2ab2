/- The texts PWalkI, PWalkJ, PCC, PCU, PCD, PCG, PCH, PCI, PWt, laid together. Conditions: none. -/
import Derived.Test.YtiligkgjcmokbaaGreatDoorKSG
import Derived.Laws.StructEq
import Derived.Tactics
set_option linter.all false
set_option maxHeartbeats 4000000
noncomputable section
set_option maxRecDepth 20000
open Go.Lx Go.RowKit
attribute [local instance 10] Classical.propDecidable
open Go.Proofs.Tryz (prog)
namespace Go.Proofs.YtiligkgjcmokbaaGreatDoor
variable {α:Type} {fz fz':FZ} {va ve vk vp v:Value} {H:HP} {t':TypeId} {x y:Operand} {k c n:Nat} {A B:Option Addr} {ff:FuncId} {m:List (Bs × Value)} {d:Domain} {l:List α}
def errV:Int->Value:=fun n=>if n=0 then .nilIface else .iface 89 (Zk n)
theorem Yg {n:Int} (h:n≠0):errV n=.iface 89 (Zk n):=if_neg h
def ESmN (e:Lx.Expr):Prop:=e.args.length<=1000000000
def FSmN (f:Formula):Prop:=f.args.length<=1000000000/\f.params.length<=1000000000/\f.kids.length<=1000000000
abbrev ESm (e:Lx.Expr):Prop:=EAll ESmN e
abbrev FSm (f:Formula):Prop:=FAll FSmN ESmN f
theorem YcF:∀ (s:Nat) {e:Lx.Expr},SizeOf.sizeOf e<=s->EOk e->ESm e->EShape e
 | 0,e,h,_,_=>by cases e;simp at h
 | s+1,e,h,h1,h2=>by
  have h3:=YaN.1 h1;have h4:=YaN.1 h2;rcases h3.1 with h5 | h5 | h5
  ·exact .num h5.1
  ·exact .flu h5.1 h4.1
  obtain ⟨a,b,hab⟩:∃ a b,e.kids=[a,b]:=by
   match hK:e.kids,h5.2.2.2.2 with
   | [a,b],_=>exact ⟨a,b,rfl⟩
  have ka:a∈e.kids:=by rw [hab];simp
  have kb:b∈e.kids:=by rw [hab];simp
  have la:=Lx.Expr.kids_lt ka;have lb:=Lx.Expr.kids_lt kb;refine .bin (fun h0=>?_) (fun h0=>?_) hab (YcF s Zi (h3.2 a ka) (h4.2 a ka)) (YcF s Zi (h3.2 b kb) (h4.2 b kb))
  ·have h6:=h5.1;rw [h0] at h6;rcases h6 with h6 | h6 | h6<;>exact absurd (congrArg ByteArray.size h6) Zh
  have h6:=h5.1;rw [h0] at h6;rcases h6 with h6 | h6 | h6<;>exact absurd (congrArg ByteArray.size h6) Zh
theorem Yhd:∀ (s:Nat) {f:Formula},SizeOf.sizeOf f<=s->FOk f->FSm f->FShape f
 | 0,f,h,_,_=>by cases f;simp at h
 | s+1,f,h,h1,h2=>by
  have h3:=WV.1 h1;have h4:=WV.1 h2;by_cases k1:f.op=kAtom
  ·exact .atom (.inl k1) h4.1.1
  by_cases k2:f.op=kSame
  ·exact .atom (.inr k2) h4.1.1
  by_cases k3:CmpOp f.op
  ·obtain ⟨_,⟨k,hk,hr⟩,_⟩:=h3.1;rw [Yes,if_neg (fun h0=>h0.elim k1 k2),if_pos k3] at hk;cases hk;obtain ⟨a,b,hab⟩:∃ a b,f.exprs=[a,b]:=by
    match hK:f.exprs,hr.2.1 with
    | [a,b],_=>exact ⟨a,b,rfl⟩
   have ka:a∈f.exprs:=by rw [hab];simp
   have kb:b∈f.exprs:=by rw [hab];simp
   exact .cmp k3 hab (YcF _ (Zs _) (h3.2.1 a ka) (h4.2.1 a ka)) (YcF _ (Zs _) (h3.2.1 b kb) (h4.2.1 b kb))
  exact .other k1 k2 k3 h4.1.2.1 h4.1.2.2 (fun k hk=>Yhd s (by have:=Formula.kids_lt hk;omega) (h3.2.2 k hk) (h4.2.2 k hk))
theorem YcE:∀ (s:Nat) {e:Lx.Expr},SizeOf.sizeOf e<=s->EOk e->ecount e<=xcount (Ws e)/\edepth e<=xdepth (Ws e)+1
 | 0,e,h,_=>by cases e;simp at h
 | s+1,e,h,h1=>by
  have h3:=YaN.1 h1;rw [Ynu,YdM,Ye5];split
  ·rename_i h0;have hk:=((Yhr h0).1 h3.1).2.2.1;rw [hk];simp [ecountL,edepthL,numE,xcount,xcountL,xdepth]
  split
  ·rename_i h0;have hk:=((Yhs h0).1 h3.1).2.1;rw [hk];simp [ecountL,edepthL,YaR,YM,xcount,xdepth]
  rename_i k1 k2;have h5:=(Yht k1 k2).1 h3.1;obtain ⟨a,b,hab⟩:∃ a b,e.kids=[a,b]:=by
   match hK:e.kids,h5.2.2.2.2 with
   | [a,b],_=>exact ⟨a,b,rfl⟩
  have ka:a∈e.kids:=by rw [hab];simp
  have kb:b∈e.kids:=by rw [hab];simp
  have la:=YcE s (by have:=Lx.Expr.kids_lt ka;omega) (h3.2 a ka);have lb:=YcE s (by have:=Lx.Expr.kids_lt kb;omega) (h3.2 b kb);rw [hab];simp only [ecountL,edepthL,YM,xcount,xcountL,xdepth,xdepthL,List.map_cons,List.map_nil,Yp];simp;omega
theorem YiA {l:List Formula} (h:∀ k∈l,fcount k<=xcount (Xm k)):fcountL l<=xcountL (l.map Xm):=by
 induction l with
 | nil=>simp [fcountL]
 | cons a r ih=>
  have h1:=h a (by simp);have h2:=ih (fun k hk=>h k (by simp [hk]));simp only [fcountL,List.map_cons,xcountL];omega
theorem Yiz {l:List Formula} (h:∀ k∈l,fdepth k<=xdepth (Xm k)+1):fdepthL l<=xdepthL (l.map Xm)+1:=by
 induction l with
 | nil=>simp [fdepthL]
 | cons a r ih=>
  have h1:=h a (by simp);have h2:=ih (fun k hk=>h k (by simp [hk]));simp only [fdepthL,List.map_cons,xdepthL];omega
theorem Yc4 {l:List Sexpr}:xcount (YM l)=1+xcountL l:=by simp [YM,xcount]
theorem Yc3 {l:List Sexpr}:xdepth (YM l)=xdepthL l+1:=by simp [YM,xdepth]
theorem YfG:∀ (s:Nat) {f:Formula},SizeOf.sizeOf f<=s->FOk f->fcount f<=xcount (Xm f)/\fdepth f<=xdepth (Xm f)+1
 | 0,f,h,_=>by cases f;simp at h
 | s+1,f,h,h1=>by
  have h3:=WV.1 h1;obtain ⟨_,⟨k,hk,hr⟩,_⟩:=h3.1;rw [Yjm,Ye4,Yhl];by_cases k1:f.op=kAtom
  ·rw [Yes,if_pos (.inl k1)] at hk;cases hk;rw [List.eq_nil_of_length_eq_zero hr.2.1,List.eq_nil_of_length_eq_zero hr.2.2.1,if_pos k1];simp [ecountL,edepthL,fcountL,fdepthL,YaR,Yc4,Yc3]
  by_cases k2:f.op=kSame
  ·rw [Yes,if_pos (.inr k2)] at hk;cases hk;rw [List.eq_nil_of_length_eq_zero hr.2.1,List.eq_nil_of_length_eq_zero hr.2.2.1,if_neg k1,if_pos k2];simp [ecountL,edepthL,fcountL,fdepthL,YaR,Yc4,Yc3]
  by_cases k3:CmpOp f.op
  ·rw [Yes,if_neg (fun h0=>h0.elim k1 k2),if_pos k3] at hk;cases hk;obtain ⟨a,b,hab⟩:∃ a b,f.exprs=[a,b]:=by
    match hK:f.exprs,hr.2.1 with
    | [a,b],_=>exact ⟨a,b,rfl⟩
   have la:=YcE _ (Zs _) (h3.2.1 a (by rw [hab];simp));have lb:=YcE _ (Zs _) (h3.2.1 b (by rw [hab];simp));rw [hab,List.eq_nil_of_length_eq_zero hr.2.2.1,if_neg k1,if_neg k2,if_pos k3];simp only [ecountL,edepthL,fcountL,fdepthL,Yc4,Yc3,xcountL,xdepthL,List.map_cons,List.map_nil];omega
  have he:f.exprs=[]:=by
   refine List.eq_nil_of_length_eq_zero ?_;rw [hr.2.1];rw [Yes,if_neg (fun h0=>h0.elim k1 k2),if_neg k3] at hk;split at hk
   ·cases hk;rfl
   split at hk
   ·cases hk;rfl
   split at hk
   ·cases hk;rfl
   split at hk
   ·cases hk;rfl
   cases hk
  have c1:=YiA (l:=f.kids) (fun k hk=>(YfG s (by have:=Formula.kids_lt hk;omega) (h3.2.2 k hk)).1);have c2:=Yiz (l:=f.kids) (fun k hk=>(YfG s (by have:=Formula.kids_lt hk;omega) (h3.2.2 k hk)).2);rw [he,if_neg k1,if_neg k2,if_neg k3,Yc4,Yc3,WF,YhL];simp only [ecountL,edepthL];omega
def FVal (f:Formula):Prop:=FOk f/\XVal (Xm f)
def EVal (e:Lx.Expr):Prop:=EOk e/\XVal (Ws e)
theorem Ynm {f:Formula} (h:FormulaR fz f va vp ve vk) (hs:FSm f):
 QFn prog 148 [.agg #[Zy f.op,Zy f.name,va,vp,ve,vk]] fz (Zo (decide (FVal f))):=by
 obtain ⟨⟨A,n,ca,rfl,ha⟩,⟨B,m,cb,rfl,hp⟩,⟨C,r,cr,rfl,he⟩,⟨D,q,cq,rfl,hk⟩⟩:=h.sls;refine qF Tryz.func148 Tryz.ntmps148 (fun w0=>?_);refine pX (fun g0=>?_);refine zW ?_;intros;rename_i g1;refine Ya (Ym [_] [_] Zz (shaped_q (g:=g1) (d:=0) (c:=0) h Zi Zi) (fun v5 fz5 H5 hle5 hR5=>?_));obtain ⟨_,b5,c5,rfl,rfl,hc5,hb5⟩:=hR5;cases b5
 ·refine zW ?_
  (exact ret1 rfl rfl Zb (Yl (fun h0=>by
   have h1:=YfG _ (Zs _) h0.1;exact absurd (hb5.2 ⟨h0.1,by have:=h0.2.2.1;omega,by have:=h0.2.2.2;omega⟩) (by simp))))
 have hb:=hb5.1 rfl;refine zW ?_;refine Yab (Ym [] _ Zz (Yow (h.mono hle5) (Yhd _ (Zs _) hb.1 hs)) (fun v6 fz6 H6 hle6 hR6=>?_));obtain ⟨rfl,cs,rfl,hr⟩:=hR6;obtain ⟨vk6,rfl,hX⟩:=Yf hr;refine wc (Yat hX) ?_;refine zW ?_;have hd:decide (FVal f)=decide (XVal (Xm f)):=decide_eq_decide.2 ⟨fun h0=>h0.2,fun h0=>⟨hb.1,h0⟩⟩;exact zR (h:=by rw [hd])
theorem Ynx {e:Lx.Expr} (h:ExprR fz e va vk) (hs:ESm e):
 QFn prog 292 [.agg #[Zy e.op,Zy e.name,Zk e.n,va,vk]] fz (Zo (decide (EVal e))):=by
 obtain ⟨⟨A,n,ca,rfl,ha⟩,⟨D,q,cq,rfl,hk⟩⟩:=h.sls;refine qF Tryz.func292 Tryz.ntmps292 (fun w0=>?_);refine pX (fun g0=>?_);refine zW ?_;intros;rename_i g1;refine Ya (Ym [_] [_] Zz (Yno (g:=g1) (d:=0) (c:=0) h Zi Zi) (fun v5 fz5 H5 hle5 hR5=>?_));obtain ⟨_,b5,c5,rfl,rfl,hc5,hb5⟩:=hR5;cases b5
 ·refine zW ?_
  (exact ret1 rfl rfl Zb (Yl (fun h0=>by
   have h1:=YcE _ (Zs _) h0.1;exact absurd (hb5.2 ⟨h0.1,by have:=h0.2.2.1;omega,by have:=h0.2.2.2;omega⟩) (by simp))))
 have hb:=hb5.1 rfl;refine zW ?_;refine Yab (Ym [] _ Zz (Yal (h.mono hle5) (YcF _ (Zs _) hb.1 hs)) (fun v6 fz6 H6 hle6 hR6=>?_));obtain ⟨rfl,cs,rfl,hr⟩:=hR6;obtain ⟨vk6,rfl,hX⟩:=Yf hr;refine wc (Yat hX) ?_;refine zW ?_;have hd:decide (EVal e)=decide (XVal (Ws e)):=decide_eq_decide.2 ⟨fun h0=>h0.2,fun h0=>⟨hb.1,h0⟩⟩;exact zR (h:=by rw [hd])
def YjU:Sexpr:=.mk 0 0 0 0 ⟨#[]⟩ []
theorem YbC:SxIs fz (sxV 0 0 ⟨#[]⟩ Zn) YjU:=⟨_,rfl,Ys (x:=YjU) ⟨Yae,Yae,Yae,Yae,XI,IsSl.nil⟩⟩
def WrR (P:Prop) (x:Sexpr) (v:Value) (fz':FZ) (H':HP):Prop:=H'=[]/\∃ u y,v=.tuple #[u,errV (if P then 0 else 2)]/\SxIs fz' u y/\(P->y=x)
theorem Ynt {f:Formula} (h:FormulaR fz f va vp ve vk) (hs:FSm f):
 GFn prog 81 [.agg #[Zy f.op,Zy f.name,va,vp,ve,vk]] fz [] (WrR (FVal f) (Xm f)):=by
 obtain ⟨⟨A,n,ca,rfl,ha⟩,⟨B,m,cb,rfl,hp⟩,⟨C,r,cr,rfl,he⟩,⟨D,q,cq,rfl,hk⟩⟩:=h.sls;refine zF Tryz.func81 Tryz.ntmps81 (fun w0=>?_);refine pX (fun g0=>?_);refine zW ?_;intros;rename_i g1;refine zb (Ynm h hs) (fun f1=>?_) (fun f1=>?_)
 ·have hv:=Zt f1;refine wK (q:=Yow h (Yhd _ (Zs _) hv.1 hs)) (h:=fun v6 fz6 H6 hle6 hR6=>?_);obtain ⟨rfl,cs,rfl,hr⟩:=hR6;obtain ⟨vk6,rfl,hX⟩:=Yf hr;obtain ⟨A6,n6,b6,rfl,_⟩:=hX.kids;refine zW ?_;refine YS T (vs:=[.agg #[_,_,_,_,_,_],.nilIface]) ⟨⟨_,_,0,_,_,_,rfl,rfl,rfl,rfl,rfl,rfl⟩,rfl,trivial⟩ (fun fz3 hle3 hf3=>?_);exact ⟨rfl,_,_,by rw [if_pos hv];rfl,SxIs.mono hle3 ⟨_,rfl,Ys hX⟩,fun _=>rfl⟩
 have hv:=Zf f1;refine zW ?_;refine YS T (vs:=[.agg #[_,_,_,_,_,_],_]) ⟨⟨_,_,0,_,_,_,rfl,rfl,rfl,rfl,rfl,rfl⟩,rfl,trivial⟩ (fun fz3 hle3 hf3=>?_);exact ⟨rfl,_,_,by rw [if_neg hv,Yg Zh];rfl,YbC,fun h0=>absurd h0 hv⟩
theorem eWrite_q {e:Lx.Expr} (h:ExprR fz e va vk) (hs:ESm e):
 GFn prog 262 [.agg #[Zy e.op,Zy e.name,Zk e.n,va,vk]] fz [] (WrR (EVal e) (Ws e)):=by
 obtain ⟨⟨A,n,ca,rfl,ha⟩,⟨D,q,cq,rfl,hk⟩⟩:=h.sls;refine zF Tryz.func262 Tryz.ntmps262 (fun w0=>?_);refine pX (fun g0=>?_);refine zW ?_;intros;rename_i g1;refine zb (Ynx h hs) (fun f1=>?_) (fun f1=>?_)
 ·have hv:=Zt f1;refine wK (q:=Yal h (YcF _ (Zs _) hv.1 hs)) (h:=fun v6 fz6 H6 hle6 hR6=>?_);obtain ⟨rfl,cs,rfl,hr⟩:=hR6;obtain ⟨vk6,rfl,hX⟩:=Yf hr;obtain ⟨A6,n6,b6,rfl,_⟩:=hX.kids;refine zW ?_;refine YS T (vs:=[.agg #[_,_,_,_,_,_],.nilIface]) ⟨⟨_,_,0,_,_,_,rfl,rfl,rfl,rfl,rfl,rfl⟩,rfl,trivial⟩ (fun fz3 hle3 hf3=>?_);exact ⟨rfl,_,_,by rw [if_pos hv];rfl,SxIs.mono hle3 ⟨_,rfl,Ys hX⟩,fun _=>rfl⟩
 have hv:=Zf f1;refine zW ?_;refine YS T (vs:=[.agg #[_,_,_,_,_,_],_]) ⟨⟨_,_,0,_,_,_,rfl,rfl,rfl,rfl,rfl,rfl⟩,rfl,trivial⟩ (fun fz3 hle3 hf3=>?_);exact ⟨rfl,_,_,by rw [if_neg hv,Yg Zh];rfl,YbC,fun h0=>absurd h0 hv⟩
theorem toList_inj {a b:Bs}:a.toList=b.toList↔a=b:=by
 constructor
 ·intro h;rw [ByteArray.toList_eq,ByteArray.toList_eq] at h;cases a;cases b;simp only [ByteArray.mk.injEq];exact Array.toList_inj.1 h
 intro h;rw [h]
theorem eq_param (a b c d:Bs) (w:World):(Op.equalIn 10000 123 (.agg #[Zy a,Zy b]) (.agg #[Zy c,Zy d])).run prog w=.ok (decide (a=c/\b=d)) w:=by
 have u3:=Tryz.underlying9;have a3:=Tryz.isAgg9;have z3:=Tryz.sizeOf9;have hS:prog.underlying 123=some (.struct (prog.fieldsOf 123)):=by kernel_rfl
 rw [show (10000:Nat)=9999+1 from rfl,run_equalIn_agg w 9999 123 _ _ hS Zj];simp only [Program.fieldsOf,Tryz.underlying123]
 go_simp
 by_cases h1:a=c<;>by_cases h2:b=d<;>simp [h1,h2,toList_inj]
theorem YgN {cx:Cx} {r:Operand->Option Value} {V:Value->Prop} {dst:Option Nat} {ty:TypeId} {pos:String} {af:Array Edge} {gd:Option (Nat × Bool)} {a b:Param} (hx:r x=some (.agg #[Zy a.name,Zy a.typ])) (hy:r y=some (.agg #[Zy b.name,Zy b.typ]))
 (ht:a≠b->V (.bool true)) (hf:a=b->V (.bool false)):DoesQ prog cx ⟨dst,.binOp .neq 123 x y t',ty,pos,af,gd⟩ r fz H V:=by
 have hab:a=b↔(a.name=b.name/\a.typ=b.typ):=by
  cases a;cases b;simp
 have hV:V (Zo (!decide (a.name=b.name/\a.typ=b.typ))):=by
  by_cases h:a=b
  ·rw [decide_eq_true (hab.1 h)];exact hf h
  rw [decide_eq_false (fun h0=>h (hab.2 h0))];exact ht h
 refine DoesQ.of hV fun ρ w hr hw=>?_
 have hg:=run_eqGuard_agg (P:=prog) w .neq 123 x y #[Zy a.name,Zy a.typ] #[Zy b.name,Zy b.typ] Zj;have hb:=run_neq_struct (P:=prog) w 123 #[Zy a.name,Zy a.typ] #[Zy b.name,Zy b.typ];rw [eq_param,Result.andThen_ok] at hb;have:(execOp ρ ⟨dst,.binOp .neq 123 x y t',ty,pos,af,gd⟩).run prog w=.ok (.value (.bool (!decide (a.name=b.name/\a.typ=b.typ)))) w:=by
  simp only [execOp,hr _ _ hx,hr _ _ hy,Sem.run_bind,hg,hb,Result.andThen_ok,Sem.run_pure]
 rw [this];exact ⟨rfl,Fr.refl _ _⟩
theorem YdX {m:List α} (h:∀ i,i<l.length->∀ x,l[i]?=some x->m[i]?=some x) (hl:l.length=m.length:=by omega):l=m:=by
 apply List.ext_getElem?;intro i;by_cases hi:i<l.length
 ·have hx:l[i]?=some l[i]:=List.getElem?_eq_getElem hi;rw [hx,h i hi _ hx]
 rw [List.getElem?_eq_none Zi,List.getElem?_eq_none Zi]
theorem Yb9 {p:Nat->α->Prop} {x:α} (h:∀ i,i<k->∀ x,l[i]?=some x->p i x) (hx:l[k]?=some x) (hp:p k x):∀ i,i<k+1->∀ x,l[i]?=some x->p i x:=fun i hi y hy=>by
 by_cases he:i=k
 ·subst he;rw [hx] at hy;cases hy;exact hp
 exact h i Zi y hy
theorem Yjt {fz:FZ} {A B:Option Addr} {n c m d:Nat} {l1 l2} (h1:Sl strL fz A n c l1) (h2:Sl strL fz B m d l2):
 QFn prog 137 [Zc A n c,Zc B m d] fz (Zo (decide (l1=l2))):=by
 refine GFn.quiet ?_;have k1:=h1.len;have k2:=h2.len;have k3:=h1.short;have k4:=h2.short;refine zF Tryz.func137 Tryz.ntmps137 (fun w0=>?_);refine wC ?_ ?_<;>intro c1
 ·exact wR (h:=by exact Yl (fun h=>c1 (by rw [<- k1,<- k2,h])))
 refine zW ?_;refine Yav n (fun k=>[(13,Zk k),(12,Zk n),(0,Zc A n c),(1,Zc B m d)]) [] (fun k=>(∀ i,i<k->∀ x,l1[i]?=some x->l2[i]?=some x)) (fun i hi=>absurd hi Zi) ?_;intro k hk hh;refine wC ?_ ?_<;>intro c2
 ·obtain ⟨x,hx⟩:=Ye (l:=l1) (k:=k) Zi;obtain ⟨y,hy⟩:=Ye (l:=l2) (k:=k) Zi;refine wI h1 hx (fun a ha=>?_);refine zH ha (fun sx=>?_);refine wI h2 hy (fun b hb=>?_);refine zH hb (fun sy=>?_);refine wC ?_ ?_<;>intro e1
  ·exact wR (h:=by exact Yl (fun h=>e1 (by rw [h,hy] at hx;exact (Option.some.inj hx).symm)))
  exact wM (h:=by exact Yb9 hh hx (by rw [hy,e1]))
 exact wR (h:=by exact Yu (YdX (fun i hi x hx=>hh i Zi x hx)))
theorem equalP_q {fz:FZ} {A B:Option Addr} {n c m d:Nat} {l1 l2} (h1:Sl paramL fz A n c l1) (h2:Sl paramL fz B m d l2):
 QFn prog 206 [Zc A n c,Zc B m d] fz (Zo (decide (l1=l2))):=by
 refine GFn.quiet ?_;have k1:=h1.len;have k2:=h2.len;have k3:=h1.short;have k4:=h2.short;refine zF Tryz.func206 Tryz.ntmps206 (fun w0=>?_);refine wC ?_ ?_<;>intro c1
 ·exact wR (h:=by exact Yl (fun h=>c1 (by rw [<- k1,<- k2,h])))
 refine zW ?_;refine Yav n (fun k=>[(13,Zk k),(12,Zk n),(0,Zc A n c),(1,Zc B m d)]) [] (fun k=>(∀ i,i<k->∀ x,l1[i]?=some x->l2[i]?=some x)) (fun i hi=>absurd hi Zi) ?_;intro k hk hh;refine wC ?_ ?_<;>intro c2
 ·obtain ⟨x,hx⟩:=Ye (l:=l1) (k:=k) Zi;obtain ⟨y,hy⟩:=Ye (l:=l2) (k:=k) Zi;refine wI h1 hx (fun a ha=>?_)
  ((refine zL ha ?_;intro cs1 hcs1;obtain ⟨rfl,hR1⟩:=YJ hcs1));refine wI h2 hy (fun b hb=>?_)
  ((refine zL hb ?_;intro cs2 hcs2;obtain ⟨rfl,hR2⟩:=YJ hcs2));refine zW ?_
  (((refine zG ?_);refine YgN Zz Zz (fun e1=>?_) (fun e1=>?_)))
  ·exact wR (h:=by exact Yl (fun h=>e1 (by rw [h,hy] at hx;exact (Option.some.inj hx).symm)))
  exact wM (h:=by exact Yb9 hh hx (by rw [hy,e1]))
 exact wR (h:=by exact Yu (YdX (fun i hi x hx=>hh i Zi x hx)))
theorem eqfE_q {m d:Nat} {l1 l2:List Lx.Expr} (h1:Sl exprL fz A n c l1) (h2:Sl exprL fz B m d l2) (hq:∀ x y cs ds,x∈l1->exprL.rep fz x cs->exprL.rep fz y ds->QFn prog ff [.agg (List.toArray cs),.agg (List.toArray ds)] fz (Zo (decide (x=y)))):
 QFn prog 207 [Zc A n c,Zc B m d,.func (.func ff) #[] #[]] fz (Zo (decide (l1=l2))):=by
 refine GFn.quiet ?_;have k1:=h1.len;have k2:=h2.len;have k3:=h1.short;have k4:=h2.short;refine zF Tryz.func207 Tryz.ntmps207 (fun w0=>?_);refine wC ?_ ?_<;>intro c1
 ·exact wR (h:=by exact Yl (fun h=>c1 (by rw [<- k1,<- k2,h])))
 refine zW ?_;refine Yav n (fun k=>[(17,Zk k),(16,Zk n),(15,Zc A n c),(2,.func (.func ff) #[] #[]),(1,Zc B m d)]) [] (fun k=>(∀ i,i<k->∀ x,l1[i]?=some x->l2[i]?=some x)) (fun i hi=>absurd hi Zi) ?_;intro k hk hh;refine wC ?_ ?_<;>intro c2
 ·obtain ⟨x,hx⟩:=Ye (l:=l1) (k:=k) Zi;obtain ⟨y,hy⟩:=Ye (l:=l2) (k:=k) Zi;refine wI h1 hx (fun a ha=>?_);refine zL ha ?_;intro cs1 hcs1;have hq1:=fun y ds=>hq x y cs1 ds (Zm hx) hcs1
  obtain ⟨u1,u2,rfl,hR1⟩:=YD hcs1
  ((obtain ⟨A1,n1,c1',rfl,ia1⟩:=hR1.args;obtain ⟨A2,n2,c2',rfl,ik1⟩:=hR1.kids));refine zW ?_;intros;refine zI h2 hy (fun b hb=>?_);refine zL hb ?_;intro cs2 hcs2;have hq2:=hq1 y cs2 hcs2;obtain ⟨w1,w2,rfl,hR2⟩:=YD hcs2
  ((obtain ⟨A3,n3,c3',rfl,ia2⟩:=hR2.args;obtain ⟨A4,n4,c4',rfl,ik2⟩:=hR2.kids));refine zW ?_;intros
  ((refine zG ?_);refine Yah Zz Zz Zz hq2 (fun e1=>?_) (fun e1=>?_))
  ·exact wM (h:=by exact Yb9 hh hx (by rw [hy,e1]))
  exact wR (h:=by exact Yl (fun h=>e1 (by rw [h,hy] at hx;exact (Option.some.inj hx).symm)))
 exact wR (h:=by exact Yu (YdX (fun i hi x hx=>hh i Zi x hx)))
theorem eqfF_q {m d:Nat} {l1 l2:List Lx.Formula} (h1:Sl YK fz A n c l1) (h2:Sl YK fz B m d l2) (hq:∀ x y cs ds,x∈l1->YK.rep fz x cs->YK.rep fz y ds->QFn prog ff [.agg (List.toArray cs),.agg (List.toArray ds)] fz (Zo (decide (x=y)))):
 QFn prog 209 [Zc A n c,Zc B m d,.func (.func ff) #[] #[]] fz (Zo (decide (l1=l2))):=by
 refine GFn.quiet ?_;have k1:=h1.len;have k2:=h2.len;have k3:=h1.short;have k4:=h2.short;refine zF Tryz.func209 Tryz.ntmps209 (fun w0=>?_);refine wC ?_ ?_<;>intro c1
 ·exact wR (h:=by exact Yl (fun h=>c1 (by rw [<- k1,<- k2,h])))
 refine zW ?_;refine Yav n (fun k=>[(17,Zk k),(16,Zk n),(15,Zc A n c),(2,.func (.func ff) #[] #[]),(1,Zc B m d)]) [] (fun k=>(∀ i,i<k->∀ x,l1[i]?=some x->l2[i]?=some x)) (fun i hi=>absurd hi Zi) ?_;intro k hk hh;refine wC ?_ ?_<;>intro c2
 ·obtain ⟨x,hx⟩:=Ye (l:=l1) (k:=k) Zi;obtain ⟨y,hy⟩:=Ye (l:=l2) (k:=k) Zi;refine wI h1 hx (fun a ha=>?_);refine zL ha ?_;intro cs1 hcs1;have hq1:=fun y ds=>hq x y cs1 ds (Zm hx) hcs1
  obtain ⟨u1,u2,u3,u4,rfl,hR1⟩:=Yv hcs1
  ((obtain ⟨A1,n1,c1',rfl,ia1⟩:=hR1.args;obtain ⟨A2,n2,c2',rfl,ip1⟩:=hR1.params;obtain ⟨A3,n3,c3',rfl,ie1⟩:=hR1.exprs;obtain ⟨A4,n4,c4',rfl,ik1⟩:=hR1.kids));refine zW ?_;intros;refine zI h2 hy (fun b hb=>?_);refine zL hb ?_;intro cs2 hcs2;have hq2:=hq1 y cs2 hcs2;obtain ⟨w1,w2,w3,w4,rfl,hR2⟩:=Yv hcs2
  ((obtain ⟨A5,n5,c5',rfl,ia2⟩:=hR2.args;obtain ⟨A6,n6,c6',rfl,ip2⟩:=hR2.params;obtain ⟨A7,n7,c7',rfl,ie2⟩:=hR2.exprs;obtain ⟨A8,n8,c8',rfl,ik2⟩:=hR2.kids));refine zW ?_;intros
  ((refine zG ?_);refine Yah Zz Zz Zz hq2 (fun e1=>?_) (fun e1=>?_))
  ·exact wM (h:=by exact Yb9 hh hx (by rw [hy,e1]))
  exact wR (h:=by exact Yl (fun h=>e1 (by rw [h,hy] at hx;exact (Option.some.inj hx).symm)))
 exact wR (h:=by exact Yu (YdX (fun i hi x hx=>hh i Zi x hx)))
theorem Yd5 {a b:Lx.Expr}:a=b↔a.op=b.op/\a.name=b.name/\a.n=b.n/\a.args=b.args/\a.kids=b.kids:=by
 cases a;cases b;simp only [Lx.Expr.op,Lx.Expr.name,Lx.Expr.n,Lx.Expr.args,Lx.Expr.kids,Lx.Expr.mk.injEq]
theorem Ydc {a b:Formula}:a=b↔a.op=b.op/\a.name=b.name/\a.args=b.args/\a.params=b.params/\a.exprs=b.exprs/\a.kids=b.kids:=by
 cases a;cases b;simp only [Formula.op,Formula.name,Formula.args,Formula.params,Formula.exprs,Formula.kids,Formula.mk.injEq]
theorem Yib:∀ (s:Nat) {fz:FZ} {a b:Lx.Expr} {va vk wa wk:Value},SizeOf.sizeOf a<=s->ExprR fz a va vk->ExprR fz b wa wk->
 QFn prog 208 [.agg #[Zy a.op,Zy a.name,Zk a.n,va,vk],.agg #[Zy b.op,Zy b.name,Zk b.n,wa,wk]] fz (Zo (decide (a=b)))
 | 0,_,e,_,_,_,_,_,hs,_,_=>by cases e;simp at hs
 | s+1,fz,a,b,va,vk,wa,wk,hs,hR1,hR2=>by
  refine GFn.quiet ?_
  ((obtain ⟨A1,n1,c1',rfl,ia1⟩:=hR1.args;obtain ⟨A2,n2,c2',rfl,ik1⟩:=hR1.kids))
  ((obtain ⟨A3,n3,c3',rfl,ia2⟩:=hR2.args;obtain ⟨A4,n4,c4',rfl,ik2⟩:=hR2.kids));refine zF Tryz.func208 Tryz.ntmps208 (fun w0=>?_);refine pX (fun g0=>?_);refine pY (fun g1=>?_);refine zW ?_
  (((refine zC (fun e1=>?_) (fun e1=>?_));rotate_left 1;((refine zW ?_);(exact ret1 rfl rfl Zb (Yl (fun h=>e1 (Yd5.1 h).1))));(refine zW ?_)))
  (((refine zC (fun e2=>?_) (fun e2=>?_));rotate_left 1;((refine zW ?_);(exact ret1 rfl rfl Zb (Yl (fun h=>e2 (Yd5.1 h).2.1))));(refine zW ?_)))
  (((refine zC (fun e3=>?_) (fun e3=>?_));rotate_left 1;((refine zW ?_);(exact ret1 rfl rfl Zb (Yl (fun h=>e3 (Yd5.1 h).2.2.1))));(refine zW ?_)));refine zb (Yjt ia1 ia2) (fun f1=>?_) (fun f1=>?_)
  ·refine zW ?_
   ((refine zG ?_);refine WJ (eqfE_q ik1 ik2 (fun x y cs ds hx h1 h2=>by
    obtain ⟨u1,u2,rfl,h3⟩:=YD h1;obtain ⟨w1,w2,rfl,h4⟩:=YD h2;exact Yib s (by have:=Lx.Expr.kids_lt hx;omega) h3 h4)) (fun f2=>?_) (fun f2=>?_))
   ·exact wR (h:=by exact Yu (Yd5.2 ⟨e1,e2,e3,Zt f1,Zt f2⟩))
   exact wR (h:=by exact Yl (fun h=>Zf f2 (Yd5.1 h).2.2.2.2))
  exact wR (h:=by exact Yl (fun h=>Zf f1 (Yd5.1 h).2.2.2.1))
theorem same_f:∀ (s:Nat) {fz:FZ} {a b:Formula} {va vp ve vk wa wp we wk:Value},SizeOf.sizeOf a<=s->FormulaR fz a va vp ve vk->FormulaR fz b wa wp we wk->
 QFn prog 143 [.agg #[Zy a.op,Zy a.name,va,vp,ve,vk],.agg #[Zy b.op,Zy b.name,wa,wp,we,wk]] fz (Zo (decide (a=b)))
 | 0,_,e,_,_,_,_,_,_,_,_,_,hs,_,_=>by cases e;simp at hs
 | s+1,fz,a,b,va,vp,ve,vk,wa,wp,we,wk,hs,hR1,hR2=>by
  refine GFn.quiet ?_
  ((obtain ⟨A1,n1,c1',rfl,ia1⟩:=hR1.args;obtain ⟨A2,n2,c2',rfl,ip1⟩:=hR1.params;obtain ⟨A3,n3,c3',rfl,ie1⟩:=hR1.exprs;obtain ⟨A4,n4,c4',rfl,ik1⟩:=hR1.kids))
  ((obtain ⟨A5,n5,c5',rfl,ia2⟩:=hR2.args;obtain ⟨A6,n6,c6',rfl,ip2⟩:=hR2.params;obtain ⟨A7,n7,c7',rfl,ie2⟩:=hR2.exprs;obtain ⟨A8,n8,c8',rfl,ik2⟩:=hR2.kids));refine zF Tryz.func143 Tryz.ntmps143 (fun w0=>?_);refine pX (fun g0=>?_);refine pY (fun g1=>?_);refine zW ?_
  (((refine zC (fun e1=>?_) (fun e1=>?_));rotate_left 1;((refine zW ?_);(exact ret1 rfl rfl Zb (Yl (fun h=>e1 (Ydc.1 h).1))));(refine zW ?_)))
  (((refine zC (fun e2=>?_) (fun e2=>?_));rotate_left 1;((refine zW ?_);(exact ret1 rfl rfl Zb (Yl (fun h=>e2 (Ydc.1 h).2.1))));(refine zW ?_)));refine zb (Yjt ia1 ia2) (fun f1=>?_) (fun f1=>?_)
  ·refine wb (equalP_q ip1 ip2) (fun f2=>?_) (fun f2=>?_)
   ·refine zW ?_
    ((refine zG ?_);refine WJ (eqfE_q ie1 ie2 (fun x y cs ds hx h1 h2=>by
     obtain ⟨u1,u2,rfl,h3⟩:=YD h1;obtain ⟨w1,w2,rfl,h4⟩:=YD h2;exact Yib _ (Zs _) h3 h4)) (fun f3=>?_) (fun f3=>?_))
    ·refine zW ?_
     ((refine zG ?_);refine WJ (eqfF_q ik1 ik2 (fun x y cs ds hx h1 h2=>by
      obtain ⟨u1,u2,u3,u4,rfl,h3⟩:=Yv h1;obtain ⟨w1,w2,w3,w4,rfl,h4⟩:=Yv h2;exact same_f s (by have:=Formula.kids_lt hx;omega) h3 h4)) (fun f4=>?_) (fun f4=>?_))
     ·exact wR (h:=by exact Yu (Ydc.2 ⟨e1,e2,Zt f1,Zt f2,Zt f3,Zt f4⟩))
     exact wR (h:=by exact Yl (fun h=>Zf f4 (Ydc.1 h).2.2.2.2.2))
    exact wR (h:=by exact Yl (fun h=>Zf f3 (Ydc.1 h).2.2.2.2.1))
   exact wR (h:=by exact Yl (fun h=>Zf f2 (Ydc.1 h).2.2.2.1))
  exact wR (h:=by exact Yl (fun h=>Zf f1 (Ydc.1 h).2.2.1))
theorem YgK {a b:Formula} {wa wp we wk:Value} (hR1:FormulaR fz a va vp ve vk) (hR2:FormulaR fz b wa wp we wk):
 QFn prog 143 [.agg #[Zy a.op,Zy a.name,va,vp,ve,vk],.agg #[Zy b.op,Zy b.name,wa,wp,we,wk]] fz (Zo (decide (a=b))):=same_f _ (Zs _) hR1 hR2
def XV:Formula:=.mk kAnd ⟨#[]⟩ [] [] [] []
theorem Ydr:FormulaR fz XV Zn Zn Zn Zn:=⟨by unfold Short XV;decide,XI,IsSl.nil,IsSl.nil,IsSl.nil,IsSl.nil⟩
def Yd7:Value:=.agg #[Zy kAnd,Ze,Zn,Zn,Zn,Zn]
theorem YaK:QFn prog 144 [] fz Yd7:=by
 refine qF Tryz.func144 Tryz.ntmps144 (fun w0=>?_);refine zW ?_;intros;exact Yan (i:=0) rfl (fun _ hi=>⟨_,[],hi.forget (List.nil_sublist _),rfl⟩)
theorem Yk5:ExprR fz (.mk ⟨#[]⟩ ⟨#[]⟩ 0 [] []) Zn Zn:=⟨XI,XI,Yae,IsSl.nil,IsSl.nil⟩
theorem Yhv {a b:Lx.Expr} {wa wk:Value} (hR1:ExprR fz a va vk) (hR2:ExprR fz b wa wk):
 QFn prog 261 [.agg #[Zy a.op,Zy a.name,Zk a.n,va,vk],.agg #[Zy b.op,Zy b.name,Zk b.n,wa,wk]] fz (Zo (decide (a=b))):=by
 refine GFn.quiet ?_
 ((obtain ⟨A1,n1,c1',rfl,ia1⟩:=hR1.args;obtain ⟨A2,n2,c2',rfl,ik1⟩:=hR1.kids))
 ((obtain ⟨A3,n3,c3',rfl,ia2⟩:=hR2.args;obtain ⟨A4,n4,c4',rfl,ik2⟩:=hR2.kids));refine zF Tryz.func261 Tryz.ntmps261 (fun w0=>?_);refine pX (fun g0=>?_);refine pY (fun g1=>?_);refine zW ?_;refine Ya (Yb (cs:=[Zy a.op,Zy a.name,Zk a.n,Zc A1 n1 c1',Zc A2 n2 c2']) (fun gA=>?_));refine zW ?_;refine Ya (Yb (cs:=[Zy b.op,Zy b.name,Zk b.n,Zc A3 n3 c3',Zc A4 n4 c4']) (fun gB=>?_));refine zW ?_
 first | refine Wp.freeze Zz (fun fz1 hl1 hg1=>?_) | refine Seq.freeze Zz (fun fz1 hl1 hg1=>?_)
 first | refine Wp.freeze Zz (fun fz2 hl2 hg2=>?_) | refine Seq.freeze Zz (fun fz2 hl2 hg2=>?_)
 have s1:Sl exprL fz2 (some ⟨gA,0,none⟩) 1 1 [a]:=Wb (ys:=[(a,_)]) hg2 (by simp;rfl) rfl (by simpa using Ya8 (hR1.mono (hl1.trans hl2))) rfl Zh;have s2:Sl exprL fz2 (some ⟨gB,0,none⟩) 1 1 [b]:=Wb (ys:=[(b,_)]) (hl2 _ _ hg1) (by simp;rfl) rfl (by simpa using Ya8 (hR2.mono (hl1.trans hl2))) rfl Zh
 ((refine zG ?_);refine YF (YgK (a:=.mk ⟨#[]⟩ ⟨#[]⟩ [] [] [a] []) (b:=.mk ⟨#[]⟩ ⟨#[]⟩ [] [] [b] []) ⟨XI,XI,IsSl.nil,IsSl.nil,s1.is,IsSl.nil⟩ ⟨XI,XI,IsSl.nil,IsSl.nil,s2.is,IsSl.nil⟩) ?_);exact wR (h:=by simp)
def Ydp (m:List (Bs × Value)) (ks:List Bs):Prop:=∀ x,valS m x=if x∈ks then some (Zo true) else none
theorem Ydp.nil:Ydp [] []:=fun x=>by rw [valS_nil,if_neg (by simp)]
theorem Ydp.add {ks:List Bs} (h:Ydp m ks) (x:Bs):Ydp (updS m x (Zo true)) (ks++ [x]):=fun y=>by
 rw [Ygm,h y];by_cases h1:y=x
 ·rw [if_pos h1,if_pos (by simp [h1])]
 rw [if_neg h1];by_cases h2:y∈ks
 ·rw [if_pos h2,if_pos (by simp [h2])]
 rw [if_neg h2,if_neg (by simp [h1,h2])]
theorem Ydp.get {ks:List Bs} (h:Ydp m ks) {x:Bs}:(fndS m x 0).elim (Zo false) (·.2)=Zo (decide (x∈ks)):=by
 rw [Ymb,h x];by_cases h2:x∈ks
 ·rw [if_pos h2,decide_eq_true h2];rfl
 rw [if_neg h2,decide_eq_false h2];rfl
def TwP (others l:List Bs):Prop:=∃ k x,l[k]?=some x/\x∈others++l.take k
theorem YmK {others l:List Bs} (hh:∀ i,i<k->∀ x,l[i]?=some x->x ∉ others++l.take i) (hk:l.length<=k):¬TwP others l:=by
 rintro ⟨i,x,h1,h2⟩;have:=(Zg h1).1;exact hh i Zi x h1 h2
def parN (l:List Param):List Bs:=l.map (·.name)
theorem Ym2 {l:List Param} {x:Param} (h:l[k]?=some x):(parN l)[k]?=some x.name:=by unfold parN;rw [List.getElem?_map,h];rfl
theorem Yi4 {l:List Param}:(parN l).length=l.length:=List.length_map ..
theorem YcB {l:List Param}:parN (l.take k)=(parN l).take k:=List.map_take ..
theorem Ylx {m d:Nat} {l others:List Param} (h1:Sl paramL fz A n c l) (h2:Sl paramL fz B m d others):
 QFn prog 102 [Zc A n c,Zc B m d] fz (errV (if TwP (parN others) (parN l) then 4 else 0)):=by
 have l1:=h1.len;have l2:=h2.len;have s1:=h1.short;have s2:=h2.short;refine qF Tryz.func102 Tryz.ntmps102 (fun w0=>?_);refine zV ?_;refine Ya (Ybp (fun gm=>?_));refine zV ?_;refine Yi (fun q σ fz' H'=>∃ (k:Nat) (ms:List (Bs × Value)),k<=m/\q=m - k/\σ=[(13,Zk k),(12,Zk m),(11,Zc B m d),(5,.map (some gm)),(0,Zc A n c)]/\fz=fz'/\H'=[(gm,mapS ms)]/\Ydp ms (parN (others.take k))) ⟨0,[],Z0 _,rfl,rfl,rfl,rfl,Ydp.nil⟩ Zw Zb ?_;rintro q σ fz' H' ⟨k,ms,hk,rfl,rfl,rfl,rfl,hS⟩;refine vC ?_ ?_<;>intro c1
 ·obtain ⟨x,hx⟩:=Ye (l:=others) (k:=k) Zi;refine vI h2 hx (fun p hp=>?_);refine zL hp ?_;intro cs hcs;obtain ⟨rfl,hR⟩:=YJ hcs;refine zV ?_;intros;refine Yz (Wz (pre:=[_]) (Zr _) ?_);exact vP (h:=by exact ⟨k+1,_,by omega,rfl,rfl,rfl,rfl,by rw [List.take_add_one,hx];simpa [parN] using hS.add x.name⟩)
 rw [Zl Zi] at hS;refine zV ?_;refine Yi (fun q σ fz' H'=>∃ (k:Nat) (ms:List (Bs × Value)),k<=n/\q=n - k/\σ=[(23,Zk k),(22,Zk n),(21,Zc A n c),(5,.map (some gm))]/\fz=fz'/\H'=[(gm,mapS ms)]/\Ydp ms (parN others++parN (l.take k))/\(∀ i,i<k->∀ x,(parN l)[i]?=some x->x ∉ parN others++(parN l).take i)) ⟨0,ms,Z0 _,rfl,rfl,rfl,rfl,by simpa [parN] using hS,fun i hi=>absurd hi Zi⟩ Zw Zb ?_;rintro q σ fz' H' ⟨k,ms,hk,rfl,rfl,rfl,rfl,hS,hh⟩;refine vC ?_ ?_<;>intro c2
 ·obtain ⟨x,hx⟩:=Ye (l:=l) (k:=k) Zi;have hxn:=Ym2 hx;refine vI h1 hx (fun p hp=>?_);refine zL hp ?_;intro cs hcs;obtain ⟨rfl,hR⟩:=YJ hcs;refine zV ?_;intros;refine zG ?_;refine Ybe 1 hS.get ?_;refine zV ?_;by_cases hm:x.name∈parN others++parN (l.take k)
  ·rw [decide_eq_true hm];exact vR (h:=by rw [if_pos ⟨k,x.name,hxn,by rw [<- YcB];exact hm⟩];rfl)
  rw [decide_eq_false hm];refine zV ?_;refine Yz (Wz (pre:=[_]) (Zr _) ?_);exact vP (h:=by exact ⟨k+1,_,by omega,rfl,rfl,rfl,rfl,by rw [List.take_add_one,hx];simpa [parN] using hS.add x.name,Yb9 (p:=fun i x=>x ∉ parN others++(parN l).take i) hh hxn (by rw [<- YcB];exact hm)⟩)
 exact vR (h:=by rw [if_neg (YmK hh (by rw [Yi4];omega))];rfl)
def CkR (fz:FZ) (v:Value) (d:Domain) (p:Problem) (all:List Param) (vf vp vg vo:Value):Prop:=∃ gc v1 v2 v3 v4 v5 v6 u1 u2 u3 u4 u5 u6 u7 Aa na ca,v=Zp gc/\
 fz gc=some (Zu #[Zy d.name,v1,v2,v3,v4,v5,v6,Zy p.name,Zy p.domain,u1,u2,u3,Zy p.goal.op,Zy p.goal.name,u4,u5,u6,u7,vf,vp,vg,vo,Zc Aa na ca] 98)/\
 DomainR fz d v1 v2 v3 v4 v5 v6/\ProblemR fz p u1 u2 u3 u4 u5 u6 u7/\Sl paramL fz Aa na ca all
theorem CkR.mono {p:Problem} {all:List Param} {vf vg vo:Value} (h:CkR fz v d p all vf vp vg vo) (hle:Le fz fz'):CkR fz' v d p all vf vp vg vo:=by
 obtain ⟨gc,v1,v2,v3,v4,v5,v6,u1,u2,u3,u4,u5,u6,u7,Aa,na,ca,h1,h2,h3,h4,h5⟩:=h;exact ⟨gc,v1,v2,v3,v4,v5,v6,u1,u2,u3,u4,u5,u6,u7,Aa,na,ca,h1,hle _ _ h2,h3.mono hle,h4.mono hle,h5.mono hle⟩
def ExP (tys l:List Param):Prop:=∀ p∈l,HasT tys p.typ
theorem Yma {p:Problem} {all l tys:List Param} {vf vg vo:Value} (h:CkR fz v d p all vf vp vg vo) (hf:ForR fz vf tys) (h1:Sl paramL fz A n c l):
 QFn prog 103 [v,Zc A n c] fz (errV (if ExP tys l then 0 else 3)):=by
 obtain ⟨gc,v1,v2,v3,v4,v5,v6,u1,u2,u3,u4,u5,u6,u7,Aa,na,ca,rfl,hc,hD,hP,hall⟩:=h;have hf0:=hf;obtain ⟨gf,gm,rfl,hf1,hf2⟩:=hf;have l1:=h1.len;have s1:=h1.short;refine qF Tryz.func103 Tryz.ntmps103 (fun w0=>?_);refine zV ?_;refine Yav n (fun k=>[(9,Zk k),(8,Zk n),(7,Zc A n c),(0,Zp gc)]) [] (fun k=>(∀ i,i<k->∀ x,l[i]?=some x->HasT tys x.typ)) (fun i hi=>absurd hi Zi) ?_;intro k hk hh;refine vC ?_ ?_<;>intro c1
 ·obtain ⟨x,hx⟩:=Ye (l:=l) (k:=k) Zi;refine vI h1 hx (fun p1 hp=>?_);refine zL hp ?_;intro cs hcs;obtain ⟨rfl,hR⟩:=YJ hcs;refine zV ?_;intros;refine zb (has_q hf0) (fun f1=>?_) (fun f1=>?_)
  ·exact vM (h:=by exact YL hh hx (Zt f1))
  exact vR (h:=by rw [if_neg (fun h0=>Zf f1 (h0 x (Zm hx)))];rfl)
 have hA:=Xu hh Zi;exact vR (h:=by rw [if_pos (show ExP tys l from hA)];rfl)
def repM:List Bs->List Param->Option Bs
 | _,[]=>none
 | seen,x::r=>if x.name∈seen then some x.typ else repM (seen++ [x.name]) r
theorem Ypb:∀ {l:List Param} {k:Nat} {x:Param} {seen:List Bs},l[k]?=some x->(∀ i,i<k->∀ y,l[i]?=some y->y.name ∉ seen++(parN l).take i)->repM seen l=repM (seen++(parN l).take k) (l.drop k)
 | [],k,x,_,h,_=>by simp at h
 | y::r,0,x,seen,h,_=>by simp
 | y::r,k+1,x,seen,h,hh=>by
  have h0:=hh 0 Zi y rfl;rw [List.take_zero,List.append_nil] at h0;rw [repM,if_neg h0,Ypb (l:=r) (k:=k) (x:=x) (seen:=seen++ [y.name]) (by simpa using h) (fun i hi z hz=>by
   have:=hh (i+1) Zi z (by simpa using hz);simpa [parN] using this)]
  simp [parN]
theorem Yki:∀ {l:List Param} {seen:List Bs},(∀ i x,l[i]?=some x->x.name ∉ seen++(parN l).take i)->repM seen l=none
 | [],_,_=>rfl
 | y::r,seen,hh=>by
  have h0:=hh 0 y rfl;rw [List.take_zero,List.append_nil] at h0;rw [repM,if_neg h0];exact Yki (fun i z hz=>by
   have:=hh (i+1) z (by simpa using hz);simpa [parN] using this)
def repV (o:Option Bs):Value:=.tuple #[Zy (o.getD ⟨#[]⟩),errV (if o.isSome=true then 4 else 0)]
theorem Yfm {l:List Param} (h1:Sl paramL fz A n c l):
 QFn prog 164 [Zc A n c] fz (repV (repM [] l)):=by
 have l1:=h1.len;have s1:=h1.short;refine qF Tryz.func164 Tryz.ntmps164 (fun w0=>?_);refine zV ?_;refine Ya (Ybp (fun gm=>?_));refine zV ?_;refine Yi (fun q σ fz' H'=>∃ (k:Nat) (ms:List (Bs × Value)),k<=n/\q=n - k/\σ=[(10,Zk k),(9,Zk n),(8,Zc A n c),(4,.map (some gm))]/\fz=fz'/\H'=[(gm,mapS ms)]/\Ydp ms (parN (l.take k))/\(∀ i,i<k->∀ x,l[i]?=some x->x.name ∉ []++(parN l).take i)) ⟨0,[],Z0 _,rfl,rfl,rfl,rfl,Ydp.nil,fun i hi=>absurd hi Zi⟩ Zw Zb ?_;rintro q σ fz' H' ⟨k,ms,hk,rfl,rfl,rfl,rfl,hS,hh⟩;refine vC ?_ ?_<;>intro c2
 ·obtain ⟨x,hx⟩:=Ye (l:=l) (k:=k) Zi;refine vI h1 hx (fun p hp=>?_);refine zL hp ?_;intro cs hcs;obtain ⟨rfl,hR⟩:=YJ hcs;refine zV ?_;intros;refine zG ?_;refine Ybe 1 hS.get ?_;refine zV ?_;by_cases hm:x.name∈parN (l.take k)
  ·have e1:repM [] l=some x.typ:=by
    rw [Ypb hx hh];have hd:l.drop k=x::l.drop (k+1):=by
     have:=List.drop_eq_getElem_cons (l:=l) (i:=k) (Zg hx).1;rw [this,(Zg hx).2]
    rw [hd,repM,if_pos (by rw [List.nil_append,<- YcB];exact hm)]
   rw [decide_eq_true hm];exact vS (h:=by rw [e1];rfl)
  rw [decide_eq_false hm];refine zV ?_;refine Yz (Wz (pre:=[_]) (Zr _) ?_);exact vP (h:=by exact ⟨k+1,_,by omega,rfl,rfl,rfl,rfl,by rw [List.take_add_one,hx];simpa [parN] using hS.add x.name,Yb9 (p:=fun i x=>x.name ∉ []++(parN l).take i) hh hx (by rw [List.nil_append,<- YcB];exact hm)⟩)
 have e1:repM [] l=none:=Yki (fun i x hx=>hh i (by have:=(Zg hx).1;omega) x hx);exact vS (h:=by rw [e1];rfl)
end Go.Proofs.YtiligkgjcmokbaaGreatDoor
namespace Go.Lx
open Go.RowKit
section
variable {P:Program} {cx:Cx} {r:Operand->Option Value} {fz:FZ} {H:HP} {dst:Option Nat} {ty:TypeId} {pos:String} {af:Array Edge} {gd:Option (Nat × Bool)} {V:Value->Prop}
def updH (fz:FZ):HP->FZ
 | []=>fz
 | p::r=>upd (updH fz r) p.1 p.2
theorem YmI {fz:FZ}:∀ {H:HP},(H.map Prod.fst).Nodup->∀ p∈H,updH fz H p.1=some p.2
 | [],_,p,hp=>by cases hp
 | q::r,hn,p,hp=>by
  rw [List.map_cons,List.nodup_cons] at hn;rw [updH,upd];rcases List.mem_cons.1 hp with rfl | hp
  ·rw [if_pos rfl]
  rw [if_neg (fun h0=>hn.1 (by rw [<- h0];exact List.mem_map_of_mem hp)),YmI hn.2 p hp]
theorem YoC {fz:FZ}:∀ {H:HP},(∀ p∈H,fz p.1=none)->Le fz (updH fz H)
 | [],_=>Zd
 | q::r,h=>fun b o hb=>by
  rw [updH,upd,if_neg (fun h0=>by rw [h0,h q (by simp)] at hb;cases hb)];exact YoC (fun p hp=>h p (by simp [hp])) b o hb
theorem YoD {fz:FZ}:∀ {H:HP} {b:Nat} {o:Obj},updH fz H b=some o->fz b=some o\/(b,o)∈H
 | [],_,_,h=>.inl h
 | q::r,b,o,h=>by
  rw [updH,upd] at h;split at h
  ·rename_i hb;injection h with h;subst hb h;exact .inr (by simp)
  rcases YoD h with h | h
  ·exact .inl h
  exact .inr (by simp [h])
variable {w:World}
theorem Hp.all (h:Hp fz H w):Hp (updH fz H) [] w:=
 ⟨fun b o hb=>(YoD hb).elim (h.keep b o) (fun hm=>(h.own _ hm).1),by simp,by simp⟩
theorem Hp.allLe (h:Hp fz H w):Le fz (updH fz H)/\∀ p∈H,updH fz H p.1=some p.2:=⟨YoC fun p hp=>(h.own p hp).2,YmI h.nd⟩
variable {v:Value}
theorem YcW {f:FuncId} {xs:List Operand} {ats:Array TypeId} {vs:List Value} (hq:∀ fz',Le fz fz'->(∀ p∈H,fz' p.1=some p.2)->QFn P f vs fz' v) (h:V v) (hx:rds r xs=some vs:=by exact rfl) (hf:r (.func f)=some (.func (.func f) #[] #[]):=by exact rfl):
 DoesQ P cx ⟨dst,.call {callee:=.value (.func f),args:=xs.toArray,argTypes:=ats},ty,pos,af,gd⟩ r fz H V:=
 DoesQ.of h fun ρ w hr hw=>by
  have hq':=hq _ hw.hp.allLe.1 hw.hp.allLe.2;unfold QFn at hq';rw [YeL hr (first:=[]) (capt:=[]) hf hx (vs:=vs) (by simp) hq'.1];exact (hq'.2 w hw.hp.all).mono fun e w' ⟨he,hfr⟩=>⟨v,he,rfl,hfr⟩
variable {b:Bool}
theorem q_callBU {f:FuncId} {xs:List Operand} {ats:Array TypeId} {vs:List Value} (hq:∀ fz',Le fz fz'->(∀ p∈H,fz' p.1=some p.2)->QFn P f vs fz' (Zo b)) (h1:b=true->V (Zo true)) (h2:b=false->V (Zo false)) (hx:rds r xs=some vs:=by exact rfl) (hf:r (.func f)=some (.func (.func f) #[] #[]):=by exact rfl):
 DoesQ P cx ⟨dst,.call {callee:=.value (.func f),args:=xs.toArray,argTypes:=ats},ty,pos,af,gd⟩ r fz H V:=
 YcW hq (v_bool h1 h2) (hx:=hx) (hf:=hf)
theorem q_callvU {f:FuncId} {ff:Operand} {xs:List Operand} {ats:Array TypeId} {us vs first capt:List Value} (hf:r ff=some (.func (.func f) first.toArray capt.toArray)) (hx:rds r xs=some us) (hv:first++us++capt=vs) (hq:∀ fz',Le fz fz'->(∀ p∈H,fz' p.1=some p.2)->QFn P f vs fz' v) (h:V v):
 DoesQ P cx ⟨dst,.call {callee:=.value ff,args:=xs.toArray,argTypes:=ats},ty,pos,af,gd⟩ r fz H V:=
 DoesQ.of h fun ρ w hr hw=>by
  have hq':=hq _ hw.hp.allLe.1 hw.hp.allLe.2;unfold QFn at hq';rw [YeL hr hf hx hv hq'.1];exact (hq'.2 w hw.hp.all).mono fun e w' ⟨he,hfr⟩=>⟨v,he,rfl,hfr⟩
variable {X Y:Ty} {g n:Nat} {x:Operand}
theorem WH (T:Tab P) {t e:Nat} {i:Operand} {k:IntKind} {j:Int} (hT:T.inf t=some X) (hd:X.desc=.array n e) (hY:T.inf e=some Y)
 (hx:r x=some (Zp g)) (hi:r i=some (.int k j)) (h0:0<=j) (hn:j<n) (h:V (.pointer (some ((⟨g,0,none⟩:Addr).add (j.toNat*Y.size))))):DoesQ P cx ⟨dst,.indexAddr t x i,ty,pos,af,gd⟩ r fz H V:=
 YC (fun ρ w hr=>by
  have hu:=run_underlying (und_plain T hT hd rfl) w;have hs:=Lx.run_sizeOf T hY w;simp [execOp,hr _ _ hx,hr _ _ hi,Instr.indexAt,asIntOf,hu,hs,h0,hn,Instr.sureAddr]) h
theorem YiY {t e n:Nat} {x i:Operand} {X Y:Ty} {k:IntKind} {j:Int} {cs:List Value} {v:Value}
 (h:V v) (T:Tab P:=by exact T) (hT:T.inf t=some X:=by exact rfl) (hd:X.desc=.array n e:=by exact rfl) (hY:T.inf e=some Y:=by exact rfl) (hY1:Y.size=1:=by exact rfl) (hA:W5 Y.desc=false:=by exact rfl) (hx:r x=some (.agg cs.toArray):=by exact rfl) (hi:r i=some (.int k j):=by exact rfl) (h0:0<=j:=by decide) (hn:j<n:=by decide) (hv:cs[j.toNat]?=some v:=by exact rfl):DoesQ P cx ⟨dst,.index t x i,ty,pos,af,gd⟩ r fz H V:=
  YC (fun ρ w hr=>by
   have hu:=run_underlying (und_plain T hT hd rfl) w;have hs:=Lx.run_sizeOf T hY w;have hv2:=Lx.run_isAgg T hY w;rw [hA] at hv2;simp [execOp,hr _ _ hx,hr _ _ hi,Instr.index,asIntOf,hu,hs,h0,hn,hY1,part,hv2,hv]) h
end
end Go.Lx
namespace Go.Proofs.YtiligkgjcmokbaaGreatDoor
variable {d:Domain} {fz:FZ} {v vp:Value}
def Wr:Bs:=⟨#[112,114,101,100,105,99,97,116,101,32]⟩
def XG:Bs:=⟨#[102,117,110,99,116,105,111,110,32]⟩
def YcN:Bs:=⟨#[111,98,106,101,99,116,32]⟩
def Yac:Bs:=⟨#[97,99,116,105,111,110,32]⟩
def XH:Bs:=⟨#[100,117,114,97,116,105,118,101,32]⟩
def Xn {α:Type} (E:α->Int):List (Bs × α)->Bs × Int
 | []=>(⟨#[]⟩,0)
 | p::r=>if E p.2=0 then Xn E r else (p.1,E p.2)
theorem Xb {α β:Type} {E:β->Int} {f:α->Bs} {g:α->β} {r:List (Bs × β)}:∀ {l:List α},(∀ x∈l,E (g x)=0)->Xn E (l.map (fun x=>(f x,g x))++r)=Xn E r
 | [],_=>rfl
 | x::l,h=>by
  rw [List.map_cons,List.cons_append,Xn,if_pos (h x (by simp))];exact Xb (fun y hy=>h y (by simp [hy]))
theorem W0 {α β:Type} {E:β->Int} {f:α->Bs} {g:α->β} {r:List (Bs × β)}:∀ {l:List α} {k:Nat} {x:α},l[k]?=some x->(∀ i,i<k->∀ y,l[i]?=some y->E (g y)=0)->E (g x)≠0->Xn E (l.map (fun x=>(f x,g x))++r)=(f x,E (g x))
 | [],k,x,h,_,_=>by simp at h
 | y::l,0,x,h,_,hx=>by
  simp at h;subst h;rw [List.map_cons,List.cons_append,Xn,if_neg hx]
 | y::l,k+1,x,h,hh,hx=>by
  rw [List.map_cons,List.cons_append,Xn,if_pos (hh 0 Zi y rfl)];exact W0 (k:=k) (by simpa using h) (fun i hi z hz=>hh (i+1) Zi z (by simpa using hz)) hx
def resV (a:Bs × Int):Value:=.tuple #[Zy a.1,errV a.2]
structure NmS (d:Domain) (all:List Param):Prop where
 p:∀ x∈d.predicates,x.name.size<=1000
 f:∀ x∈d.functions,x.name.size<=1000
 o:∀ x∈all,x.name.size<=1000
 a:∀ x∈d.actions,x.name.size<=1000
 u:∀ x∈d.duratives,x.name.size<=1000
def Yby (d:Domain) (all:List Param):List (Bs × List Param):=
 d.predicates.map (fun x=>(Wr++x.name,x.params))++(d.functions.map (fun x=>(XG++x.name,x.params))++(all.map (fun x=>(YcN++x.name,[x]))++(d.actions.map (fun x=>(Yac++x.name,x.params))++(d.duratives.map (fun x=>(XH++x.name,x.params))++ []))))
/-- lists, without the objects (ob false) or with them: fv is the check -/
theorem YpM {p:Problem} {all:List Param} {vf vg vo:Value} {ob:Bool} {f:FuncId} {first capt:List Value} {E:List Param->Int} (h:CkR fz v d p all vf vp vg vo) (hs:NmS d all)
 (hE:∀ {A:Option Addr} {n c:Nat} {l:List Param} {fz':FZ},Le fz fz'->Sl paramL fz' A n c l->QFn prog f (first++ [Zc A n c]++capt) fz' (errV (E l))):
 QFn prog 100 [v,.func (.func f) first.toArray capt.toArray,Zo ob] fz (resV (Xn E (Yby d (if ob=true then all else [])))):=by
 obtain ⟨gc,v1,v2,v3,v4,v5,v6,u1,u2,u3,u4,u5,u6,u7,Aa,na,ca,rfl,hc,hD,hP,hall⟩:=h;obtain ⟨⟨A1,n1,b1,rfl,i1⟩,⟨A2,n2,b2,rfl,i2⟩,⟨A3,n3,b3,rfl,i3⟩,⟨A4,n4,b4,rfl,i4⟩,⟨A5,n5,b5,rfl,i5⟩,⟨A6,n6,b6,rfl,i6⟩⟩:=hD.sls;have l3:=i3.len;have l4:=i4.len;have l5:=i5.len;have l6:=i6.len;have la:=hall.len;have s3:=i3.short;have s4:=i4.short;have s5:=i5.short;have s6:=i6.short;have sa:=hall.short;refine qF Tryz.func100 Tryz.ntmps100 (fun w0=>?_);refine zV ?_;refine Yav n3 (fun k=>[(29,Zk k),(28,Zk n3),(27,Zc A3 n3 b3),(0,Zp gc),(1,.func (.func f) first.toArray capt.toArray),(2,Zo ob)]) [] (fun k=>(∀ i,i<k->∀ x,d.predicates[i]?=some x->E x.params=0)) (fun i hi=>absurd hi Zi) ?_;intro k hk hh;refine zV ?_;refine zC ?_ ?_<;>intro c1
 ·obtain ⟨x,hx⟩:=Ye (l:=d.predicates) (k:=k) Zi;have hxs:=hs.p x (Zm hx);refine zV ?_;refine zI i3 hx (fun p1 hp=>?_);refine zL hp ?_;intro cs hcs;obtain ⟨w1,rfl,hR⟩:=Xo hcs;obtain ⟨Ap,np,cp,rfl,ip⟩:=hR.params;refine zV ?_;intros;refine zG ?_;refine Ybu (hE Zd ip) ?_;by_cases hz:E x.params=0
  ·rw [hz,show errV 0=.nilIface from rfl];refine zV ?_;exact Wj ⟨k+1,by omega,rfl,rfl,rfl,rfl,YL hh hx hz⟩ Zi Zw Zb
  rw [Yg hz];refine zV ?_;refine zG ?_;refine Wa Zz Zz (by show _+_<=_;exact Nat.le_trans (Nat.add_le_add_left hxs _) Zh) ?_;refine zV ?_;exact ret2 rfl rfl rfl Zb (by rw [Yby,W0 (l:=d.predicates) (E:=E) (f:=fun x=>Wr++x.name) (g:=fun x=>x.params) hx hh hz];rw [resV,Yg hz];rfl)
 have hzp:=fun x (hx:x∈d.predicates)=>(by obtain ⟨i,hi⟩:=List.getElem?_of_mem hx;exact Xu hh Zi x hx:E x.params=0)
 refine zV ?_;refine Yav n4 (fun k=>[(50,Zk k),(49,Zk n4),(48,Zc A4 n4 b4),(0,Zp gc),(1,.func (.func f) first.toArray capt.toArray),(2,Zo ob)]) [] (fun k=>(∀ i,i<k->∀ x,d.functions[i]?=some x->E x.params=0)) (fun i hi=>absurd hi Zi) ?_;intro k hk hh;refine zV ?_;refine zC ?_ ?_<;>intro c1
 ·obtain ⟨x,hx⟩:=Ye (l:=d.functions) (k:=k) Zi;have hxs:=hs.f x (Zm hx);refine zV ?_;refine zI i4 hx (fun p1 hp=>?_);refine zL hp ?_;intro cs hcs;obtain ⟨w1,rfl,hR⟩:=YW hcs;obtain ⟨Ap,np,cp,rfl,ip⟩:=hR.params;refine zV ?_;intros;refine zG ?_;refine Ybu (hE Zd ip) ?_;by_cases hz:E x.params=0
  ·rw [hz,show errV 0=.nilIface from rfl];refine zV ?_;exact Wj ⟨k+1,by omega,rfl,rfl,rfl,rfl,YL hh hx hz⟩ Zi Zw Zb
  rw [Yg hz];refine zV ?_;refine zG ?_;refine Wa Zz Zz (by show _+_<=_;exact Nat.le_trans (Nat.add_le_add_left hxs _) Zh) ?_;refine zV ?_;exact ret2 rfl rfl rfl Zb (by rw [Yby,Xb (l:=d.predicates) (E:=E) (f:=fun x=>Wr++x.name) (g:=fun x=>x.params) hzp,W0 (l:=d.functions) (E:=E) (f:=fun x=>XG++x.name) (g:=fun x=>x.params) hx hh hz];rw [resV,Yg hz];rfl)
 have hzf:=fun x (hx:x∈d.functions)=>(by obtain ⟨i,hi⟩:=List.getElem?_of_mem hx;exact Xu hh Zi x hx:E x.params=0)
 refine zVX ?_;refine Yr ?_;refine zVX ?_;refine Yr (YY (fun σ fz' H'=>σ=[(0,Zp gc),(1,.func (.func f) first.toArray capt.toArray)]/\fz=fz'/\H'=[]/\(∀ r,Xn E ((if ob=true then all else []).map (fun x=>(YcN++x.name,[x]))++r)=Xn E r)) ?_ ?_)
 ·refine zV ?_;refine Yi (fun q σ fz' H'=>∃ k:Nat,k<=na/\q=na - k/\σ=[(70,Zk k),(69,Zk na),(68,Zc Aa na ca),(0,Zp gc),(1,.func (.func f) first.toArray capt.toArray),(2,Zo ob)]/\fz=fz'/\H'=[]/\(∀ i,i<k->∀ x,all[i]?=some x->E [x]=0)/\(ob=false->k=0)) ⟨0,Z0 _,rfl,rfl,rfl,rfl,fun i hi=>absurd hi Zi,fun _=>rfl⟩ Zw Zb ?_;rintro q σ fz' H' ⟨k,hk,rfl,rfl,rfl,rfl,hh,hob⟩;refine zV ?_;refine zC ?_ ?_<;>intro c1
  ·obtain ⟨x,hx⟩:=Ye (l:=all) (k:=k) Zi;have hxs:=hs.o x (Zm hx);refine zV ?_;refine zI hall hx (fun p1 hp=>?_);refine zL hp ?_;intro cs hcs;obtain ⟨rfl,hR⟩:=YJ hcs;cases ob with
   | false=>
    refine zV ?_;intros;exact midN ⟨rfl,rfl,rfl,fun r=>rfl⟩ Zw Zb
   | true=>
    refine zV ?_;intros;refine Ya (Yb (cs:=[Zy x.name,Zy x.typ]) (fun gb=>?_));refine zG ?_;refine q_callvU Zz Zz Zz (fun fz' hl hf=>hE hl (Wb (l:=[x]) (ys:=[(x,[Zy x.name,Zy x.typ])]) (hf _ (.head _)) rfl rfl (by simpa using YcY (hR.mono hl)) rfl (by simp))) ?_;by_cases hz:E [x]=0
    ·rw [hz,show errV 0=.nilIface from rfl];refine zV ?_;exact Wj ⟨k+1,by omega,rfl,rfl,rfl,rfl,YL hh hx hz,fun h0=>by cases h0⟩ Zi Zw Zb
    rw [Yg hz];refine zV ?_;refine zG ?_;refine Wa Zz Zz (by show _+_<=_;exact Nat.le_trans (Nat.add_le_add_left hxs _) Zh) ?_;refine zV ?_;exact ret2 rfl rfl rfl Zb (by rw [Yby,Xb (l:=d.predicates) (E:=E) (f:=fun x=>Wr++x.name) (g:=fun x=>x.params) hzp,Xb (l:=d.functions) (E:=E) (f:=fun x=>XG++x.name) (g:=fun x=>x.params) hzf,if_pos rfl,W0 (l:=all) (E:=E) (f:=fun x=>YcN++x.name) (g:=fun x=>[x]) hx hh hz];rw [resV,Yg hz];rfl)
  have hzo:∀ x∈all,E [x]=0\/ob=false:=fun x hx=>by
   cases ob with
   | false=>exact .inr rfl
   | true=>obtain ⟨i,hi⟩:=List.getElem?_of_mem hx;exact .inl (Xu (p:=fun x=>E [x]=0) hh Zi x hx)
  refine zV ?_;exact midN ⟨rfl,rfl,rfl,fun r=>by
   cases ob with
   | false=>rfl
   | true=>exact Xb (l:=all) (E:=E) (f:=fun x=>YcN++x.name) (g:=fun x=>[x]) (fun x hx=>(hzo x hx).elim (fun h=>h) (fun h=>by cases h))⟩ Zw Zb
 rintro σ fz' H' ⟨rfl,rfl,rfl,hzo⟩;refine zV ?_;refine Yav n5 (fun k=>[(93,Zk k),(92,Zk n5),(91,Zc A5 n5 b5),(0,Zp gc),(1,.func (.func f) first.toArray capt.toArray)]) [] (fun k=>(∀ i,i<k->∀ x,d.actions[i]?=some x->E x.params=0)) (fun i hi=>absurd hi Zi) ?_;intro k hk hh;refine zV ?_;refine zC ?_ ?_<;>intro c1
 ·obtain ⟨x,hx⟩:=Ye (l:=d.actions) (k:=k) Zi;have hxs:=hs.a x (Zm hx);refine zV ?_;refine zI i5 hx (fun p1 hp=>?_);refine zL hp ?_;intro cs hcs;obtain ⟨w1,w2,w3,w4,w5,w6,rfl,hR⟩:=Xh hcs;obtain ⟨Ap,np,cp,rfl,ip⟩:=hR.params;obtain ⟨⟨B0,e0,j0,rfl,_⟩,⟨B1,e1,j1,rfl,_⟩,⟨B2,e2,j2,rfl,_⟩,⟨B3,e3,j3,rfl,_⟩⟩:=hR.pre.sls;obtain ⟨B4,e4,j4,rfl,_⟩:=hR.changes;refine zV ?_;intros;refine zG ?_;refine Ybu (hE Zd ip) ?_;by_cases hz:E x.params=0
  ·rw [hz,show errV 0=.nilIface from rfl];refine zV ?_;exact Wj ⟨k+1,by omega,rfl,rfl,rfl,rfl,YL hh hx hz⟩ Zi Zw Zb
  rw [Yg hz];refine zV ?_;refine zG ?_;refine Wa Zz Zz (by show _+_<=_;exact Nat.le_trans (Nat.add_le_add_left hxs _) Zh) ?_;refine zV ?_;exact ret2 rfl rfl rfl Zb (by rw [Yby,Xb (l:=d.predicates) (E:=E) (f:=fun x=>Wr++x.name) (g:=fun x=>x.params) hzp,Xb (l:=d.functions) (E:=E) (f:=fun x=>XG++x.name) (g:=fun x=>x.params) hzf,hzo,W0 (l:=d.actions) (E:=E) (f:=fun x=>Yac++x.name) (g:=fun x=>x.params) hx hh hz];rw [resV,Yg hz];rfl)
 have hza:=fun x (hx:x∈d.actions)=>(by obtain ⟨i,hi⟩:=List.getElem?_of_mem hx;exact Xu hh Zi x hx:E x.params=0)
 refine zV ?_;refine Yav n6 (fun k=>[(114,Zk k),(113,Zk n6),(112,Zc A6 n6 b6),(1,.func (.func f) first.toArray capt.toArray)]) [] (fun k=>(∀ i,i<k->∀ x,d.duratives[i]?=some x->E x.params=0)) (fun i hi=>absurd hi Zi) ?_;intro k hk hh;refine zV ?_;refine zC ?_ ?_<;>intro c1
 ·obtain ⟨x,hx⟩:=Ye (l:=d.duratives) (k:=k) Zi;have hxs:=hs.u x (Zm hx);refine zV ?_;refine zI i6 hx (fun p1 hp=>?_);refine zL hp ?_;intro cs hcs;obtain ⟨w0,w1,w2,w3,w4,w5,w6,w7,w8,w9,w10,w11,w12,w13,w14,rfl,hR⟩:=YZ hcs;obtain ⟨Ap,np,cp,rfl,ip⟩:=hR.params;obtain ⟨⟨B0,e0,j0,rfl,_⟩,⟨B1,e1,j1,rfl,_⟩,⟨B2,e2,j2,rfl,_⟩,⟨B3,e3,j3,rfl,_⟩⟩:=hR.start.sls;obtain ⟨⟨B4,e4,j4,rfl,_⟩,⟨B5,e5,j5,rfl,_⟩,⟨B6,e6,j6,rfl,_⟩,⟨B7,e7,j7,rfl,_⟩⟩:=hR.over.sls;obtain ⟨⟨B8,e8,j8,rfl,_⟩,⟨B9,e9,j9,rfl,_⟩,⟨B10,e10,j10,rfl,_⟩,⟨B11,e11,j11,rfl,_⟩⟩:=hR.fin.sls;obtain ⟨B12,e12,j12,rfl,_⟩:=hR.atStart;obtain ⟨B13,e13,j13,rfl,_⟩:=hR.atEnd;refine zV ?_;intros;refine zG ?_;refine Ybu (hE Zd ip) ?_;by_cases hz:E x.params=0
  ·rw [hz,show errV 0=.nilIface from rfl];refine zV ?_;exact Wj ⟨k+1,by omega,rfl,rfl,rfl,rfl,YL hh hx hz⟩ Zi Zw Zb
  rw [Yg hz];refine zV ?_;refine zG ?_;refine Wa Zz Zz (by show _+_<=_;exact Nat.le_trans (Nat.add_le_add_left hxs _) Zh) ?_;refine zV ?_;exact ret2 rfl rfl rfl Zb (by rw [Yby,Xb (l:=d.predicates) (E:=E) (f:=fun x=>Wr++x.name) (g:=fun x=>x.params) hzp,Xb (l:=d.functions) (E:=E) (f:=fun x=>XG++x.name) (g:=fun x=>x.params) hzf,hzo,Xb (l:=d.actions) (E:=E) (f:=fun x=>Yac++x.name) (g:=fun x=>x.params) hza,W0 (l:=d.duratives) (E:=E) (f:=fun x=>XH++x.name) (g:=fun x=>x.params) hx hh hz];rw [resV,Yg hz];rfl)
 have hzu:=fun x (hx:x∈d.duratives)=>(by obtain ⟨i,hi⟩:=List.getElem?_of_mem hx;exact Xu hh Zi x hx:E x.params=0)
 refine zV ?_;exact ret2 rfl rfl rfl Zb (by rw [Yby,Xb (l:=d.predicates) (E:=E) (f:=fun x=>Wr++x.name) (g:=fun x=>x.params) hzp,Xb (l:=d.functions) (E:=E) (f:=fun x=>XG++x.name) (g:=fun x=>x.params) hzf,hzo,Xb (l:=d.actions) (E:=E) (f:=fun x=>Yac++x.name) (g:=fun x=>x.params) hza,Xb (l:=d.duratives) (E:=E) (f:=fun x=>XH++x.name) (g:=fun x=>x.params) hzu];rfl)
end Go.Proofs.YtiligkgjcmokbaaGreatDoor
namespace Go.Lx
variable {α:Type} {A:Option Addr} {c n:Nat} {fz:FZ} {L:Lay α} {l:List α}
theorem Sl.reps (h:Sl L fz A n c l) {x:α} (hx:x∈l):∃ cs,L.rep fz x cs:=by
 obtain ⟨i,hi⟩:=List.getElem?_of_mem hx;have h1:=(Zg hi).1;have h2:=h.len;rcases h.elem with h0 | ⟨ad,_,h3⟩
 ·omega
 obtain ⟨cs,h4,_⟩:=h3 i x hi;exact ⟨cs,h4⟩
end Go.Lx
namespace Go.Proofs.YtiligkgjcmokbaaGreatDoor
variable {A B:Option Addr} {c n:Nat} {fz fz':FZ} {s:Bs} {d:Domain} {v vp va vk:Value} {vars:List Param}
theorem YdC {l:List Param} (h:Sl paramL fz A n c l):∀ p∈l,Short p.name/\Short p.typ:=fun p hp=>by
 obtain ⟨cs,hr⟩:=h.reps hp;obtain ⟨_,hR⟩:=YJ hr;exact ⟨hR.name,hR.typ⟩
def kQm:Bs:=⟨#[63]⟩
theorem Ykf {p:Bs} (hs:Short s) (hp:Short p):QFn prog 272 [Zy s,Zy p] fz (Zo (decide (PreP s p))):=by
 refine qF Tryz.func272 Tryz.ntmps272 (fun w0=>?_);refine vc (Yer hs hp) ?_;exact vR (h:=rfl)
def YhV:List Param->Bs->Option Bs
 | [],_=>none
 | p::r,t=>match YhV r t with
  | some u=>some u
  | none=>if p.name=t then some p.typ else none
theorem YfD:∀ {l:List Param} {t:Bs},(∀ p∈l,p.name≠t)->YhV l t=none
 | [],_,_=>rfl
 | p::r,t,h=>by rw [YhV,YfD (fun q hq=>h q (by simp [hq]))];exact if_neg (h p (by simp))
theorem Yng:∀ {l:List Param} {j:Nat} {x:Param} {t:Bs},l[j]?=some x->x.name=t->(∀ i,j<i->∀ y,l[i]?=some y->y.name≠t)->YhV l t=some x.typ
 | [],j,x,t,h,_,_=>by simp at h
 | p::r,0,x,t,h,hx,hh=>by
  simp at h;subst h;rw [YhV,YfD (fun q hq=>by obtain ⟨i,hi⟩:=List.getElem?_of_mem hq;exact hh (i+1) Zi q (by simpa using hi))];exact if_pos hx
 | p::r,j+1,x,t,h,hx,hh=>by
  rw [YhV,Yng (l:=r) (j:=j) (by simpa using h) hx (fun i hi y hy=>hh (i+1) Zi y (by simpa using hy))]
theorem YkJ:∀ {l:List Param} {t u:Bs},YhV l t=some u->∃ p∈l,p.typ=u
 | [],_,_,h=>by cases h
 | p::r,t,u,h=>by
  rw [YhV] at h;cases hr:YhV r t with
  | some w=>
   rw [hr] at h;injection h with h
   subst h;obtain ⟨q,hq,e⟩:=YkJ hr;exact ⟨q,by simp [hq],e⟩
  | none=>
   rw [hr] at h;split at h
   ·rename_i h0;cases h0
   split at h
   ·injection h with h;exact ⟨p,by simp,h⟩
   cases h
theorem YoI:∀ {l:List Param} {t u:Bs},tyF l t=some u->∃ p∈l,p.typ=u
 | [],_,_,h=>by cases h
 | p::r,t,u,h=>by
  rw [tyF] at h;split at h
  ·injection h with h;exact ⟨p,by simp,h⟩
  obtain ⟨q,hq,e⟩:=YoI h;exact ⟨q,by simp [hq],e⟩
def Ydn (all vars:List Param) (t:Bs):Option Bs:=if PreP t kQm then YhV vars t else tyF all t
def ObjR (fz:FZ) (vo:Value) (all:List Param):Prop:=∃ g m,vo=.map (some g)/\fz g=some (mapS m)/\∀ x,valS m x=(tyF all x).map Value.string
theorem ObjR.mono {vo:Value} {all:List Param} (h:ObjR fz vo all) (hle:Le fz fz'):ObjR fz' vo all:=by
 obtain ⟨g,m,h1,h2,h3⟩:=h;exact ⟨g,m,h1,hle _ _ h2,h3⟩
def Yqb (o:Option Bs):Value:=.tuple #[Zy (o.getD ⟨#[]⟩),errV (if o.isSome=true then 0 else 8)]
theorem find_q {p:Problem} {all:List Param} {vf vg vo:Value} {t:Bs} (h:CkR fz v d p all vf vp vg vo) (ho:ObjR fz vo all) (h1:Sl paramL fz A n c vars) (ht:Short t):
 QFn prog 224 [v,Zc A n c,Zy t] fz (Yqb (Ydn all vars t)):=by
 obtain ⟨gc,v1,v2,v3,v4,v5,v6,u1,u2,u3,u4,u5,u6,u7,Aa,na,ca,rfl,hc,hD,hP,hall⟩:=h;obtain ⟨go,mo,rfl,hgo,hmo⟩:=ho;have l1:=h1.len;have s1:=h1.short;refine qF Tryz.func224 Tryz.ntmps224 (fun w0=>?_);refine vG ?_;refine WJ (Ykf (p:=kQm) ht (by unfold Short kQm;decide)) (fun f1=>?_) (fun f1=>?_)
 ·have hp:=Zt f1;refine zV ?_;refine Yi (fun q σ fz' H'=>∃ (k:Nat) (z:Int),k<=n/\q=n - k/\z=(n:Int) - 1 - k/\σ=[(10,Zk z),(1,Zc A n c),(2,Zy t)]/\fz=fz'/\H'=[]/\(∀ i,n - 1 - k<i->i<n->∀ x,vars[i]?=some x->x.name≠t)/\(k=n->∀ x∈vars,x.name≠t)) ⟨0,(n:Int) - 1,Z0 _,rfl,by omega,rfl,rfl,rfl,fun i hi h2=>absurd hi Zi,fun h0 x hx=>by rw [List.eq_nil_of_length_eq_zero (l:=vars) Zi] at hx;cases hx⟩ Zw Zb ?_;rintro q σ fz' H' ⟨k,z,hk,rfl,hzk,rfl,rfl,rfl,hh,hz⟩;refine vC ?_ ?_<;>intro c1
  ·obtain ⟨x,hx⟩:=Ye (l:=vars) (k:=n - 1 - k) Zi;refine vI h1 hx (fun p1 hp1=>?_);refine vH hp1.Param_name (fun hn1=>?_);refine vC ?_ ?_<;>intro c2
   ·have e1:Ydn all vars t=some x.typ:=by
     rw [Ydn,if_pos hp];exact Yng hx c2 (fun i hi y hy=>hh i hi (by have:=(Zg hy).1;omega) y hy)
    refine vI h1 hx (fun p2 hp2=>?_);refine vH hp2.Param_typ (fun hn2=>?_);exact vS (h:=by rw [e1];rfl)
   refine zV ?_;exact Wj ⟨k+1,z - 1,by omega,rfl,by omega,rfl,rfl,rfl,fun i hi h2 y hy=>by
    by_cases he:i=n - 1 - k
    ·subst he;rw [hx] at hy;injection hy with hy;subst hy;exact c2
    ·exact hh i Zi h2 y hy,fun h0 y hy=>by
    obtain ⟨i,hi⟩:=List.getElem?_of_mem hy;have hin:=(Zg hi).1;by_cases he:i=n - 1 - k
    ·subst he;rw [hx] at hi;injection hi with hi;subst hi;exact c2
    exact hh i Zi Zi y hi⟩ Zi Zw Zb
  have e1:Ydn all vars t=none:=by
   rw [Ydn,if_pos hp];exact YfD (hz Zi)
  exact vS (h:=by rw [e1];rfl)
 have hp:=Zf f1;have e0:Ydn all vars t=tyF all t:=if_neg hp;refine vG ?_;refine WX (v:=Zy ((tyF all t).getD ⟨#[]⟩)) (b:=(tyF all t).isSome) hgo ?_ (hv:=by rw [Ymb,hmo];cases tyF all t<;>rfl) (hb:=by rw [Yg7,hmo];cases tyF all t<;>rfl);cases hr:tyF all t with
 | some u=>
  exact vS (h:=by exact (by rw [e0,hr];rfl))
 | none=>
  exact vS (h:=by exact (by rw [e0,hr];rfl))
def fstP (l:List Predicate) (x:Bs):Option Predicate:=l.find? fun p=>decide (p.name=x)
def fstF (l:List Function) (x:Bs):Option Function:=l.find? fun p=>decide (p.name=x)
def PrdR (fz:FZ) (vp:Value) (l:List Predicate):Prop:=∃ g m,vp=.map (some g)/\fz g=some (mapS m)/\∀ x,(fstP l x=none->valS m x=none)/\∀ p,fstP l x=some p->∃ A n c,valS m x=some (Zc A n c)/\Sl paramL fz A n c p.params
def FunR (fz:FZ) (vg:Value) (l:List Function):Prop:=∃ g m,vg=.map (some g)/\fz g=some (mapS m)/\∀ x,(fstF l x=none->valS m x=none)/\∀ f,fstF l x=some f->∃ A n c,valS m x=some (.agg #[Zy f.name,Zc A n c,Zk f.lo,Zk f.hi])/\Sl paramL fz A n c f.params
theorem PrdR.mono {l:List Predicate} (h:PrdR fz v l) (hle:Le fz fz'):PrdR fz' v l:=by
 obtain ⟨g,m,h1,h2,h3⟩:=h;exact ⟨g,m,h1,hle _ _ h2,fun x=>⟨(h3 x).1,fun p hp=>by obtain ⟨A,n,c,h4,h5⟩:=(h3 x).2 p hp;exact ⟨A,n,c,h4,h5.mono hle⟩⟩⟩
theorem FunR.mono {l:List Function} (h:FunR fz v l) (hle:Le fz fz'):FunR fz' v l:=by
 obtain ⟨g,m,h1,h2,h3⟩:=h;exact ⟨g,m,h1,hle _ _ h2,fun x=>⟨(h3 x).1,fun p hp=>by obtain ⟨A,n,c,h4,h5⟩:=(h3 x).2 p hp;exact ⟨A,n,c,h4,h5.mono hle⟩⟩⟩
structure CkG (fz:FZ) (v:Value) (d:Domain) (p:Problem) (all:List Param):Prop where
 ex:∃ vf vp vg vo,CkR fz v d p all vf vp vg vo/\ForR fz vf d.types/\PrdR fz vp d.predicates/\FunR fz vg d.functions/\ObjR fz vo all
 wf:WFT d.types
theorem CkG.mono {p:Problem} {all:List Param} (h:CkG fz v d p all) (hle:Le fz fz'):CkG fz' v d p all:=by
 obtain ⟨⟨vf,vp,vg,vo,h1,h2,h3,h4,h5⟩,hw⟩:=h;exact ⟨⟨vf,vp,vg,vo,h1.mono hle,h2.mono hle,h3.mono hle,h4.mono hle,h5.mono hle⟩,hw⟩
def Ya9 (d:Domain) (all vars:List Param) (z:Bs × Param):Int:=match Ydn all vars z.1 with
 | none=>8
 | some t=>if IsT d.types t z.2.typ then 0 else 9
def YjM (d:Domain) (all vars:List Param) (args:List Bs) (ps:List Param):Int:=
 if args.length≠ps.length then 11 else (Xn (Ya9 d all vars) ((args.zip ps).map (fun z=>((⟨#[]⟩:Bs),z))++ [])).2
theorem YhF {p:Problem} {all ps:List Param} {args:List Bs} {C:Option Addr} {n2 c2 n3 c3:Nat} (h:CkG fz v d p all) (h1:Sl paramL fz A n c vars) (h2:Sl strL fz B n2 c2 args) (h3:Sl paramL fz C n3 c3 ps):
 QFn prog 228 [v,Zc A n c,Zc B n2 c2,Zc C n3 c3] fz (errV (YjM d all vars args ps)):=by
 obtain ⟨⟨vf,vp,vg,vo,hck,hF,hPr,hFu,hO⟩,hw⟩:=h;have hck0:=hck;obtain ⟨gc,v1,v2,v3,v4,v5,v6,u1,u2,u3,u4,u5,u6,u7,Aa,na,ca,rfl,hc,hD,hP,hall⟩:=hck;have hF0:=hF;obtain ⟨gf,gm,rfl,hf1,hf2⟩:=hF;have l2:=h2.len;have l3:=h3.len;have s2:=h2.short;have s3:=h3.short;refine qF Tryz.func228 Tryz.ntmps228 (fun w0=>?_);refine vC ?_ ?_<;>intro e0
 ·exact vR (h:=by rw [YjM,if_pos Zi];rfl)
 have e1:YjM d all vars args ps=(Xn (Ya9 d all vars) ((args.zip ps).map (fun z=>((⟨#[]⟩:Bs),z))++ [])).2:=if_neg Zi;refine zV ?_;refine Yav n2 (fun k=>[(21,Zk k),(20,Zk n2),(19,Zc B n2 c2),(0,Zp gc),(1,Zc A n c),(3,Zc C n3 c3)]) [] (fun k=>(∀ i,i<k->∀ z,(args.zip ps)[i]?=some z->Ya9 d all vars z=0)) (fun i hi=>absurd hi Zi) ?_;intro k hk hh;refine vC ?_ ?_<;>intro c1
 ·obtain ⟨x,hx⟩:=Ye (l:=args) (k:=k) Zi;obtain ⟨y,hy⟩:=Ye (l:=ps) (k:=k) Zi;have hz:(args.zip ps)[k]?=some (x,y):=by rw [List.getElem?_zip_eq_some];exact ⟨hx,hy⟩
  refine vI h2 hx (fun p1 hp1=>?_);refine zH hp1 (fun hxs=>?_);refine vc (find_q hck0 hO h1 hxs) ?_;cases hr:Ydn all vars x with
  | none=>
   have e2:Ya9 d all vars (x,y)=8:=by rw [Ya9,hr]
   rw [show Yqb none=.tuple #[Ze,.iface 89 (Zk 8)] from rfl];exact vR (h:=by rw [e1,W0 (f:=fun _=>(⟨#[]⟩:Bs)) (g:=fun z=>z) hz hh (by rw [e2];decide),e2];rfl)
  | some t=>
   have ht:Short t:=by
    rw [Ydn] at hr;split at hr
    ·obtain ⟨q,hq,rfl⟩:=YkJ hr;exact (YdC h1 q hq).2
    obtain ⟨q,hq,rfl⟩:=YoI hr;exact (YdC hall q hq).2
   rw [show Yqb (some t)=.tuple #[Zy t,.nilIface] from rfl];refine vI h3 hy (fun p2 hp2=>?_);refine vH hp2.Param_typ (fun hts=>?_);refine vb (is_q hF0 hw ht) (fun f1=>?_) (fun f1=>?_)
   ·have e2:Ya9 d all vars (x,y)=0:=by rw [Ya9,hr];exact if_pos (Zt f1)
    exact vM (h:=by exact YL hh hz e2)
   have e2:Ya9 d all vars (x,y)=9:=by rw [Ya9,hr];exact if_neg (Zf f1)
   exact vR (h:=by rw [e1,W0 (f:=fun _=>(⟨#[]⟩:Bs)) (g:=fun z=>z) hz hh (by rw [e2];decide),e2];rfl)
 have hA:∀ z∈args.zip ps,Ya9 d all vars z=0:=fun z hz=>by
  obtain ⟨i,hi⟩:=List.getElem?_of_mem hz;have:=(Zg hi).1;rw [List.length_zip] at this;exact hh i Zi z hi
 exact vR (h:=by rw [e1,Xb (f:=fun _=>(⟨#[]⟩:Bs)) (g:=fun z=>z) hA];rfl)
def atomM (d:Domain) (all vars:List Param) (name:Bs) (args:List Bs):Int:=match fstP d.predicates name with
 | none=>8
 | some p=>YjM d all vars args p.params
def fluM (d:Domain) (all vars:List Param) (name:Bs) (args:List Bs):Int:=match fstF d.functions name with
 | none=>8
 | some f=>YjM d all vars args f.params
theorem Ymr {p:Problem} {all:List Param} {name:Bs} {args:List Bs} {n2 c2:Nat} (h:CkG fz v d p all) (h1:Sl paramL fz A n c vars) (h2:Sl strL fz B n2 c2 args):
 QFn prog 168 [v,Zc A n c,Zy name,Zc B n2 c2] fz (errV (atomM d all vars name args)):=by
 have h0:=h;obtain ⟨⟨vf,vp,vg,vo,hck,hF,hPr,hFu,hO⟩,hw⟩:=h;obtain ⟨gc,v1,v2,v3,v4,v5,v6,u1,u2,u3,u4,u5,u6,u7,Aa,na,ca,rfl,hc,hD,hP,hall⟩:=hck;obtain ⟨gp,mp,rfl,hgp,hmp⟩:=hPr;refine qF Tryz.func168 Tryz.ntmps168 (fun w0=>?_);refine zV ?_;cases hr:fstP d.predicates name with
 | none=>
  have hv:=(hmp name).1 hr;refine zG ?_;refine WX (v:=Zn) (b:=false) hgp ?_ (hv:=by rw [Ymb,hv];rfl) (hb:=by rw [Yg7,hv];rfl);exact vR (h:=by rw [atomM,hr];rfl)
 | some x=>
  obtain ⟨C,n3,c3,hv,h3⟩:=(hmp name).2 x hr;refine zG ?_;refine WX (v:=Zc C n3 c3) (b:=true) hgp ?_ (hv:=by rw [Ymb,hv];rfl) (hb:=by rw [Yg7,hv];rfl);refine vc (YhF h0 h1 h2 h3) ?_;exact vR (h:=by rw [atomM,hr])
theorem YhC {p:Problem} {all:List Param} {name:Bs} {args:List Bs} {n2 c2:Nat} (h:CkG fz v d p all) (h1:Sl paramL fz A n c vars) (h2:Sl strL fz B n2 c2 args):
 QFn prog 169 [v,Zc A n c,Zy name,Zc B n2 c2] fz (errV (fluM d all vars name args)):=by
 have h0:=h;obtain ⟨⟨vf,vp,vg,vo,hck,hF,hPr,hFu,hO⟩,hw⟩:=h;obtain ⟨gc,v1,v2,v3,v4,v5,v6,u1,u2,u3,u4,u5,u6,u7,Aa,na,ca,rfl,hc,hD,hP,hall⟩:=hck;obtain ⟨gp,mp,rfl,hgp,hmp⟩:=hFu;refine qF Tryz.func169 Tryz.ntmps169 (fun w0=>?_);refine zV ?_;cases hr:fstF d.functions name with
 | none=>
  have hv:=(hmp name).1 hr;refine zG ?_;refine WX (v:=.agg #[Ze,Zn,Zk 0,Zk 0]) (b:=false) hgp ?_ (hv:=by rw [Ymb,hv];rfl) (hb:=by rw [Yg7,hv];rfl);refine zV ?_;intros;exact zR (h:=by rw [fluM,hr];rfl)
 | some x=>
  obtain ⟨C,n3,c3,hv,h3⟩:=(hmp name).2 x hr;refine zG ?_;refine WX (v:=.agg #[Zy x.name,Zc C n3 c3,Zk x.lo,Zk x.hi]) (b:=true) hgp ?_ (hv:=by rw [Ymb,hv];rfl) (hb:=by rw [Yg7,hv];rfl);refine zV ?_;intros;refine zc (YhF h0 h1 h2 h3) ?_;exact vR (h:=by rw [fluM,hr])
mutual
def exprM (d:Domain) (all vars:List Param):Lx.Expr->Int
 | .mk op name _ args kids=>if op=kFluent then fluM d all vars name args else exprML d all vars kids
def exprML (d:Domain) (all vars:List Param):List Lx.Expr->Int
 | []=>0
 | k::r=>if exprM d all vars k=0 then exprML d all vars r else exprM d all vars k
end
theorem Ynv {all:List Param} (e:Lx.Expr):exprM d all vars e=if e.op=kFluent then fluM d all vars e.name e.args else exprML d all vars e.kids:=by cases e;rw [exprM];rfl
theorem Yhm {d:Domain} {all vars:List Param}:∀ {l:List Lx.Expr} {k:Nat} {x:Lx.Expr},l[k]?=some x->(∀ i,i<k->∀ y,l[i]?=some y->exprM d all vars y=0)->exprM d all vars x≠0->exprML d all vars l=exprM d all vars x
 | [],k,x,h,_,_=>by simp at h
 | y::l,0,x,h,_,hx=>by simp at h;subst h;rw [exprML,if_neg hx]
 | y::l,k+1,x,h,hh,hx=>by
  rw [exprML,if_pos (hh 0 Zi y rfl)];exact Yhm (k:=k) (by simpa using h) (fun i hi z hz=>hh (i+1) Zi z (by simpa using hz)) hx
theorem Yeu {d:Domain} {all vars:List Param}:∀ {l:List Lx.Expr},(∀ y∈l,exprM d all vars y=0)->exprML d all vars l=0
 | [],_=>by rw [exprML]
 | y::l,h=>by rw [exprML,if_pos (h y (by simp))];exact Yeu (fun z hz=>h z (by simp [hz]))
theorem YqK:∀ (s:Nat) {fz:FZ} {v:Value} {d:Domain} {p:Problem} {all vars:List Param} {e:Lx.Expr} {va vk:Value} {A:Option Addr} {n c:Nat},SizeOf.sizeOf e<=s->CkG fz v d p all->Sl paramL fz A n c vars->ExprR fz e va vk->
 QFn prog 225 [v,Zc A n c,.agg #[Zy e.op,Zy e.name,Zk e.n,va,vk]] fz (errV (exprM d all vars e))
 | 0,_,_,_,_,_,_,e,_,_,_,_,_,hse,_,_,_=>by cases e;simp at hse
 | s+1,fz,v,d,p,all,vars,e,va,vk,A,n,c,hse,h,h1,hR=>by
  have h0:=h;obtain ⟨⟨vf,vp,vg,vo,hck,hF,hPr,hFu,hO⟩,hw⟩:=h;obtain ⟨gc,v1,v2,v3,v4,v5,v6,u1,u2,u3,u4,u5,u6,u7,Aa,na,ca,rfl,hc,hD,hP,hall⟩:=hck;obtain ⟨⟨B,n2,c2,rfl,ia⟩,⟨C,n3,c3,rfl,ik⟩⟩:=hR.sls;have l3:=ik.len;have s3:=ik.short;refine qF Tryz.func225 Tryz.ntmps225 (fun w0=>?_);refine pX (fun g0=>?_);refine vC ?_ ?_<;>intro x1
  ·refine vc (YhC h0 h1 ia) ?_;exact vR (h:=by rw [Ynv,if_pos (show e.op=kFluent from x1)])
  have e1:exprM d all vars e=exprML d all vars e.kids:=by rw [Ynv,if_neg (show ¬e.op=kFluent from x1)]
  refine zV ?_;refine Yav n3 (fun k=>[(23,Zk k),(22,Zk n3),(21,Zc C n3 c3),(0,Zp gc),(1,Zc A n c)]) [] (fun k=>(∀ i,i<k->∀ y,e.kids[i]?=some y->exprM d all vars y=0)) (fun i hi=>absurd hi Zi) ?_;intro k hk hh;refine vC ?_ ?_<;>intro c1
  ·obtain ⟨x,hx⟩:=Ye (l:=e.kids) (k:=k) Zi;have hlt:=Lx.Expr.kids_lt (Zm hx);refine vI ik hx (fun p1 hp1=>?_);refine zL hp1 ?_;intro cs hcs;obtain ⟨wa,wk,rfl,hRx⟩:=YD hcs;obtain ⟨⟨B1,m1,d1,rfl,_⟩,⟨B2,m2,d2,rfl,_⟩⟩:=hRx.sls;refine zV ?_;intros
   ((refine zG ?_);refine YF (YqK s Zi h0 h1 hRx) ?_);by_cases hz:exprM d all vars x=0
   ·rw [hz,show errV 0=.nilIface from rfl];exact vM (h:=by exact YL hh hx hz)
   rw [Yg hz];exact vR (h:=by rw [e1,Yhm hx hh hz,Yg hz])
  have hA:=Xu hh Zi;exact vR (h:=by rw [e1,Yeu hA];rfl)
theorem YqJ {p:Problem} {all:List Param} {e:Lx.Expr} (h:CkG fz v d p all) (h1:Sl paramL fz A n c vars) (hR:ExprR fz e va vk):
 QFn prog 225 [v,Zc A n c,.agg #[Zy e.op,Zy e.name,Zk e.n,va,vk]] fz (errV (exprM d all vars e)):=YqK _ (Zs _) h h1 hR
theorem Ybb {l:List Param} (h:Sl paramL fz A n c l) (hn:n<=1000000000):
 GFn prog 54 [Zc A n c] fz [] (fun v fz' H'=>Grow paramL 123 fz' v n H' l):=by
 have l1:=h.len;refine zF Tryz.func54 Tryz.ntmps54 (fun w0=>?_);refine vG ?_;refine WI (fun eA=>?_) (fun eA=>?_)
 ·subst eA;have hl:l=[]:=by
   rcases h.elem with h0 | ⟨_,h0,_⟩
   ·exact List.eq_nil_of_length_eq_zero Zi
   cases h0
  subst hl;simp at l1;subst l1;refine zV ?_;refine Yel (H':=[]) (H2:=[]) rfl rfl (Zr _) (fun fz3 hle3 _=>Grow.nil _ _ _)
 refine zV ?_;refine Ya (W7 (fun gb=>?_));refine zV ?_;refine Ya (WZ T (Hr:=[]) (n:=0) (l:=[]) Zz Zz Zz Zz Zz Zz Zz Zz (Zr _) (Grow.block (ys:=[]) rfl rfl (by intro p hp;cases hp) rfl) WY h (by show _*32<=_;omega) Zi (fun v' Hs' hO'=>?_));obtain ⟨Av',cv',rfl,_,_⟩:=hO'.form;refine zV ?_;refine Yel (H':=Hs') (H2:=[]) rfl rfl (by simp) (fun fz3 hle3 _=>(hO'.mono hle3).of (by simp) Zi)
end Go.Proofs.YtiligkgjcmokbaaGreatDoor
namespace Go.Lx
mutual
def eW:Expr->Nat
 | .mk _ _ _ args kids=>1+args.length+eWL kids
def eWL:List Expr->Nat
 | []=>0
 | k::r=>eW k+eWL r
end
mutual
def fW:Formula->Nat
 | .mk _ _ args params exprs kids=>1+args.length+params.length+eWL exprs+fWL kids
def fWL:List Formula->Nat
 | []=>0
 | k::r=>fW k+fWL r
end
theorem Yqs (l:List Expr):eWL l=(l.map eW).sum:=by
 induction l with
 | nil=>rfl
 | cons a r ih=>simp [eWL,ih]
theorem fWL_sum (l:List Formula):fWL l=(l.map fW).sum:=by
 induction l with
 | nil=>rfl
 | cons a r ih=>simp [fWL,ih]
def parW (_:Param):Nat:=1
def strW (_:Bs):Nat:=1
def Ye8 (a:Atom):Nat:=1+a.args.length
def Yed (v:Value_):Nat:=1+Ye8 v.fluent
def Xx (c:Change):Nat:=1+c.params.length+fW c.when_+c.args.length+eW c.value
def YhR (p:Predicate):Nat:=1+p.params.length
def funW (p:Function):Nat:=1+p.params.length
def actW (a:Action):Nat:=1+a.params.length+fW a.pre+(a.changes.map Xx).sum
def durW (a:Durative):Nat:=1+a.params.length+fW a.start+fW a.over+fW a.fin+(a.atStart.map Xx).sum+(a.atEnd.map Xx).sum
def domW (d:Domain):Nat:=1+d.types.length+d.constants.length+(d.predicates.map YhR).sum+(d.functions.map funW).sum+(d.actions.map actW).sum+(d.duratives.map durW).sum
def prbW (p:Problem):Nat:=1+p.objects.length+(p.init.map Ye8).sum+(p.values.map Yed).sum+fW p.goal
theorem Yqr (e:Expr):eW e=1+e.args.length+(e.kids.map eW).sum:=by cases e;rw [eW,Yqs];rfl
theorem Yl9 (f:Formula):fW f=1+f.args.length+f.params.length+(f.exprs.map eW).sum+(f.kids.map fW).sum:=by cases f;rw [fW,Yqs,fWL_sum];rfl
theorem YaI (l:List Param):(l.map parW).sum=l.length:=by
 induction l with
 | nil=>rfl
 | cons a r ih=>simp [parW] at ih ⊢;omega
theorem YaH (l:List Bs):(l.map strW).sum=l.length:=by
 induction l with
 | nil=>rfl
 | cons a r ih=>simp [strW] at ih ⊢;omega
theorem Wh {α:Type} {w:α->Nat}:∀ {l:List α} {x:α},x∈l->w x<=(l.map w).sum
 | [],_,h=>by cases h
 | a::r,x,h=>by
  simp only [List.map_cons,List.sum_cons];rcases List.mem_cons.1 h with rfl | h
  ·omega
  have:=Wh (w:=w) h;omega
theorem WG {α:Type} {w:α->Nat} (h:∀ x,1<=w x):∀ (l:List α),l.length<=(l.map w).sum
 | []=>by simp
 | a::r=>by
  have h1:=h a;have h2:=WG h r;simp only [List.length_cons,List.map_cons,List.sum_cons];omega
theorem YiK {α:Type} {w:α->Nat} {n:α->Nat} {k:Nat} (h:∀ x,n x<=k*w x):∀ (l:List α),(l.map n).sum<=k*(l.map w).sum
 | []=>by simp
 | a::r=>by
  have h1:=h a;have h2:=YiK h r;simp only [List.map_cons,List.sum_cons,Nat.mul_add];omega
theorem eW_pos (e:Expr):1<=eW e:=by rw [Yqr];omega
theorem fW_pos (f:Formula):1<=fW f:=by rw [Yl9];omega
theorem Ymp (c:Change):1<=Xx c:=by unfold Xx;omega
theorem Yks (c:Predicate):1<=YhR c:=by unfold YhR;omega
theorem Ynn (c:Function):1<=funW c:=by unfold funW;omega
theorem actW_pos (c:Action):1<=actW c:=by unfold actW;omega
theorem durW_pos (c:Durative):1<=durW c:=by unfold durW;omega
theorem Ylj (c:Atom):1<=Ye8 c:=by unfold Ye8;omega
theorem Yh7 (c:Value_):1<=Yed c:=by unfold Yed;omega
end Go.Lx
