/- The texts UD, UE, UF, Mk, QQ, SMap, SRange, PCA, PCB, PCC, PCU, laid together. Conditions: none. -/
import Derived.Test.YtbdpaoikccabhaaGreatDoorEAG
set_option linter.all false
set_option maxHeartbeats 8000000
noncomputable section
set_option maxRecDepth 20000
open Go.Lx Go.RowKit
attribute [local instance 10] Classical.propDecidable
open Go.Proofs.Tryz (prog)
namespace Go.Proofs.YtbdpaoikccabhaaGreatDoor
variable {α:Type} {a:Atom} {fz fz':FZ} {va vb v ve vk vp:Value} {b:Bool} {H:HP} {t t':TypeId} {x y:Operand} {f:Formula} {l:List α}
theorem atom_eta {b:Atom} (h1:a.name=b.name) (h2:a.args=b.args):a=b:=by
 cases a;cases b;simp only at h1 h2;rw [h1,h2]
theorem Ybc {b:Atom} (ha:AtomR fz a va) (hb:AtomR fz b vb):
 QFn prog 39 [.agg #[Zy a.name,va],.agg #[Zy b.name,vb]] fz (Zo (decide (a=b))):=by
 obtain ⟨A,n,c,rfl,ia⟩:=ha.args;obtain ⟨B,m,d,rfl,ib⟩:=hb.args;refine qF Tryz.func39 Tryz.ntmps39 (fun w0=>?_);refine pX (fun g0=>?_);refine pY (fun g1=>?_);refine wC ?_ ?_<;>intro e1
 ·refine wb (Yi9 ia ib) (fun f1=>?_) (fun f1=>?_)
  ·exact wR (h:=by exact Ys (atom_eta e1 (Zt f1)))
  exact wR (h:=by exact Yj (fun h=>Zf f1 (by rw [h])))
 exact wR (h:=by exact Yj (fun h=>e1 (by rw [h])))
def optV (o:Option Int):Value:=.tuple #[Zk (o.getD 0),Zo o.isSome]
def smallM (o:Option Int):Option Int:=match o with
 | none=>none
 | some n=>if n>1099511627776\/n< -1099511627776 then none else some n
theorem YcR {o:Option Int} {n:Int} (h:smallM o=some n): -1099511627776<=n/\n<=1099511627776:=by
 unfold smallM at h;split at h
 ·cases h
 split at h
 ·cases h
 injection h with h;omega
theorem YdH {o:Option Int} {n:Int} (h1:o.getD 0=n) (h2:o.isSome=b):QFn prog 111 [Zk n,Zo b] fz (optV (smallM o)):=by
 refine GFn.quiet ?_;cases o with
 | none=>
  subst h1 h2;refine zF Tryz.func111 Tryz.ntmps111 (fun w0=>?_);exact wS (h:=rfl)
 | some k=>
  have h1:k=n:=h1;have h2:true=b:=h2;subst h1 h2;refine zF Tryz.func111 Tryz.ntmps111 (fun w0=>?_);refine wC ?_ ?_<;>intro c1
  ·exact wS (h:=by exact (by rw [smallM,if_pos (.inl c1)];rfl))
  refine wC ?_ ?_<;>intro c2
  ·exact wS (h:=by exact (by rw [smallM,if_pos (.inr c2)];rfl))
  exact wS (h:=by exact (by rw [smallM,if_neg Zi];rfl))
structure Wd where
 atoms:List Atom
 values:List Value_
def WdR (fz:FZ) (W:Wd) (v:Value):Prop:=∃ A n c B m d,v=.agg #[Zc A n c,Zc B m d]/\Sl atomL fz A n c W.atoms/\Sl valueL fz B m d W.values
variable {W:Wd}
theorem WdR.mono (h:WdR fz W v) (hle:Le fz fz'):WdR fz' W v:=by
 obtain ⟨A,n,c,B,m,d,e,h1,h2⟩:=h;exact ⟨A,n,c,B,m,d,e,h1.mono hle,h2.mono hle⟩
def fluW (vs:List Value_) (a:Atom):Option Int:=match vs.find? (fun v=>decide (v.fluent=a)) with
 | some v=>smallM (some v.n)
 | none=>none
theorem YlF {α:Type} {p:α->Bool} {x:α}:∀ {l:List α} {k:Nat},(∀ i,i<k->∀ y,l[i]?=some y->p y=false)->l[k]?=some x->p x=true->l.find? p=some x
 | [],_,_,h,_=>by simp at h
 | y::r,0,_,h,hx=>by simp at h;subst h;simp [hx]
 | y::r,k+1,hh,h,hx=>by
  rw [List.find?_cons,hh 0 Zi y rfl];exact YlF (k:=k) (fun i hi z hz=>hh (i+1) Zi z (by simpa using hz)) (by simpa using h) hx
theorem YpS {p:α->Bool} (h:∀ i,i<l.length->∀ y,l[i]?=some y->p y=false):l.find? p=none:=by
 rw [List.find?_eq_none];intro x hx;obtain ⟨i,hi⟩:=List.getElem?_of_mem hx;rw [h i (Zg hi).1 x hi];simp
theorem Yjx (hW:WdR fz W v) (ha:AtomR fz a va):
 QFn prog 110 [v,.agg #[Zy a.name,va]] fz (optV (fluW W.values a)):=by
 obtain ⟨A,n,c,B,m,d,rfl,hA,hV⟩:=hW;have ha0:=ha;obtain ⟨Aa,na,ca,rfl,ia⟩:=ha.args;have lv:=hV.len;have sv:=hV.short;refine qF Tryz.func110 Tryz.ntmps110 (fun w0=>?_);refine pX (fun g2=>?_);refine pY (fun g3=>?_);refine zW ?_;refine WD m (fun k=>[(11,Zk k),(10,Zk m),(9,Zc B m d),(3,Zp g3)]) [(g3,Zu #[Zy a.name,Zc Aa na ca] 59)] (fun k=>(∀ i,i<k->∀ y,W.values[i]?=some y->decide (y.fluent=a)=false)) (fun i hi=>absurd hi Zi) ?_;intro k hk hh;refine wC ?_ ?_<;>intro c1
 ·obtain ⟨x,hx⟩:=Yf (l:=W.values) (k:=k) Zi;refine wI hV hx (fun p1 hp1=>?_);refine zL hp1 ?_;intro cs hcs;obtain ⟨w1,rfl,hRx⟩:=XM hcs;obtain ⟨Ax,nx,cx,rfl,ix⟩:=hRx.fluent.args;refine zW ?_;intros;rename_i g7
  ((refine zG ?_);refine Yh (vs:=[Zy x.fluent.name,Zc Ax nx cx]) 0 ?_);refine wb (Ybc hRx.fluent ha0) (fun f1=>?_) (fun f1=>?_)
  ·have hf:=YlF (p:=fun v=>decide (v.fluent=a)) hh hx f1;refine wc (YdH (o:=some x.n) rfl rfl) ?_;unfold optV;exact wS (h:=by unfold fluW;rw [hf];rfl)
  exact wM (h:=by exact YH (p:=fun y:Value_=>decide (y.fluent=a)=false) hh hx f1)
 have hf:=YpS (p:=fun v:Value_=>decide (v.fluent=a)) (fun i hi y hy=>hh i Zi y hy);exact wS (h:=by unfold fluW;rw [hf];rfl)
theorem q_quoI {P:Program} {cx:Cx} {r:Operand->Option Value} {V:Value->Prop} {dst:Option Nat} {ty:TypeId} {pos:String} {af:Array Edge} {gd:Option (Nat × Bool)} {k:IntKind} {a b c:Int}
 (hx:r x=some (.int k a)) (hy:r y=some (.int k b)) (hb:b≠0) (hw:k.wrap (a.tdiv b)=c) (h:V (.int k c)):DoesQ P cx ⟨dst,.binOp .quo t x y t',ty,pos,af,gd⟩ r fz H V:=
 YL (fun ρ w hr=>by simp [execOp,hr _ _ hx,hr _ _ hy,eqGuard,binOp,Op.intDiv,hb,hw]) h
def Yak:Int:=1099511627776
def YjW (a b:Int):Option Int:=if a≠0/\(b>Yak.tdiv (max a (-a))\/b<(-Yak).tdiv (max a (-a))) then none else some (a*b)
theorem YoU {m:Int} (hm:0<m):0<=Yak.tdiv m/\Yak.tdiv m<=Yak/\Yak.tdiv m*m<=Yak/\(-Yak).tdiv m= -(Yak.tdiv m):=by
 have h0:(0:Int)<=Yak:=by decide
 rw [Int.neg_tdiv,Int.tdiv_eq_ediv_of_nonneg h0];have h1:=Int.ediv_nonneg h0 (Int.le_of_lt hm);have h2:=Int.ediv_mul_le Yak (Int.ne_of_gt hm);exact ⟨h1,Int.ediv_le_self m h0,h2,rfl⟩
theorem prod_in {a b:Int} (h:¬(a≠0/\(b>Yak.tdiv (max a (-a))\/b<(-Yak).tdiv (max a (-a))))): -Yak<=a*b/\a*b<=Yak:=by
 by_cases ha:a=0
 ·subst ha;rw [Int.zero_mul];decide
 have hm:0<max a (-a):=by omega
 obtain ⟨h1,_,h3,h4⟩:=YoU hm;rw [h4] at h;generalize Yak.tdiv (max a (-a))=q at*;have hb: -q<=b/\b<=q:=⟨by omega,by omega⟩;rcases Int.lt_or_gt_of_ne ha with hn | hp
 ·rw [show max a (-a)= -a by omega] at h3;have x1:=Int.mul_le_mul_of_nonneg_right hb.1 (show 0<= -a by omega);have x2:=Int.mul_le_mul_of_nonneg_right hb.2 (show 0<= -a by omega);have e1:b* -a= -(a*b):=by rw [Int.mul_neg,Int.mul_comm]
  have e2: -q* -a=q*a:=by rw [Int.neg_mul_neg]
  have e3:q* -a= -(q*a):=by rw [Int.mul_neg]
  omega
 rw [show max a (-a)=a by omega] at h3;have x1:=Int.mul_le_mul_of_nonneg_right hb.1 (show 0<=a by omega);have x2:=Int.mul_le_mul_of_nonneg_right hb.2 (show 0<=a by omega);have e1:b*a=a*b:=Int.mul_comm b a;have e2: -q*a= -(q*a):=by rw [Int.neg_mul]
 omega
theorem Yo2 {a b:Int} (ha: -Yak<=a/\a<=Yak) (hb: -Yak<=b/\b<=Yak):
 QFn prog 191 [Zk a,Zk b] fz (optV (YjW a b)):=by
 have hN:Yak=1099511627776:=rfl;refine qF Tryz.func191 Tryz.ntmps191 (fun w0=>?_);refine wC ?_ ?_<;>intro c1
 ·obtain ⟨h1,h2,h3,h4⟩:=YoU (m:=max a (-a)) Zi;generalize hq:Yak.tdiv (max a (-a))=q at*;have hq2:(1099511627776:Int).tdiv (max a (-a))=q:=hq;have hq3:(-1099511627776:Int).tdiv (max a (-a))= -q:=h4;refine wG ?_;refine q_neg Zz (c:= -a) (by rw [Int.zero_sub];exact Xr Zi) ?_;refine wG ?_;refine q_quoI Zz Zz Zi (c:=q) (by rw [hq2];exact Xr Zi) ?_;refine wC ?_ ?_<;>intro c2
  ·exact wS (h:=by exact (by rw [YjW,if_pos ⟨c1,.inl (by rw [hq];exact c2)⟩];rfl))
  refine wG ?_;refine q_neg Zz (c:= -a) (by rw [Int.zero_sub];exact Xr Zi) ?_;refine wG ?_;refine q_quoI Zz Zz Zi (c:= -q) (by rw [hq3];exact Xr Zi) ?_;refine wC ?_ ?_<;>intro c3
  ·exact wS (h:=by exact (by rw [YjW,if_pos ⟨c1,.inr (by rw [h4];exact c3)⟩];rfl))
  have hno:¬(a≠0/\(b>Yak.tdiv (max a (-a))\/b<(-Yak).tdiv (max a (-a)))):=by rw [hq,h4];exact fun h=>h.2.elim c2 c3
  have:=prod_in hno;refine wG ?_;refine YjS Zz Zz (c:=a*b) (Xr Zi) ?_;exact wS (h:=by exact (by rw [YjW,if_neg hno];rfl))
 subst c1;refine wG ?_;refine YjS Zz Zz (c:=0) (by rw [Int.zero_mul];rfl) ?_;exact wS (h:=by exact (by rw [YjW,if_neg (fun h=>h.1 rfl),Int.zero_mul];rfl))
def opV (op:Bs) (x y:Option Int):Option Int:=match x,y with
 | some a,some b=>if op=Ypy then smallM (some (a+b)) else if op=Yb7 then smallM (some (a - b)) else smallM (YjW a b)
 | _,_=>none
mutual
def valW (W:Wd):Lx.Expr->Option Int
 | .mk op name n args kids=>if op=kNumber then smallM (some n) else if op=kFluent then fluW W.values ⟨name,args⟩ else opV op (((valL W kids)[0]?).getD none) (((valL W kids)[1]?).getD none)
def valL (W:Wd):List Lx.Expr->List (Option Int)
 | []=>[]
 | e::r=>valW W e::valL W r
end
theorem Yoj {W:Wd}:∀ l:List Lx.Expr,valL W l=l.map (valW W)
 | []=>rfl
 | e::r=>by rw [valL,Yoj r,List.map_cons]
theorem Yog (e:Lx.Expr):valW W e=if e.op=kNumber then smallM (some e.n) else if e.op=kFluent then fluW W.values ⟨e.name,e.args⟩ else opV e.op (((e.kids[0]?).map (valW W)).getD none) (((e.kids[1]?).map (valW W)).getD none):=by
 cases e;rw [valW,Yoj,List.getElem?_map,List.getElem?_map];rfl
theorem Yk5 {W:Wd} {e:Lx.Expr} {n:Int} (h:valW W e=some n): -Yak<=n/\n<=Yak:=by
 rw [Yog] at h;split at h
 ·exact YcR h
 split at h
 ·unfold fluW at h;split at h
  ·exact YcR h
  cases h
 unfold opV at h;split at h
 ·split at h
  ·exact YcR h
  split at h<;>exact YcR h
 cases h
inductive VSh:Lx.Expr->Prop
 | mk {e:Lx.Expr} (h:e.op=kNumber\/e.op=kFluent\/2<=e.kids.length) (hk:∀ k∈e.kids,VSh k):VSh e
theorem VSh.two {e:Lx.Expr} (h:VSh e):e.op=kNumber\/e.op=kFluent\/2<=e.kids.length:=by cases h with | mk h _=>exact h
theorem VSh.kid {e k:Lx.Expr} (h:VSh e) (hk:k∈e.kids):VSh k:=by cases h with | mk _ h=>exact h k hk
theorem Yoa:∀ (s:Nat) {e:Lx.Expr},SizeOf.sizeOf e<=s->EOk e->VSh e
 | 0,e,hs,_=>by cases e;simp at hs
 | s+1,e,hs,h=>by
  obtain ⟨h1,h2⟩:=YbO.1 h;refine .mk ?_ (fun k hk=>Yoa s (by have:=Lx.Expr.kids_lt hk;omega) (h2 k hk));unfold YfP at h1;rcases h1 with h1 | h1 | h1
  ·exact .inl h1.1
  ·exact .inr (.inl h1.1)
  exact .inr (.inr (by rw [h1.2.2.2.2];omega))
theorem YdX:∀ (s:Nat) {fz:FZ} {W:Wd} {v va vk:Value} {e:Lx.Expr},SizeOf.sizeOf e<=s->WdR fz W v->ExprR fz e va vk->VSh e->
 QFn prog 109 [v,.agg #[Zy e.op,Zy e.name,Zk e.n,va,vk]] fz (optV (valW W e))
 | 0,_,_,_,_,_,e,hs,_,_,_=>by cases e;simp at hs
 | s+1,fz,W,v,va,vk,e,hs,hW,hR,hS=>by
  have hR0:=hR;have hW0:=hW;have hN:Yak=1099511627776:=rfl;obtain ⟨⟨A,n,c,rfl,ia⟩,⟨B,m,d,rfl,ik⟩⟩:=hR.sls;obtain ⟨A1,n1,b1,A2,n2,b2,rfl,_,_⟩:=hW;have lk:=ik.len;have hM:=Yog (W:=W) e;refine qF Tryz.func109 Tryz.ntmps109 (fun w0=>?_);refine pX (fun g2=>?_);refine pY (fun g3=>?_);refine wC ?_ ?_<;>intro c1
  ·rw [if_pos (show e.op=kNumber from c1)] at hM;refine wc (YdH (o:=some e.n) rfl rfl) ?_;unfold optV;exact wS (h:=by rw [hM];rfl)
  rw [if_neg (show ¬e.op=kNumber from c1)] at hM;refine wC ?_ ?_<;>intro c2
  ·rw [if_pos (show e.op=kFluent from c2)] at hM;refine wG ?_;refine Yt (Yjx (a:=⟨e.name,e.args⟩) hW0 ⟨hR0.name,⟨_,_,_,rfl,ia⟩⟩) ?_;unfold optV;exact wS (h:=by rw [hM];rfl)
  rw [if_neg (show ¬e.op=kFluent from c2)] at hM;have h2:2<=e.kids.length:=by
   rcases hS.two with h | h | h
   ·exact absurd h c1
   ·exact absurd h c2
   exact h
  obtain ⟨x,hx⟩:=Yf (l:=e.kids) (k:=0) Zi;obtain ⟨y,hy⟩:=Yf (l:=e.kids) (k:=1) Zi;have hxm:=Zm hx;have hym:=Zm hy;rw [hx,hy] at hM;have hM:valW W e=opV e.op (valW W x) (valW W y):=hM;refine wI ik hx (fun p1 hp1=>?_);refine zL hp1 ?_;intro cs hcs;obtain ⟨w1,w2,rfl,hRx⟩:=YF hcs;obtain ⟨⟨A3,n3,b3,rfl,_⟩,⟨A4,n4,b4,rfl,_⟩⟩:=id hRx.sls;refine wG ?_;refine Yt (YdX s (by have:=Lx.Expr.kids_lt hxm;omega) hW0 hRx (hS.kid hxm)) ?_;unfold optV;refine wI ik hy (fun p2 hp2=>?_);refine zL hp2 ?_;intro cs2 hcs2;obtain ⟨w3,w4,rfl,hRy⟩:=YF hcs2;obtain ⟨⟨A5,n5,b5,rfl,_⟩,⟨A6,n6,b6,rfl,_⟩⟩:=id hRy.sls;refine wG ?_;refine Yt (YdX s (by have:=Lx.Expr.kids_lt hym;omega) hW0 hRy (hS.kid hym)) ?_;unfold optV;have hax:=@Yk5 W x;have hay:=@Yk5 W y;generalize valW W x=ox at*;generalize valW W y=oy at*;refine zW ?_;cases ox with
  | none=>
   exact wS (h:=by rw [hM];rfl)
  | some a=>
   have ha:=hax rfl;cases oy with
   | none=>
    exact wS (h:=by rw [hM];rfl)
   | some b=>
    have hb:=hay rfl;have hM:valW W e=if e.op=Ypy then smallM (some (a+b)) else if e.op=Yb7 then smallM (some (a - b)) else smallM (YjW a b):=hM
    simp only [Option.getD_some,Option.isSome_some];refine wC ?_ ?_<;>intro c3
    ·rw [if_pos (show e.op=Ypy from c3)] at hM;refine wc (YdH (o:=some (a+b)) rfl rfl) ?_;unfold optV;exact wS (h:=by rw [hM];rfl)
    rw [if_neg (show ¬e.op=Ypy from c3)] at hM;refine wC ?_ ?_<;>intro c4
    ·rw [if_pos (show e.op=Yb7 from c4)] at hM;refine wc (YdH (o:=some (a - b)) rfl rfl) ?_;unfold optV;exact wS (h:=by rw [hM];rfl)
    rw [if_neg (show ¬e.op=Yb7 from c4)] at hM;refine wc (Yo2 ha hb) ?_;unfold optV;refine wc (YdH (o:=YjW a b) rfl rfl) ?_;unfold optV;exact wS (h:=by rw [hM];rfl)
def cmpW (W:Wd) (op:Bs) (es:List Lx.Expr):Bool:=match ((es[0]?).map (valW W)).getD none,((es[1]?).map (valW W)).getD none with
 | some a,some b=>if op=kLt then decide (a<b) else if op=kLe then decide (a<=b) else decide (a=b)
 | _,_=>false
theorem YnQ (hW:WdR fz W v) (hR:FormulaR fz f va vp ve vk) (h2:2<=f.exprs.length) (hS:∀ e∈f.exprs,VSh e):
 QFn prog 104 [v,.agg #[Zy f.op,Zy f.name,va,vp,ve,vk]] fz (Zo (cmpW W f.op f.exprs)):=by
 have hW0:=hW;obtain ⟨⟨B1,m1,d1,rfl,_⟩,⟨B2,m2,d2,rfl,_⟩,⟨B3,m3,d3,rfl,ie⟩,⟨B4,m4,d4,rfl,_⟩⟩:=hR.sls;obtain ⟨A1,n1,b1,A2,n2,b2,rfl,_,_⟩:=hW;have le:=ie.len;obtain ⟨x,hx⟩:=Yf (l:=f.exprs) (k:=0) Zi;obtain ⟨y,hy⟩:=Yf (l:=f.exprs) (k:=1) Zi;have hM:cmpW W f.op f.exprs=match valW W x,valW W y with
  | some a,some b=>if f.op=kLt then decide (a<b) else if f.op=kLe then decide (a<=b) else decide (a=b)
  | _,_=>false:=by unfold cmpW;rw [hx,hy];rfl
 rw [hM];refine qF Tryz.func104 Tryz.ntmps104 (fun w0=>?_);refine pX (fun g2=>?_);refine pY (fun g3=>?_);refine wI ie hx (fun p1 hp1=>?_);refine zL hp1 ?_;intro cs hcs;obtain ⟨w1,w2,rfl,hRx⟩:=YF hcs;obtain ⟨⟨A3,n3,b3,rfl,_⟩,⟨A4,n4,b4,rfl,_⟩⟩:=id hRx.sls;refine wG ?_;refine Yt (YdX _ (Zs _) hW0 hRx (hS _ (Zm hx))) ?_;unfold optV;refine wI ie hy (fun p2 hp2=>?_);refine zL hp2 ?_;intro cs2 hcs2;obtain ⟨w3,w4,rfl,hRy⟩:=YF hcs2;obtain ⟨⟨A5,n5,b5,rfl,_⟩,⟨A6,n6,b6,rfl,_⟩⟩:=id hRy.sls;refine wG ?_;refine Yt (YdX _ (Zs _) hW0 hRy (hS _ (Zm hy))) ?_;unfold optV;generalize valW W x=ox at*;generalize valW W y=oy at*;refine zW ?_;cases ox with
 | none=>
  exact wR (h:=rfl)
 | some a=>
  cases oy with
  | none=>
   exact wR (h:=rfl)
  | some b=>
   simp only [Option.getD_some,Option.isSome_some];refine wC ?_ ?_<;>intro c3
   ·rw [if_pos (show f.op=kLt from c3)];refine wC ?_ ?_<;>intro c5
    ·exact wR (h:=by exact Ys c5)
    exact wR (h:=by exact Yj c5)
   rw [if_neg (show ¬f.op=kLt from c3)];refine wC ?_ ?_<;>intro c4
   ·rw [if_pos (show f.op=kLe from c4)];refine wC ?_ ?_<;>intro c5
    ·exact wR (h:=by exact Ys c5)
    exact wR (h:=by exact Yj c5)
   rw [if_neg (show ¬f.op=kLe from c4)];refine wC ?_ ?_<;>intro c5
   ·exact wR (h:=by exact Ys c5)
   exact wR (h:=by exact Yj c5)
end Go.Proofs.YtbdpaoikccabhaaGreatDoor
namespace Go.Lx
open Go.RowKit
section
variable {P:Program} {cx:Cx} {r:Operand->Option Value} {fz:FZ} {H:HP} {dst:Option Nat} {ty:TypeId} {pos:String} {af:Array Edge} {gd:Option (Nat × Bool)}
variable {A:Option Addr} {X:Ty} {c n:Nat} {e t:TypeId} {x:Operand}
theorem Yln (T:Tab P) {V:Value->Prop} (hT:T.inf t=some X) (hd:X.desc=.slice e) (hx:r x=some (.slice A n c)) (h:V (Zk c)):
 DoesQ P cx ⟨dst,.call {callee:=.builtin .cap,args:=#[x],argTypes:=#[t]},ty,pos,af,gd⟩ r fz H V:=
 YL (fun ρ w hr=>by
  have hu:=run_underlying (und_plain T hT hd rfl) w;simp [execOp,resolve,invoke,builtin,hr _ _ hx,Builtin.cap_,hu,goInt]) h
theorem WS {t e:TypeId} {x y:Operand} {X Y:Ty} {k1 k2:IntKind} {l c:Nat} {K:Value->FZ->HP->Prop}
 (hlc:l<=c)
  (h:∀ g,K (Zv g l c) fz ((g,.cells (repZ Y.zero.cells.toList c).toArray e (0,0))::H)) (T:Tab P:=by exact T) (hT:T.inf t=some X:=by exact rfl) (hd:X.desc=.slice e:=by exact rfl) (hY:T.inf e=some Y:=by exact rfl) (hzs:Nat.beq Y.zero.cells.toList.length Y.size=true:=by exact rfl) (hx:r x=some (.int k1 l):=by exact rfl) (hy:r y=some (.int k2 c):=by exact rfl) (hb:c*Y.bytes<=1099511627776:=by exact mulB) (hc:c<=1099511627776:=by omega):Does P cx ⟨dst,.makeSlice t x y,ty,pos,af,gd⟩ r fz H K:=by
  unfold Does;intro ρ w hr hw;have hu:=und_plain T hT hd rfl;have hsz:=run_sizeOf T hY w;have hzr:=Ybz T hY w;obtain ⟨inf,hi,i1,i2,i3⟩:=(T.ok_ hY).info;have hwq:IntKind.i64.wrap (c:Int)=c:=Xr Zi;have hwl:IntKind.i64.wrap (l:Int)=l:=Xr Zi;have hti:(typeInfo e).run P w=.ok inf w:=by simp [typeInfo,hi]
  have hrow:=YoR Y.zero.cells c Y.size (by simpa using Nat.eq_of_beq_eq_true hzs);have hroom:∀ w,(askRoom (c*Y.bytes)).run P w=.ok () w:=fun w=>by
   unfold askRoom roomBytes;rw [if_neg Zi];rfl
  have hcomm:Y.bytes*c=c*Y.bytes:=Nat.mul_comm _ _;have hcond:(((decide ((c:Int)<0) || decide (((Y.bytes:Int))*(c:Int)>2 ^ 48)) || decide ((l:Int)<0)) || decide ((l:Int)>(c:Int)))=false:=by
   have h5:¬((Y.bytes:Int)*(c:Int)>2 ^ 48):=by
    have:((Y.bytes*c:Nat):Int)<=1099511627776:=by omega
    rw [Int.natCast_mul] at this;omega
   simp;omega
  have:(execOp ρ ⟨dst,.makeSlice t x y,ty,pos,af,gd⟩).run P w=.ok (.value (.slice (some ⟨w.heap.size,0,none⟩) l c)) (w.alloc (.cells (repZ Y.zero.cells.toList c).toArray e (0,0))):=by
   simp only [execOp,hr _ _ hx,hr _ _ hy,Instr.makeSlice,Sem.run_bind,run_underlying hu w,Result.andThen_ok,asInt,asIntOf,Sem.run_pure,hti,i2,hwq,hwl];rw [if_neg (by rw [hcond];simp)];simp only [Sem.run_bind,Int.toNat_natCast,hroom,Result.andThen_ok,hsz];by_cases h0:c*Y.size=0
   ·have hnil:(repZ Y.zero.cells.toList c).toArray=#[]:=by rw [<- hrow,h0];simp
    simp only [if_pos h0,Sem.run_bind,Sem.run_pure,Result.andThen_ok,hnil,newRow,newObj,Sem.run];rw [h0,show Array.range 0=#[] from rfl,Array.map_empty];rfl
   simp only [if_neg h0,Sem.run_bind,Sem.run_pure,Result.andThen_ok,hzr,hrow,newRow,newObj,Sem.run];rfl
  rw [this];exact ⟨fz,_,hw.alloc _,h _⟩
end
end Go.Lx
namespace Go.Lx
theorem wrapU32 {n:Int} (h:0<=n/\n<=4294967295):IntKind.u32.wrap n=n:=by
 show n % 4294967296=n;omega
theorem wrapU8 {n:Int} (h:0<=n/\n<=255):IntKind.u8.wrap n=n:=by
 show n % 256=n;omega
theorem Yn3 {n:Int} (h:0<=n/\n<=2147483647):IntKind.i32.wrap n=n:=by
 have e1:n % 4294967296=n:=by omega
 have e2:¬(n>=2147483648):=by omega
 simp [IntKind.wrap,IntKind.bits,IntKind.signed,e1];omega
end Go.Lx
namespace Go.Proofs.YtbdpaoikccabhaaGreatDoor
variable {fz:FZ} {Hs:HP} {n c:Nat} {v:Value} {s:Bs} {A:Option Addr}
def PlnB (b:UInt8):Prop:=32<=b.toNat/\b.toNat<=126/\b.toNat≠34/\b.toNat≠92
def PlnS (s:Bs):Prop:=s.size<=1000/\∀ b∈s.data.toList,PlnB b
def Yb3 (l:List UInt8):List UInt8:=34::(l++ [34])
def Yao (s:Bs):Bs:=strOf (Yb3 s.data.toList)
theorem YpC {n:Int} (h:32<=n/\n<=126):QFn prog 283 [.int .i32 n] fz (Zo true):=by
 refine qF Tryz.func283 Tryz.ntmps283 (fun w0=>?_);refine wC ?_ ?_<;>intro x1
 ·refine wC ?_ ?_<;>intro x2
  ·refine wC ?_ ?_<;>intro x3
   ·exact wR (h:=rfl)
   omega
  omega
 omega
theorem YkQ {xs:List Value} {b:UInt8} (ho:OwnS 5 1 v n xs Hs) (hb:b.toNat<=126) (hn:n<=2000000):
 GFn prog 285 [v,.int .i32 b.toNat] fz Hs (fun r fz' H'=>OwnS 5 1 r (n+1) (xs++ [Yax b]) H'):=by
 obtain ⟨A,c,rfl,_,_⟩:=ho.form;refine zF Tryz.func285 Tryz.ntmps285 (fun w0=>?_);refine wG ?_;refine Ya5 ?_ (hw:=wrapU32 Zi);refine wC ?_ ?_<;>intro x1
 ·refine wG ?_;refine Ya5 ?_ (hw:=wrapU8 Zi);refine Yd (Yc (cs:=[Yax b]) (fun gb=>?_));refine Yd (YcC (Hr:=[_]) (news:=[Yax b]) (Zr _) (YeO (.head _)) (fun v' Hs' hO'=>?_) (ho:=ho) (hl:=rfl) (h1:=by intro u hu;simp at hu;subst hu;rfl));obtain ⟨A',c',rfl,_,_⟩:=hO'.form;refine zW ?_;exact Yd5 (H':=Hs') (H2:=[_]) rfl rfl Zq (fun fz3 hle3 _=>hO')
 omega
theorem decode_q {b:UInt8} (hs:s[0]?=some b) (hz:s.size<=1000) (hb:b.toNat<=126):QFn prog 272 [Zy s] fz (.tuple #[.int .i32 b.toNat,Zk 1]):=by
 have hp:0<s.size:=by
  cases Nat.eq_zero_or_pos s.size with
  | inl h=>rw [getElem?_neg s 0 Zi] at hs;cases hs
  | inr h=>exact h
 have hne:¬s=⟨#[]⟩:=fun h=>by rw [h] at hp;exact absurd hp Zh
 refine qF Tryz.func272 Tryz.ntmps272 (fun w0=>?_);refine wG ?_;refine Wj ?_ (hb:=by exact hs);refine wC ?_ ?_<;>intro x1
 ·refine wG ?_;refine Wj ?_ (hb:=by exact hs);refine wG ?_;refine Ya5 ?_ (hw:=Yn3 Zi);exact wS (h:=rfl)
 omega
theorem Yp5 {xs:List Value} {b:UInt8} (ho:OwnS 5 1 v n xs Hs) (hb:PlnB b) (hn:n<=2000000):
 GFn prog 273 [v,.int .i32 b.toNat,.int .u8 34,Zo false,Zo false] fz Hs (fun r fz' H'=>OwnS 5 1 r (n+1) (xs++ [Yax b]) H'):=by
 obtain ⟨h1,h2,h3,h4⟩:=hb;obtain ⟨A,c,rfl,_,_⟩:=ho.form;refine zF Tryz.func273 Tryz.ntmps273 (fun w0=>?_);refine wG ?_;refine Ya5 ?_ (hw:=Yn3 Zi);refine wC ?_ ?_<;>intro x1
 ·omega
 refine wC ?_ ?_<;>intro x2
 ·omega
 refine wG ?_;refine Yt (YpC (n:=b.toNat) Zi) ?_;refine zW ?_;refine Yd (Yk Hs [] ((List.append_nil _).symm) (YkQ ho h2 hn) (fun v6 fz6 H6 hle6 hR6=>?_));obtain ⟨A',c',rfl,_,_⟩:=hR6.form;refine zW ?_;exact Yd5 (H':=H6) (H2:=[]) rfl rfl (Zr _) (fun fz3 hle3 _=>hR6)
theorem Ynf {b:UInt8} {r:List UInt8}:(strOf (b::r)).extract 1 (strOf (b::r)).size=strOf r:=by
 apply ByteArray.ext;rw [ByteArray.data_extract];simp [strOf,ByteArray.size]
theorem Yng {b:UInt8} {r:List UInt8}:(strOf (b::r))[0]?=some b:=by
 rw [getElem?_pos _ 0 (by rw [YaG];simp)];rfl
theorem quoted_f (ho:OwnS 5 1 (Zc A 0 c) 0 [] Hs) (hc:s.size<=c) (hs:PlnS s):
 GFn prog 256 [Zc A 0 c,Zy s,.int .u8 34,Zo false,Zo false] fz Hs (fun r fz' H'=>OwnS 5 1 r (s.size+2) ((Yb3 s.data.toList).map Yax) H'):=by
 obtain ⟨hz,hpl⟩:=hs;obtain ⟨_,_,e,_,hc2⟩:=ho.form;injection e with _ _ e3
 subst e3;refine zF Tryz.func256 Tryz.ntmps256 (fun w0=>?_);refine wG ?_;refine Yln T Zz Zz Zz ?_;refine wC ?_ ?_<;>intro x1
 ·omega
 refine zW ?_;refine Yd (Yc (cs:=[Yax 34]) (fun gb=>?_));refine Yd (YcC (Hr:=[_]) (news:=[Yax 34]) (Zr _) (YeO (.head _)) (fun v1 Hs1 hO1=>?_) (ho:=ho) (hl:=rfl) (h1:=by intro u hu;simp at hu;subst hu;rfl));obtain ⟨A1,c1,rfl,_,_⟩:=hO1.form;refine zW ?_;refine Yn (fun q σ fz' H'=>∃ (done rest:List UInt8) (v:Value) (Hs':HP),s.data.toList=done++rest/\q=rest.length/\σ=[(0,v),(1,Zy (strOf rest)),(2,.int .u8 34),(3,Zo false),(4,Zo false)]/\Le fz fz'/\H'=Hs'/\OwnS 5 1 v (done.length+1) ((34::done).map Yax) Hs') ⟨[],s.data.toList,_,Hs1,rfl,rfl,rfl,Zd,rfl,hO1⟩ (by rw [strOf_of];exact ⟨rfl,rfl,rfl,rfl,rfl,trivial⟩) (List.sublist_append_right _ _) ?_;rintro q σ fz1 H' ⟨done,rest,v,Hs',hdr,rfl,rfl,hl1,rfl,hO⟩;obtain ⟨A',c',rfl,_,_⟩:=hO.form;have hln:done.length+rest.length=s.size:=by
  have:=congrArg List.length hdr;rw [List.length_append,Array.length_toList] at this;exact this.symm
 refine wC ?_ ?_<;>intro c2
 ·rw [YaG] at c2;cases rest with
  | nil=>simp at c2
  | cons b r=>
   have hb:PlnB b:=hpl b (by rw [hdr];simp);have e1:(1:Int)=1:=rfl;refine wG ?_;refine Yt (decode_q (s:=strOf (b::r)) Yng (by rw [YaG];omega) hb.2.1) ?_;refine wC ?_ ?_<;>intro x5
   ·have:=hb.2.1;omega
   refine zW ?_;refine Yd (Yk H' [] ((List.append_nil _).symm) (Yp5 hO hb Zi) (fun v6 fz6 H6 hle6 hR6=>?_));obtain ⟨A6,c6,rfl,_,_⟩:=hR6.form;refine wG ?_;refine YeR ?_ (h1:=by rw [YaG];simp;omega);rw [show (strOf (b::r)).extract (Int.toNat 1) (strOf (b::r)).size=strOf r from Ynf];refine zW ?_;exact Ws ⟨done++ [b],r,_,_,by rw [hdr];simp,rfl,rfl,hl1.trans hle6,rfl,by simpa using hR6⟩ (by simp) Zw (by simp)
 rw [YaG] at c2;have hnil:rest=[]:=List.eq_nil_of_length_eq_zero Zi;subst hnil;rw [List.append_nil] at hdr;refine zW ?_;refine Yd (Yc (cs:=[Yax 34]) (fun gb=>?_));refine Yd (YcC (Hr:=[_]) (news:=[Yax 34]) (Zr _) (YeO (.head _)) (fun v3 Hs3 hO3=>?_) (ho:=hO) (hl:=rfl) (h1:=by intro u hu;simp at hu;subst hu;rfl));obtain ⟨A3,c3,rfl,_,_⟩:=hO3.form;refine zW ?_;refine Yd5 (H':=Hs3) (H2:=[_]) rfl rfl Zq (fun fz3 hle3 _=>?_);have e1:done.length+1+1=s.size+2:=by simp at hln;omega
 have e2:(34::done).map Yax++ [Yax 34]=(Yb3 s.data.toList).map Yax:=by rw [hdr];simp [Yb3]
 rw [<- e1,<- e2];exact hO3
theorem Ylg (hs:PlnS s):QFn prog 223 [Zy s,.int .u8 34,Zo false,Zo false] fz (Zy (Yao s)):=by
 have hz:=hs.1;refine qF Tryz.func223 Tryz.ntmps223 (fun w0=>?_);refine wG ?_;refine YjS (c:=((3*s.size:Nat):Int)) Zz Zz (by rw [Xr Zi];omega) ?_;refine zG ?_;refine q_quoN (a:=3*s.size) (b:=2) ?_;refine Yd (WS (l:=0) (c:=3*s.size / 2) (Z0 _) (fun g=>?_));refine zW ?_;refine Yd (Yk [(g,_)] [] Zz (quoted_f (A:=some ⟨g,0,none⟩) (c:=3*s.size / 2) ⟨by simp,.inr ⟨g,3*s.size / 2,(repZ [Value.int .u8 0] (3*s.size / 2)).toArray,rfl,rfl,Z0 _,by unfold maxLen;omega,by rw [List.size_toArray,Yix];rfl,by simp⟩⟩ Zi hs) (fun v6 fz6 H6 hle6 hR6=>?_));rcases hR6.2 with ⟨_,h0,_⟩ | ⟨g6,cap6,cur6,rfl,rfl,h61,h62,h63,h64⟩
 ·omega
 obtain ⟨curl,rfl⟩:∃ cl:List Value,cur6=cl.toArray:=⟨cur6.toList,by simp⟩;refine wG ?_;refine YoX 0 (bs:=Yb3 s.data.toList) ?_ (hcs:=by simpa using h64) (hn:=by unfold Yb3;rw [List.length_cons,List.length_append,Array.length_toList];rfl);exact wR (h:=rfl)
theorem YoT (hs:PlnS s):QFn prog 175 [Zy s] fz (Zy (Yao s)):=by
 refine qF Tryz.func175 Tryz.ntmps175 (fun w0=>?_);refine wc (Ylg hs) ?_;exact wR (h:=rfl)
end Go.Proofs.YtbdpaoikccabhaaGreatDoor
namespace Go.Lx
open Go.RowKit
def Xp:List (Bs × Value)->Nat->List MapEntry
 | [],_=>[]
 | (k,v)::r,i=>⟨.string k,v,i⟩::Xp r (i+1)
def mapS (m:List (Bs × Value)):Obj:=.map (Xp m 0).toArray m.length
theorem YdS:∀ (m:List (Bs × Value)) (i:Nat),(Xp m i).length=m.length
 | [],_=>rfl
 | (k,v)::r,i=>by simp [Xp,YdS r]
theorem Ybv:∀ (m:List (Bs × Value)) (i j:Nat),(Xp m i)[j]?=(m[j]?).map fun p=>⟨.string p.1,p.2,i+j⟩
 | [],_,_=>by simp [Xp]
 | (k,v)::r,i,0=>by simp [Xp]
 | (k,v)::r,i,j+1=>by
  simp only [Xp,List.getElem?_cons_succ,Ybv r (i+1) j];rw [show i+1+j=i+(j+1) from by omega]
theorem YdB:∀ (m:List (Bs × Value)) (k:Bs) (v:Value) (i:Nat),Xp (m++ [(k,v)]) i=Xp m i++ [⟨.string k,v,i+m.length⟩]
 | [],k,v,i=>by simp [Xp]
 | (a,b)::r,k,v,i=>by
  simp only [List.cons_append,Xp,YdB r k v (i+1),List.length_cons];rw [show i+1+r.length=i+(r.length+1) from by omega]
def fndS:List (Bs × Value)->Bs->Nat->Option (Nat × Value)
 | [],_,_=>none
 | (k,v)::r,x,i=>if x=k then some (i,v) else fndS r x (i+1)
theorem Yau:∀ (m:List (Bs × Value)) (x:Bs) (i j:Nat) (v:Value),fndS m x i=some (j,v)->i<=j/\m[j - i]?=some (x,v)
 | [],_,_,_,_,h=>by cases h
 | (k,u)::r,x,i,j,v,h=>by
  unfold fndS at h;split at h
  ·rename_i hk;injection h with h;injection h with h1 h2;subst h1 h2 hk;simp
  obtain ⟨h1,h2⟩:=Yau r x (i+1) j v h;exact ⟨by omega,by rw [show j - i=(j - (i+1))+1 from by omega];simpa using h2⟩
theorem YgW:∀ (m:List (Bs × Value)) (x:Bs) (i:Nat),fndS m x i=none->∀ p∈m,p.1≠x
 | [],_,_,_,p,hp=>by cases hp
 | (k,u)::r,x,i,h,p,hp=>by
  unfold fndS at h;split at h
  ·cases h
  rename_i hk;cases hp with
  | head=>exact fun he=>hk he.symm
  | tail _ hp=>exact YgW r x (i+1) h p hp
theorem bytes_beq (a b:Bs):(a==b)=decide (a=b):=by
 have h1:(a==b)=(a.data==b.data):=rfl;rw [h1,Bool.eq_iff_iff,beq_iff_eq,decide_eq_true_iff];exact ⟨fun h=>by cases a;cases b;simp at h;rw [h],fun h=>by rw [h]⟩
theorem Yg0:∀ (m:List (Bs × Value)) (x:Bs) (i j:Nat),Instr.findNow .string (.string x) (Xp m j) i=some (fndS m x i)
 | [],_,_,_=>rfl
 | (k,v)::r,x,i,j=>by
  simp only [Xp,Instr.findNow,Instr.sameNow,fndS];by_cases h:x=k
  ·subst h;simp [bytes_beq]
  have:(x==k)=false:=by rw [bytes_beq];simpa using h
  simp only [this,if_neg h];exact Yg0 r x (i+1) (j+1)
def updS (m:List (Bs × Value)) (x:Bs) (v:Value):List (Bs × Value):=match fndS m x 0 with
 | some (i,_)=>m.set i (x,v)
 | none=>m++ [(x,v)]
theorem Yg4:∀ (m:List (Bs × Value)) (i j:Nat) (x:Bs) (v:Value),Xp (m.set i (x,v)) j=(Xp m j).modify i fun e=>{e with key:=.string x,val:=v}
 | [],i,j,x,v=>by simp [Xp]
 | (a,b)::r,0,j,x,v=>by simp [Xp]
 | (a,b)::r,i+1,j,x,v=>by simp [Xp,Yg4 r i (j+1) x v]
def valS (m:List (Bs × Value)) (x:Bs):Option Value:=(fndS m x 0).map (·.2)
theorem YhZ:∀ (m:List (Bs × Value)) (x:Bs) (i j:Nat),(fndS m x i).map (·.2)=(fndS m x j).map (·.2)
 | [],_,_,_=>rfl
 | (k,v)::r,x,i,j=>by
  unfold fndS;split
  ·rfl
  exact YhZ r x (i+1) (j+1)
theorem valS_nil (x:Bs):valS [] x=none:=rfl
theorem YaS (k:Bs) (v:Value) (r:List (Bs × Value)) (x:Bs):valS ((k,v)::r) x=if x=k then some v else valS r x:=by
 unfold valS;rw [fndS];split
 ·rfl
 exact YhZ r x 1 0
theorem Yk6 (m:List (Bs × Value)) (k:Bs) (v:Value) (x:Bs) (h:valS m k=none):valS (m++ [(k,v)]) x=if x=k then some v else valS m x:=by
 induction m with
 | nil=>rw [List.nil_append,YaS]
 | cons p r ih=>
  obtain ⟨a,u⟩:=p;rw [YaS] at h;split at h
  ·cases h
  rename_i hk;rw [List.cons_append,YaS,YaS,ih h];split
  ·rename_i hx;rw [if_neg (fun h0=>hk (by rw [<- h0,hx]))]
  rfl
theorem valS_set (m:List (Bs × Value)) (i:Nat) (k:Bs) (v u:Value) (x:Bs) (h:fndS m k 0=some (i,u)):valS (m.set i (k,v)) x=if x=k then some v else valS m x:=by
 have key:∀ (m:List (Bs × Value)) (i j:Nat),fndS m k j=some (i+j,u)->valS (m.set i (k,v)) x=if x=k then some v else valS m x:=by
  intro m
  induction m with
  | nil=>intro i j h;cases h
  | cons p r ih=>
   obtain ⟨a,w⟩:=p;intro i j h;unfold fndS at h;split at h
   ·rename_i hk;injection h with h;injection h with h1 h2
    have:i=0:=by omega
    subst this hk;rw [List.set_cons_zero,YaS,YaS];split<;>rfl
   rename_i hk;have h3:=Yau r k (j+1) (i+j) u h;obtain ⟨i',rfl⟩:∃ i',i=i'+1:=⟨i - 1,by omega⟩;rw [List.set_cons_succ,YaS,YaS,ih i' (j+1) (by rw [h];congr 2;omega)];split
   ·rename_i hx;rw [if_neg (fun h0=>hk (by rw [<- h0,hx]))]
   rfl
 exact key m i 0 (by simpa using h)
theorem Yco (m:List (Bs × Value)) (k:Bs) (v:Value) (x:Bs):valS (updS m k v) x=if x=k then some v else valS m x:=by
 unfold updS;cases h:fndS m k 0 with
 | none=>exact Yk6 m k v x (by unfold valS;rw [h];rfl)
 | some p=>obtain ⟨i,u⟩:=p;exact valS_set m i k v u x h
theorem Yht (m:List (Bs × Value)) (x:Bs) (z:Value):(fndS m x 0).elim z (·.2)=(valS m x).getD z:=by unfold valS;cases fndS m x 0<;>rfl
theorem Ye5 (m:List (Bs × Value)) (x:Bs):(fndS m x 0).isSome=(valS m x).isSome:=by unfold valS;cases fndS m x 0<;>rfl
section
variable {P:Program} {cx:Cx} {r:Operand->Option Value} {fz:FZ} {H:HP} {dst:Option Nat} {ty:TypeId} {pos:String} {af:Array Edge} {gd:Option (Nat × Bool)} {V:Value->Prop}
variable {g:Nat} {m:List (Bs × Value)} {w:World}
theorem WE (h:w.heap[g]?=some (mapS m)):(getObj g).run P w=.ok (mapS m) w:=by
 simp [getObj,Sem.run,h,mapS]
theorem W5 (T:Tab P) {k:TypeId} {K:Ty} (hK:T.inf k=some K) (hd:K.desc=.string) (b:Bool) (x:Bs) (w:World):(Instr.checkKey b 10000 k (.string x)).run P w=.ok () w:=by
 have hu:=run_underlying (und_plain T hK hd rfl) w;have:∀ n:Nat,(Instr.checkKey b (n+1) k (.string x)).run P w=.ok () w:=fun n=>by
  unfold Instr.checkKey;simp only [Sem.run_bind,hu,Result.andThen_ok,Sem.run_pure]
 exact this 9999
theorem Yam (T:Tab P) {k:TypeId} {K:Ty} (hK:T.inf k=some K) (hd:K.desc=.string) (x:Bs) (m:List (Bs × Value)) (w:World):(Instr.findKey k (.string x) (Xp m 0)).run P w=.ok (fndS m x 0) w:=by
 have hu:=run_underlying (und_plain T hK hd rfl) w;simp only [Instr.findKey,Sem.run_bind,hu,Result.andThen_ok,Yg0,Sem.run_pure]
variable {X:Ty} {e t:TypeId}
theorem Ygi (T:Tab P) {k:TypeId} {K E:Ty} {x:Bs} (hT:T.inf t=some X) (hd:X.desc=.map k e) (hK:T.inf k=some K) (hkd:K.desc=.string) (hE:T.inf e=some E)
 (hg:w.heap[g]?=some (mapS m)):(Instr.lookup t (.map (some g)) (.string x) false).run P w=.ok ((fndS m x 0).elim E.zero (·.2)) w:=by
 have hu:=run_underlying (und_plain T hT hd rfl) w;have hz:=Ybz T hE w;simp only [Instr.lookup,Sem.run_bind,hu,Result.andThen_ok,WE hg,mapS,Sem.run_pure,W5 T hK hkd,Yam T hK hkd];cases hf:fndS m x 0 with
 | none=>simp [hz]
 | some p=>simp
variable {y:Operand}
theorem YiA (T:Tab P) {k:TypeId} {z:Operand} {K E:Ty} {x:Bs} (i:Nat) (hT:T.inf t=some X) (hd:X.desc=.map k e) (hK:T.inf k=some K) (hkd:K.desc=.string) (hE:T.inf e=some E)
 (hy:r y=some (.map (some g))) (hz:r z=some (.string x)) (hH:H[i]?=some (g,mapS m)) (h:V ((fndS m x 0).elim E.zero (·.2))):DoesQ P cx ⟨dst,.lookup t y z false,ty,pos,af,gd⟩ r fz H V:=
 DoesQ.of h fun ρ w hr hi=>by
  have hg:=(hi.hp.own _ (Zm hH)).1;simp only [execOp,hr _ _ hy,hr _ _ hz,Sem.run_bind,Ygi T hT hd hK hkd hE hg,Result.andThen_ok,Sem.run_pure];exact ⟨rfl,Fr.refl _ _⟩
theorem YjT (T:Tab P) {k:TypeId} {z:Operand} {K E:Ty} {x:Bs} (hT:T.inf t=some X) (hd:X.desc=.map k e) (hK:T.inf k=some K) (hkd:K.desc=.string) (hE:T.inf e=some E)
 (hy:r y=some (.map (some g))) (hz:r z=some (.string x)) (hH:fz g=some (mapS m)) (h:V ((fndS m x 0).elim E.zero (·.2))):DoesQ P cx ⟨dst,.lookup t y z false,ty,pos,af,gd⟩ r fz H V:=
 DoesQ.of h fun ρ w hr hi=>by
  have hg:=hi.hp.keep _ _ hH;simp only [execOp,hr _ _ hy,hr _ _ hz,Sem.run_bind,Ygi T hT hd hK hkd hE hg,Result.andThen_ok,Sem.run_pure];exact ⟨rfl,Fr.refl _ _⟩
theorem YdZ (T:Tab P) {k:TypeId} {K E:Ty} {x:Bs} (hT:T.inf t=some X) (hd:X.desc=.map k e) (hK:T.inf k=some K) (hkd:K.desc=.string) (hE:T.inf e=some E)
 (hg:w.heap[g]?=some (mapS m)):(Instr.lookup t (.map (some g)) (.string x) true).run P w=.ok (.tuple #[(fndS m x 0).elim E.zero (·.2),.bool (fndS m x 0).isSome]) w:=by
 have hu:=run_underlying (und_plain T hT hd rfl) w;have hz:=Ybz T hE w;simp only [Instr.lookup,Sem.run_bind,hu,Result.andThen_ok,WE hg,mapS,Sem.run_pure,W5 T hK hkd,Yam T hK hkd];cases hf:fndS m x 0 with
 | none=>simp [hz]
 | some p=>simp
theorem Ygn (T:Tab P) {k:TypeId} {z:Operand} {K E:Ty} {x:Bs} (i:Nat) (hT:T.inf t=some X) (hd:X.desc=.map k e) (hK:T.inf k=some K) (hkd:K.desc=.string) (hE:T.inf e=some E)
 (hy:r y=some (.map (some g))) (hz:r z=some (.string x)) (hH:H[i]?=some (g,mapS m)) (h:V (.tuple #[(fndS m x 0).elim E.zero (·.2),.bool (fndS m x 0).isSome])):DoesQ P cx ⟨dst,.lookup t y z true,ty,pos,af,gd⟩ r fz H V:=
 DoesQ.of h fun ρ w hr hi=>by
  have hg:=(hi.hp.own _ (Zm hH)).1;simp only [execOp,hr _ _ hy,hr _ _ hz,Sem.run_bind,YdZ T hT hd hK hkd hE hg,Result.andThen_ok,Sem.run_pure];exact ⟨rfl,Fr.refl _ _⟩
theorem Yhk (T:Tab P) {k:TypeId} {z:Operand} {K E:Ty} {x:Bs} (hT:T.inf t=some X) (hd:X.desc=.map k e) (hK:T.inf k=some K) (hkd:K.desc=.string) (hE:T.inf e=some E)
 (hy:r y=some (.map (some g))) (hz:r z=some (.string x)) (hH:fz g=some (mapS m)) (h:V (.tuple #[(fndS m x 0).elim E.zero (·.2),.bool (fndS m x 0).isSome])):DoesQ P cx ⟨dst,.lookup t y z true,ty,pos,af,gd⟩ r fz H V:=
 DoesQ.of h fun ρ w hr hi=>by
  have hg:=hi.hp.keep _ _ hH;simp only [execOp,hr _ _ hy,hr _ _ hz,Sem.run_bind,YdZ T hT hd hK hkd hE hg,Result.andThen_ok,Sem.run_pure];exact ⟨rfl,Fr.refl _ _⟩
theorem YbR {t k e:TypeId} {y z:Operand} {X K E:Ty} {g:Nat} {m:List (Bs × Value)} {x:Bs} (i:Nat)
 {v:Value} (hv:(fndS m x 0).elim E.zero (·.2)=v) (h:V v) (T:Tab P:=by exact T) (hT:T.inf t=some X:=by exact rfl) (hd:X.desc=.map k e:=by exact rfl) (hK:T.inf k=some K:=by exact rfl) (hkd:K.desc=.string:=by exact rfl) (hE:T.inf e=some E:=by exact rfl) (hy:r y=some (.map (some g)):=by exact rfl) (hz:r z=some (.string x):=by exact rfl) (hH:H[i]?=some (g,mapS m):=by exact rfl):DoesQ P cx ⟨dst,.lookup t y z false,ty,pos,af,gd⟩ r fz H V:=
  YiA T i hT hd hK hkd hE hy hz hH (by rw [hv];exact h)
theorem WU {t k e:TypeId} {y z:Operand} {X K E:Ty} {g:Nat} {m:List (Bs × Value)} {x:Bs}
 (hH:fz g=some (mapS m)) {v:Value} (h:V v) (T:Tab P:=by exact T) (hT:T.inf t=some X:=by exact rfl) (hd:X.desc=.map k e:=by exact rfl) (hK:T.inf k=some K:=by exact rfl) (hkd:K.desc=.string:=by exact rfl) (hE:T.inf e=some E:=by exact rfl) (hy:r y=some (.map (some g)):=by exact rfl) (hz:r z=some (.string x):=by exact rfl) (hv:(fndS m x 0).elim E.zero (·.2)=v):DoesQ P cx ⟨dst,.lookup t y z false,ty,pos,af,gd⟩ r fz H V:=
  YjT T hT hd hK hkd hE hy hz hH (by rw [hv];exact h)
theorem W7 {t k e:TypeId} {y z:Operand} {X K E:Ty} {g:Nat} {m:List (Bs × Value)} {x:Bs} (i:Nat)
 {v:Value} {b:Bool} (hb:(fndS m x 0).isSome=b) (h:V (.tuple #[v,.bool b])) (T:Tab P:=by exact T) (hT:T.inf t=some X:=by exact rfl) (hd:X.desc=.map k e:=by exact rfl) (hK:T.inf k=some K:=by exact rfl) (hkd:K.desc=.string:=by exact rfl) (hE:T.inf e=some E:=by exact rfl) (hy:r y=some (.map (some g)):=by exact rfl) (hz:r z=some (.string x):=by exact rfl) (hH:H[i]?=some (g,mapS m):=by exact rfl) (hv:(fndS m x 0).elim E.zero (·.2)=v):DoesQ P cx ⟨dst,.lookup t y z true,ty,pos,af,gd⟩ r fz H V:=
  Ygn T i hT hd hK hkd hE hy hz hH (by rw [hv,hb];exact h)
theorem YY {t k e:TypeId} {y z:Operand} {X K E:Ty} {g:Nat} {m:List (Bs × Value)} {x:Bs}
 (hH:fz g=some (mapS m)) {v:Value} {b:Bool} (h:V (.tuple #[v,.bool b])) (T:Tab P:=by exact T) (hT:T.inf t=some X:=by exact rfl) (hd:X.desc=.map k e:=by exact rfl) (hK:T.inf k=some K:=by exact rfl) (hkd:K.desc=.string:=by exact rfl) (hE:T.inf e=some E:=by exact rfl) (hy:r y=some (.map (some g)):=by exact rfl) (hz:r z=some (.string x):=by exact rfl) (hv:(fndS m x 0).elim E.zero (·.2)=v) (hb:(fndS m x 0).isSome=b):DoesQ P cx ⟨dst,.lookup t y z true,ty,pos,af,gd⟩ r fz H V:=
  Yhk T hT hd hK hkd hE hy hz hH (by rw [hv,hb];exact h)
theorem XG {t k e:TypeId} {y z u:Operand} {X K:Ty} {g:Nat} {m:List (Bs × Value)} {x:Bs} {v:Value} {pre post:HP} {KK:Value->FZ->HP->Prop}
 (hp:H.Perm (pre++(g,mapS m)::post)) (h:KK undef fz (pre++(g,mapS (updS m x v))::post)) (T:Tab P:=by exact T) (hT:T.inf t=some X:=by exact rfl) (hd:X.desc=.map k e:=by exact rfl) (hK:T.inf k=some K:=by exact rfl) (hkd:K.desc=.string:=by exact rfl) (hy:r y=some (.map (some g)):=by exact rfl) (hz:r z=some (.string x):=by exact rfl) (hu:r u=some v:=by exact rfl):Does P cx ⟨dst,.mapUpdate t y z u,ty,pos,af,gd⟩ r fz H KK:=
  Does.of fun ρ w hr hi=>by
   have hi':=hi.perm hp.symm;have hg:=(hi'.hp.own (g,mapS m) (by simp)).1;have hund:=run_underlying (und_plain T hT hd rfl) w;have hset:∀ o',(Go.setObj g o').run P w=.ok () {w with heap:=w.heap.setIfInBounds g o'}:=fun o'=>by
    simp [Go.setObj,Sem.run,hg,mapS]
   have:(execOp ρ ⟨dst,.mapUpdate t y z u,ty,pos,af,gd⟩).run P w=.ok .skip {w with heap:=w.heap.setIfInBounds g (mapS (updS m x v))}:=by
    simp only [execOp,hr _ _ hy,hr _ _ hz,hr _ _ hu,Sem.run_bind,Instr.mapUpdate,hund,Result.andThen_ok,WE hg,mapS,W5 T hK hkd,Yam T hK hkd];cases hf:fndS m x 0 with
    | none=>
     have hupd:updS m x v=m++ [(x,v)]:=by simp [updS,hf]
     simp only [hset,hupd,YdB,Nat.zero_add,Result.andThen_ok,Sem.run_pure,List.length_append,List.length_cons,List.length_nil,List.push_toArray]
    | some p=>
     obtain ⟨i,u'⟩:=p;have hupd:updS m x v=m.set i (x,v):=by simp [updS,hf]
     have hfs:=Yau m x 0 i u' hf;have hkey:(((Xp m 0).toArray[i]?).map (·.key)).getD (.string x)=.string x:=by
      have:=Ybv m 0 i;simp only [Nat.sub_zero] at hfs;rw [hfs.2] at this;simp [this]
     have hstay:(Instr.keyThatStays (.string x) (.string x)).run P w=.ok (.string x) w:=by
      simp [Instr.keyThatStays,Instr.sameBits,bytes_beq]
     simp only [hkey,hstay,Sem.run_bind,Result.andThen_ok,hset,hupd,Yg4,Sem.run_pure,List.length_set,List.modify_toArray]
   rw [this];exact ⟨fz,_,hi'.setObj,h⟩
variable {x:Operand}
theorem YiB (T:Tab P) {k:TypeId} (hT:T.inf t=some X) (hd:X.desc=.map k e) (hx:r x=some (.map (some g))) (hH:fz g=some (mapS m)) (h:V (Zk m.length)):
 DoesQ P cx ⟨dst,.call {callee:=.builtin .len,args:=#[x],argTypes:=#[t]},ty,pos,af,gd⟩ r fz H V:=
 DoesQ.of h fun ρ w hr hi=>by
  have hg:=hi.hp.keep _ _ hH;have hu:=run_underlying (und_plain T hT hd rfl) w;have:(execOp ρ ⟨dst,.call {callee:=.builtin .len,args:=#[x],argTypes:=#[t]},ty,pos,af,gd⟩).run P w=.ok (.value (Zk m.length)) w:=by
   simp [execOp,resolve,invoke,builtin,hr _ _ hx,Builtin.len_,hu,goInt,WE hg,mapS,YdS]
  rw [this];exact ⟨rfl,Fr.refl _ _⟩
end
section
variable {P:Program} {cx:Cx} {r:Operand->Option Value} {fz:FZ} {H:HP} {dst:Option Nat} {ty:TypeId} {pos:String} {af:Array Edge} {gd:Option (Nat × Bool)} {V:Value->Prop}
theorem YgG {t k e:TypeId} {y:Operand} {X:Ty} {g:Nat} {m:List (Bs × Value)} {KK:Value->FZ->HP->Prop} (hH:fz g=some (mapS m))
 (h:∀ gi,KK (Zp gi) fz ((gi,Yb8 g m.length [])::H)) (T:Tab P:=by exact T) (hT:T.inf t=some X:=by exact rfl) (hd:X.desc=.map k e:=by exact rfl) (hy:r y=some (.map (some g)):=by exact rfl):Does P cx ⟨dst,.range t y,ty,pos,af,gd⟩ r fz H KK:=
 Does.of fun ρ w hr hi=>by
  have hg:=hi.hp.keep _ _ hH;have hund:=run_underlying (und_plain T hT hd rfl) w;have:(execOp ρ ⟨dst,.range t y,ty,pos,af,gd⟩).run P w=.ok (.value (.pointer (some ⟨w.heap.size,0,none⟩))) (w.alloc (Yb8 g m.length [])):=by
   simp only [execOp,hr _ _ hy,Sem.run_bind,Instr.range,hund,Result.andThen_ok,WE hg,mapS,Sem.run_pure,newObj,Sem.run,Yb8];rfl
  rw [this];exact ⟨fz,_,hi.alloc _,h _⟩
variable {g:Nat} {m:List (Bs × Value)} {y:Operand}
theorem YiN {gi:Nat} {seen:List Nat} {H':HP} {KK:Value->FZ->HP->Prop} (hy:r y=some (Zp gi)) (hj:fz g=some (mapS m))
 (hend:(∀ i,i<m.length->i∈seen)->KK (.tuple #[.bool false]) fz ((gi,Yb8 g m.length seen)::H'))
 (hmore:∀ i p,m[i]?=some p->i ∉ seen->KK (.tuple #[.bool true,.string p.1,p.2]) fz ((gi,Yb8 g m.length (seen++ [i]))::H')):Does P cx ⟨dst,.next y false,ty,pos,af,gd⟩ r fz ((gi,Yb8 g m.length seen)::H') KK:=
 Does.of fun ρ w hr hi=>by
  have hit:=(hi.hp.own (gi,Yb8 g m.length seen) (by simp)).1;have hg:=hi.hp.keep _ _ hj
  -- what is left
  have hb:∀ e∈Xp m 0,e.born<m.length:=fun e he=>by
   obtain ⟨i,hi⟩:=List.mem_iff_getElem?.1 he;rw [Ybv] at hi;cases hm:m[i]? with
   | none=>simp [hm] at hi
   | some p=>simp [hm] at hi;subst hi;simpa using (Zg hm).1
  let left:=(Xp m 0).filter fun e=>!seen.contains e.born
  have hold:left.filter (fun e=>decide (e.born<m.length))=left:=List.filter_eq_self.2 fun e he=>by simpa using hb e (List.mem_filter.1 he).1
  have hnew:left.filter (fun e=>decide (e.born>=m.length))=[]:=List.filter_eq_nil_iff.2 fun e he=>by have:=hb e (List.mem_filter.1 he).1;simpa using this
  have hcond:(!seen.toArray.isEmpty && !(Xp m 0).toArray.isEmpty && (Xp m 0).toArray.all (fun e=>decide (e.born>=m.length)))=false:=by
   cases hm:Xp m 0 with
   | nil=>simp
   | cons e r=>
    have:=hb e (by rw [hm];simp);have h2:¬e.born>=m.length:=by omega
    simp [h2]
  have hset:∀ (w1:World) (o':Obj),w1.heap=w.heap->(Go.setObj gi o').run P w1=.ok () {w1 with heap:=w1.heap.setIfInBounds gi o'}:=fun w1 o' hw=>by
   simp [Go.setObj,Sem.run,hw,hit,Yb8]
  have hrun:∃ w1,w1.os=w.os/\w1.tape=w.tape/\w1.output=w.output/\w1.heap=w.heap/\
   ((left=[]/\(execOp ρ ⟨dst,.next y false,ty,pos,af,gd⟩).run P w=.ok (.value (.tuple #[.bool false])) w1)\/
    ∃ e∈left,(execOp ρ ⟨dst,.next y false,ty,pos,af,gd⟩).run P w=.ok (.value (.tuple #[.bool true,e.key,e.val])) {w1 with heap:=w1.heap.setIfInBounds gi (Yb8 g m.length (seen++ [e.born]))}):=by
   have hleftA:(Xp m 0).toArray.filter (fun e=>!seen.toArray.contains e.born)=left.toArray:=by simp [left]
   have holdA:left.toArray.filter (fun e=>decide (e.born<m.length))=left.toArray:=by simp [hold]
   have hnewA:left.toArray.filter (fun e=>decide (e.born>=m.length))=#[]:=by simp [hnew]
   by_cases hl:left=[]
   ·obtain ⟨k,w1,hc,hk,e1,e2,e3,e4⟩:=YdC (P:=P) 1 Zi w;have hk0:k=0:=by omega
    subst hk0;refine ⟨w1,e1,e2,e3,e4,.inl ⟨hl,?_⟩⟩;simp only [execOp,hr _ _ hy,Sem.run_bind,Instr.next,YdI hit,Result.andThen_ok,Yb8,WE hg,mapS,hcond,Bool.false_eq_true,if_false,Sem.run_pure,hleftA,holdA,hnewA];have hcand:(((if left.toArray.isEmpty=true then #[none] else #[])++Array.map some (left.toArray++#[])):Array (Option MapEntry))=#[none]:=by simp [hl]
    have hsz:(#[none]:Array (Option MapEntry)).size=1:=rfl;have hget:(#[none]:Array (Option MapEntry))[0]?=some none:=rfl;simp only [hcand,hsz,hc,Result.andThen_ok,hget,Sem.run_pure]
   have hpos:0<left.length:=List.length_pos_iff.2 hl;obtain ⟨k,w1,hc,hk,e1,e2,e3,e4⟩:=YdC (P:=P) left.length hpos w;refine ⟨w1,e1,e2,e3,e4,.inr ⟨left[k],List.getElem_mem hk,?_⟩⟩;have hemp:left.toArray.isEmpty=false:=by simp [hl]
   have hcand:(((if left.toArray.isEmpty=true then #[none] else #[])++Array.map some (left.toArray++#[])):Array (Option MapEntry))=(left.map some).toArray:=by simp [hemp]
   simp only [execOp,hr _ _ hy,Sem.run_bind,Instr.next,YdI hit,Result.andThen_ok,Yb8,WE hg,mapS,hcond,Bool.false_eq_true,if_false,Sem.run_pure,hleftA,holdA,hnewA,hcand];have hsz:(left.map some).toArray.size=left.length:=by simp
   have hget:(left.map some).toArray[k]?=some (some left[k]):=by simp [hk]
   simp only [hsz,hc,Result.andThen_ok,hget,Sem.run_bind,hset w1 _ e4,Sem.run_pure,List.push_toArray]
  obtain ⟨w1,e1,e2,e3,e4,hh⟩:=hrun;have hi1:Inv cx fz ((gi,Yb8 g m.length seen)::H') w1:=hi.world e1 e2 e3 e4;rcases hh with ⟨hl,hx⟩ | ⟨e,he,hx⟩
  ·rw [hx];refine ⟨fz,_,hi1,hend fun i hil=>?_⟩;rw [List.filter_eq_nil_iff] at hl;obtain ⟨p,hp⟩:∃ p,m[i]?=some p:=⟨_,List.getElem?_eq_getElem hil⟩;have hm:(⟨.string p.1,p.2,i⟩:MapEntry)∈Xp m 0:=Zm (i:=i) (by rw [Ybv,hp];simp);have:=hl _ hm;simpa using this
  rw [hx];obtain ⟨h1,h2⟩:=List.mem_filter.1 he;obtain ⟨i,hii⟩:=List.mem_iff_getElem?.1 h1;rw [Ybv] at hii;cases hm:m[i]? with
  | none=>simp [hm] at hii
  | some p=>
   simp [hm] at hii;subst hii;refine ⟨fz,_,hi1.setObj (pre:=[]),hmore i p hm (by simpa using h2)⟩
variable {i:Nat}
theorem Ygp {gi:Nat} {seen:List Nat} {p:Bs × Value} (j:Nat) (hk:fz g=some (mapS m)) (hp:m[i]?=some p) (h:V (.tuple #[.string p.1,p.2])) (hy:r y=some (Zp gi):=by exact rfl) (hj:H[j]?=some (gi,Yb8 g m.length (seen++ [i])):=by exact rfl):
 DoesQ P cx ⟨dst,.entry y,ty,pos,af,gd⟩ r fz H V:=
 DoesQ.of h fun ρ w hr hi=>by
  have hit:=(hi.hp.own _ (Zm hj)).1;have hg:=hi.hp.keep _ _ hk;have hfind:(Xp m 0).toArray.find? (fun e=>e.born==i)=some ⟨.string p.1,p.2,i⟩:=by
   rw [List.find?_toArray];have key:∀ (m:List (Bs × Value)) (b i:Nat) (p:Bs × Value),m[i]?=some p->(Xp m b).find? (fun e=>e.born==b+i)=some ⟨.string p.1,p.2,b+i⟩:=by
    intro m
    induction m with
    | nil=>intro b i p hp;simp at hp
    | cons q r ih=>
     intro b i p hp;obtain ⟨a,v⟩:=q;cases i with
     | zero=>simp at hp;subst hp;simp [Xp]
     | succ i=>
      have:=ih (b+1) i p (by simpa using hp);simp only [Xp,List.find?_cons];have hne:(b==b+(i+1))=false:=by simp
      simp only [hne];rw [show b+(i+1)=b+1+i from by omega];exact this
   have:=key m 0 i p hp;simpa using this
  have:(execOp ρ ⟨dst,.entry y,ty,pos,af,gd⟩).run P w=.ok (.value (.tuple #[.string p.1,p.2])) w:=by
   simp only [execOp,hr _ _ hy,Sem.run_bind,Instr.entry,YdI hit,Result.andThen_ok,Yb8];simp [WE hg,mapS,hfind]
  rw [this];exact ⟨rfl,Fr.refl _ _⟩
def Yhp:Obj:=.mapIter none 0 #[] 0
variable {X:Ty} {e t:TypeId}
theorem k_rangeN (T:Tab P) {k:TypeId} {KK:Value->FZ->HP->Prop} (hT:T.inf t=some X) (hd:X.desc=.map k e) (hy:r y=some (.map none))
 (h:∀ gi,KK (Zp gi) fz ((gi,Yhp)::H)):Does P cx ⟨dst,.range t y,ty,pos,af,gd⟩ r fz H KK:=
 Does.of fun ρ w hr hi=>by
  have hund:=run_underlying (und_plain T hT hd rfl) w;have:(execOp ρ ⟨dst,.range t y,ty,pos,af,gd⟩).run P w=.ok (.value (.pointer (some ⟨w.heap.size,0,none⟩))) (w.alloc Yhp):=by
   simp only [execOp,hr _ _ hy,Sem.run_bind,Instr.range,hund,Result.andThen_ok,Sem.run_pure,newObj,Sem.run,Yhp];rfl
  rw [this];exact ⟨fz,_,hi.alloc _,h _⟩
theorem k_nextN {gi:Nat} {H':HP} {KK:Value->FZ->HP->Prop} (hy:r y=some (Zp gi))
 (hend:KK (.tuple #[.bool false]) fz ((gi,Yhp)::H')):Does P cx ⟨dst,.next y false,ty,pos,af,gd⟩ r fz ((gi,Yhp)::H') KK:=
 Does.of fun ρ w hr hi=>by
  have hit:=(hi.hp.own (gi,Yhp) (by simp)).1;have hget:(getObj gi).run P w=.ok Yhp w:=by simp [getObj,Sem.run,hit,Yhp]
  have:(execOp ρ ⟨dst,.next y false,ty,pos,af,gd⟩).run P w=.ok (.value (.tuple #[.bool false])) w:=by
   simp only [execOp,hr _ _ hy,Sem.run_bind,Instr.next,hget,Result.andThen_ok,Yhp,Sem.run_pure]
  rw [this];exact ⟨fz,_,hi,hend⟩
end
section
variable {P:Program} {cx:Cx} {r:Operand->Option Value} {fz:FZ} {H:HP} {dst:Option Nat} {ty:TypeId} {pos:String} {af:Array Edge} {gd:Option (Nat × Bool)} {V:Value->Prop}
variable {X:Ty} {e t t':TypeId} {x y:Operand}
theorem YjU (T:Tab P) {p:Option Addr} (hT:T.inf t=some X) (hd:X.desc=.pointer e) (hx:r x=some (.pointer p)) (hy:r y=some (.pointer none)) (h:V (Zo p.isNone)):
 DoesQ P cx ⟨dst,.binOp .eql t x y t',ty,pos,af,gd⟩ r fz H V:=
 YL (fun ρ w hr=>by
  have hu:P.underlying t=some (.pointer (P.pointee t)):=by rw [Program.pointee,und_plain T hT hd rfl]
  simp only [execOp,hr _ _ hx,hr _ _ hy,Sem.run_bind,eqGuard_at_pointer,Sem.run_pure,Result.andThen_ok,run_eql_pointer_nil w t p hu]) h
end
end Go.Lx
namespace Go.Proofs.YtbdpaoikccabhaaGreatDoor
variable {i c n k:Nat} {m:List (Bs × Value)} {fz fz':FZ} {v vp:Value} {A B:Option Addr} {d:Domain} {p:Problem}
def tyM (l:List Param):List (Bs × Value):=l.map fun p=>(p.name,Zy p.typ)
def tyF:List Param->Bs->Option Bs
 | [],_=>none
 | p::r,t=>if t=p.name then some p.typ else tyF r t
theorem Yi1 (t:Bs):∀ (l:List Param) (i:Nat),(fndS (tyM l) t i).map (·.2)=(tyF l t).map Value.string
 | [],_=>rfl
 | p::r,i=>by
  rw [show tyM (p::r)=(p.name,Zy p.typ)::tyM r from rfl,fndS,tyF];split
  ·rfl
  exact Yi1 t r (i+1)
theorem fndS_val {t:Bs} {z:Value}:(fndS m t i).elim z (·.2)=((fndS m t i).map (·.2)).getD z:=by cases fndS m t i<;>rfl
theorem fndS_ok {t:Bs}:(fndS m t i).isSome=((fndS m t i).map (·.2)).isSome:=by cases fndS m t i<;>rfl
theorem Yij {l:List Param} {t:Bs}:(fndS (tyM l) t 0).elim Ze (·.2)=Zy ((tyF l t).getD ⟨#[]⟩):=by
 rw [fndS_val,Yi1];cases tyF l t<;>rfl
theorem Yot {l:List Param} {t:Bs}:(fndS (tyM l) t 0).isSome=(tyF l t).isSome:=by
 rw [fndS_ok,Yi1];cases tyF l t<;>rfl
def ForR (fz:FZ) (v:Value) (l:List Param):Prop:=∃ gf gm,v=Zp gf/\fz gf=some (Zu #[.map (some gm)] 232)/\fz gm=some (mapS (tyM l))
theorem ForR.mono {l:List Param} (h:ForR fz v l) (hle:Le fz fz'):ForR fz' v l:=by
 obtain ⟨gf,gm,h1,h2,h3⟩:=h;exact ⟨gf,gm,h1,hle _ _ h2,hle _ _ h3⟩
def HasT (l:List Param) (t:Bs):Prop:=t=YaK\/(tyF l t).isSome=true
theorem has_q {l:List Param} {t:Bs} (h:ForR fz v l):QFn prog 152 [v,Zy t] fz (Zo (decide (HasT l t))):=by
 obtain ⟨gf,gm,rfl,h1,h2⟩:=h;refine qF Tryz.func152 Tryz.ntmps152 (fun w0=>?_);refine vG ?_;refine YY h2 ?_ (hv:=Yij) (hb:=Yot);refine zV ?_;cases hs:(tyF l t).isSome with
 | true=>
  exact vR (h:=by exact Ys (.inr hs))
 | false=>
  refine vC ?_ ?_<;>intro c1
  ·exact vR (h:=by exact Ys (.inl c1))
  exact vR (h:=by exact Yj (fun h0=>h0.elim c1 (fun h0=>by rw [hs] at h0;cases h0)))
def upT (l:List Param) (t:Bs):Bs:=(tyF l t).getD ⟨#[]⟩
def cycM (l:List Param) (t:Bs):Nat->Bs->Bool
 | 0,_=>false
 | n+1,a=>if upT l a=t then true else if upT l a=YaK then false else cycM l t n (upT l a)
theorem cycle_q {l:List Param} {t:Bs} (h:ForR fz v l) (hn:l.length<=1000000000):QFn prog 153 [v,Zy t] fz (Zo (cycM l t l.length t)):=by
 obtain ⟨gf,gm,rfl,h1,h2⟩:=h;have hlen:(tyM l).length=l.length:=by unfold tyM;simp
 refine qF Tryz.func153 Tryz.ntmps153 (fun w0=>?_);refine vG ?_;refine YiB T Zz Zz Zz h2 ?_;rw [hlen];refine zV ?_;refine Yn (fun q σ fz' H'=>∃ (k:Nat) (a:Bs),k<=l.length/\q=l.length - k/\σ=[(12,Zk k),(11,Zk l.length),(5,Zy a),(0,Zp gf),(1,Zy t)]/\fz=fz'/\H'=[]/\cycM l t (l.length - k) a=cycM l t l.length t) ⟨0,t,Z0 _,rfl,rfl,rfl,rfl,rfl⟩ Zw Zb ?_;rintro q σ fz' H' ⟨k,a,hk,rfl,rfl,rfl,rfl,hh⟩;refine vC ?_ ?_<;>intro c1
 ·have e1:l.length - k=(l.length - (k+1))+1:=by omega
  rw [e1,cycM] at hh;refine vG ?_;refine WU h2 ?_ (hv:=Yij);rw [show (tyF l a).getD ⟨#[]⟩=upT l a from rfl];refine vC ?_ ?_<;>intro c2
  ·rw [if_pos c2] at hh;exact vR (h:=by rw [<- hh])
  rw [if_neg c2] at hh;refine vC ?_ ?_<;>intro c3
  ·rw [if_pos (show upT l a=YaK from c3)] at hh;exact vR (h:=by rw [<- hh])
  rw [if_neg (show ¬upT l a=YaK from c3)] at hh;exact vP (h:=by exact ⟨k+1,upT l a,by omega,rfl,rfl,rfl,rfl,hh⟩)
 have e1:l.length - k=0:=by omega
 rw [e1] at hh;exact vR (h:=by rw [<- hh];rfl)
def upN (l:List Param):Nat->Bs->Prop
 | 0,t=>t=YaK
 | n+1,t=>t≠YaK/\upN l n (upT l t)
def chN (l:List Param):Nat->Bs->List Bs
 | 0,t=>[t]
 | n+1,t=>t::chN l n (upT l t)
theorem Yon {l:List Param}:∀ {n m:Nat} {t:Bs},upN l n t->upN l m t->n=m
 | 0,0,_,_,_=>rfl
 | 0,m+1,t,h1,h2=>absurd h1 h2.1
 | n+1,0,t,h1,h2=>absurd h2 h1.1
 | n+1,m+1,t,h1,h2=>by rw [Yon h1.2 h2.2]
theorem Yom {l:List Param} (hs:∀ p∈l,Short p.typ) {t:Bs}:Short (upT l t):=by
 unfold upT
 induction l with
 | nil=>show Short ⟨#[]⟩;unfold Short;decide
 | cons p r ih=>
  rw [tyF];split
  ·exact hs p (by simp)
  exact ih (fun q hq=>hs q (by simp [hq]))
theorem WY:OneC strL:=by
 intro fz d cs h u hu;obtain ⟨rfl,_⟩:=h;simp at hu;subst hu;rfl
theorem above_q {l:List Param} {t:Bs} {m:Nat} (h:ForR fz v l) (hs:∀ p∈l,Short p.typ) (ht:Short t) (hm:m<=1000000000) (hu:upN l m t):
 GFn prog 184 [v,Zy t] fz [] (fun v fz' H'=>H'=[]/\∃ A c,v=Zc A (m+1) c/\Sl strL fz' A (m+1) c (chN l m t)):=by
 obtain ⟨gf,gm,rfl,h1,h2⟩:=h;refine zF Tryz.func184 Tryz.ntmps184 (fun w0=>?_);refine zV ?_;refine Yd (Yc (cs:=[Zy t]) (fun gb=>?_));refine zV ?_;refine Yn (fun q σ fz' H'=>∃ (k n:Nat) (a:Bs) (vo:Value) (Ho:HP) (out:List Bs),k<=m/\q=m - k/\n=k+1/\σ=[(5,vo),(0,Zp gf),(1,Zy a)]/\fz=fz'/\H'=Ho/\Short a/\upN l (m - k) a/\Grow strL 9 fz vo n Ho (out++ [a])/\out++chN l (m - k) a=chN l m t)
  ⟨0,1,t,_,_,[],Z0 _,rfl,rfl,rfl,rfl,rfl,ht,hu,Grow.block (ys:=[(t,[Zy t])]) rfl rfl (by intro p hp;simp only [List.mem_singleton] at hp;subst hp;exact ⟨rfl,ht⟩) rfl,rfl⟩ Zw Zb ?_
 rintro q σ fz' H' ⟨k,n,a,vo,Ho,out,hk,rfl,rfl,rfl,rfl,rfl,ha,hua,hG,hh⟩;obtain ⟨Ao,co,rfl,_,_⟩:=hG.form;refine vC ?_ ?_<;>intro c1
 ·have e1:m - k=(m - (k+1))+1:=by
   have:m - k≠0:=fun h0=>by rw [h0] at hua;exact c1 hua
   omega
  rw [e1] at hua hh;refine vG ?_;refine WU h2 ?_ (hv:=Yij);rw [show (tyF l a).getD ⟨#[]⟩=upT l a from rfl];have hsu:=Yom hs (t:=a);refine zV ?_;refine Yd (Yc (cs:=[Zy (upT l a)]) (fun gc=>?_));refine Yd (YG (Hr:=[_]) (d:=upT l a) (Zr _) hG WY (.head _) ⟨rfl,hsu⟩ (fun v' Hs' hO'=>?_));obtain ⟨Av',cv',rfl,_,_⟩:=hO'.form;exact vP (h:=by exact ⟨k+1,_,upT l a,_,Hs',out++ [a],by omega,rfl,rfl,rfl,rfl,rfl,hsu,hua.2,hO',by rw [<- hh,chN];simp⟩)
 have e1:m - k=0:=by
  cases hd:m - k with
  | zero=>rfl
  | succ j=>rw [hd] at hua;exact absurd c1 hua.1
 rw [e1] at hh;have hkm:k=m:=by omega
 subst hkm;refine zV ?_;refine Yb1 rfl rfl (fun fz3 hle3 hf3=>?_);obtain ⟨A',c',he,hsl⟩:=hG.sl hle3 hf3 Zi;injection he with x1 x2 x3
 subst x1 x3;exact ⟨rfl,_,_,rfl,by rw [<- hh];exact hsl⟩
def WFT (l:List Param):Prop:=(∀ p∈l,Short p.typ)/\∀ t,HasT l t->∃ m,m<=1000/\upN l m t
def IsT (l:List Param) (a b:Bs):Prop:=HasT l a/\HasT l b/\∃ m,upN l m a/\b∈chN l m a
theorem YpB {l:List Param} {a b:Bs} {m:Nat} (h:upN l m a):(∃ m,upN l m a/\b∈chN l m a)↔b∈chN l m a:=
 ⟨fun ⟨k,h1,h2⟩=>by rw [Yon h h1];exact h2,fun h2=>⟨m,h,h2⟩⟩
theorem is_q {l:List Param} {a b:Bs} (h:ForR fz v l) (hw:WFT l) (ha:Short a):QFn prog 93 [v,Zy a,Zy b] fz (Zo (decide (IsT l a b))):=by
 have h0:=h;obtain ⟨gf,gm,rfl,h1,h2⟩:=h;refine qF Tryz.func93 Tryz.ntmps93 (fun w0=>?_);refine vb (has_q h0) (fun f1=>?_) (fun f1=>?_)
 ·have hA:=Zt f1;refine vb (has_q h0) (fun f2=>?_) (fun f2=>?_)
  ·have hB:=Zt f2;obtain ⟨m,hm,hu⟩:=hw.2 a hA;refine zV ?_;refine Wm (Yk [] _ Zz (above_q h0 hw.1 ha Zi hu) (fun v6 fz6 H6 hle6 hR6=>?_));obtain ⟨rfl,B6,cc6,rfl,hs6⟩:=hR6;refine vb (YdT (x:=b) hs6) (fun f3=>?_) (fun f3=>?_)
   ·exact vR (h:=by exact (Ys ⟨hA,hB,(YpB hu).2 (Zt f3)⟩))
   exact vR (h:=by exact Yj (fun h=>Zf f3 ((YpB hu).1 h.2.2)))
  exact vR (h:=by exact Yj (fun h=>Zf f2 h.2.1))
 exact vR (h:=by exact Yj (fun h=>Zf f1 h.1))
def ofT (l:List Param) (t:Bs) (os:List Param):List Bs:=(os.filter fun o=>decide (IsT l o.typ t)).map (·.name)
theorem of_q {l os:List Param} {t:Bs} (h:ForR fz v l) (hw:WFT l) (ho:Sl paramL fz A n c os) (hn:n<=1000000000):
 GFn prog 50 [v,Zc A n c,Zy t] fz [] (fun v fz' H'=>H'=[]/\∃ B m cc,v=Zc B m cc/\Sl strL fz' B m cc (ofT l t os)):=by
 have h0:=h;obtain ⟨gf,gm,rfl,h1,h2⟩:=h;have lo:=ho.len;have so:=ho.short;refine zF Tryz.func50 Tryz.ntmps50 (fun w0=>?_);refine zV ?_;refine Yn (fun q σ fz' H'=>∃ (k m:Nat) (vo:Value) (Ho:HP),k<=n/\q=n - k/\m<=k/\σ=[(12,Zk k),(11,Zk n),(10,Zc A n c),(7,vo),(0,Zp gf),(2,Zy t)]/\Le fz fz'/\H'=Ho/\Grow strL 9 fz' vo m Ho (ofT l t (os.take k)))
  ⟨0,0,_,[],Z0 _,rfl,Zs _,rfl,Zd,rfl,Grow.nil _ _ _⟩ Zw Zb ?_
 rintro q σ fz' H' ⟨k,m,vo,Ho,hk,rfl,hmk,rfl,hlk,rfl,hG⟩;obtain ⟨Ao,co,rfl,_,_⟩:=hG.form;have ok:=ho.mono hlk;refine vC ?_ ?_<;>intro c1
 ·obtain ⟨x,hx⟩:=Yf (l:=os) (k:=k) Zi;refine vI ok hx (fun p hp=>?_);refine zL hp ?_;intro cs hcs;obtain ⟨rfl,hR⟩:=YM hcs;refine zV ?_;intros;refine zb (is_q (h0.mono hlk) hw hR.typ) (fun f1=>?_) (fun f1=>?_)
  ·have e1:ofT l t (os.take (k+1))=ofT l t (os.take k)++ [x.name]:=by
    rw [List.take_add_one,hx];simp [ofT,Zt f1]
   refine zV ?_;refine Yd (Yc (cs:=[Zy x.name]) (fun gc=>?_));refine Yd (YG (Hr:=[_,_]) (d:=x.name) (Zr _) hG WY (.head _) ⟨rfl,hR.name⟩ (fun v' Hs' hO'=>?_));obtain ⟨Av',cv',rfl,_,_⟩:=hO'.form;exact vP (h:=by exact ⟨k+1,m+1,_,Hs',by omega,rfl,by omega,rfl,hlk,rfl,hO'.of e1.symm rfl⟩)
  have e1:ofT l t (os.take (k+1))=ofT l t (os.take k):=by
   rw [List.take_add_one,hx];simp [ofT,Zf f1]
  exact vP (h:=by exact ⟨k+1,m,_,_,by omega,rfl,by omega,rfl,hlk,rfl,hG.of e1.symm rfl⟩)
 have hk1:n=k:=by omega
 subst hk1;rw [show os.take n=os from Zl Zi] at hG;refine zV ?_;refine Yb1 rfl rfl (fun fz3 hle3 hf3=>?_);obtain ⟨A',c',he,hsl⟩:=hG.sl hle3 hf3 Zi;injection he with x1 x2 x3
 subst x1 x3;exact ⟨rfl,_,_,_,rfl,hsl⟩
def YdV (m:List (Bs × Value)) (ks:List Bs):Prop:=∀ x,valS m x=if x∈ks then some (Zo true) else none
theorem YdV.nil:YdV [] []:=fun x=>by rw [valS_nil,if_neg (by simp)]
theorem YdV.add {ks:List Bs} (h:YdV m ks) (x:Bs):YdV (updS m x (Zo true)) (ks++ [x]):=fun y=>by
 rw [Yco,h y];by_cases h1:y=x
 ·rw [if_pos h1,if_pos (by simp [h1])]
 rw [if_neg h1];by_cases h2:y∈ks
 ·rw [if_pos h2,if_pos (by simp [h2])]
 rw [if_neg h2,if_neg (by simp [h1,h2])]
theorem YdV.get {ks:List Bs} (h:YdV m ks) {x:Bs}:(fndS m x 0).elim (Zo false) (·.2)=Zo (decide (x∈ks)):=by
 rw [Yht,h x];by_cases h2:x∈ks
 ·rw [if_pos h2,decide_eq_true h2];rfl
 rw [if_neg h2,decide_eq_false h2];rfl
def TwP (others l:List Bs):Prop:=∃ k x,l[k]?=some x/\x∈others++l.take k
theorem Yl8 {others l:List Bs} (hh:∀ i,i<k->∀ x,l[i]?=some x->x ∉ others++l.take i) (hk:l.length<=k):¬TwP others l:=by
 rintro ⟨i,x,h1,h2⟩;have:=(Zg h1).1;exact hh i Zi x h1 h2
def parN (l:List Param):List Bs:=l.map (·.name)
theorem Ymq {l:List Param} {x:Param} (h:l[k]?=some x):(parN l)[k]?=some x.name:=by unfold parN;rw [List.getElem?_map,h];rfl
theorem YfU {l:List Param}:(parN l).length=l.length:=List.length_map ..
theorem Yb4 {l:List Param}:parN (l.take k)=(parN l).take k:=List.map_take ..
theorem Yk9 {m d:Nat} {l others:List Param} (h1:Sl paramL fz A n c l) (h2:Sl paramL fz B m d others):
 QFn prog 143 [Zc A n c,Zc B m d] fz (errV (if TwP (parN others) (parN l) then 4 else 0)):=by
 have l1:=h1.len;have l2:=h2.len;have s1:=h1.short;have s2:=h2.short;refine qF Tryz.func143 Tryz.ntmps143 (fun w0=>?_);refine zV ?_;refine Yd (Xx (fun gm=>?_));refine zV ?_;refine Yn (fun q σ fz' H'=>∃ (k:Nat) (ms:List (Bs × Value)),k<=m/\q=m - k/\σ=[(13,Zk k),(12,Zk m),(11,Zc B m d),(5,.map (some gm)),(0,Zc A n c)]/\fz=fz'/\H'=[(gm,mapS ms)]/\YdV ms (parN (others.take k))) ⟨0,[],Z0 _,rfl,rfl,rfl,rfl,YdV.nil⟩ Zw Zb ?_;rintro q σ fz' H' ⟨k,ms,hk,rfl,rfl,rfl,rfl,hS⟩;refine vC ?_ ?_<;>intro c1
 ·obtain ⟨x,hx⟩:=Yf (l:=others) (k:=k) Zi;refine vI h2 hx (fun p hp=>?_);refine zL hp ?_;intro cs hcs;obtain ⟨rfl,hR⟩:=YM hcs;refine zV ?_;intros;refine YI (XG (pre:=[_]) (Zr _) ?_);exact vP (h:=by exact ⟨k+1,_,by omega,rfl,rfl,rfl,rfl,by rw [List.take_add_one,hx];simpa [parN] using hS.add x.name⟩)
 rw [Zl Zi] at hS;refine zV ?_;refine Yn (fun q σ fz' H'=>∃ (k:Nat) (ms:List (Bs × Value)),k<=n/\q=n - k/\σ=[(23,Zk k),(22,Zk n),(21,Zc A n c),(5,.map (some gm))]/\fz=fz'/\H'=[(gm,mapS ms)]/\YdV ms (parN others++parN (l.take k))/\(∀ i,i<k->∀ x,(parN l)[i]?=some x->x ∉ parN others++(parN l).take i)) ⟨0,ms,Z0 _,rfl,rfl,rfl,rfl,by simpa [parN] using hS,fun i hi=>absurd hi Zi⟩ Zw Zb ?_;rintro q σ fz' H' ⟨k,ms,hk,rfl,rfl,rfl,rfl,hS,hh⟩;refine vC ?_ ?_<;>intro c2
 ·obtain ⟨x,hx⟩:=Yf (l:=l) (k:=k) Zi;have hxn:=Ymq hx;refine vI h1 hx (fun p hp=>?_);refine zL hp ?_;intro cs hcs;obtain ⟨rfl,hR⟩:=YM hcs;refine zV ?_;intros;refine zG ?_;refine YbR 1 hS.get ?_;refine zV ?_;by_cases hm:x.name∈parN others++parN (l.take k)
  ·rw [decide_eq_true hm];exact vR (h:=by rw [if_pos ⟨k,x.name,hxn,by rw [<- Yb4];exact hm⟩];rfl)
  rw [decide_eq_false hm];refine zV ?_;refine YI (XG (pre:=[_]) (Zr _) ?_);exact vP (h:=by exact ⟨k+1,_,by omega,rfl,rfl,rfl,rfl,by rw [List.take_add_one,hx];simpa [parN] using hS.add x.name,Yby (p:=fun i x=>x ∉ parN others++(parN l).take i) hh hxn (by rw [<- Yb4];exact hm)⟩)
 exact vR (h:=by rw [if_neg (Yl8 hh (by rw [YfU];omega))];rfl)
def CkR (fz:FZ) (v:Value) (d:Domain) (p:Problem) (all:List Param) (vf vp vg vo:Value):Prop:=∃ gc v1 v2 v3 v4 v5 v6 u1 u2 u3 u4 u5 u6 u7 Aa na ca,v=Zp gc/\
 fz gc=some (Zu #[Zy d.name,v1,v2,v3,v4,v5,v6,Zy p.name,Zy p.domain,u1,u2,u3,Zy p.goal.op,Zy p.goal.name,u4,u5,u6,u7,vf,vp,vg,vo,Zc Aa na ca] 157)/\
 DomainR fz d v1 v2 v3 v4 v5 v6/\ProblemR fz p u1 u2 u3 u4 u5 u6 u7/\Sl paramL fz Aa na ca all
theorem CkR.mono {all:List Param} {vf vg vo:Value} (h:CkR fz v d p all vf vp vg vo) (hle:Le fz fz'):CkR fz' v d p all vf vp vg vo:=by
 obtain ⟨gc,v1,v2,v3,v4,v5,v6,u1,u2,u3,u4,u5,u6,u7,Aa,na,ca,h1,h2,h3,h4,h5⟩:=h;exact ⟨gc,v1,v2,v3,v4,v5,v6,u1,u2,u3,u4,u5,u6,u7,Aa,na,ca,h1,hle _ _ h2,h3.mono hle,h4.mono hle,h5.mono hle⟩
def ExP (tys l:List Param):Prop:=∀ p∈l,HasT tys p.typ
theorem YlH {all l tys:List Param} {vf vg vo:Value} (h:CkR fz v d p all vf vp vg vo) (hf:ForR fz vf tys) (h1:Sl paramL fz A n c l):
 QFn prog 144 [v,Zc A n c] fz (errV (if ExP tys l then 0 else 3)):=by
 obtain ⟨gc,v1,v2,v3,v4,v5,v6,u1,u2,u3,u4,u5,u6,u7,Aa,na,ca,rfl,hc,hD,hP,hall⟩:=h;have hf0:=hf;obtain ⟨gf,gm,rfl,hf1,hf2⟩:=hf;have l1:=h1.len;have s1:=h1.short;refine qF Tryz.func144 Tryz.ntmps144 (fun w0=>?_);refine zV ?_;refine WD n (fun k=>[(9,Zk k),(8,Zk n),(7,Zc A n c),(0,Zp gc)]) [] (fun k=>(∀ i,i<k->∀ x,l[i]?=some x->HasT tys x.typ)) (fun i hi=>absurd hi Zi) ?_;intro k hk hh;refine vC ?_ ?_<;>intro c1
 ·obtain ⟨x,hx⟩:=Yf (l:=l) (k:=k) Zi;refine vI h1 hx (fun p1 hp=>?_);refine zL hp ?_;intro cs hcs;obtain ⟨rfl,hR⟩:=YM hcs;refine zV ?_;intros;refine zb (has_q hf0) (fun f1=>?_) (fun f1=>?_)
  ·exact vM (h:=by exact YH hh hx (Zt f1))
  exact vR (h:=by rw [if_neg (fun h0=>Zf f1 (h0 x (Zm hx)))];rfl)
 have hA:=Xc hh Zi;exact vR (h:=by rw [if_pos (show ExP tys l from hA)];rfl)
def repM:List Bs->List Param->Option Bs
 | _,[]=>none
 | seen,x::r=>if x.name∈seen then some x.typ else repM (seen++ [x.name]) r
theorem YoS:∀ {l:List Param} {k:Nat} {x:Param} {seen:List Bs},l[k]?=some x->(∀ i,i<k->∀ y,l[i]?=some y->y.name ∉ seen++(parN l).take i)->repM seen l=repM (seen++(parN l).take k) (l.drop k)
 | [],k,x,_,h,_=>by simp at h
 | y::r,0,x,seen,h,_=>by simp
 | y::r,k+1,x,seen,h,hh=>by
  have h0:=hh 0 Zi y rfl;rw [List.take_zero,List.append_nil] at h0;rw [repM,if_neg h0,YoS (l:=r) (k:=k) (x:=x) (seen:=seen++ [y.name]) (by simpa using h) (fun i hi z hz=>by
   have:=hh (i+1) Zi z (by simpa using hz);simpa [parN] using this)]
  simp [parN]
theorem YjO:∀ {l:List Param} {seen:List Bs},(∀ i x,l[i]?=some x->x.name ∉ seen++(parN l).take i)->repM seen l=none
 | [],_,_=>rfl
 | y::r,seen,hh=>by
  have h0:=hh 0 y rfl;rw [List.take_zero,List.append_nil] at h0;rw [repM,if_neg h0];exact YjO (fun i z hz=>by
   have:=hh (i+1) z (by simpa using hz);simpa [parN] using this)
def repV (o:Option Bs):Value:=.tuple #[Zy (o.getD ⟨#[]⟩),errV (if o.isSome=true then 4 else 0)]
theorem YeP {l:List Param} (h1:Sl paramL fz A n c l):
 QFn prog 205 [Zc A n c] fz (repV (repM [] l)):=by
 have l1:=h1.len;have s1:=h1.short;refine qF Tryz.func205 Tryz.ntmps205 (fun w0=>?_);refine zV ?_;refine Yd (Xx (fun gm=>?_));refine zV ?_;refine Yn (fun q σ fz' H'=>∃ (k:Nat) (ms:List (Bs × Value)),k<=n/\q=n - k/\σ=[(10,Zk k),(9,Zk n),(8,Zc A n c),(4,.map (some gm))]/\fz=fz'/\H'=[(gm,mapS ms)]/\YdV ms (parN (l.take k))/\(∀ i,i<k->∀ x,l[i]?=some x->x.name ∉ []++(parN l).take i)) ⟨0,[],Z0 _,rfl,rfl,rfl,rfl,YdV.nil,fun i hi=>absurd hi Zi⟩ Zw Zb ?_;rintro q σ fz' H' ⟨k,ms,hk,rfl,rfl,rfl,rfl,hS,hh⟩;refine vC ?_ ?_<;>intro c2
 ·obtain ⟨x,hx⟩:=Yf (l:=l) (k:=k) Zi;refine vI h1 hx (fun p hp=>?_);refine zL hp ?_;intro cs hcs;obtain ⟨rfl,hR⟩:=YM hcs;refine zV ?_;intros;refine zG ?_;refine YbR 1 hS.get ?_;refine zV ?_;by_cases hm:x.name∈parN (l.take k)
  ·have e1:repM [] l=some x.typ:=by
    rw [YoS hx hh];have hd:l.drop k=x::l.drop (k+1):=by
     have:=List.drop_eq_getElem_cons (l:=l) (i:=k) (Zg hx).1;rw [this,(Zg hx).2]
    rw [hd,repM,if_pos (by rw [List.nil_append,<- Yb4];exact hm)]
   rw [decide_eq_true hm];exact vS (h:=by rw [e1];rfl)
  rw [decide_eq_false hm];refine zV ?_;refine YI (XG (pre:=[_]) (Zr _) ?_);exact vP (h:=by exact ⟨k+1,_,by omega,rfl,rfl,rfl,rfl,by rw [List.take_add_one,hx];simpa [parN] using hS.add x.name,Yby (p:=fun i x=>x.name ∉ []++(parN l).take i) hh hx (by rw [List.nil_append,<- Yb4];exact hm)⟩)
 have e1:repM [] l=none:=YjO (fun i x hx=>hh i (by have:=(Zg hx).1;omega) x hx);exact vS (h:=by rw [e1];rfl)
end Go.Proofs.YtbdpaoikccabhaaGreatDoor
namespace Go.Lx
open Go.RowKit
section
variable {P:Program} {cx:Cx} {r:Operand->Option Value} {fz:FZ} {H:HP} {dst:Option Nat} {ty:TypeId} {pos:String} {af:Array Edge} {gd:Option (Nat × Bool)} {V:Value->Prop}
def updH (fz:FZ):HP->FZ
 | []=>fz
 | p::r=>upd (updH fz r) p.1 p.2
theorem Yl6 {fz:FZ}:∀ {H:HP},(H.map Prod.fst).Nodup->∀ p∈H,updH fz H p.1=some p.2
 | [],_,p,hp=>by cases hp
 | q::r,hn,p,hp=>by
  rw [List.map_cons,List.nodup_cons] at hn;rw [updH,upd];rcases List.mem_cons.1 hp with rfl | hp
  ·rw [if_pos rfl]
  rw [if_neg (fun h0=>hn.1 (by rw [<- h0];exact List.mem_map_of_mem hp)),Yl6 hn.2 p hp]
theorem Yok {fz:FZ}:∀ {H:HP},(∀ p∈H,fz p.1=none)->Le fz (updH fz H)
 | [],_=>Zd
 | q::r,h=>fun b o hb=>by
  rw [updH,upd,if_neg (fun h0=>by rw [h0,h q (by simp)] at hb;cases hb)];exact Yok (fun p hp=>h p (by simp [hp])) b o hb
theorem Yol {fz:FZ}:∀ {H:HP} {b:Nat} {o:Obj},updH fz H b=some o->fz b=some o\/(b,o)∈H
 | [],_,_,h=>.inl h
 | q::r,b,o,h=>by
  rw [updH,upd] at h;split at h
  ·rename_i hb;injection h with h;subst hb h;exact .inr (by simp)
  rcases Yol h with h | h
  ·exact .inl h
  exact .inr (by simp [h])
variable {w:World}
theorem Hp.all (h:Hp fz H w):Hp (updH fz H) [] w:=
 ⟨fun b o hb=>(Yol hb).elim (h.keep b o) (fun hm=>(h.own _ hm).1),by simp,by simp⟩
theorem Hp.allLe (h:Hp fz H w):Le fz (updH fz H)/\∀ p∈H,updH fz H p.1=some p.2:=⟨Yok fun p hp=>(h.own p hp).2,Yl6 h.nd⟩
variable {v:Value}
theorem WF {f:FuncId} {xs:List Operand} {ats:Array TypeId} {vs:List Value} (hq:∀ fz',Le fz fz'->(∀ p∈H,fz' p.1=some p.2)->QFn P f vs fz' v) (h:V v) (hx:rds r xs=some vs:=by exact rfl) (hf:r (.func f)=some (.func (.func f) #[] #[]):=by exact rfl):
 DoesQ P cx ⟨dst,.call {callee:=.value (.func f),args:=xs.toArray,argTypes:=ats},ty,pos,af,gd⟩ r fz H V:=
 DoesQ.of h fun ρ w hr hw=>by
  have hq':=hq _ hw.hp.allLe.1 hw.hp.allLe.2;unfold QFn at hq';rw [Yd0 hr (first:=[]) (capt:=[]) hf hx (vs:=vs) (by simp) hq'.1];exact (hq'.2 w hw.hp.all).mono fun e w' ⟨he,hfr⟩=>⟨v,he,rfl,hfr⟩
variable {b:Bool}
theorem Ycu {f:FuncId} {xs:List Operand} {ats:Array TypeId} {vs:List Value} (hq:∀ fz',Le fz fz'->(∀ p∈H,fz' p.1=some p.2)->QFn P f vs fz' (Zo b)) (h1:b=true->V (Zo true)) (h2:b=false->V (Zo false)) (hx:rds r xs=some vs:=by exact rfl) (hf:r (.func f)=some (.func (.func f) #[] #[]):=by exact rfl):
 DoesQ P cx ⟨dst,.call {callee:=.value (.func f),args:=xs.toArray,argTypes:=ats},ty,pos,af,gd⟩ r fz H V:=
 WF hq (v_bool h1 h2) (hx:=hx) (hf:=hf)
theorem q_callvU {f:FuncId} {ff:Operand} {xs:List Operand} {ats:Array TypeId} {us vs first capt:List Value} (hf:r ff=some (.func (.func f) first.toArray capt.toArray)) (hx:rds r xs=some us) (hv:first++us++capt=vs) (hq:∀ fz',Le fz fz'->(∀ p∈H,fz' p.1=some p.2)->QFn P f vs fz' v) (h:V v):
 DoesQ P cx ⟨dst,.call {callee:=.value ff,args:=xs.toArray,argTypes:=ats},ty,pos,af,gd⟩ r fz H V:=
 DoesQ.of h fun ρ w hr hw=>by
  have hq':=hq _ hw.hp.allLe.1 hw.hp.allLe.2;unfold QFn at hq';rw [Yd0 hr hf hx hv hq'.1];exact (hq'.2 w hw.hp.all).mono fun e w' ⟨he,hfr⟩=>⟨v,he,rfl,hfr⟩
variable {X Y:Ty} {g n:Nat} {x:Operand}
theorem Wk (T:Tab P) {t e:Nat} {i:Operand} {k:IntKind} {j:Int} (hT:T.inf t=some X) (hd:X.desc=.array n e) (hY:T.inf e=some Y)
 (hx:r x=some (Zp g)) (hi:r i=some (.int k j)) (h0:0<=j) (hn:j<n) (h:V (.pointer (some ((⟨g,0,none⟩:Addr).add (j.toNat*Y.size))))):DoesQ P cx ⟨dst,.indexAddr t x i,ty,pos,af,gd⟩ r fz H V:=
 YL (fun ρ w hr=>by
  have hu:=run_underlying (und_plain T hT hd rfl) w;have hs:=Lx.run_sizeOf T hY w;simp [execOp,hr _ _ hx,hr _ _ hi,Instr.indexAt,asIntOf,hu,hs,h0,hn,Instr.sureAddr]) h
theorem YiD {t e n:Nat} {x i:Operand} {X Y:Ty} {k:IntKind} {j:Int} {cs:List Value} {v:Value}
 (h:V v) (T:Tab P:=by exact T) (hT:T.inf t=some X:=by exact rfl) (hd:X.desc=.array n e:=by exact rfl) (hY:T.inf e=some Y:=by exact rfl) (hY1:Y.size=1:=by exact rfl) (hA:Wc Y.desc=false:=by exact rfl) (hx:r x=some (.agg cs.toArray):=by exact rfl) (hi:r i=some (.int k j):=by exact rfl) (h0:0<=j:=by decide) (hn:j<n:=by decide) (hv:cs[j.toNat]?=some v:=by exact rfl):DoesQ P cx ⟨dst,.index t x i,ty,pos,af,gd⟩ r fz H V:=
  YL (fun ρ w hr=>by
   have hu:=run_underlying (und_plain T hT hd rfl) w;have hs:=Lx.run_sizeOf T hY w;have hv2:=Lx.run_isAgg T hY w;rw [hA] at hv2;simp [execOp,hr _ _ hx,hr _ _ hi,Instr.index,asIntOf,hu,hs,h0,hn,hY1,part,hv2,hv]) h
end
end Go.Lx
