/- The texts KE, KF, KG, KI, NW, NX, NY, PNum, QNum, Rcm, QLw, NZ, NI, NK, YS, YT, PSize, NN, KH, PChk, laid together. Conditions: none. -/
import Derived.Test.YtiligkgjcmokbaaGreatDoorKSO
set_option linter.all false
set_option maxHeartbeats 8000000
set_option maxRecDepth 20000
open Go.Lx Go.RowKit
attribute [local instance 10] Classical.propDecidable
open Go.Proofs.Tryz (prog)
namespace Go.Proofs.YtiligkgjcmokbaaGreatDoor
variable {α:Type} {all:List Param} {l:List α}
structure LkE (d e:Domain) (all all':List Param):Prop where
 p:∀ x,fstP d.predicates x=fstP e.predicates x
 f:∀ x,fstF d.functions x=fstF e.functions x
 t:∀ x,tyF d.types x=tyF e.types x
 o:∀ x,tyF all x=tyF all' x
theorem upT_lk {l r:List Param} (h:∀ x,tyF l x=tyF r x) (a:Bs):upT l a=upT r a:=by unfold upT;rw [h]
theorem Yp0 {l r:List Param} (h:∀ x,tyF l x=tyF r x) (a:Bs):HasT l a↔HasT r a:=by unfold HasT;rw [h]
theorem chN_lk {l r:List Param} (h:∀ x,tyF l x=tyF r x):∀ (m:Nat) (a:Bs),chN l m a=chN r m a
 | 0,a=>rfl
 | m+1,a=>by rw [chN,chN,upT_lk h,chN_lk h m]
theorem upN_lk {l r:List Param} (h:∀ x,tyF l x=tyF r x):∀ (m:Nat) (a:Bs),upN l m a↔upN r m a
 | 0,a=>Iff.rfl
 | m+1,a=>by rw [upN,upN,upT_lk h,upN_lk h m]
theorem isT_lk {l r:List Param} (h:∀ x,tyF l x=tyF r x) (a b:Bs):IsT l a b↔IsT r a b:=by
 unfold IsT;simp only [Yp0 h,upN_lk h,chN_lk h]
theorem Yqh {l r:List Param} (h:∀ x,tyF l x=tyF r x) (ps:List Param):ExP l ps↔ExP r ps:=by
 unfold ExP;simp only [Yp0 h]
section
variable {d e:Domain} {all all':List Param} (h:LkE d e all all')
include h
theorem Yqa (vars:List Param) (t:Bs):Ydn all vars t=Ydn all' vars t:=by unfold Ydn;rw [h.o]
theorem Yok (vars:List Param):Ya9 d all vars=Ya9 e all' vars:=by
 funext z
 unfold Ya9;rw [Yqa h];cases Ydn all' vars z.1 with
 | none=>rfl
 | some t=>simp only [isT_lk h.t]
theorem YqV (vars:List Param) (args:List Bs) (ps:List Param):YjM d all vars args ps=YjM e all' vars args ps:=by unfold YjM;rw [Yok h]
theorem atom_lk (vars:List Param) (name:Bs) (args:List Bs):atomM d all vars name args=atomM e all' vars name args:=by
 unfold atomM;rw [h.p];cases fstP e.predicates name with
 | none=>rfl
 | some p=>exact YqV h _ _ _
theorem flu_lk (vars:List Param) (name:Bs) (args:List Bs):fluM d all vars name args=fluM e all' vars name args:=by
 unfold fluM;rw [h.f];cases fstF e.functions name with
 | none=>rfl
 | some p=>exact YqV h _ _ _
theorem own_lk (vars:List Param) (op:Bs) (args:List Bs) (ps:List Param):ownM d all vars op args ps=ownM e all' vars op args ps:=by
 unfold ownM;simp only [Yqa h,Yqh h.t]
mutual
theorem expr_lk (vars:List Param):∀ x:Lx.Expr,exprM d all vars x=exprM e all' vars x
 | .mk op name n args kids=>by rw [exprM,exprM,flu_lk h,exprL_lk vars kids]
theorem exprL_lk (vars:List Param):∀ l:List Lx.Expr,exprML d all vars l=exprML e all' vars l
 | []=>by rw [exprML,exprML]
 | k::r=>by rw [exprML,exprML,expr_lk vars k,exprL_lk vars r]
end
mutual
theorem form_lk:∀ (vars:List Param) (x:Formula),formM d all vars x=formM e all' vars x
 | vars,.mk op name args params exprs kids=>by rw [formM,formM,atom_lk h,own_lk h,exprL_lk h,formL_lk _ kids]
theorem formL_lk:∀ (vars:List Param) (l:List Formula),formML d all vars l=formML e all' vars l
 | _,[]=>by rw [formML,formML]
 | vars,k::r=>by rw [formML,formML,form_lk vars k,formL_lk vars r]
end
theorem YjB (vars:List Param) (x:Formula):Ybr d all vars x=Ybr e all' vars x:=by unfold Ybr;rw [form_lk h]
theorem YqG (vars:List Param) (x:Change) (du:Bool):YaQ d all vars x du=YaQ e all' vars x du:=by
 unfold YaQ;rw [form_lk h,atom_lk h,flu_lk h,expr_lk h];simp only [Yqh h.t]
theorem YfR (vars:List Param) (l:List Change) (du:Bool):W8 d all vars l du=W8 e all' vars l du:=by
 unfold W8;rw [show (fun x=>YaQ d all vars x du)=fun x=>YaQ e all' vars x du from funext fun x=>YqG h vars x du]
theorem actL_lk (x:Action):actL d all x=actL e all' x:=by unfold actL;rw [form_lk h,YfR h]
theorem durL_lk (x:Durative):durL d all x=durL e all' x:=by unfold durL;rw [YjB h,YjB h,YjB h,YfR h,YfR h]
end
structure PPm (p q:Problem):Prop where
 n:p.name=q.name
 d:p.domain=q.domain
 o:p.objects.Perm q.objects
 i:∀ a,a∈p.init↔a∈q.init
 v:p.values.Perm q.values
 g:p.goal=q.goal
theorem PPm.symm {p q:Problem} (h:PPm p q):PPm q p:=⟨h.n.symm,h.d.symm,h.o.symm,fun a=>(h.i a).symm,h.v.symm,h.g.symm⟩
theorem names_nd {d:Domain} (h:Yar d all=none):(d.predicates.map Predicate.name).Nodup/\(d.functions.map Function.name).Nodup/\(parN all).Nodup:=by
 have key:repM [] (Yb1 d)=none/\repM [] (Ybx all)=none:=by
  unfold Yar at h;cases h0:repM [] (Yb1 d) with
  | some x=>rw [h0] at h;cases h
  | none=>rw [h0] at h;cases h1:repM [] (Ybx all) with
   | some x=>rw [h1] at h;cases h
   | none=>exact ⟨rfl,rfl⟩
 have k0:=(YeN.1 key.1).1;have k1:=(YeN.1 key.2).1;have e0:parN (Yb1 d)=d.predicates.map Predicate.name++d.functions.map Function.name:=by
  unfold parN Yb1;rw [List.map_append,List.map_map,List.map_map];rfl
 have e1:parN (Ybx all)=parN all:=by unfold parN Ybx;rw [List.map_map];rfl
 rw [e0] at k0;rw [e1] at k1;obtain ⟨a,b,_⟩:=List.nodup_append.1 k0;exact ⟨a,b,k1⟩
theorem lkE_of {d e:Domain} {all':List Param} (h:DPm d e) (ha:all.Perm all') (ht:¬TwP [] (parN d.types)) (hn:Yar d all=none):LkE d e all all':=by
 obtain ⟨n1,n2,n3⟩:=names_nd hn;refine ⟨fun x=>Yhj h.p n1 x,fun x=>Yhj h.f n2 x,fun x=>YiF h.t (Classical.byContradiction fun h0=>ht (YeG.2 h0)) x,fun x=>YiF ha n3 x⟩
theorem Ypw {d e:Domain} {p q:Problem} (h:DPm d e) (k:PPm p q):(Yaq d p).Perm (Yaq e q):=h.c.append k.o
theorem large_pm {d e:Domain} {p q:Problem} (h:DPm d e) (k:PPm p q):YcL d p (Yaq d p)↔YcL e q (Yaq e q):=by
 unfold YcL;simp only [(Ypw h k).length_eq,h.t.length_eq,h.p.length_eq,h.f.length_eq,h.a.length_eq,h.u.length_eq,k.g,h.p.mem_iff,h.f.mem_iff,h.a.mem_iff,h.u.mem_iff]
theorem Ynf {d e:Domain} {all':List Param} (h:DPm d e) (ha:all.Perm all'):(Yby d all).Perm (Yby e all'):=by
 unfold Yby;exact (h.p.map _).append ((h.f.map _).append ((ha.map _).append ((h.a.map _).append ((h.u.map _).append (Zr _)))))
theorem nums_pm {d e:Domain} (h:DPm d e):(numsL d).Perm (numsL e):=by
 unfold numsL;exact (h.f.map _).append ((h.a.map _).append ((h.u.map _).append (Zr _)))
theorem Yiu (d:Domain):(YjG d).2=0↔d.duratives=[]\/(d.actions=[]/\d.functions=[]):=by
 unfold YjG;cases d.duratives with
 | nil=>simp
 | cons u r=>cases d.actions with
  | cons a r=>simp
  | nil=>cases d.functions with
   | cons f r=>simp
   | nil=>simp
theorem Yoq {d e:Domain} {all':List Param} (h:DPm d e) (k:LkE d e all all'):(YaL d all).Perm (YaL e all'):=by
 unfold YaL;rw [show actL d all=actL e all' from funext (actL_lk k),show durL d all=durL e all' from funext (durL_lk k)];exact (h.a.flatMap_right _).append ((h.u.flatMap_right _).append (Zr _))
theorem YgF {d:Domain} {all:List Param}:∀ {l:List Value_} {ks:List Bs},YeF d all ks l=0↔(∀ v∈l,fluM d all [] v.fluent.name v.fluent.args=0/\¬OutV d v)/\(l.map txtV).Nodup/\∀ v∈l,txtV v ∉ ks
 | [],ks=>by simp [YeF]
 | v::r,ks=>by
  rw [YeF];by_cases h1:fluM d all [] v.fluent.name v.fluent.args=0
  ·rw [if_neg (not_not_intro h1)];by_cases h2:OutV d v
   ·rw [if_pos h2];exact ⟨Za,fun h=>absurd h2 (h.1 v (.head _)).2⟩
   rw [if_neg h2];by_cases h3:txtV v∈ks
   ·rw [if_pos h3];exact ⟨Za,fun h=>absurd h3 (h.2.2 v (.head _))⟩
   rw [if_neg h3,YgF];constructor
   ·rintro ⟨a,b,c⟩;refine ⟨fun x hx=>?_,List.nodup_cons.2 ⟨fun hm=>?_,b⟩,fun x hx=>?_⟩
    ·rcases List.mem_cons.1 hx with rfl | hx
     ·exact ⟨h1,h2⟩
     exact a x hx
    ·obtain ⟨x,hx,ex⟩:=List.mem_map.1 hm;exact c x hx (by rw [ex];simp)
    rcases List.mem_cons.1 hx with rfl | hx
    ·exact h3
    exact fun hk=>c x hx (List.mem_append_left _ hk)
   rintro ⟨a,b,c⟩;obtain ⟨b1,b2⟩:=List.nodup_cons.1 b;refine ⟨fun x hx=>a x (.tail _ hx),b2,fun x hx hk=>?_⟩;rcases List.mem_append.1 hk with hk | hk
   ·exact c x (.tail _ hx) hk
   rw [List.mem_singleton] at hk;exact b1 (hk ▸ List.mem_map.2 ⟨x,hx,rfl⟩)
  rw [if_pos h1];exact ⟨fun h=>absurd h h1,fun h=>absurd (h.1 v (.head _)).1 h1⟩
theorem ofT_mem {l os:List Param} {t x:Bs}:x∈ofT l t os↔∃ o∈os,IsT l o.typ t/\o.name=x:=by
 unfold ofT;simp only [List.mem_map,List.mem_filter,decide_eq_true_eq,and_assoc]
theorem YpE {l r all all':List Param} {ks js:List Bs} (h:∀ x,tyF l x=tyF r x) (ha:all.Perm all') (hk:∀ x,x∈ks↔x∈js) (name:Bs):∀ (ps:List Param) (args:List Bs),Ycp l all ks name ps args↔Ycp r all' js name ps args
 | [],args=>by rw [Ycp,Ycp,hk]
 | p::ps,args=>by
  rw [Ycp,Ycp];simp only [ofT_mem,isT_lk h,ha.mem_iff,YpE h ha hk name ps]
theorem Ykr {d:Domain} {p:Problem}:(WQ d all p).2=0↔p.domain=d.name/\(∀ a∈p.init,atomM d all [] a.name a.args=0)/\YeF d all [] p.values=0/\¬∃ f∈d.functions,Ycp d.types all (p.values.map txtV) f.name f.params []:=by
 unfold WQ;by_cases h1:p.domain=d.name
 ·rw [if_neg (not_not_intro h1)];by_cases h2:YbA (fun a=>atomM d all [] a.name a.args) p.init=0
  ·rw [if_neg (not_not_intro h2)];have h2':=YfK.1 h2;by_cases h3:YeF d all [] p.values=0
   ·rw [if_neg (not_not_intro h3)];by_cases h4:∃ f∈d.functions,Ycp d.types all (p.values.map txtV) f.name f.params []
    ·rw [if_pos h4];exact ⟨Za,fun h=>absurd h4 h.2.2.2⟩
    rw [if_neg h4];exact ⟨fun _=>⟨h1,h2',h3,h4⟩,fun _=>rfl⟩
   rw [if_pos h3];exact ⟨fun h=>absurd h h3,fun h=>absurd h.2.2.1 h3⟩
  rw [if_pos h2];exact ⟨fun h=>absurd h h2,fun h=>absurd (YfK.2 h.2.1) h2⟩
 rw [if_pos h1];exact ⟨Za,fun h=>absurd h.1 h1⟩
theorem YkT {d:Domain} {p:Problem}:(Yh0 d all p).2=0↔(if d.duratives=[] then formM d all [] p.goal else Ybr d all [] p.goal)=0:=by
 unfold Yh0;simp only;by_cases h:(if d.duratives=[] then formM d all [] p.goal else Ybr d all [] p.goal)=0
 ·rw [if_neg (not_not_intro h)];simp [h]
 rw [if_pos h]
theorem YkE {r:List α} (h:l.Perm r):l=[]↔r=[]:=⟨fun e=>by subst e;exact h.nil_eq.symm,fun e=>by subst e;exact h.eq_nil⟩
theorem prob_pm {d e:Domain} {p q:Problem} {all':List Param} (h:DPm d e) (k:PPm p q) (ha:all.Perm all') (hl:LkE d e all all') (hz:(WQ d all p).2=0):(WQ e all' q).2=0:=by
 obtain ⟨a,b,c,m⟩:=Ykr.1 hz;obtain ⟨v1,v2,v3⟩:=YgF.1 c;refine Ykr.2 ⟨by rw [<- k.d,<- h.n];exact a,fun x hx=>by rw [<- atom_lk hl];exact b x ((k.i x).2 hx),YgF.2 ⟨fun v hv=>?_,(k.v.map txtV).nodup_iff.1 v2,fun v _=>by simp⟩,?_⟩
 ·obtain ⟨w1,w2⟩:=v1 v (k.v.mem_iff.2 hv);refine ⟨by rw [<- flu_lk hl];exact w1,fun ⟨f,hf,ho⟩=>w2 ⟨f,by rw [hl.f];exact hf,ho⟩⟩
 rintro ⟨f,hf,hm⟩;exact m ⟨f,h.f.mem_iff.2 hf,(YpE hl.t ha (fun x=>(k.v.map txtV).mem_iff) _ _ _).2 hm⟩
theorem YnB {d e:Domain} {p q:Problem} (h:DPm d e) (k:PPm p q) (hw:FVal q.goal/\YbJ q/\XVal (prbX q)) (hc:(Yak d p).2=0):(Yak e q).2=0:=by
 unfold Yak at hc;by_cases c1:Ycq d/\XVal (domX d);rotate_left 1
 ·rw [if_pos c1] at hc;cases hc
 rw [if_neg (not_not_intro c1)] at hc;by_cases c2:FVal p.goal/\YbJ p/\XVal (prbX p);rotate_left 1
 ·rw [if_pos c2] at hc;cases hc
 rw [if_neg (not_not_intro c2)] at hc;by_cases c3:YcL d p (Yaq d p)
 ·rw [if_pos c3] at hc;cases hc
 rw [if_neg c3] at hc;by_cases c4:newM d.types=0;rotate_left 1
 ·rw [if_pos c4] at hc;exact absurd hc c4
 rw [if_neg (not_not_intro c4)] at hc;have hs:=YfJ.1 hc;have ha:=Ypw h k;have ht:¬TwP [] (parN d.types):=fun h0=>by unfold newM at c4;rw [if_pos h0] at c4;cases c4
 have hn:Yar d (Yaq d p)=none:=by
  have h0:=hs 0 Zi;cases hn:Yar d (Yaq d p) with
  | none=>rfl
  | some s=>simp only [Nat.zero_add,Wi,hn] at h0;cases h0
 have hl:=lkE_of h ha ht hn;unfold Yak;rw [if_neg (not_not_intro ⟨(domOk_pm h).1 c1.1,(domX_pm h).1 c1.2⟩),if_neg (not_not_intro hw),if_neg (fun h0=>c3 ((large_pm h k).2 h0)),if_neg (not_not_intro ((YpC h.t).symm.trans c4))];refine YfJ.2 fun i hi=>?_
 have hz:=hs i hi;rw [Nat.zero_add] at hz ⊢
 match i,hi with
 | 0,_=>simp only [Wi,(names_pm h ha).1 hn]
 | 1,_=>exact Yaw.2 fun x hx=>Yaw.1 hz x ((Ynf h (Zr _)).mem_iff.2 hx)
 | 2,_=>
  refine Yaw.2 fun x hx=>?_
  have h0:=Yaw.1 hz x ((Ynf h ha).mem_iff.2 hx);simp only [Yqh hl.t] at h0;exact h0
 | 3,_=>exact (Yiu e).2 (((Yiu d).1 hz).imp (YkE h.u).1 fun h0=>⟨(YkE h.a).1 h0.1,(YkE h.f).1 h0.2⟩)
 | 4,_=>exact Yaw.2 fun x hx=>Yaw.1 hz x ((nums_pm h).mem_iff.2 hx)
 | 5,_=>exact Yaw.2 fun x hx=>Yaw.1 hz x ((Yoq h hl).mem_iff.2 hx)
 | 6,_=>exact prob_pm h k ha hl hz
 | 7,_=>
  refine YkT.2 ?_;have h0:=YkT.1 hz;rw [<- form_lk hl,<- YjB hl,<- k.g];simpa only [YkE h.u] using h0
 | i+8,hi=>omega
structure XL (l r:List Sexpr):Prop where
 a:(∀ k∈r,XOk k)->∀ k∈l,XOk k
 c:xcountL l<=xcountL r
 d:xdepthL l<=xdepthL r
theorem XE.le {l r:List Sexpr} (h:XE l r):XL l r:=⟨h.a.2,Nat.le_of_eq h.c,Nat.le_of_eq h.d⟩
theorem XL.app {l r l' r':List Sexpr} (h:XL l r) (h':XL l' r'):XL (l++l') (r++r') where
 a:=fun hk k hm=>by
  rcases List.mem_append.1 hm with hm | hm
  ·exact h.a (fun j hj=>hk j (List.mem_append_left _ hj)) k hm
  exact h'.a (fun j hj=>hk j (List.mem_append_right _ hj)) k hm
 c:=by rw [YaO,YaO];have:=h.c;have:=h'.c;omega
 d:=by rw [YbR,YbR];have:=h.d;have:=h'.d;omega
theorem XL.node {l r:List Sexpr} (h:XL l r):XL [YM l] [YM r] where
 a:=by simp only [List.mem_singleton,forall_eq,YdS];exact h.a
 c:=by simp only [xcountL,Xj];exact Nat.add_le_add_right (Nat.add_le_add_left h.c 1) 0
 d:=by
  simp only [xdepthL,Ycs];have e:∀ n m:Nat,n<=m->max (n+(if (3:Int)=3 then 1 else 0)) 0<=max (m+(if (3:Int)=3 then 1 else 0)) 0:=fun n m h=>by simp;omega
  exact e _ _ h.d
theorem XL.val {l r:List Sexpr} (h:XL l r) (hv:XVal (YM r)):XVal (YM l):=by
 obtain ⟨v1,v2,v3⟩:=hv;have h1:=h.node;have hd:=h1.d;have hc:=h1.c;simp only [xdepthL,xcountL,Nat.max_zero,Nat.add_zero] at hd hc;exact ⟨YdS.2 (h.a (YdS.1 v1)),by omega,by omega⟩
theorem XL.nil (r:List Sexpr):XL [] r:=⟨(fun _ k hk=>absurd hk List.not_mem_nil),Z0 _,Z0 _⟩
theorem Ylc {α:Type} {f:α->Sexpr}:∀ {l r:List α},l.Nodup->(∀ x∈l,x∈r)->xcountL (l.map f)<=xcountL (r.map f)
 | [],r,_,_=>Z0 _
 | x::l,r,hn,hs=>by
  obtain ⟨h1,h2⟩:=List.nodup_cons.1 hn;obtain ⟨r1,r2,rfl⟩:=List.append_of_mem (hs x (.head _));have ih:=Ylc (f:=f) (r:=r1++r2) h2 fun y hy=>by
   have h3:=hs y (.tail _ hy);rcases List.mem_append.1 h3 with h3 | h3
   ·exact List.mem_append_left _ h3
   rcases List.mem_cons.1 h3 with rfl | h3
   ·exact absurd hy h1
   exact List.mem_append_right _ h3
  rw [List.map_append,YaO] at ih;rw [List.map_append,YaO,List.map_cons,List.map_cons];simp only [xcountL];omega
theorem sub_xl {f:α->Sexpr} {r:List α} (hn:l.Nodup) (hs:∀ x∈l,x∈r):XL (l.map f) (r.map f) where
 a:=fun hk k hm=>by
  obtain ⟨x,hx,rfl⟩:=List.mem_map.1 hm;exact hk _ (List.mem_map.2 ⟨x,hs x hx,rfl⟩)
 c:=Ylc hn hs
 d:=Wq.2 fun k hm=>by
  obtain ⟨x,hx,rfl⟩:=List.mem_map.1 hm;exact Wq.1 (Zs _) _ (List.mem_map.2 ⟨x,hs x hx,rfl⟩)
theorem grp_xl (kw:Bs) {l r:List Sexpr} (h:XL l r) (h0:r=[]->l=[]):XL (grp kw l) (grp kw r):=by
 unfold grp;by_cases e:l=[]
 ·rw [if_pos e];exact XL.nil _
 rw [if_neg e,if_neg (fun e2=>e (h0 e2))];exact (XL.app (XE.refl [_]).le h).node
def canP (p:Problem) (l:List Atom):Problem:=⟨p.name,p.domain,srtC (byC Param.name) p.objects,l,srtC byV p.values,p.goal⟩
theorem YhD {p:Problem} {l:List Atom} (h:∀ a,a∈l↔a∈p.init):PPm (canP p l) p:=⟨rfl,rfl,Ybl _,h,Ybl _,rfl⟩
theorem Yom {p:Problem} {l:List Atom} (hl:l.Nodup) (h:∀ a,a∈l↔a∈p.init) (hw:FVal p.goal/\YbJ p/\XVal (prbX p)):FVal (canP p l).goal/\YbJ (canP p l)/\XVal (prbX (canP p l)):=by
 obtain ⟨w1,w2,w3⟩:=hw;have k:=YhD h;refine ⟨w1,?_,?_⟩
 ·obtain ⟨a,b,c,v,i⟩:=w2;exact ⟨a,b,fun o ho=>c o (k.o.mem_iff.1 ho),fun x hx=>v x (k.v.mem_iff.1 hx),fun x hx=>i x ((h x).1 hx)⟩
 unfold prbX at w3 ⊢;refine XL.val ?_ w3;refine ((((XE.refl _).le).app (YkS _ (Yfv k.o)).le).app (grp_xl _ ((sub_xl hl fun x hx=>(h x).1 hx).app (XE.perm (k.v.map _)).le) fun e=>?_)).app (XE.refl _).le;obtain ⟨e1,e2⟩:=List.append_eq_nil_iff.1 e;rw [List.map_eq_nil_iff] at e1 e2;have e3:l=[]:=List.eq_nil_iff_forall_not_mem.2 fun x hx=>by have:=(h x).1 hx;rw [e1] at this;cases this
 have e4:(canP p l).values=[]:=(YkE k.v).2 e2;rw [e4,e3];rfl
theorem Yms {d:Domain} {p:Problem} {l:List Atom} (hl:l.Nodup) (h:∀ a,a∈l↔a∈p.init) (hw:FVal p.goal/\YbJ p/\XVal (prbX p)):(Yak d p).2=0↔(Yak (canD d) (canP p l)).2=0:=
 ⟨YnB (YjJ d).symm (YhD h).symm (Yom hl h hw),YnB (YjJ d) (YhD h) hw⟩
end Go.Proofs.YtiligkgjcmokbaaGreatDoor
namespace Go.Lx
end Go.Lx
namespace Go.Proofs.YtiligkgjcmokbaaGreatDoor
end Go.Proofs.YtiligkgjcmokbaaGreatDoor
namespace Go.Proofs.YtiligkgjcmokbaaGreatDoor
variable {fz:FZ} {va vb:Value}
def cmpT:List Bs->List Bs->Int
 | [],l=> -(l.length:Int)
 | x::xs,[]=>((x::xs).length:Int)
 | x::xs,y::ys=>if ltB x y=true then -1 else if x=y then cmpT xs ys else 1
noncomputable def cmpR (a b:Atom):Int:=if a.name=b.name then cmpT a.args b.args else if ltB a.name b.name=true then -1 else 1
theorem ltB_irr (a:Bs):ltB a a=false:=by
 cases h:ltB a a with
 | false=>rfl
 | true=>
  have:∀ l:List UInt8,Op.bytesLess l l=false:=fun l=>by
   induction l with
   | nil=>rfl
   | cons x r ih=>simp [Op.bytesLess,ih]
  unfold ltB at h;rw [this] at h;cases h
theorem Ylg:∀ (l l':List Bs),cmpT l l'=0↔l=l'
 | [],[]=>by simp [cmpT]
 | [],_::_=>by simp [cmpT];omega
 | _::_,[]=>by simp [cmpT];omega
 | x::xs,y::ys=>by
  rw [cmpT];by_cases h:x=y
  ·subst h;rw [if_neg (by rw [ltB_irr];decide),if_pos rfl,Ylg xs ys];simp
  rw [if_neg h];constructor
  ·intro h1;split at h1<;>simp at h1
  intro h1;exact absurd (List.cons.inj h1).1 h
theorem YqD (a b:Atom):cmpR a b=0↔a=b:=by
 unfold cmpR;by_cases h:a.name=b.name
 ·rw [if_pos h,Ylg];cases a;cases b;simp at h ⊢;simp [h]
 rw [if_neg h];constructor
 ·intro h1;split at h1<;>simp at h1
 intro h1;exact absurd (by rw [h1]) h
theorem rcmp_q {a b:Atom} (ha:AtomR fz a va) (hb:AtomR fz b vb):QFn prog 112 [.agg #[Zy a.name,va],.agg #[Zy b.name,vb]] fz (Zk (cmpR a b)):=by
 obtain ⟨A,n,c,rfl,ia⟩:=ha.args;obtain ⟨B,m,d,rfl,ib⟩:=hb.args;have la:=ia.len;have lb:=ib.len;have sa:=ia.short;have sb:=ib.short;refine qF Tryz.func112 Tryz.ntmps112 (fun w0=>?_);refine pX (fun g0=>?_);refine pY (fun g1=>?_);refine wC ?_ ?_<;>intro c1
 ·refine wG ?_;refine Yfq (fun h1=>?_) (fun h1=>?_)
  ·exact wR (h:=by rw [cmpR,if_neg c1,if_pos h1])
  exact wR (h:=by rw [cmpR,if_neg c1,if_neg (by rw [h1];decide)])
 have hv:cmpR a b=cmpT a.args b.args:=by rw [cmpR,if_pos c1]
 refine zW ?_;refine Yav n (fun k=>[(5,Zk k),(3,Zp g1),(2,Zp g0)]) [(g1,Zu #[Zy b.name,Zc B m d] 77),(g0,Zu #[Zy a.name,Zc A n c] 77)] (fun k=>k<=m/\cmpT (a.args.drop k) (b.args.drop k)=cmpT a.args b.args) ⟨Z0 _,rfl⟩ ?_;intro k hk hh;obtain ⟨hkm,hcm⟩:=hh;refine wC ?_ ?_<;>intro c2
 ·obtain ⟨x,hx⟩:=Ye (l:=a.args) (k:=k) Zi;have ex:a.args.drop k=x::a.args.drop (k+1):=by
   obtain ⟨h1,h2⟩:=Zg hx;rw [<- h2];exact List.drop_eq_getElem_cons h1
  refine wC ?_ ?_<;>intro c3
  ·obtain ⟨y,hy⟩:=Ye (l:=b.args) (k:=k) Zi;have ey:b.args.drop k=y::b.args.drop (k+1):=by
    obtain ⟨h1,h2⟩:=Zg hy;rw [<- h2];exact List.drop_eq_getElem_cons h1
   rw [ex,ey] at hcm;refine wI ia hx (fun p1 hp1=>?_);refine zH hp1 (fun hs1=>?_);refine wI ib hy (fun p2 hp2=>?_);refine zH hp2 (fun hs2=>?_);refine wG ?_;refine Yfq (fun h1=>?_) (fun h1=>?_)
   ·exact wR (h:=by rw [hv,<- hcm,cmpT,if_pos h1])
   refine wI ia hx (fun p3 hp3=>?_);refine zH hp3 (fun hs3=>?_);refine wI ib hy (fun p4 hp4=>?_);refine zH hp4 (fun hs4=>?_);refine wG ?_;refine Yid (fun h2 h3=>?_) (fun h2=>?_)
   ·exact wR (h:=by rw [hv,<- hcm,cmpT,if_neg (by rw [h1];decide),if_neg h3])
   have h3:x=y:=h2.resolve_left (by rw [h1];decide);refine zW ?_;refine Wj ⟨k+1,by omega,rfl,rfl,rfl,rfl,by omega,?_⟩ Zi Zw Zb;rw [<- hcm,cmpT,if_neg (by rw [h1];decide),if_pos h3]
  have ey:b.args.drop k=[]:=List.drop_eq_nil_of_le Zi;have hkm2:k=m:=by omega
  rw [ex,ey,cmpT,<- ex,List.length_drop] at hcm;exact wR (h:=by rw [hv,<- hcm];exact congrArg (Value.int .i64) Zi)
 have hk2:k=n:=by omega
 subst hk2;rw [List.drop_eq_nil_of_le Zi,cmpT,List.length_drop] at hcm;exact wR (h:=by rw [hv,<- hcm];exact congrArg (Value.int .i64) Zi)
end Go.Proofs.YtiligkgjcmokbaaGreatDoor
namespace Go.Proofs.YtiligkgjcmokbaaGreatDoor
end Go.Proofs.YtiligkgjcmokbaaGreatDoor
namespace Go.Proofs.YtiligkgjcmokbaaGreatDoor
variable {α:Type} {A B:Option Addr} {fz:FZ} {va vk v1 v2 v3 v4 w1 w2 w3 v5 v6 v7 vb ve vp u1 u2 u3 u4 u5 u6 u7:Value} {k:Nat} {l:List α}
theorem Yqi {n c m d:Nat} {l:List Bs} (h1:Sl strL fz A n c l) (h2:Sl strL fz B m d l):QFn prog 113 [Zc A n c,Zc B m d] fz (Zo true):=by
 have k1:=h1.len;have k2:=h2.len;have k3:=h1.short;subst k1 k2;refine qF Tryz.func113 Tryz.ntmps113 (fun w0=>?_);refine zW ?_
 (((refine zC (fun c1=>?_) (fun c1=>?_));(exact absurd rfl c1);(refine zW ?_)));refine Yi (fun q σ fz' H'=>∃ k:Nat,k<=l.length/\q=l.length - k/\σ=[(5,Zk k),(0,Zc A l.length c),(1,Zc B l.length d)]/\fz=fz'/\H'=[]) ⟨0,Z0 _,rfl,rfl,rfl,rfl⟩ Zw Zb ?_;rintro q σ fz' H' ⟨k,hk,rfl,rfl,rfl,rfl⟩;refine wC ?_ ?_<;>intro c2
 ·obtain ⟨x,hx⟩:=Ye (l:=l) (k:=k) Zi;refine wI h1 hx (fun a ha=>?_);refine zH ha (fun sx=>?_);refine wI h2 hx (fun b hb=>?_);refine zH hb (fun sy=>?_);refine zW ?_
  (((refine zC (fun e1=>?_) (fun e1=>?_));(exact absurd rfl e1);(refine zW ?_)));exact wP (h:=by exact ⟨k+1,by omega,rfl,rfl,rfl,rfl⟩)
 exact wR (h:=rfl)
theorem etexts9 {n c m d:Nat} {l:List Bs} (h1:Sl strL fz A n c l) (h2:Sl strL fz B m d l):QFn prog 173 [Zc A n c,Zc B m d] fz (Zo true):=by
 have k1:=h1.len;have k2:=h2.len;have k3:=h1.short;subst k1 k2;refine qF Tryz.func173 Tryz.ntmps173 (fun w0=>?_);refine zW ?_
 (((refine zC (fun c1=>?_) (fun c1=>?_));(exact absurd rfl c1);(refine zW ?_)));refine Yi (fun q σ fz' H'=>∃ k:Nat,k<=l.length/\q=l.length - k/\σ=[(5,Zk k),(0,Zc A l.length c),(1,Zc B l.length d)]/\fz=fz'/\H'=[]) ⟨0,Z0 _,rfl,rfl,rfl,rfl⟩ Zw Zb ?_;rintro q σ fz' H' ⟨k,hk,rfl,rfl,rfl,rfl⟩;refine wC ?_ ?_<;>intro c2
 ·obtain ⟨x,hx⟩:=Ye (l:=l) (k:=k) Zi;refine wI h1 hx (fun a ha=>?_);refine zH ha (fun sx=>?_);refine wI h2 hx (fun b hb=>?_);refine zH hb (fun sy=>?_);refine zW ?_
  (((refine zC (fun e1=>?_) (fun e1=>?_));(exact absurd rfl e1);(refine zW ?_)));exact wP (h:=by exact ⟨k+1,by omega,rfl,rfl,rfl,rfl⟩)
 exact wR (h:=rfl)
theorem Yju {n c m d:Nat} {l:List Param} (h1:Sl paramL fz A n c l) (h2:Sl paramL fz B m d l):QFn prog 41 [Zc A n c,Zc B m d] fz (Zo true):=by
 have k1:=h1.len;have k2:=h2.len;have k3:=h1.short;subst k1 k2;refine qF Tryz.func41 Tryz.ntmps41 (fun w0=>?_);refine zW ?_
 (((refine zC (fun c1=>?_) (fun c1=>?_));(exact absurd rfl c1);(refine zW ?_)));refine Yi (fun q σ fz' H'=>∃ k:Nat,k<=l.length/\q=l.length - k/\σ=[(5,Zk k),(0,Zc A l.length c),(1,Zc B l.length d)]/\fz=fz'/\H'=[]) ⟨0,Z0 _,rfl,rfl,rfl,rfl⟩ Zw Zb ?_;rintro q σ fz' H' ⟨k,hk,rfl,rfl,rfl,rfl⟩;refine wC ?_ ?_<;>intro c2
 ·obtain ⟨x,hx⟩:=Ye (l:=l) (k:=k) Zi;refine wI h1 hx (fun ha0 ha=>?_)
  ((refine zL ha ?_;intro cs1 hcs1;obtain ⟨rfl,hR1⟩:=YJ hcs1));refine wI h2 hx (fun hb0 hb=>?_)
  ((refine zL hb ?_;intro cs2 hcs2;obtain ⟨rfl,hR2⟩:=YJ hcs2));refine zW ?_
  (((refine zG ?_);refine YgN Zz Zz (fun e1=>?_) (fun e1=>?_)))
  ·exact absurd rfl e1
  exact wP (h:=by exact ⟨k+1,by omega,rfl,rfl,rfl,rfl⟩)
 exact wR (h:=rfl)
theorem Yqp:∀ (s:Nat) {fz:FZ} {a:Lx.Expr} {va vk wa wk:Value},SizeOf.sizeOf a<=s->ExprR fz a va vk->ExprR fz a wa wk->
 QFn prog 114 [.agg #[Zy a.op,Zy a.name,Zk a.n,va,vk],.agg #[Zy a.op,Zy a.name,Zk a.n,wa,wk]] fz (Zo true)
 | 0,_,e,_,_,_,_,hs,_,_=>by cases e;simp at hs
 | s+1,fz,a,va,vk,wa,wk,hs,hR1,hR2=>by
  refine GFn.quiet ?_
  ((obtain ⟨A1,n1,c1',rfl,ia1⟩:=hR1.args;obtain ⟨A2,n2,c2',rfl,ik1⟩:=hR1.kids))
  ((obtain ⟨A3,n3,c3',rfl,ia2⟩:=hR2.args;obtain ⟨A4,n4,c4',rfl,ik2⟩:=hR2.kids));have k1:=ik1.len;have k2:=ik2.len;have k3:=ik1.short;subst k1 k2;refine zF Tryz.func114 Tryz.ntmps114 (fun w0=>?_);refine pX (fun g0=>?_);refine pY (fun g1=>?_);refine zW ?_
  (((refine zC (fun e1=>?_) (fun e1=>?_));(exact absurd rfl e1);(refine zW ?_)))
  (((refine zC (fun e2=>?_) (fun e2=>?_));(exact absurd rfl e2);(refine zW ?_)))
  (((refine zC (fun e3=>?_) (fun e3=>?_));(exact absurd rfl e3);(refine zW ?_)));refine zc (Yqi ia1 ia2) ?_;refine zW ?_
  (((refine zC (fun e4=>?_) (fun e4=>?_));(exact absurd rfl e4);(refine zW ?_)));refine Yi (fun q σ fz' H'=>∃ k:Nat,k<=a.kids.length/\q=a.kids.length - k/\σ=[(5,Zk k),(3,Zp g1),(2,Zp g0)]/\fz=fz'/\H'=[(g1,Zu #[Zy a.op,Zy a.name,Zk a.n,Zc A3 n3 c3',Zc A4 a.kids.length c4'] 112),(g0,Zu #[Zy a.op,Zy a.name,Zk a.n,Zc A1 n1 c1',Zc A2 a.kids.length c2'] 112)]) ⟨0,Z0 _,rfl,rfl,rfl,rfl⟩ Zw Zb ?_;rintro q σ fz' H' ⟨k,hk,rfl,rfl,rfl,rfl⟩;refine wC ?_ ?_<;>intro c2
  ·obtain ⟨x,hx⟩:=Ye (l:=a.kids) (k:=k) Zi;have hlt:=Lx.Expr.kids_lt (Zm hx);refine wI ik1 hx (fun p hp=>?_);refine zL hp ?_;intro cs1 hcs1;obtain ⟨u1,u2,rfl,h3⟩:=YD hcs1;refine wI ik2 hx (fun p2 hp2=>?_);refine zL hp2 ?_;intro cs2 hcs2;obtain ⟨w1,w2,rfl,h4⟩:=YD hcs2;refine wG ?_;refine YF (Yqp s Zi h3 h4) ?_;exact wP (h:=by exact ⟨k+1,by omega,rfl,rfl,rfl,rfl⟩)
  exact wR (h:=rfl)
theorem eexpr {a:Lx.Expr} {wa wk:Value} (h1:ExprR fz a va vk) (h2:ExprR fz a wa wk):
 QFn prog 114 [.agg #[Zy a.op,Zy a.name,Zk a.n,va,vk],.agg #[Zy a.op,Zy a.name,Zk a.n,wa,wk]] fz (Zo true):=Yqp _ (Zs _) h1 h2
theorem Yqo:∀ (s:Nat) {fz:FZ} {a:Formula} {v1 v2 v3 v4 w1 w2 w3 w4:Value},SizeOf.sizeOf a<=s->FormulaR fz a v1 v2 v3 v4->FormulaR fz a w1 w2 w3 w4->
 QFn prog 46 [.agg #[Zy a.op,Zy a.name,v1,v2,v3,v4],.agg #[Zy a.op,Zy a.name,w1,w2,w3,w4]] fz (Zo true)
 | 0,_,e,_,_,_,_,_,_,_,_,hs,_,_=>by cases e;simp at hs
 | s+1,fz,a,v1,v2,v3,v4,w1,w2,w3,w4,hs,hR1,hR2=>by
  refine GFn.quiet ?_
  ((obtain ⟨A1,n1,c1',rfl,ia1⟩:=hR1.args;obtain ⟨A2,n2,c2',rfl,ip1⟩:=hR1.params;obtain ⟨A3,n3,c3',rfl,ie1⟩:=hR1.exprs;obtain ⟨A4,n4,c4',rfl,ik1⟩:=hR1.kids))
  ((obtain ⟨A5,n5,c5',rfl,ia2⟩:=hR2.args;obtain ⟨A6,n6,c6',rfl,ip2⟩:=hR2.params;obtain ⟨A7,n7,c7',rfl,ie2⟩:=hR2.exprs;obtain ⟨A8,n8,c8',rfl,ik2⟩:=hR2.kids));have k1:=ie1.len;have k2:=ie2.len;have k3:=ie1.short;subst k1 k2;have k4:=ik1.len;have k5:=ik2.len;have k6:=ik1.short;subst k4 k5;refine zF Tryz.func46 Tryz.ntmps46 (fun w0=>?_);refine pX (fun g0=>?_);refine pY (fun g1=>?_);refine zW ?_
  (((refine zC (fun e1=>?_) (fun e1=>?_));(exact absurd rfl e1);(refine zW ?_)))
  (((refine zC (fun e2=>?_) (fun e2=>?_));(exact absurd rfl e2);(refine zW ?_)));refine zc (Yqi ia1 ia2) ?_;refine wc (Yju ip1 ip2) ?_;refine zW ?_
  (((refine zC (fun e4=>?_) (fun e4=>?_));(exact absurd rfl e4);(refine zW ?_)))
  (((refine zC (fun e5=>?_) (fun e5=>?_));(exact absurd rfl e5);(refine zW ?_)));refine Yi (fun q σ fz' H'=>∃ k:Nat,k<=a.exprs.length/\q=a.exprs.length - k/\σ=[(5,Zk k),(3,Zp g1),(2,Zp g0)]/\fz=fz'/\H'=[(g1,Zu #[Zy a.op,Zy a.name,Zc A5 n5 c5',Zc A6 n6 c6',Zc A7 a.exprs.length c7',Zc A8 a.kids.length c8'] 35),(g0,Zu #[Zy a.op,Zy a.name,Zc A1 n1 c1',Zc A2 n2 c2',Zc A3 a.exprs.length c3',Zc A4 a.kids.length c4'] 35)]) ⟨0,Z0 _,rfl,rfl,rfl,rfl⟩ Zw Zb ?_;rintro q σ fz' H' ⟨k,hk,rfl,rfl,rfl,rfl⟩;refine wC ?_ ?_<;>intro c2
  ·obtain ⟨x,hx⟩:=Ye (l:=a.exprs) (k:=k) Zi;refine wI ie1 hx (fun p hp=>?_);refine zL hp ?_;intro cs1 hcs1;obtain ⟨u1,u2,rfl,h3⟩:=YD hcs1;refine wI ie2 hx (fun p2 hp2=>?_);refine zL hp2 ?_;intro cs2 hcs2;obtain ⟨y1,y2,rfl,h4⟩:=YD hcs2;refine wc (eexpr h3 h4) ?_;exact wP (h:=by exact ⟨k+1,by omega,rfl,rfl,rfl,rfl⟩)
  refine zW ?_;refine Yi (fun q σ fz' H'=>∃ k:Nat,k<=a.kids.length/\q=a.kids.length - k/\σ=[(6,Zk k),(3,Zp g1),(2,Zp g0)]/\fz=fz'/\H'=[(g1,Zu #[Zy a.op,Zy a.name,Zc A5 n5 c5',Zc A6 n6 c6',Zc A7 a.exprs.length c7',Zc A8 a.kids.length c8'] 35),(g0,Zu #[Zy a.op,Zy a.name,Zc A1 n1 c1',Zc A2 n2 c2',Zc A3 a.exprs.length c3',Zc A4 a.kids.length c4'] 35)]) ⟨0,Z0 _,rfl,rfl,rfl,rfl⟩ Zw Zb ?_;rintro q σ fz' H' ⟨k,hk,rfl,rfl,rfl,rfl⟩;refine wC ?_ ?_<;>intro c3
  ·obtain ⟨x,hx⟩:=Ye (l:=a.kids) (k:=k) Zi;have hlt:=Formula.kids_lt (Zm hx);refine wI ik1 hx (fun p hp=>?_);refine zL hp ?_;intro cs1 hcs1;obtain ⟨u1,u2,u3,u4,rfl,h3⟩:=Yv hcs1;refine wI ik2 hx (fun p2 hp2=>?_);refine zL hp2 ?_;intro cs2 hcs2;obtain ⟨y1,y2,y3,y4,rfl,h4⟩:=Yv hcs2;refine wG ?_;refine YF (Yqo s Zi h3 h4) ?_;exact wP (h:=by exact ⟨k+1,by omega,rfl,rfl,rfl,rfl⟩)
  exact wR (h:=rfl)
theorem Yof {a:Formula} {w4:Value} (h1:FormulaR fz a v1 v2 v3 v4) (h2:FormulaR fz a w1 w2 w3 w4):
 QFn prog 46 [.agg #[Zy a.op,Zy a.name,v1,v2,v3,v4],.agg #[Zy a.op,Zy a.name,w1,w2,w3,w4]] fz (Zo true):=Yqo _ (Zs _) h1 h2
theorem Yjv {n c m d:Nat} {l:List Change} (h1:Sl changeL fz A n c l) (h2:Sl changeL fz B m d l):QFn prog 111 [Zc A n c,Zc B m d] fz (Zo true):=by
 have k1:=h1.len;have k2:=h2.len;have k3:=h1.short;subst k1 k2;refine qF Tryz.func111 Tryz.ntmps111 (fun w0=>?_);refine zW ?_
 (((refine zC (fun c1=>?_) (fun c1=>?_));(exact absurd rfl c1);(refine zW ?_)));refine Yi (fun q σ fz' H'=>∃ k:Nat,k<=l.length/\q=l.length - k/\σ=[(5,Zk k),(0,Zc A l.length c),(1,Zc B l.length d)]/\fz=fz'/\H'=[]) ⟨0,Z0 _,rfl,rfl,rfl,rfl⟩ Zw Zb ?_;rintro q σ fz' H' ⟨k,hk,rfl,rfl,rfl,rfl⟩;refine wC ?_ ?_<;>intro c2
 ·obtain ⟨x,hx⟩:=Ye (l:=l) (k:=k) Zi;have hx':=hx;refine zWN ?_;refine YY (fun σ fz' H'=>∃ g6 g7 ca cb,σ=[(5,Zk k),(7,Zp g7),(6,Zp g6),(0,Zc A l.length c),(1,Zc B l.length d)]/\fz=fz'/\H'=[(g7,Zu (List.toArray cb) 114),(g6,Zu (List.toArray ca) 114)]/\changeL.rep fz x ca/\changeL.rep fz x cb) ?_ ?_
  ·refine WP [] [] ?_;refine wI h1 hx (fun p1 hp1=>?_);refine zL hp1 ?_;intro cs1 hr1;have hr1':=hr1;obtain ⟨au1,au2,au3,au4,au5,au6,au7,au8,rfl,ahC⟩:=Y8 hr1;have ahW:=ahC.when_;have ahV:=ahC.value;obtain ⟨aC1,ao1,aq1,rfl,ai1⟩:=ahC.params;obtain ⟨⟨aC2,ao2,aq2,rfl,ai2⟩,⟨aC3,ao3,aq3,rfl,ai3⟩,⟨aC4,ao4,aq4,rfl,ai4⟩,⟨aC5,ao5,aq5,rfl,ai5⟩⟩:=ahC.when_.sls;obtain ⟨aC6,ao6,aq6,rfl,ai6⟩:=ahC.args;obtain ⟨⟨aC7,ao7,aq7,rfl,ai7⟩,⟨aC8,ao8,aq8,rfl,ai8⟩⟩:=ahC.value.sls;refine wI h2 hx (fun p2 hp2=>?_);refine zL hp2 ?_;intro cs2 hr2;have hr2':=hr2;obtain ⟨bu1,bu2,bu3,bu4,bu5,bu6,bu7,bu8,rfl,bhC⟩:=Y8 hr2;have bhW:=bhC.when_;have bhV:=bhC.value;obtain ⟨bC1,bo1,bq1,rfl,bi1⟩:=bhC.params;obtain ⟨⟨bC2,bo2,bq2,rfl,bi2⟩,⟨bC3,bo3,bq3,rfl,bi3⟩,⟨bC4,bo4,bq4,rfl,bi4⟩,⟨bC5,bo5,bq5,rfl,bi5⟩⟩:=bhC.when_.sls;obtain ⟨bC6,bo6,bq6,rfl,bi6⟩:=bhC.args;obtain ⟨⟨bC7,bo7,bq7,rfl,bi7⟩,⟨bC8,bo8,bq8,rfl,bi8⟩⟩:=bhC.value.sls;refine zW ?_;refine pT ?_;refine XD ?_ ?_
   ·refine Yd (Y7 (fun g6=>⟨⟨Zd,by intro p hp;cases hp⟩,?_⟩));refine Yh ?_;refine Yd (Y7 (fun g7=>⟨⟨Zd,by intro p hp;cases hp⟩,?_⟩));refine Yh ?_;refine Yas (Y9 ⟨⟨Zd,by intro p hp;cases hp⟩,?_⟩);refine Yh ?_;refine Yas (YG ⟨⟨Zd,by intro p hp;cases hp⟩,?_⟩);refine Po.done ?_;exact wN (h:=by exact ⟨g6,g7,_,_,rfl,rfl,rfl,hr1',hr2'⟩)
   refine Yd (Y7 (fun g7=>⟨⟨Zd,by intro p hp;cases hp⟩,?_⟩));refine Yh ?_;refine Yd (Y7 (fun g6=>⟨⟨Zd,by intro p hp;cases hp⟩,?_⟩));refine Yh ?_;refine Yas (YG ⟨⟨Zd,by intro p hp;cases hp⟩,?_⟩);refine Yh ?_;refine Yas (Y9 ⟨⟨Zd,by intro p hp;cases hp⟩,?_⟩);refine Po.done ?_;refine zW ?_;exact midP (H1:=[(g7,_),(g6,_)]) (List.Perm.swap _ _ _) ⟨g6,g7,_,_,rfl,rfl,rfl,hr1',hr2'⟩ Zw Zb
  rintro σ fz' H' ⟨g6,g7,ca,cb,rfl,rfl,rfl,hr1,hr2⟩;obtain ⟨au1,au2,au3,au4,au5,au6,au7,au8,rfl,ahC⟩:=Y8 hr1;have ahW:=ahC.when_;have ahV:=ahC.value;obtain ⟨aC1,ao1,aq1,rfl,ai1⟩:=ahC.params;obtain ⟨⟨aC2,ao2,aq2,rfl,ai2⟩,⟨aC3,ao3,aq3,rfl,ai3⟩,⟨aC4,ao4,aq4,rfl,ai4⟩,⟨aC5,ao5,aq5,rfl,ai5⟩⟩:=ahC.when_.sls;obtain ⟨aC6,ao6,aq6,rfl,ai6⟩:=ahC.args;obtain ⟨⟨aC7,ao7,aq7,rfl,ai7⟩,⟨aC8,ao8,aq8,rfl,ai8⟩⟩:=ahC.value.sls;obtain ⟨bu1,bu2,bu3,bu4,bu5,bu6,bu7,bu8,rfl,bhC⟩:=Y8 hr2;have bhW:=bhC.when_;have bhV:=bhC.value;obtain ⟨bC1,bo1,bq1,rfl,bi1⟩:=bhC.params;obtain ⟨⟨bC2,bo2,bq2,rfl,bi2⟩,⟨bC3,bo3,bq3,rfl,bi3⟩,⟨bC4,bo4,bq4,rfl,bi4⟩,⟨bC5,bo5,bq5,rfl,bi5⟩⟩:=bhC.when_.sls;obtain ⟨bC6,bo6,bq6,rfl,bi6⟩:=bhC.args;obtain ⟨⟨bC7,bo7,bq7,rfl,bi7⟩,⟨bC8,bo8,bq8,rfl,bi8⟩⟩:=bhC.value.sls;refine zW ?_
  (((refine zC (fun e1=>?_) (fun e1=>?_));(exact absurd rfl e1);(refine zW ?_)))
  (((refine zC (fun e2=>?_) (fun e2=>?_));(exact absurd rfl e2);(refine zW ?_)));refine zc (etexts9 ai6 bi6) ?_;refine wc (Yju ai1 bi1) ?_;refine wG ?_;refine Yc (vs:=[Zy x.when_.op,Zy x.when_.name,Zc aC2 ao2 aq2,Zc aC3 ao3 aq3,Zc aC4 ao4 aq4,Zc aC5 ao5 aq5]) 1 ?_;refine wG ?_;refine Yc (vs:=[Zy x.when_.op,Zy x.when_.name,Zc bC2 bo2 bq2,Zc bC3 bo3 bq3,Zc bC4 bo4 bq4,Zc bC5 bo5 bq5]) 0 ?_;refine zc (Yof ahW bhW) ?_;refine wG ?_;refine Yc (vs:=[Zy x.value.op,Zy x.value.name,Zk x.value.n,Zc aC7 ao7 aq7,Zc aC8 ao8 aq8]) 1 ?_;refine wG ?_;refine Yc (vs:=[Zy x.value.op,Zy x.value.name,Zk x.value.n,Zc bC7 bo7 bq7,Zc bC8 bo8 bq8]) 0 ?_;refine zc (eexpr ahV bhV) ?_;exact wP (h:=by exact ⟨k+1,by omega,rfl,rfl,rfl,rfl⟩)
 exact wR (h:=rfl)
theorem eaction {x:Action} {w4 w5 w6:Value} (h1:ActionR fz x v1 v2 v3 v4 v5 v6) (h2:ActionR fz x w1 w2 w3 w4 w5 w6):
 QFn prog 42 [.agg #[Zy x.name,v1,Zk x.cost,Zy x.pre.op,Zy x.pre.name,v2,v3,v4,v5,v6],.agg #[Zy x.name,w1,Zk x.cost,Zy x.pre.op,Zy x.pre.name,w2,w3,w4,w5,w6]] fz (Zo true):=by
 have p1:=h1.pre;have p2:=h2.pre;refine GFn.quiet ?_;obtain ⟨aC0,ao0,aq0,rfl,ai0⟩:=h1.params;obtain ⟨⟨aC1,ao1,aq1,rfl,ai1⟩,⟨aC2,ao2,aq2,rfl,ai2⟩,⟨aC3,ao3,aq3,rfl,ai3⟩,⟨aC4,ao4,aq4,rfl,ai4⟩⟩:=h1.pre.sls;obtain ⟨aC5,ao5,aq5,rfl,ai5⟩:=h1.changes;obtain ⟨bC0,bo0,bq0,rfl,bi0⟩:=h2.params;obtain ⟨⟨bC1,bo1,bq1,rfl,bi1⟩,⟨bC2,bo2,bq2,rfl,bi2⟩,⟨bC3,bo3,bq3,rfl,bi3⟩,⟨bC4,bo4,bq4,rfl,bi4⟩⟩:=h2.pre.sls;obtain ⟨bC5,bo5,bq5,rfl,bi5⟩:=h2.changes;refine zF Tryz.func42 Tryz.ntmps42 (fun w0=>?_);refine pX (fun g0=>?_);refine pY (fun g1=>?_);refine zW ?_
 (((refine zC (fun e1=>?_) (fun e1=>?_));rotate_left 1;(exact absurd rfl e1);(refine zW ?_)))
 (((refine zC (fun e2=>?_) (fun e2=>?_));rotate_left 1;(exact absurd rfl e2);(refine zW ?_)));refine zc (Yju ai0 bi0) ?_;refine wG ?_;refine Yc (vs:=[Zy x.pre.op,Zy x.pre.name,Zc aC1 ao1 aq1,Zc aC2 ao2 aq2,Zc aC3 ao3 aq3,Zc aC4 ao4 aq4]) 1 ?_;refine wG ?_;refine Yc (vs:=[Zy x.pre.op,Zy x.pre.name,Zc bC1 bo1 bq1,Zc bC2 bo2 bq2,Zc bC3 bo3 bq3,Zc bC4 bo4 bq4]) 0 ?_;refine zc (Yof p1 p2) ?_;refine wc (Yjv ai5 bi5) ?_;exact wR (h:=rfl)
theorem Yqq {x:Durative} {v8 v9 v10 v11 v12 v13 v14 v15 w4 w5 w6 w7 w8 w9 w10 w11 w12 w13 w14 w15:Value} (h1:DurativeR fz x v1 v2 v3 v4 v5 v6 v7 v8 v9 v10 v11 v12 v13 v14 v15) (h2:DurativeR fz x w1 w2 w3 w4 w5 w6 w7 w8 w9 w10 w11 w12 w13 w14 w15):
 QFn prog 43 [.agg #[Zy x.name,v1,Zk x.duration,Zy x.start.op,Zy x.start.name,v2,v3,v4,v5,Zy x.over.op,Zy x.over.name,v6,v7,v8,v9,Zy x.fin.op,Zy x.fin.name,v10,v11,v12,v13,v14,v15],.agg #[Zy x.name,w1,Zk x.duration,Zy x.start.op,Zy x.start.name,w2,w3,w4,w5,Zy x.over.op,Zy x.over.name,w6,w7,w8,w9,Zy x.fin.op,Zy x.fin.name,w10,w11,w12,w13,w14,w15]] fz (Zo true):=by
 have p1:=h1.start;have p2:=h2.start;have p3:=h1.over;have p4:=h2.over;have p5:=h1.fin;have p6:=h2.fin;refine GFn.quiet ?_;obtain ⟨aC0,ao0,aq0,rfl,ai0⟩:=h1.params;obtain ⟨⟨aC1,ao1,aq1,rfl,ai1⟩,⟨aC2,ao2,aq2,rfl,ai2⟩,⟨aC3,ao3,aq3,rfl,ai3⟩,⟨aC4,ao4,aq4,rfl,ai4⟩⟩:=h1.start.sls;obtain ⟨⟨aC5,ao5,aq5,rfl,ai5⟩,⟨aC6,ao6,aq6,rfl,ai6⟩,⟨aC7,ao7,aq7,rfl,ai7⟩,⟨aC8,ao8,aq8,rfl,ai8⟩⟩:=h1.over.sls;obtain ⟨⟨aC9,ao9,aq9,rfl,ai9⟩,⟨aC10,ao10,aq10,rfl,ai10⟩,⟨aC11,ao11,aq11,rfl,ai11⟩,⟨aC12,ao12,aq12,rfl,ai12⟩⟩:=h1.fin.sls;obtain ⟨aC13,ao13,aq13,rfl,ai13⟩:=h1.atStart;obtain ⟨aC14,ao14,aq14,rfl,ai14⟩:=h1.atEnd;obtain ⟨bC0,bo0,bq0,rfl,bi0⟩:=h2.params;obtain ⟨⟨bC1,bo1,bq1,rfl,bi1⟩,⟨bC2,bo2,bq2,rfl,bi2⟩,⟨bC3,bo3,bq3,rfl,bi3⟩,⟨bC4,bo4,bq4,rfl,bi4⟩⟩:=h2.start.sls;obtain ⟨⟨bC5,bo5,bq5,rfl,bi5⟩,⟨bC6,bo6,bq6,rfl,bi6⟩,⟨bC7,bo7,bq7,rfl,bi7⟩,⟨bC8,bo8,bq8,rfl,bi8⟩⟩:=h2.over.sls;obtain ⟨⟨bC9,bo9,bq9,rfl,bi9⟩,⟨bC10,bo10,bq10,rfl,bi10⟩,⟨bC11,bo11,bq11,rfl,bi11⟩,⟨bC12,bo12,bq12,rfl,bi12⟩⟩:=h2.fin.sls;obtain ⟨bC13,bo13,bq13,rfl,bi13⟩:=h2.atStart;obtain ⟨bC14,bo14,bq14,rfl,bi14⟩:=h2.atEnd;refine zF Tryz.func43 Tryz.ntmps43 (fun w0=>?_);refine pX (fun g0=>?_);refine pY (fun g1=>?_);refine zW ?_
 (((refine zC (fun e1=>?_) (fun e1=>?_));(exact absurd rfl e1);(refine zW ?_)))
 (((refine zC (fun e2=>?_) (fun e2=>?_));(exact absurd rfl e2);(refine zW ?_)));refine zc (Yju ai0 bi0) ?_;refine wc (Yjv ai13 bi13) ?_;refine wc (Yjv ai14 bi14) ?_;refine wG ?_;refine Yc (vs:=[Zy x.start.op,Zy x.start.name,Zc aC1 ao1 aq1,Zc aC2 ao2 aq2,Zc aC3 ao3 aq3,Zc aC4 ao4 aq4]) 1 ?_;refine wG ?_;refine Yc (vs:=[Zy x.start.op,Zy x.start.name,Zc bC1 bo1 bq1,Zc bC2 bo2 bq2,Zc bC3 bo3 bq3,Zc bC4 bo4 bq4]) 0 ?_;refine zc (Yof p1 p2) ?_;refine wG ?_;refine Yc (vs:=[Zy x.over.op,Zy x.over.name,Zc aC5 ao5 aq5,Zc aC6 ao6 aq6,Zc aC7 ao7 aq7,Zc aC8 ao8 aq8]) 1 ?_;refine wG ?_;refine Yc (vs:=[Zy x.over.op,Zy x.over.name,Zc bC5 bo5 bq5,Zc bC6 bo6 bq6,Zc bC7 bo7 bq7,Zc bC8 bo8 bq8]) 0 ?_;refine zc (Yof p3 p4) ?_;refine wG ?_;refine Yc (vs:=[Zy x.fin.op,Zy x.fin.name,Zc aC9 ao9 aq9,Zc aC10 ao10 aq10,Zc aC11 ao11 aq11,Zc aC12 ao12 aq12]) 1 ?_;refine wG ?_;refine Yc (vs:=[Zy x.fin.op,Zy x.fin.name,Zc bC9 bo9 bq9,Zc bC10 bo10 bq10,Zc bC11 bo11 bq11,Zc bC12 bo12 bq12]) 0 ?_;refine zc (Yof p5 p6) ?_;exact wR (h:=rfl)
theorem edomain {x:Domain} {w4 w5 w6:Value} (h1:DomainR fz x v1 v2 v3 v4 v5 v6) (h2:DomainR fz x w1 w2 w3 w4 w5 w6):
 QFn prog 10 [ZD x v1 v2 v3 v4 v5 v6,ZD x w1 w2 w3 w4 w5 w6] fz (Zo true):=by
 refine GFn.quiet ?_;obtain ⟨⟨aC0,ao0,aq0,rfl,ai0⟩,⟨aC1,ao1,aq1,rfl,ai1⟩,⟨aC2,ao2,aq2,rfl,ai2⟩,⟨aC3,ao3,aq3,rfl,ai3⟩,⟨aC4,ao4,aq4,rfl,ai4⟩,⟨aC5,ao5,aq5,rfl,ai5⟩⟩:=h1.sls;obtain ⟨⟨bC0,bo0,bq0,rfl,bi0⟩,⟨bC1,bo1,bq1,rfl,bi1⟩,⟨bC2,bo2,bq2,rfl,bi2⟩,⟨bC3,bo3,bq3,rfl,bi3⟩,⟨bC4,bo4,bq4,rfl,bi4⟩,⟨bC5,bo5,bq5,rfl,bi5⟩⟩:=h2.sls;have ka2:=ai2.len;have kb2:=bi2.len;have ks2:=ai2.short;subst ka2 kb2;have ka3:=ai3.len;have kb3:=bi3.len;have ks3:=ai3.short;subst ka3 kb3;have ka4:=ai4.len;have kb4:=bi4.len;have ks4:=ai4.short;subst ka4 kb4;have ka5:=ai5.len;have kb5:=bi5.len;have ks5:=ai5.short;subst ka5 kb5;refine zF Tryz.func10 Tryz.ntmps10 (fun w0=>?_);refine pX (fun g0=>?_);refine pY (fun g1=>?_);refine zW ?_
 (((refine zC (fun e1=>?_) (fun e1=>?_));(exact absurd rfl e1);(refine zW ?_)));refine zc (Yju ai0 bi0) ?_;refine wc (Yju ai1 bi1) ?_;refine zW ?_
 (((refine zC (fun e2=>?_) (fun e2=>?_));(exact absurd rfl e2);(refine zW ?_)))
 (((refine zC (fun e3=>?_) (fun e3=>?_));(exact absurd rfl e3);(refine zW ?_)))
 (((refine zC (fun e4=>?_) (fun e4=>?_));(exact absurd rfl e4);(refine zW ?_)))
 (((refine zC (fun e5=>?_) (fun e5=>?_));(exact absurd rfl e5);(refine zW ?_)));refine Yi (fun q σ fz' H'=>∃ k:Nat,k<=x.predicates.length/\q=x.predicates.length - k/\σ=[(5,Zk k),(3,Zp g1),(2,Zp g0)]/\fz=fz'/\H'=[(g1,Zu #[Zy x.name,Zc bC0 bo0 bq0,Zc bC1 bo1 bq1,Zc bC2 x.predicates.length bq2,Zc bC3 x.functions.length bq3,Zc bC4 x.actions.length bq4,Zc bC5 x.duratives.length bq5] 28),(g0,Zu #[Zy x.name,Zc aC0 ao0 aq0,Zc aC1 ao1 aq1,Zc aC2 x.predicates.length aq2,Zc aC3 x.functions.length aq3,Zc aC4 x.actions.length aq4,Zc aC5 x.duratives.length aq5] 28)]) ⟨0,Z0 _,rfl,rfl,rfl,rfl⟩ Zw Zb ?_;rintro q σ fz' H' ⟨k,hk,rfl,rfl,rfl,rfl⟩;refine wC ?_ ?_<;>intro c2
 ·obtain ⟨y,hy⟩:=Ye (l:=x.predicates) (k:=k) Zi;refine wI ai2 hy (fun p1 hp1=>?_);refine wH hp1.Predicate_name (fun s1=>?_);refine wI bi2 hy (fun p2 hp2=>?_);refine wH hp2.Predicate_name (fun s2=>?_);refine zW ?_
  (((refine zC (fun n1=>?_) (fun n1=>?_));(exact absurd rfl n1);(refine zW ?_)));refine zI ai2 hy (fun p3 hp3=>?_);refine wG ?_;refine YbX hp3.Predicate_params (fun P1 m1 z1 j1=>?_);refine wI bi2 hy (fun p4 hp4=>?_);refine wG ?_;refine YbX hp4.Predicate_params (fun P2 m2 z2 j2=>?_);refine zc (Yju j1 j2) ?_;exact wP (h:=by exact ⟨k+1,by omega,rfl,rfl,rfl,rfl⟩)
 refine zW ?_;refine Yi (fun q σ fz' H'=>∃ k:Nat,k<=x.functions.length/\q=x.functions.length - k/\σ=[(6,Zk k),(3,Zp g1),(2,Zp g0)]/\fz=fz'/\H'=[(g1,Zu #[Zy x.name,Zc bC0 bo0 bq0,Zc bC1 bo1 bq1,Zc bC2 x.predicates.length bq2,Zc bC3 x.functions.length bq3,Zc bC4 x.actions.length bq4,Zc bC5 x.duratives.length bq5] 28),(g0,Zu #[Zy x.name,Zc aC0 ao0 aq0,Zc aC1 ao1 aq1,Zc aC2 x.predicates.length aq2,Zc aC3 x.functions.length aq3,Zc aC4 x.actions.length aq4,Zc aC5 x.duratives.length aq5] 28)]) ⟨0,Z0 _,rfl,rfl,rfl,rfl⟩ Zw Zb ?_;rintro q σ fz' H' ⟨k,hk,rfl,rfl,rfl,rfl⟩;refine wC ?_ ?_<;>intro c2
 ·obtain ⟨y,hy⟩:=Ye (l:=x.functions) (k:=k) Zi;refine zWN ?_;refine YY (fun σ fz' H'=>∃ g6 g7 ca cb,σ=[(6,Zk k),(8,Zp g7),(7,Zp g6),(3,Zp g1),(2,Zp g0)]/\fz=fz'/\H'=(g7,Zu (List.toArray cb) 63)::(g6,Zu (List.toArray ca) 63):: [(g1,Zu #[Zy x.name,Zc bC0 bo0 bq0,Zc bC1 bo1 bq1,Zc bC2 x.predicates.length bq2,Zc bC3 x.functions.length bq3,Zc bC4 x.actions.length bq4,Zc bC5 x.duratives.length bq5] 28),(g0,Zu #[Zy x.name,Zc aC0 ao0 aq0,Zc aC1 ao1 aq1,Zc aC2 x.predicates.length aq2,Zc aC3 x.functions.length aq3,Zc aC4 x.actions.length aq4,Zc aC5 x.duratives.length aq5] 28)]/\functionL.rep fz y ca/\functionL.rep fz y cb) ?_ ?_
  ·refine WP [] [_,_] ?_;refine wI ai3 hy (fun p1 hp1=>?_);refine zL hp1 ?_;intro cs1 hr1;have hr1':=hr1;obtain ⟨x1,rfl,hY1⟩:=YW hr1;obtain ⟨F1,f1,y1,rfl,_⟩:=hY1.params;refine wI bi3 hy (fun p2 hp2=>?_);refine zL hp2 ?_;intro cs2 hr2;have hr2':=hr2;obtain ⟨x2,rfl,hY2⟩:=YW hr2;obtain ⟨F2,f2,y2,rfl,_⟩:=hY2.params;refine zW ?_;refine pT ?_;refine XD ?_ ?_
   ·refine Yd (Y7 (fun g6=>⟨⟨Zd,Zx⟩,?_⟩));refine Yh ?_;refine Yd (Y7 (fun g7=>⟨⟨Zd,Zx⟩,?_⟩));refine Yh ?_;refine Yas (Y9 ⟨⟨Zd,Zx⟩,?_⟩);refine Yh ?_;refine Yas (YG ⟨⟨Zd,Zx⟩,?_⟩);refine Po.done ?_;exact wN (h:=by exact ⟨g6,g7,_,_,rfl,rfl,rfl,hr1',hr2'⟩)
   refine Yd (Y7 (fun g7=>⟨⟨Zd,Zx⟩,?_⟩));refine Yh ?_;refine Yd (Y7 (fun g6=>⟨⟨Zd,Zx⟩,?_⟩));refine Yh ?_;refine Yas (YG ⟨⟨Zd,Zx⟩,?_⟩);refine Yh ?_;refine Yas (Y9 ⟨⟨Zd,Zx⟩,?_⟩);refine Po.done ?_;refine zW ?_;exact midP (H1:=(g7,_)::(g6,_):: [_,_]) (List.Perm.swap _ _ _) ⟨g6,g7,_,_,rfl,rfl,rfl,hr1',hr2'⟩ Zw Zb
  rintro σ fz' H' ⟨g6,g7,ca,cb,rfl,rfl,rfl,hr1,hr2⟩;obtain ⟨x1,rfl,hY1⟩:=YW hr1;obtain ⟨F1,f1,y1,rfl,j1⟩:=hY1.params;obtain ⟨x2,rfl,hY2⟩:=YW hr2;obtain ⟨F2,f2,y2,rfl,j2⟩:=hY2.params;refine zW ?_
  (((refine zC (fun n1=>?_) (fun n1=>?_));(exact absurd rfl n1);(refine zW ?_)))
  (((refine zC (fun n2=>?_) (fun n2=>?_));(exact absurd rfl n2);(refine zW ?_)))
  (((refine zC (fun n3=>?_) (fun n3=>?_));(exact absurd rfl n3);(refine zW ?_)));refine zc (Yju j1 j2) ?_;exact wP (h:=by exact ⟨k+1,by omega,rfl,rfl,rfl,rfl⟩)
 refine zW ?_;refine Yi (fun q σ fz' H'=>∃ k:Nat,k<=x.actions.length/\q=x.actions.length - k/\σ=[(9,Zk k),(3,Zp g1),(2,Zp g0)]/\fz=fz'/\H'=[(g1,Zu #[Zy x.name,Zc bC0 bo0 bq0,Zc bC1 bo1 bq1,Zc bC2 x.predicates.length bq2,Zc bC3 x.functions.length bq3,Zc bC4 x.actions.length bq4,Zc bC5 x.duratives.length bq5] 28),(g0,Zu #[Zy x.name,Zc aC0 ao0 aq0,Zc aC1 ao1 aq1,Zc aC2 x.predicates.length aq2,Zc aC3 x.functions.length aq3,Zc aC4 x.actions.length aq4,Zc aC5 x.duratives.length aq5] 28)]) ⟨0,Z0 _,rfl,rfl,rfl,rfl⟩ Zw Zb ?_;rintro q σ fz' H' ⟨k,hk,rfl,rfl,rfl,rfl⟩;refine wC ?_ ?_<;>intro c2
 ·obtain ⟨y,hy⟩:=Ye (l:=x.actions) (k:=k) Zi;refine wI ai4 hy (fun p1 hp1=>?_);refine zL hp1 ?_;intro cs1 hr1;obtain ⟨y1,y2,y3,y4,y5,y6,rfl,hY1⟩:=Xh hr1;refine wI bi4 hy (fun p2 hp2=>?_);refine zL hp2 ?_;intro cs2 hr2;obtain ⟨z1,z2,z3,z4,z5,z6,rfl,hY2⟩:=Xh hr2;refine wc (eaction hY1 hY2) ?_;exact wP (h:=by exact ⟨k+1,by omega,rfl,rfl,rfl,rfl⟩)
 refine zW ?_;refine Yi (fun q σ fz' H'=>∃ k:Nat,k<=x.duratives.length/\q=x.duratives.length - k/\σ=[(10,Zk k),(3,Zp g1),(2,Zp g0)]/\fz=fz'/\H'=[(g1,Zu #[Zy x.name,Zc bC0 bo0 bq0,Zc bC1 bo1 bq1,Zc bC2 x.predicates.length bq2,Zc bC3 x.functions.length bq3,Zc bC4 x.actions.length bq4,Zc bC5 x.duratives.length bq5] 28),(g0,Zu #[Zy x.name,Zc aC0 ao0 aq0,Zc aC1 ao1 aq1,Zc aC2 x.predicates.length aq2,Zc aC3 x.functions.length aq3,Zc aC4 x.actions.length aq4,Zc aC5 x.duratives.length aq5] 28)]) ⟨0,Z0 _,rfl,rfl,rfl,rfl⟩ Zw Zb ?_;rintro q σ fz' H' ⟨k,hk,rfl,rfl,rfl,rfl⟩;refine wC ?_ ?_<;>intro c2
 ·obtain ⟨y,hy⟩:=Ye (l:=x.duratives) (k:=k) Zi;refine wI ai5 hy (fun p1 hp1=>?_);refine zL hp1 ?_;intro cs1 hr1;obtain ⟨y1,y2,y3,y4,y5,y6,y7,y8,y9,y10,y11,y12,y13,y14,y15,rfl,hY1⟩:=YZ hr1;refine wI bi5 hy (fun p2 hp2=>?_);refine zL hp2 ?_;intro cs2 hr2;obtain ⟨z1,z2,z3,z4,z5,z6,z7,z8,z9,z10,z11,z12,z13,z14,z15,rfl,hY2⟩:=YZ hr2;refine wc (Yqq hY1 hY2) ?_;exact wP (h:=by exact ⟨k+1,by omega,rfl,rfl,rfl,rfl⟩)
 exact wR (h:=rfl)
theorem ecmp {a:Atom} (ha:AtomR fz a va) (hb:AtomR fz a vb):QFn prog 112 [.agg #[Zy a.name,va],.agg #[Zy a.name,vb]] fz (Zk 0):=by
 have:=rcmp_q ha hb;rw [(YqD a a).2 rfl] at this;exact this
theorem eatoms {n c m d:Nat} {l:List Atom} (h1:Sl atomL fz A n c l) (h2:Sl atomL fz B m d l):QFn prog 44 [Zc A n c,Zc B m d] fz (Zo true):=by
 have k1:=h1.len;have k2:=h2.len;have k3:=h1.short;subst k1 k2;refine qF Tryz.func44 Tryz.ntmps44 (fun w0=>?_);refine zW ?_
 (((refine zC (fun c1=>?_) (fun c1=>?_));(exact absurd rfl c1);(refine zW ?_)));refine Yi (fun q σ fz' H'=>∃ k:Nat,k<=l.length/\q=l.length - k/\σ=[(5,Zk k),(0,Zc A l.length c),(1,Zc B l.length d)]/\fz=fz'/\H'=[]) ⟨0,Z0 _,rfl,rfl,rfl,rfl⟩ Zw Zb ?_;rintro q σ fz' H' ⟨k,hk,rfl,rfl,rfl,rfl⟩;refine wC ?_ ?_<;>intro c2
 ·obtain ⟨x,hx⟩:=Ye (l:=l) (k:=k) Zi;refine wI h1 hx (fun p1 hp1=>?_);refine zL hp1 ?_;intro cs1 hr1;obtain ⟨v1,rfl,hY1⟩:=XA hr1;refine wI h2 hx (fun p2 hp2=>?_);refine zL hp2 ?_;intro cs2 hr2;obtain ⟨v2,rfl,hY2⟩:=XA hr2;refine wc (ecmp hY1 hY2) ?_;refine zW ?_
  (((refine zC (fun n1=>?_) (fun n1=>?_));(exact absurd rfl n1);(refine zW ?_)));exact wP (h:=by exact ⟨k+1,by omega,rfl,rfl,rfl,rfl⟩)
 exact wR (h:=rfl)
theorem evalues {n c m d:Nat} {l:List Value_} (h1:Sl valueL fz A n c l) (h2:Sl valueL fz B m d l):QFn prog 45 [Zc A n c,Zc B m d] fz (Zo true):=by
 have k1:=h1.len;have k2:=h2.len;have k3:=h1.short;subst k1 k2;refine qF Tryz.func45 Tryz.ntmps45 (fun w0=>?_);refine zW ?_
 (((refine zC (fun c1=>?_) (fun c1=>?_));(exact absurd rfl c1);(refine zW ?_)));refine Yi (fun q σ fz' H'=>∃ k:Nat,k<=l.length/\q=l.length - k/\σ=[(5,Zk k),(0,Zc A l.length c),(1,Zc B l.length d)]/\fz=fz'/\H'=[]) ⟨0,Z0 _,rfl,rfl,rfl,rfl⟩ Zw Zb ?_;rintro q σ fz' H' ⟨k,hk,rfl,rfl,rfl,rfl⟩;refine wC ?_ ?_<;>intro c2
 ·obtain ⟨x,hx⟩:=Ye (l:=l) (k:=k) Zi;refine wI h1 hx (fun p1 hp1=>?_);refine wG ?_;refine Xz T Zz Zz Zz hp1.Value__n (fun i1=>?_);refine wI h2 hx (fun p2 hp2=>?_);refine wG ?_;refine Xz T Zz Zz Zz hp2.Value__n (fun i2=>?_);refine zW ?_
  (((refine zC (fun n1=>?_) (fun n1=>?_));(exact absurd rfl n1);(refine zW ?_)));refine zI h1 hx (fun p3 hp3=>?_);refine wL hp3.Value__fluent ?_;intro cs1 hr1;obtain ⟨v1,rfl,hY1⟩:=XA hr1;refine wI h2 hx (fun p4 hp4=>?_);refine wL hp4.Value__fluent ?_;intro cs2 hr2;obtain ⟨v2,rfl,hY2⟩:=XA hr2;refine wc (ecmp hY1 hY2) ?_;refine zW ?_
  (((refine zC (fun n2=>?_) (fun n2=>?_));(exact absurd rfl n2);(refine zW ?_)));exact wP (h:=by exact ⟨k+1,by omega,rfl,rfl,rfl,rfl⟩)
 exact wR (h:=rfl)
theorem eproblem {x:Problem} {w4 w5 w6 w7:Value} (h1:ProblemR fz x v1 v2 v3 v4 v5 v6 v7) (h2:ProblemR fz x w1 w2 w3 w4 w5 w6 w7):
 QFn prog 11 [ZP x v1 v2 v3 v4 v5 v6 v7,ZP x w1 w2 w3 w4 w5 w6 w7] fz (Zo true):=by
 have p1:=h1.goal;have p2:=h2.goal;refine GFn.quiet ?_;obtain ⟨⟨aC0,ao0,aq0,rfl,ai0⟩,⟨aC1,ao1,aq1,rfl,ai1⟩,⟨aC2,ao2,aq2,rfl,ai2⟩⟩:=h1.sls;obtain ⟨⟨aC3,ao3,aq3,rfl,ai3⟩,⟨aC4,ao4,aq4,rfl,ai4⟩,⟨aC5,ao5,aq5,rfl,ai5⟩,⟨aC6,ao6,aq6,rfl,ai6⟩⟩:=h1.goal.sls;obtain ⟨⟨bC0,bo0,bq0,rfl,bi0⟩,⟨bC1,bo1,bq1,rfl,bi1⟩,⟨bC2,bo2,bq2,rfl,bi2⟩⟩:=h2.sls;obtain ⟨⟨bC3,bo3,bq3,rfl,bi3⟩,⟨bC4,bo4,bq4,rfl,bi4⟩,⟨bC5,bo5,bq5,rfl,bi5⟩,⟨bC6,bo6,bq6,rfl,bi6⟩⟩:=h2.goal.sls;refine zF Tryz.func11 Tryz.ntmps11 (fun w0=>?_);refine pX (fun g0=>?_);refine pY (fun g1=>?_);refine zW ?_
 (((refine zC (fun e1=>?_) (fun e1=>?_));rotate_left 1;(exact absurd rfl e1);(refine zW ?_)))
 (((refine zC (fun e2=>?_) (fun e2=>?_));rotate_left 1;(exact absurd rfl e2);(refine zW ?_)));refine zc (Yju ai0 bi0) ?_;refine wc (eatoms ai1 bi1) ?_;refine wc (evalues ai2 bi2) ?_;refine wG ?_;refine Yc (vs:=[Zy x.goal.op,Zy x.goal.name,Zc aC3 ao3 aq3,Zc aC4 ao4 aq4,Zc aC5 ao5 aq5,Zc aC6 ao6 aq6]) 1 ?_;refine wG ?_;refine Yc (vs:=[Zy x.goal.op,Zy x.goal.name,Zc bC3 bo3 bq3,Zc bC4 bo4 bq4,Zc bC5 bo5 bq5,Zc bC6 bo6 bq6]) 0 ?_;refine zc (Yof p1 p2) ?_;exact wR (h:=rfl)
theorem YiI {w:α->Nat}:((l.take k).map w).sum<=(l.map w).sum:=by
 conv=>rhs;rw [<- List.take_append_drop k l]
 rw [List.map_append,List.sum_append];omega
theorem YiJ {w:α->Nat} {x:α} (hx:l[k]?=some x):((l.take (k+1)).map w).sum=((l.take k).map w).sum+w x:=by
 rw [List.take_add_one,hx];simp
mutual
theorem ecount_le:∀ e:Lx.Expr,ecount e<=eW e
 | .mk a b c args kids=>by have:=ecountL_le kids;rw [ecount,eW];omega
theorem ecountL_le:∀ l:List Lx.Expr,ecountL l<=eWL l
 | []=>by simp [ecountL]
 | x::r=>by have h1:=ecount_le x;have h2:=ecountL_le r;rw [ecountL,eWL];omega
end
mutual
theorem fcount_le:∀ f:Formula,fcount f<=fW f
 | .mk a b c d exprs kids=>by have h1:=ecountL_le exprs;have h2:=fcountL_le kids;rw [fcount,fW];omega
theorem fcountL_le:∀ l:List Formula,fcountL l<=fWL l
 | []=>by simp [fcountL]
 | x::r=>by have h1:=fcount_le x;have h2:=fcountL_le r;rw [fcountL,fWL];omega
end
theorem Yo0:∀ (s:Nat) {fz:FZ} {e:Lx.Expr} {va vk:Value},SizeOf.sizeOf e<=s->ExprR fz e va vk->ecount e<=1000000000000->
 QFn prog 47 [.agg #[Zy e.op,Zy e.name,Zk e.n,va,vk]] fz (Zk (ecount e))
 | 0,_,e,_,_,hs,_,_=>by cases e;simp at hs
 | s+1,fz,e,va,vk,hs,h,hc=>by
  obtain ⟨⟨A,n,ca,rfl,ha⟩,⟨B,m,cb,rfl,hk⟩⟩:=h.sls;refine GFn.quiet ?_;have lk:=hk.len;have sk:=hk.short;have ec:=YdM e;refine zF Tryz.func47 Tryz.ntmps47 (fun w0=>?_);refine pX (fun g0=>?_);refine zW ?_;refine Yi (fun q σ fz' H'=>∃ (k:Nat) (c:Int),k<=m/\q=m - k/\σ=[(4,Zk k),(3,Zk c),(1,Zp g0)]/\fz=fz'/\H'=[(g0,Zu #[Zy e.op,Zy e.name,Zk e.n,Zc A n ca,Zc B m cb] 112)]/\c=((1+ecountL (e.kids.take k):Nat):Int)) ⟨0,_,Z0 _,rfl,rfl,rfl,rfl,rfl⟩ Zw Zb ?_;rintro q σ fz' H' ⟨k,c,hkm,rfl,rfl,rfl,rfl,hh⟩;refine wC ?_ ?_<;>intro c1
  ·obtain ⟨x,hx⟩:=Ye (l:=e.kids) (k:=k) Zi;have hxm:=Zm hx;have hlt:=Lx.Expr.kids_lt hxm;have hst:=YdO hx;have htk:=YdN (l:=e.kids) (k:=k+1);refine wI hk hx (fun p1 hp1=>?_);refine zL hp1 ?_;intro cs hcs;obtain ⟨wa,wk,rfl,hRx⟩:=YD hcs;refine wG ?_;refine YF (Yo0 s Zi hRx Zi) ?_;exact wP (h:=by exact ⟨k+1,c+(ecount x:Nat),by omega,rfl,rfl,rfl,rfl,by omega⟩)
  rw [Zl Zi] at hh;exact wR (h:=by rw [hh,ec])
theorem YoZ {e:Lx.Expr} (h:ExprR fz e va vk) (hc:ecount e<=1000000000000):
 QFn prog 47 [.agg #[Zy e.op,Zy e.name,Zk e.n,va,vk]] fz (Zk (ecount e)):=Yo0 _ (Zs _) h hc
theorem size_f:∀ (s:Nat) {fz:FZ} {f:Formula} {va vp ve vk:Value},SizeOf.sizeOf f<=s->FormulaR fz f va vp ve vk->fcount f<=1000000000000->
 QFn prog 12 [.agg #[Zy f.op,Zy f.name,va,vp,ve,vk]] fz (Zk (fcount f))
 | 0,_,e,_,_,_,_,hs,_,_=>by cases e;simp at hs
 | s+1,fz,f,va,vp,ve,vk,hs,h,hc=>by
  obtain ⟨⟨A,n,ca,rfl,ha⟩,⟨B,m,cb,rfl,hp⟩,⟨C,r,cr,rfl,he⟩,⟨D,q0,cq,rfl,hk⟩⟩:=h.sls;refine GFn.quiet ?_;have lk:=hk.len;have sk:=hk.short;have le:=he.len;have se:=he.short;have ec:=Ye4 f;refine zF Tryz.func12 Tryz.ntmps12 (fun w0=>?_);refine pX (fun g0=>?_);refine zW ?_;refine Yi (fun q σ fz' H'=>∃ (k:Nat) (c:Int),k<=r/\q=r - k/\σ=[(4,Zk k),(3,Zk c),(1,Zp g0)]/\fz=fz'/\H'=[(g0,Zu #[Zy f.op,Zy f.name,Zc A n ca,Zc B m cb,Zc C r cr,Zc D q0 cq] 35)]/\c=((1+ecountL (f.exprs.take k):Nat):Int)) ⟨0,_,Z0 _,rfl,rfl,rfl,rfl,rfl⟩ Zw Zb ?_;rintro q σ fz' H' ⟨k,c,hkm,rfl,rfl,rfl,rfl,hh⟩;refine wC ?_ ?_<;>intro c1
  ·obtain ⟨x,hx⟩:=Ye (l:=f.exprs) (k:=k) Zi;have hxm:=Zm hx;have hst:=YdO hx;have htk:=YdN (l:=f.exprs) (k:=k+1);refine wI he hx (fun p1 hp1=>?_);refine zL hp1 ?_;intro cs hcs;obtain ⟨wa,wk,rfl,hRx⟩:=YD hcs;refine wG ?_;refine YF (YoZ hRx Zi) ?_;exact wP (h:=by exact ⟨k+1,c+(ecount x:Nat),by omega,rfl,rfl,rfl,rfl,by omega⟩)
  rw [Zl Zi] at hh;refine zW ?_;refine Yi (fun q σ fz' H'=>∃ (k:Nat) (c:Int),k<=q0/\q=q0 - k/\σ=[(5,Zk k),(3,Zk c),(1,Zp g0)]/\fz=fz'/\H'=[(g0,Zu #[Zy f.op,Zy f.name,Zc A n ca,Zc B m cb,Zc C r cr,Zc D q0 cq] 35)]/\c=((1+ecountL f.exprs+fcountL (f.kids.take k):Nat):Int)) ⟨0,c,Z0 _,rfl,rfl,rfl,rfl,by rw [hh];simp [fcountL]⟩ Zw Zb ?_;rintro q σ fz' H' ⟨k,c,hkm,rfl,rfl,rfl,rfl,hh⟩;refine wC ?_ ?_<;>intro c2
  ·obtain ⟨x,hx⟩:=Ye (l:=f.kids) (k:=k) Zi;have hxm:=Zm hx;have hlt:=Formula.kids_lt hxm;have hst:=Yf5 hx;have htk:=Yf4 (l:=f.kids) (k:=k+1);refine wI hk hx (fun p1 hp1=>?_);refine zL hp1 ?_;intro cs hcs;obtain ⟨w1,w2,w3,w4,rfl,hRx⟩:=Yv hcs;refine wG ?_;refine YF (size_f s Zi hRx Zi) ?_;exact wP (h:=by exact ⟨k+1,c+(fcount x:Nat),by omega,rfl,rfl,rfl,rfl,by omega⟩)
  rw [Zl Zi] at hh;exact wR (h:=by rw [hh,ec])
theorem Yh9 {f:Formula} (h:FormulaR fz f va vp ve vk) (hc:fcount f<=1000000000000):
 QFn prog 12 [.agg #[Zy f.op,Zy f.name,va,vp,ve,vk]] fz (Zk (fcount f)):=size_f _ (Zs _) h hc
def hvC (c:Change):Nat:=1+c.params.length+c.args.length+fcount c.when_+ecount c.value
def Ycg (l:List Change):Nat:=(l.map hvC).sum
theorem hvC_le (c:Change):hvC c<=1*Xx c:=by
 have h1:=fcount_le c.when_;have h2:=ecount_le c.value;unfold hvC Xx;omega
theorem Yhb (l:List Change):Ycg l<=(l.map Xx).sum:=by
 have:=YiK hvC_le l;unfold Ycg;omega
theorem Yl5 {n ca:Nat} {l:List Change} (h1:Sl changeL fz A n ca l) (hc:Ycg l<=1000000000000):
 QFn prog 13 [Zc A n ca] fz (Zk (Ycg l)):=by
 refine GFn.quiet ?_;have l1:=h1.len;have s1:=h1.short;refine zF Tryz.func13 Tryz.ntmps13 (fun w0=>?_);refine zW ?_;refine Yi (fun q σ fz' H'=>∃ (k:Nat) (c:Int),k<=n/\q=n - k/\σ=[(4,Zk k),(3,Zk c),(0,Zc A n ca)]/\fz=fz'/\H'=[]/\c=((((l.take k).map hvC).sum:Nat):Int)) ⟨0,_,Z0 _,rfl,rfl,rfl,rfl,rfl⟩ Zw Zb ?_;rintro q σ fz' H' ⟨k,c,hkm,rfl,rfl,rfl,rfl,hh⟩;refine wC ?_ ?_<;>intro c1
 ·obtain ⟨x,hx⟩:=Ye (l:=l) (k:=k) Zi;have hst:=YiJ (w:=hvC) hx;have htk:=YiI (w:=hvC) (l:=l) (k:=k+1);unfold Ycg at hc;have hvx:hvC x=1+x.params.length+x.args.length+fcount x.when_+ecount x.value:=rfl;refine wI h1 hx (fun p1 hp1=>?_);refine wG ?_;refine YbX hp1.Change_params (fun P1 pn1 pc1 ip=>?_);have lp:=ip.len;refine wI h1 hx (fun p2 hp2=>?_);refine wG ?_;refine YbX hp2.Change_args (fun P2 pn2 pc2 ia=>?_);have la:=ia.len;refine wI h1 hx (fun p3 hp3=>?_);refine wL hp3.Change_when_ ?_;intro cs3 hcs3;obtain ⟨w1,w2,w3,w4,rfl,hR3⟩:=Yv hcs3
  ((refine zG ?_);refine YF (Yh9 hR3 Zi) ?_);refine wI h1 hx (fun p4 hp4=>?_);refine wL hp4.Change_value ?_;intro cs4 hcs4;obtain ⟨u1,u2,rfl,hR4⟩:=YD hcs4
  ((refine zG ?_);refine YF (YoZ hR4 Zi) ?_);exact wP (h:=by exact ⟨k+1,c+(1+pn1+pn2+(fcount x.when_:Nat)+(ecount x.value:Nat)),by omega,rfl,rfl,rfl,rfl,by omega⟩)
 rw [Zl Zi] at hh;exact wR (h:=by rw [hh];rfl)
def laA (a:Action):Nat:=1+fcount a.pre+Ycg a.changes
def laU (a:Durative):Nat:=1+fcount a.start+fcount a.over+fcount a.fin+Ycg a.atStart+Ycg a.atEnd
def YdH (d:Domain) (p:Problem):Nat:=d.types.length+d.constants.length+d.predicates.length+d.functions.length+p.objects.length+p.init.length+p.values.length+fcount p.goal+(d.actions.map laA).sum+(d.duratives.map laU).sum
theorem laA_le (a:Action):laA a<=1*actW a:=by
 have h1:=fcount_le a.pre;have h2:=Yhb a.changes;unfold laA actW;omega
theorem laU_le (a:Durative):laU a<=1*durW a:=by
 have h1:=fcount_le a.start;have h2:=fcount_le a.over;have h3:=fcount_le a.fin;have h4:=Yhb a.atStart;have h5:=Yhb a.atEnd;unfold laU durW;omega
theorem YpQ (d:Domain) (p:Problem):YdH d p<=domW d+prbW p:=by
 have h1:=YiK laA_le d.actions;have h2:=YiK laU_le d.duratives;have h3:=fcount_le p.goal;have h4:=WG Yks d.predicates;have h5:=WG Yno d.functions;have h6:=WG Ylj p.init;have h7:=WG Yh7 p.values;unfold YdH domW prbW;omega
theorem Yn7 {d:Domain} {p:Problem} (h:DomainR fz d v1 v2 v3 v4 v5 v6) (hp:ProblemR fz p u1 u2 u3 u4 u5 u6 u7) (hn:YdH d p<=1000000000000:=by omega):
 QFn prog 4 [ZD d v1 v2 v3 v4 v5 v6,ZP p u1 u2 u3 u4 u5 u6 u7] fz (Zo (decide (2000<YdH d p))):=by
 obtain ⟨A1,n1,b1,rfl,i1⟩:=h.types;have l1:=i1.len;obtain ⟨A2,n2,b2,rfl,i2⟩:=h.constants;have l2:=i2.len;obtain ⟨A3,n3,b3,rfl,i3⟩:=h.predicates;have l3:=i3.len;obtain ⟨A4,n4,b4,rfl,i4⟩:=h.functions;have l4:=i4.len;obtain ⟨A5,n5,b5,rfl,i5⟩:=h.actions;have l5:=i5.len;obtain ⟨A6,n6,b6,rfl,i6⟩:=h.duratives;have l6:=i6.len;have s5:=i5.short;have s6:=i6.short;obtain ⟨C1,m1,e1,rfl,j1⟩:=hp.objects;have k1:=j1.len;obtain ⟨C2,m2,e2,rfl,j2⟩:=hp.init;have k2:=j2.len;obtain ⟨C3,m3,e3,rfl,j3⟩:=hp.values;have k3:=j3.len;have hg:=hp.goal;obtain ⟨⟨U1,w1,z1,rfl,_⟩,⟨U2,w2,z2,rfl,_⟩,⟨U3,w3,z3,rfl,_⟩,⟨U4,w4,z4,rfl,_⟩⟩:=hp.goal.sls;refine GFn.quiet ?_;have hnn:YdH d p=d.types.length+d.constants.length+d.predicates.length+d.functions.length+p.objects.length+p.init.length+p.values.length+fcount p.goal+(d.actions.map laA).sum+(d.duratives.map laU).sum:=rfl;refine zF Tryz.func4 Tryz.ntmps4 (fun w0=>?_);refine pX (fun g0=>?_);refine pY (fun g1=>?_);refine wG ?_;refine Yc (vs:=[Zy p.goal.op,Zy p.goal.name,Zc U1 w1 z1,Zc U2 w2 z2,Zc U3 w3 z3,Zc U4 w4 z4]) 0 ?_
 ((refine zG ?_);refine YF (Yh9 hg Zi) ?_);refine zW ?_;refine Yi (fun q σ fz' H'=>∃ (k:Nat) (c:Int),k<=n5/\q=n5 - k/\σ=[(6,Zk k),(5,Zk c),(2,Zp g0)]/\fz=fz'/\H'=[(g0,Zu #[Zy d.name,Zc A1 n1 b1,Zc A2 n2 b2,Zc A3 n3 b3,Zc A4 n4 b4,Zc A5 n5 b5,Zc A6 n6 b6] 28)]/\c=((n1+n2+n3+n4+m1+m2+m3+fcount p.goal+((d.actions.take k).map laA).sum:Nat):Int)) ⟨0,(n1:Int)+n2+n3+n4+m1+m2+m3+(fcount p.goal:Nat),Z0 _,rfl,rfl,rfl,rfl,by simp⟩ Zw (List.Sublist.cons _ (List.Sublist.refl _)) ?_;rintro q σ fz' H' ⟨k,c,hkm,rfl,rfl,rfl,rfl,hh⟩;refine wC ?_ ?_<;>intro c1
 ·obtain ⟨x,hx⟩:=Ye (l:=d.actions) (k:=k) Zi;have hst:=YiJ (w:=laA) hx;have htk:=YiI (w:=laA) (l:=d.actions) (k:=k+1);have hvx:laA x=1+fcount x.pre+Ycg x.changes:=rfl;refine wI i5 hx (fun pp1 hp1=>?_);refine wL hp1.Action_pre ?_;intro cs1 hcs1;obtain ⟨s1,s2,s3,s4,rfl,hR1⟩:=Yv hcs1
  ((refine zG ?_);refine YF (Yh9 hR1 Zi) ?_);refine wI i5 hx (fun pp2 hp2=>?_);refine wG ?_;refine YbX hp2.Action_changes (fun P2 pn2 pc2 ic=>?_)
  ((refine zG ?_);refine YF (Yl5 ic Zi) ?_);exact wP (h:=by exact ⟨k+1,c+(1+(fcount x.pre:Nat)+(Ycg x.changes:Nat)),by omega,rfl,rfl,rfl,rfl,by omega⟩)
 rw [Zl Zi] at hh;refine zW ?_;refine Yi (fun q σ fz' H'=>∃ (k:Nat) (c:Int),k<=n6/\q=n6 - k/\σ=[(7,Zk k),(5,Zk c),(2,Zp g0)]/\fz=fz'/\H'=[(g0,Zu #[Zy d.name,Zc A1 n1 b1,Zc A2 n2 b2,Zc A3 n3 b3,Zc A4 n4 b4,Zc A5 n5 b5,Zc A6 n6 b6] 28)]/\c=((n1+n2+n3+n4+m1+m2+m3+fcount p.goal+(d.actions.map laA).sum+((d.duratives.take k).map laU).sum:Nat):Int)) ⟨0,c,Z0 _,rfl,rfl,rfl,rfl,by rw [hh];simp⟩ Zw Zb ?_;rintro q σ fz' H' ⟨k,c,hkm,rfl,rfl,rfl,rfl,hh⟩;refine wC ?_ ?_<;>intro c2
 ·obtain ⟨x,hx⟩:=Ye (l:=d.duratives) (k:=k) Zi;have hst:=YiJ (w:=laU) hx;have htk:=YiI (w:=laU) (l:=d.duratives) (k:=k+1);have hvx:laU x=1+fcount x.start+fcount x.over+fcount x.fin+Ycg x.atStart+Ycg x.atEnd:=rfl;refine wI i6 hx (fun pp1 hp1=>?_);refine zL hp1 ?_;intro cs1 hcs1;obtain ⟨r0,r1,r2,r3,r4,r5,r6,r7,r8,r9,r10,r11,r12,r13,r14,rfl,hR⟩:=YZ hcs1;obtain ⟨P,p1,q1,rfl,ip⟩:=hR.params;have hS1:=hR.start;have hS2:=hR.over;have hS3:=hR.fin;obtain ⟨⟨V1,a1,y1,rfl,_⟩,⟨V2,a2,y2,rfl,_⟩,⟨V3,a3,y3,rfl,_⟩,⟨V4,a4,y4,rfl,_⟩⟩:=hR.start.sls;obtain ⟨⟨V5,a5,y5,rfl,_⟩,⟨V6,a6,y6,rfl,_⟩,⟨V7,a7,y7,rfl,_⟩,⟨V8,a8,y8,rfl,_⟩⟩:=hR.over.sls;obtain ⟨⟨V9,a9,y9,rfl,_⟩,⟨V10,a10,y10,rfl,_⟩,⟨V11,a11,y11,rfl,_⟩,⟨V12,a12,y12,rfl,_⟩⟩:=hR.fin.sls;obtain ⟨V13,a13,y13,rfl,ia⟩:=hR.atStart;obtain ⟨V14,a14,y14,rfl,ie⟩:=hR.atEnd;refine zW ?_;intros
  ((refine zG ?_);refine Yc (vs:=[Zy x.start.op,Zy x.start.name,Zc V1 a1 y1,Zc V2 a2 y2,Zc V3 a3 y3,Zc V4 a4 y4]) 0 ?_);refine wG ?_;refine YF (Yh9 hS1 Zi) ?_;refine wG ?_;refine Yc (vs:=[Zy x.over.op,Zy x.over.name,Zc V5 a5 y5,Zc V6 a6 y6,Zc V7 a7 y7,Zc V8 a8 y8]) 0 ?_;refine wG ?_;refine YF (Yh9 hS2 Zi) ?_;refine wG ?_;refine Yc (vs:=[Zy x.fin.op,Zy x.fin.name,Zc V9 a9 y9,Zc V10 a10 y10,Zc V11 a11 y11,Zc V12 a12 y12]) 0 ?_;refine wG ?_;refine YF (Yh9 hS3 Zi) ?_;refine wG ?_;refine YF (Yl5 ia Zi) ?_;refine wG ?_;refine YF (Yl5 ie Zi) ?_;exact wP (h:=by exact ⟨k+1,c+(1+(fcount x.start:Nat)+(fcount x.over:Nat)+(fcount x.fin:Nat)+(Ycg x.atStart:Nat)+(Ycg x.atEnd:Nat)),by omega,rfl,rfl,rfl,rfl,by omega⟩)
 rw [Zl Zi] at hh;refine wC ?_ ?_<;>intro c3
 ·exact wR (h:=by exact Yu Zi)
 exact wR (h:=by exact Yl Zi)
end Go.Proofs.YtiligkgjcmokbaaGreatDoor
namespace Go.Proofs.YtiligkgjcmokbaaGreatDoor
variable {α:Type} {l:List α}
section
variable {P:Program} {cx:Cx} {l:List Oper} {pu:List Nat} {σ' ve cv τ:Env} {fz0 fz:FZ} {Hq H:HP} {Q:QQ} {all rest r1:List (Nat × Oper)} {m i d:Nat} {op:Op} {ty:TypeId} {pos:String} {af:Array Edge} {dn:Bool}
theorem YhJ {g:Nat × Bool} (hk:Keep fz0 Hq fz H) (hw:YhM ⟨some d,op,ty,pos,af,some g⟩ ve cv=some true) (h:DoesQ P cx ⟨some d,op,ty,pos,af,some g⟩ (rdc l ⟨some d,op,ty,pos,af,some g⟩ σ' ve cv) fz H fun v=>Po P cx l pu σ' ve fz0 Hq Q all m r1 (dn || allp l all pu ⟨some d,op,ty,pos,af,some g⟩) ((i,v)::cv) ((d,v)::τ) fz H):
 PoS P cx l pu σ' ve fz0 Hq Q all m r1 dn cv τ fz H i ⟨some d,op,ty,pos,af,some g⟩:=YhI hw ((h.mono fun _ hv=>⟨hk,hv⟩).does)
end
theorem laA_pos (a:Action):1<=laA a:=by unfold laA;omega
theorem laU_pos (a:Durative):1<=laU a:=by unfold laU;omega
theorem Yl4 (c:Change):1<=hvC c:=by unfold hvC;omega
theorem YqH {l:List Change} {y:Change} (hy:y∈l) (h:(l.map Xx).sum<=100000000):y.params.length<=1000000000/\fW y.when_<=1000000000/\y.args.length<=1000000000/\eW y.value<=1000000000:=by
 have h1:=Wh (w:=Xx) hy;unfold Xx at h1 h;exact ⟨by omega,by omega,by omega,by omega⟩
theorem canSm_of {d:Domain} {p:Problem} (hw:domW d<=100000000) (hl:YdH d p<=2000):CanSm d:=by
 unfold YdH at hl;unfold domW at hw;have a1:=WG laA_pos d.actions;have a2:=WG laU_pos d.duratives;refine ⟨by omega,by omega,by omega,by omega,by omega,by omega,fun x hx=>?_,fun x hx=>?_,fun x hx=>?_,fun x hx=>?_⟩
 ·have h1:=Wh (w:=YhR) hx;unfold YhR at h1 hw;omega
 ·have h1:=Wh (w:=funW) hx;unfold funW at h1 hw;omega
 ·have h1:=Wh (w:=actW) hx;have h2:=Wh (w:=laA) hx;have h3:=WG Yl4 x.changes;have h4:laA x=1+fcount x.pre+(x.changes.map hvC).sum:=rfl;have h5:actW x=1+x.params.length+fW x.pre+(x.changes.map Xx).sum:=rfl;exact ⟨by omega,by omega,by omega,fun y hy=>YqH hy Zi⟩
 have h1:=Wh (w:=durW) hx;have h2:=Wh (w:=laU) hx;have h3:=WG Yl4 x.atStart;have h6:=WG Yl4 x.atEnd;have h4:laU x=1+fcount x.start+fcount x.over+fcount x.fin+(x.atStart.map hvC).sum+(x.atEnd.map hvC).sum:=rfl;have h5:durW x=1+x.params.length+fW x.start+fW x.over+fW x.fin+(x.atStart.map Xx).sum+(x.atEnd.map Xx).sum:=rfl;exact ⟨by omega,by omega,by omega,by omega,by omega,by omega,fun y hy=>YqH hy Zi,fun y hy=>YqH hy Zi⟩
theorem canSp_of {d:Domain} {p:Problem} (hw:prbW p<=100000000) (hl:YdH d p<=2000):CanSp p:=by
 unfold YdH at hl;unfold prbW at hw;refine ⟨by omega,by omega,by omega,fun x hx=>?_,fun x hx=>?_,by omega⟩
 ·have h1:=Wh (w:=Ye8) hx;unfold Ye8 at h1 hw;omega
 have h1:=Wh (w:=Yed) hx;have h2:Yed x=1+(1+x.fluent.args.length):=rfl;omega
theorem YeI {f:α->Nat} {r:List α} (h:l.Perm r):(l.map f).sum=(r.map f).sum:=by
 induction h with
 | nil=>rfl
 | cons x _ ih=>simp only [List.map_cons,List.sum_cons,ih]
 | swap x y l=>simp only [List.map_cons,List.sum_cons];omega
 | trans _ _ h1 h2=>exact h1.trans h2
theorem YlC {α:Type} {f:α->Nat}:∀ {l r:List α},l.Nodup->(∀ x∈l,x∈r)->(l.map f).sum<=(r.map f).sum
 | [],r,_,_=>Z0 _
 | x::l,r,hn,hs=>by
  obtain ⟨h1,h2⟩:=List.nodup_cons.1 hn;obtain ⟨r1,r2,rfl⟩:=List.append_of_mem (hs x (.head _));have ih:=YlC (f:=f) (r:=r1++r2) h2 fun y hy=>by
   have h3:=hs y (.tail _ hy);rcases List.mem_append.1 h3 with h3 | h3
   ·exact List.mem_append_left _ h3
   rcases List.mem_cons.1 h3 with rfl | h3
   ·exact absurd hy h1
   exact List.mem_append_right _ h3
  rw [List.map_append,List.sum_append] at ih;rw [List.map_append,List.sum_append,List.map_cons,List.map_cons,List.sum_cons,List.sum_cons];omega
theorem domW_can (d:Domain):domW (canD d)=domW d:=by
 have h:=YjJ d;unfold domW;rw [h.t.length_eq,h.c.length_eq,YeI h.p,YeI h.f,YeI h.a,YeI h.u]
theorem prbW_can {p:Problem} {l:List Atom} (hl:l.Nodup) (hm:∀ a,a∈l↔a∈p.init):prbW (canP p l)<=prbW p:=by
 have h:=YhD (l:=l) hm;unfold prbW;rw [h.o.length_eq,YeI h.v,h.g];have:=YlC (f:=Ye8) hl fun x hx=>(hm x).1 hx
 have e:(canP p l).init=l:=rfl;rw [e];omega
theorem YqP {d:Domain} (h:CanSm d):CanSm (canD d):=by
 have k:=YjJ d;exact ⟨k.t.length_eq ▸ h.t,k.c.length_eq ▸ h.c,k.p.length_eq ▸ h.p,k.f.length_eq ▸ h.f,k.a.length_eq ▸ h.a,k.u.length_eq ▸ h.u,fun x hx=>h.pp x (k.p.mem_iff.1 hx),fun x hx=>h.fp x (k.f.mem_iff.1 hx),fun x hx=>h.ap x (k.a.mem_iff.1 hx),fun x hx=>h.up x (k.u.mem_iff.1 hx)⟩
theorem YqO {p:Problem} {l:List Atom} (hl:l.Nodup) (hm:∀ a,a∈l↔a∈p.init) (h:CanSp p):CanSp (canP p l):=by
 have k:=YhD (l:=l) hm;have e:l.length<=p.init.length:=by
  have:=YlC (f:=fun _=>1) hl fun x hx=>(hm x).1 hx
  have hs:∀ l:List Atom,(l.map fun _=>1).sum=l.length:=fun l=>by
   induction l with
   | nil=>rfl
   | cons a r ih=>simp only [List.map_cons,List.sum_cons,List.length_cons,ih];omega
  rwa [hs,hs] at this
 exact ⟨k.o.length_eq ▸ h.o,Nat.le_trans e h.i,k.v.length_eq ▸ h.v,fun a ha=>h.ia a ((hm a).1 ha),fun x hx=>h.va x (k.v.mem_iff.1 hx),h.g⟩
theorem Yon {p:Problem} {l l2:List Atom} (h:CptS l) (h2:CptS l2) (hm:∀ a,a∈l2↔a∈(canP p l).init):(⟨(canP p l).name,(canP p l).domain,srtC (byC Param.name) (canP p l).objects,l2,srtC byV (canP p l).values,(canP p l).goal⟩:Problem)=canP p l:=by
 obtain rfl:l2=l:=h2.eq h hm;unfold canP;simp only [Yfj (Yek _),YnS]
theorem Yqj:∀ (s:Nat) {e:Lx.Expr},SizeOf.sizeOf e<=s->eW e<=1000000000->ESm e
 | 0,e,h,_=>by cases e;simp at h
 | s+1,e,h,hw=>by
  rw [Yqr] at hw;refine YaN.2 ⟨by unfold ESmN;omega,fun k hk=>Yqj s (by have:=Lx.Expr.kids_lt hk;omega) (by have:=Wh (w:=eW) hk;omega)⟩
theorem Yhc:∀ (s:Nat) {f:Formula},SizeOf.sizeOf f<=s->fW f<=1000000000->FSm f
 | 0,e,h,_=>by cases e;simp at h
 | s+1,f,h,hw=>by
  rw [Yl9] at hw;have hl:=WG fW_pos f.kids;refine WV.2 ⟨by unfold FSmN;omega,fun e he=>Yqj _ (Zs _) (by have:=Wh (w:=eW) he;omega),fun k hk=>Yhc s (by have:=Formula.kids_lt hk;omega) (by have:=Wh (w:=fW) hk;omega)⟩
theorem chsq_w {c:Change} (h:Xx c<=100000000):ChSm c:=by
 unfold Xx at h;exact ⟨by omega,by omega,Yhc _ (Zs _) Zi,Yqj _ (Zs _) Zi⟩
theorem Ymc {l:List Change} (h:(l.map Xx).sum<=100000000):Ylr l:=by
 have:=WG Ymp l;exact ⟨by omega,fun c hc=>chsq_w (by have:=Wh (w:=Xx) hc;omega)⟩
theorem Ymm {d:Domain} {p:Problem} (hd:domW d<=1300000) (hp:prbW p<=1300000):ChkS d p:=by
 unfold domW at hd;unfold prbW at hp;have l3:=WG Yks d.predicates;have l4:=WG Yno d.functions;have l5:=WG actW_pos d.actions;have l6:=WG durW_pos d.duratives;have l7:=WG Ylj p.init;have l8:=WG Yh7 p.values;have p3:∀ p∈d.predicates,p.params.length<=100000000:=fun p hp=>by have:=Wh (w:=YhR) hp;have e:YhR p=1+p.params.length:=rfl;omega
 have p4:∀ p∈d.functions,p.params.length<=100000000:=fun p hp=>by have:=Wh (w:=funW) hp;have e:funW p=1+p.params.length:=rfl;omega
 have p5:∀ x∈d.actions,actW x<=100000000:=fun p hp=>by have:=Wh (w:=actW) hp;omega
 have p6:∀ x∈d.duratives,durW x<=100000000:=fun p hp=>by have:=Wh (w:=durW) hp;omega
 refine ⟨⟨by omega,by omega,by omega,fun p hp=>Nat.le_trans (p3 p hp) Zh,by omega,fun p hp=>Nat.le_trans (p4 p hp) Zh,by omega,fun x hx=>?_,by omega,fun x hx=>?_⟩,⟨by omega,by omega,fun a ha=>?_,by omega,fun v hv=>?_,Yhc _ (Zs _) Zi⟩,fun a ha=>Nat.le_trans (p5 a ha) Zh,fun a ha=>Nat.le_trans (p6 a ha) Zh,by omega⟩
 ·have:=p5 x hx;unfold actW at this;exact ⟨by omega,Yhc _ (Zs _) Zi,Ymc Zi⟩
 ·have:=p6 x hx;unfold durW at this;exact ⟨by omega,Yhc _ (Zs _) Zi,Yhc _ (Zs _) Zi,Yhc _ (Zs _) Zi,Ymc Zi,Ymc Zi⟩
 ·have:=Wh (w:=Ye8) ha;have e:Ye8 a=1+a.args.length:=rfl;omega
 have:=Wh (w:=Yed) hv;have e:Yed v=1+Ye8 v.fluent:=rfl;have e2:Ye8 v.fluent=1+v.fluent.args.length:=rfl;omega
end Go.Proofs.YtiligkgjcmokbaaGreatDoor
