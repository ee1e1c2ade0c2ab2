/- The texts PCH, PCI, PWt, PCJ, PCK, PCM, PCF, PCN, PFr, laid together. Conditions: none. -/
import Derived.Test.YtacfpcbladaohaaGreatDoorSAH
import Derived.Below
set_option linter.all false
set_option maxHeartbeats 16000000
noncomputable section
set_option maxRecDepth 20000
open Go.Lx Go.RowKit
attribute [local instance 10] Classical.propDecidable
open Go.Proofs.Tryz (prog)
namespace Go.Proofs.YtacfpcbladaohaaGreatDoor
variable {fz fz':FZ} {v va vk:Value} {all vars:List Param} {d:Domain} {p:Problem} {A B:Option Addr} {c n:Nat}
def fstP (l:List Predicate) (x:Bs):Option Predicate:=l.find? fun p=>decide (p.name=x)
def fstF (l:List Function) (x:Bs):Option Function:=l.find? fun p=>decide (p.name=x)
def PrdR (fz:FZ) (vp:Value) (l:List Predicate):Prop:=∃ g m,vp=.map (some g)/\fz g=some (mapS m)/\∀ x,(fstP l x=none->valS m x=none)/\∀ p,fstP l x=some p->∃ A n c,valS m x=some (Zc A n c)/\Sl paramL fz A n c p.params
def FunR (fz:FZ) (vg:Value) (l:List Function):Prop:=∃ g m,vg=.map (some g)/\fz g=some (mapS m)/\∀ x,(fstF l x=none->valS m x=none)/\∀ f,fstF l x=some f->∃ A n c,valS m x=some (.agg #[Zy f.name,Zc A n c,Zk f.lo,Zk f.hi])/\Sl paramL fz A n c f.params
theorem PrdR.mono {l:List Predicate} (h:PrdR fz v l) (hle:Le fz fz'):PrdR fz' v l:=by
 obtain ⟨g,m,h1,h2,h3⟩:=h;exact ⟨g,m,h1,hle _ _ h2,fun x=>⟨(h3 x).1,fun p hp=>by obtain ⟨A,n,c,h4,h5⟩:=(h3 x).2 p hp;exact ⟨A,n,c,h4,h5.mono hle⟩⟩⟩
theorem FunR.mono {l:List Function} (h:FunR fz v l) (hle:Le fz fz'):FunR fz' v l:=by
 obtain ⟨g,m,h1,h2,h3⟩:=h;exact ⟨g,m,h1,hle _ _ h2,fun x=>⟨(h3 x).1,fun p hp=>by obtain ⟨A,n,c,h4,h5⟩:=(h3 x).2 p hp;exact ⟨A,n,c,h4,h5.mono hle⟩⟩⟩
structure CkG (fz:FZ) (v:Value) (d:Domain) (p:Problem) (all:List Param):Prop where
 ex:∃ vf vp vg vo,CkR fz v d p all vf vp vg vo/\ForR fz vf d.types/\PrdR fz vp d.predicates/\FunR fz vg d.functions/\ObjR fz vo all
 wf:WFT d.types
theorem CkG.mono (h:CkG fz v d p all) (hle:Le fz fz'):CkG fz' v d p all:=by
 obtain ⟨⟨vf,vp,vg,vo,h1,h2,h3,h4,h5⟩,hw⟩:=h;exact ⟨⟨vf,vp,vg,vo,h1.mono hle,h2.mono hle,h3.mono hle,h4.mono hle,h5.mono hle⟩,hw⟩
def Xt (d:Domain) (all vars:List Param) (z:Bs × Param):Int:=match WK all vars z.1 with
 | none=>8
 | some t=>if IsT d.types t z.2.typ then 0 else 9
def YdS (d:Domain) (all vars:List Param) (args:List Bs) (ps:List Param):Int:=
 if args.length≠ps.length then 11 else (YX (Xt d all vars) ((args.zip ps).map (fun z=>((⟨#[]⟩:Bs),z))++ [])).2
theorem Yhb {ps:List Param} {args:List Bs} {C:Option Addr} {n2 c2 n3 c3:Nat} (h:CkG fz v d p all) (h1:Sl paramL fz A n c vars) (h2:Sl strL fz B n2 c2 args) (h3:Sl paramL fz C n3 c3 ps):
 QFn prog 291 [v,Zc A n c,Zc B n2 c2,Zc C n3 c3] fz (errV (YdS d all vars args ps)):=by
 obtain ⟨⟨vf,vp,vg,vo,hck,hF,hPr,hFu,hO⟩,hw⟩:=h;have hck0:=hck;obtain ⟨gc,v1,v2,v3,v4,v5,v6,u1,u2,u3,u4,u5,u6,u7,Aa,na,ca,rfl,hc,hD,hP,hall⟩:=hck;have hF0:=hF;obtain ⟨gf,gm,rfl,hf1,hf2⟩:=hF;have l2:=h2.len;have l3:=h3.len;have s2:=h2.short;have s3:=h3.short;refine qF Tryz.func291 Tryz.ntmps291 (fun w0=>?_);refine vC ?_ ?_<;>intro e0
 ·exact vR (h:=by rw [YdS,if_pos Zi];rfl)
 have e1:YdS d all vars args ps=(YX (Xt d all vars) ((args.zip ps).map (fun z=>((⟨#[]⟩:Bs),z))++ [])).2:=if_neg Zi;refine zV ?_;refine XW n2 (fun k=>[(21,Zk k),(20,Zk n2),(19,Zc B n2 c2),(0,Zp gc),(1,Zc A n c),(3,Zc C n3 c3)]) [] (fun k=>(∀ i,i<k->∀ z,(args.zip ps)[i]?=some z->Xt d all vars z=0)) (fun i hi=>absurd hi Zi) ?_;intro k hk hh;refine vC ?_ ?_<;>intro c1
 ·obtain ⟨x,hx⟩:=Yc (l:=args) (k:=k) Zi;obtain ⟨y,hy⟩:=Yc (l:=ps) (k:=k) Zi;have hz:(args.zip ps)[k]?=some (x,y):=by rw [List.getElem?_zip_eq_some];exact ⟨hx,hy⟩
  refine vI h2 hx (fun p1 hp1=>?_);refine zH hp1 (fun hxs=>?_);refine vc (find_q hck0 hO h1 hxs) ?_;cases hr:WK all vars x with
  | none=>
   have e2:Xt d all vars (x,y)=8:=by rw [Xt,hr]
   rw [show Yhs none=.tuple #[Ze,.iface 86 (Zk 8)] from rfl];exact vR (h:=by rw [e1,XC (f:=fun _=>(⟨#[]⟩:Bs)) (g:=fun z=>z) hz hh (by rw [e2];decide),e2];rfl)
  | some t=>
   have ht:Short t:=by
    rw [WK] at hr;split at hr
    ·obtain ⟨q,hq,rfl⟩:=YgB hr;exact (XY h1 q hq).2
    obtain ⟨q,hq,rfl⟩:=Yf3 hr;exact (XY hall q hq).2
   rw [show Yhs (some t)=.tuple #[Zy t,.nilIface] from rfl];refine vI h3 hy (fun p2 hp2=>?_);refine vH hp2.Param_typ (fun hts=>?_);refine vb (is_q hF0 hw ht) (fun f1=>?_) (fun f1=>?_)
   ·have e2:Xt d all vars (x,y)=0:=by rw [Xt,hr];exact if_pos (Zt f1)
    exact vM (h:=by exact Yx hh hz e2)
   have e2:Xt d all vars (x,y)=9:=by rw [Xt,hr];exact if_neg (Zf f1)
   exact vR (h:=by rw [e1,XC (f:=fun _=>(⟨#[]⟩:Bs)) (g:=fun z=>z) hz hh (by rw [e2];decide),e2];rfl)
 have hA:∀ z∈args.zip ps,Xt d all vars z=0:=fun z hz=>by
  obtain ⟨i,hi⟩:=List.getElem?_of_mem hz;have:=(Zg hi).1;rw [List.length_zip] at this;exact hh i Zi z hi
 exact vR (h:=by rw [e1,YO (f:=fun _=>(⟨#[]⟩:Bs)) (g:=fun z=>z) hA];rfl)
def atomM (d:Domain) (all vars:List Param) (name:Bs) (args:List Bs):Int:=match fstP d.predicates name with
 | none=>8
 | some p=>YdS d all vars args p.params
def fluM (d:Domain) (all vars:List Param) (name:Bs) (args:List Bs):Int:=match fstF d.functions name with
 | none=>8
 | some f=>YdS d all vars args f.params
theorem YlP {name:Bs} {args:List Bs} {n2 c2:Nat} (h:CkG fz v d p all) (h1:Sl paramL fz A n c vars) (h2:Sl strL fz B n2 c2 args):
 QFn prog 254 [v,Zc A n c,Zy name,Zc B n2 c2] fz (errV (atomM d all vars name args)):=by
 have h0:=h;obtain ⟨⟨vf,vp,vg,vo,hck,hF,hPr,hFu,hO⟩,hw⟩:=h;obtain ⟨gc,v1,v2,v3,v4,v5,v6,u1,u2,u3,u4,u5,u6,u7,Aa,na,ca,rfl,hc,hD,hP,hall⟩:=hck;obtain ⟨gp,mp,rfl,hgp,hmp⟩:=hPr;refine qF Tryz.func254 Tryz.ntmps254 (fun w0=>?_);refine zV ?_;cases hr:fstP d.predicates name with
 | none=>
  have hv:=(hmp name).1 hr;refine zG ?_;refine Xe (v:=Zn) (b:=false) hgp ?_ (hv:=by rw [Yhu,hv];rfl) (hb:=by rw [YeX,hv];rfl);exact vR (h:=by rw [atomM,hr];rfl)
 | some x=>
  obtain ⟨C,n3,c3,hv,h3⟩:=(hmp name).2 x hr;refine zG ?_;refine Xe (v:=Zc C n3 c3) (b:=true) hgp ?_ (hv:=by rw [Yhu,hv];rfl) (hb:=by rw [YeX,hv];rfl);refine vc (Yhb h0 h1 h2 h3) ?_;exact vR (h:=by rw [atomM,hr])
theorem Yg7 {name:Bs} {args:List Bs} {n2 c2:Nat} (h:CkG fz v d p all) (h1:Sl paramL fz A n c vars) (h2:Sl strL fz B n2 c2 args):
 QFn prog 255 [v,Zc A n c,Zy name,Zc B n2 c2] fz (errV (fluM d all vars name args)):=by
 have h0:=h;obtain ⟨⟨vf,vp,vg,vo,hck,hF,hPr,hFu,hO⟩,hw⟩:=h;obtain ⟨gc,v1,v2,v3,v4,v5,v6,u1,u2,u3,u4,u5,u6,u7,Aa,na,ca,rfl,hc,hD,hP,hall⟩:=hck;obtain ⟨gp,mp,rfl,hgp,hmp⟩:=hFu;refine qF Tryz.func255 Tryz.ntmps255 (fun w0=>?_);refine zV ?_;cases hr:fstF d.functions name with
 | none=>
  have hv:=(hmp name).1 hr;refine zG ?_;refine Xe (v:=.agg #[Ze,Zn,Zk 0,Zk 0]) (b:=false) hgp ?_ (hv:=by rw [Yhu,hv];rfl) (hb:=by rw [YeX,hv];rfl);refine zV ?_;intros;exact zR (h:=by rw [fluM,hr];rfl)
 | some x=>
  obtain ⟨C,n3,c3,hv,h3⟩:=(hmp name).2 x hr;refine zG ?_;refine Xe (v:=.agg #[Zy x.name,Zc C n3 c3,Zk x.lo,Zk x.hi]) (b:=true) hgp ?_ (hv:=by rw [Yhu,hv];rfl) (hb:=by rw [YeX,hv];rfl);refine zV ?_;intros;refine zc (Yhb h0 h1 h2 h3) ?_;exact vR (h:=by rw [fluM,hr])
mutual
def exprM (d:Domain) (all vars:List Param):Lx.Expr->Int
 | .mk op name _ args kids=>if op=kFluent then fluM d all vars name args else exprML d all vars kids
def exprML (d:Domain) (all vars:List Param):List Lx.Expr->Int
 | []=>0
 | k::r=>if exprM d all vars k=0 then exprML d all vars r else exprM d all vars k
end
theorem Ydi (e:Lx.Expr):exprM d all vars e=if e.op=kFluent then fluM d all vars e.name e.args else exprML d all vars e.kids:=by cases e;rw [exprM];rfl
theorem Ybz {d:Domain} {all vars:List Param}:∀ {l:List Lx.Expr} {k:Nat} {x:Lx.Expr},l[k]?=some x->(∀ i,i<k->∀ y,l[i]?=some y->exprM d all vars y=0)->exprM d all vars x≠0->exprML d all vars l=exprM d all vars x
 | [],k,x,h,_,_=>by simp at h
 | y::l,0,x,h,_,hx=>by simp at h;subst h;rw [exprML,if_neg hx]
 | y::l,k+1,x,h,hh,hx=>by
  rw [exprML,if_pos (hh 0 Zi y rfl)];exact Ybz (k:=k) (by simpa using h) (fun i hi z hz=>hh (i+1) Zi z (by simpa using hz)) hx
theorem W7 {d:Domain} {all vars:List Param}:∀ {l:List Lx.Expr},(∀ y∈l,exprM d all vars y=0)->exprML d all vars l=0
 | [],_=>by rw [exprML]
 | y::l,h=>by rw [exprML,if_pos (h y (by simp))];exact W7 (fun z hz=>h z (by simp [hz]))
theorem Yqn:∀ (s:Nat) {fz:FZ} {v:Value} {d:Domain} {p:Problem} {all vars:List Param} {e:Lx.Expr} {va vk:Value} {A:Option Addr} {n c:Nat},SizeOf.sizeOf e<=s->CkG fz v d p all->Sl paramL fz A n c vars->ExprR fz e va vk->
 QFn prog 288 [v,Zc A n c,.agg #[Zy e.op,Zy e.name,Zk e.n,va,vk]] fz (errV (exprM d all vars e))
 | 0,_,_,_,_,_,_,e,_,_,_,_,_,hse,_,_,_=>by cases e;simp at hse
 | s+1,fz,v,d,p,all,vars,e,va,vk,A,n,c,hse,h,h1,hR=>by
  have h0:=h;obtain ⟨⟨vf,vp,vg,vo,hck,hF,hPr,hFu,hO⟩,hw⟩:=h;obtain ⟨gc,v1,v2,v3,v4,v5,v6,u1,u2,u3,u4,u5,u6,u7,Aa,na,ca,rfl,hc,hD,hP,hall⟩:=hck;obtain ⟨⟨B,n2,c2,rfl,ia⟩,⟨C,n3,c3,rfl,ik⟩⟩:=hR.sls;have l3:=ik.len;have s3:=ik.short;refine qF Tryz.func288 Tryz.ntmps288 (fun w0=>?_);refine pX (fun g0=>?_);refine vC ?_ ?_<;>intro x1
  ·refine vc (Yg7 h0 h1 ia) ?_;exact vR (h:=by rw [Ydi,if_pos (show e.op=kFluent from x1)])
  have e1:exprM d all vars e=exprML d all vars e.kids:=by rw [Ydi,if_neg (show ¬e.op=kFluent from x1)]
  refine zV ?_;refine XW n3 (fun k=>[(23,Zk k),(22,Zk n3),(21,Zc C n3 c3),(0,Zp gc),(1,Zc A n c)]) [] (fun k=>(∀ i,i<k->∀ y,e.kids[i]?=some y->exprM d all vars y=0)) (fun i hi=>absurd hi Zi) ?_;intro k hk hh;refine vC ?_ ?_<;>intro c1
  ·obtain ⟨x,hx⟩:=Yc (l:=e.kids) (k:=k) Zi;have hlt:=Lx.Expr.kids_lt (Zm hx);refine vI ik hx (fun p1 hp1=>?_);refine zL hp1 ?_;intro cs hcs;obtain ⟨wa,wk,rfl,hRx⟩:=Yw hcs;obtain ⟨⟨B1,m1,d1,rfl,_⟩,⟨B2,m2,d2,rfl,_⟩⟩:=hRx.sls;refine zV ?_;intros
   ((refine zG ?_);refine Yu (Yqn s Zi h0 h1 hRx) ?_);by_cases hz:exprM d all vars x=0
   ·rw [hz,show errV 0=.nilIface from rfl];exact vM (h:=by exact Yx hh hx hz)
   rw [Yq hz];exact vR (h:=by rw [e1,Ybz hx hh hz,Yq hz])
  have hA:=YQ hh Zi;exact vR (h:=by rw [e1,W7 hA];rfl)
theorem Yqm {e:Lx.Expr} (h:CkG fz v d p all) (h1:Sl paramL fz A n c vars) (hR:ExprR fz e va vk):
 QFn prog 288 [v,Zc A n c,.agg #[Zy e.op,Zy e.name,Zk e.n,va,vk]] fz (errV (exprM d all vars e)):=Yqn _ (Zs _) h h1 hR
theorem Yab {l:List Param} (h:Sl paramL fz A n c l) (hn:n<=1000000000):
 GFn prog 75 [Zc A n c] fz [] (fun v fz' H'=>Grow paramL 132 fz' v n H' l):=by
 have l1:=h.len;refine zF Tryz.func75 Tryz.ntmps75 (fun w0=>?_);refine vG ?_;refine WS (fun eA=>?_) (fun eA=>?_)
 ·subst eA;have hl:l=[]:=by
   rcases h.elem with h0 | ⟨_,h0,_⟩
   ·exact List.eq_nil_of_length_eq_zero Zi
   cases h0
  subst hl;simp at l1;subst l1;refine zV ?_;refine Yd2 (H':=[]) (H2:=[]) rfl rfl (Zr _) (fun fz3 hle3 _=>Grow.nil _ _ _)
 refine zV ?_;refine Ya (Yaq (fun gb=>?_));refine zV ?_;refine Ya (XF T (Hr:=[]) (n:=0) (l:=[]) Zz Zz Zz Zz Zz Zz Zz Zz (Zr _) (Grow.block (ys:=[]) rfl rfl (by intro p hp;cases hp) rfl) WI h (by show _*32<=_;omega) Zi (fun v' Hs' hO'=>?_));obtain ⟨Av',cv',rfl,_,_⟩:=hO'.form;refine zV ?_;refine Yd2 (H':=Hs') (H2:=[]) rfl rfl (by simp) (fun fz3 hle3 _=>(hO'.mono hle3).of (by simp) Zi)
end Go.Proofs.YtacfpcbladaohaaGreatDoor
namespace Go.Lx
mutual
def eW:Expr->Nat
 | .mk _ _ _ args kids=>1+args.length+eWL kids
def eWL:List Expr->Nat
 | []=>0
 | k::r=>eW k+eWL r
end
mutual
def fW:Formula->Nat
 | .mk _ _ args params exprs kids=>1+args.length+params.length+eWL exprs+fWL kids
def fWL:List Formula->Nat
 | []=>0
 | k::r=>fW k+fWL r
end
theorem Yp8 (l:List Expr):eWL l=(l.map eW).sum:=by
 induction l with
 | nil=>rfl
 | cons a r ih=>simp [eWL,ih]
theorem fWL_sum (l:List Formula):fWL l=(l.map fW).sum:=by
 induction l with
 | nil=>rfl
 | cons a r ih=>simp [fWL,ih]
def parW (_:Param):Nat:=1
def strW (_:Bs):Nat:=1
def YcK (a:Atom):Nat:=1+a.args.length
def Yb2 (v:Value_):Nat:=1+YcK v.fluent
def YW (c:Change):Nat:=1+c.params.length+fW c.when_+c.args.length+eW c.value
def Yj4 (p:Predicate):Nat:=1+p.params.length
def funW (p:Function):Nat:=1+p.params.length
def actW (a:Action):Nat:=1+a.params.length+fW a.pre+(a.changes.map YW).sum
def durW (a:Durative):Nat:=1+a.params.length+fW a.start+fW a.over+fW a.fin+(a.atStart.map YW).sum+(a.atEnd.map YW).sum
def domW (d:Domain):Nat:=1+d.types.length+d.constants.length+(d.predicates.map Yj4).sum+(d.functions.map funW).sum+(d.actions.map actW).sum+(d.duratives.map durW).sum
def prbW (p:Problem):Nat:=1+p.objects.length+(p.init.map YcK).sum+(p.values.map Yb2).sum+fW p.goal
theorem YnI (e:Expr):eW e=1+e.args.length+(e.kids.map eW).sum:=by cases e;rw [eW,Yp8];rfl
theorem Ya6 (f:Formula):fW f=1+f.args.length+f.params.length+(f.exprs.map eW).sum+(f.kids.map fW).sum:=by cases f;rw [fW,Yp8,fWL_sum];rfl
theorem WW (l:List Param):(l.map parW).sum=l.length:=by
 induction l with
 | nil=>rfl
 | cons a r ih=>simp [parW] at ih ⊢;omega
theorem WV (l:List Bs):(l.map strW).sum=l.length:=by
 induction l with
 | nil=>rfl
 | cons a r ih=>simp [strW] at ih ⊢;omega
theorem Y2 {α:Type} {w:α->Nat}:∀ {l:List α} {x:α},x∈l->w x<=(l.map w).sum
 | [],_,h=>by cases h
 | a::r,x,h=>by
  simp only [List.map_cons,List.sum_cons];rcases List.mem_cons.1 h with rfl | h
  ·omega
  have:=Y2 (w:=w) h;omega
theorem XH {α:Type} {w:α->Nat} (h:∀ x,1<=w x):∀ (l:List α),l.length<=(l.map w).sum
 | []=>by simp
 | a::r=>by
  have h1:=h a;have h2:=XH h r;simp only [List.length_cons,List.map_cons,List.sum_cons];omega
theorem Yir {α:Type} {w:α->Nat} {n:α->Nat} {k:Nat} (h:∀ x,n x<=k*w x):∀ (l:List α),(l.map n).sum<=k*(l.map w).sum
 | []=>by simp
 | a::r=>by
  have h1:=h a;have h2:=Yir h r;simp only [List.map_cons,List.sum_cons,Nat.mul_add];omega
theorem YmL (e:Expr):1<=eW e:=by rw [YnI];omega
theorem YpX (f:Formula):1<=fW f:=by rw [Ya6];omega
theorem YlO (c:Change):1<=YW c:=by unfold YW;omega
theorem Yj3 (c:Predicate):1<=Yj4 c:=by unfold Yj4;omega
theorem YmD (c:Function):1<=funW c:=by unfold funW;omega
theorem actW_pos (c:Action):1<=actW c:=by unfold actW;omega
theorem durW_pos (c:Durative):1<=durW c:=by unfold durW;omega
theorem YkS (c:Atom):1<=YcK c:=by unfold YcK;omega
theorem YhD (c:Value_):1<=Yb2 c:=by unfold Yb2;omega
end Go.Lx
namespace Go.Proofs.YtacfpcbladaohaaGreatDoor
variable {all vars:List Param} {d:Domain} {f:Formula} {A B:Option Addr} {c n:Nat} {fz:FZ} {p:Problem} {v va ve vk vp:Value} {ff:FuncId} {cs:List Value}
def Yhf (op:Bs):Prop:=op=kForall\/op=kExists
def ownM (d:Domain) (all vars:List Param) (op:Bs) (args:List Bs) (params:List Param):Int:=
 if op=kSame then (if ∀ a∈args,(WK all vars a).isSome=true then 0 else 8)
 else if Yhf op then (if TwP [] (parN params) then 4 else if ExP d.types params then 0 else 3)
 else 0
def varsM (vars:List Param) (op:Bs) (params:List Param):List Param:=if op=kSame then vars else if Yhf op then vars++params else vars
mutual
def formM (d:Domain) (all:List Param):List Param->Formula->Int
 | vars,.mk op name args params exprs kids=>
  if op=kAtom then atomM d all vars name args
  else if ownM d all vars op args params≠0 then ownM d all vars op args params
  else if exprML d all (varsM vars op params) exprs≠0 then exprML d all (varsM vars op params) exprs
  else formML d all (varsM vars op params) kids
def formML (d:Domain) (all:List Param):List Param->List Formula->Int
 | _,[]=>0
 | vars,k::r=>if formM d all vars k=0 then formML d all vars r else formM d all vars k
end
theorem YaR (f:Formula):formM d all vars f=if f.op=kAtom then atomM d all vars f.name f.args
 else if ownM d all vars f.op f.args f.params≠0 then ownM d all vars f.op f.args f.params
 else if exprML d all (varsM vars f.op f.params) f.exprs≠0 then exprML d all (varsM vars f.op f.params) f.exprs
 else formML d all (varsM vars f.op f.params) f.kids:=by cases f;rw [formM];rfl
theorem Yei {d:Domain} {all vars:List Param}:∀ {l:List Formula} {k:Nat} {x:Formula},l[k]?=some x->(∀ i,i<k->∀ y,l[i]?=some y->formM d all vars y=0)->formM d all vars x≠0->formML d all vars l=formM d all vars x
 | [],k,x,h,_,_=>by simp at h
 | y::l,0,x,h,_,hx=>by simp at h;subst h;rw [formML,if_neg hx]
 | y::l,k+1,x,h,hh,hx=>by
  rw [formML,if_pos (hh 0 Zi y rfl)];exact Yei (k:=k) (by simpa using h) (fun i hi z hz=>hh (i+1) Zi z (by simpa using hz)) hx
theorem YcB {d:Domain} {all vars:List Param}:∀ {l:List Formula},(∀ y∈l,formM d all vars y=0)->formML d all vars l=0
 | [],_=>by rw [formML]
 | y::l,h=>by rw [formML,if_pos (h y (by simp))];exact YcB (fun z hz=>h z (by simp [hz]))
theorem Ypr {k:Formula} (h:k∈f.kids):fW k+f.params.length<=fW f:=by
 have:=Y2 (w:=fW) h;rw [Ya6 f];omega
theorem Yql:∀ (s:Nat) {fz:FZ} {v:Value} {d:Domain} {p:Problem} {all vars:List Param} {f:Formula} {va vp ve vk:Value} {A:Option Addr} {n c:Nat},SizeOf.sizeOf f<=s->CkG fz v d p all->Sl paramL fz A n c vars->FormulaR fz f va vp ve vk->n+fW f<=1000000000->
 QFn prog 251 [v,Zc A n c,.agg #[Zy f.op,Zy f.name,va,vp,ve,vk]] fz (errV (formM d all vars f))
 | 0,_,_,_,_,_,_,f,_,_,_,_,_,_,_,hse,_,_,_,_=>by cases f;simp at hse
 | s+1,fz,v,d,p,all,vars,f,va,vp,ve,vk,A,n,c,hse,h,h1,hR,hW=>by
  have h0:=h;obtain ⟨⟨vf,vpp,vg,vo,hck,hF,hPr,hFu,hO⟩,hw⟩:=h;have hck0:=hck;obtain ⟨gc,v1,v2,v3,v4,v5,v6,u1,u2,u3,u4,u5,u6,u7,Aa,na,ca,rfl,hc,hD,hP,hall⟩:=hck;obtain ⟨⟨B1,m1,d1,rfl,ia⟩,⟨B2,m2,d2,rfl,ip⟩,⟨B3,m3,d3,rfl,ie⟩,⟨B4,m4,d4,rfl,ik⟩⟩:=hR.sls;have l1:=ia.len;have l2:=ip.len;have l3:=ie.len;have l4:=ik.len;have ln:=h1.len;have s1:=ia.short;have s3:=ie.short;have s4:=ik.short;have hwp:f.params.length<=fW f:=by rw [Ya6];omega
  refine qF Tryz.func251 Tryz.ntmps251 (fun w0=>?_);refine pX (fun g0=>?_);refine zWO ?_;by_cases hat:f.op=kAtom
  ·refine vc (YlP h0 h1 ia) ?_;exact vR (h:=by rw [YaR,if_pos hat])
  have e1:formM d all vars f=if ownM d all vars f.op f.args f.params≠0 then ownM d all vars f.op f.args f.params else if exprML d all (varsM vars f.op f.params) f.exprs≠0 then exprML d all (varsM vars f.op f.params) f.exprs else formML d all (varsM vars f.op f.params) f.kids:=by rw [YaR,if_neg hat]
  refine zVX ?_;refine Yy (YV (fun σ fz' H'=>∃ (A':Option Addr) (n' c':Nat),σ=[(5,Zp g0),(0,Zp gc),(1,Zc A' n' c')]/\Le fz fz'/\H'=[(g0,Zu #[Zy f.op,Zy f.name,Zc B1 m1 d1,Zc B2 m2 d2,Zc B3 m3 d3,Zc B4 m4 d4] 35)]/\Sl paramL fz' A' n' c' (varsM vars f.op f.params)/\n'<=n+f.params.length/\ownM d all vars f.op f.args f.params=0) ?_ ?_)
  ·refine zV ?_;by_cases hsa:f.op=kSame
   ·have e2:varsM vars f.op f.params=vars:=if_pos hsa;have e3:ownM d all vars f.op f.args f.params=if ∀ a∈f.args,(WK all vars a).isSome=true then 0 else 8:=if_pos hsa
    refine zV ?_;refine XW m1 (fun k=>[(35,Zk k),(34,Zk m1),(33,Zc B1 m1 d1),(5,Zp g0),(0,Zp gc),(1,Zc A n c)]) [(g0,Zu #[Zy f.op,Zy f.name,Zc B1 m1 d1,Zc B2 m2 d2,Zc B3 m3 d3,Zc B4 m4 d4] 35)] (fun k=>(∀ i,i<k->∀ x,f.args[i]?=some x->(WK all vars x).isSome=true)) (fun i hi=>absurd hi Zi) ?_;intro k hk hh;refine vC ?_ ?_<;>intro c1
    ·obtain ⟨x,hx⟩:=Yc (l:=f.args) (k:=k) Zi;refine vI ia hx (fun p1 hp1=>?_);refine zH hp1 (fun hxs=>?_);refine vc (find_q hck0 hO h1 hxs) ?_;cases hr:WK all vars x with
     | none=>
      have e4:ownM d all vars f.op f.args f.params=8:=by rw [e3,if_neg];intro h9;have:=h9 x (Zm hx);rw [hr] at this;cases this
      rw [show Yhs none=.tuple #[Ze,.iface 86 (Zk 8)] from rfl];exact vR (h:=by rw [e1,if_pos (by rw [e4];decide),e4];rfl)
     | some t=>
      rw [show Yhs (some t)=.tuple #[Zy t,.nilIface] from rfl];exact vM (h:=by exact Yx (p:=fun x=>(WK all vars x).isSome=true) hh hx (by rw [hr];rfl))
    have hA:=YQ hh Zi;exact vN (h:=by exact ⟨A,n,c,rfl,Zd,rfl,by rw [e2];exact h1,by omega,by rw [e3,if_pos hA]⟩)
   have wf:¬f.op=kSame:=hsa;by_cases hq:Yhf f.op
   ·have e2:varsM vars f.op f.params=vars++f.params:=by rw [varsM,if_neg hsa,if_pos hq]
    have e3:ownM d all vars f.op f.args f.params=if TwP [] (parN f.params) then 4 else if ExP d.types f.params then 0 else 3:=by rw [ownM,if_neg hsa,if_pos hq]
    refine zVX ?_;refine Yy (YV (fun σ fz' H'=>σ=[(50,Zo true),(5,Zp g0),(0,Zp gc),(1,Zc A n c)]/\fz=fz'/\H'=[(g0,Zu #[Zy f.op,Zy f.name,Zc B1 m1 d1,Zc B2 m2 d2,Zc B3 m3 d3,Zc B4 m4 d4] 35)]) ?_ ?_)
    ·rcases hq with w1 | w2
     ·exact vN (h:=by exact ⟨rfl,rfl,rfl⟩)
     have w1:¬f.op=kForall:=by rw [w2];decide
     exact vN (h:=by exact ⟨rfl,rfl,rfl⟩)
    rintro σ fz1 H' ⟨rfl,rfl,rfl⟩;refine vc (Yk9 ip (Sl.nil (A:=none) (c:=0))) ?_;rw [show parN ([]:List Param)=[] from rfl];by_cases ht:TwP [] (parN f.params)
    ·rw [if_pos ht,show errV 4=.iface 86 (Zk 4) from rfl];exact vR (h:=by rw [e1,e3,if_pos ht,if_pos Zh];rfl)
    rw [if_neg ht,show errV 0=.nilIface from rfl];refine vc (YlF hck0 hF ip) ?_;by_cases hx:ExP d.types f.params
    ·rw [if_pos hx,show errV 0=.nilIface from rfl];refine zV ?_;refine YS [_] ?_;refine zW ?_;refine Yj ?_;refine zW ?_;refine pU ?_;refine Yf (Yh [] [_] Zz (Yab h1 Zi) (fun v6 fz6 H6 hle6 hR6=>⟨⟨hle6,Zx⟩,?_⟩));obtain ⟨Av,cv,rfl,_,_⟩:=hR6.form;refine Yf (XF T (Hr:=[_]) Zz Zz Zz Zz Zz Zz Zz Zz Zq hR6 WI (ip.mono hle6) (by show _*32<=_;omega) Zi (fun v7 H7 hO7=>⟨⟨hle6,Zx⟩,?_⟩));obtain ⟨Aw,cw,rfl,_,_⟩:=hO7.form;refine Ch.qk ⟨hle6,Zx⟩ (YE ?_);refine Ch.done ?_;refine zW ?_;exact midF (H':=[_]) (H2:=H7) (Zr _) (fun fz8 hle8 hf8=>by
      obtain ⟨A8,c8,e8,h8⟩:=hO7.sl hle8 hf8 Zi;injection e8 with e81 e82 e83
      subst e81;subst e83;exact ⟨Aw,_,cw,rfl,hle6.trans hle8,rfl,by rw [e2];exact h8,by omega,by rw [e3,if_neg ht,if_pos hx]⟩) Zw
    rw [if_neg hx,show errV 3=.iface 86 (Zk 3) from rfl];exact vR (h:=by rw [e1,e3,if_neg ht,if_neg hx,if_pos Zh];rfl)
   have w1:¬f.op=kForall:=fun h=>hq (.inl h)
   have w2:¬f.op=kExists:=fun h=>hq (.inr h)
   have e2:varsM vars f.op f.params=vars:=by rw [varsM,if_neg hsa,if_neg hq]
   have e3:ownM d all vars f.op f.args f.params=0:=by rw [ownM,if_neg hsa,if_neg hq]
   exact vN (h:=by exact ⟨A,n,c,rfl,Zd,rfl,by rw [e2];exact h1,by omega,e3⟩)
  rintro σ fz1 H' ⟨A',n',c',rfl,hle,rfl,h1',hn',ho0⟩;have e2:formM d all vars f=if exprML d all (varsM vars f.op f.params) f.exprs≠0 then exprML d all (varsM vars f.op f.params) f.exprs else formML d all (varsM vars f.op f.params) f.kids:=by rw [e1,if_neg (by rw [ho0];decide)]
  generalize hvs:varsM vars f.op f.params=vars' at h1' e2;have h0':=h0.mono hle;have ie':=ie.mono hle;have ik':=ik.mono hle;have hcg:=hle _ _ hc;refine zVX ?_;refine Yy (YV (fun σ fz' H'=>σ=[(5,Zp g0),(0,Zp gc),(1,Zc A' n' c')]/\fz1=fz'/\H'=[(g0,Zu #[Zy f.op,Zy f.name,Zc B1 m1 d1,Zc B2 m2 d2,Zc B3 m3 d3,Zc B4 m4 d4] 35)]/\exprML d all vars' f.exprs=0) ?_ ?_)
  ·refine zV ?_;refine Yi (fun q σ fz' H'=>∃ k:Nat,k<=m3/\q=m3 - k/\σ=[(74,Zk k),(73,Zk m3),(72,Zc B3 m3 d3),(5,Zp g0),(0,Zp gc),(1,Zc A' n' c')]/\fz1=fz'/\H'=[(g0,Zu #[Zy f.op,Zy f.name,Zc B1 m1 d1,Zc B2 m2 d2,Zc B3 m3 d3,Zc B4 m4 d4] 35)]/\(∀ i,i<k->∀ y,f.exprs[i]?=some y->exprM d all vars' y=0)) ⟨0,Z0 _,rfl,rfl,rfl,rfl,fun i hi=>absurd hi Zi⟩ Zw Zb ?_;rintro q σ fz' H' ⟨k,hk,rfl,rfl,rfl,rfl,hh⟩;refine vC ?_ ?_<;>intro c1
   ·obtain ⟨x,hx⟩:=Yc (l:=f.exprs) (k:=k) Zi;refine vI ie' hx (fun p1 hp1=>?_);refine zL hp1 ?_;intro cs hcs;obtain ⟨wa,wk,rfl,hRx⟩:=Yw hcs;obtain ⟨⟨E1,r1,q1,rfl,_⟩,⟨E2,r2,q2,rfl,_⟩⟩:=hRx.sls;refine zV ?_;intros;refine zc (Yqm h0' h1' hRx) ?_;by_cases hz:exprM d all vars' x=0
    ·rw [hz,show errV 0=.nilIface from rfl];exact vM (h:=by exact Yx hh hx hz)
    rw [Yq hz];exact vR (h:=by rw [e2,Ybz hx hh hz,if_pos hz,Yq hz])
   have hA:=YQ hh Zi;exact vN (h:=by exact ⟨rfl,rfl,rfl,W7 hA⟩)
  rintro σ fz2 H' ⟨rfl,rfl,rfl,hez⟩;have e3:formM d all vars f=formML d all vars' f.kids:=by rw [e2,hez,if_neg Zh]
  refine zV ?_;refine Yi (fun q σ fz' H'=>∃ k:Nat,k<=m4/\q=m4 - k/\σ=[(89,Zk k),(88,Zk m4),(87,Zc B4 m4 d4),(0,Zp gc),(1,Zc A' n' c')]/\fz1=fz'/\H'=[]/\(∀ i,i<k->∀ y,f.kids[i]?=some y->formM d all vars' y=0)) ⟨0,Z0 _,rfl,rfl,rfl,rfl,fun i hi=>absurd hi Zi⟩ Zw Zb ?_;rintro q σ fz' H' ⟨k,hk,rfl,rfl,rfl,rfl,hh⟩;refine vC ?_ ?_<;>intro c1
  ·obtain ⟨x,hx⟩:=Yc (l:=f.kids) (k:=k) Zi;have hlt:=Lx.Formula.kids_lt (Zm hx);have hkw:=Ypr (Zm hx);refine vI ik' hx (fun p1 hp1=>?_);refine zL hp1 ?_;intro cs hcs;obtain ⟨wa,wp,we,wk,rfl,hRx⟩:=Yn hcs;obtain ⟨⟨E1,r1,q1,rfl,_⟩,⟨E2,r2,q2,rfl,_⟩,⟨E3,r3,q3,rfl,_⟩,⟨E4,r4,q4,rfl,_⟩⟩:=hRx.sls;refine zV ?_;intros
   ((refine zG ?_);refine Yu (Yql s Zi h0' h1' hRx Zi) ?_);by_cases hz:formM d all vars' x=0
   ·rw [hz,show errV 0=.nilIface from rfl];exact vM (h:=by exact Yx hh hx hz)
   rw [Yq hz];exact vR (h:=by rw [e3,Yei hx hh hz,Yq hz])
  have hA:=YQ hh Zi;exact vR (h:=by rw [e3,YcB hA];rfl)
theorem Yji (h:CkG fz v d p all) (h1:Sl paramL fz A n c vars) (hR:FormulaR fz f va vp ve vk) (hW:n+fW f<=1000000000):
 QFn prog 251 [v,Zc A n c,.agg #[Zy f.op,Zy f.name,va,vp,ve,vk]] fz (errV (formM d all vars f)):=Yql _ (Zs _) h h1 hR hW
theorem YgK {l:List Lx.Formula} {cap:List Value} {p:Lx.Formula->Prop} [DecidablePred p] (h1:Sl formulaL fz A n c l) (hq:∀ x∈l,∀ cs,formulaL.rep fz x cs->QFn prog ff (.agg cs.toArray::cap) fz (Zo (decide (p x)))):
 QFn prog 144 [Zc A n c,.func (.func ff) #[] cap.toArray] fz (Zk (WU p l 0)):=by
 refine qF Tryz.func144 Tryz.ntmps144 (fun w0=>?_);have l1:=h1.len;have hm:=h1.short;refine zW ?_;refine XW n (fun k=>[(8,Zk k),(7,Zk n),(0,Zc A n c),(1,.func (.func ff) #[] cap.toArray)]) [] (fun k=>(∀ i,i<k->∀ x,l[i]?=some x->¬p x)) (fun i hi=>absurd hi Zi) ?_;intro k hk hh;refine wC (fun hlt=>?_) (fun hge=>?_)
 ·refine zW ?_;obtain ⟨x,hx⟩:=Yc (l:=l) (k:=k) Zi;refine zI h1 hx (fun a ha=>?_);refine zL ha ?_;intro cs hcs;refine wG ?_;refine XX Zz Zz Zz (hq x (Zm hx) cs hcs) (fun c1=>?_) (fun c1=>?_)
  ·exact wR (h:=by rw [Xg hh hx c1,Int.zero_add])
  exact wM (h:=by exact Yx hh hx c1)
 exact wR (h:=by rw [YR (YQ hh Zi)])
theorem XD {l:List Lx.Formula} {cap:List Value} {p:Lx.Formula->Prop} [DecidablePred p] (h1:Sl formulaL fz A n c l) (hq:∀ x∈l,∀ cs,formulaL.rep fz x cs->QFn prog ff (.agg cs.toArray::cap) fz (Zo (decide (p x)))):
 QFn prog 60 [Zc A n c,.func (.func ff) #[] cap.toArray] fz (Zo (decide (∃ x∈l,p x))):=by
 refine qF Tryz.func60 Tryz.ntmps60 (fun w0=>?_);refine wc (YgK h1 hq) ?_;refine zC ?_ ?_<;>intro c1
 ·exact wR (h:=by exact Ym ((YN (Int.le_refl 0)).1 c1))
 exact wR (h:=by exact Yg (fun h=>c1 ((YN (Int.le_refl 0)).2 h)))
theorem Yhr {l:List Lx.Change} {cap:List Value} {p:Lx.Change->Prop} [DecidablePred p] (h1:Sl changeL fz A n c l) (hq:∀ x∈l,∀ cs,changeL.rep fz x cs->QFn prog ff (.agg cs.toArray::cap) fz (Zo (decide (p x)))):
 QFn prog 191 [Zc A n c,.func (.func ff) #[] cap.toArray] fz (Zk (WU p l 0)):=by
 refine qF Tryz.func191 Tryz.ntmps191 (fun w0=>?_);have l1:=h1.len;have hm:=h1.short;refine zW ?_;refine XW n (fun k=>[(8,Zk k),(7,Zk n),(0,Zc A n c),(1,.func (.func ff) #[] cap.toArray)]) [] (fun k=>(∀ i,i<k->∀ x,l[i]?=some x->¬p x)) (fun i hi=>absurd hi Zi) ?_;intro k hk hh;refine wC (fun hlt=>?_) (fun hge=>?_)
 ·refine zW ?_;obtain ⟨x,hx⟩:=Yc (l:=l) (k:=k) Zi;refine zI h1 hx (fun a ha=>?_);refine zL ha ?_;intro cs hcs;refine wG ?_;refine XX Zz Zz Zz (hq x (Zm hx) cs hcs) (fun c1=>?_) (fun c1=>?_)
  ·exact wR (h:=by rw [Xg hh hx c1,Int.zero_add])
  exact wM (h:=by exact Yx hh hx c1)
 exact wR (h:=by rw [YR (YQ hh Zi)])
theorem YaN {l:List Lx.Change} {cap:List Value} {p:Lx.Change->Prop} [DecidablePred p] (h1:Sl changeL fz A n c l) (hq:∀ x∈l,∀ cs,changeL.rep fz x cs->QFn prog ff (.agg cs.toArray::cap) fz (Zo (decide (p x)))):
 QFn prog 90 [Zc A n c,.func (.func ff) #[] cap.toArray] fz (Zo (decide (∃ x∈l,p x))):=by
 refine qF Tryz.func90 Tryz.ntmps90 (fun w0=>?_);refine wc (Yhr h1 hq) ?_;refine zC ?_ ?_<;>intro c1
 ·exact wR (h:=by exact Ym ((YN (Int.le_refl 0)).1 c1))
 exact wR (h:=by exact Yg (fun h=>c1 ((YN (Int.le_refl 0)).2 h)))
theorem YaM {l:List Lx.Predicate} {cap:List Value} {p:Lx.Predicate->Prop} [DecidablePred p] (h1:Sl predicateL fz A n c l) (hq:∀ x∈l,∀ cs,predicateL.rep fz x cs->QFn prog ff (.agg cs.toArray::cap) fz (Zo (decide (p x)))):
 QFn prog 65 [Zc A n c,.func (.func ff) #[] cap.toArray] fz (Zk (WU p l 0)):=by
 refine qF Tryz.func65 Tryz.ntmps65 (fun w0=>?_);have l1:=h1.len;have hm:=h1.short;refine zW ?_;refine XW n (fun k=>[(8,Zk k),(7,Zk n),(0,Zc A n c),(1,.func (.func ff) #[] cap.toArray)]) [] (fun k=>(∀ i,i<k->∀ x,l[i]?=some x->¬p x)) (fun i hi=>absurd hi Zi) ?_;intro k hk hh;refine wC (fun hlt=>?_) (fun hge=>?_)
 ·refine zW ?_;obtain ⟨x,hx⟩:=Yc (l:=l) (k:=k) Zi;refine zI h1 hx (fun a ha=>?_);refine zL ha ?_;intro cs hcs;refine wG ?_;refine XX Zz Zz Zz (hq x (Zm hx) cs hcs) (fun c1=>?_) (fun c1=>?_)
  ·exact wR (h:=by rw [Xg hh hx c1,Int.zero_add])
  exact wM (h:=by exact Yx hh hx c1)
 exact wR (h:=by rw [YR (YQ hh Zi)])
theorem Yds {l:List Lx.Predicate} {cap:List Value} {p:Lx.Predicate->Prop} [DecidablePred p] (h1:Sl predicateL fz A n c l) (hq:∀ x∈l,∀ cs,predicateL.rep fz x cs->QFn prog ff (.agg cs.toArray::cap) fz (Zo (decide (p x)))):
 QFn prog 171 [Zc A n c,.func (.func ff) #[] cap.toArray] fz (Zo (decide (∃ x∈l,p x))):=by
 refine qF Tryz.func171 Tryz.ntmps171 (fun w0=>?_);refine wc (YaM h1 hq) ?_;refine zC ?_ ?_<;>intro c1
 ·exact wR (h:=by exact Ym ((YN (Int.le_refl 0)).1 c1))
 exact wR (h:=by exact Yg (fun h=>c1 ((YN (Int.le_refl 0)).2 h)))
theorem W3 {l:List Lx.Function} {cap:List Value} {p:Lx.Function->Prop} [DecidablePred p] (h1:Sl functionL fz A n c l) (hq:∀ x∈l,∀ cs,functionL.rep fz x cs->QFn prog ff (.agg cs.toArray::cap) fz (Zo (decide (p x)))):
 QFn prog 141 [Zc A n c,.func (.func ff) #[] cap.toArray] fz (Zk (WU p l 0)):=by
 refine qF Tryz.func141 Tryz.ntmps141 (fun w0=>?_);have l1:=h1.len;have hm:=h1.short;refine zW ?_;refine XW n (fun k=>[(8,Zk k),(7,Zk n),(0,Zc A n c),(1,.func (.func ff) #[] cap.toArray)]) [] (fun k=>(∀ i,i<k->∀ x,l[i]?=some x->¬p x)) (fun i hi=>absurd hi Zi) ?_;intro k hk hh;refine wC (fun hlt=>?_) (fun hge=>?_)
 ·refine zW ?_;obtain ⟨x,hx⟩:=Yc (l:=l) (k:=k) Zi;refine zI h1 hx (fun a ha=>?_);refine zL ha ?_;intro cs hcs;refine wG ?_;refine XX Zz Zz Zz (hq x (Zm hx) cs hcs) (fun c1=>?_) (fun c1=>?_)
  ·exact wR (h:=by rw [Xg hh hx c1,Int.zero_add])
  exact wM (h:=by exact Yx hh hx c1)
 exact wR (h:=by rw [YR (YQ hh Zi)])
theorem YdR {l:List Lx.Function} {cap:List Value} {p:Lx.Function->Prop} [DecidablePred p] (h1:Sl functionL fz A n c l) (hq:∀ x∈l,∀ cs,functionL.rep fz x cs->QFn prog ff (.agg cs.toArray::cap) fz (Zo (decide (p x)))):
 QFn prog 173 [Zc A n c,.func (.func ff) #[] cap.toArray] fz (Zo (decide (∃ x∈l,p x))):=by
 refine qF Tryz.func173 Tryz.ntmps173 (fun w0=>?_);refine wc (W3 h1 hq) ?_;refine zC ?_ ?_<;>intro c1
 ·exact wR (h:=by exact Ym ((YN (Int.le_refl 0)).1 c1))
 exact wR (h:=by exact Yg (fun h=>c1 ((YN (Int.le_refl 0)).2 h)))
theorem Ydw {l:List Lx.Action} {cap:List Value} {p:Lx.Action->Prop} [DecidablePred p] (h1:Sl actionL fz A n c l) (hq:∀ x∈l,∀ cs,actionL.rep fz x cs->QFn prog ff (.agg cs.toArray::cap) fz (Zo (decide (p x)))):
 QFn prog 192 [Zc A n c,.func (.func ff) #[] cap.toArray] fz (Zk (WU p l 0)):=by
 refine qF Tryz.func192 Tryz.ntmps192 (fun w0=>?_);have l1:=h1.len;have hm:=h1.short;refine zW ?_;refine XW n (fun k=>[(8,Zk k),(7,Zk n),(0,Zc A n c),(1,.func (.func ff) #[] cap.toArray)]) [] (fun k=>(∀ i,i<k->∀ x,l[i]?=some x->¬p x)) (fun i hi=>absurd hi Zi) ?_;intro k hk hh;refine wC (fun hlt=>?_) (fun hge=>?_)
 ·refine zW ?_;obtain ⟨x,hx⟩:=Yc (l:=l) (k:=k) Zi;refine zI h1 hx (fun a ha=>?_);refine zL ha ?_;intro cs hcs;refine wG ?_;refine XX Zz Zz Zz (hq x (Zm hx) cs hcs) (fun c1=>?_) (fun c1=>?_)
  ·exact wR (h:=by rw [Xg hh hx c1,Int.zero_add])
  exact wM (h:=by exact Yx hh hx c1)
 exact wR (h:=by rw [YR (YQ hh Zi)])
theorem Ycb {l:List Lx.Action} {cap:List Value} {p:Lx.Action->Prop} [DecidablePred p] (h1:Sl actionL fz A n c l) (hq:∀ x∈l,∀ cs,actionL.rep fz x cs->QFn prog ff (.agg cs.toArray::cap) fz (Zo (decide (p x)))):
 QFn prog 92 [Zc A n c,.func (.func ff) #[] cap.toArray] fz (Zo (decide (∃ x∈l,p x))):=by
 refine qF Tryz.func92 Tryz.ntmps92 (fun w0=>?_);refine wc (Ydw h1 hq) ?_;refine zC ?_ ?_<;>intro c1
 ·exact wR (h:=by exact Ym ((YN (Int.le_refl 0)).1 c1))
 exact wR (h:=by exact Yg (fun h=>c1 ((YN (Int.le_refl 0)).2 h)))
theorem Yfw {l:List Lx.Durative} {cap:List Value} {p:Lx.Durative->Prop} [DecidablePred p] (h1:Sl durativeL fz A n c l) (hq:∀ x∈l,∀ cs,durativeL.rep fz x cs->QFn prog ff (.agg cs.toArray::cap) fz (Zo (decide (p x)))):
 QFn prog 193 [Zc A n c,.func (.func ff) #[] cap.toArray] fz (Zk (WU p l 0)):=by
 refine qF Tryz.func193 Tryz.ntmps193 (fun w0=>?_);have l1:=h1.len;have hm:=h1.short;refine zW ?_;refine XW n (fun k=>[(8,Zk k),(7,Zk n),(0,Zc A n c),(1,.func (.func ff) #[] cap.toArray)]) [] (fun k=>(∀ i,i<k->∀ x,l[i]?=some x->¬p x)) (fun i hi=>absurd hi Zi) ?_;intro k hk hh;refine wC (fun hlt=>?_) (fun hge=>?_)
 ·refine zW ?_;obtain ⟨x,hx⟩:=Yc (l:=l) (k:=k) Zi;refine zI h1 hx (fun a ha=>?_);refine zL ha ?_;intro cs hcs;refine wG ?_;refine XX Zz Zz Zz (hq x (Zm hx) cs hcs) (fun c1=>?_) (fun c1=>?_)
  ·exact wR (h:=by rw [Xg hh hx c1,Int.zero_add])
  exact wM (h:=by exact Yx hh hx c1)
 exact wR (h:=by rw [YR (YQ hh Zi)])
theorem YbB {l:List Lx.Durative} {cap:List Value} {p:Lx.Durative->Prop} [DecidablePred p] (h1:Sl durativeL fz A n c l) (hq:∀ x∈l,∀ cs,durativeL.rep fz x cs->QFn prog ff (.agg cs.toArray::cap) fz (Zo (decide (p x)))):
 QFn prog 94 [Zc A n c,.func (.func ff) #[] cap.toArray] fz (Zo (decide (∃ x∈l,p x))):=by
 refine qF Tryz.func94 Tryz.ntmps94 (fun w0=>?_);refine wc (Yfw h1 hq) ?_;refine zC ?_ ?_<;>intro c1
 ·exact wR (h:=by exact Ym ((YN (Int.le_refl 0)).1 c1))
 exact wR (h:=by exact Yg (fun h=>c1 ((YN (Int.le_refl 0)).2 h)))
def LtP (f:Formula):Prop:=f.op=kAtom\/f.op=kSame
mutual
/-- a conjunction of literals -/
def LitP:Formula->Prop
 | .mk op _ _ _ _ kids=>(op=kNot/\∃ k,kids=[k]/\LtP k)\/(op=kAnd/\LitPL kids)\/op=kAtom\/op=kSame
def LitPL:List Formula->Prop
 | []=>True
 | k::r=>LitP k/\LitPL r
end
theorem Yki:∀ {l:List Formula},LitPL l↔∀ x∈l,LitP x
 | []=>by simp [LitPL]
 | k::r=>by rw [LitPL,Yki (l:=r)];simp
theorem Ylt (f:Formula):LitP f↔(f.op=kNot/\∃ k,f.kids=[k]/\LtP k)\/(f.op=kAnd/\∀ x∈f.kids,LitP x)\/LtP f:=by cases f;rw [LitP,Yki];rfl
theorem litP_not (h:f.op=kNot):LitP f↔∃ k,f.kids=[k]/\LtP k:=by
 rw [Ylt];constructor
 ·rintro (h1 | h1 | h1)
  ·exact h1.2
  ·rw [h] at h1;exact absurd h1.1 Zh
  unfold LtP at h1;rw [h] at h1;exact absurd h1 Zh
 intro h1;exact .inl ⟨h,h1⟩
theorem Ymw (h:f.op=kAnd):LitP f↔∀ x∈f.kids,LitP x:=by
 rw [Ylt];constructor
 ·rintro (h1 | h1 | h1)
  ·rw [h] at h1;exact absurd h1.1 Zh
  ·exact h1.2
  unfold LtP at h1;rw [h] at h1;exact absurd h1 Zh
 intro h1;exact .inr (.inl ⟨h,h1⟩)
theorem Ymv (h1:¬f.op=kNot) (h2:¬f.op=kAnd):LitP f↔LtP f:=by
 rw [Ylt];exact ⟨fun h=>h.elim (fun h=>absurd h.1 h1) (fun h=>h.elim (fun h=>absurd h.1 h2) id),fun h=>.inr (.inr h)⟩
theorem lt1_q (hR:FormulaR fz f va vp ve vk):
 QFn prog 306 [.agg #[Zy f.op,Zy f.name,va,vp,ve,vk]] fz (Zo (decide (LtP f))):=by
 refine qF Tryz.func306 Tryz.ntmps306 (fun w0=>?_);refine pX (fun g0=>?_);refine vC ?_ ?_<;>intro x1
 ·exact vR (h:=by exact Ym (.inl x1))
 refine vC ?_ ?_<;>intro x2
 ·exact vR (h:=by exact Ym (.inr x2))
 exact vR (h:=by exact Yg (fun h=>h.elim x1 x2))
theorem lit2_q (h:QFn prog 290 [.agg #[Zy f.op,Zy f.name,va,vp,ve,vk]] fz (Zo (decide (LitP f)))):
 QFn prog 307 [.agg #[Zy f.op,Zy f.name,va,vp,ve,vk]] fz (Zo (decide (¬LitP f))):=by
 refine qF Tryz.func307 Tryz.ntmps307 (fun w0=>?_);refine pX (fun g1=>?_);refine vc h ?_;exact vR (h:=by rw [decide_not])
theorem lit_f:∀ (s:Nat) {fz:FZ} {f:Formula} {va vp ve vk:Value},SizeOf.sizeOf f<=s->FormulaR fz f va vp ve vk->
 QFn prog 290 [.agg #[Zy f.op,Zy f.name,va,vp,ve,vk]] fz (Zo (decide (LitP f)))
 | 0,_,f,_,_,_,_,hse,_=>by cases f;simp at hse
 | s+1,fz,f,va,vp,ve,vk,hse,hR=>by
  have hR0:=hR;obtain ⟨⟨B1,m1,d1,rfl,ia⟩,⟨B2,m2,d2,rfl,ip⟩,⟨B3,m3,d3,rfl,ie⟩,⟨B4,m4,d4,rfl,ik⟩⟩:=hR.sls;have l4:=ik.len;refine qF Tryz.func290 Tryz.ntmps290 (fun w0=>?_);refine pX (fun g0=>?_);refine zWO ?_;by_cases hno:f.op=kNot
  ·have w:=litP_not hno;refine vC ?_ ?_<;>intro x1
   ·have h1:f.kids.length=1:=by omega
    obtain ⟨k,hk⟩:∃ k,f.kids=[k]:=by
     match hkk:f.kids,h1 with
     | [k],_=>exact ⟨k,rfl⟩
    refine vG ?_;refine Ya4 T 0 Zz Zz Zz Zz Zz Zz ik (by first | rfl | omega) (by rw [hk];rfl:f.kids[0]?=some k) (fun p1 hp1=>?_);refine zL hp1 ?_;intro cs hcs;obtain ⟨wa,wp,we,wk,rfl,hRx⟩:=Yn hcs;refine vv (lt1_q hRx) ?_;refine zV ?_
    (exact ret1 rfl rfl Zb (by
     by_cases hl:LtP k
     ·rw [decide_eq_true hl,decide_eq_true (w.2 ⟨k,hk,hl⟩)]
     rw [decide_eq_false hl,decide_eq_false (fun h=>by obtain ⟨k',hk',hl'⟩:=w.1 h;rw [hk] at hk';injection hk' with hk';subst hk';exact hl hl')]))
   exact vR (h:=by exact Yg (fun h=>by obtain ⟨k,hk,_⟩:=w.1 h;rw [hk] at l4;simp at l4;exact x1 Zi))
  by_cases han:f.op=kAnd
  ·have w:=Ymw han;refine zV ?_
   ((refine zG ?_);refine Yu (XD (cap:=[]) (p:=fun k=>¬LitP k) ik (fun x hx cs hcs=>by
    obtain ⟨wa,wp,we,wk,rfl,hRx⟩:=Yn hcs;exact lit2_q (lit_f s (by have:=Lx.Formula.kids_lt hx;omega) hRx))) ?_)
   refine zV ?_
   (exact ret1 rfl rfl Zb (by
    by_cases hl:∀ x∈f.kids,LitP x
    ·rw [decide_eq_true (w.2 hl),decide_eq_false (fun ⟨x,hx,h0⟩=>h0 (hl x hx))];rfl
    rw [decide_eq_false (fun h=>hl (w.1 h)),decide_eq_true (by simpa using hl)];rfl))
  have w:=Ymv hno han;refine vv (lt1_q hR0) ?_;refine zV ?_
  (exact ret1 rfl rfl Zb (by
   by_cases hl:LtP f
   ·rw [decide_eq_true hl,decide_eq_true (w.2 hl)]
   rw [decide_eq_false hl,decide_eq_false (fun h=>hl (w.1 h))]))
theorem lit_q (hR:FormulaR fz f va vp ve vk):
 QFn prog 290 [.agg #[Zy f.op,Zy f.name,va,vp,ve,vk]] fz (Zo (decide (LitP f))):=lit_f _ (Zs _) hR
def Yaz (d:Domain) (all vars:List Param) (f:Formula):Int:=if LitP f then formM d all vars f else 2
theorem Yg4 (h:CkG fz v d p all) (h1:Sl paramL fz A n c vars) (hR:FormulaR fz f va vp ve vk) (hW:n+fW f<=1000000000):
 QFn prog 253 [v,Zc A n c,.agg #[Zy f.op,Zy f.name,va,vp,ve,vk]] fz (errV (Yaz d all vars f)):=by
 refine qF Tryz.func253 Tryz.ntmps253 (fun w0=>?_);refine pX (fun g0=>?_);refine vb (lit_q hR) (fun f1=>?_) (fun f1=>?_)
 ·refine vc (Yji h h1 hR hW) ?_;exact vR (h:=by rw [Yaz,if_pos (Zt f1)])
 exact vR (h:=by rw [Yaz,if_neg (Zf f1)];rfl)
def Yie (x:Change):Prop:=x.params=[]/\x.when_=Xd
def NumC (x:Change):Prop:=x.kind≠1/\x.kind≠2
def YaO (d:Domain) (all vars:List Param) (x:Change) (du:Bool):Int:=
 if ¬Yie x/\(NumC x\/du=true) then 6
 else if TwP (parN vars) (parN x.params) then 4
 else if ¬ExP d.types x.params then 3
 else if formM d all (vars++x.params) x.when_≠0 then formM d all (vars++x.params) x.when_
 else if ¬NumC x then atomM d all (vars++x.params) x.name x.args
 else if fluM d all (vars++x.params) x.name x.args≠0 then fluM d all (vars++x.params) x.name x.args
 else exprM d all (vars++x.params) x.value
theorem YmS {x:Change} {du:Bool} (h1:¬(¬Yie x/\(NumC x\/du=true))) (h2:¬TwP (parN vars) (parN x.params)) (h3:ExP d.types x.params):
 YaO d all vars x du=if formM d all (vars++x.params) x.when_≠0 then formM d all (vars++x.params) x.when_
  else if ¬NumC x then atomM d all (vars++x.params) x.name x.args
  else if fluM d all (vars++x.params) x.name x.args≠0 then fluM d all (vars++x.params) x.name x.args
  else exprM d all (vars++x.params) x.value:=by rw [YaO,if_neg h1,if_neg h2,if_neg (by simpa using h3)]
theorem Yqo {x:Change} {du:Bool} (h:CkG fz v d p all) (h1:Sl paramL fz A n c vars) (hRc:changeL.rep fz x cs) (hW:n+YW x<=1000000000):
 QFn prog 289 [v,Zc A n c,.agg cs.toArray,Zo du] fz (errV (YaO d all vars x du)):=by
 have h0:=h;obtain ⟨⟨vf,vpp,vg,vo,hck,hF,hPr,hFu,hO⟩,hw⟩:=h;have hck0:=hck;obtain ⟨gc,w1,w2,w3,w4,w5,w6,u1,u2,u3,u4,u5,u6,u7,Aa,na,ca,rfl,hc,hD,hP,hall⟩:=hck;obtain ⟨v1,v2,v3,v4,v5,v6,v7,v8,rfl,hR⟩:=Y6 hRc;obtain ⟨A1,n1,b1,rfl,ip⟩:=hR.params;have hwh:=hR.when_;have hva:=hR.value;obtain ⟨⟨A2,n2,b2,rfl,_⟩,⟨A3,n3,b3,rfl,_⟩,⟨A4,n4,b4,rfl,_⟩,⟨A5,n5,b5,rfl,_⟩⟩:=hR.when_.sls;obtain ⟨A6,n6,b6,rfl,ia⟩:=hR.args;obtain ⟨⟨A7,n7,b7,rfl,_⟩,⟨A8,n8,b8,rfl,_⟩⟩:=hR.value.sls;have l1:=ip.len;have ln:=h1.len;have hWp:n+x.params.length+fW x.when_<=1000000000:=by unfold YW at hW;omega
 refine qF Tryz.func289 Tryz.ntmps289 (fun w0=>?_);refine pX (fun g0=>?_);refine zWO ?_;refine Yy (YV (fun σ fz' H'=>∃ bb:Bool,σ=[(9,Zo bb),(6,Zp g0),(0,Zp gc),(1,Zc A n c),(3,Zo du)]/\fz=fz'/\H'=[(g0,Zu #[Zk x.kind,Zc A1 n1 b1,Zy x.when_.op,Zy x.when_.name,Zc A2 n2 b2,Zc A3 n3 b3,Zc A4 n4 b4,Zc A5 n5 b5,Zy x.name,Zc A6 n6 b6,Zy x.value.op,Zy x.value.name,Zk x.value.n,Zc A7 n7 b7,Zc A8 n8 b8] 104)]/\(bb=true↔Yie x)) ?_ ?_)
 ·refine vC ?_ ?_<;>intro x1
  ·have hnil:x.params=[]:=List.eq_nil_of_length_eq_zero Zi;refine vG ?_;refine Ye (vs:=[Zy x.when_.op,Zy x.when_.name,Zc A2 n2 b2,Zc A3 n3 b3,Zc A4 n4 b4,Zc A5 n5 b5]) 0 ?_;refine vb (Yf9 hwh Yco) (fun f1=>?_) (fun f1=>?_)
   ·exact vN (h:=by exact ⟨true,rfl,rfl,rfl,iff_of_true rfl ⟨hnil,Zt f1⟩⟩)
   exact vN (h:=by exact ⟨false,rfl,rfl,rfl,iff_of_false (by simp) (fun h=>Zf f1 h.2)⟩)
  exact vN (h:=by exact ⟨false,rfl,rfl,rfl,iff_of_false (by simp) (fun h=>x1 (by rw [h.1] at l1;simp at l1;omega))⟩)
 rintro σ fz' H' ⟨bb,rfl,rfl,rfl,hbb⟩;refine Yy (YV (fun σ fz' H'=>∃ nn:Bool,σ=[(10,Zo nn),(9,Zo bb),(6,Zp g0),(0,Zp gc),(1,Zc A n c),(3,Zo du)]/\fz=fz'/\H'=[(g0,Zu #[Zk x.kind,Zc A1 n1 b1,Zy x.when_.op,Zy x.when_.name,Zc A2 n2 b2,Zc A3 n3 b3,Zc A4 n4 b4,Zc A5 n5 b5,Zy x.name,Zc A6 n6 b6,Zy x.value.op,Zy x.value.name,Zk x.value.n,Zc A7 n7 b7,Zc A8 n8 b8] 104)]/\(nn=true↔NumC x)) ?_ ?_)
 ·refine vC ?_ ?_<;>intro x1
  ·refine vC ?_ ?_<;>intro x2
   ·exact vN (h:=by exact ⟨true,rfl,rfl,rfl,iff_of_true rfl ⟨x1,x2⟩⟩)
   exact vN (h:=by exact ⟨false,rfl,rfl,rfl,iff_of_false (by simp) (fun h=>h.2 Zi)⟩)
  exact vN (h:=by exact ⟨false,rfl,rfl,rfl,iff_of_false (by simp) (fun h=>h.1 Zi)⟩)
 rintro σ fz' H' ⟨nn,rfl,rfl,rfl,hnn⟩;by_cases hbad:¬Yie x/\(NumC x\/du=true)
 ·have e1:YaO d all vars x du=6:=if_pos hbad;obtain rfl:bb=false:=by cases bb with | false=>rfl | true=>exact absurd (hbb.1 rfl) hbad.1
  cases nn with
  | true=>
   exact vR (h:=by rw [e1];rfl)
  | false=>
   obtain rfl:du=true:=hbad.2.elim (fun h=>by have:=hnn.2 h;cases this) id;exact vR (h:=by rw [e1];rfl)
 refine Yy (YV (fun σ fz' H'=>σ=[(10,Zo nn),(6,Zp g0),(0,Zp gc),(1,Zc A n c)]/\fz=fz'/\H'=[(g0,Zu #[Zk x.kind,Zc A1 n1 b1,Zy x.when_.op,Zy x.when_.name,Zc A2 n2 b2,Zc A3 n3 b3,Zc A4 n4 b4,Zc A5 n5 b5,Zy x.name,Zc A6 n6 b6,Zy x.value.op,Zy x.value.name,Zk x.value.n,Zc A7 n7 b7,Zc A8 n8 b8] 104)]) ?_ ?_)
 ·cases bb with
  | true=>
   exact vN (h:=by exact ⟨rfl,rfl,rfl⟩)
  | false=>
   have hp:¬Yie x:=fun h=>by have:=hbb.2 h;cases this
   obtain rfl:nn=false:=by cases nn with | false=>rfl | true=>exact absurd ⟨hp,.inl (hnn.1 rfl)⟩ hbad
   obtain rfl:du=false:=by cases du with | false=>rfl | true=>exact absurd ⟨hp,.inr rfl⟩ hbad
   exact vN (h:=by exact ⟨rfl,rfl,rfl⟩)
 rintro σ fz' H' ⟨rfl,rfl,rfl⟩;refine vc (Yk9 ip h1) ?_;by_cases ht:TwP (parN vars) (parN x.params)
 ·rw [if_pos ht,show errV 4=.iface 86 (Zk 4) from rfl];exact vR (h:=by rw [YaO,if_neg hbad,if_pos ht];rfl)
 rw [if_neg ht,show errV 0=.nilIface from rfl];refine vc (YlF hck0 hF ip) ?_;by_cases hx:ExP d.types x.params
 ·have e1:=YmS (all:=all) (du:=du) hbad ht hx;rw [if_pos hx,show errV 0=.nilIface from rfl];refine zV ?_;refine YS [_] ?_;refine zW ?_;refine Yj ?_;refine zW ?_;refine pU ?_;refine Yf (Yh [] [_] Zz (Yab h1 Zi) (fun v6 fz6 H6 hle6 hR6=>⟨⟨hle6,Zx⟩,?_⟩));obtain ⟨Av,cv,rfl,_,_⟩:=hR6.form;refine Yf (XF T (Hr:=[_]) Zz Zz Zz Zz Zz Zz Zz Zz Zq hR6 WI (ip.mono hle6) (by show _*32<=_;omega) Zi (fun v7 H7 hO7=>⟨⟨hle6,Zx⟩,?_⟩));obtain ⟨Aw,cw,rfl,_,_⟩:=hO7.form;refine Ch.qk ⟨hle6,Zx⟩ (YE ?_);refine Ch.done ?_;refine Ydn ?_;refine Wp.freezeAll (H1:=[_]) (H2:=H7) (Zr _) (fun fz8 hle8 hf8=>?_);obtain ⟨A8,c8,e8,h8⟩:=hO7.sl hle8 hf8 Zi;injection e8 with e81 e82 e83
  subst e81;subst e83;have hle:=hle6.trans hle8;have h0':=h0.mono hle;have ia':=ia.mono hle;have hwh':=hwh.mono hle;have hva':=hva.mono hle;have hcg:=hle _ _ hc;refine vG ?_;refine Ye (vs:=[Zy x.when_.op,Zy x.when_.name,Zc A2 n2 b2,Zc A3 n3 b3,Zc A4 n4 b4,Zc A5 n5 b5]) 0 ?_;refine vG ?_;refine Yu (Yji h0' h8 hwh' Zi) ?_;by_cases hz:formM d all (vars++x.params) x.when_=0
  ·have e2:=e1;rw [hz,if_neg Zh] at e2;rw [hz,show errV 0=.nilIface from rfl];cases nn with
   | false=>
    have hn:¬NumC x:=fun h=>by have:=hnn.2 h;cases this
    refine vc (YlP h0' h8 ia') ?_;exact vR (h:=by rw [e2,if_pos hn])
   | true=>
    have hn:NumC x:=hnn.1 rfl;refine vc (Yg7 h0' h8 ia') ?_;by_cases hy:fluM d all (vars++x.params) x.name x.args=0
    ·rw [hy,show errV 0=.nilIface from rfl];refine vG ?_;refine Ye (vs:=[Zy x.value.op,Zy x.value.name,Zk x.value.n,Zc A7 n7 b7,Zc A8 n8 b8]) 0 ?_;refine vc (Yqm h0' h8 hva') ?_;exact vR (h:=by rw [e2,if_neg (by simpa using hn),hy,if_neg Zh])
    rw [Yq hy];exact vR (h:=by rw [e2,if_neg (by simpa using hn),if_pos hy,Yq hy])
  rw [Yq hz];exact vR (h:=by rw [e1,if_pos hz,Yq hz])
 rw [if_neg hx,show errV 3=.iface 86 (Zk 3) from rfl];exact vR (h:=by rw [YaO,if_neg hbad,if_neg ht,if_pos (by simpa using hx)];rfl)
def Yav {α:Type} (E:α->Int):List α->Int
 | []=>0
 | x::r=>if E x=0 then Yav E r else E x
theorem YgW {α:Type} {E:α->Int}:∀ {l:List α} {k:Nat} {x:α},l[k]?=some x->(∀ i,i<k->∀ y,l[i]?=some y->E y=0)->E x≠0->Yav E l=E x
 | [],k,x,h,_,_=>by simp at h
 | y::l,0,x,h,_,hx=>by simp at h;subst h;rw [Yav,if_neg hx]
 | y::l,k+1,x,h,hh,hx=>by
  rw [Yav,if_pos (hh 0 Zi y rfl)];exact YgW (k:=k) (by simpa using h) (fun i hi z hz=>hh (i+1) Zi z (by simpa using hz)) hx
theorem YdO {α:Type} {E:α->Int}:∀ {l:List α},(∀ y∈l,E y=0)->Yav E l=0
 | [],_=>rfl
 | y::l,h=>by rw [Yav,if_pos (h y (by simp))];exact YdO (fun z hz=>h z (by simp [hz]))
def XS (d:Domain) (all vars:List Param) (l:List Change) (du:Bool):Int:=Yav (fun x=>YaO d all vars x du) l
theorem Yib {l:List Change} {m b:Nat} {du:Bool} (h:CkG fz v d p all) (h1:Sl paramL fz A n c vars) (h2:Sl changeL fz B m b l) (hW:∀ x∈l,n+YW x<=1000000000):
 QFn prog 252 [v,Zc A n c,Zc B m b,Zo du] fz (errV (XS d all vars l du)):=by
 have h0:=h;obtain ⟨⟨vf,vpp,vg,vo,hck,hF,hPr,hFu,hO⟩,hw⟩:=h;obtain ⟨gc,w1,w2,w3,w4,w5,w6,u1,u2,u3,u4,u5,u6,u7,Aa,na,ca,rfl,hc,hD,hP,hall⟩:=hck;have l2:=h2.len;have s2:=h2.short;refine qF Tryz.func252 Tryz.ntmps252 (fun w0=>?_);refine zV ?_;refine XW m (fun k=>[(14,Zk k),(13,Zk m),(12,Zc B m b),(0,Zp gc),(1,Zc A n c),(3,Zo du)]) [] (fun k=>(∀ i,i<k->∀ y,l[i]?=some y->YaO d all vars y du=0)) (fun i hi=>absurd hi Zi) ?_;intro k hk hh;refine vC ?_ ?_<;>intro c1
 ·obtain ⟨x,hx⟩:=Yc (l:=l) (k:=k) Zi;refine vI h2 hx (fun p1 hp1=>?_);refine zL hp1 ?_;intro cs hcs;have hcs0:=hcs;obtain ⟨v1,v2,v3,v4,v5,v6,v7,v8,rfl,hR⟩:=Y6 hcs;obtain ⟨A1,n1,b1,rfl,_⟩:=hR.params;obtain ⟨⟨A2,n2,b2,rfl,_⟩,⟨A3,n3,b3,rfl,_⟩,⟨A4,n4,b4,rfl,_⟩,⟨A5,n5,b5,rfl,_⟩⟩:=hR.when_.sls;obtain ⟨A6,n6,b6,rfl,_⟩:=hR.args;obtain ⟨⟨A7,n7,b7,rfl,_⟩,⟨A8,n8,b8,rfl,_⟩⟩:=hR.value.sls;refine zV ?_;intros;refine zc (Yqo h0 h1 hcs0 (hW x (Zm hx))) ?_;by_cases hz:YaO d all vars x du=0
  ·rw [hz,show errV 0=.nilIface from rfl];exact vM (h:=by exact Yx hh hx hz)
  rw [Yq hz];exact vR (h:=by rw [XS,YgW (E:=fun x=>YaO d all vars x du) hx hh hz,Yq hz])
 have hA:=YQ hh Zi;exact vR (h:=by rw [XS,YdO hA];rfl)
def YlN (d:Domain):Bs × Int:=match d.duratives with
 | []=>(⟨#[]⟩,0)
 | _::_=>match d.actions with
  | a::_=>(Wl++a.name,6)
  | []=>match d.functions with
   | f::_=>(Xl++f.name,6)
   | []=>(⟨#[]⟩,0)
theorem get0 {α:Type} {l:List α} (h:0<l.length):∃ x r,l=x::r:=by cases l with
 | nil=>simp at h
 | cons x r=>exact ⟨x,r,rfl⟩
theorem cknd_q {vf vg vo:Value} (h:CkR fz v d p all vf vp vg vo) (hs:NmS d all):
 QFn prog 183 [v] fz (resV (YlN d)):=by
 obtain ⟨gc,v1,v2,v3,v4,v5,v6,u1,u2,u3,u4,u5,u6,u7,Aa,na,ca,rfl,hc,hD,hP,hall⟩:=h;obtain ⟨⟨A1,n1,b1,rfl,i1⟩,⟨A2,n2,b2,rfl,i2⟩,⟨A3,n3,b3,rfl,i3⟩,⟨A4,n4,b4,rfl,i4⟩,⟨A5,n5,b5,rfl,i5⟩,⟨A6,n6,b6,rfl,i6⟩⟩:=hD.sls;have l3:=i3.len;have l4:=i4.len;have l5:=i5.len;have l6:=i6.len;have la:=hall.len;have s3:=i3.short;have s4:=i4.short;have s5:=i5.short;have s6:=i6.short;have sa:=hall.short;refine qF Tryz.func183 Tryz.ntmps183 (fun w0=>?_);refine vC ?_ ?_<;>intro c1
 ·have h0:d.duratives=[]:=List.eq_nil_of_length_eq_zero Zi;exact vS (h:=by exact (by rw [YlN,h0];rfl))
 obtain ⟨u,r,h0⟩:=get0 (l:=d.duratives) Zi;refine vC ?_ ?_<;>intro c2
 ·obtain ⟨x,r2,h2⟩:=get0 (l:=d.actions) Zi;have hxs:=hs.a x (by rw [h2];simp);have hx:d.actions[0]?=some x:=by rw [h2];rfl
  refine vI i5 hx (fun p1 hp=>?_);refine vH hp.Action_name (fun hxn=>?_);refine zG ?_;refine XM Zz Zz (by show _+_<=_;exact Nat.le_trans (Nat.add_le_add_left hxs _) Zh) ?_;exact vS (h:=by exact (by rw [YlN,h0,h2];rfl))
 have h2:d.actions=[]:=List.eq_nil_of_length_eq_zero Zi;refine vC ?_ ?_<;>intro c3
 ·obtain ⟨x,r3,h3⟩:=get0 (l:=d.functions) Zi;have hxs:=hs.f x (by rw [h3];simp);have hx:d.functions[0]?=some x:=by rw [h3];rfl
  refine vI i4 hx (fun p1 hp=>?_);refine vH hp.Function_name (fun hxn=>?_);refine zG ?_;refine XM Zz Zz (by show _+_<=_;exact Nat.le_trans (Nat.add_le_add_left hxs _) Zh) ?_;exact vS (h:=by exact (by rw [YlN,h0,h2,h3];rfl))
 have h3:d.functions=[]:=List.eq_nil_of_length_eq_zero Zi;exact vS (h:=by exact (by rw [YlN,h0,h2,h3];rfl))
def codeF (f:Function):Int:=if f.hi<f.lo then 7 else if 64<=f.hi - f.lo then 5 else 0
def Yje (a:Action):Int:=if 1048576<a.cost then 1 else 0
def Yhy (a:Durative):Int:=if a.duration<1\/62<a.duration then 1 else 0
def numsL (d:Domain):List (Bs × Int):=
 d.functions.map (fun x=>(Xl++x.name,codeF x))++(d.actions.map (fun x=>(Wl++x.name,Yje x))++(d.duratives.map (fun x=>(Xm++x.name,Yhy x))++ []))
theorem Yo1 {vf vg vo:Value} (h:CkR fz v d p all vf vp vg vo) (hs:NmS d all) (hn:∀ f∈d.functions,Yex f.lo/\Yex f.hi):
 QFn prog 184 [v] fz (resV (YX (fun n=>n) (numsL d))):=by
 obtain ⟨gc,v1,v2,v3,v4,v5,v6,u1,u2,u3,u4,u5,u6,u7,Aa,na,ca,rfl,hc,hD,hP,hall⟩:=h;obtain ⟨⟨A1,n1,b1,rfl,i1⟩,⟨A2,n2,b2,rfl,i2⟩,⟨A3,n3,b3,rfl,i3⟩,⟨A4,n4,b4,rfl,i4⟩,⟨A5,n5,b5,rfl,i5⟩,⟨A6,n6,b6,rfl,i6⟩⟩:=hD.sls;have l3:=i3.len;have l4:=i4.len;have l5:=i5.len;have l6:=i6.len;have la:=hall.len;have s3:=i3.short;have s4:=i4.short;have s5:=i5.short;have s6:=i6.short;have sa:=hall.short;refine qF Tryz.func184 Tryz.ntmps184 (fun w0=>?_);refine zV ?_;refine XW n4 (fun k=>[(16,Zk k),(15,Zk n4),(14,Zc A4 n4 b4),(0,Zp gc)]) [] (fun k=>(∀ i,i<k->∀ x,d.functions[i]?=some x->codeF x=0)) (fun i hi=>absurd hi Zi) ?_;intro k hk hh;refine vC ?_ ?_<;>intro c1
 ·obtain ⟨x,hx⟩:=Yc (l:=d.functions) (k:=k) Zi;have hxm:=Zm hx;have hxs:=hs.f x hxm;refine vI i4 hx (fun p1 hp=>?_);refine zL hp ?_;intro cs hcs;obtain ⟨w1,rfl,hR⟩:=YU hcs;obtain ⟨Ap,np,cp,rfl,ip⟩:=hR.params;have hnx:=hn x hxm;obtain ⟨hn1,hn2⟩:=hnx;unfold Yex at hn1 hn2;refine zV ?_;intros;refine zC ?_ ?_<;>intro e1
  ·have e1:=e1;have hz:codeF x=7:=if_pos e1;refine vG ?_;refine XM Zz Zz (by show _+_<=_;exact Nat.le_trans (Nat.add_le_add_left hxs _) Zh) ?_;exact vS (h:=by exact (by rw [numsL,XC (l:=d.functions) (E:=fun n=>n) (f:=fun x=>Xl++x.name) (g:=codeF) hx hh (by rw [hz];decide),hz];rfl))
  refine vC ?_ ?_<;>intro e2
  ·have e2:=e2;have hz:codeF x=5:=by rw [codeF,if_neg e1,if_pos e2]
   refine vG ?_;refine XM Zz Zz (by show _+_<=_;exact Nat.le_trans (Nat.add_le_add_left hxs _) Zh) ?_;exact vS (h:=by exact (by rw [numsL,XC (l:=d.functions) (E:=fun n=>n) (f:=fun x=>Xl++x.name) (g:=codeF) hx hh (by rw [hz];decide),hz];rfl))
  have e2:=e2;have hz:codeF x=0:=by rw [codeF,if_neg e1,if_neg e2]
  exact vM (h:=by exact Yx hh hx hz)
 have hzf:=fun x (hx:x∈d.functions)=>(by obtain ⟨i,hi⟩:=List.getElem?_of_mem hx;exact YQ hh Zi x hx:codeF x=0)
 refine zV ?_;refine XW n5 (fun k=>[(48,Zk k),(47,Zk n5),(46,Zc A5 n5 b5),(0,Zp gc)]) [] (fun k=>(∀ i,i<k->∀ x,d.actions[i]?=some x->Yje x=0)) (fun i hi=>absurd hi Zi) ?_;intro k hk hh;refine vC ?_ ?_<;>intro c1
 ·obtain ⟨x,hx⟩:=Yc (l:=d.actions) (k:=k) Zi;have hxm:=Zm hx;have hxs:=hs.a x hxm;refine vI i5 hx (fun p1 hp=>?_);refine zL hp ?_;intro cs hcs;obtain ⟨w1,w2,w3,w4,w5,w6,rfl,hR⟩:=Y7 hcs;obtain ⟨Ap,np,cp,rfl,ip⟩:=hR.params;obtain ⟨⟨B0,e0,j0,rfl,_⟩,⟨B1,e1,j1,rfl,_⟩,⟨B2,e2,j2,rfl,_⟩,⟨B3,e3,j3,rfl,_⟩⟩:=hR.pre.sls;obtain ⟨B4,e4,j4,rfl,_⟩:=hR.changes;refine zV ?_;intros;refine zC ?_ ?_<;>intro e1
  ·have e1:=e1;have hz:Yje x=1:=if_pos e1;refine vG ?_;refine XM Zz Zz (by show _+_<=_;exact Nat.le_trans (Nat.add_le_add_left hxs _) Zh) ?_;exact vS (h:=by exact (by rw [numsL,YO (l:=d.functions) (E:=fun n=>n) (f:=fun x=>Xl++x.name) (g:=codeF) hzf,XC (l:=d.actions) (E:=fun n=>n) (f:=fun x=>Wl++x.name) (g:=Yje) hx hh (by rw [hz];decide),hz];rfl))
  have e1:=e1;have hz:Yje x=0:=if_neg e1;exact vM (h:=by exact Yx hh hx hz)
 have hza:=fun x (hx:x∈d.actions)=>(by obtain ⟨i,hi⟩:=List.getElem?_of_mem hx;exact YQ hh Zi x hx:Yje x=0)
 refine zV ?_;refine XW n6 (fun k=>[(66,Zk k),(65,Zk n6),(64,Zc A6 n6 b6)]) [] (fun k=>(∀ i,i<k->∀ x,d.duratives[i]?=some x->Yhy x=0)) (fun i hi=>absurd hi Zi) ?_;intro k hk hh;refine vC ?_ ?_<;>intro c1
 ·obtain ⟨x,hx⟩:=Yc (l:=d.duratives) (k:=k) Zi;have hxm:=Zm hx;have hxs:=hs.u x hxm;refine vI i6 hx (fun p1 hp=>?_);refine zL hp ?_;intro cs hcs;obtain ⟨w0,w1,w2,w3,w4,w5,w6,w7,w8,w9,w10,w11,w12,w13,w14,rfl,hR⟩:=Xx hcs;obtain ⟨Ap,np,cp,rfl,ip⟩:=hR.params;obtain ⟨⟨B0,e0,j0,rfl,_⟩,⟨B1,e1,j1,rfl,_⟩,⟨B2,e2,j2,rfl,_⟩,⟨B3,e3,j3,rfl,_⟩⟩:=hR.start.sls;obtain ⟨⟨B4,e4,j4,rfl,_⟩,⟨B5,e5,j5,rfl,_⟩,⟨B6,e6,j6,rfl,_⟩,⟨B7,e7,j7,rfl,_⟩⟩:=hR.over.sls;obtain ⟨⟨B8,e8,j8,rfl,_⟩,⟨B9,e9,j9,rfl,_⟩,⟨B10,e10,j10,rfl,_⟩,⟨B11,e11,j11,rfl,_⟩⟩:=hR.fin.sls;obtain ⟨B12,e12,j12,rfl,_⟩:=hR.atStart;obtain ⟨B13,e13,j13,rfl,_⟩:=hR.atEnd;refine zV ?_;intros;refine zC ?_ ?_<;>intro e1
  ·have e1:=e1;have hz:Yhy x=1:=if_pos (.inl e1);refine vG ?_;refine XM Zz Zz (by show _+_<=_;exact Nat.le_trans (Nat.add_le_add_left hxs _) Zh) ?_;exact vS (h:=by exact (by rw [numsL,YO (l:=d.functions) (E:=fun n=>n) (f:=fun x=>Xl++x.name) (g:=codeF) hzf,YO (l:=d.actions) (E:=fun n=>n) (f:=fun x=>Wl++x.name) (g:=Yje) hza,XC (l:=d.duratives) (E:=fun n=>n) (f:=fun x=>Xm++x.name) (g:=Yhy) hx hh (by rw [hz];decide),hz];rfl))
  refine vC ?_ ?_<;>intro e2
  ·have e2:=e2;have hz:Yhy x=1:=if_pos (.inr e2);refine vG ?_;refine XM Zz Zz (by show _+_<=_;exact Nat.le_trans (Nat.add_le_add_left hxs _) Zh) ?_;exact vS (h:=by exact (by rw [numsL,YO (l:=d.functions) (E:=fun n=>n) (f:=fun x=>Xl++x.name) (g:=codeF) hzf,YO (l:=d.actions) (E:=fun n=>n) (f:=fun x=>Wl++x.name) (g:=Yje) hza,XC (l:=d.duratives) (E:=fun n=>n) (f:=fun x=>Xm++x.name) (g:=Yhy) hx hh (by rw [hz];decide),hz];rfl))
  have e2:=e2;have hz:Yhy x=0:=if_neg (fun h=>h.elim e1 e2);exact vM (h:=by exact Yx hh hx hz)
 have hzu:=fun x (hx:x∈d.duratives)=>(by obtain ⟨i,hi⟩:=List.getElem?_of_mem hx;exact YQ hh Zi x hx:Yhy x=0)
 exact vS (h:=by exact (by rw [numsL,YO (l:=d.functions) (E:=fun n=>n) (f:=fun x=>Xl++x.name) (g:=codeF) hzf,YO (l:=d.actions) (E:=fun n=>n) (f:=fun x=>Wl++x.name) (g:=Yje) hza,YO (l:=d.duratives) (E:=fun n=>n) (f:=fun x=>Xm++x.name) (g:=Yhy) hzu];rfl))
def wPre:Bs:=⟨#[58,32,112,114,101,99,111,110,100,105,116,105,111,110]⟩
def wEff:Bs:=⟨#[58,32,101,102,102,101,99,116]⟩
def Yl0:Bs:=⟨#[58,32]⟩
def wAt:Bs:=⟨#[58,32,101,102,102,101,99,116,32,97,116,32]⟩
def YcG:Bs:=⟨#[115,116,97,114,116]⟩
def Ym3:Bs:=⟨#[111,118,101,114]⟩
def wEnd:Bs:=⟨#[101,110,100]⟩
abbrev idN:Int->Int:=fun n=>n
def Zer (l:List (Bs × Int)):Prop:=∀ q∈l,q.2=0
theorem Yby {p:Bs} {e:Int} {l:List (Bs × Int)} (h:e≠0):YX idN ((p,e)::l)=(p,e):=by rw [YX,if_neg h]
theorem Yaw {p:Bs} {e:Int} {l:List (Bs × Int)} (h:e=0):YX idN ((p,e)::l)=YX idN l:=by rw [YX,if_pos h]
theorem Ye1:∀ {a r:List (Bs × Int)},Zer a->YX idN (a++r)=YX idN r
 | [],r,_=>rfl
 | (p,e)::a,r,h=>by rw [List.cons_append,Yaw (h (p,e) (by simp))];exact Ye1 (fun q hq=>h q (by simp [hq]))
theorem Yi4 {α:Type} {g:α->List (Bs × Int)} {r:List (Bs × Int)}:∀ {l:List α},(∀ x∈l,Zer (g x))->YX idN (l.flatMap g++r)=YX idN r
 | [],_=>rfl
 | x::l,h=>by rw [List.flatMap_cons,List.append_assoc,Ye1 (h x (by simp))];exact Yi4 (fun y hy=>h y (by simp [hy]))
theorem YlC {α:Type} {g:α->List (Bs × Int)} {r:List (Bs × Int)}:∀ {l:List α} {k:Nat} {x:α},l[k]?=some x->(∀ i,i<k->∀ y,l[i]?=some y->Zer (g y))->∃ r',YX idN (l.flatMap g++r)=YX idN (g x++r')
 | [],k,x,h,_=>by simp at h
 | y::l,0,x,h,_=>by simp at h;subst h;exact ⟨l.flatMap g++r,by rw [List.flatMap_cons,List.append_assoc]⟩
 | y::l,k+1,x,h,hh=>by
  obtain ⟨r',h'⟩:=YlC (g:=g) (r:=r) (l:=l) (k:=k) (x:=x) (by simpa using h) (fun i hi z hz=>hh (i+1) Zi z (by simpa using hz));exact ⟨r',by rw [List.flatMap_cons,List.append_assoc,Ye1 (hh 0 Zi y rfl)];exact h'⟩
def actL (d:Domain) (all:List Param) (a:Action):List (Bs × Int):=[((Wl++a.name)++wPre,formM d all a.params a.pre),((Wl++a.name)++wEff,XS d all a.params a.changes false)]
def durL (d:Domain) (all:List Param) (a:Durative):List (Bs × Int):=
 [(((Xm++a.name)++Yl0)++YcG,Yaz d all a.params a.start),(((Xm++a.name)++Yl0)++Ym3,Yaz d all a.params a.over),(((Xm++a.name)++Yl0)++wEnd,Yaz d all a.params a.fin),
  (((Xm++a.name)++wAt)++YcG,XS d all a.params a.atStart true),(((Xm++a.name)++wAt)++wEnd,XS d all a.params a.atEnd true)]
def YaS (d:Domain) (all:List Param):List (Bs × Int):=d.actions.flatMap (actL d all)++(d.duratives.flatMap (durL d all)++ [])
theorem YkQ {A:List Change} {s:Nat} (h:s+(A.map YW).sum<=1000000000):∀ x∈A,s+YW x<=1000000000:=fun x hx=>by have:=Y2 (w:=YW) hx;omega
theorem nm_le {w n:Bs} {m:Nat} (h:n.size<=1000) (hw:w.size<=m):(w++n).size<=m+1000:=by rw [ByteArray.size_append];omega
theorem nm3 {w n c:Bs} (h:n.size<=1000) (hw:w.size<=1000:=by decide) (hc:c.size<=1000:=by decide):((w++n)++c).size<=10000:=by rw [ByteArray.size_append,ByteArray.size_append];omega
theorem YdA {a b:Bs} (h:a.size<=10000) (hb:b.size<=10000):a.size+b.size<=9223372036854775807:=by omega
theorem Yqz (h:CkG fz v d p all) (hs:NmS d all) (hWa:∀ a∈d.actions,actW a<=1000000000) (hWd:∀ a∈d.duratives,durW a<=1000000000):
 QFn prog 186 [v] fz (resV (YX idN (YaS d all))):=by
 have h0:=h;obtain ⟨⟨vf,vpp,vg,vo,hck,hF,hPr,hFu,hO⟩,hw⟩:=h;obtain ⟨gc,v1,v2,v3,v4,v5,v6,u1,u2,u3,u4,u5,u6,u7,Aa,na,ca,rfl,hc,hD,hP,hall⟩:=hck;obtain ⟨A5,n5,b5,rfl,i5⟩:=hD.actions;obtain ⟨A6,n6,b6,rfl,i6⟩:=hD.duratives;have l5:=i5.len;have l6:=i6.len;have s5:=i5.short;have s6:=i6.short;refine qF Tryz.func186 Tryz.ntmps186 (fun w0=>?_);refine zV ?_;refine XW n5 (fun k=>[(22,Zk k),(21,Zk n5),(20,Zc A5 n5 b5),(0,Zp gc)]) [] (fun k=>(∀ i,i<k->∀ x,d.actions[i]?=some x->Zer (actL d all x))) (fun i hi=>absurd hi Zi) ?_;intro k hk hh;refine vC ?_ ?_<;>intro c1
 ·obtain ⟨x,hx⟩:=Yc (l:=d.actions) (k:=k) Zi;have hxm:=Zm hx;have hxs:=hs.a x hxm;have hxw:=hWa x hxm;unfold actW at hxw;obtain ⟨r',hr'⟩:=YlC (r:=d.duratives.flatMap (durL d all)++ []) hx hh;have e1:YX idN (YaS d all)=YX idN (actL d all x++r'):=hr';refine vI i5 hx (fun p1 hp=>?_);refine zL hp ?_;intro cs hcs;obtain ⟨w1,w2,w3,w4,w5,w6,rfl,hR⟩:=Y7 hcs;have hpre:=hR.pre;obtain ⟨Ap,np,cp,rfl,ip⟩:=hR.params;obtain ⟨⟨B0,e0,j0,rfl,_⟩,⟨B1,e1',j1,rfl,_⟩,⟨B2,e2,j2,rfl,_⟩,⟨B3,e3,j3,rfl,_⟩⟩:=hR.pre.sls;obtain ⟨B4,e4,j4,rfl,ic⟩:=hR.changes;have lp:=ip.len;refine zV ?_;intros
  ((refine zG ?_);refine Ye (vs:=[Zy x.pre.op,Zy x.pre.name,Zc B0 e0 j0,Zc B1 e1' j1,Zc B2 e2 j2,Zc B3 e3 j3]) 0 ?_);refine vG ?_;refine Yu (Yji h0 ip hpre Zi) ?_;by_cases hz:formM d all x.params x.pre=0
  ·rw [hz,show errV 0=.nilIface from rfl];refine vG ?_;refine Yu (Yib h0 ip ic (YkQ Zi)) ?_;by_cases hy:XS d all x.params x.changes false=0
   ·rw [hy,show errV 0=.nilIface from rfl];exact vM (h:=by exact Yx hh hx (by intro q hq;simp only [actL,List.mem_cons,List.not_mem_nil,or_false] at hq;rcases hq with rfl | rfl<;>first | exact hz | exact hy))
   rw [Yq hy];refine vG ?_;refine XM Zz Zz (YdA Zh Zi) ?_;refine vG ?_;refine XM Zz Zz (YdA (Nat.le_trans (nm_le hxs (by decide:_<=1000)) Zh) Zh) ?_;exact vS (h:=by exact (by rw [e1,actL];simp only [List.cons_append];rw [Yaw hz,Yby hy,resV,Yq hy];rfl))
  rw [Yq hz];refine vG ?_;refine XM Zz Zz (YdA Zh Zi) ?_;refine vG ?_;refine XM Zz Zz (YdA (Nat.le_trans (nm_le hxs (by decide:_<=1000)) Zh) Zh) ?_;exact vS (h:=by exact (by rw [e1,actL];simp only [List.cons_append];rw [Yby hz,resV,Yq hz];rfl))
 have hza:∀ x∈d.actions,Zer (actL d all x):=YQ hh Zi;have e0:YX idN (YaS d all)=YX idN (d.duratives.flatMap (durL d all)++ []):=Yi4 hza;refine zV ?_;refine Yi (fun q σ fz' H'=>∃ K:Nat,K<=n6/\q=n6 - K/\σ=[(59,Zk K),(58,Zk n6),(57,Zc A6 n6 b6),(0,Zp gc)]/\Le fz fz'/\H'=[]/\(∀ i,i<K->∀ x,d.duratives[i]?=some x->Zer (durL d all x))) ⟨0,Z0 _,rfl,rfl,Zd,rfl,fun i hi=>absurd hi Zi⟩ Zw Zb ?_;rintro q σ fz1 H' ⟨K,hK,rfl,rfl,hlK,rfl,hhK⟩;have h1:=h0.mono hlK;have hc:=hlK _ _ hc;have i6:=i6.mono hlK;refine vC ?_ ?_<;>intro c2
 ·obtain ⟨x,hx⟩:=Yc (l:=d.duratives) (k:=K) Zi;have hxm:=Zm hx;have hxs:=hs.u x hxm;have hxw:=hWd x hxm;unfold durW at hxw;obtain ⟨r',hr'⟩:=YlC (r:=[]) hx hhK;have E1:YX idN (YaS d all)=YX idN (durL d all x++r'):=e0.trans hr';refine vI i6 hx (fun p1 hp=>?_);refine zL hp ?_;intro cs hcs;obtain ⟨w0,w1,w2,w3,w4,w5,w6,w7,w8,w9,w10,w11,w12,w13,w14,rfl,hR⟩:=Xx hcs;have hst:=hR.start;have hov:=hR.over;have hfi:=hR.fin;obtain ⟨Ap,np,cp,rfl,ip⟩:=hR.params;obtain ⟨⟨B0,e0,j0,rfl,_⟩,⟨B1,e1,j1,rfl,_⟩,⟨B2,e2,j2,rfl,_⟩,⟨B3,e3,j3,rfl,_⟩⟩:=hR.start.sls;obtain ⟨⟨B4,e4,j4,rfl,_⟩,⟨B5,e5,j5,rfl,_⟩,⟨B6,e6,j6,rfl,_⟩,⟨B7,e7,j7,rfl,_⟩⟩:=hR.over.sls;obtain ⟨⟨B8,e8,j8,rfl,_⟩,⟨B9,e9,j9,rfl,_⟩,⟨B10,e10,j10,rfl,_⟩,⟨B11,e11,j11,rfl,_⟩⟩:=hR.fin.sls;obtain ⟨B12,e12,j12,rfl,i12⟩:=hR.atStart;obtain ⟨B13,e13,j13,rfl,i13⟩:=hR.atEnd;have lp:=ip.len;refine zVX ?_;intros;rename_i g;refine Yy (YV (fun σ fz' H'=>σ=[(9,Zp g),(59,Zk K),(58,Zk n6),(57,Zc A6 n6 b6),(0,Zp gc)]/\Le fz1 fz'/\H'=[(g,Zu #[Zy x.name,Zc Ap np cp,Zk x.duration,Zy x.start.op,Zy x.start.name,Zc B0 e0 j0,Zc B1 e1 j1,Zc B2 e2 j2,Zc B3 e3 j3,Zy x.over.op,Zy x.over.name,Zc B4 e4 j4,Zc B5 e5 j5,Zc B6 e6 j6,Zc B7 e7 j7,Zy x.fin.op,Zy x.fin.name,Zc B8 e8 j8,Zc B9 e9 j9,Zc B10 e10 j10,Zc B11 e11 j11,Zc B12 e12 j12,Zc B13 e13 j13] 110)]/\∀ f∈ [x.start,x.over,x.fin],Yaz d all x.params f=0) ?_ ?_)
  ·refine vG ?_;refine Ye (vs:=[Zy x.start.op,Zy x.start.name,Zc B0 e0 j0,Zc B1 e1 j1,Zc B2 e2 j2,Zc B3 e3 j3]) 0 ?_;refine vG ?_;refine Ye (vs:=[Zy x.over.op,Zy x.over.name,Zc B4 e4 j4,Zc B5 e5 j5,Zc B6 e6 j6,Zc B7 e7 j7]) 0 ?_;refine vG ?_;refine Ye (vs:=[Zy x.fin.op,Zy x.fin.name,Zc B8 e8 j8,Zc B9 e9 j9,Zc B10 e10 j10,Zc B11 e11 j11]) 0 ?_;refine zV ?_;refine Ya (Yb (cs:=[Zy x.start.op,Zy x.start.name,Zc B0 e0 j0,Zc B1 e1 j1,Zc B2 e2 j2,Zc B3 e3 j3,Zy x.over.op,Zy x.over.name,Zc B4 e4 j4,Zc B5 e5 j5,Zc B6 e6 j6,Zc B7 e7 j7,Zy x.fin.op,Zy x.fin.name,Zc B8 e8 j8,Zc B9 e9 j9,Zc B10 e10 j10,Zc B11 e11 j11]) (fun gb=>?_));refine zW ?_
   first | refine Wp.freeze Zz (fun fz2 hl2 hb2=>?_) | refine Seq.freeze Zz (fun fz2 hl2 hb2=>?_)
   have hL3:Sl formulaL fz2 (some ⟨gb,0,none⟩) 3 3 [x.start,x.over,x.fin]:=XI hb2 (ys:=[(x.start,[Zy x.start.op,Zy x.start.name,Zc B0 e0 j0,Zc B1 e1 j1,Zc B2 e2 j2,Zc B3 e3 j3]),(x.over,[Zy x.over.op,Zy x.over.name,Zc B4 e4 j4,Zc B5 e5 j5,Zc B6 e6 j6,Zc B7 e7 j7]),(x.fin,[Zy x.fin.op,Zy x.fin.name,Zc B8 e8 j8,Zc B9 e9 j9,Zc B10 e10 j10,Zc B11 e11 j11])]) rfl rfl (by
    intro q hq;simp only [List.mem_cons,List.not_mem_nil,or_false] at hq;rcases hq with rfl | rfl | rfl
    ·exact YK (hst.mono hl2)
    ·exact YK (hov.mono hl2)
    exact YK (hfi.mono hl2)) rfl Zh
   have h2:=h1.mono hl2;have ip2:=ip.mono hl2;have hcg:=hl2 _ _ hc;refine zV ?_;refine Yi (fun q σ fz' H'=>∃ k:Nat,k<=3/\q=3 - k/\σ=[(71,Zk k),(70,Zk 3),(69,Zv gb 3 3),(9,Zp g),(59,Zk K),(58,Zk n6),(57,Zc A6 n6 b6),(0,Zp gc)]/\fz2=fz'/\H'=[(g,Zu #[Zy x.name,Zc Ap np cp,Zk x.duration,Zy x.start.op,Zy x.start.name,Zc B0 e0 j0,Zc B1 e1 j1,Zc B2 e2 j2,Zc B3 e3 j3,Zy x.over.op,Zy x.over.name,Zc B4 e4 j4,Zc B5 e5 j5,Zc B6 e6 j6,Zc B7 e7 j7,Zy x.fin.op,Zy x.fin.name,Zc B8 e8 j8,Zc B9 e9 j9,Zc B10 e10 j10,Zc B11 e11 j11,Zc B12 e12 j12,Zc B13 e13 j13] 110)]/\(∀ i,i<k->∀ f,[x.start,x.over,x.fin][i]?=some f->Yaz d all x.params f=0)) ⟨0,Z0 _,rfl,rfl,rfl,rfl,fun i hi=>absurd hi Zi⟩ Zw Zb ?_;rintro q σ fz' H' ⟨k,hk,rfl,rfl,rfl,rfl,hh3⟩;refine vC ?_ ?_<;>intro c3
   ·obtain ⟨f,hf⟩:=Yc (l:=[x.start,x.over,x.fin]) (k:=k) (by show k<3;omega);have hfw:np+fW f<=1000000000:=by
     have:=Zm hf;simp only [List.mem_cons,List.not_mem_nil,or_false] at this;rcases this with rfl | rfl | rfl<;>omega
    obtain ⟨wn,hwn⟩:=Yc (l:=[YcG,Ym3,wEnd]) (k:=k) (by show k<3;omega);have hwl:wn.size<=10:=by
     have:=Zm hwn;simp only [List.mem_cons,List.not_mem_nil,or_false] at this;rcases this with rfl | rfl | rfl<;>decide
    have hwv:([Zy YcG,Zy Ym3,Zy wEnd]:List Value)[k]?=some (Zy wn):=by
     have:([Zy YcG,Zy Ym3,Zy wEnd]:List Value)=[YcG,Ym3,wEnd].map Value.string:=rfl;rw [this,List.getElem?_map,hwn];rfl
    refine vI hL3 hf (fun p3 hp3=>?_);refine zL hp3 ?_;intro cs hcs;obtain ⟨wa,wp,we,wk,rfl,hRf⟩:=Yn hcs;obtain ⟨⟨E1',r1,q1,rfl,_⟩,⟨E2,r2,q2,rfl,_⟩,⟨E3,r3,q3,rfl,_⟩,⟨E4,r4,q4,rfl,_⟩⟩:=hRf.sls;refine zV ?_;intros;refine zc (Yg4 h2 ip2 hRf hfw) ?_;by_cases hz:Yaz d all x.params f=0
    ·rw [hz,show errV 0=.nilIface from rfl];exact vM (h:=by exact Yx hh3 hf hz)
    rw [Yq hz];refine zV ?_;refine YS [_,_] ?_;refine wG ?_;refine XM Zz Zz (YdA Zh Zi) ?_;refine wG ?_;refine XM Zz Zz (YdA (Nat.le_trans (nm_le hxs (by decide:_<=1000)) Zh) Zh) ?_;refine Yj ?_;refine zW ?_;refine Yj (Yj (Yj ?_));refine zW ?_;refine pU ?_;refine Yf (Yb (cs:=[Zy YcG,Zy Ym3,Zy wEnd]) (fun gn=>⟨⟨Zd,Zx⟩,?_⟩));refine Ch.qk ⟨Zd,Zx⟩ (Xn T Zz Zz Zz Zz Zz Zz Zi Zi ?_);refine Ch.qk ⟨Zd,Zx⟩ (Yp 0 ?_ (hv:=by rw [Int.toNat_natCast];exact hwv));refine Ch.qk ⟨Zd,Zx⟩ (XM Zz Zz (YdA (nm3 hxs) Zi) ?_);refine Ch.qk ⟨Zd,Zx⟩ (YE ?_);refine Ch.qk ⟨Zd,Zx⟩ (YE ?_);refine Ch.done ?_;refine zV ?_;refine ret2 rfl rfl rfl Zb ?_;have e2:YX idN (durL d all x++r')=(((Xm++x.name)++Yl0)++wn,Yaz d all x.params f):=by
     rw [durL];simp only [List.cons_append];obtain rfl | rfl | rfl:k=0\/k=1\/k=2:=by omega
     ·simp at hf hwn;subst hf;subst hwn;rw [Yby hz]
     ·simp at hf hwn;subst hf;subst hwn;rw [Yaw (hh3 0 Zi _ rfl),Yby hz]
     simp at hf hwn;subst hf;subst hwn;rw [Yaw (hh3 0 Zi _ rfl),Yaw (hh3 1 Zi _ rfl),Yby hz]
    rw [E1,e2,resV,Yq hz];rfl
   have hA:=YQ hh3 (by show 3<=k;omega);exact vN (h:=by exact ⟨rfl,hl2,rfl,hA⟩)
  rintro σ fz2 H' ⟨rfl,hl2,rfl,hA⟩;have h2:=h1.mono hl2;have ip2:=ip.mono hl2;have hcg:=hl2 _ _ hc;have z1:Yaz d all x.params x.start=0:=hA _ (by simp);have z2:Yaz d all x.params x.over=0:=hA _ (by simp);have z3:Yaz d all x.params x.fin=0:=hA _ (by simp);refine zV ?_;refine Ya (Yb (cs:=[Zc B12 e12 j12,Zc B13 e13 j13]) (fun gl=>?_));refine zW ?_;refine Yi (fun q σ fz' H'=>∃ k:Nat,k<=2/\q=2 - k/\σ=[(100,Zk k),(99,Zk 2),(98,Zv gl 2 2),(9,Zp g),(59,Zk K),(58,Zk n6),(57,Zc A6 n6 b6),(0,Zp gc)]/\fz2=fz'/\H'=[(gl,Zu #[Zc B12 e12 j12,Zc B13 e13 j13] 100),(g,Zu #[Zy x.name,Zc Ap np cp,Zk x.duration,Zy x.start.op,Zy x.start.name,Zc B0 e0 j0,Zc B1 e1 j1,Zc B2 e2 j2,Zc B3 e3 j3,Zy x.over.op,Zy x.over.name,Zc B4 e4 j4,Zc B5 e5 j5,Zc B6 e6 j6,Zc B7 e7 j7,Zy x.fin.op,Zy x.fin.name,Zc B8 e8 j8,Zc B9 e9 j9,Zc B10 e10 j10,Zc B11 e11 j11,Zc B12 e12 j12,Zc B13 e13 j13] 110)]/\(∀ i,i<k->∀ l,[x.atStart,x.atEnd][i]?=some l->XS d all x.params l true=0)) ⟨0,Z0 _,rfl,rfl,rfl,rfl,fun i hi=>absurd hi Zi⟩ Zw Zb ?_;rintro q σ fz' H' ⟨k,hk,rfl,rfl,rfl,rfl,hh2⟩;refine vC ?_ ?_<;>intro c3
  ·obtain ⟨l,hl⟩:=Yc (l:=[x.atStart,x.atEnd]) (k:=k) (by show k<2;omega);have hlw:np+(l.map YW).sum<=1000000000:=by
    have:=Zm hl;simp only [List.mem_cons,List.not_mem_nil,or_false] at this;rcases this with rfl | rfl<;>omega
   obtain ⟨wn,hwn⟩:=Yc (l:=[YcG,wEnd]) (k:=k) (by show k<2;omega);have hwl:wn.size<=10:=by
    have:=Zm hwn;simp only [List.mem_cons,List.not_mem_nil,or_false] at this;rcases this with rfl | rfl<;>decide
   have hwv:([Zy YcG,Zy wEnd]:List Value)[k]?=some (Zy wn):=by
    have:([Zy YcG,Zy wEnd]:List Value)=[YcG,wEnd].map Value.string:=rfl;rw [this,List.getElem?_map,hwn];rfl
   obtain ⟨Bl,nl,cl,hlv,il⟩:∃ Bl nl cl,([Zc B12 e12 j12,Zc B13 e13 j13]:List Value)[k]?=some (Zc Bl nl cl)/\Sl changeL fz2 Bl nl cl l:=by
    obtain rfl | rfl:k=0\/k=1:=by omega
    ·simp at hl;subst hl;exact ⟨_,_,_,rfl,i12.mono hl2⟩
    simp at hl;subst hl;exact ⟨_,_,_,rfl,i13.mono hl2⟩
   refine vG ?_;refine Xn T Zz Zz Zz Zz Zz Zz Zi Zi ?_;rw [Int.toNat_natCast];refine zG ?_;refine Yp 0 ?_ (hv:=hlv);refine vc (Yib h2 ip2 il (YkQ hlw)) ?_;by_cases hz:XS d all x.params l true=0
   ·rw [hz,show errV 0=.nilIface from rfl];exact vM (h:=by exact Yx hh2 hl hz)
   rw [Yq hz];refine zV ?_;refine YS [_,_] ?_;refine wG ?_;refine XM Zz Zz (YdA Zh Zi) ?_;refine wG ?_;refine XM Zz Zz (YdA (Nat.le_trans (nm_le hxs (by decide:_<=1000)) Zh) Zh) ?_;refine Yj ?_;refine zW ?_;refine Yj (Yj (Yj ?_));refine zW ?_;refine pU ?_;refine Yf (Yb (cs:=[Zy YcG,Zy wEnd]) (fun gn=>⟨⟨Zd,Zx⟩,?_⟩));refine Ch.qk ⟨Zd,Zx⟩ (Xn T Zz Zz Zz Zz Zz Zz Zi Zi ?_);refine Ch.qk ⟨Zd,Zx⟩ (Yp 0 ?_ (hv:=by rw [Int.toNat_natCast];exact hwv));refine Ch.qk ⟨Zd,Zx⟩ (XM Zz Zz (YdA (nm3 hxs) Zi) ?_);refine Ch.qk ⟨Zd,Zx⟩ (YE ?_);refine Ch.qk ⟨Zd,Zx⟩ (YE ?_);refine Ch.done ?_;refine zV ?_;refine ret2 rfl rfl rfl Zb ?_;have e2:YX idN (durL d all x++r')=(((Xm++x.name)++wAt)++wn,XS d all x.params l true):=by
    rw [durL];simp only [List.cons_append];rw [Yaw z1,Yaw z2,Yaw z3];obtain rfl | rfl:k=0\/k=1:=by omega
    ·simp at hl hwn;subst hl;subst hwn;rw [Yby hz]
    simp at hl hwn;subst hl;subst hwn;rw [Yaw (hh2 0 Zi _ rfl),Yby hz]
   rw [E1,e2,resV,Yq hz];rfl
  have hB:=YQ hh2 (by show 2<=k;omega);have y1:XS d all x.params x.atStart true=0:=hB _ (by simp);have y2:XS d all x.params x.atEnd true=0:=hB _ (by simp);exact vP (h:=by exact ⟨K+1,by omega,rfl,rfl,hlK.trans hl2,rfl,Yx hhK hx (by intro q hq;simp only [durL,List.mem_cons,List.not_mem_nil,or_false] at hq;rcases hq with rfl | rfl | rfl | rfl | rfl<;>first | exact z1 | exact z2 | exact z3 | exact y1 | exact y2)⟩)
 have hzd:∀ x∈d.duratives,Zer (durL d all x):=YQ hhK Zi;exact vS (h:=by exact (by rw [e0,Yi4 hzd];rfl))
end Go.Proofs.YtacfpcbladaohaaGreatDoor
namespace Go.Proofs.YtacfpcbladaohaaGreatDoor
variable {w w':World}
theorem fr_below (h:Below w.heap.size w w'):Fr [] w w':=⟨h.os,h.tape,h.output,h.size,fun b hb _=>h.block b hb,fun h=>h.elim⟩
end Go.Proofs.YtacfpcbladaohaaGreatDoor
