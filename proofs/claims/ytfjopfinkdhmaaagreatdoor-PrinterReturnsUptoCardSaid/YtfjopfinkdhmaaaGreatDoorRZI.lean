/- The texts PCH, PCI, PWt, PCJ, PCK, PCM, PCF, laid together. Conditions: none. -/
import Derived.Test.YtfjopfinkdhmaaaGreatDoorRZH
set_option linter.all false
noncomputable section
set_option maxRecDepth 20000
namespace Go.Proofs.YtfjopfinkdhmaaaGreatDoor
open Go.Lx Go.RowKit
attribute [local instance 10] Classical.propDecidable
open Go.Proofs.Tryz (prog)
def fstP (l:List Predicate) (x:Bs):Option Predicate:=l.find? fun p=>decide (p.name=x)
def fstF (l:List Function) (x:Bs):Option Function:=l.find? fun p=>decide (p.name=x)
def PrdR (fz:FZ) (vp:Value) (l:List Predicate):Prop:=∃ g m,vp=.map (some g)/\fz g=some (mapS m)/\∀ x,(fstP l x=none->valS m x=none)/\∀ p,fstP l x=some p->∃ A n c,valS m x=some (.slice A n c)/\Sl paramL fz A n c p.params
def FunR (fz:FZ) (vg:Value) (l:List Function):Prop:=∃ g m,vg=.map (some g)/\fz g=some (mapS m)/\∀ x,(fstF l x=none->valS m x=none)/\∀ f,fstF l x=some f->∃ A n c,valS m x=some (.agg #[.string f.name,.slice A n c,Zk f.lo,Zk f.hi])/\Sl paramL fz A n c f.params
variable {fz fz':FZ} {v:Value}
theorem PrdR.mono {l:List Predicate} (h:PrdR fz v l) (hle:Le fz fz'):PrdR fz' v l:=by
 obtain ⟨g,m,h1,h2,h3⟩:=h;exact ⟨g,m,h1,hle _ _ h2,fun x=>⟨(h3 x).1,fun p hp=>by obtain ⟨A,n,c,h4,h5⟩:=(h3 x).2 p hp;exact ⟨A,n,c,h4,h5.mono hle⟩⟩⟩
theorem FunR.mono {l:List Function} (h:FunR fz v l) (hle:Le fz fz'):FunR fz' v l:=by
 obtain ⟨g,m,h1,h2,h3⟩:=h;exact ⟨g,m,h1,hle _ _ h2,fun x=>⟨(h3 x).1,fun p hp=>by obtain ⟨A,n,c,h4,h5⟩:=(h3 x).2 p hp;exact ⟨A,n,c,h4,h5.mono hle⟩⟩⟩
structure CkG (fz:FZ) (v:Value) (d:Domain) (p:Problem) (all:List Param):Prop where
 ex:∃ vf vp vg vo,CkR fz v d p all vf vp vg vo/\ForR fz vf d.types/\PrdR fz vp d.predicates/\FunR fz vg d.functions/\ObjR fz vo all
 wf:WFT d.types
variable {all:List Param} {d:Domain} {p:Problem}
theorem CkG.mono (h:CkG fz v d p all) (hle:Le fz fz'):CkG fz' v d p all:=by
 obtain ⟨⟨vf,vp,vg,vo,h1,h2,h3,h4,h5⟩,hw⟩:=h;exact ⟨⟨vf,vp,vg,vo,h1.mono hle,h2.mono hle,h3.mono hle,h4.mono hle,h5.mono hle⟩,hw⟩
def YbI (d:Domain) (all vars:List Param) (z:Bs × Param):Int:=match YdV all vars z.1 with
 | none=>8
 | some t=>if IsT d.types t z.2.typ then 0 else 9
def YlN (d:Domain) (all vars:List Param) (args:List Bs) (ps:List Param):Int:=
 if args.length≠ps.length then 11 else (Xx (YbI d all vars) ((args.zip ps).map (fun z=>((⟨#[]⟩:Bs),z))++ [])).2
variable {A B:Option Addr} {c n:Nat} {vars:List Param}
set_option maxHeartbeats 1000000 in
theorem Yf6 {ps:List Param} {args:List Bs} {C:Option Addr} {n2 c2 n3 c3:Nat} (h:CkG fz v d p all) (h1:Sl paramL fz A n c vars) (h2:Sl strL fz B n2 c2 args) (h3:Sl paramL fz C n3 c3 ps):
 QFn prog 169 [v,.slice A n c,.slice B n2 c2,.slice C n3 c3] fz (errV (YlN d all vars args ps)):=by
 obtain ⟨⟨vf,vp,vg,vo,hck,hF,hPr,hFu,hO⟩,hw⟩:=h;have hck0:=hck;obtain ⟨gc,v1,v2,v3,v4,v5,v6,u1,u2,u3,u4,u5,u6,u7,Aa,na,ca,rfl,hc,hD,hP,hall⟩:=hck;have hF0:=hF;obtain ⟨gf,gm,rfl,hf1,hf2⟩:=hF;have l2:=h2.len;have l3:=h3.len;have s2:=h2.short;have s3:=h3.short;refine GFn.quiet ?_;refine zF Tryz.func169 Tryz.ntmps169 (fun w0=>?_);refine vC (fun e0=>?_) (fun e0=>?_)
 ·exact vR (h:=by rw [YlN,if_pos Zi];rfl)
 have e1:YlN d all vars args ps=(Xx (YbI d all vars) ((args.zip ps).map (fun z=>((⟨#[]⟩:Bs),z))++ [])).2:=if_neg Zi;refine zV ?_;refine Ym (fun q σ fz' H'=>∃ k:Nat,k<=n2/\q=n2 - k/\σ=[(21,Zk k),(20,Zk n2),(19,.slice B n2 c2),(0,Zp gc),(1,.slice A n c),(3,.slice C n3 c3)]/\fz=fz'/\H'=[]/\(∀ i,i<k->∀ z,(args.zip ps)[i]?=some z->YbI d all vars z=0)) ⟨0,Z0 _,rfl,rfl,rfl,rfl,fun i hi=>absurd hi Zi⟩ Zw Zb ?_;rintro q σ fz' H' ⟨k,hk,rfl,rfl,rfl,rfl,hh⟩;refine vC (fun c1=>?_) (fun c1=>?_)
 ·obtain ⟨x,hx⟩:=Yl (l:=args) (k:=k) Zi;obtain ⟨y,hy⟩:=Yl (l:=ps) (k:=k) Zi;have hz:(args.zip ps)[k]?=some (x,y):=by rw [List.getElem?_zip_eq_some];exact ⟨hx,hy⟩
  refine vI h2 hx (fun p1 hp1=>?_);refine zH hp1 (fun hxs=>?_);refine vc (find_q hck0 hO h1 hxs) ?_;cases hr:YdV all vars x with
  | none=>
   have e2:YbI d all vars (x,y)=8:=by rw [YbI,hr]
   rw [show YnB none=.tuple #[Ze,.iface 65 (Zk 8)] from rfl];exact vR (h:=by rw [e1,WE (f:=fun _=>(⟨#[]⟩:Bs)) (g:=fun z=>z) hz hh (by rw [e2];decide),e2];rfl)
  | some t=>
   have ht:Short t:=by
    rw [YdV] at hr;split at hr
    ·obtain ⟨q,hq,rfl⟩:=YiP hr;exact (YcB h1 q hq).2
    obtain ⟨q,hq,rfl⟩:=Yl8 hr;exact (YcB hall q hq).2
   rw [show YnB (some t)=.tuple #[.string t,.nilIface] from rfl];refine vI h3 hy (fun p2 hp2=>?_);refine vH hp2.Param_typ (fun hts=>?_);refine vb (is_q hF0 hw ht) (fun f1=>?_) (fun f1=>?_)
   ·have e2:YbI d all vars (x,y)=0:=by rw [YbI,hr];exact if_pos (Zt f1)
    exact vP (h:=by exact ⟨k+1,by omega,rfl,rfl,rfl,rfl,YL hh hz e2⟩)
   have e2:YbI d all vars (x,y)=9:=by rw [YbI,hr];exact if_neg (Zf f1)
   exact vR (h:=by rw [e1,WE (f:=fun _=>(⟨#[]⟩:Bs)) (g:=fun z=>z) hz hh (by rw [e2];decide),e2];rfl)
 have hA:∀ z∈args.zip ps,YbI d all vars z=0:=fun z hz=>by
  obtain ⟨i,hi⟩:=List.getElem?_of_mem hz;have:=(Zg hi).1;rw [List.length_zip] at this;exact hh i Zi z hi
 exact vR (h:=by rw [e1,Y8 (f:=fun _=>(⟨#[]⟩:Bs)) (g:=fun z=>z) hA];rfl)
def atomM (d:Domain) (all vars:List Param) (name:Bs) (args:List Bs):Int:=match fstP d.predicates name with
 | none=>8
 | some p=>YlN d all vars args p.params
def fluM (d:Domain) (all vars:List Param) (name:Bs) (args:List Bs):Int:=match fstF d.functions name with
 | none=>8
 | some f=>YlN d all vars args f.params
theorem Ykd {name:Bs} {args:List Bs} {n2 c2:Nat} (h:CkG fz v d p all) (h1:Sl paramL fz A n c vars) (h2:Sl strL fz B n2 c2 args):
 QFn prog 127 [v,.slice A n c,.string name,.slice B n2 c2] fz (errV (atomM d all vars name args)):=by
 have h0:=h;obtain ⟨⟨vf,vp,vg,vo,hck,hF,hPr,hFu,hO⟩,hw⟩:=h;obtain ⟨gc,v1,v2,v3,v4,v5,v6,u1,u2,u3,u4,u5,u6,u7,Aa,na,ca,rfl,hc,hD,hP,hall⟩:=hck;obtain ⟨gp,mp,rfl,hgp,hmp⟩:=hPr;refine GFn.quiet ?_;refine zF Tryz.func127 Tryz.ntmps127 (fun w0=>?_);refine zV ?_;cases hr:fstP d.predicates name with
 | none=>
  have hv:=(hmp name).1 hr;refine zG ?_;refine WC (v:=Zn) (b:=false) T Zz Zz Zz Zz Zz Zz Zz hgp (by rw [Yj4,hv];rfl) (by rw [YfE,hv];rfl) ?_;exact vR (h:=by rw [atomM,hr];rfl)
 | some x=>
  obtain ⟨C,n3,c3,hv,h3⟩:=(hmp name).2 x hr;refine zG ?_;refine WC (v:=.slice C n3 c3) (b:=true) T Zz Zz Zz Zz Zz Zz Zz hgp (by rw [Yj4,hv];rfl) (by rw [YfE,hv];rfl) ?_;refine vc (Yf6 h0 h1 h2 h3) ?_;exact vR (h:=by rw [atomM,hr])
theorem Yf3 {name:Bs} {args:List Bs} {n2 c2:Nat} (h:CkG fz v d p all) (h1:Sl paramL fz A n c vars) (h2:Sl strL fz B n2 c2 args):
 QFn prog 128 [v,.slice A n c,.string name,.slice B n2 c2] fz (errV (fluM d all vars name args)):=by
 have h0:=h;obtain ⟨⟨vf,vp,vg,vo,hck,hF,hPr,hFu,hO⟩,hw⟩:=h;obtain ⟨gc,v1,v2,v3,v4,v5,v6,u1,u2,u3,u4,u5,u6,u7,Aa,na,ca,rfl,hc,hD,hP,hall⟩:=hck;obtain ⟨gp,mp,rfl,hgp,hmp⟩:=hFu;refine GFn.quiet ?_;refine zF Tryz.func128 Tryz.ntmps128 (fun w0=>?_);refine zV ?_;cases hr:fstF d.functions name with
 | none=>
  have hv:=(hmp name).1 hr;refine zG ?_;refine WC (v:=.agg #[Ze,Zn,Zk 0,Zk 0]) (b:=false) T Zz Zz Zz Zz Zz Zz Zz hgp (by rw [Yj4,hv];rfl) (by rw [YfE,hv];rfl) ?_;refine zV ?_;intros;exact zR (h:=by rw [fluM,hr];rfl)
 | some x=>
  obtain ⟨C,n3,c3,hv,h3⟩:=(hmp name).2 x hr;refine zG ?_;refine WC (v:=.agg #[.string x.name,.slice C n3 c3,Zk x.lo,Zk x.hi]) (b:=true) T Zz Zz Zz Zz Zz Zz Zz hgp (by rw [Yj4,hv];rfl) (by rw [YfE,hv];rfl) ?_;refine zV ?_;intros;refine zc (Yf6 h0 h1 h2 h3) ?_;exact vR (h:=by rw [fluM,hr])
mutual
def exprM (d:Domain) (all vars:List Param):Lx.Expr->Int
 | .mk op name _ args kids=>if op=kFluent then fluM d all vars name args else exprML d all vars kids
def exprML (d:Domain) (all vars:List Param):List Lx.Expr->Int
 | []=>0
 | k::r=>if exprM d all vars k=0 then exprML d all vars r else exprM d all vars k
end
theorem Yla (e:Lx.Expr):exprM d all vars e=if e.op=kFluent then fluM d all vars e.name e.args else exprML d all vars e.kids:=by cases e;rw [exprM];rfl
theorem YfT {d:Domain} {all vars:List Param}:∀ {l:List Lx.Expr} {k:Nat} {x:Lx.Expr},l[k]?=some x->(∀ i,i<k->∀ y,l[i]?=some y->exprM d all vars y=0)->exprM d all vars x≠0->exprML d all vars l=exprM d all vars x
 | [],k,x,h,_,_=>by simp at h
 | y::l,0,x,h,_,hx=>by simp at h;subst h;rw [exprML,if_neg hx]
 | y::l,k+1,x,h,hh,hx=>by
  rw [exprML,if_pos (hh 0 Zi y rfl)];exact YfT (k:=k) (by simpa using h) (fun i hi z hz=>hh (i+1) Zi z (by simpa using hz)) hx
theorem Ydr {d:Domain} {all vars:List Param}:∀ {l:List Lx.Expr},(∀ y∈l,exprM d all vars y=0)->exprML d all vars l=0
 | [],_=>by rw [exprML]
 | y::l,h=>by rw [exprML,if_pos (h y (by simp))];exact Ydr (fun z hz=>h z (by simp [hz]))
set_option maxHeartbeats 1000000 in
theorem Yn7:∀ (s:Nat) {fz:FZ} {v:Value} {d:Domain} {p:Problem} {all vars:List Param} {e:Lx.Expr} {va vk:Value} {A:Option Addr} {n c:Nat},SizeOf.sizeOf e<=s->CkG fz v d p all->Sl paramL fz A n c vars->ExprR fz e va vk->
 QFn prog 166 [v,.slice A n c,.agg #[.string e.op,.string e.name,Zk e.n,va,vk]] fz (errV (exprM d all vars e))
 | 0,_,_,_,_,_,_,e,_,_,_,_,_,hse,_,_,_=>by cases e;simp at hse
 | s+1,fz,v,d,p,all,vars,e,va,vk,A,n,c,hse,h,h1,hR=>by
  have h0:=h;obtain ⟨⟨vf,vp,vg,vo,hck,hF,hPr,hFu,hO⟩,hw⟩:=h;obtain ⟨gc,v1,v2,v3,v4,v5,v6,u1,u2,u3,u4,u5,u6,u7,Aa,na,ca,rfl,hc,hD,hP,hall⟩:=hck;obtain ⟨B,n2,c2,rfl,ia⟩:=hR.args;obtain ⟨C,n3,c3,rfl,ik⟩:=hR.kids;have l3:=ik.len;have s3:=ik.short;refine GFn.quiet ?_;refine zF Tryz.func166 Tryz.ntmps166 (fun w0=>?_);refine Yj (Yq (Ya Zz (Xb _ Zz Zz (fun g0=>?_))));refine vC (fun x1=>?_) (fun x1=>?_)
  ·refine vc (Yf3 h0 h1 ia) ?_;exact vR (h:=by rw [Yla,if_pos (show e.op=kFluent from x1)])
  have e1:exprM d all vars e=exprML d all vars e.kids:=by rw [Yla,if_neg (show ¬e.op=kFluent from x1)]
  refine zV ?_;refine Ym (fun q σ fz' H'=>∃ k:Nat,k<=n3/\q=n3 - k/\σ=[(23,Zk k),(22,Zk n3),(21,.slice C n3 c3),(0,Zp gc),(1,.slice A n c)]/\fz=fz'/\H'=[]/\(∀ i,i<k->∀ y,e.kids[i]?=some y->exprM d all vars y=0)) ⟨0,Z0 _,rfl,rfl,rfl,rfl,fun i hi=>absurd hi Zi⟩ Zw Zb ?_;rintro q σ fz' H' ⟨k,hk,rfl,rfl,rfl,rfl,hh⟩;refine vC (fun c1=>?_) (fun c1=>?_)
  ·obtain ⟨x,hx⟩:=Yl (l:=e.kids) (k:=k) Zi;have hlt:=Lx.Expr.kids_lt (Zm hx);refine vI ik hx (fun p1 hp1=>?_);refine zL hp1 ?_;intro cs hcs;obtain ⟨wa,wk,rfl,hRx⟩:=YK hcs;obtain ⟨B1,m1,d1,rfl,_⟩:=hRx.args;obtain ⟨B2,m2,d2,rfl,_⟩:=hRx.kids;refine zV ?_;intros
   ((refine zG ?_);refine Yv Zz Zz (Yn7 s Zi h0 h1 hRx) ?_);by_cases hz:exprM d all vars x=0
   ·rw [hz,show errV 0=.nilIface from rfl];exact vP (h:=by exact ⟨k+1,by omega,rfl,rfl,rfl,rfl,YL hh hx hz⟩)
   rw [Yk hz];exact vR (h:=by rw [e1,YfT hx hh hz,Yk hz])
  have hA:=Xy hh Zi;exact vR (h:=by rw [e1,Ydr hA];rfl)
variable {va vk:Value}
theorem Yn6 {e:Lx.Expr} (h:CkG fz v d p all) (h1:Sl paramL fz A n c vars) (hR:ExprR fz e va vk):
 QFn prog 166 [v,.slice A n c,.agg #[.string e.op,.string e.name,Zk e.n,va,vk]] fz (errV (exprM d all vars e)):=Yn7 _ (Zs _) h h1 hR
theorem Ybc {l:List Param} (h:Sl paramL fz A n c l) (hn:n<=1000000000):
 GFn prog 60 [.slice A n c] fz [] (fun v fz' H'=>Grow paramL 110 fz' v n H' l):=by
 have l1:=h.len;refine zF Tryz.func60 Tryz.ntmps60 (fun w0=>?_);refine vG ?_;refine YbD T Zz Zz Zz Zz (fun eA=>?_) (fun eA=>?_)
 ·subst eA;have hl:l=[]:=by
   rcases h.elem with h0 | ⟨_,h0,_⟩
   ·exact List.eq_nil_of_length_eq_zero Zi
   cases h0
  subst hl;simp at l1;subst l1;refine zV ?_;refine YjD (H':=[]) (H2:=[]) rfl rfl (Zr _) (fun fz3 hle3 _=>Grow.nil _ _ _)
 refine zV ?_;refine Ya Zz (Yci T Zz Zz Zz (fun gb=>?_));refine zV ?_;refine Ya Zz (WX T (Hr:=[]) (n:=0) (l:=[]) Zz Zz Zz Zz Zz Zz Zz Zz (Zr _) (Grow.block (ys:=[]) rfl rfl (by intro p hp;cases hp) rfl Zh) WV h (by show _*32<=_;omega) Zi (fun v' Hs' hO'=>?_));obtain ⟨Av',cv',rfl,_,_⟩:=hO'.form;refine zV ?_;refine YjD (H':=Hs') (H2:=[]) rfl rfl (by simp) (fun fz3 hle3 _=>(hO'.mono hle3).of (by simp) Zi)
end Go.Proofs.YtfjopfinkdhmaaaGreatDoor
namespace Go.Lx
mutual
def eW:Expr->Nat
 | .mk _ _ _ args kids=>1+args.length+eWL kids
def eWL:List Expr->Nat
 | []=>0
 | k::r=>eW k+eWL r
end
mutual
def fW:Formula->Nat
 | .mk _ _ args params exprs kids=>1+args.length+params.length+eWL exprs+fWL kids
def fWL:List Formula->Nat
 | []=>0
 | k::r=>fW k+fWL r
end
theorem YnR (l:List Expr):eWL l=(l.map eW).sum:=by
 induction l with
 | nil=>rfl
 | cons a r ih=>simp [eWL,ih]
theorem fWL_sum (l:List Formula):fWL l=(l.map fW).sum:=by
 induction l with
 | nil=>rfl
 | cons a r ih=>simp [fWL,ih]
def parW (_:Param):Nat:=1
def strW (_:Bs):Nat:=1
def Yf5 (a:Atom):Nat:=1+a.args.length
def YeD (v:Value_):Nat:=1+Yf5 v.fluent
def XS (c:Change):Nat:=1+c.params.length+fW c.when_+c.args.length+eW c.value
def YiB (p:Predicate):Nat:=1+p.params.length
def funW (p:Function):Nat:=1+p.params.length
def actW (a:Action):Nat:=1+a.params.length+fW a.pre+(a.changes.map XS).sum
def durW (a:Durative):Nat:=1+a.params.length+fW a.start+fW a.over+fW a.fin+(a.atStart.map XS).sum+(a.atEnd.map XS).sum
def domW (d:Domain):Nat:=1+d.types.length+d.constants.length+(d.predicates.map YiB).sum+(d.functions.map funW).sum+(d.actions.map actW).sum+(d.duratives.map durW).sum
def prbW (p:Problem):Nat:=1+p.objects.length+(p.init.map Yf5).sum+(p.values.map YeD).sum+fW p.goal
theorem eW_eq (e:Expr):eW e=1+e.args.length+(e.kids.map eW).sum:=by cases e;rw [eW,YnR];rfl
theorem YlG (f:Formula):fW f=1+f.args.length+f.params.length+(f.exprs.map eW).sum+(f.kids.map fW).sum:=by cases f;rw [fW,YnR,fWL_sum];rfl
theorem Yaa (l:List Param):(l.map parW).sum=l.length:=by
 induction l with
 | nil=>rfl
 | cons a r ih=>simp [parW] at ih ⊢;omega
theorem W9 (l:List Bs):(l.map strW).sum=l.length:=by
 induction l with
 | nil=>rfl
 | cons a r ih=>simp [strW] at ih ⊢;omega
theorem Yaw {α:Type} {w:α->Nat}:∀ {l:List α} {x:α},x∈l->w x<=(l.map w).sum
 | [],_,h=>by cases h
 | a::r,x,h=>by
  simp only [List.map_cons,List.sum_cons];rcases List.mem_cons.1 h with rfl | h
  ·omega
  have:=Yaw (w:=w) h;omega
theorem Yax {α:Type} {w:α->Nat} (h:∀ x,1<=w x):∀ (l:List α),l.length<=(l.map w).sum
 | []=>by simp
 | a::r=>by
  have h1:=h a;have h2:=Yax h r;simp only [List.length_cons,List.map_cons,List.sum_cons];omega
theorem Yg3 {α:Type} {w:α->Nat} {n:α->Nat} {k:Nat} (h:∀ x,n x<=k*w x):∀ (l:List α),(l.map n).sum<=k*(l.map w).sum
 | []=>by simp
 | a::r=>by
  have h1:=h a;have h2:=Yg3 h r;simp only [List.map_cons,List.sum_cons,Nat.mul_add];omega
theorem fW_pos (f:Formula):1<=fW f:=by rw [YlG];omega
theorem Ykc (c:Change):1<=XS c:=by unfold XS;omega
theorem YiA (c:Predicate):1<=YiB c:=by unfold YiB;omega
theorem Yk1 (c:Function):1<=funW c:=by unfold funW;omega
theorem actW_pos (c:Action):1<=actW c:=by unfold actW;omega
theorem durW_pos (c:Durative):1<=durW c:=by unfold durW;omega
theorem Yji (c:Atom):1<=Yf5 c:=by unfold Yf5;omega
theorem Ygr (c:Value_):1<=YeD c:=by unfold YeD;omega
end Go.Lx
namespace Go.Proofs.YtfjopfinkdhmaaaGreatDoor
open Go.Lx Go.RowKit
attribute [local instance 10] Classical.propDecidable
open Go.Proofs.Tryz (prog)
def Yjl (op:Bs):Prop:=op=XL\/op=WJ
def ownM (d:Domain) (all vars:List Param) (op:Bs) (args:List Bs) (params:List Param):Int:=
 if op=kSame then (if ∀ a∈args,(YdV all vars a).isSome=true then 0 else 8)
 else if Yjl op then (if TwP [] (parN params) then 4 else if ExP d.types params then 0 else 3)
 else 0
def varsM (vars:List Param) (op:Bs) (params:List Param):List Param:=if op=kSame then vars else if Yjl op then vars++params else vars
mutual
def formM (d:Domain) (all:List Param):List Param->Formula->Int
 | vars,.mk op name args params exprs kids=>
  if op=kAtom then atomM d all vars name args
  else if ownM d all vars op args params≠0 then ownM d all vars op args params
  else if exprML d all (varsM vars op params) exprs≠0 then exprML d all (varsM vars op params) exprs
  else formML d all (varsM vars op params) kids
def formML (d:Domain) (all:List Param):List Param->List Formula->Int
 | _,[]=>0
 | vars,k::r=>if formM d all vars k=0 then formML d all vars r else formM d all vars k
end
variable {all vars:List Param} {d:Domain}
theorem YhF (f:Formula):formM d all vars f=if f.op=kAtom then atomM d all vars f.name f.args
 else if ownM d all vars f.op f.args f.params≠0 then ownM d all vars f.op f.args f.params
 else if exprML d all (varsM vars f.op f.params) f.exprs≠0 then exprML d all (varsM vars f.op f.params) f.exprs
 else formML d all (varsM vars f.op f.params) f.kids:=by cases f;rw [formM];rfl
theorem YiW {d:Domain} {all vars:List Param}:∀ {l:List Formula} {k:Nat} {x:Formula},l[k]?=some x->(∀ i,i<k->∀ y,l[i]?=some y->formM d all vars y=0)->formM d all vars x≠0->formML d all vars l=formM d all vars x
 | [],k,x,h,_,_=>by simp at h
 | y::l,0,x,h,_,hx=>by simp at h;subst h;rw [formML,if_neg hx]
 | y::l,k+1,x,h,hh,hx=>by
  rw [formML,if_pos (hh 0 Zi y rfl)];exact YiW (k:=k) (by simpa using h) (fun i hi z hz=>hh (i+1) Zi z (by simpa using hz)) hx
theorem YfM {d:Domain} {all vars:List Param}:∀ {l:List Formula},(∀ y∈l,formM d all vars y=0)->formML d all vars l=0
 | [],_=>by rw [formML]
 | y::l,h=>by rw [formML,if_pos (h y (by simp))];exact YfM (fun z hz=>h z (by simp [hz]))
variable {f:Formula}
theorem kids_w {k:Formula} (h:k∈f.kids):fW k+f.params.length<=fW f:=by
 have:=Yaw (w:=fW) h;rw [YlG f];omega
set_option maxHeartbeats 8000000 in
theorem Yn5:∀ (s:Nat) {fz:FZ} {v:Value} {d:Domain} {p:Problem} {all vars:List Param} {f:Formula} {va vp ve vk:Value} {A:Option Addr} {n c:Nat},SizeOf.sizeOf f<=s->CkG fz v d p all->Sl paramL fz A n c vars->FormulaR fz f va vp ve vk->n+fW f<=1000000000->
 QFn prog 124 [v,.slice A n c,.agg #[.string f.op,.string f.name,va,vp,ve,vk]] fz (errV (formM d all vars f))
 | 0,_,_,_,_,_,_,f,_,_,_,_,_,_,_,hse,_,_,_,_=>by cases f;simp at hse
 | s+1,fz,v,d,p,all,vars,f,va,vp,ve,vk,A,n,c,hse,h,h1,hR,hW=>by
  have h0:=h;obtain ⟨⟨vf,vpp,vg,vo,hck,hF,hPr,hFu,hO⟩,hw⟩:=h;have hck0:=hck;obtain ⟨gc,v1,v2,v3,v4,v5,v6,u1,u2,u3,u4,u5,u6,u7,Aa,na,ca,rfl,hc,hD,hP,hall⟩:=hck;obtain ⟨B1,m1,d1,rfl,ia⟩:=hR.args;obtain ⟨B2,m2,d2,rfl,ip⟩:=hR.params;obtain ⟨B3,m3,d3,rfl,ie⟩:=hR.exprs;obtain ⟨B4,m4,d4,rfl,ik⟩:=hR.kids;have l1:=ia.len;have l2:=ip.len;have l3:=ie.len;have l4:=ik.len;have ln:=h1.len;have s1:=ia.short;have s3:=ie.short;have s4:=ik.short;have hwp:f.params.length<=fW f:=by rw [YlG];omega
  refine GFn.quiet ?_;refine zF Tryz.func124 Tryz.ntmps124 (fun w0=>?_);refine Yj (Yq (Ya Zz (Xb _ Zz Zz (fun g0=>?_))));refine zWO ?_;by_cases hat:f.op=kAtom
  ·refine vc (Ykd h0 h1 ia) ?_;exact vR (h:=by rw [YhF,if_pos hat])
  have e1:formM d all vars f=if ownM d all vars f.op f.args f.params≠0 then ownM d all vars f.op f.args f.params else if exprML d all (varsM vars f.op f.params) f.exprs≠0 then exprML d all (varsM vars f.op f.params) f.exprs else formML d all (varsM vars f.op f.params) f.kids:=by rw [YhF,if_neg hat]
  refine zVX ?_;refine Yj (Wp.mid (fun σ fz' H'=>∃ (A':Option Addr) (n' c':Nat),σ=[(5,Zp g0),(0,Zp gc),(1,.slice A' n' c')]/\Le fz fz'/\H'=[(g0,.cells #[.string f.op,.string f.name,.slice B1 m1 d1,.slice B2 m2 d2,.slice B3 m3 d3,.slice B4 m4 d4] 38 (0,0))]/\Sl paramL fz' A' n' c' (varsM vars f.op f.params)/\n'<=n+f.params.length/\ownM d all vars f.op f.args f.params=0) ?_ ?_)
  ·refine zV ?_;by_cases hsa:f.op=kSame
   ·have e2:varsM vars f.op f.params=vars:=if_pos hsa;have e3:ownM d all vars f.op f.args f.params=if ∀ a∈f.args,(YdV all vars a).isSome=true then 0 else 8:=if_pos hsa
    refine zV ?_;refine Ym (fun q σ fz' H'=>∃ k:Nat,k<=m1/\q=m1 - k/\σ=[(35,Zk k),(34,Zk m1),(33,.slice B1 m1 d1),(5,Zp g0),(0,Zp gc),(1,.slice A n c)]/\fz=fz'/\H'=[(g0,.cells #[.string f.op,.string f.name,.slice B1 m1 d1,.slice B2 m2 d2,.slice B3 m3 d3,.slice B4 m4 d4] 38 (0,0))]/\(∀ i,i<k->∀ x,f.args[i]?=some x->(YdV all vars x).isSome=true)) ⟨0,Z0 _,rfl,rfl,rfl,rfl,fun i hi=>absurd hi Zi⟩ Zw Zb ?_;rintro q σ fz' H' ⟨k,hk,rfl,rfl,rfl,rfl,hh⟩;refine vC (fun c1=>?_) (fun c1=>?_)
    ·obtain ⟨x,hx⟩:=Yl (l:=f.args) (k:=k) Zi;refine vI ia hx (fun p1 hp1=>?_);refine zH hp1 (fun hxs=>?_);refine vc (find_q hck0 hO h1 hxs) ?_;cases hr:YdV all vars x with
     | none=>
      have e4:ownM d all vars f.op f.args f.params=8:=by rw [e3,if_neg];intro h9;have:=h9 x (Zm hx);rw [hr] at this;cases this
      rw [show YnB none=.tuple #[Ze,.iface 65 (Zk 8)] from rfl];exact vR (h:=by rw [e1,if_pos (by rw [e4];decide),e4];rfl)
     | some t=>
      rw [show YnB (some t)=.tuple #[.string t,.nilIface] from rfl];exact vP (h:=by exact ⟨k+1,by omega,rfl,rfl,rfl,rfl,YL (p:=fun x=>(YdV all vars x).isSome=true) hh hx (by rw [hr];rfl)⟩)
    have hA:=Xy hh Zi;exact vN (h:=by exact ⟨A,n,c,rfl,Le.refl _,rfl,by rw [e2];exact h1,by omega,by rw [e3,if_pos hA]⟩)
   have wf:¬f.op=kSame:=hsa;by_cases hq:Yjl f.op
   ·have e2:varsM vars f.op f.params=vars++f.params:=by rw [varsM,if_neg hsa,if_pos hq]
    have e3:ownM d all vars f.op f.args f.params=if TwP [] (parN f.params) then 4 else if ExP d.types f.params then 0 else 3:=by rw [ownM,if_neg hsa,if_pos hq]
    refine zVX ?_;refine Yj (Wp.mid (fun σ fz' H'=>σ=[(50,.bool true),(5,Zp g0),(0,Zp gc),(1,.slice A n c)]/\fz=fz'/\H'=[(g0,.cells #[.string f.op,.string f.name,.slice B1 m1 d1,.slice B2 m2 d2,.slice B3 m3 d3,.slice B4 m4 d4] 38 (0,0))]) ?_ ?_)
    ·rcases hq with w1 | w2
     ·exact vN (h:=by exact ⟨rfl,rfl,rfl⟩)
     have w1:¬f.op=XL:=by rw [w2];decide
     exact vN (h:=by exact ⟨rfl,rfl,rfl⟩)
    rintro σ fz1 H' ⟨rfl,rfl,rfl⟩;refine vG ?_;refine Yv Zz Zz (Yju ip (Sl.nil (A:=none) (c:=0) Zi)) ?_;rw [show parN ([]:List Param)=[] from rfl];by_cases ht:TwP [] (parN f.params)
    ·rw [if_pos ht,show errV 4=.iface 65 (Zk 4) from rfl];exact vR (h:=by rw [e1,e3,if_pos ht,if_pos Zh];rfl)
    rw [if_neg ht,show errV 0=.nilIface from rfl];refine vc (Yj3 hck0 hF ip) ?_;by_cases hx:ExP d.types f.params
    ·rw [if_pos hx,show errV 0=.nilIface from rfl];refine zV ?_;refine Wp.drawK (Hq:=[_]) T.mixed Zj Zj Zb ?_;refine zW ?_;refine Yf ?_;refine zW ?_;refine Yf ?_;refine Yf ?_;refine YM ⟨by kernel_rfl,?_⟩;refine Yt (Yx [] [_] Zz Zz Zz (Ybc h1 Zi) (fun v6 fz6 H6 hle6 hR6=>⟨(⟨hle6,Zx⟩),?_⟩));obtain ⟨Av,cv,rfl,_,_⟩:=hR6.form;refine Yt (WX T (Hr:=[_]) Zz Zz Zz Zz Zz Zz Zz Zz Zq hR6 WV (ip.mono hle6) (by show _*32<=_;omega) Zi (fun v7 H7 hO7=>⟨(⟨hle6,Zx⟩),?_⟩));obtain ⟨Aw,cw,rfl,_,_⟩:=hO7.form;refine Ch.qk (⟨hle6,Zx⟩) (YY Zz ?_);refine Ch.done ?_;refine zW ?_;exact midF (H':=[_]) (H2:=H7) (Zr _) (fun fz8 hle8 hf8=>by
      obtain ⟨A8,c8,e8,h8⟩:=hO7.sl hle8 hf8 Zi;injection e8 with e81 e82 e83
      subst e81;subst e83;exact ⟨Aw,_,cw,rfl,hle6.trans hle8,rfl,by rw [e2];exact h8,by omega,by rw [e3,if_neg ht,if_pos hx]⟩) Zw
    rw [if_neg hx,show errV 3=.iface 65 (Zk 3) from rfl];exact vR (h:=by rw [e1,e3,if_neg ht,if_neg hx,if_pos Zh];rfl)
   have w1:¬f.op=XL:=fun h=>hq (.inl h)
   have w2:¬f.op=WJ:=fun h=>hq (.inr h)
   have e2:varsM vars f.op f.params=vars:=by rw [varsM,if_neg hsa,if_neg hq]
   have e3:ownM d all vars f.op f.args f.params=0:=by rw [ownM,if_neg hsa,if_neg hq]
   exact vN (h:=by exact ⟨A,n,c,rfl,Le.refl _,rfl,by rw [e2];exact h1,by omega,e3⟩)
  rintro σ fz1 H' ⟨A',n',c',rfl,hle,rfl,h1',hn',ho0⟩;have e2:formM d all vars f=if exprML d all (varsM vars f.op f.params) f.exprs≠0 then exprML d all (varsM vars f.op f.params) f.exprs else formML d all (varsM vars f.op f.params) f.kids:=by rw [e1,if_neg (by rw [ho0];decide)]
  generalize hvs:varsM vars f.op f.params=vars' at h1' e2;have h0':=h0.mono hle;have ie':=ie.mono hle;have ik':=ik.mono hle;have hcg:=hle _ _ hc;refine zVX ?_;refine Yj (Wp.mid (fun σ fz' H'=>σ=[(5,Zp g0),(0,Zp gc),(1,.slice A' n' c')]/\fz1=fz'/\H'=[(g0,.cells #[.string f.op,.string f.name,.slice B1 m1 d1,.slice B2 m2 d2,.slice B3 m3 d3,.slice B4 m4 d4] 38 (0,0))]/\exprML d all vars' f.exprs=0) ?_ ?_)
  ·refine zV ?_;refine Ym (fun q σ fz' H'=>∃ k:Nat,k<=m3/\q=m3 - k/\σ=[(74,Zk k),(73,Zk m3),(72,.slice B3 m3 d3),(5,Zp g0),(0,Zp gc),(1,.slice A' n' c')]/\fz1=fz'/\H'=[(g0,.cells #[.string f.op,.string f.name,.slice B1 m1 d1,.slice B2 m2 d2,.slice B3 m3 d3,.slice B4 m4 d4] 38 (0,0))]/\(∀ i,i<k->∀ y,f.exprs[i]?=some y->exprM d all vars' y=0)) ⟨0,Z0 _,rfl,rfl,rfl,rfl,fun i hi=>absurd hi Zi⟩ Zw Zb ?_;rintro q σ fz' H' ⟨k,hk,rfl,rfl,rfl,rfl,hh⟩;refine vC (fun c1=>?_) (fun c1=>?_)
   ·obtain ⟨x,hx⟩:=Yl (l:=f.exprs) (k:=k) Zi;refine vI ie' hx (fun p1 hp1=>?_);refine zL hp1 ?_;intro cs hcs;obtain ⟨wa,wk,rfl,hRx⟩:=YK hcs;obtain ⟨E1,r1,q1,rfl,_⟩:=hRx.args;obtain ⟨E2,r2,q2,rfl,_⟩:=hRx.kids;refine zV ?_;intros;refine zc (Yn6 h0' h1' hRx) ?_;by_cases hz:exprM d all vars' x=0
    ·rw [hz,show errV 0=.nilIface from rfl];exact vP (h:=by exact ⟨k+1,by omega,rfl,rfl,rfl,rfl,YL hh hx hz⟩)
    rw [Yk hz];exact vR (h:=by rw [e2,YfT hx hh hz,if_pos hz,Yk hz])
   have hA:=Xy hh Zi;exact vN (h:=by exact ⟨rfl,rfl,rfl,Ydr hA⟩)
  rintro σ fz2 H' ⟨rfl,rfl,rfl,hez⟩;have e3:formM d all vars f=formML d all vars' f.kids:=by rw [e2,hez,if_neg Zh]
  refine zV ?_;refine Ym (fun q σ fz' H'=>∃ k:Nat,k<=m4/\q=m4 - k/\σ=[(89,Zk k),(88,Zk m4),(87,.slice B4 m4 d4),(0,Zp gc),(1,.slice A' n' c')]/\fz1=fz'/\H'=[]/\(∀ i,i<k->∀ y,f.kids[i]?=some y->formM d all vars' y=0)) ⟨0,Z0 _,rfl,rfl,rfl,rfl,fun i hi=>absurd hi Zi⟩ Zw Zb ?_;rintro q σ fz' H' ⟨k,hk,rfl,rfl,rfl,rfl,hh⟩;refine vC (fun c1=>?_) (fun c1=>?_)
  ·obtain ⟨x,hx⟩:=Yl (l:=f.kids) (k:=k) Zi;have hlt:=Lx.Formula.kids_lt (Zm hx);have hkw:=kids_w (Zm hx);refine vI ik' hx (fun p1 hp1=>?_);refine zL hp1 ?_;intro cs hcs;obtain ⟨wa,wp,we,wk,rfl,hRx⟩:=YA hcs;obtain ⟨E1,r1,q1,rfl,_⟩:=hRx.args;obtain ⟨E2,r2,q2,rfl,_⟩:=hRx.params;obtain ⟨E3,r3,q3,rfl,_⟩:=hRx.exprs;obtain ⟨E4,r4,q4,rfl,_⟩:=hRx.kids;refine zV ?_;intros
   ((refine zG ?_);refine Yv Zz Zz (Yn5 s Zi h0' h1' hRx Zi) ?_);by_cases hz:formM d all vars' x=0
   ·rw [hz,show errV 0=.nilIface from rfl];exact vP (h:=by exact ⟨k+1,by omega,rfl,rfl,rfl,rfl,YL hh hx hz⟩)
   rw [Yk hz];exact vR (h:=by rw [e3,YiW hx hh hz,Yk hz])
  have hA:=Xy hh Zi;exact vR (h:=by rw [e3,YfM hA];rfl)
variable {A:Option Addr} {c n:Nat} {fz:FZ} {p:Problem} {v va ve vk vp:Value}
theorem YhV (h:CkG fz v d p all) (h1:Sl paramL fz A n c vars) (hR:FormulaR fz f va vp ve vk) (hW:n+fW f<=1000000000):
 QFn prog 124 [v,.slice A n c,.agg #[.string f.op,.string f.name,va,vp,ve,vk]] fz (errV (formM d all vars f)):=Yn5 _ (Zs _) h h1 hR hW
theorem YfG {l:List Lx.Formula} {ff:FuncId} {cap:List Value} {p:Lx.Formula->Prop} [DecidablePred p] (h1:Sl YW fz A n c l) (hq:∀ x∈l,∀ cs,YW.rep fz x cs->QFn prog ff (.agg cs.toArray::cap) fz (.bool (decide (p x)))):
 QFn prog 161 [.slice A n c,.func (.func ff) #[] cap.toArray] fz (Zk (Wn p l 0)):=by
 refine GFn.quiet ?_;refine zF Tryz.func161 Tryz.ntmps161 (fun w0=>?_);have l1:=h1.len;have hm:=h1.short;refine zW ?_;refine Ym (fun q σ fz' H'=>∃ k:Nat,k<=n/\q=n - k/\σ=[(8,Zk k),(7,Zk n),(0,.slice A n c),(1,.func (.func ff) #[] cap.toArray)]/\fz=fz'/\H'=[]/\(∀ i,i<k->∀ x,l[i]?=some x->¬p x)) ⟨0,Z0 _,rfl,rfl,rfl,rfl,(fun i hi=>absurd hi Zi)⟩ Zw Zb ?_;rintro q σ fz' H' ⟨k,hk,rfl,rfl,rfl,rfl,hh⟩;refine wC (fun hlt=>?_) (fun hge=>?_)
 ·refine zW ?_;obtain ⟨x,hx⟩:=Yl (l:=l) (k:=k) Zi;refine zI h1 hx (fun a ha=>?_);refine zL ha ?_;intro cs hcs;refine wG ?_;refine Yab Zz Zz Zz (hq x (Zm hx) cs hcs) (fun c1=>?_) (fun c1=>?_)
  ·exact wR (h:=by rw [W8 hh hx c1,Int.zero_add])
  exact wP (h:=by exact ⟨k+1,by omega,rfl,rfl,rfl,rfl,(YL hh hx c1)⟩)
 exact wR (h:=by rw [Wu (Xy hh Zi)])
theorem Ybz {l:List Lx.Formula} {ff:FuncId} {cap:List Value} {p:Lx.Formula->Prop} [DecidablePred p] (h1:Sl YW fz A n c l) (hq:∀ x∈l,∀ cs,YW.rep fz x cs->QFn prog ff (.agg cs.toArray::cap) fz (.bool (decide (p x)))):
 QFn prog 113 [.slice A n c,.func (.func ff) #[] cap.toArray] fz (.bool (decide (∃ x∈l,p x))):=by
 refine GFn.quiet ?_;refine zF Tryz.func113 Tryz.ntmps113 (fun w0=>?_);refine wc (YfG h1 hq) ?_;refine zC (fun c1=>?_) (fun c1=>?_)
 ·exact wR (h:=by exact Yw ((Xt (Int.le_refl 0)).1 c1))
 exact wR (h:=by exact Yn (fun h=>c1 ((Xt (Int.le_refl 0)).2 h)))
theorem Ygk {l:List Lx.Change} {ff:FuncId} {cap:List Value} {p:Lx.Change->Prop} [DecidablePred p] (h1:Sl changeL fz A n c l) (hq:∀ x∈l,∀ cs,changeL.rep fz x cs->QFn prog ff (.agg cs.toArray::cap) fz (.bool (decide (p x)))):
 QFn prog 162 [.slice A n c,.func (.func ff) #[] cap.toArray] fz (Zk (Wn p l 0)):=by
 refine GFn.quiet ?_;refine zF Tryz.func162 Tryz.ntmps162 (fun w0=>?_);have l1:=h1.len;have hm:=h1.short;refine zW ?_;refine Ym (fun q σ fz' H'=>∃ k:Nat,k<=n/\q=n - k/\σ=[(8,Zk k),(7,Zk n),(0,.slice A n c),(1,.func (.func ff) #[] cap.toArray)]/\fz=fz'/\H'=[]/\(∀ i,i<k->∀ x,l[i]?=some x->¬p x)) ⟨0,Z0 _,rfl,rfl,rfl,rfl,(fun i hi=>absurd hi Zi)⟩ Zw Zb ?_;rintro q σ fz' H' ⟨k,hk,rfl,rfl,rfl,rfl,hh⟩;refine wC (fun hlt=>?_) (fun hge=>?_)
 ·refine zW ?_;obtain ⟨x,hx⟩:=Yl (l:=l) (k:=k) Zi;refine zI h1 hx (fun a ha=>?_);refine zL ha ?_;intro cs hcs;refine wG ?_;refine Yab Zz Zz Zz (hq x (Zm hx) cs hcs) (fun c1=>?_) (fun c1=>?_)
  ·exact wR (h:=by rw [W8 hh hx c1,Int.zero_add])
  exact wP (h:=by exact ⟨k+1,by omega,rfl,rfl,rfl,rfl,(YL hh hx c1)⟩)
 exact wR (h:=by rw [Wu (Xy hh Zi)])
theorem Yew {l:List Lx.Change} {ff:FuncId} {cap:List Value} {p:Lx.Change->Prop} [DecidablePred p] (h1:Sl changeL fz A n c l) (hq:∀ x∈l,∀ cs,changeL.rep fz x cs->QFn prog ff (.agg cs.toArray::cap) fz (.bool (decide (p x)))):
 QFn prog 117 [.slice A n c,.func (.func ff) #[] cap.toArray] fz (.bool (decide (∃ x∈l,p x))):=by
 refine GFn.quiet ?_;refine zF Tryz.func117 Tryz.ntmps117 (fun w0=>?_);refine wc (Ygk h1 hq) ?_;refine zC (fun c1=>?_) (fun c1=>?_)
 ·exact wR (h:=by exact Yw ((Xt (Int.le_refl 0)).1 c1))
 exact wR (h:=by exact Yn (fun h=>c1 ((Xt (Int.le_refl 0)).2 h)))
theorem Yeo {l:List Lx.Predicate} {ff:FuncId} {cap:List Value} {p:Lx.Predicate->Prop} [DecidablePred p] (h1:Sl predicateL fz A n c l) (hq:∀ x∈l,∀ cs,predicateL.rep fz x cs->QFn prog ff (.agg cs.toArray::cap) fz (.bool (decide (p x)))):
 QFn prog 114 [.slice A n c,.func (.func ff) #[] cap.toArray] fz (Zk (Wn p l 0)):=by
 refine GFn.quiet ?_;refine zF Tryz.func114 Tryz.ntmps114 (fun w0=>?_);have l1:=h1.len;have hm:=h1.short;refine zW ?_;refine Ym (fun q σ fz' H'=>∃ k:Nat,k<=n/\q=n - k/\σ=[(8,Zk k),(7,Zk n),(0,.slice A n c),(1,.func (.func ff) #[] cap.toArray)]/\fz=fz'/\H'=[]/\(∀ i,i<k->∀ x,l[i]?=some x->¬p x)) ⟨0,Z0 _,rfl,rfl,rfl,rfl,(fun i hi=>absurd hi Zi)⟩ Zw Zb ?_;rintro q σ fz' H' ⟨k,hk,rfl,rfl,rfl,rfl,hh⟩;refine wC (fun hlt=>?_) (fun hge=>?_)
 ·refine zW ?_;obtain ⟨x,hx⟩:=Yl (l:=l) (k:=k) Zi;refine zI h1 hx (fun a ha=>?_);refine zL ha ?_;intro cs hcs;refine wG ?_;refine Yab Zz Zz Zz (hq x (Zm hx) cs hcs) (fun c1=>?_) (fun c1=>?_)
  ·exact wR (h:=by rw [W8 hh hx c1,Int.zero_add])
  exact wP (h:=by exact ⟨k+1,by omega,rfl,rfl,rfl,rfl,(YL hh hx c1)⟩)
 exact wR (h:=by rw [Wu (Xy hh Zi)])
theorem Ydb {l:List Lx.Predicate} {ff:FuncId} {cap:List Value} {p:Lx.Predicate->Prop} [DecidablePred p] (h1:Sl predicateL fz A n c l) (hq:∀ x∈l,∀ cs,predicateL.rep fz x cs->QFn prog ff (.agg cs.toArray::cap) fz (.bool (decide (p x)))):
 QFn prog 63 [.slice A n c,.func (.func ff) #[] cap.toArray] fz (.bool (decide (∃ x∈l,p x))):=by
 refine GFn.quiet ?_;refine zF Tryz.func63 Tryz.ntmps63 (fun w0=>?_);refine wc (Yeo h1 hq) ?_;refine zC (fun c1=>?_) (fun c1=>?_)
 ·exact wR (h:=by exact Yw ((Xt (Int.le_refl 0)).1 c1))
 exact wR (h:=by exact Yn (fun h=>c1 ((Xt (Int.le_refl 0)).2 h)))
theorem YeU {l:List Lx.Function} {ff:FuncId} {cap:List Value} {p:Lx.Function->Prop} [DecidablePred p] (h1:Sl functionL fz A n c l) (hq:∀ x∈l,∀ cs,functionL.rep fz x cs->QFn prog ff (.agg cs.toArray::cap) fz (.bool (decide (p x)))):
 QFn prog 115 [.slice A n c,.func (.func ff) #[] cap.toArray] fz (Zk (Wn p l 0)):=by
 refine GFn.quiet ?_;refine zF Tryz.func115 Tryz.ntmps115 (fun w0=>?_);have l1:=h1.len;have hm:=h1.short;refine zW ?_;refine Ym (fun q σ fz' H'=>∃ k:Nat,k<=n/\q=n - k/\σ=[(8,Zk k),(7,Zk n),(0,.slice A n c),(1,.func (.func ff) #[] cap.toArray)]/\fz=fz'/\H'=[]/\(∀ i,i<k->∀ x,l[i]?=some x->¬p x)) ⟨0,Z0 _,rfl,rfl,rfl,rfl,(fun i hi=>absurd hi Zi)⟩ Zw Zb ?_;rintro q σ fz' H' ⟨k,hk,rfl,rfl,rfl,rfl,hh⟩;refine wC (fun hlt=>?_) (fun hge=>?_)
 ·refine zW ?_;obtain ⟨x,hx⟩:=Yl (l:=l) (k:=k) Zi;refine zI h1 hx (fun a ha=>?_);refine zL ha ?_;intro cs hcs;refine wG ?_;refine Yab Zz Zz Zz (hq x (Zm hx) cs hcs) (fun c1=>?_) (fun c1=>?_)
  ·exact wR (h:=by rw [W8 hh hx c1,Int.zero_add])
  exact wP (h:=by exact ⟨k+1,by omega,rfl,rfl,rfl,rfl,(YL hh hx c1)⟩)
 exact wR (h:=by rw [Wu (Xy hh Zi)])
theorem Ydt {l:List Lx.Function} {ff:FuncId} {cap:List Value} {p:Lx.Function->Prop} [DecidablePred p] (h1:Sl functionL fz A n c l) (hq:∀ x∈l,∀ cs,functionL.rep fz x cs->QFn prog ff (.agg cs.toArray::cap) fz (.bool (decide (p x)))):
 QFn prog 65 [.slice A n c,.func (.func ff) #[] cap.toArray] fz (.bool (decide (∃ x∈l,p x))):=by
 refine GFn.quiet ?_;refine zF Tryz.func65 Tryz.ntmps65 (fun w0=>?_);refine wc (YeU h1 hq) ?_;refine zC (fun c1=>?_) (fun c1=>?_)
 ·exact wR (h:=by exact Yw ((Xt (Int.le_refl 0)).1 c1))
 exact wR (h:=by exact Yn (fun h=>c1 ((Xt (Int.le_refl 0)).2 h)))
theorem Ygl {l:List Lx.Action} {ff:FuncId} {cap:List Value} {p:Lx.Action->Prop} [DecidablePred p] (h1:Sl actionL fz A n c l) (hq:∀ x∈l,∀ cs,actionL.rep fz x cs->QFn prog ff (.agg cs.toArray::cap) fz (.bool (decide (p x)))):
 QFn prog 116 [.slice A n c,.func (.func ff) #[] cap.toArray] fz (Zk (Wn p l 0)):=by
 refine GFn.quiet ?_;refine zF Tryz.func116 Tryz.ntmps116 (fun w0=>?_);have l1:=h1.len;have hm:=h1.short;refine zW ?_;refine Ym (fun q σ fz' H'=>∃ k:Nat,k<=n/\q=n - k/\σ=[(8,Zk k),(7,Zk n),(0,.slice A n c),(1,.func (.func ff) #[] cap.toArray)]/\fz=fz'/\H'=[]/\(∀ i,i<k->∀ x,l[i]?=some x->¬p x)) ⟨0,Z0 _,rfl,rfl,rfl,rfl,(fun i hi=>absurd hi Zi)⟩ Zw Zb ?_;rintro q σ fz' H' ⟨k,hk,rfl,rfl,rfl,rfl,hh⟩;refine wC (fun hlt=>?_) (fun hge=>?_)
 ·refine zW ?_;obtain ⟨x,hx⟩:=Yl (l:=l) (k:=k) Zi;refine zI h1 hx (fun a ha=>?_);refine zL ha ?_;intro cs hcs;refine wG ?_;refine Yab Zz Zz Zz (hq x (Zm hx) cs hcs) (fun c1=>?_) (fun c1=>?_)
  ·exact wR (h:=by rw [W8 hh hx c1,Int.zero_add])
  exact wP (h:=by exact ⟨k+1,by omega,rfl,rfl,rfl,rfl,(YL hh hx c1)⟩)
 exact wR (h:=by rw [Wu (Xy hh Zi)])
theorem Yex {l:List Lx.Action} {ff:FuncId} {cap:List Value} {p:Lx.Action->Prop} [DecidablePred p] (h1:Sl actionL fz A n c l) (hq:∀ x∈l,∀ cs,actionL.rep fz x cs->QFn prog ff (.agg cs.toArray::cap) fz (.bool (decide (p x)))):
 QFn prog 67 [.slice A n c,.func (.func ff) #[] cap.toArray] fz (.bool (decide (∃ x∈l,p x))):=by
 refine GFn.quiet ?_;refine zF Tryz.func67 Tryz.ntmps67 (fun w0=>?_);refine wc (Ygl h1 hq) ?_;refine zC (fun c1=>?_) (fun c1=>?_)
 ·exact wR (h:=by exact Yw ((Xt (Int.le_refl 0)).1 c1))
 exact wR (h:=by exact Yn (fun h=>c1 ((Xt (Int.le_refl 0)).2 h)))
theorem YeV {l:List Lx.Durative} {ff:FuncId} {cap:List Value} {p:Lx.Durative->Prop} [DecidablePred p] (h1:Sl durativeL fz A n c l) (hq:∀ x∈l,∀ cs,durativeL.rep fz x cs->QFn prog ff (.agg cs.toArray::cap) fz (.bool (decide (p x)))):
 QFn prog 119 [.slice A n c,.func (.func ff) #[] cap.toArray] fz (Zk (Wn p l 0)):=by
 refine GFn.quiet ?_;refine zF Tryz.func119 Tryz.ntmps119 (fun w0=>?_);have l1:=h1.len;have hm:=h1.short;refine zW ?_;refine Ym (fun q σ fz' H'=>∃ k:Nat,k<=n/\q=n - k/\σ=[(8,Zk k),(7,Zk n),(0,.slice A n c),(1,.func (.func ff) #[] cap.toArray)]/\fz=fz'/\H'=[]/\(∀ i,i<k->∀ x,l[i]?=some x->¬p x)) ⟨0,Z0 _,rfl,rfl,rfl,rfl,(fun i hi=>absurd hi Zi)⟩ Zw Zb ?_;rintro q σ fz' H' ⟨k,hk,rfl,rfl,rfl,rfl,hh⟩;refine wC (fun hlt=>?_) (fun hge=>?_)
 ·refine zW ?_;obtain ⟨x,hx⟩:=Yl (l:=l) (k:=k) Zi;refine zI h1 hx (fun a ha=>?_);refine zL ha ?_;intro cs hcs;refine wG ?_;refine Yab Zz Zz Zz (hq x (Zm hx) cs hcs) (fun c1=>?_) (fun c1=>?_)
  ·exact wR (h:=by rw [W8 hh hx c1,Int.zero_add])
  exact wP (h:=by exact ⟨k+1,by omega,rfl,rfl,rfl,rfl,(YL hh hx c1)⟩)
 exact wR (h:=by rw [Wu (Xy hh Zi)])
theorem Ydu {l:List Lx.Durative} {ff:FuncId} {cap:List Value} {p:Lx.Durative->Prop} [DecidablePred p] (h1:Sl durativeL fz A n c l) (hq:∀ x∈l,∀ cs,durativeL.rep fz x cs->QFn prog ff (.agg cs.toArray::cap) fz (.bool (decide (p x)))):
 QFn prog 70 [.slice A n c,.func (.func ff) #[] cap.toArray] fz (.bool (decide (∃ x∈l,p x))):=by
 refine GFn.quiet ?_;refine zF Tryz.func70 Tryz.ntmps70 (fun w0=>?_);refine wc (YeV h1 hq) ?_;refine zC (fun c1=>?_) (fun c1=>?_)
 ·exact wR (h:=by exact Yw ((Xt (Int.le_refl 0)).1 c1))
 exact wR (h:=by exact Yn (fun h=>c1 ((Xt (Int.le_refl 0)).2 h)))
def LtP (f:Formula):Prop:=f.op=kAtom\/f.op=kSame
mutual
/-- a conjunction of literals -/
def LitP:Formula->Prop
 | .mk op _ _ _ _ kids=>(op=kNot/\∃ k,kids=[k]/\LtP k)\/(op=kAnd/\LitPL kids)\/op=kAtom\/op=kSame
def LitPL:List Formula->Prop
 | []=>True
 | k::r=>LitP k/\LitPL r
end
theorem YiO:∀ {l:List Formula},LitPL l↔∀ x∈l,LitP x
 | []=>by simp [LitPL]
 | k::r=>by rw [LitPL,YiO (l:=r)];simp
theorem YjQ (f:Formula):LitP f↔(f.op=kNot/\∃ k,f.kids=[k]/\LtP k)\/(f.op=kAnd/\∀ x∈f.kids,LitP x)\/LtP f:=by cases f;rw [LitP,YiO];rfl
theorem litP_not (h:f.op=kNot):LitP f↔∃ k,f.kids=[k]/\LtP k:=by
 rw [YjQ];constructor
 ·rintro (h1 | h1 | h1)
  ·exact h1.2
  ·rw [h] at h1;exact absurd h1.1 Zh
  unfold LtP at h1;rw [h] at h1;exact absurd h1 Zh
 intro h1;exact .inl ⟨h,h1⟩
theorem litP_and (h:f.op=kAnd):LitP f↔∀ x∈f.kids,LitP x:=by
 rw [YjQ];constructor
 ·rintro (h1 | h1 | h1)
  ·rw [h] at h1;exact absurd h1.1 Zh
  ·exact h1.2
  unfold LtP at h1;rw [h] at h1;exact absurd h1 Zh
 intro h1;exact .inr (.inl ⟨h,h1⟩)
theorem litP_oth (h1:¬f.op=kNot) (h2:¬f.op=kAnd):LitP f↔LtP f:=by
 rw [YjQ];exact ⟨fun h=>h.elim (fun h=>absurd h.1 h1) (fun h=>h.elim (fun h=>absurd h.1 h2) id),fun h=>.inr (.inr h)⟩
theorem lt1_q (hR:FormulaR fz f va vp ve vk):
 QFn prog 199 [.agg #[.string f.op,.string f.name,va,vp,ve,vk]] fz (.bool (decide (LtP f))):=by
 refine GFn.quiet ?_;refine zF Tryz.func199 Tryz.ntmps199 (fun w0=>?_);refine Yj (Yq (Ya Zz (Xb _ Zz Zz (fun g0=>?_))));refine vC (fun x1=>?_) (fun x1=>?_)
 ·exact vR (h:=by exact Yw (.inl x1))
 refine vC (fun x2=>?_) (fun x2=>?_)
 ·exact vR (h:=by exact Yw (.inr x2))
 exact vR (h:=by exact Yn (fun h=>h.elim x1 x2))
theorem lit2_q (h:QFn prog 168 [.agg #[.string f.op,.string f.name,va,vp,ve,vk]] fz (.bool (decide (LitP f)))):
 QFn prog 200 [.agg #[.string f.op,.string f.name,va,vp,ve,vk]] fz (.bool (decide (¬LitP f))):=by
 refine GFn.quiet ?_;refine zF Tryz.func200 Tryz.ntmps200 (fun w0=>?_);refine Yj (Yq (Ya Zz (Xb _ Zz Zz (fun g1=>?_))));refine vc h ?_;exact vR (h:=by rw [decide_not])
theorem lit_f:∀ (s:Nat) {fz:FZ} {f:Formula} {va vp ve vk:Value},SizeOf.sizeOf f<=s->FormulaR fz f va vp ve vk->
 QFn prog 168 [.agg #[.string f.op,.string f.name,va,vp,ve,vk]] fz (.bool (decide (LitP f)))
 | 0,_,f,_,_,_,_,hse,_=>by cases f;simp at hse
 | s+1,fz,f,va,vp,ve,vk,hse,hR=>by
  have hR0:=hR;obtain ⟨B1,m1,d1,rfl,ia⟩:=hR.args;obtain ⟨B2,m2,d2,rfl,ip⟩:=hR.params;obtain ⟨B3,m3,d3,rfl,ie⟩:=hR.exprs;obtain ⟨B4,m4,d4,rfl,ik⟩:=hR.kids;have l4:=ik.len;refine GFn.quiet ?_;refine zF Tryz.func168 Tryz.ntmps168 (fun w0=>?_);refine Yj (Yq (Ya Zz (Xb _ Zz Zz (fun g0=>?_))));refine zWO ?_;by_cases hno:f.op=kNot
  ·have w:=litP_not hno;refine vC (fun x1=>?_) (fun x1=>?_)
   ·have h1:f.kids.length=1:=by omega
    obtain ⟨k,hk⟩:∃ k,f.kids=[k]:=by
     match hkk:f.kids,h1 with
     | [k],_=>exact ⟨k,rfl⟩
    refine vG ?_;refine YaU T 0 Zz Zz Zz Zz Zz Zz ik (by first | rfl | omega) (by rw [hk];rfl:f.kids[0]?=some k) (fun p1 hp1=>?_);refine zL hp1 ?_;intro cs hcs;obtain ⟨wa,wp,we,wk,rfl,hRx⟩:=YA hcs;refine vv (lt1_q hRx) ?_;refine zV ?_
    (exact ret1 rfl rfl Zb (by
     by_cases hl:LtP k
     ·rw [decide_eq_true hl,decide_eq_true (w.2 ⟨k,hk,hl⟩)]
     rw [decide_eq_false hl,decide_eq_false (fun h=>by obtain ⟨k',hk',hl'⟩:=w.1 h;rw [hk] at hk';injection hk' with hk';subst hk';exact hl hl')]))
   exact vR (h:=by exact Yn (fun h=>by obtain ⟨k,hk,_⟩:=w.1 h;rw [hk] at l4;simp at l4;exact x1 Zi))
  by_cases han:f.op=kAnd
  ·have w:=litP_and han;refine zV ?_
   ((refine zG ?_);refine Yv Zz Zz (Ybz (cap:=[]) (p:=fun k=>¬LitP k) ik (fun x hx cs hcs=>by
    obtain ⟨wa,wp,we,wk,rfl,hRx⟩:=YA hcs;exact lit2_q (lit_f s (by have:=Lx.Formula.kids_lt hx;omega) hRx))) ?_)
   refine zV ?_
   (exact ret1 rfl rfl Zb (by
    by_cases hl:∀ x∈f.kids,LitP x
    ·rw [decide_eq_true (w.2 hl),decide_eq_false (fun ⟨x,hx,h0⟩=>h0 (hl x hx))];rfl
    rw [decide_eq_false (fun h=>hl (w.1 h)),decide_eq_true (by simpa using hl)];rfl))
  have w:=litP_oth hno han;refine vv (lt1_q hR0) ?_;refine zV ?_
  (exact ret1 rfl rfl Zb (by
   by_cases hl:LtP f
   ·rw [decide_eq_true hl,decide_eq_true (w.2 hl)]
   rw [decide_eq_false hl,decide_eq_false (fun h=>hl (w.1 h))]))
theorem lit_q (hR:FormulaR fz f va vp ve vk):
 QFn prog 168 [.agg #[.string f.op,.string f.name,va,vp,ve,vk]] fz (.bool (decide (LitP f))):=lit_f _ (Zs _) hR
def YbH (d:Domain) (all vars:List Param) (f:Formula):Int:=if LitP f then formM d all vars f else 2
theorem Yf1 (h:CkG fz v d p all) (h1:Sl paramL fz A n c vars) (hR:FormulaR fz f va vp ve vk) (hW:n+fW f<=1000000000):
 QFn prog 126 [v,.slice A n c,.agg #[.string f.op,.string f.name,va,vp,ve,vk]] fz (errV (YbH d all vars f)):=by
 refine GFn.quiet ?_;refine zF Tryz.func126 Tryz.ntmps126 (fun w0=>?_);refine Yj (Yq (Ya Zz (Xb _ Zz Zz (fun g0=>?_))));refine vb (lit_q hR) (fun f1=>?_) (fun f1=>?_)
 ·refine vc (YhV h h1 hR hW) ?_;exact vR (h:=by rw [YbH,if_pos (Zt f1)])
 exact vR (h:=by rw [YbH,if_neg (Zf f1)];rfl)
def Yjn (x:Change):Prop:=x.params=[]/\x.when_=Y5
def NumC (x:Change):Prop:=x.kind≠1/\x.kind≠2
def YbJ (d:Domain) (all vars:List Param) (x:Change) (du:Bool):Int:=
 if ¬Yjn x/\(NumC x\/du=true) then 6
 else if TwP (parN vars) (parN x.params) then 4
 else if ¬ExP d.types x.params then 3
 else if formM d all (vars++x.params) x.when_≠0 then formM d all (vars++x.params) x.when_
 else if ¬NumC x then atomM d all (vars++x.params) x.name x.args
 else if fluM d all (vars++x.params) x.name x.args≠0 then fluM d all (vars++x.params) x.name x.args
 else exprM d all (vars++x.params) x.value
theorem changeM1 {x:Change} {du:Bool} (h1:¬(¬Yjn x/\(NumC x\/du=true))) (h2:¬TwP (parN vars) (parN x.params)) (h3:ExP d.types x.params):
 YbJ d all vars x du=if formM d all (vars++x.params) x.when_≠0 then formM d all (vars++x.params) x.when_
  else if ¬NumC x then atomM d all (vars++x.params) x.name x.args
  else if fluM d all (vars++x.params) x.name x.args≠0 then fluM d all (vars++x.params) x.name x.args
  else exprM d all (vars++x.params) x.value:=by rw [YbJ,if_neg h1,if_neg h2,if_neg (by simpa using h3)]
variable {cs:List Value}
set_option maxHeartbeats 4000000 in
theorem Yn8 {x:Change} {du:Bool} (h:CkG fz v d p all) (h1:Sl paramL fz A n c vars) (hRc:changeL.rep fz x cs) (hW:n+XS x<=1000000000):
 QFn prog 167 [v,.slice A n c,.agg cs.toArray,.bool du] fz (errV (YbJ d all vars x du)):=by
 have h0:=h;obtain ⟨⟨vf,vpp,vg,vo,hck,hF,hPr,hFu,hO⟩,hw⟩:=h;have hck0:=hck;obtain ⟨gc,w1,w2,w3,w4,w5,w6,u1,u2,u3,u4,u5,u6,u7,Aa,na,ca,rfl,hc,hD,hP,hall⟩:=hck;obtain ⟨v1,v2,v3,v4,v5,v6,v7,v8,rfl,hR⟩:=Xj hRc;obtain ⟨A1,n1,b1,rfl,ip⟩:=hR.params;have hwh:=hR.when_;have hva:=hR.value;obtain ⟨A2,n2,b2,rfl,_⟩:=hR.when_.args;obtain ⟨A3,n3,b3,rfl,_⟩:=hR.when_.params;obtain ⟨A4,n4,b4,rfl,_⟩:=hR.when_.exprs;obtain ⟨A5,n5,b5,rfl,_⟩:=hR.when_.kids;obtain ⟨A6,n6,b6,rfl,ia⟩:=hR.args;obtain ⟨A7,n7,b7,rfl,_⟩:=hR.value.args;obtain ⟨A8,n8,b8,rfl,_⟩:=hR.value.kids;have l1:=ip.len;have ln:=h1.len;have hWp:n+x.params.length+fW x.when_<=1000000000:=by unfold XS at hW;omega
 refine GFn.quiet ?_;refine zF Tryz.func167 Tryz.ntmps167 (fun w0=>?_);refine Yj (Yq (Ya Zz (Xb _ Zz Zz (fun g0=>?_))));refine zWO ?_;refine Yj (Wp.mid (fun σ fz' H'=>∃ bb:Bool,σ=[(9,.bool bb),(6,Zp g0),(0,Zp gc),(1,.slice A n c),(3,.bool du)]/\fz=fz'/\H'=[(g0,.cells #[Zk x.kind,.slice A1 n1 b1,.string x.when_.op,.string x.when_.name,.slice A2 n2 b2,.slice A3 n3 b3,.slice A4 n4 b4,.slice A5 n5 b5,.string x.name,.slice A6 n6 b6,.string x.value.op,.string x.value.name,Zk x.value.n,.slice A7 n7 b7,.slice A8 n8 b8] 123 (0,0))]/\(bb=true↔Yjn x)) ?_ ?_)
 ·refine vC (fun x1=>?_) (fun x1=>?_)
  ·have hnil:x.params=[]:=List.eq_nil_of_length_eq_zero Zi;refine vG ?_;refine Yo (vs:=[.string x.when_.op,.string x.when_.name,.slice A2 n2 b2,.slice A3 n3 b3,.slice A4 n4 b4,.slice A5 n5 b5]) T 0 Zz Zz Zz Zz Zz Zz ?_;refine vb (Yfl hwh Ycw) (fun f1=>?_) (fun f1=>?_)
   ·exact vN (h:=by exact ⟨true,rfl,rfl,rfl,iff_of_true rfl ⟨hnil,Zt f1⟩⟩)
   exact vN (h:=by exact ⟨false,rfl,rfl,rfl,iff_of_false (by simp) (fun h=>Zf f1 h.2)⟩)
  exact vN (h:=by exact ⟨false,rfl,rfl,rfl,iff_of_false (by simp) (fun h=>x1 (by rw [h.1] at l1;simp at l1;omega))⟩)
 rintro σ fz' H' ⟨bb,rfl,rfl,rfl,hbb⟩;refine Yj (Wp.mid (fun σ fz' H'=>∃ nn:Bool,σ=[(10,.bool nn),(9,.bool bb),(6,Zp g0),(0,Zp gc),(1,.slice A n c),(3,.bool du)]/\fz=fz'/\H'=[(g0,.cells #[Zk x.kind,.slice A1 n1 b1,.string x.when_.op,.string x.when_.name,.slice A2 n2 b2,.slice A3 n3 b3,.slice A4 n4 b4,.slice A5 n5 b5,.string x.name,.slice A6 n6 b6,.string x.value.op,.string x.value.name,Zk x.value.n,.slice A7 n7 b7,.slice A8 n8 b8] 123 (0,0))]/\(nn=true↔NumC x)) ?_ ?_)
 ·refine vC (fun x1=>?_) (fun x1=>?_)
  ·refine vC (fun x2=>?_) (fun x2=>?_)
   ·exact vN (h:=by exact ⟨true,rfl,rfl,rfl,iff_of_true rfl ⟨x1,x2⟩⟩)
   exact vN (h:=by exact ⟨false,rfl,rfl,rfl,iff_of_false (by simp) (fun h=>h.2 Zi)⟩)
  exact vN (h:=by exact ⟨false,rfl,rfl,rfl,iff_of_false (by simp) (fun h=>h.1 Zi)⟩)
 rintro σ fz' H' ⟨nn,rfl,rfl,rfl,hnn⟩;by_cases hbad:¬Yjn x/\(NumC x\/du=true)
 ·have e1:YbJ d all vars x du=6:=if_pos hbad;obtain rfl:bb=false:=by cases bb with | false=>rfl | true=>exact absurd (hbb.1 rfl) hbad.1
  cases nn with
  | true=>
   exact vR (h:=by rw [e1];rfl)
  | false=>
   obtain rfl:du=true:=hbad.2.elim (fun h=>by have:=hnn.2 h;cases this) id;exact vR (h:=by rw [e1];rfl)
 refine Yj (Wp.mid (fun σ fz' H'=>σ=[(10,.bool nn),(6,Zp g0),(0,Zp gc),(1,.slice A n c)]/\fz=fz'/\H'=[(g0,.cells #[Zk x.kind,.slice A1 n1 b1,.string x.when_.op,.string x.when_.name,.slice A2 n2 b2,.slice A3 n3 b3,.slice A4 n4 b4,.slice A5 n5 b5,.string x.name,.slice A6 n6 b6,.string x.value.op,.string x.value.name,Zk x.value.n,.slice A7 n7 b7,.slice A8 n8 b8] 123 (0,0))]) ?_ ?_)
 ·cases bb with
  | true=>
   exact vN (h:=by exact ⟨rfl,rfl,rfl⟩)
  | false=>
   have hp:¬Yjn x:=fun h=>by have:=hbb.2 h;cases this
   obtain rfl:nn=false:=by cases nn with | false=>rfl | true=>exact absurd ⟨hp,.inl (hnn.1 rfl)⟩ hbad
   obtain rfl:du=false:=by cases du with | false=>rfl | true=>exact absurd ⟨hp,.inr rfl⟩ hbad
   exact vN (h:=by exact ⟨rfl,rfl,rfl⟩)
 rintro σ fz' H' ⟨rfl,rfl,rfl⟩;refine vc (Yju ip h1) ?_;by_cases ht:TwP (parN vars) (parN x.params)
 ·rw [if_pos ht,show errV 4=.iface 65 (Zk 4) from rfl];exact vR (h:=by rw [YbJ,if_neg hbad,if_pos ht];rfl)
 rw [if_neg ht,show errV 0=.nilIface from rfl];refine vc (Yj3 hck0 hF ip) ?_;by_cases hx:ExP d.types x.params
 ·have e1:=changeM1 (all:=all) (du:=du) hbad ht hx;rw [if_pos hx,show errV 0=.nilIface from rfl];refine zV ?_;refine Wp.drawK (Hq:=[_]) T.mixed Zj Zj Zb ?_;refine zW ?_;refine Yf ?_;refine zW ?_;refine Yf ?_;refine Yf ?_;refine YM ⟨by kernel_rfl,?_⟩;refine Yt (Yx [] [_] Zz Zz Zz (Ybc h1 Zi) (fun v6 fz6 H6 hle6 hR6=>⟨(⟨hle6,Zx⟩),?_⟩));obtain ⟨Av,cv,rfl,_,_⟩:=hR6.form;refine Yt (WX T (Hr:=[_]) Zz Zz Zz Zz Zz Zz Zz Zz Zq hR6 WV (ip.mono hle6) (by show _*32<=_;omega) Zi (fun v7 H7 hO7=>⟨(⟨hle6,Zx⟩),?_⟩));obtain ⟨Aw,cw,rfl,_,_⟩:=hO7.form;refine Ch.qk (⟨hle6,Zx⟩) (YY Zz ?_);refine Ch.done ?_;refine YdD ?_;refine Wp.freezeAll (H1:=[_]) (H2:=H7) (Zr _) (fun fz8 hle8 hf8=>?_);obtain ⟨A8,c8,e8,h8⟩:=hO7.sl hle8 hf8 Zi;injection e8 with e81 e82 e83
  subst e81;subst e83;have hle:=hle6.trans hle8;have h0':=h0.mono hle;have ia':=ia.mono hle;have hwh':=hwh.mono hle;have hva':=hva.mono hle;have hcg:=hle _ _ hc;refine vG ?_;refine Yo (vs:=[.string x.when_.op,.string x.when_.name,.slice A2 n2 b2,.slice A3 n3 b3,.slice A4 n4 b4,.slice A5 n5 b5]) T 0 Zz Zz Zz Zz Zz Zz ?_;refine vG ?_;refine Yv Zz Zz (YhV h0' h8 hwh' Zi) ?_;by_cases hz:formM d all (vars++x.params) x.when_=0
  ·have e2:=e1;rw [hz,if_neg Zh] at e2;rw [hz,show errV 0=.nilIface from rfl];cases nn with
   | false=>
    have hn:¬NumC x:=fun h=>by have:=hnn.2 h;cases this
    refine vc (Ykd h0' h8 ia') ?_;exact vR (h:=by rw [e2,if_pos hn])
   | true=>
    have hn:NumC x:=hnn.1 rfl;refine vc (Yf3 h0' h8 ia') ?_;by_cases hy:fluM d all (vars++x.params) x.name x.args=0
    ·rw [hy,show errV 0=.nilIface from rfl];refine vG ?_;refine Yo (vs:=[.string x.value.op,.string x.value.name,Zk x.value.n,.slice A7 n7 b7,.slice A8 n8 b8]) T 0 Zz Zz Zz Zz Zz Zz ?_;refine vc (Yn6 h0' h8 hva') ?_;exact vR (h:=by rw [e2,if_neg (by simpa using hn),hy,if_neg Zh])
    rw [Yk hy];exact vR (h:=by rw [e2,if_neg (by simpa using hn),if_pos hy,Yk hy])
  rw [Yk hz];exact vR (h:=by rw [e1,if_pos hz,Yk hz])
 rw [if_neg hx,show errV 3=.iface 65 (Zk 3) from rfl];exact vR (h:=by rw [YbJ,if_neg hbad,if_neg ht,if_pos (by simpa using hx)];rfl)
def Ycs {α:Type} (E:α->Int):List α->Int
 | []=>0
 | x::r=>if E x=0 then Ycs E r else E x
theorem YfQ {α:Type} {E:α->Int}:∀ {l:List α} {k:Nat} {x:α},l[k]?=some x->(∀ i,i<k->∀ y,l[i]?=some y->E y=0)->E x≠0->Ycs E l=E x
 | [],k,x,h,_,_=>by simp at h
 | y::l,0,x,h,_,hx=>by simp at h;subst h;rw [Ycs,if_neg hx]
 | y::l,k+1,x,h,hh,hx=>by
  rw [Ycs,if_pos (hh 0 Zi y rfl)];exact YfQ (k:=k) (by simpa using h) (fun i hi z hz=>hh (i+1) Zi z (by simpa using hz)) hx
theorem Ydq {α:Type} {E:α->Int}:∀ {l:List α},(∀ y∈l,E y=0)->Ycs E l=0
 | [],_=>rfl
 | y::l,h=>by rw [Ycs,if_pos (h y (by simp))];exact Ydq (fun z hz=>h z (by simp [hz]))
def Yae (d:Domain) (all vars:List Param) (l:List Change) (du:Bool):Int:=Ycs (fun x=>YbJ d all vars x du) l
variable {B:Option Addr}
set_option maxHeartbeats 1000000 in
theorem YgT {l:List Change} {m b:Nat} {du:Bool} (h:CkG fz v d p all) (h1:Sl paramL fz A n c vars) (h2:Sl changeL fz B m b l) (hW:∀ x∈l,n+XS x<=1000000000):
 QFn prog 125 [v,.slice A n c,.slice B m b,.bool du] fz (errV (Yae d all vars l du)):=by
 have h0:=h;obtain ⟨⟨vf,vpp,vg,vo,hck,hF,hPr,hFu,hO⟩,hw⟩:=h;obtain ⟨gc,w1,w2,w3,w4,w5,w6,u1,u2,u3,u4,u5,u6,u7,Aa,na,ca,rfl,hc,hD,hP,hall⟩:=hck;have l2:=h2.len;have s2:=h2.short;refine GFn.quiet ?_;refine zF Tryz.func125 Tryz.ntmps125 (fun w0=>?_);refine zV ?_;refine Ym (fun q σ fz' H'=>∃ k:Nat,k<=m/\q=m - k/\σ=[(14,Zk k),(13,Zk m),(12,.slice B m b),(0,Zp gc),(1,.slice A n c),(3,.bool du)]/\fz=fz'/\H'=[]/\(∀ i,i<k->∀ y,l[i]?=some y->YbJ d all vars y du=0)) ⟨0,Z0 _,rfl,rfl,rfl,rfl,fun i hi=>absurd hi Zi⟩ Zw Zb ?_;rintro q σ fz' H' ⟨k,hk,rfl,rfl,rfl,rfl,hh⟩;refine vC (fun c1=>?_) (fun c1=>?_)
 ·obtain ⟨x,hx⟩:=Yl (l:=l) (k:=k) Zi;refine vI h2 hx (fun p1 hp1=>?_);refine zL hp1 ?_;intro cs hcs;have hcs0:=hcs;obtain ⟨v1,v2,v3,v4,v5,v6,v7,v8,rfl,hR⟩:=Xj hcs;obtain ⟨A1,n1,b1,rfl,_⟩:=hR.params;obtain ⟨A2,n2,b2,rfl,_⟩:=hR.when_.args;obtain ⟨A3,n3,b3,rfl,_⟩:=hR.when_.params;obtain ⟨A4,n4,b4,rfl,_⟩:=hR.when_.exprs;obtain ⟨A5,n5,b5,rfl,_⟩:=hR.when_.kids;obtain ⟨A6,n6,b6,rfl,_⟩:=hR.args;obtain ⟨A7,n7,b7,rfl,_⟩:=hR.value.args;obtain ⟨A8,n8,b8,rfl,_⟩:=hR.value.kids;refine zV ?_;intros;refine zc (Yn8 h0 h1 hcs0 (hW x (Zm hx))) ?_;by_cases hz:YbJ d all vars x du=0
  ·rw [hz,show errV 0=.nilIface from rfl];exact vP (h:=by exact ⟨k+1,by omega,rfl,rfl,rfl,rfl,YL hh hx hz⟩)
  rw [Yk hz];exact vR (h:=by rw [Yae,YfQ (E:=fun x=>YbJ d all vars x du) hx hh hz,Yk hz])
 have hA:=Xy hh Zi;exact vR (h:=by rw [Yae,Ydq hA];rfl)
def Yka (d:Domain):Bs × Int:=match d.duratives with
 | []=>(⟨#[]⟩,0)
 | _::_=>match d.actions with
  | a::_=>(WN++a.name,6)
  | []=>match d.functions with
   | f::_=>(XH++f.name,6)
   | []=>(⟨#[]⟩,0)
theorem get0 {α:Type} {l:List α} (h:0<l.length):∃ x r,l=x::r:=by cases l with
 | nil=>simp at h
 | cons x r=>exact ⟨x,r,rfl⟩
theorem cknd_q {vf vg vo:Value} (h:CkR fz v d p all vf vp vg vo) (hs:NmS d all):
 QFn prog 78 [v] fz (resV (Yka d)):=by
 obtain ⟨gc,v1,v2,v3,v4,v5,v6,u1,u2,u3,u4,u5,u6,u7,Aa,na,ca,rfl,hc,hD,hP,hall⟩:=h;obtain ⟨A1,n1,b1,rfl,i1⟩:=hD.types;obtain ⟨A2,n2,b2,rfl,i2⟩:=hD.constants;obtain ⟨A3,n3,b3,rfl,i3⟩:=hD.predicates;obtain ⟨A4,n4,b4,rfl,i4⟩:=hD.functions;obtain ⟨A5,n5,b5,rfl,i5⟩:=hD.actions;obtain ⟨A6,n6,b6,rfl,i6⟩:=hD.duratives;have l3:=i3.len;have l4:=i4.len;have l5:=i5.len;have l6:=i6.len;have la:=hall.len;have s3:=i3.short;have s4:=i4.short;have s5:=i5.short;have s6:=i6.short;have sa:=hall.short;refine GFn.quiet ?_;refine zF Tryz.func78 Tryz.ntmps78 (fun w0=>?_);refine vC (fun c1=>?_) (fun c1=>?_)
 ·have h0:d.duratives=[]:=List.eq_nil_of_length_eq_zero Zi;exact vS (h:=by exact (by rw [Yka,h0];rfl))
 obtain ⟨u,r,h0⟩:=get0 (l:=d.duratives) Zi;refine vC (fun c2=>?_) (fun c2=>?_)
 ·obtain ⟨x,r2,h2⟩:=get0 (l:=d.actions) Zi;have hxs:=hs.a x (by rw [h2];simp);have hx:d.actions[0]?=some x:=by rw [h2];rfl
  refine vI i5 hx (fun p1 hp=>?_);refine vH hp.Action_name (fun hxn=>?_);refine zG ?_;refine XT Zz Zz (by show _+_<=_;exact Nat.le_trans (Nat.add_le_add_left hxs _) Zh) ?_;exact vS (h:=by exact (by rw [Yka,h0,h2];rfl))
 have h2:d.actions=[]:=List.eq_nil_of_length_eq_zero Zi;refine vC (fun c3=>?_) (fun c3=>?_)
 ·obtain ⟨x,r3,h3⟩:=get0 (l:=d.functions) Zi;have hxs:=hs.f x (by rw [h3];simp);have hx:d.functions[0]?=some x:=by rw [h3];rfl
  refine vI i4 hx (fun p1 hp=>?_);refine vH hp.Function_name (fun hxn=>?_);refine zG ?_;refine XT Zz Zz (by show _+_<=_;exact Nat.le_trans (Nat.add_le_add_left hxs _) Zh) ?_;exact vS (h:=by exact (by rw [Yka,h0,h2,h3];rfl))
 have h3:d.functions=[]:=List.eq_nil_of_length_eq_zero Zi;exact vS (h:=by exact (by rw [Yka,h0,h2,h3];rfl))
def codeF (f:Function):Int:=if f.hi<f.lo then 7 else if 64<=f.hi - f.lo then 5 else 0
def YhS (a:Action):Int:=if 1048576<a.cost then 1 else 0
def YhR (a:Durative):Int:=if a.duration<1\/62<a.duration then 1 else 0
def numsL (d:Domain):List (Bs × Int):=
 d.functions.map (fun x=>(XH++x.name,codeF x))++(d.actions.map (fun x=>(WN++x.name,YhS x))++(d.duratives.map (fun x=>(XI++x.name,YhR x))++ []))
set_option maxHeartbeats 4000000 in
theorem Ym2 {vf vg vo:Value} (h:CkR fz v d p all vf vp vg vo) (hs:NmS d all) (hn:∀ f∈d.functions,NumOk f.lo/\NumOk f.hi):
 QFn prog 79 [v] fz (resV (Xx (fun n=>n) (numsL d))):=by
 obtain ⟨gc,v1,v2,v3,v4,v5,v6,u1,u2,u3,u4,u5,u6,u7,Aa,na,ca,rfl,hc,hD,hP,hall⟩:=h;obtain ⟨A1,n1,b1,rfl,i1⟩:=hD.types;obtain ⟨A2,n2,b2,rfl,i2⟩:=hD.constants;obtain ⟨A3,n3,b3,rfl,i3⟩:=hD.predicates;obtain ⟨A4,n4,b4,rfl,i4⟩:=hD.functions;obtain ⟨A5,n5,b5,rfl,i5⟩:=hD.actions;obtain ⟨A6,n6,b6,rfl,i6⟩:=hD.duratives;have l3:=i3.len;have l4:=i4.len;have l5:=i5.len;have l6:=i6.len;have la:=hall.len;have s3:=i3.short;have s4:=i4.short;have s5:=i5.short;have s6:=i6.short;have sa:=hall.short;refine GFn.quiet ?_;refine zF Tryz.func79 Tryz.ntmps79 (fun w0=>?_);refine zV ?_;refine Ym (fun q σ fz' H'=>∃ k:Nat,k<=n4/\q=n4 - k/\σ=[(16,Zk k),(15,Zk n4),(14,.slice A4 n4 b4),(0,Zp gc)]/\fz=fz'/\H'=[]/\(∀ i,i<k->∀ x,d.functions[i]?=some x->codeF x=0)) ⟨0,Z0 _,rfl,rfl,rfl,rfl,fun i hi=>absurd hi Zi⟩ Zw Zb ?_;rintro q σ fz' H' ⟨k,hk,rfl,rfl,rfl,rfl,hh⟩;refine vC (fun c1=>?_) (fun c1=>?_)
 ·obtain ⟨x,hx⟩:=Yl (l:=d.functions) (k:=k) Zi;have hxm:=Zm hx;have hxs:=hs.f x hxm;refine vI i4 hx (fun p1 hp=>?_);refine zL hp ?_;intro cs hcs;obtain ⟨w1,rfl,hR⟩:=Y9 hcs;obtain ⟨Ap,np,cp,rfl,ip⟩:=hR.params;have hnx:=hn x hxm;obtain ⟨hn1,hn2⟩:=hnx;unfold NumOk at hn1 hn2;refine zV ?_;intros;refine zC (fun e1=>?_) (fun e1=>?_)
  ·have e1:=e1;have hz:codeF x=7:=if_pos e1;refine vG ?_;refine XT Zz Zz (by show _+_<=_;exact Nat.le_trans (Nat.add_le_add_left hxs _) Zh) ?_;exact vS (h:=by exact (by rw [numsL,WE (l:=d.functions) (E:=fun n=>n) (f:=fun x=>XH++x.name) (g:=codeF) hx hh (by rw [hz];decide),hz];rfl))
  refine vC (fun e2=>?_) (fun e2=>?_)
  ·have e2:=e2;have hz:codeF x=5:=by rw [codeF,if_neg e1,if_pos e2]
   refine vG ?_;refine XT Zz Zz (by show _+_<=_;exact Nat.le_trans (Nat.add_le_add_left hxs _) Zh) ?_;exact vS (h:=by exact (by rw [numsL,WE (l:=d.functions) (E:=fun n=>n) (f:=fun x=>XH++x.name) (g:=codeF) hx hh (by rw [hz];decide),hz];rfl))
  have e2:=e2;have hz:codeF x=0:=by rw [codeF,if_neg e1,if_neg e2]
  exact vP (h:=by exact ⟨k+1,by omega,rfl,rfl,rfl,rfl,YL hh hx hz⟩)
 have hzf:=fun x (hx:x∈d.functions)=>(by obtain ⟨i,hi⟩:=List.getElem?_of_mem hx;exact Xy hh Zi x hx:codeF x=0)
 refine zV ?_;refine Ym (fun q σ fz' H'=>∃ k:Nat,k<=n5/\q=n5 - k/\σ=[(48,Zk k),(47,Zk n5),(46,.slice A5 n5 b5),(0,Zp gc)]/\fz=fz'/\H'=[]/\(∀ i,i<k->∀ x,d.actions[i]?=some x->YhS x=0)) ⟨0,Z0 _,rfl,rfl,rfl,rfl,fun i hi=>absurd hi Zi⟩ Zw Zb ?_;rintro q σ fz' H' ⟨k,hk,rfl,rfl,rfl,rfl,hh⟩;refine vC (fun c1=>?_) (fun c1=>?_)
 ·obtain ⟨x,hx⟩:=Yl (l:=d.actions) (k:=k) Zi;have hxm:=Zm hx;have hxs:=hs.a x hxm;refine vI i5 hx (fun p1 hp=>?_);refine zL hp ?_;intro cs hcs;obtain ⟨w1,w2,w3,w4,w5,w6,rfl,hR⟩:=Xq hcs;obtain ⟨Ap,np,cp,rfl,ip⟩:=hR.params;obtain ⟨B0,e0,j0,rfl,_⟩:=hR.pre.args;obtain ⟨B1,e1,j1,rfl,_⟩:=hR.pre.params;obtain ⟨B2,e2,j2,rfl,_⟩:=hR.pre.exprs;obtain ⟨B3,e3,j3,rfl,_⟩:=hR.pre.kids;obtain ⟨B4,e4,j4,rfl,_⟩:=hR.changes;refine zV ?_;intros;refine zC (fun e1=>?_) (fun e1=>?_)
  ·have e1:=e1;have hz:YhS x=1:=if_pos e1;refine vG ?_;refine XT Zz Zz (by show _+_<=_;exact Nat.le_trans (Nat.add_le_add_left hxs _) Zh) ?_;exact vS (h:=by exact (by rw [numsL,Y8 (l:=d.functions) (E:=fun n=>n) (f:=fun x=>XH++x.name) (g:=codeF) hzf,WE (l:=d.actions) (E:=fun n=>n) (f:=fun x=>WN++x.name) (g:=YhS) hx hh (by rw [hz];decide),hz];rfl))
  have e1:=e1;have hz:YhS x=0:=if_neg e1;exact vP (h:=by exact ⟨k+1,by omega,rfl,rfl,rfl,rfl,YL hh hx hz⟩)
 have hza:=fun x (hx:x∈d.actions)=>(by obtain ⟨i,hi⟩:=List.getElem?_of_mem hx;exact Xy hh Zi x hx:YhS x=0)
 refine zV ?_;refine Ym (fun q σ fz' H'=>∃ k:Nat,k<=n6/\q=n6 - k/\σ=[(66,Zk k),(65,Zk n6),(64,.slice A6 n6 b6)]/\fz=fz'/\H'=[]/\(∀ i,i<k->∀ x,d.duratives[i]?=some x->YhR x=0)) ⟨0,Z0 _,rfl,rfl,rfl,rfl,fun i hi=>absurd hi Zi⟩ Zw Zb ?_;rintro q σ fz' H' ⟨k,hk,rfl,rfl,rfl,rfl,hh⟩;refine vC (fun c1=>?_) (fun c1=>?_)
 ·obtain ⟨x,hx⟩:=Yl (l:=d.duratives) (k:=k) Zi;have hxm:=Zm hx;have hxs:=hs.u x hxm;refine vI i6 hx (fun p1 hp=>?_);refine zL hp ?_;intro cs hcs;obtain ⟨w0,w1,w2,w3,w4,w5,w6,w7,w8,w9,w10,w11,w12,w13,w14,rfl,hR⟩:=Xg hcs;obtain ⟨Ap,np,cp,rfl,ip⟩:=hR.params;obtain ⟨B0,e0,j0,rfl,_⟩:=hR.start.args;obtain ⟨B1,e1,j1,rfl,_⟩:=hR.start.params;obtain ⟨B2,e2,j2,rfl,_⟩:=hR.start.exprs;obtain ⟨B3,e3,j3,rfl,_⟩:=hR.start.kids;obtain ⟨B4,e4,j4,rfl,_⟩:=hR.over.args;obtain ⟨B5,e5,j5,rfl,_⟩:=hR.over.params;obtain ⟨B6,e6,j6,rfl,_⟩:=hR.over.exprs;obtain ⟨B7,e7,j7,rfl,_⟩:=hR.over.kids;obtain ⟨B8,e8,j8,rfl,_⟩:=hR.fin.args;obtain ⟨B9,e9,j9,rfl,_⟩:=hR.fin.params;obtain ⟨B10,e10,j10,rfl,_⟩:=hR.fin.exprs;obtain ⟨B11,e11,j11,rfl,_⟩:=hR.fin.kids;obtain ⟨B12,e12,j12,rfl,_⟩:=hR.atStart;obtain ⟨B13,e13,j13,rfl,_⟩:=hR.atEnd;refine zV ?_;intros;refine zC (fun e1=>?_) (fun e1=>?_)
  ·have e1:=e1;have hz:YhR x=1:=if_pos (.inl e1);refine vG ?_;refine XT Zz Zz (by show _+_<=_;exact Nat.le_trans (Nat.add_le_add_left hxs _) Zh) ?_;exact vS (h:=by exact (by rw [numsL,Y8 (l:=d.functions) (E:=fun n=>n) (f:=fun x=>XH++x.name) (g:=codeF) hzf,Y8 (l:=d.actions) (E:=fun n=>n) (f:=fun x=>WN++x.name) (g:=YhS) hza,WE (l:=d.duratives) (E:=fun n=>n) (f:=fun x=>XI++x.name) (g:=YhR) hx hh (by rw [hz];decide),hz];rfl))
  refine vC (fun e2=>?_) (fun e2=>?_)
  ·have e2:=e2;have hz:YhR x=1:=if_pos (.inr e2);refine vG ?_;refine XT Zz Zz (by show _+_<=_;exact Nat.le_trans (Nat.add_le_add_left hxs _) Zh) ?_;exact vS (h:=by exact (by rw [numsL,Y8 (l:=d.functions) (E:=fun n=>n) (f:=fun x=>XH++x.name) (g:=codeF) hzf,Y8 (l:=d.actions) (E:=fun n=>n) (f:=fun x=>WN++x.name) (g:=YhS) hza,WE (l:=d.duratives) (E:=fun n=>n) (f:=fun x=>XI++x.name) (g:=YhR) hx hh (by rw [hz];decide),hz];rfl))
  have e2:=e2;have hz:YhR x=0:=if_neg (fun h=>h.elim e1 e2);exact vP (h:=by exact ⟨k+1,by omega,rfl,rfl,rfl,rfl,YL hh hx hz⟩)
 have hzu:=fun x (hx:x∈d.duratives)=>(by obtain ⟨i,hi⟩:=List.getElem?_of_mem hx;exact Xy hh Zi x hx:YhR x=0)
 exact vS (h:=by exact (by rw [numsL,Y8 (l:=d.functions) (E:=fun n=>n) (f:=fun x=>XH++x.name) (g:=codeF) hzf,Y8 (l:=d.actions) (E:=fun n=>n) (f:=fun x=>WN++x.name) (g:=YhS) hza,Y8 (l:=d.duratives) (E:=fun n=>n) (f:=fun x=>XI++x.name) (g:=YhR) hzu];rfl))
end Go.Proofs.YtfjopfinkdhmaaaGreatDoor
