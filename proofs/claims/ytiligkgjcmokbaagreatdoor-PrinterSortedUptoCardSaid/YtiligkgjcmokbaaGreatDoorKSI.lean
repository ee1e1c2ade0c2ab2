/- The texts PCJ, PCK, PCM, PCF, PCN, PFr, ShelfJ, PCO, QA, QB, QC, StrC, laid together. Conditions: none. -/
import Derived.Test.YtiligkgjcmokbaaGreatDoorKSH
import Derived.Shelf.Strings.OnBuilder
import Derived.Below
set_option linter.all false
set_option maxHeartbeats 16000000
noncomputable section
set_option maxRecDepth 20000
open Go.Lx Go.RowKit
attribute [local instance 10] Classical.propDecidable
open Go.Proofs.Tryz (prog)
namespace Go.Proofs.YtiligkgjcmokbaaGreatDoor
variable {all vars:List Param} {d:Domain} {f:Formula} {A B:Option Addr} {c n:Nat} {fz:FZ} {p:Problem} {v va ve vk vp:Value} {ff:FuncId} {cs:List Value}
def Ylo (op:Bs):Prop:=op=kForall\/op=YaA
def ownM (d:Domain) (all vars:List Param) (op:Bs) (args:List Bs) (params:List Param):Int:=
 if op=kSame then (if ∀ a∈args,(Ydn all vars a).isSome=true then 0 else 8)
 else if Ylo op then (if TwP [] (parN params) then 4 else if ExP d.types params then 0 else 3)
 else 0
def varsM (vars:List Param) (op:Bs) (params:List Param):List Param:=if op=kSame then vars else if Ylo op then vars++params else vars
mutual
def formM (d:Domain) (all:List Param):List Param->Formula->Int
 | vars,.mk op name args params exprs kids=>
  if op=kAtom then atomM d all vars name args
  else if ownM d all vars op args params≠0 then ownM d all vars op args params
  else if exprML d all (varsM vars op params) exprs≠0 then exprML d all (varsM vars op params) exprs
  else formML d all (varsM vars op params) kids
def formML (d:Domain) (all:List Param):List Param->List Formula->Int
 | _,[]=>0
 | vars,k::r=>if formM d all vars k=0 then formML d all vars r else formM d all vars k
end
theorem Yjn (f:Formula):formM d all vars f=if f.op=kAtom then atomM d all vars f.name f.args
 else if ownM d all vars f.op f.args f.params≠0 then ownM d all vars f.op f.args f.params
 else if exprML d all (varsM vars f.op f.params) f.exprs≠0 then exprML d all (varsM vars f.op f.params) f.exprs
 else formML d all (varsM vars f.op f.params) f.kids:=by cases f;rw [formM];rfl
theorem YkX {d:Domain} {all vars:List Param}:∀ {l:List Formula} {k:Nat} {x:Formula},l[k]?=some x->(∀ i,i<k->∀ y,l[i]?=some y->formM d all vars y=0)->formM d all vars x≠0->formML d all vars l=formM d all vars x
 | [],k,x,h,_,_=>by simp at h
 | y::l,0,x,h,_,hx=>by simp at h;subst h;rw [formML,if_neg hx]
 | y::l,k+1,x,h,hh,hx=>by
  rw [formML,if_pos (hh 0 Zi y rfl)];exact YkX (k:=k) (by simpa using h) (fun i hi z hz=>hh (i+1) Zi z (by simpa using hz)) hx
theorem Yhf {d:Domain} {all vars:List Param}:∀ {l:List Formula},(∀ y∈l,formM d all vars y=0)->formML d all vars l=0
 | [],_=>by rw [formML]
 | y::l,h=>by rw [formML,if_pos (h y (by simp))];exact Yhf (fun z hz=>h z (by simp [hz]))
theorem kids_w {k:Formula} (h:k∈f.kids):fW k+f.params.length<=fW f:=by
 have:=Wh (w:=fW) h;rw [Yl9 f];omega
theorem YqI:∀ (s:Nat) {fz:FZ} {v:Value} {d:Domain} {p:Problem} {all vars:List Param} {f:Formula} {va vp ve vk:Value} {A:Option Addr} {n c:Nat},SizeOf.sizeOf f<=s->CkG fz v d p all->Sl paramL fz A n c vars->FormulaR fz f va vp ve vk->n+fW f<=1000000000->
 QFn prog 165 [v,Zc A n c,.agg #[Zy f.op,Zy f.name,va,vp,ve,vk]] fz (errV (formM d all vars f))
 | 0,_,_,_,_,_,_,f,_,_,_,_,_,_,_,hse,_,_,_,_=>by cases f;simp at hse
 | s+1,fz,v,d,p,all,vars,f,va,vp,ve,vk,A,n,c,hse,h,h1,hR,hW=>by
  have h0:=h;obtain ⟨⟨vf,vpp,vg,vo,hck,hF,hPr,hFu,hO⟩,hw⟩:=h;have hck0:=hck;obtain ⟨gc,v1,v2,v3,v4,v5,v6,u1,u2,u3,u4,u5,u6,u7,Aa,na,ca,rfl,hc,hD,hP,hall⟩:=hck;obtain ⟨⟨B1,m1,d1,rfl,ia⟩,⟨B2,m2,d2,rfl,ip⟩,⟨B3,m3,d3,rfl,ie⟩,⟨B4,m4,d4,rfl,ik⟩⟩:=hR.sls;have l1:=ia.len;have l2:=ip.len;have l3:=ie.len;have l4:=ik.len;have ln:=h1.len;have s1:=ia.short;have s3:=ie.short;have s4:=ik.short;have hwp:f.params.length<=fW f:=by rw [Yl9];omega
  refine qF Tryz.func165 Tryz.ntmps165 (fun w0=>?_);refine pX (fun g0=>?_);refine zWO ?_;by_cases hat:f.op=kAtom
  ·refine vc (Ymr h0 h1 ia) ?_;exact vR (h:=by rw [Yjn,if_pos hat])
  have e1:formM d all vars f=if ownM d all vars f.op f.args f.params≠0 then ownM d all vars f.op f.args f.params else if exprML d all (varsM vars f.op f.params) f.exprs≠0 then exprML d all (varsM vars f.op f.params) f.exprs else formML d all (varsM vars f.op f.params) f.kids:=by rw [Yjn,if_neg hat]
  refine zVX ?_;refine Yr (YY (fun σ fz' H'=>∃ (A':Option Addr) (n' c':Nat),σ=[(5,Zp g0),(0,Zp gc),(1,Zc A' n' c')]/\Le fz fz'/\H'=[(g0,Zu #[Zy f.op,Zy f.name,Zc B1 m1 d1,Zc B2 m2 d2,Zc B3 m3 d3,Zc B4 m4 d4] 35)]/\Sl paramL fz' A' n' c' (varsM vars f.op f.params)/\n'<=n+f.params.length/\ownM d all vars f.op f.args f.params=0) ?_ ?_)
  ·refine zV ?_;by_cases hsa:f.op=kSame
   ·have e2:varsM vars f.op f.params=vars:=if_pos hsa;have e3:ownM d all vars f.op f.args f.params=if ∀ a∈f.args,(Ydn all vars a).isSome=true then 0 else 8:=if_pos hsa
    refine zV ?_;refine Yav m1 (fun k=>[(35,Zk k),(34,Zk m1),(33,Zc B1 m1 d1),(5,Zp g0),(0,Zp gc),(1,Zc A n c)]) [(g0,Zu #[Zy f.op,Zy f.name,Zc B1 m1 d1,Zc B2 m2 d2,Zc B3 m3 d3,Zc B4 m4 d4] 35)] (fun k=>(∀ i,i<k->∀ x,f.args[i]?=some x->(Ydn all vars x).isSome=true)) (fun i hi=>absurd hi Zi) ?_;intro k hk hh;refine vC ?_ ?_<;>intro c1
    ·obtain ⟨x,hx⟩:=Ye (l:=f.args) (k:=k) Zi;refine vI ia hx (fun p1 hp1=>?_);refine zH hp1 (fun hxs=>?_);refine vc (find_q hck0 hO h1 hxs) ?_;cases hr:Ydn all vars x with
     | none=>
      have e4:ownM d all vars f.op f.args f.params=8:=by rw [e3,if_neg];intro h9;have:=h9 x (Zm hx);rw [hr] at this;cases this
      rw [show Yqb none=.tuple #[Ze,.iface 89 (Zk 8)] from rfl];exact vR (h:=by rw [e1,if_pos (by rw [e4];decide),e4];rfl)
     | some t=>
      rw [show Yqb (some t)=.tuple #[Zy t,.nilIface] from rfl];exact vM (h:=by exact YL (p:=fun x=>(Ydn all vars x).isSome=true) hh hx (by rw [hr];rfl))
    have hA:=Xu hh Zi;exact vN (h:=by exact ⟨A,n,c,rfl,Zd,rfl,by rw [e2];exact h1,by omega,by rw [e3,if_pos hA]⟩)
   have wf:¬f.op=kSame:=hsa;by_cases hq:Ylo f.op
   ·have e2:varsM vars f.op f.params=vars++f.params:=by rw [varsM,if_neg hsa,if_pos hq]
    have e3:ownM d all vars f.op f.args f.params=if TwP [] (parN f.params) then 4 else if ExP d.types f.params then 0 else 3:=by rw [ownM,if_neg hsa,if_pos hq]
    refine zVX ?_;refine Yr (YY (fun σ fz' H'=>σ=[(50,Zo true),(5,Zp g0),(0,Zp gc),(1,Zc A n c)]/\fz=fz'/\H'=[(g0,Zu #[Zy f.op,Zy f.name,Zc B1 m1 d1,Zc B2 m2 d2,Zc B3 m3 d3,Zc B4 m4 d4] 35)]) ?_ ?_)
    ·rcases hq with w1 | w2
     ·exact vN (h:=by exact ⟨rfl,rfl,rfl⟩)
     have w1:¬f.op=kForall:=by rw [w2];decide
     exact vN (h:=by exact ⟨rfl,rfl,rfl⟩)
    rintro σ fz1 H' ⟨rfl,rfl,rfl⟩;refine vc (Ylx ip (Sl.nil (A:=none) (c:=0))) ?_;rw [show parN ([]:List Param)=[] from rfl];by_cases ht:TwP [] (parN f.params)
    ·rw [if_pos ht,show errV 4=.iface 89 (Zk 4) from rfl];exact vR (h:=by rw [e1,e3,if_pos ht,if_pos Zh];rfl)
    rw [if_neg ht,show errV 0=.nilIface from rfl];refine vc (Yma hck0 hF ip) ?_;by_cases hx:ExP d.types f.params
    ·rw [if_pos hx,show errV 0=.nilIface from rfl];refine zV ?_;refine XF [_] ?_;refine zW ?_;refine Yk ?_;refine zW ?_;refine pU ?_;refine Yj (Ym [] [_] Zz (Ybb h1 Zi) (fun v6 fz6 H6 hle6 hR6=>⟨⟨hle6,Zx⟩,?_⟩));obtain ⟨Av,cv,rfl,_,_⟩:=hR6.form;refine Yj (WZ T (Hr:=[_]) Zz Zz Zz Zz Zz Zz Zz Zz Zq hR6 WY (ip.mono hle6) (by show _*32<=_;omega) Zi (fun v7 H7 hO7=>⟨⟨hle6,Zx⟩,?_⟩));obtain ⟨Aw,cw,rfl,_,_⟩:=hO7.form;refine Ch.qk ⟨hle6,Zx⟩ (YV ?_);refine Ch.done ?_;refine zW ?_;exact midF (H':=[_]) (H2:=H7) (Zr _) (fun fz8 hle8 hf8=>by
      obtain ⟨A8,c8,e8,h8⟩:=hO7.sl hle8 hf8 Zi;injection e8 with e81 e82 e83
      subst e81;subst e83;exact ⟨Aw,_,cw,rfl,hle6.trans hle8,rfl,by rw [e2];exact h8,by omega,by rw [e3,if_neg ht,if_pos hx]⟩) Zw
    rw [if_neg hx,show errV 3=.iface 89 (Zk 3) from rfl];exact vR (h:=by rw [e1,e3,if_neg ht,if_neg hx,if_pos Zh];rfl)
   have w1:¬f.op=kForall:=fun h=>hq (.inl h)
   have w2:¬f.op=YaA:=fun h=>hq (.inr h)
   have e2:varsM vars f.op f.params=vars:=by rw [varsM,if_neg hsa,if_neg hq]
   have e3:ownM d all vars f.op f.args f.params=0:=by rw [ownM,if_neg hsa,if_neg hq]
   exact vN (h:=by exact ⟨A,n,c,rfl,Zd,rfl,by rw [e2];exact h1,by omega,e3⟩)
  rintro σ fz1 H' ⟨A',n',c',rfl,hle,rfl,h1',hn',ho0⟩;have e2:formM d all vars f=if exprML d all (varsM vars f.op f.params) f.exprs≠0 then exprML d all (varsM vars f.op f.params) f.exprs else formML d all (varsM vars f.op f.params) f.kids:=by rw [e1,if_neg (by rw [ho0];decide)]
  generalize hvs:varsM vars f.op f.params=vars' at h1' e2;have h0':=h0.mono hle;have ie':=ie.mono hle;have ik':=ik.mono hle;have hcg:=hle _ _ hc;refine zVX ?_;refine Yr (YY (fun σ fz' H'=>σ=[(5,Zp g0),(0,Zp gc),(1,Zc A' n' c')]/\fz1=fz'/\H'=[(g0,Zu #[Zy f.op,Zy f.name,Zc B1 m1 d1,Zc B2 m2 d2,Zc B3 m3 d3,Zc B4 m4 d4] 35)]/\exprML d all vars' f.exprs=0) ?_ ?_)
  ·refine zV ?_;refine Yi (fun q σ fz' H'=>∃ k:Nat,k<=m3/\q=m3 - k/\σ=[(74,Zk k),(73,Zk m3),(72,Zc B3 m3 d3),(5,Zp g0),(0,Zp gc),(1,Zc A' n' c')]/\fz1=fz'/\H'=[(g0,Zu #[Zy f.op,Zy f.name,Zc B1 m1 d1,Zc B2 m2 d2,Zc B3 m3 d3,Zc B4 m4 d4] 35)]/\(∀ i,i<k->∀ y,f.exprs[i]?=some y->exprM d all vars' y=0)) ⟨0,Z0 _,rfl,rfl,rfl,rfl,fun i hi=>absurd hi Zi⟩ Zw Zb ?_;rintro q σ fz' H' ⟨k,hk,rfl,rfl,rfl,rfl,hh⟩;refine vC ?_ ?_<;>intro c1
   ·obtain ⟨x,hx⟩:=Ye (l:=f.exprs) (k:=k) Zi;refine vI ie' hx (fun p1 hp1=>?_);refine zL hp1 ?_;intro cs hcs;obtain ⟨wa,wk,rfl,hRx⟩:=YD hcs;obtain ⟨⟨E1,r1,q1,rfl,_⟩,⟨E2,r2,q2,rfl,_⟩⟩:=hRx.sls;refine zV ?_;intros;refine zc (YqJ h0' h1' hRx) ?_;by_cases hz:exprM d all vars' x=0
    ·rw [hz,show errV 0=.nilIface from rfl];exact vM (h:=by exact YL hh hx hz)
    rw [Yg hz];exact vR (h:=by rw [e2,Yhm hx hh hz,if_pos hz,Yg hz])
   have hA:=Xu hh Zi;exact vN (h:=by exact ⟨rfl,rfl,rfl,Yeu hA⟩)
  rintro σ fz2 H' ⟨rfl,rfl,rfl,hez⟩;have e3:formM d all vars f=formML d all vars' f.kids:=by rw [e2,hez,if_neg Zh]
  refine zV ?_;refine Yi (fun q σ fz' H'=>∃ k:Nat,k<=m4/\q=m4 - k/\σ=[(89,Zk k),(88,Zk m4),(87,Zc B4 m4 d4),(0,Zp gc),(1,Zc A' n' c')]/\fz1=fz'/\H'=[]/\(∀ i,i<k->∀ y,f.kids[i]?=some y->formM d all vars' y=0)) ⟨0,Z0 _,rfl,rfl,rfl,rfl,fun i hi=>absurd hi Zi⟩ Zw Zb ?_;rintro q σ fz' H' ⟨k,hk,rfl,rfl,rfl,rfl,hh⟩;refine vC ?_ ?_<;>intro c1
  ·obtain ⟨x,hx⟩:=Ye (l:=f.kids) (k:=k) Zi;have hlt:=Lx.Formula.kids_lt (Zm hx);have hkw:=kids_w (Zm hx);refine vI ik' hx (fun p1 hp1=>?_);refine zL hp1 ?_;intro cs hcs;obtain ⟨wa,wp,we,wk,rfl,hRx⟩:=Yv hcs;obtain ⟨⟨E1,r1,q1,rfl,_⟩,⟨E2,r2,q2,rfl,_⟩,⟨E3,r3,q3,rfl,_⟩,⟨E4,r4,q4,rfl,_⟩⟩:=hRx.sls;refine zV ?_;intros
   ((refine zG ?_);refine YF (YqI s Zi h0' h1' hRx Zi) ?_);by_cases hz:formM d all vars' x=0
   ·rw [hz,show errV 0=.nilIface from rfl];exact vM (h:=by exact YL hh hx hz)
   rw [Yg hz];exact vR (h:=by rw [e3,YkX hx hh hz,Yg hz])
  have hA:=Xu hh Zi;exact vR (h:=by rw [e3,Yhf hA];rfl)
theorem YjI (h:CkG fz v d p all) (h1:Sl paramL fz A n c vars) (hR:FormulaR fz f va vp ve vk) (hW:n+fW f<=1000000000):
 QFn prog 165 [v,Zc A n c,.agg #[Zy f.op,Zy f.name,va,vp,ve,vk]] fz (errV (formM d all vars f)):=YqI _ (Zs _) h h1 hR hW
theorem Yg9 {l:List Lx.Formula} {cap:List Value} {p:Lx.Formula->Prop} [DecidablePred p] (h1:Sl YK fz A n c l) (hq:∀ x∈l,∀ cs,YK.rep fz x cs->QFn prog ff (.agg cs.toArray::cap) fz (Zo (decide (p x)))):
 QFn prog 220 [Zc A n c,.func (.func ff) #[] cap.toArray] fz (Zk (W6 p l 0)):=by
 refine qF Tryz.func220 Tryz.ntmps220 (fun w0=>?_);have l1:=h1.len;have hm:=h1.short;refine zW ?_;refine Yav n (fun k=>[(8,Zk k),(7,Zk n),(0,Zc A n c),(1,.func (.func ff) #[] cap.toArray)]) [] (fun k=>(∀ i,i<k->∀ x,l[i]?=some x->¬p x)) (fun i hi=>absurd hi Zi) ?_;intro k hk hh;refine wC (fun hlt=>?_) (fun hge=>?_)
 ·refine zW ?_;obtain ⟨x,hx⟩:=Ye (l:=l) (k:=k) Zi;refine zI h1 hx (fun a ha=>?_);refine zL ha ?_;intro cs hcs;refine wG ?_;refine Yah Zz Zz Zz (hq x (Zm hx) cs hcs) (fun c1=>?_) (fun c1=>?_)
  ·exact wR (h:=by rw [YaG hh hx c1,Int.zero_add])
  exact wM (h:=by exact YL hh hx c1)
 exact wR (h:=by rw [WL (Xu hh Zi)])
theorem Ych {l:List Lx.Formula} {cap:List Value} {p:Lx.Formula->Prop} [DecidablePred p] (h1:Sl YK fz A n c l) (hq:∀ x∈l,∀ cs,YK.rep fz x cs->QFn prog ff (.agg cs.toArray::cap) fz (Zo (decide (p x)))):
 QFn prog 154 [Zc A n c,.func (.func ff) #[] cap.toArray] fz (Zo (decide (∃ x∈l,p x))):=by
 refine qF Tryz.func154 Tryz.ntmps154 (fun w0=>?_);refine wc (Yg9 h1 hq) ?_;refine zC ?_ ?_<;>intro c1
 ·exact wR (h:=by exact Yu ((Xt (Int.le_refl 0)).1 c1))
 exact wR (h:=by exact Yl (fun h=>c1 ((Xt (Int.le_refl 0)).2 h)))
theorem YhY {l:List Lx.Change} {cap:List Value} {p:Lx.Change->Prop} [DecidablePred p] (h1:Sl changeL fz A n c l) (hq:∀ x∈l,∀ cs,changeL.rep fz x cs->QFn prog ff (.agg cs.toArray::cap) fz (Zo (decide (p x)))):
 QFn prog 221 [Zc A n c,.func (.func ff) #[] cap.toArray] fz (Zk (W6 p l 0)):=by
 refine qF Tryz.func221 Tryz.ntmps221 (fun w0=>?_);have l1:=h1.len;have hm:=h1.short;refine zW ?_;refine Yav n (fun k=>[(8,Zk k),(7,Zk n),(0,Zc A n c),(1,.func (.func ff) #[] cap.toArray)]) [] (fun k=>(∀ i,i<k->∀ x,l[i]?=some x->¬p x)) (fun i hi=>absurd hi Zi) ?_;intro k hk hh;refine wC (fun hlt=>?_) (fun hge=>?_)
 ·refine zW ?_;obtain ⟨x,hx⟩:=Ye (l:=l) (k:=k) Zi;refine zI h1 hx (fun a ha=>?_);refine zL ha ?_;intro cs hcs;refine wG ?_;refine Yah Zz Zz Zz (hq x (Zm hx) cs hcs) (fun c1=>?_) (fun c1=>?_)
  ·exact wR (h:=by rw [YaG hh hx c1,Int.zero_add])
  exact wM (h:=by exact YL hh hx c1)
 exact wR (h:=by rw [WL (Xu hh Zi)])
theorem YfP {l:List Lx.Change} {cap:List Value} {p:Lx.Change->Prop} [DecidablePred p] (h1:Sl changeL fz A n c l) (hq:∀ x∈l,∀ cs,changeL.rep fz x cs->QFn prog ff (.agg cs.toArray::cap) fz (Zo (decide (p x)))):
 QFn prog 158 [Zc A n c,.func (.func ff) #[] cap.toArray] fz (Zo (decide (∃ x∈l,p x))):=by
 refine qF Tryz.func158 Tryz.ntmps158 (fun w0=>?_);refine wc (YhY h1 hq) ?_;refine zC ?_ ?_<;>intro c1
 ·exact wR (h:=by exact Yu ((Xt (Int.le_refl 0)).1 c1))
 exact wR (h:=by exact Yl (fun h=>c1 ((Xt (Int.le_refl 0)).2 h)))
theorem YfF {l:List Lx.Predicate} {cap:List Value} {p:Lx.Predicate->Prop} [DecidablePred p] (h1:Sl predicateL fz A n c l) (hq:∀ x∈l,∀ cs,predicateL.rep fz x cs->QFn prog ff (.agg cs.toArray::cap) fz (Zo (decide (p x)))):
 QFn prog 155 [Zc A n c,.func (.func ff) #[] cap.toArray] fz (Zk (W6 p l 0)):=by
 refine qF Tryz.func155 Tryz.ntmps155 (fun w0=>?_);have l1:=h1.len;have hm:=h1.short;refine zW ?_;refine Yav n (fun k=>[(8,Zk k),(7,Zk n),(0,Zc A n c),(1,.func (.func ff) #[] cap.toArray)]) [] (fun k=>(∀ i,i<k->∀ x,l[i]?=some x->¬p x)) (fun i hi=>absurd hi Zi) ?_;intro k hk hh;refine wC (fun hlt=>?_) (fun hge=>?_)
 ·refine zW ?_;obtain ⟨x,hx⟩:=Ye (l:=l) (k:=k) Zi;refine zI h1 hx (fun a ha=>?_);refine zL ha ?_;intro cs hcs;refine wG ?_;refine Yah Zz Zz Zz (hq x (Zm hx) cs hcs) (fun c1=>?_) (fun c1=>?_)
  ·exact wR (h:=by rw [YaG hh hx c1,Int.zero_add])
  exact wM (h:=by exact YL hh hx c1)
 exact wR (h:=by rw [WL (Xu hh Zi)])
theorem Yeb {l:List Lx.Predicate} {cap:List Value} {p:Lx.Predicate->Prop} [DecidablePred p] (h1:Sl predicateL fz A n c l) (hq:∀ x∈l,∀ cs,predicateL.rep fz x cs->QFn prog ff (.agg cs.toArray::cap) fz (Zo (decide (p x)))):
 QFn prog 89 [Zc A n c,.func (.func ff) #[] cap.toArray] fz (Zo (decide (∃ x∈l,p x))):=by
 refine qF Tryz.func89 Tryz.ntmps89 (fun w0=>?_);refine wc (YfF h1 hq) ?_;refine zC ?_ ?_<;>intro c1
 ·exact wR (h:=by exact Yu ((Xt (Int.le_refl 0)).1 c1))
 exact wR (h:=by exact Yl (fun h=>c1 ((Xt (Int.le_refl 0)).2 h)))
theorem Ygh {l:List Lx.Function} {cap:List Value} {p:Lx.Function->Prop} [DecidablePred p] (h1:Sl functionL fz A n c l) (hq:∀ x∈l,∀ cs,functionL.rep fz x cs->QFn prog ff (.agg cs.toArray::cap) fz (Zo (decide (p x)))):
 QFn prog 156 [Zc A n c,.func (.func ff) #[] cap.toArray] fz (Zk (W6 p l 0)):=by
 refine qF Tryz.func156 Tryz.ntmps156 (fun w0=>?_);have l1:=h1.len;have hm:=h1.short;refine zW ?_;refine Yav n (fun k=>[(8,Zk k),(7,Zk n),(0,Zc A n c),(1,.func (.func ff) #[] cap.toArray)]) [] (fun k=>(∀ i,i<k->∀ x,l[i]?=some x->¬p x)) (fun i hi=>absurd hi Zi) ?_;intro k hk hh;refine wC (fun hlt=>?_) (fun hge=>?_)
 ·refine zW ?_;obtain ⟨x,hx⟩:=Ye (l:=l) (k:=k) Zi;refine zI h1 hx (fun a ha=>?_);refine zL ha ?_;intro cs hcs;refine wG ?_;refine Yah Zz Zz Zz (hq x (Zm hx) cs hcs) (fun c1=>?_) (fun c1=>?_)
  ·exact wR (h:=by rw [YaG hh hx c1,Int.zero_add])
  exact wM (h:=by exact YL hh hx c1)
 exact wR (h:=by rw [WL (Xu hh Zi)])
theorem Yex {l:List Lx.Function} {cap:List Value} {p:Lx.Function->Prop} [DecidablePred p] (h1:Sl functionL fz A n c l) (hq:∀ x∈l,∀ cs,functionL.rep fz x cs->QFn prog ff (.agg cs.toArray::cap) fz (Zo (decide (p x)))):
 QFn prog 91 [Zc A n c,.func (.func ff) #[] cap.toArray] fz (Zo (decide (∃ x∈l,p x))):=by
 refine qF Tryz.func91 Tryz.ntmps91 (fun w0=>?_);refine wc (Ygh h1 hq) ?_;refine zC ?_ ?_<;>intro c1
 ·exact wR (h:=by exact Yu ((Xt (Int.le_refl 0)).1 c1))
 exact wR (h:=by exact Yl (fun h=>c1 ((Xt (Int.le_refl 0)).2 h)))
theorem YhZ {l:List Lx.Action} {cap:List Value} {p:Lx.Action->Prop} [DecidablePred p] (h1:Sl actionL fz A n c l) (hq:∀ x∈l,∀ cs,actionL.rep fz x cs->QFn prog ff (.agg cs.toArray::cap) fz (Zo (decide (p x)))):
 QFn prog 157 [Zc A n c,.func (.func ff) #[] cap.toArray] fz (Zk (W6 p l 0)):=by
 refine qF Tryz.func157 Tryz.ntmps157 (fun w0=>?_);have l1:=h1.len;have hm:=h1.short;refine zW ?_;refine Yav n (fun k=>[(8,Zk k),(7,Zk n),(0,Zc A n c),(1,.func (.func ff) #[] cap.toArray)]) [] (fun k=>(∀ i,i<k->∀ x,l[i]?=some x->¬p x)) (fun i hi=>absurd hi Zi) ?_;intro k hk hh;refine wC (fun hlt=>?_) (fun hge=>?_)
 ·refine zW ?_;obtain ⟨x,hx⟩:=Ye (l:=l) (k:=k) Zi;refine zI h1 hx (fun a ha=>?_);refine zL ha ?_;intro cs hcs;refine wG ?_;refine Yah Zz Zz Zz (hq x (Zm hx) cs hcs) (fun c1=>?_) (fun c1=>?_)
  ·exact wR (h:=by rw [YaG hh hx c1,Int.zero_add])
  exact wM (h:=by exact YL hh hx c1)
 exact wR (h:=by rw [WL (Xu hh Zi)])
theorem YfQ {l:List Lx.Action} {cap:List Value} {p:Lx.Action->Prop} [DecidablePred p] (h1:Sl actionL fz A n c l) (hq:∀ x∈l,∀ cs,actionL.rep fz x cs->QFn prog ff (.agg cs.toArray::cap) fz (Zo (decide (p x)))):
 QFn prog 93 [Zc A n c,.func (.func ff) #[] cap.toArray] fz (Zo (decide (∃ x∈l,p x))):=by
 refine qF Tryz.func93 Tryz.ntmps93 (fun w0=>?_);refine wc (YhZ h1 hq) ?_;refine zC ?_ ?_<;>intro c1
 ·exact wR (h:=by exact Yu ((Xt (Int.le_refl 0)).1 c1))
 exact wR (h:=by exact Yl (fun h=>c1 ((Xt (Int.le_refl 0)).2 h)))
theorem Ygi {l:List Lx.Durative} {cap:List Value} {p:Lx.Durative->Prop} [DecidablePred p] (h1:Sl durativeL fz A n c l) (hq:∀ x∈l,∀ cs,durativeL.rep fz x cs->QFn prog ff (.agg cs.toArray::cap) fz (Zo (decide (p x)))):
 QFn prog 160 [Zc A n c,.func (.func ff) #[] cap.toArray] fz (Zk (W6 p l 0)):=by
 refine qF Tryz.func160 Tryz.ntmps160 (fun w0=>?_);have l1:=h1.len;have hm:=h1.short;refine zW ?_;refine Yav n (fun k=>[(8,Zk k),(7,Zk n),(0,Zc A n c),(1,.func (.func ff) #[] cap.toArray)]) [] (fun k=>(∀ i,i<k->∀ x,l[i]?=some x->¬p x)) (fun i hi=>absurd hi Zi) ?_;intro k hk hh;refine wC (fun hlt=>?_) (fun hge=>?_)
 ·refine zW ?_;obtain ⟨x,hx⟩:=Ye (l:=l) (k:=k) Zi;refine zI h1 hx (fun a ha=>?_);refine zL ha ?_;intro cs hcs;refine wG ?_;refine Yah Zz Zz Zz (hq x (Zm hx) cs hcs) (fun c1=>?_) (fun c1=>?_)
  ·exact wR (h:=by rw [YaG hh hx c1,Int.zero_add])
  exact wM (h:=by exact YL hh hx c1)
 exact wR (h:=by rw [WL (Xu hh Zi)])
theorem Yey {l:List Lx.Durative} {cap:List Value} {p:Lx.Durative->Prop} [DecidablePred p] (h1:Sl durativeL fz A n c l) (hq:∀ x∈l,∀ cs,durativeL.rep fz x cs->QFn prog ff (.agg cs.toArray::cap) fz (Zo (decide (p x)))):
 QFn prog 96 [Zc A n c,.func (.func ff) #[] cap.toArray] fz (Zo (decide (∃ x∈l,p x))):=by
 refine qF Tryz.func96 Tryz.ntmps96 (fun w0=>?_);refine wc (Ygi h1 hq) ?_;refine zC ?_ ?_<;>intro c1
 ·exact wR (h:=by exact Yu ((Xt (Int.le_refl 0)).1 c1))
 exact wR (h:=by exact Yl (fun h=>c1 ((Xt (Int.le_refl 0)).2 h)))
def LtP (f:Formula):Prop:=f.op=kAtom\/f.op=kSame
mutual
/-- a conjunction of literals -/
def LitP:Formula->Prop
 | .mk op _ _ _ _ kids=>(op=kNot/\∃ k,kids=[k]/\LtP k)\/(op=kAnd/\LitPL kids)\/op=kAtom\/op=kSame
def LitPL:List Formula->Prop
 | []=>True
 | k::r=>LitP k/\LitPL r
end
theorem YkI:∀ {l:List Formula},LitPL l↔∀ x∈l,LitP x
 | []=>by simp [LitPL]
 | k::r=>by rw [LitPL,YkI (l:=r)];simp
theorem YlZ (f:Formula):LitP f↔(f.op=kNot/\∃ k,f.kids=[k]/\LtP k)\/(f.op=kAnd/\∀ x∈f.kids,LitP x)\/LtP f:=by cases f;rw [LitP,YkI];rfl
theorem litP_not (h:f.op=kNot):LitP f↔∃ k,f.kids=[k]/\LtP k:=by
 rw [YlZ];constructor
 ·rintro (h1 | h1 | h1)
  ·exact h1.2
  ·rw [h] at h1;exact absurd h1.1 Zh
  unfold LtP at h1;rw [h] at h1;exact absurd h1 Zh
 intro h1;exact .inl ⟨h,h1⟩
theorem litP_and (h:f.op=kAnd):LitP f↔∀ x∈f.kids,LitP x:=by
 rw [YlZ];constructor
 ·rintro (h1 | h1 | h1)
  ·rw [h] at h1;exact absurd h1.1 Zh
  ·exact h1.2
  unfold LtP at h1;rw [h] at h1;exact absurd h1 Zh
 intro h1;exact .inr (.inl ⟨h,h1⟩)
theorem litP_oth (h1:¬f.op=kNot) (h2:¬f.op=kAnd):LitP f↔LtP f:=by
 rw [YlZ];exact ⟨fun h=>h.elim (fun h=>absurd h.1 h1) (fun h=>h.elim (fun h=>absurd h.1 h2) id),fun h=>.inr (.inr h)⟩
theorem lt1_q (hR:FormulaR fz f va vp ve vk):
 QFn prog 273 [.agg #[Zy f.op,Zy f.name,va,vp,ve,vk]] fz (Zo (decide (LtP f))):=by
 refine qF Tryz.func273 Tryz.ntmps273 (fun w0=>?_);refine pX (fun g0=>?_);refine vC ?_ ?_<;>intro x1
 ·exact vR (h:=by exact Yu (.inl x1))
 refine vC ?_ ?_<;>intro x2
 ·exact vR (h:=by exact Yu (.inr x2))
 exact vR (h:=by exact Yl (fun h=>h.elim x1 x2))
theorem lit2_q (h:QFn prog 227 [.agg #[Zy f.op,Zy f.name,va,vp,ve,vk]] fz (Zo (decide (LitP f)))):
 QFn prog 274 [.agg #[Zy f.op,Zy f.name,va,vp,ve,vk]] fz (Zo (decide (¬LitP f))):=by
 refine qF Tryz.func274 Tryz.ntmps274 (fun w0=>?_);refine pX (fun g1=>?_);refine vc h ?_;exact vR (h:=by rw [decide_not])
theorem lit_f:∀ (s:Nat) {fz:FZ} {f:Formula} {va vp ve vk:Value},SizeOf.sizeOf f<=s->FormulaR fz f va vp ve vk->
 QFn prog 227 [.agg #[Zy f.op,Zy f.name,va,vp,ve,vk]] fz (Zo (decide (LitP f)))
 | 0,_,f,_,_,_,_,hse,_=>by cases f;simp at hse
 | s+1,fz,f,va,vp,ve,vk,hse,hR=>by
  have hR0:=hR;obtain ⟨⟨B1,m1,d1,rfl,ia⟩,⟨B2,m2,d2,rfl,ip⟩,⟨B3,m3,d3,rfl,ie⟩,⟨B4,m4,d4,rfl,ik⟩⟩:=hR.sls;have l4:=ik.len;refine qF Tryz.func227 Tryz.ntmps227 (fun w0=>?_);refine pX (fun g0=>?_);refine zWO ?_;by_cases hno:f.op=kNot
  ·have w:=litP_not hno;refine vC ?_ ?_<;>intro x1
   ·have h1:f.kids.length=1:=by omega
    obtain ⟨k,hk⟩:∃ k,f.kids=[k]:=by
     match hkk:f.kids,h1 with
     | [k],_=>exact ⟨k,rfl⟩
    refine vG ?_;refine Ybt T 0 Zz Zz Zz Zz Zz Zz ik (by first | rfl | omega) (by rw [hk];rfl:f.kids[0]?=some k) (fun p1 hp1=>?_);refine zL hp1 ?_;intro cs hcs;obtain ⟨wa,wp,we,wk,rfl,hRx⟩:=Yv hcs;refine vv (lt1_q hRx) ?_;refine zV ?_
    (exact ret1 rfl rfl Zb (by
     by_cases hl:LtP k
     ·rw [decide_eq_true hl,decide_eq_true (w.2 ⟨k,hk,hl⟩)]
     rw [decide_eq_false hl,decide_eq_false (fun h=>by obtain ⟨k',hk',hl'⟩:=w.1 h;rw [hk] at hk';injection hk' with hk';subst hk';exact hl hl')]))
   exact vR (h:=by exact Yl (fun h=>by obtain ⟨k,hk,_⟩:=w.1 h;rw [hk] at l4;simp at l4;exact x1 Zi))
  by_cases han:f.op=kAnd
  ·have w:=litP_and han;refine zV ?_
   ((refine zG ?_);refine YF (Ych (cap:=[]) (p:=fun k=>¬LitP k) ik (fun x hx cs hcs=>by
    obtain ⟨wa,wp,we,wk,rfl,hRx⟩:=Yv hcs;exact lit2_q (lit_f s (by have:=Lx.Formula.kids_lt hx;omega) hRx))) ?_)
   refine zV ?_
   (exact ret1 rfl rfl Zb (by
    by_cases hl:∀ x∈f.kids,LitP x
    ·rw [decide_eq_true (w.2 hl),decide_eq_false (fun ⟨x,hx,h0⟩=>h0 (hl x hx))];rfl
    rw [decide_eq_false (fun h=>hl (w.1 h)),decide_eq_true (by simpa using hl)];rfl))
  have w:=litP_oth hno han;refine vv (lt1_q hR0) ?_;refine zV ?_
  (exact ret1 rfl rfl Zb (by
   by_cases hl:LtP f
   ·rw [decide_eq_true hl,decide_eq_true (w.2 hl)]
   rw [decide_eq_false hl,decide_eq_false (fun h=>hl (w.1 h))]))
theorem lit_q (hR:FormulaR fz f va vp ve vk):
 QFn prog 227 [.agg #[Zy f.op,Zy f.name,va,vp,ve,vk]] fz (Zo (decide (LitP f))):=lit_f _ (Zs _) hR
def Ybr (d:Domain) (all vars:List Param) (f:Formula):Int:=if LitP f then formM d all vars f else 2
theorem Yhy (h:CkG fz v d p all) (h1:Sl paramL fz A n c vars) (hR:FormulaR fz f va vp ve vk) (hW:n+fW f<=1000000000):
 QFn prog 167 [v,Zc A n c,.agg #[Zy f.op,Zy f.name,va,vp,ve,vk]] fz (errV (Ybr d all vars f)):=by
 refine qF Tryz.func167 Tryz.ntmps167 (fun w0=>?_);refine pX (fun g0=>?_);refine vb (lit_q hR) (fun f1=>?_) (fun f1=>?_)
 ·refine vc (YjI h h1 hR hW) ?_;exact vR (h:=by rw [Ybr,if_pos (Zt f1)])
 exact vR (h:=by rw [Ybr,if_neg (Zf f1)];rfl)
def Ylp (x:Change):Prop:=x.params=[]/\x.when_=XV
def NumC (x:Change):Prop:=x.kind≠1/\x.kind≠2
def YaQ (d:Domain) (all vars:List Param) (x:Change) (du:Bool):Int:=
 if ¬Ylp x/\(NumC x\/du=true) then 6
 else if TwP (parN vars) (parN x.params) then 4
 else if ¬ExP d.types x.params then 3
 else if formM d all (vars++x.params) x.when_≠0 then formM d all (vars++x.params) x.when_
 else if ¬NumC x then atomM d all (vars++x.params) x.name x.args
 else if fluM d all (vars++x.params) x.name x.args≠0 then fluM d all (vars++x.params) x.name x.args
 else exprM d all (vars++x.params) x.value
theorem changeM1 {x:Change} {du:Bool} (h1:¬(¬Ylp x/\(NumC x\/du=true))) (h2:¬TwP (parN vars) (parN x.params)) (h3:ExP d.types x.params):
 YaQ d all vars x du=if formM d all (vars++x.params) x.when_≠0 then formM d all (vars++x.params) x.when_
  else if ¬NumC x then atomM d all (vars++x.params) x.name x.args
  else if fluM d all (vars++x.params) x.name x.args≠0 then fluM d all (vars++x.params) x.name x.args
  else exprM d all (vars++x.params) x.value:=by rw [YaQ,if_neg h1,if_neg h2,if_neg (by simpa using h3)]
theorem YqL {x:Change} {du:Bool} (h:CkG fz v d p all) (h1:Sl paramL fz A n c vars) (hRc:changeL.rep fz x cs) (hW:n+Xx x<=1000000000):
 QFn prog 226 [v,Zc A n c,.agg cs.toArray,Zo du] fz (errV (YaQ d all vars x du)):=by
 have h0:=h;obtain ⟨⟨vf,vpp,vg,vo,hck,hF,hPr,hFu,hO⟩,hw⟩:=h;have hck0:=hck;obtain ⟨gc,w1,w2,w3,w4,w5,w6,u1,u2,u3,u4,u5,u6,u7,Aa,na,ca,rfl,hc,hD,hP,hall⟩:=hck;obtain ⟨v1,v2,v3,v4,v5,v6,v7,v8,rfl,hR⟩:=Y8 hRc;obtain ⟨A1,n1,b1,rfl,ip⟩:=hR.params;have hwh:=hR.when_;have hva:=hR.value;obtain ⟨⟨A2,n2,b2,rfl,_⟩,⟨A3,n3,b3,rfl,_⟩,⟨A4,n4,b4,rfl,_⟩,⟨A5,n5,b5,rfl,_⟩⟩:=hR.when_.sls;obtain ⟨A6,n6,b6,rfl,ia⟩:=hR.args;obtain ⟨⟨A7,n7,b7,rfl,_⟩,⟨A8,n8,b8,rfl,_⟩⟩:=hR.value.sls;have l1:=ip.len;have ln:=h1.len;have hWp:n+x.params.length+fW x.when_<=1000000000:=by unfold Xx at hW;omega
 refine qF Tryz.func226 Tryz.ntmps226 (fun w0=>?_);refine pX (fun g0=>?_);refine zWO ?_;refine Yr (YY (fun σ fz' H'=>∃ bb:Bool,σ=[(9,Zo bb),(6,Zp g0),(0,Zp gc),(1,Zc A n c),(3,Zo du)]/\fz=fz'/\H'=[(g0,Zu #[Zk x.kind,Zc A1 n1 b1,Zy x.when_.op,Zy x.when_.name,Zc A2 n2 b2,Zc A3 n3 b3,Zc A4 n4 b4,Zc A5 n5 b5,Zy x.name,Zc A6 n6 b6,Zy x.value.op,Zy x.value.name,Zk x.value.n,Zc A7 n7 b7,Zc A8 n8 b8] 114)]/\(bb=true↔Ylp x)) ?_ ?_)
 ·refine vC ?_ ?_<;>intro x1
  ·have hnil:x.params=[]:=List.eq_nil_of_length_eq_zero Zi;refine vG ?_;refine Yc (vs:=[Zy x.when_.op,Zy x.when_.name,Zc A2 n2 b2,Zc A3 n3 b3,Zc A4 n4 b4,Zc A5 n5 b5]) 0 ?_;refine vb (YgK hwh Ydr) (fun f1=>?_) (fun f1=>?_)
   ·exact vN (h:=by exact ⟨true,rfl,rfl,rfl,iff_of_true rfl ⟨hnil,Zt f1⟩⟩)
   exact vN (h:=by exact ⟨false,rfl,rfl,rfl,iff_of_false (by simp) (fun h=>Zf f1 h.2)⟩)
  exact vN (h:=by exact ⟨false,rfl,rfl,rfl,iff_of_false (by simp) (fun h=>x1 (by rw [h.1] at l1;simp at l1;omega))⟩)
 rintro σ fz' H' ⟨bb,rfl,rfl,rfl,hbb⟩;refine Yr (YY (fun σ fz' H'=>∃ nn:Bool,σ=[(10,Zo nn),(9,Zo bb),(6,Zp g0),(0,Zp gc),(1,Zc A n c),(3,Zo du)]/\fz=fz'/\H'=[(g0,Zu #[Zk x.kind,Zc A1 n1 b1,Zy x.when_.op,Zy x.when_.name,Zc A2 n2 b2,Zc A3 n3 b3,Zc A4 n4 b4,Zc A5 n5 b5,Zy x.name,Zc A6 n6 b6,Zy x.value.op,Zy x.value.name,Zk x.value.n,Zc A7 n7 b7,Zc A8 n8 b8] 114)]/\(nn=true↔NumC x)) ?_ ?_)
 ·refine vC ?_ ?_<;>intro x1
  ·refine vC ?_ ?_<;>intro x2
   ·exact vN (h:=by exact ⟨true,rfl,rfl,rfl,iff_of_true rfl ⟨x1,x2⟩⟩)
   exact vN (h:=by exact ⟨false,rfl,rfl,rfl,iff_of_false (by simp) (fun h=>h.2 Zi)⟩)
  exact vN (h:=by exact ⟨false,rfl,rfl,rfl,iff_of_false (by simp) (fun h=>h.1 Zi)⟩)
 rintro σ fz' H' ⟨nn,rfl,rfl,rfl,hnn⟩;by_cases hbad:¬Ylp x/\(NumC x\/du=true)
 ·have e1:YaQ d all vars x du=6:=if_pos hbad;obtain rfl:bb=false:=by cases bb with | false=>rfl | true=>exact absurd (hbb.1 rfl) hbad.1
  cases nn with
  | true=>
   exact vR (h:=by rw [e1];rfl)
  | false=>
   obtain rfl:du=true:=hbad.2.elim (fun h=>by have:=hnn.2 h;cases this) id;exact vR (h:=by rw [e1];rfl)
 refine Yr (YY (fun σ fz' H'=>σ=[(10,Zo nn),(6,Zp g0),(0,Zp gc),(1,Zc A n c)]/\fz=fz'/\H'=[(g0,Zu #[Zk x.kind,Zc A1 n1 b1,Zy x.when_.op,Zy x.when_.name,Zc A2 n2 b2,Zc A3 n3 b3,Zc A4 n4 b4,Zc A5 n5 b5,Zy x.name,Zc A6 n6 b6,Zy x.value.op,Zy x.value.name,Zk x.value.n,Zc A7 n7 b7,Zc A8 n8 b8] 114)]) ?_ ?_)
 ·cases bb with
  | true=>
   exact vN (h:=by exact ⟨rfl,rfl,rfl⟩)
  | false=>
   have hp:¬Ylp x:=fun h=>by have:=hbb.2 h;cases this
   obtain rfl:nn=false:=by cases nn with | false=>rfl | true=>exact absurd ⟨hp,.inl (hnn.1 rfl)⟩ hbad
   obtain rfl:du=false:=by cases du with | false=>rfl | true=>exact absurd ⟨hp,.inr rfl⟩ hbad
   exact vN (h:=by exact ⟨rfl,rfl,rfl⟩)
 rintro σ fz' H' ⟨rfl,rfl,rfl⟩;refine vc (Ylx ip h1) ?_;by_cases ht:TwP (parN vars) (parN x.params)
 ·rw [if_pos ht,show errV 4=.iface 89 (Zk 4) from rfl];exact vR (h:=by rw [YaQ,if_neg hbad,if_pos ht];rfl)
 rw [if_neg ht,show errV 0=.nilIface from rfl];refine vc (Yma hck0 hF ip) ?_;by_cases hx:ExP d.types x.params
 ·have e1:=changeM1 (all:=all) (du:=du) hbad ht hx;rw [if_pos hx,show errV 0=.nilIface from rfl];refine zV ?_;refine XF [_] ?_;refine zW ?_;refine Yk ?_;refine zW ?_;refine pU ?_;refine Yj (Ym [] [_] Zz (Ybb h1 Zi) (fun v6 fz6 H6 hle6 hR6=>⟨⟨hle6,Zx⟩,?_⟩));obtain ⟨Av,cv,rfl,_,_⟩:=hR6.form;refine Yj (WZ T (Hr:=[_]) Zz Zz Zz Zz Zz Zz Zz Zz Zq hR6 WY (ip.mono hle6) (by show _*32<=_;omega) Zi (fun v7 H7 hO7=>⟨⟨hle6,Zx⟩,?_⟩));obtain ⟨Aw,cw,rfl,_,_⟩:=hO7.form;refine Ch.qk ⟨hle6,Zx⟩ (YV ?_);refine Ch.done ?_;refine Yds ?_;refine Wp.freezeAll (H1:=[_]) (H2:=H7) (Zr _) (fun fz8 hle8 hf8=>?_);obtain ⟨A8,c8,e8,h8⟩:=hO7.sl hle8 hf8 Zi;injection e8 with e81 e82 e83
  subst e81;subst e83;have hle:=hle6.trans hle8;have h0':=h0.mono hle;have ia':=ia.mono hle;have hwh':=hwh.mono hle;have hva':=hva.mono hle;have hcg:=hle _ _ hc;refine vG ?_;refine Yc (vs:=[Zy x.when_.op,Zy x.when_.name,Zc A2 n2 b2,Zc A3 n3 b3,Zc A4 n4 b4,Zc A5 n5 b5]) 0 ?_;refine vG ?_;refine YF (YjI h0' h8 hwh' Zi) ?_;by_cases hz:formM d all (vars++x.params) x.when_=0
  ·have e2:=e1;rw [hz,if_neg Zh] at e2;rw [hz,show errV 0=.nilIface from rfl];cases nn with
   | false=>
    have hn:¬NumC x:=fun h=>by have:=hnn.2 h;cases this
    refine vc (Ymr h0' h8 ia') ?_;exact vR (h:=by rw [e2,if_pos hn])
   | true=>
    have hn:NumC x:=hnn.1 rfl;refine vc (YhC h0' h8 ia') ?_;by_cases hy:fluM d all (vars++x.params) x.name x.args=0
    ·rw [hy,show errV 0=.nilIface from rfl];refine vG ?_;refine Yc (vs:=[Zy x.value.op,Zy x.value.name,Zk x.value.n,Zc A7 n7 b7,Zc A8 n8 b8]) 0 ?_;refine vc (YqJ h0' h8 hva') ?_;exact vR (h:=by rw [e2,if_neg (by simpa using hn),hy,if_neg Zh])
    rw [Yg hy];exact vR (h:=by rw [e2,if_neg (by simpa using hn),if_pos hy,Yg hy])
  rw [Yg hz];exact vR (h:=by rw [e1,if_pos hz,Yg hz])
 rw [if_neg hx,show errV 3=.iface 89 (Zk 3) from rfl];exact vR (h:=by rw [YaQ,if_neg hbad,if_neg ht,if_pos (by simpa using hx)];rfl)
def YbA {α:Type} (E:α->Int):List α->Int
 | []=>0
 | x::r=>if E x=0 then YbA E r else E x
theorem Yhi {α:Type} {E:α->Int}:∀ {l:List α} {k:Nat} {x:α},l[k]?=some x->(∀ i,i<k->∀ y,l[i]?=some y->E y=0)->E x≠0->YbA E l=E x
 | [],k,x,h,_,_=>by simp at h
 | y::l,0,x,h,_,hx=>by simp at h;subst h;rw [YbA,if_neg hx]
 | y::l,k+1,x,h,hh,hx=>by
  rw [YbA,if_pos (hh 0 Zi y rfl)];exact Yhi (k:=k) (by simpa using h) (fun i hi z hz=>hh (i+1) Zi z (by simpa using hz)) hx
theorem Yet {α:Type} {E:α->Int}:∀ {l:List α},(∀ y∈l,E y=0)->YbA E l=0
 | [],_=>rfl
 | y::l,h=>by rw [YbA,if_pos (h y (by simp))];exact Yet (fun z hz=>h z (by simp [hz]))
def W8 (d:Domain) (all vars:List Param) (l:List Change) (du:Bool):Int:=YbA (fun x=>YaQ d all vars x du) l
theorem Yiw {l:List Change} {m b:Nat} {du:Bool} (h:CkG fz v d p all) (h1:Sl paramL fz A n c vars) (h2:Sl changeL fz B m b l) (hW:∀ x∈l,n+Xx x<=1000000000):
 QFn prog 166 [v,Zc A n c,Zc B m b,Zo du] fz (errV (W8 d all vars l du)):=by
 have h0:=h;obtain ⟨⟨vf,vpp,vg,vo,hck,hF,hPr,hFu,hO⟩,hw⟩:=h;obtain ⟨gc,w1,w2,w3,w4,w5,w6,u1,u2,u3,u4,u5,u6,u7,Aa,na,ca,rfl,hc,hD,hP,hall⟩:=hck;have l2:=h2.len;have s2:=h2.short;refine qF Tryz.func166 Tryz.ntmps166 (fun w0=>?_);refine zV ?_;refine Yav m (fun k=>[(14,Zk k),(13,Zk m),(12,Zc B m b),(0,Zp gc),(1,Zc A n c),(3,Zo du)]) [] (fun k=>(∀ i,i<k->∀ y,l[i]?=some y->YaQ d all vars y du=0)) (fun i hi=>absurd hi Zi) ?_;intro k hk hh;refine vC ?_ ?_<;>intro c1
 ·obtain ⟨x,hx⟩:=Ye (l:=l) (k:=k) Zi;refine vI h2 hx (fun p1 hp1=>?_);refine zL hp1 ?_;intro cs hcs;have hcs0:=hcs;obtain ⟨v1,v2,v3,v4,v5,v6,v7,v8,rfl,hR⟩:=Y8 hcs;obtain ⟨A1,n1,b1,rfl,_⟩:=hR.params;obtain ⟨⟨A2,n2,b2,rfl,_⟩,⟨A3,n3,b3,rfl,_⟩,⟨A4,n4,b4,rfl,_⟩,⟨A5,n5,b5,rfl,_⟩⟩:=hR.when_.sls;obtain ⟨A6,n6,b6,rfl,_⟩:=hR.args;obtain ⟨⟨A7,n7,b7,rfl,_⟩,⟨A8,n8,b8,rfl,_⟩⟩:=hR.value.sls;refine zV ?_;intros;refine zc (YqL h0 h1 hcs0 (hW x (Zm hx))) ?_;by_cases hz:YaQ d all vars x du=0
  ·rw [hz,show errV 0=.nilIface from rfl];exact vM (h:=by exact YL hh hx hz)
  rw [Yg hz];exact vR (h:=by rw [W8,Yhi (E:=fun x=>YaQ d all vars x du) hx hh hz,Yg hz])
 have hA:=Xu hh Zi;exact vR (h:=by rw [W8,Yet hA];rfl)
def YjG (d:Domain):Bs × Int:=match d.duratives with
 | []=>(⟨#[]⟩,0)
 | _::_=>match d.actions with
  | a::_=>(Yac++a.name,6)
  | []=>match d.functions with
   | f::_=>(XG++f.name,6)
   | []=>(⟨#[]⟩,0)
theorem get0 {α:Type} {l:List α} (h:0<l.length):∃ x r,l=x::r:=by cases l with
 | nil=>simp at h
 | cons x r=>exact ⟨x,r,rfl⟩
theorem cknd_q {vf vg vo:Value} (h:CkR fz v d p all vf vp vg vo) (hs:NmS d all):
 QFn prog 104 [v] fz (resV (YjG d)):=by
 obtain ⟨gc,v1,v2,v3,v4,v5,v6,u1,u2,u3,u4,u5,u6,u7,Aa,na,ca,rfl,hc,hD,hP,hall⟩:=h;obtain ⟨⟨A1,n1,b1,rfl,i1⟩,⟨A2,n2,b2,rfl,i2⟩,⟨A3,n3,b3,rfl,i3⟩,⟨A4,n4,b4,rfl,i4⟩,⟨A5,n5,b5,rfl,i5⟩,⟨A6,n6,b6,rfl,i6⟩⟩:=hD.sls;have l3:=i3.len;have l4:=i4.len;have l5:=i5.len;have l6:=i6.len;have la:=hall.len;have s3:=i3.short;have s4:=i4.short;have s5:=i5.short;have s6:=i6.short;have sa:=hall.short;refine qF Tryz.func104 Tryz.ntmps104 (fun w0=>?_);refine vC ?_ ?_<;>intro c1
 ·have h0:d.duratives=[]:=List.eq_nil_of_length_eq_zero Zi;exact vS (h:=by exact (by rw [YjG,h0];rfl))
 obtain ⟨u,r,h0⟩:=get0 (l:=d.duratives) Zi;refine vC ?_ ?_<;>intro c2
 ·obtain ⟨x,r2,h2⟩:=get0 (l:=d.actions) Zi;have hxs:=hs.a x (by rw [h2];simp);have hx:d.actions[0]?=some x:=by rw [h2];rfl
  refine vI i5 hx (fun p1 hp=>?_);refine vH hp.Action_name (fun hxn=>?_);refine zG ?_;refine Wa Zz Zz (by show _+_<=_;exact Nat.le_trans (Nat.add_le_add_left hxs _) Zh) ?_;exact vS (h:=by exact (by rw [YjG,h0,h2];rfl))
 have h2:d.actions=[]:=List.eq_nil_of_length_eq_zero Zi;refine vC ?_ ?_<;>intro c3
 ·obtain ⟨x,r3,h3⟩:=get0 (l:=d.functions) Zi;have hxs:=hs.f x (by rw [h3];simp);have hx:d.functions[0]?=some x:=by rw [h3];rfl
  refine vI i4 hx (fun p1 hp=>?_);refine vH hp.Function_name (fun hxn=>?_);refine zG ?_;refine Wa Zz Zz (by show _+_<=_;exact Nat.le_trans (Nat.add_le_add_left hxs _) Zh) ?_;exact vS (h:=by exact (by rw [YjG,h0,h2,h3];rfl))
 have h3:d.functions=[]:=List.eq_nil_of_length_eq_zero Zi;exact vS (h:=by exact (by rw [YjG,h0,h2,h3];rfl))
def codeF (f:Function):Int:=if f.hi<f.lo then 7 else if 64<=f.hi - f.lo then 5 else 0
def YjD (a:Action):Int:=if 1048576<a.cost then 1 else 0
def YjC (a:Durative):Int:=if a.duration<1\/62<a.duration then 1 else 0
def numsL (d:Domain):List (Bs × Int):=
 d.functions.map (fun x=>(XG++x.name,codeF x))++(d.actions.map (fun x=>(Yac++x.name,YjD x))++(d.duratives.map (fun x=>(XH++x.name,YjC x))++ []))
theorem Ypz {vf vg vo:Value} (h:CkR fz v d p all vf vp vg vo) (hs:NmS d all) (hn:∀ f∈d.functions,Yca f.lo/\Yca f.hi):
 QFn prog 105 [v] fz (resV (Xn (fun n=>n) (numsL d))):=by
 obtain ⟨gc,v1,v2,v3,v4,v5,v6,u1,u2,u3,u4,u5,u6,u7,Aa,na,ca,rfl,hc,hD,hP,hall⟩:=h;obtain ⟨⟨A1,n1,b1,rfl,i1⟩,⟨A2,n2,b2,rfl,i2⟩,⟨A3,n3,b3,rfl,i3⟩,⟨A4,n4,b4,rfl,i4⟩,⟨A5,n5,b5,rfl,i5⟩,⟨A6,n6,b6,rfl,i6⟩⟩:=hD.sls;have l3:=i3.len;have l4:=i4.len;have l5:=i5.len;have l6:=i6.len;have la:=hall.len;have s3:=i3.short;have s4:=i4.short;have s5:=i5.short;have s6:=i6.short;have sa:=hall.short;refine qF Tryz.func105 Tryz.ntmps105 (fun w0=>?_);refine zV ?_;refine Yav n4 (fun k=>[(16,Zk k),(15,Zk n4),(14,Zc A4 n4 b4),(0,Zp gc)]) [] (fun k=>(∀ i,i<k->∀ x,d.functions[i]?=some x->codeF x=0)) (fun i hi=>absurd hi Zi) ?_;intro k hk hh;refine vC ?_ ?_<;>intro c1
 ·obtain ⟨x,hx⟩:=Ye (l:=d.functions) (k:=k) Zi;have hxm:=Zm hx;have hxs:=hs.f x hxm;refine vI i4 hx (fun p1 hp=>?_);refine zL hp ?_;intro cs hcs;obtain ⟨w1,rfl,hR⟩:=YW hcs;obtain ⟨Ap,np,cp,rfl,ip⟩:=hR.params;have hnx:=hn x hxm;obtain ⟨hn1,hn2⟩:=hnx;unfold Yca at hn1 hn2;refine zV ?_;intros;refine zC ?_ ?_<;>intro e1
  ·have e1:=e1;have hz:codeF x=7:=if_pos e1;refine vG ?_;refine Wa Zz Zz (by show _+_<=_;exact Nat.le_trans (Nat.add_le_add_left hxs _) Zh) ?_;exact vS (h:=by exact (by rw [numsL,W0 (l:=d.functions) (E:=fun n=>n) (f:=fun x=>XG++x.name) (g:=codeF) hx hh (by rw [hz];decide),hz];rfl))
  refine vC ?_ ?_<;>intro e2
  ·have e2:=e2;have hz:codeF x=5:=by rw [codeF,if_neg e1,if_pos e2]
   refine vG ?_;refine Wa Zz Zz (by show _+_<=_;exact Nat.le_trans (Nat.add_le_add_left hxs _) Zh) ?_;exact vS (h:=by exact (by rw [numsL,W0 (l:=d.functions) (E:=fun n=>n) (f:=fun x=>XG++x.name) (g:=codeF) hx hh (by rw [hz];decide),hz];rfl))
  have e2:=e2;have hz:codeF x=0:=by rw [codeF,if_neg e1,if_neg e2]
  exact vM (h:=by exact YL hh hx hz)
 have hzf:=fun x (hx:x∈d.functions)=>(by obtain ⟨i,hi⟩:=List.getElem?_of_mem hx;exact Xu hh Zi x hx:codeF x=0)
 refine zV ?_;refine Yav n5 (fun k=>[(48,Zk k),(47,Zk n5),(46,Zc A5 n5 b5),(0,Zp gc)]) [] (fun k=>(∀ i,i<k->∀ x,d.actions[i]?=some x->YjD x=0)) (fun i hi=>absurd hi Zi) ?_;intro k hk hh;refine vC ?_ ?_<;>intro c1
 ·obtain ⟨x,hx⟩:=Ye (l:=d.actions) (k:=k) Zi;have hxm:=Zm hx;have hxs:=hs.a x hxm;refine vI i5 hx (fun p1 hp=>?_);refine zL hp ?_;intro cs hcs;obtain ⟨w1,w2,w3,w4,w5,w6,rfl,hR⟩:=Xh hcs;obtain ⟨Ap,np,cp,rfl,ip⟩:=hR.params;obtain ⟨⟨B0,e0,j0,rfl,_⟩,⟨B1,e1,j1,rfl,_⟩,⟨B2,e2,j2,rfl,_⟩,⟨B3,e3,j3,rfl,_⟩⟩:=hR.pre.sls;obtain ⟨B4,e4,j4,rfl,_⟩:=hR.changes;refine zV ?_;intros;refine zC ?_ ?_<;>intro e1
  ·have e1:=e1;have hz:YjD x=1:=if_pos e1;refine vG ?_;refine Wa Zz Zz (by show _+_<=_;exact Nat.le_trans (Nat.add_le_add_left hxs _) Zh) ?_;exact vS (h:=by exact (by rw [numsL,Xb (l:=d.functions) (E:=fun n=>n) (f:=fun x=>XG++x.name) (g:=codeF) hzf,W0 (l:=d.actions) (E:=fun n=>n) (f:=fun x=>Yac++x.name) (g:=YjD) hx hh (by rw [hz];decide),hz];rfl))
  have e1:=e1;have hz:YjD x=0:=if_neg e1;exact vM (h:=by exact YL hh hx hz)
 have hza:=fun x (hx:x∈d.actions)=>(by obtain ⟨i,hi⟩:=List.getElem?_of_mem hx;exact Xu hh Zi x hx:YjD x=0)
 refine zV ?_;refine Yav n6 (fun k=>[(66,Zk k),(65,Zk n6),(64,Zc A6 n6 b6)]) [] (fun k=>(∀ i,i<k->∀ x,d.duratives[i]?=some x->YjC x=0)) (fun i hi=>absurd hi Zi) ?_;intro k hk hh;refine vC ?_ ?_<;>intro c1
 ·obtain ⟨x,hx⟩:=Ye (l:=d.duratives) (k:=k) Zi;have hxm:=Zm hx;have hxs:=hs.u x hxm;refine vI i6 hx (fun p1 hp=>?_);refine zL hp ?_;intro cs hcs;obtain ⟨w0,w1,w2,w3,w4,w5,w6,w7,w8,w9,w10,w11,w12,w13,w14,rfl,hR⟩:=YZ hcs;obtain ⟨Ap,np,cp,rfl,ip⟩:=hR.params;obtain ⟨⟨B0,e0,j0,rfl,_⟩,⟨B1,e1,j1,rfl,_⟩,⟨B2,e2,j2,rfl,_⟩,⟨B3,e3,j3,rfl,_⟩⟩:=hR.start.sls;obtain ⟨⟨B4,e4,j4,rfl,_⟩,⟨B5,e5,j5,rfl,_⟩,⟨B6,e6,j6,rfl,_⟩,⟨B7,e7,j7,rfl,_⟩⟩:=hR.over.sls;obtain ⟨⟨B8,e8,j8,rfl,_⟩,⟨B9,e9,j9,rfl,_⟩,⟨B10,e10,j10,rfl,_⟩,⟨B11,e11,j11,rfl,_⟩⟩:=hR.fin.sls;obtain ⟨B12,e12,j12,rfl,_⟩:=hR.atStart;obtain ⟨B13,e13,j13,rfl,_⟩:=hR.atEnd;refine zV ?_;intros;refine zC ?_ ?_<;>intro e1
  ·have e1:=e1;have hz:YjC x=1:=if_pos (.inl e1);refine vG ?_;refine Wa Zz Zz (by show _+_<=_;exact Nat.le_trans (Nat.add_le_add_left hxs _) Zh) ?_;exact vS (h:=by exact (by rw [numsL,Xb (l:=d.functions) (E:=fun n=>n) (f:=fun x=>XG++x.name) (g:=codeF) hzf,Xb (l:=d.actions) (E:=fun n=>n) (f:=fun x=>Yac++x.name) (g:=YjD) hza,W0 (l:=d.duratives) (E:=fun n=>n) (f:=fun x=>XH++x.name) (g:=YjC) hx hh (by rw [hz];decide),hz];rfl))
  refine vC ?_ ?_<;>intro e2
  ·have e2:=e2;have hz:YjC x=1:=if_pos (.inr e2);refine vG ?_;refine Wa Zz Zz (by show _+_<=_;exact Nat.le_trans (Nat.add_le_add_left hxs _) Zh) ?_;exact vS (h:=by exact (by rw [numsL,Xb (l:=d.functions) (E:=fun n=>n) (f:=fun x=>XG++x.name) (g:=codeF) hzf,Xb (l:=d.actions) (E:=fun n=>n) (f:=fun x=>Yac++x.name) (g:=YjD) hza,W0 (l:=d.duratives) (E:=fun n=>n) (f:=fun x=>XH++x.name) (g:=YjC) hx hh (by rw [hz];decide),hz];rfl))
  have e2:=e2;have hz:YjC x=0:=if_neg (fun h=>h.elim e1 e2);exact vM (h:=by exact YL hh hx hz)
 have hzu:=fun x (hx:x∈d.duratives)=>(by obtain ⟨i,hi⟩:=List.getElem?_of_mem hx;exact Xu hh Zi x hx:YjC x=0)
 exact vS (h:=by exact (by rw [numsL,Xb (l:=d.functions) (E:=fun n=>n) (f:=fun x=>XG++x.name) (g:=codeF) hzf,Xb (l:=d.actions) (E:=fun n=>n) (f:=fun x=>Yac++x.name) (g:=YjD) hza,Xb (l:=d.duratives) (E:=fun n=>n) (f:=fun x=>XH++x.name) (g:=YjC) hzu];rfl))
def wPre:Bs:=⟨#[58,32,112,114,101,99,111,110,100,105,116,105,111,110]⟩
def wEff:Bs:=⟨#[58,32,101,102,102,101,99,116]⟩
def YmH:Bs:=⟨#[58,32]⟩
def wAt:Bs:=⟨#[58,32,101,102,102,101,99,116,32,97,116,32]⟩
def Ydi:Bs:=⟨#[115,116,97,114,116]⟩
def YnO:Bs:=⟨#[111,118,101,114]⟩
def wEnd:Bs:=⟨#[101,110,100]⟩
abbrev idN:Int->Int:=fun n=>n
def Zer (l:List (Bs × Int)):Prop:=∀ q∈l,q.2=0
theorem Yb6 {p:Bs} {e:Int} {l:List (Bs × Int)} (h:e≠0):Xn idN ((p,e)::l)=(p,e):=by rw [Xn,if_neg h]
theorem Ya2 {p:Bs} {e:Int} {l:List (Bs × Int)} (h:e=0):Xn idN ((p,e)::l)=Xn idN l:=by rw [Xn,if_pos h]
theorem YfL:∀ {a r:List (Bs × Int)},Zer a->Xn idN (a++r)=Xn idN r
 | [],r,_=>rfl
 | (p,e)::a,r,h=>by rw [List.cons_append,Ya2 (h (p,e) (by simp))];exact YfL (fun q hq=>h q (by simp [hq]))
theorem Yjq {α:Type} {g:α->List (Bs × Int)} {r:List (Bs × Int)}:∀ {l:List α},(∀ x∈l,Zer (g x))->Xn idN (l.flatMap g++r)=Xn idN r
 | [],_=>rfl
 | x::l,h=>by rw [List.flatMap_cons,List.append_assoc,YfL (h x (by simp))];exact Yjq (fun y hy=>h y (by simp [hy]))
theorem Yl7 {α:Type} {g:α->List (Bs × Int)} {r:List (Bs × Int)}:∀ {l:List α} {k:Nat} {x:α},l[k]?=some x->(∀ i,i<k->∀ y,l[i]?=some y->Zer (g y))->∃ r',Xn idN (l.flatMap g++r)=Xn idN (g x++r')
 | [],k,x,h,_=>by simp at h
 | y::l,0,x,h,_=>by simp at h;subst h;exact ⟨l.flatMap g++r,by rw [List.flatMap_cons,List.append_assoc]⟩
 | y::l,k+1,x,h,hh=>by
  obtain ⟨r',h'⟩:=Yl7 (g:=g) (r:=r) (l:=l) (k:=k) (x:=x) (by simpa using h) (fun i hi z hz=>hh (i+1) Zi z (by simpa using hz));exact ⟨r',by rw [List.flatMap_cons,List.append_assoc,YfL (hh 0 Zi y rfl)];exact h'⟩
def actL (d:Domain) (all:List Param) (a:Action):List (Bs × Int):=[((Yac++a.name)++wPre,formM d all a.params a.pre),((Yac++a.name)++wEff,W8 d all a.params a.changes false)]
def durL (d:Domain) (all:List Param) (a:Durative):List (Bs × Int):=
 [(((XH++a.name)++YmH)++Ydi,Ybr d all a.params a.start),(((XH++a.name)++YmH)++YnO,Ybr d all a.params a.over),(((XH++a.name)++YmH)++wEnd,Ybr d all a.params a.fin),
  (((XH++a.name)++wAt)++Ydi,W8 d all a.params a.atStart true),(((XH++a.name)++wAt)++wEnd,W8 d all a.params a.atEnd true)]
def YaL (d:Domain) (all:List Param):List (Bs × Int):=d.actions.flatMap (actL d all)++(d.duratives.flatMap (durL d all)++ [])
theorem Yli {A:List Change} {s:Nat} (h:s+(A.map Xx).sum<=1000000000):∀ x∈A,s+Xx x<=1000000000:=fun x hx=>by have:=Wh (w:=Xx) hx;omega
theorem nm_le {w n:Bs} {m:Nat} (h:n.size<=1000) (hw:w.size<=m):(w++n).size<=m+1000:=by rw [ByteArray.size_append];omega
theorem nm3 {w n c:Bs} (h:n.size<=1000) (hw:w.size<=1000:=by decide) (hc:c.size<=1000:=by decide):((w++n)++c).size<=10000:=by rw [ByteArray.size_append,ByteArray.size_append];omega
theorem Yeh {a b:Bs} (h:a.size<=10000) (hb:b.size<=10000):a.size+b.size<=9223372036854775807:=by omega
theorem YqW (h:CkG fz v d p all) (hs:NmS d all) (hWa:∀ a∈d.actions,actW a<=1000000000) (hWd:∀ a∈d.duratives,durW a<=1000000000):
 QFn prog 107 [v] fz (resV (Xn idN (YaL d all))):=by
 have h0:=h;obtain ⟨⟨vf,vpp,vg,vo,hck,hF,hPr,hFu,hO⟩,hw⟩:=h;obtain ⟨gc,v1,v2,v3,v4,v5,v6,u1,u2,u3,u4,u5,u6,u7,Aa,na,ca,rfl,hc,hD,hP,hall⟩:=hck;obtain ⟨A5,n5,b5,rfl,i5⟩:=hD.actions;obtain ⟨A6,n6,b6,rfl,i6⟩:=hD.duratives;have l5:=i5.len;have l6:=i6.len;have s5:=i5.short;have s6:=i6.short;refine qF Tryz.func107 Tryz.ntmps107 (fun w0=>?_);refine zV ?_;refine Yav n5 (fun k=>[(22,Zk k),(21,Zk n5),(20,Zc A5 n5 b5),(0,Zp gc)]) [] (fun k=>(∀ i,i<k->∀ x,d.actions[i]?=some x->Zer (actL d all x))) (fun i hi=>absurd hi Zi) ?_;intro k hk hh;refine vC ?_ ?_<;>intro c1
 ·obtain ⟨x,hx⟩:=Ye (l:=d.actions) (k:=k) Zi;have hxm:=Zm hx;have hxs:=hs.a x hxm;have hxw:=hWa x hxm;unfold actW at hxw;obtain ⟨r',hr'⟩:=Yl7 (r:=d.duratives.flatMap (durL d all)++ []) hx hh;have e1:Xn idN (YaL d all)=Xn idN (actL d all x++r'):=hr';refine vI i5 hx (fun p1 hp=>?_);refine zL hp ?_;intro cs hcs;obtain ⟨w1,w2,w3,w4,w5,w6,rfl,hR⟩:=Xh hcs;have hpre:=hR.pre;obtain ⟨Ap,np,cp,rfl,ip⟩:=hR.params;obtain ⟨⟨B0,e0,j0,rfl,_⟩,⟨B1,e1',j1,rfl,_⟩,⟨B2,e2,j2,rfl,_⟩,⟨B3,e3,j3,rfl,_⟩⟩:=hR.pre.sls;obtain ⟨B4,e4,j4,rfl,ic⟩:=hR.changes;have lp:=ip.len;refine zV ?_;intros
  ((refine zG ?_);refine Yc (vs:=[Zy x.pre.op,Zy x.pre.name,Zc B0 e0 j0,Zc B1 e1' j1,Zc B2 e2 j2,Zc B3 e3 j3]) 0 ?_);refine vG ?_;refine YF (YjI h0 ip hpre Zi) ?_;by_cases hz:formM d all x.params x.pre=0
  ·rw [hz,show errV 0=.nilIface from rfl];refine vG ?_;refine YF (Yiw h0 ip ic (Yli Zi)) ?_;by_cases hy:W8 d all x.params x.changes false=0
   ·rw [hy,show errV 0=.nilIface from rfl];exact vM (h:=by exact YL hh hx (by intro q hq;simp only [actL,List.mem_cons,List.not_mem_nil,or_false] at hq;rcases hq with rfl | rfl<;>first | exact hz | exact hy))
   rw [Yg hy];refine vG ?_;refine Wa Zz Zz (Yeh Zh Zi) ?_;refine vG ?_;refine Wa Zz Zz (Yeh (Nat.le_trans (nm_le hxs (by decide:_<=1000)) Zh) Zh) ?_;exact vS (h:=by exact (by rw [e1,actL];simp only [List.cons_append];rw [Ya2 hz,Yb6 hy,resV,Yg hy];rfl))
  rw [Yg hz];refine vG ?_;refine Wa Zz Zz (Yeh Zh Zi) ?_;refine vG ?_;refine Wa Zz Zz (Yeh (Nat.le_trans (nm_le hxs (by decide:_<=1000)) Zh) Zh) ?_;exact vS (h:=by exact (by rw [e1,actL];simp only [List.cons_append];rw [Yb6 hz,resV,Yg hz];rfl))
 have hza:∀ x∈d.actions,Zer (actL d all x):=Xu hh Zi;have e0:Xn idN (YaL d all)=Xn idN (d.duratives.flatMap (durL d all)++ []):=Yjq hza;refine zV ?_;refine Yi (fun q σ fz' H'=>∃ K:Nat,K<=n6/\q=n6 - K/\σ=[(59,Zk K),(58,Zk n6),(57,Zc A6 n6 b6),(0,Zp gc)]/\Le fz fz'/\H'=[]/\(∀ i,i<K->∀ x,d.duratives[i]?=some x->Zer (durL d all x))) ⟨0,Z0 _,rfl,rfl,Zd,rfl,fun i hi=>absurd hi Zi⟩ Zw Zb ?_;rintro q σ fz1 H' ⟨K,hK,rfl,rfl,hlK,rfl,hhK⟩;have h1:=h0.mono hlK;have hc:=hlK _ _ hc;have i6:=i6.mono hlK;refine vC ?_ ?_<;>intro c2
 ·obtain ⟨x,hx⟩:=Ye (l:=d.duratives) (k:=K) Zi;have hxm:=Zm hx;have hxs:=hs.u x hxm;have hxw:=hWd x hxm;unfold durW at hxw;obtain ⟨r',hr'⟩:=Yl7 (r:=[]) hx hhK;have E1:Xn idN (YaL d all)=Xn idN (durL d all x++r'):=e0.trans hr';refine vI i6 hx (fun p1 hp=>?_);refine zL hp ?_;intro cs hcs;obtain ⟨w0,w1,w2,w3,w4,w5,w6,w7,w8,w9,w10,w11,w12,w13,w14,rfl,hR⟩:=YZ hcs;have hst:=hR.start;have hov:=hR.over;have hfi:=hR.fin;obtain ⟨Ap,np,cp,rfl,ip⟩:=hR.params;obtain ⟨⟨B0,e0,j0,rfl,_⟩,⟨B1,e1,j1,rfl,_⟩,⟨B2,e2,j2,rfl,_⟩,⟨B3,e3,j3,rfl,_⟩⟩:=hR.start.sls;obtain ⟨⟨B4,e4,j4,rfl,_⟩,⟨B5,e5,j5,rfl,_⟩,⟨B6,e6,j6,rfl,_⟩,⟨B7,e7,j7,rfl,_⟩⟩:=hR.over.sls;obtain ⟨⟨B8,e8,j8,rfl,_⟩,⟨B9,e9,j9,rfl,_⟩,⟨B10,e10,j10,rfl,_⟩,⟨B11,e11,j11,rfl,_⟩⟩:=hR.fin.sls;obtain ⟨B12,e12,j12,rfl,i12⟩:=hR.atStart;obtain ⟨B13,e13,j13,rfl,i13⟩:=hR.atEnd;have lp:=ip.len;refine zVX ?_;intros;rename_i g;refine Yr (YY (fun σ fz' H'=>σ=[(9,Zp g),(59,Zk K),(58,Zk n6),(57,Zc A6 n6 b6),(0,Zp gc)]/\Le fz1 fz'/\H'=[(g,Zu #[Zy x.name,Zc Ap np cp,Zk x.duration,Zy x.start.op,Zy x.start.name,Zc B0 e0 j0,Zc B1 e1 j1,Zc B2 e2 j2,Zc B3 e3 j3,Zy x.over.op,Zy x.over.name,Zc B4 e4 j4,Zc B5 e5 j5,Zc B6 e6 j6,Zc B7 e7 j7,Zy x.fin.op,Zy x.fin.name,Zc B8 e8 j8,Zc B9 e9 j9,Zc B10 e10 j10,Zc B11 e11 j11,Zc B12 e12 j12,Zc B13 e13 j13] 55)]/\∀ f∈ [x.start,x.over,x.fin],Ybr d all x.params f=0) ?_ ?_)
  ·refine vG ?_;refine Yc (vs:=[Zy x.start.op,Zy x.start.name,Zc B0 e0 j0,Zc B1 e1 j1,Zc B2 e2 j2,Zc B3 e3 j3]) 0 ?_;refine vG ?_;refine Yc (vs:=[Zy x.over.op,Zy x.over.name,Zc B4 e4 j4,Zc B5 e5 j5,Zc B6 e6 j6,Zc B7 e7 j7]) 0 ?_;refine vG ?_;refine Yc (vs:=[Zy x.fin.op,Zy x.fin.name,Zc B8 e8 j8,Zc B9 e9 j9,Zc B10 e10 j10,Zc B11 e11 j11]) 0 ?_;refine zV ?_;refine Ya (Yb (cs:=[Zy x.start.op,Zy x.start.name,Zc B0 e0 j0,Zc B1 e1 j1,Zc B2 e2 j2,Zc B3 e3 j3,Zy x.over.op,Zy x.over.name,Zc B4 e4 j4,Zc B5 e5 j5,Zc B6 e6 j6,Zc B7 e7 j7,Zy x.fin.op,Zy x.fin.name,Zc B8 e8 j8,Zc B9 e9 j9,Zc B10 e10 j10,Zc B11 e11 j11]) (fun gb=>?_));refine zW ?_
   first | refine Wp.freeze Zz (fun fz2 hl2 hb2=>?_) | refine Seq.freeze Zz (fun fz2 hl2 hb2=>?_)
   have hL3:Sl YK fz2 (some ⟨gb,0,none⟩) 3 3 [x.start,x.over,x.fin]:=Wb hb2 (ys:=[(x.start,[Zy x.start.op,Zy x.start.name,Zc B0 e0 j0,Zc B1 e1 j1,Zc B2 e2 j2,Zc B3 e3 j3]),(x.over,[Zy x.over.op,Zy x.over.name,Zc B4 e4 j4,Zc B5 e5 j5,Zc B6 e6 j6,Zc B7 e7 j7]),(x.fin,[Zy x.fin.op,Zy x.fin.name,Zc B8 e8 j8,Zc B9 e9 j9,Zc B10 e10 j10,Zc B11 e11 j11])]) rfl rfl (by
    intro q hq;simp only [List.mem_cons,List.not_mem_nil,or_false] at hq;rcases hq with rfl | rfl | rfl
    ·exact WB (hst.mono hl2)
    ·exact WB (hov.mono hl2)
    exact WB (hfi.mono hl2)) rfl Zh
   have h2:=h1.mono hl2;have ip2:=ip.mono hl2;have hcg:=hl2 _ _ hc;refine zV ?_;refine Yi (fun q σ fz' H'=>∃ k:Nat,k<=3/\q=3 - k/\σ=[(71,Zk k),(70,Zk 3),(69,Zv gb 3 3),(9,Zp g),(59,Zk K),(58,Zk n6),(57,Zc A6 n6 b6),(0,Zp gc)]/\fz2=fz'/\H'=[(g,Zu #[Zy x.name,Zc Ap np cp,Zk x.duration,Zy x.start.op,Zy x.start.name,Zc B0 e0 j0,Zc B1 e1 j1,Zc B2 e2 j2,Zc B3 e3 j3,Zy x.over.op,Zy x.over.name,Zc B4 e4 j4,Zc B5 e5 j5,Zc B6 e6 j6,Zc B7 e7 j7,Zy x.fin.op,Zy x.fin.name,Zc B8 e8 j8,Zc B9 e9 j9,Zc B10 e10 j10,Zc B11 e11 j11,Zc B12 e12 j12,Zc B13 e13 j13] 55)]/\(∀ i,i<k->∀ f,[x.start,x.over,x.fin][i]?=some f->Ybr d all x.params f=0)) ⟨0,Z0 _,rfl,rfl,rfl,rfl,fun i hi=>absurd hi Zi⟩ Zw Zb ?_;rintro q σ fz' H' ⟨k,hk,rfl,rfl,rfl,rfl,hh3⟩;refine vC ?_ ?_<;>intro c3
   ·obtain ⟨f,hf⟩:=Ye (l:=[x.start,x.over,x.fin]) (k:=k) (by show k<3;omega);have hfw:np+fW f<=1000000000:=by
     have:=Zm hf;simp only [List.mem_cons,List.not_mem_nil,or_false] at this;rcases this with rfl | rfl | rfl<;>omega
    obtain ⟨wn,hwn⟩:=Ye (l:=[Ydi,YnO,wEnd]) (k:=k) (by show k<3;omega);have hwl:wn.size<=10:=by
     have:=Zm hwn;simp only [List.mem_cons,List.not_mem_nil,or_false] at this;rcases this with rfl | rfl | rfl<;>decide
    have hwv:([Zy Ydi,Zy YnO,Zy wEnd]:List Value)[k]?=some (Zy wn):=by
     have:([Zy Ydi,Zy YnO,Zy wEnd]:List Value)=[Ydi,YnO,wEnd].map Value.string:=rfl;rw [this,List.getElem?_map,hwn];rfl
    refine vI hL3 hf (fun p3 hp3=>?_);refine zL hp3 ?_;intro cs hcs;obtain ⟨wa,wp,we,wk,rfl,hRf⟩:=Yv hcs;obtain ⟨⟨E1',r1,q1,rfl,_⟩,⟨E2,r2,q2,rfl,_⟩,⟨E3,r3,q3,rfl,_⟩,⟨E4,r4,q4,rfl,_⟩⟩:=hRf.sls;refine zV ?_;intros;refine zc (Yhy h2 ip2 hRf hfw) ?_;by_cases hz:Ybr d all x.params f=0
    ·rw [hz,show errV 0=.nilIface from rfl];exact vM (h:=by exact YL hh3 hf hz)
    rw [Yg hz];refine zV ?_;refine XF [_,_] ?_;refine wG ?_;refine Wa Zz Zz (Yeh Zh Zi) ?_;refine wG ?_;refine Wa Zz Zz (Yeh (Nat.le_trans (nm_le hxs (by decide:_<=1000)) Zh) Zh) ?_;refine Yk ?_;refine zW ?_;refine Yk (Yk (Yk ?_));refine zW ?_;refine pU ?_;refine Yj (Yb (cs:=[Zy Ydi,Zy YnO,Zy wEnd]) (fun gn=>⟨⟨Zd,Zx⟩,?_⟩));refine Ch.qk ⟨Zd,Zx⟩ (XK T Zz Zz Zz Zz Zz Zz Zi Zi ?_);refine Ch.qk ⟨Zd,Zx⟩ (Yx 0 ?_ (hv:=by rw [Int.toNat_natCast];exact hwv));refine Ch.qk ⟨Zd,Zx⟩ (Wa Zz Zz (Yeh (nm3 hxs) Zi) ?_);refine Ch.qk ⟨Zd,Zx⟩ (YV ?_);refine Ch.qk ⟨Zd,Zx⟩ (YV ?_);refine Ch.done ?_;refine zV ?_;refine ret2 rfl rfl rfl Zb ?_;have e2:Xn idN (durL d all x++r')=(((XH++x.name)++YmH)++wn,Ybr d all x.params f):=by
     rw [durL];simp only [List.cons_append];obtain rfl | rfl | rfl:k=0\/k=1\/k=2:=by omega
     ·simp at hf hwn;subst hf;subst hwn;rw [Yb6 hz]
     ·simp at hf hwn;subst hf;subst hwn;rw [Ya2 (hh3 0 Zi _ rfl),Yb6 hz]
     simp at hf hwn;subst hf;subst hwn;rw [Ya2 (hh3 0 Zi _ rfl),Ya2 (hh3 1 Zi _ rfl),Yb6 hz]
    rw [E1,e2,resV,Yg hz];rfl
   have hA:=Xu hh3 (by show 3<=k;omega);exact vN (h:=by exact ⟨rfl,hl2,rfl,hA⟩)
  rintro σ fz2 H' ⟨rfl,hl2,rfl,hA⟩;have h2:=h1.mono hl2;have ip2:=ip.mono hl2;have hcg:=hl2 _ _ hc;have z1:Ybr d all x.params x.start=0:=hA _ (by simp);have z2:Ybr d all x.params x.over=0:=hA _ (by simp);have z3:Ybr d all x.params x.fin=0:=hA _ (by simp);refine zV ?_;refine Ya (Yb (cs:=[Zc B12 e12 j12,Zc B13 e13 j13]) (fun gl=>?_));refine zW ?_;refine Yi (fun q σ fz' H'=>∃ k:Nat,k<=2/\q=2 - k/\σ=[(100,Zk k),(99,Zk 2),(98,Zv gl 2 2),(9,Zp g),(59,Zk K),(58,Zk n6),(57,Zc A6 n6 b6),(0,Zp gc)]/\fz2=fz'/\H'=[(gl,Zu #[Zc B12 e12 j12,Zc B13 e13 j13] 50),(g,Zu #[Zy x.name,Zc Ap np cp,Zk x.duration,Zy x.start.op,Zy x.start.name,Zc B0 e0 j0,Zc B1 e1 j1,Zc B2 e2 j2,Zc B3 e3 j3,Zy x.over.op,Zy x.over.name,Zc B4 e4 j4,Zc B5 e5 j5,Zc B6 e6 j6,Zc B7 e7 j7,Zy x.fin.op,Zy x.fin.name,Zc B8 e8 j8,Zc B9 e9 j9,Zc B10 e10 j10,Zc B11 e11 j11,Zc B12 e12 j12,Zc B13 e13 j13] 55)]/\(∀ i,i<k->∀ l,[x.atStart,x.atEnd][i]?=some l->W8 d all x.params l true=0)) ⟨0,Z0 _,rfl,rfl,rfl,rfl,fun i hi=>absurd hi Zi⟩ Zw Zb ?_;rintro q σ fz' H' ⟨k,hk,rfl,rfl,rfl,rfl,hh2⟩;refine vC ?_ ?_<;>intro c3
  ·obtain ⟨l,hl⟩:=Ye (l:=[x.atStart,x.atEnd]) (k:=k) (by show k<2;omega);have hlw:np+(l.map Xx).sum<=1000000000:=by
    have:=Zm hl;simp only [List.mem_cons,List.not_mem_nil,or_false] at this;rcases this with rfl | rfl<;>omega
   obtain ⟨wn,hwn⟩:=Ye (l:=[Ydi,wEnd]) (k:=k) (by show k<2;omega);have hwl:wn.size<=10:=by
    have:=Zm hwn;simp only [List.mem_cons,List.not_mem_nil,or_false] at this;rcases this with rfl | rfl<;>decide
   have hwv:([Zy Ydi,Zy wEnd]:List Value)[k]?=some (Zy wn):=by
    have:([Zy Ydi,Zy wEnd]:List Value)=[Ydi,wEnd].map Value.string:=rfl;rw [this,List.getElem?_map,hwn];rfl
   obtain ⟨Bl,nl,cl,hlv,il⟩:∃ Bl nl cl,([Zc B12 e12 j12,Zc B13 e13 j13]:List Value)[k]?=some (Zc Bl nl cl)/\Sl changeL fz2 Bl nl cl l:=by
    obtain rfl | rfl:k=0\/k=1:=by omega
    ·simp at hl;subst hl;exact ⟨_,_,_,rfl,i12.mono hl2⟩
    simp at hl;subst hl;exact ⟨_,_,_,rfl,i13.mono hl2⟩
   refine vG ?_;refine XK T Zz Zz Zz Zz Zz Zz Zi Zi ?_;rw [Int.toNat_natCast];refine zG ?_;refine Yx 0 ?_ (hv:=hlv);refine vc (Yiw h2 ip2 il (Yli hlw)) ?_;by_cases hz:W8 d all x.params l true=0
   ·rw [hz,show errV 0=.nilIface from rfl];exact vM (h:=by exact YL hh2 hl hz)
   rw [Yg hz];refine zV ?_;refine XF [_,_] ?_;refine wG ?_;refine Wa Zz Zz (Yeh Zh Zi) ?_;refine wG ?_;refine Wa Zz Zz (Yeh (Nat.le_trans (nm_le hxs (by decide:_<=1000)) Zh) Zh) ?_;refine Yk ?_;refine zW ?_;refine Yk (Yk (Yk ?_));refine zW ?_;refine pU ?_;refine Yj (Yb (cs:=[Zy Ydi,Zy wEnd]) (fun gn=>⟨⟨Zd,Zx⟩,?_⟩));refine Ch.qk ⟨Zd,Zx⟩ (XK T Zz Zz Zz Zz Zz Zz Zi Zi ?_);refine Ch.qk ⟨Zd,Zx⟩ (Yx 0 ?_ (hv:=by rw [Int.toNat_natCast];exact hwv));refine Ch.qk ⟨Zd,Zx⟩ (Wa Zz Zz (Yeh (nm3 hxs) Zi) ?_);refine Ch.qk ⟨Zd,Zx⟩ (YV ?_);refine Ch.qk ⟨Zd,Zx⟩ (YV ?_);refine Ch.done ?_;refine zV ?_;refine ret2 rfl rfl rfl Zb ?_;have e2:Xn idN (durL d all x++r')=(((XH++x.name)++wAt)++wn,W8 d all x.params l true):=by
    rw [durL];simp only [List.cons_append];rw [Ya2 z1,Ya2 z2,Ya2 z3];obtain rfl | rfl:k=0\/k=1:=by omega
    ·simp at hl hwn;subst hl;subst hwn;rw [Yb6 hz]
    simp at hl hwn;subst hl;subst hwn;rw [Ya2 (hh2 0 Zi _ rfl),Yb6 hz]
   rw [E1,e2,resV,Yg hz];rfl
  have hB:=Xu hh2 (by show 2<=k;omega);have y1:W8 d all x.params x.atStart true=0:=hB _ (by simp);have y2:W8 d all x.params x.atEnd true=0:=hB _ (by simp);exact vP (h:=by exact ⟨K+1,by omega,rfl,rfl,hlK.trans hl2,rfl,YL hhK hx (by intro q hq;simp only [durL,List.mem_cons,List.not_mem_nil,or_false] at hq;rcases hq with rfl | rfl | rfl | rfl | rfl<;>first | exact z1 | exact z2 | exact z3 | exact y1 | exact y2)⟩)
 have hzd:∀ x∈d.duratives,Zer (durL d all x):=Xu hhK Zi;exact vS (h:=by exact (by rw [e0,Yjq hzd];rfl))
end Go.Proofs.YtiligkgjcmokbaaGreatDoor
namespace Go.Proofs.YtiligkgjcmokbaaGreatDoor
variable {w w':World}
theorem Yji (h:Below w.heap.size w w'):Fr [] w w':=⟨h.os,h.tape,h.output,h.size,fun b hb _=>h.block b hb,fun h=>h.elim⟩
end Go.Proofs.YtiligkgjcmokbaaGreatDoor
namespace Go.Proofs
open Go.Shelf
def YaM:Go.Shelf.Ren:=⟨fun | 156=>229 | 165=>276 | 166=>232 | 169=>234 | 240=>277 | 241=>299 | 276=>300 | 277=>322 | n=>n,fun | 31=>31 | 9=>9 | 3=>3 | 4=>4 | 0=>0 | 20=>20 | 72=>296 | 76=>297 | 70=>293 | 37=>294 | 75=>43 | 127=>330 | 164=>346 | 5=>5 | 80=>300 | n=>n,fun | n=>n⟩
theorem Yck:Go.Proofs.Lays.n156 Tryz.prog YaM:={
 mixed:=by kernel_rfl
 f156:=Tryz.func229.trans (congrArg some (by kernel_rfl))
 f165:=Tryz.func276.trans (congrArg some (by kernel_rfl))
 f166:=Tryz.func232.trans (congrArg some (by kernel_rfl))
 f169:=Tryz.func234.trans (congrArg some (by kernel_rfl))
 f240:=Tryz.func277.trans (congrArg some (by kernel_rfl))
 f241:=Tryz.func299.trans (congrArg some (by kernel_rfl))
 f276:=Tryz.func300.trans (congrArg some (by kernel_rfl))
 f277:=Tryz.func322.trans (congrArg some (by kernel_rfl))
 t0:=Tryz.underlying0
 a0:=Tryz.isAgg0
 z0:=Tryz.sizeOf0
 v0:=Tryz.zeroValue0
 t3:=Tryz.underlying3
 a3:=Tryz.isAgg3
 z3:=Tryz.sizeOf3
 v3:=Tryz.zeroValue3
 t4:=Tryz.underlying4
 a4:=Tryz.isAgg4
 z4:=Tryz.sizeOf4
 v4:=Tryz.zeroValue4
 t9:=Tryz.underlying9
 a9:=Tryz.isAgg9
 z9:=Tryz.sizeOf9
 v9:=Tryz.zeroValue9
 t20:=Tryz.underlying20
 a20:=Tryz.isAgg20
 z20:=Tryz.sizeOf20
 v20:=Tryz.zeroValue20
 t31:=Tryz.underlying31
 a31:=Tryz.isAgg31
 z31:=Tryz.sizeOf31
 v31:=Tryz.zeroValue31
 t37:=Tryz.underlying294
 a37:=Tryz.isAgg294
 z37:=Tryz.sizeOf294
 v37:=Tryz.zeroValue294
 t70:=Tryz.underlying293
 a70:=Tryz.isAgg293
 z70:=Tryz.sizeOf293
 v70:=Tryz.zeroValue293
 t72:=Tryz.underlying296
 a72:=Tryz.isAgg296
 z72:=Tryz.sizeOf296
 v72:=Tryz.zeroValue296
 t75:=Tryz.underlying43
 a75:=Tryz.isAgg43
 z75:=Tryz.sizeOf43
 v75:=Tryz.zeroValue43
 t76:=Tryz.underlying297
 a76:=Tryz.isAgg297
 z76:=Tryz.sizeOf297
 v76:=Tryz.zeroValue297
 t127:=Tryz.underlying330
 a127:=Tryz.isAgg330
 z127:=Tryz.sizeOf330
 v127:=Tryz.zeroValue330
 t164:=Tryz.underlying346
 a164:=Tryz.isAgg346
 z164:=Tryz.sizeOf346
 v164:=Tryz.zeroValue346}
theorem Tryz.Builder_Extra_156:Builder.Extra Tryz.prog YaM:={
 sizeBuilder:=by kernel_rfl
 liesBuilder:=by kernel_rfl
 t5:=Tryz.underlying5
 a5:=Tryz.isAgg5
 z5:=Tryz.sizeOf5
 v5:=Tryz.zeroValue5
 infoByte:=by kernel_rfl
 cellsByte:=by kernel_rfl
 sizeByte:=by kernel_rfl
 neB5:=by decide}
open Go.RowKit in
/-- No element: the empty string; the world is as1 it was. (Whatever the slice's address and capacity: a nil slice too.) (LAID: no walk: one application.) -/
theorem Tryz.strings_Join_none (a:Option Addr) (c:Nat) (sep:ByteArray) (w:World):
 Calls Tryz.prog 229 #[.slice a 0 c,.string sep] w fun e w'=>e=.returned (.string ⟨#[]⟩)/\w'=w:=Any.strings_Join_none Yck Tryz.Builder_Extra_156 a c sep w
open Go.RowKit in
/-- strings.Join: "Join concatenates the elements of its first argument to create a single string. The separator string sep is placed between elements in the resulting string.": HOWEVER MANY ELEMENTS. Below the heap's end the world is as1 it was. (LAID: no walk: one application.) -/
theorem Tryz.strings_Join (bk o c:Nat) (xs:List ByteArray) (sep:ByteArray) (w:World) (hcells:∀ (j:Nat) x,xs[j]?=some x->w.cell? ⟨bk,o+j,none⟩=some (.string x)) (hbk:bk<w.heap.size) (hN:xs.length<=140737488355328) (hcap:xs.length<=c) (hlen:(Lib.join (xs.map (·.data.toList)) sep.data.toList).length<=140737488355328):
 Calls Tryz.prog 229 #[.slice (some ⟨bk,o,none⟩) xs.length c,.string sep] w fun e w'=>e=.returned (.string ⟨(Lib.join (xs.map (·.data.toList)) sep.data.toList).toArray⟩)/\Below w.heap.size w w':=Any.strings_Join Yck Tryz.Builder_Extra_156 bk o c xs sep w hcells hbk hN hcap hlen
end Go.Proofs
namespace Go.Proofs.YtiligkgjcmokbaaGreatDoor
variable {A:Option Addr} {c n:Nat} {fz:FZ} {all:List Param}
theorem joinS_q {l:List Bs} (h:Sl strL fz A n c l) (hlen:(Lib.join (l.map (·.data.toList)) [32]).length<=1000000000):
 QFn prog 229 [Zc A n c,Zy ⟨#[32]⟩] fz (Zy (strOf (Lib.join (l.map (·.data.toList)) [32]))):=by
 unfold QFn;refine ⟨⟨_,Tryz.func229,by decide,by decide⟩,fun w hw=>?_⟩;have h1:=h.len;have h2:=h.cap;have h3:=h.short;cases l with
 | nil=>
  simp at h1;subst h1;refine (Tryz.strings_Join_none A c ⟨#[32]⟩ w).mono fun e w' ⟨he,hb⟩=>⟨?_,by subst hb;exact Fr.refl _ _⟩
  rw [he];rfl
 | cons x r=>
  rcases h.elem with h0 | ⟨ad,rfl,hE⟩
  ·rw [h0] at h1;simp at h1
  have hc:∀ (j:Nat) y,(x::r)[j]?=some y->YcG fz (ad.add j)=some (Zy y):=fun j y hy=>by
   have h4:=hE j y hy;rw [show strL.size=1 from rfl,Nat.mul_one] at h4;obtain ⟨v,hv,hcell⟩:=h4.cell rfl;obtain ⟨e,_⟩:=hv;simp at e;rw [hcell,e]
  have hc0:=hc 0 x rfl;have ha0:ad.add 0=ad:=by unfold Addr.add;rw [if_pos rfl]
  rw [ha0] at hc0;obtain ⟨g,off,sp⟩:=ad;cases sp with
  | some s=>
   unfold YcG at hc0;split at hc0
   ·simp at hc0
   cases hc0
  | none=>
   have hcells:∀ (j:Nat) y,(x::r)[j]?=some y->w.cell? ⟨g,off+j,none⟩=some (Zy y):=fun j y hy=>by
    rw [<- Ymu];exact hw.cell (hc j y hy)
   have hg:g<w.heap.size:=by
    have h9:=hcells 0 x rfl;simp only [World.cell?] at h9;split at h9
    ·rename_i hq;exact (Array.getElem?_eq_some_iff.1 hq).1
    cases h9
   have:=Tryz.strings_Join g off c (x::r) ⟨#[32]⟩ w hcells hg Zi Zi (Nat.le_trans hlen Zh);rw [h1] at this;exact this.mono fun e w' ⟨he,hb⟩=>⟨he,Yji hb⟩
def YoO (name:Bs) (args:List Bs):Bs:=(name++⟨#[32]⟩)++strOf (Lib.join (args.map (·.data.toList)) [32])
def NmsS (l:List Bs):Prop:=l.length<=64/\∀ x∈l,x.size<=1000
theorem jt_len:∀ (l:List (List UInt8)),(∀ x∈l,x.length<=1000)->(Lib.joinTail [32] l).length<=l.length*1001
 | [],_=>by simp [Lib.joinTail]
 | x::r,h=>by
  have h1:=h x (by simp);have h2:=jt_len r (fun z hz=>h z (by simp [hz]));have h3:Lib.joinTail [32] (x::r)=([32]++x)++Lib.joinTail [32] r:=by simp [Lib.joinTail]
  rw [h3,List.length_append,List.length_append];simp only [List.length_cons,List.length_nil];omega
theorem YpU (l:List (List UInt8)) (h:∀ x∈l,x.length<=1000):(Lib.join l [32]).length<=l.length*1001:=by
 cases l with
 | nil=>simp [Lib.join_nil]
 | cons x r=>
  have h1:=h x (by simp);have h2:=jt_len r (fun z hz=>h z (by simp [hz]));rw [Lib.join_cons,List.length_append];simp only [List.length_cons];omega
theorem text_len {args:List Bs} (h:NmsS args):(Lib.join (args.map (·.data.toList)) [32]).length<=100000:=by
 have h1:=YpU (args.map (·.data.toList)) (fun x hx=>by obtain ⟨y,hy,rfl⟩:=List.mem_map.1 hx;exact h.2 y hy);rw [List.length_map] at h1;have:=h.1;omega
theorem YoN {name:Bs} {args:List Bs} (h:Sl strL fz A n c args) (hn:name.size<=1000) (ha:NmsS args):
 QFn prog 170 [Zy name,Zc A n c] fz (Zy (YoO name args)):=by
 have ht:=text_len ha;refine qF Tryz.func170 Tryz.ntmps170 (fun w0=>?_);refine vG ?_;refine Wa Zz Zz (by show _+1<=_;omega) ?_;refine vG ?_;refine YF (joinS_q h Zi) ?_;refine vG ?_;refine Wa Zz Zz (by rw [ByteArray.size_append,WW];show _+1+_<=_;omega) ?_;exact vR (h:=rfl)
def Ycp (tys all:List Param) (ks:List Bs) (name:Bs):List Param->List Bs->Prop
 | [],args=>YoO name args ∉ ks
 | p::r,args=>∃ x∈ofT tys p.typ all,Ycp tys all ks name r (args++ [x])
theorem of_mem {tys:List Param} {t x:Bs} (h:x∈ofT tys t all) (ha:∀ o∈all,o.name.size<=1000):x.size<=1000:=by
 unfold ofT at h;obtain ⟨o,ho,rfl⟩:=List.mem_map.1 h;exact ha o (List.mem_filter.1 ho).1
theorem Yok {l:List Bs} (h:Sl strL fz A n c l) (hn:n<=1000000000):
 GFn prog 55 [Zc A n c] fz [] (fun v fz' H'=>Grow strL 9 fz' v n H' l):=by
 have l1:=h.len;refine zF Tryz.func55 Tryz.ntmps55 (fun w0=>?_);refine vG ?_;refine WI (fun eA=>?_) (fun eA=>?_)
 ·subst eA;have hl:l=[]:=by
   rcases h.elem with h0 | ⟨_,h0,_⟩
   ·exact List.eq_nil_of_length_eq_zero Zi
   cases h0
  subst hl;simp at l1;subst l1;refine zV ?_;refine Yel (H':=[]) (H2:=[]) rfl rfl (Zr _) (fun fz3 hle3 _=>Grow.nil _ _ _)
 refine zV ?_;refine Ya (W7 (fun gb=>?_));refine zV ?_;refine Ya (WZ T (Hr:=[]) (n:=0) (l:=[]) Zz Zz Zz Zz Zz Zz Zz Zz (Zr _) (Grow.block (ys:=[]) rfl rfl (by intro p hp;cases hp) rfl) YgJ h (by show _*16<=_;omega) Zi (fun v' Hs' hO'=>?_));obtain ⟨Av',cv',rfl,_,_⟩:=hO'.form;refine zV ?_;refine Yel (H':=Hs') (H2:=[]) rfl rfl (by simp) (fun fz3 hle3 _=>(hO'.mono hle3).of (by simp) Zi)
theorem YkG:∀ (ps:List Param) {fz:FZ} {v:Value} {d:Domain} {p:Problem} {all params:List Param} {gm:Nat} {m:List (Bs × Value)} {ks args:List Bs} {name:Bs} {A B:Option Addr} {na ca n c:Nat},CkG fz v d p all->fz gm=some (mapS m)->Ydp m ks->Sl paramL fz B n c params->Sl strL fz A na ca args->params.drop na=ps->na<=n->n<=64->name.size<=1000->NmsS args->(∀ x∈all,x.name.size<=1000)->all.length<=1000000000->
 QFn prog 171 [v,.map (some gm),Zy name,Zc B n c,Zc A na ca] fz (Zo (decide (Ycp d.types all ks name ps args)))
 | ps,fz,v,d,p,all,params,gm,m,ks,args,name,A,B,na,ca,n,c,h,hgm,hks,h1,h2,hps,hnn,h64,hnm,hag,hal,hall0=>by
  have h0:=h;obtain ⟨⟨vf,vpp,vg,vo,hck,hF,hPr,hFu,hO⟩,hw⟩:=h;obtain ⟨gc,w1,w2,w3,w4,w5,w6,u1,u2,u3,u4,u5,u6,u7,Aa,nl,cl,rfl,hc,hD,hP,hall⟩:=hck;have l1:=h1.len;have l2:=h2.len;have ll:=hall.len;refine qF Tryz.func171 Tryz.ntmps171 (fun w0=>?_);refine vC ?_ ?_<;>intro c1
  ·have hnil:ps=[]:=by rw [<- hps,List.drop_eq_nil_of_le Zi]
   subst hnil;refine vc (YoN h2 hnm hag) ?_;refine vG ?_;refine YbE (v:=Zo (decide (YoO name args∈ks))) hgm ?_ (hv:=hks.get);refine zV ?_
   (exact ret1 rfl rfl Zb (by
    by_cases h9:YoO name args∈ks
    ·rw [decide_eq_true h9,decide_eq_false (fun h8:Ycp d.types all ks name [] args=>h8 h9)];rfl
    rw [decide_eq_false h9,decide_eq_true (show Ycp d.types all ks name [] args from h9)];rfl))
  obtain ⟨x,hx⟩:=Ye (l:=params) (k:=na) Zi;obtain ⟨r,hr⟩:∃ r,ps=x::r:=⟨params.drop (na+1),by rw [<- hps];exact List.drop_eq_getElem_cons Zi |>.trans (by rw [(Zg hx).2])⟩;have hr2:params.drop (na+1)=r:=by
   have h9:params.drop na=x::r:=by rw [hps,hr]
   rw [<- List.drop_drop,h9];rfl
  rw [hr];refine zWN ?_;refine XF [] ?_;refine wI h1 hx (fun p1 hp1=>?_);refine wH hp1.Param_typ (fun hxs=>?_);refine Yk (Yk ?_);refine zW ?_;refine QK.dz ?_;refine Yj (Ym [] [] Zz (of_q hF hw hall Zi) (fun v6 fz6 H6 hle6 hR6=>⟨⟨hle6,by intro p hp;cases hp⟩,?_⟩));obtain ⟨rfl,B2,m2,c2,rfl,hof⟩:=hR6;refine Ch.qk ⟨hle6,by intro p hp;cases hp⟩ (Yw ?_);refine Ch.done ?_;have lo:=hof.len;have so:=hof.short;refine zV ?_;refine Yi (fun q σ fz' H'=>∃ k:Nat,k<=m2/\q=m2 - k/\σ=[(40,Zk k),(39,Zk m2),(38,Zc B2 m2 c2),(0,Zp gc),(1,.map (some gm)),(2,Zy name),(3,Zc B n c),(4,Zc A na ca)]/\Le fz6 fz'/\H'=[]/\(∀ i,i<k->∀ y,(ofT d.types x.typ all)[i]?=some y->¬Ycp d.types all ks name r (args++ [y]))) ⟨0,Z0 _,rfl,rfl,Zd,rfl,fun i hi=>absurd hi Zi⟩ Zw Zb ?_;rintro q σ fz1 H' ⟨k,hk,rfl,rfl,hl1,rfl,hh⟩;have hle:=hle6.trans hl1;refine vC ?_ ?_<;>intro c2
  ·obtain ⟨y,hy⟩:=Ye (l:=ofT d.types x.typ all) (k:=k) Zi;have hof1:=hof.mono hl1;have h21:=h2.mono hle;have hag':NmsS (args++ [y]):=⟨by rw [List.length_append];simp;omega,fun z hz=>by
    rcases List.mem_append.1 hz with hz | hz
    ·exact hag.2 z hz
    simp at hz;subst hz;exact of_mem (Zm hy) hal⟩
   refine vI hof1 hy (fun p2 hp2=>?_);refine zH hp2 (fun hys=>?_);refine zV ?_;refine Ya (Ym [] [] Zz (Yok h21 Zi) (fun v7 fz7 H7 hle7 hR7=>?_));obtain ⟨Av,cv,rfl,_,_⟩:=hR7.form;have hR8:Grow strL 9 fz7 (Zc Av na cv) na (H7++ []) args:=by rw [List.append_nil];exact hR7
   refine zV ?_;refine Ya (Yb (cs:=[Zy y]) (fun gb=>?_));refine Ya (YN (Hr:=[_]) (n:=na) (d:=y) (Zr _) hR8 YgJ (.head _) ⟨rfl,hys⟩ (fun v' Hs' hO'=>?_));obtain ⟨Av',cv',rfl,_,_⟩:=hO'.form;refine Seq.freezeAll (H1:=[]) (Zr _) (fun fz8 hle8 hf8=>?_);obtain ⟨A8,c8,e8,h8⟩:=hO'.sl hle8 (fun q hq=>hf8 q (by simp [hq])) Zi;injection e8 with e81 e82 e83
   subst e81;subst e83;have hle9:=hle.trans (hle7.trans hle8)
   ((refine zG ?_);refine WJ (YkG r (h0.mono hle9) (hle9 _ _ hgm) hks (h1.mono hle9) h8 hr2 Zi h64 hnm hag' hal hall0) (fun f1=>?_) (fun f1=>?_))
   ·exact vR (h:=by exact Yu (by rw [Ycp];exact ⟨y,Zm hy,Zt f1⟩))
   exact vP (h:=by exact ⟨k+1,by omega,rfl,rfl,hl1.trans (hle7.trans hle8),rfl,YL (p:=fun y=>¬Ycp d.types all ks name r (args++ [y])) hh hy (Zf f1)⟩)
  have hA:=Xu (p:=fun y=>¬Ycp d.types all ks name r (args++ [y])) hh Zi;exact vR (h:=by exact Yl (by rw [Ycp];rintro ⟨y,hy,h9⟩;exact hA y hy h9))
 termination_by ps=>ps.length
 decreasing_by rw [hr];simp
end Go.Proofs.YtiligkgjcmokbaaGreatDoor
namespace Go.Proofs.YtiligkgjcmokbaaGreatDoor
abbrev EnvM:=Bs->Option Bs
def setE (E:EnvM) (x a:Bs):EnvM:=fun y=>if y=x then some a else E y
def valE (E:EnvM) (t:Bs):Bs:=(E t).getD t
def bndA (E:EnvM) (name:Bs) (args:List Bs):Atom:=⟨name,args.map (valE E)⟩
where
 bytes_ext {s t:Bs} (h:s.data.toList=t.data.toList):s=t:=by
  have h1:s.data=s.data.toList.toArray:=by simp
  have h2:t.data=t.data.toList.toArray:=by simp
  exact ByteArray.ext (by rw [h1,h2,h])
def ltB (a b:Bs):Bool:=Op.bytesLess a.toList b.toList
section
set_option linter.unusedSectionVars false
variable [Dr]
section
variable {P:Program} {cx:Cx} {r:Operand->Option Value} {fz:FZ} {H:HP} {V:Value->Prop} {dst:Option Nat} {ty:TypeId} {pos:String} {af:Array Edge} {gd:Option (Nat × Bool)}
theorem Yfq {t t':TypeId} {x y:Operand} {u v:Bs} (ht:ltB u v=true->V (.bool true)) (hf:ltB u v=false->V (.bool false)) (hx:r x=some (.string u):=by exact rfl) (hy:r y=some (.string v):=by exact rfl):DoesQ P cx ⟨dst,.binOp .lss t x y t',ty,pos,af,gd⟩ r fz H V:=
 YC (v:=Zo (ltB u v)) (fun ρ w hr=>by
  simp [execOp,hr _ _ hx,hr _ _ hy,binOp,Op.stringOp,eqGuard,ltB]) (by
  cases h:ltB u v with
  | true=>exact ht h
  | false=>exact hf h)
theorem Yid {t t':TypeId} {x y:Operand} {u v:Bs} (ht:ltB u v=false->u≠v->V (.bool true)) (hf:ltB u v=true\/u=v->V (.bool false)) (hx:r x=some (.string u):=by exact rfl) (hy:r y=some (.string v):=by exact rfl):DoesQ P cx ⟨dst,.binOp .gtr t x y t',ty,pos,af,gd⟩ r fz H V:=
 YC (v:=Zo (!(ltB u v || decide (u=v)))) (fun ρ w hr=>by
  simp [execOp,hr _ _ hx,hr _ _ hy,binOp,Op.stringOp,eqGuard,ltB,YlD]) (by
  cases h:ltB u v with
  | true=>exact hf (.inl h)
  | false=>
   by_cases e:u=v
   ·rw [decide_eq_true e];exact hf (.inr e)
   rw [decide_eq_false e];exact ht h e)
end
end
end Go.Proofs.YtiligkgjcmokbaaGreatDoor
