/- The texts QP, QT, QLB, QV, laid together. Conditions: none. -/
import Derived.Test.YtacfpcbladaohaaGreatDoorSAP
set_option linter.all false
set_option maxHeartbeats 16000000
noncomputable section
set_option maxRecDepth 20000
open Go.Lx Go.RowKit
attribute [local instance 10] Classical.propDecidable
open Go.Proofs.Tryz (prog)
namespace Go.Proofs.YtacfpcbladaohaaGreatDoor
variable {a:Atom} {fz:FZ} {m:List (Bs × Value)}
theorem Yiw {S:List Atom} (h:SetM fz m S) (ha:AtmOk a):∃ (y1:Bs) (y2:Option Addr) (y3 y4:Nat),(fndS m (keyB a) 0).elim (Value.agg #[Ze,Zn]) (·.2)=.agg #[Zy y1,Zc y2 y3 y4]/\(fndS m (keyB a) 0).isSome=decide (a∈S):=by
 have hb:=h.has ha;cases hf:fndS m (keyB a) 0 with
 | none=>exact ⟨_,_,_,_,rfl,by rw [<- hb,hf]⟩
 | some p=>
  have hpv:=(Yat m (keyB a) 0 p.1 p.2 hf).2;rw [Nat.sub_zero] at hpv;have hlt:p.1<S.length:=by have:=(Zg hpv).1;rw [h.2.1] at this;exact this
  obtain ⟨b,hb2⟩:=Yc hlt;obtain ⟨_,vb,h2,h3⟩:=h.2.2 p.1 b hb2;rw [hpv] at h2;injection h2 with h2
  injection h2 with h2 h4
  obtain ⟨B,nb,cb,rfl,_⟩:=h3.args;exact ⟨b.name,B,nb,cb,h4,by rw [<- hb,hf]⟩
theorem YcY:∀ (s:Nat) {fz:FZ} {v vat va vp ve vk:Value} {K:Kn} {gs:Nat} {m:List (Bs × Value)} {S:List Atom} {E:EnvM} {f:Formula},SizeOf.sizeOf f<=s->KnR fz v K->(∀ o∈K.os,PlnS o.name)->fz gs=some (mapS m)->SetM fz m S->FormulaR fz f va vp ve vk->HSh f->EnvR fz vat E->EnvP E->
 QFn prog 28 [v,.map (some gs),.agg #[Zy f.op,Zy f.name,va,vp,ve,vk],vat] fz (Zo (holdsM K S E f))
 | 0,_,_,_,_,_,_,_,_,_,_,_,_,f,hse,_,_,_,_,_,_,_,_=>by cases f;simp at hse
 | s+1,fz,v,vat,va,vp,ve,vk,K,gs,m,S,E,f,hse,hK,hOs,hgs,hSet,hR,hS,hE,hP=>by
  have hR0:=hR;obtain ⟨⟨B1,m1,d1,rfl,ia⟩,⟨B2,m2,d2,rfl,ip⟩,⟨B3,m3,d3,rfl,ie⟩,⟨B4,m4,d4,rfl,ik⟩⟩:=hR.sls;have l1:=ia.len;have l2:=ip.len;have l4:=ik.len;have hps:=hS.pars;have hK0:=hK;obtain ⟨⟨gk,a0,a1,a2,a3,a4,a5,a6,a7,a8,a9,a10,a11,a12,a13,a14,a15,a16,a17,vf,Ao,no,co,gc,gi,mc,mi,rfl,hg,hF,hO,h5,h6,h7,h8⟩,hw,hmany⟩:=hK;have hE0:=hE;obtain ⟨ge,rfl⟩:=hE.form;have ihk:∀ {fz':FZ} {E':EnvM} {vat' wa wp we wk:Value} {x:Formula},x∈f.kids->Le fz fz'->EnvR fz' vat' E'->EnvP E'->FormulaR fz' x wa wp we wk->QFn prog 28 [Zp gk,.map (some gs),.agg #[Zy x.op,Zy x.name,wa,wp,we,wk],vat'] fz' (Zo (holdsM K S E' x)):=
   fun hx hle hE' hP' hRx=>YcY s (by have:=Formula.kids_lt hx;omega) (hK0.mono hle) hOs (hle _ _ hgs) (hSet.mono hle) hRx (hS.kid hx) hE' hP'
  refine qF Tryz.func28 Tryz.ntmps28 (fun w0=>?_);refine pX (fun g4=>?_);refine pY (fun g5=>?_);refine pY (fun g6=>?_);refine pY (fun g7=>?_);refine zWO ?_;by_cases w1:f.op=kAtom
  ·have hat:=hS.atom w1;have hok:=Yqp hP hat;obtain ⟨y1,y2,y3,y4,hlk1,hlk2⟩:=Yiw hSet hok;refine zWN ?_;refine W9 [] [_,_,_,_] ?_;refine zW ?_;refine pT ?_
   repeat' first
    | refine Po.done ?_
    | (refine Yr ?_)
    | (refine XL ?_ ?_)
    | refine Po.three ?_ ?_ ?_
    | (refine Yd (Yh [] [_,_,_,_] Zz (Yg9 hE0 (fun x y h=>(hP x y h).1) ia Zi (Nat.le_trans hat.1.1 Zh)) (fun v2 fz2 H2 hle2 hR2=>⟨⟨hle2,Zx⟩,?_⟩));obtain ⟨rfl,va2,rfl,hRa⟩:=hR2;obtain ⟨Aa,na,ca,rfl,_⟩:=id hRa.args)
    | refine PoS.qk ⟨hle2,Zx⟩ (Yu (key_q hRa hok) ?_)
    | refine PoS.qk ⟨hle2,Zx⟩ (Xe (hle2 _ _ hgs) ?_ (hv:=hlk1) (hb:=hlk2))
    | refine PoS.qk ⟨hle2,Zx⟩ (Yam ?_)
    | refine PoS.qk ⟨hle2,Zx⟩ (WH ?_)
    | refine Yd (XR (fun _=>⟨⟨hle2,Zx⟩,?_⟩))
    | refine Yd (XR (fun _=>⟨⟨Zd,Zx⟩,?_⟩))
    | (refine Yd (Yh [] [_,_,_,_,_] Zz (Yg9 hE0 (fun x y h=>(hP x y h).1) ia Zi (Nat.le_trans hat.1.1 Zh)) (fun v2 fz2 H2 hle2 hR2=>⟨⟨hle2,Zx⟩,?_⟩));obtain ⟨rfl,va2,rfl,hRa⟩:=hR2;obtain ⟨Aa,na,ca,rfl,_⟩:=id hRa.args)
    | refine PoS.hard0 (YP ?_)
    | refine PoS.hard (DoesQ.does (YE ?_))
   all_goals
    exact wR (h:=by rw [XB f,if_pos w1];rfl)
  by_cases w2:f.op=kSame
  ·have h2:=hS.same w2;obtain ⟨x0,hx0⟩:=Yc (l:=f.args) (k:=0) Zi;obtain ⟨x1,hx1⟩:=Yc (l:=f.args) (k:=1) Zi;have hl0:0<m1:=by omega
   have hl1:1<m1:=by omega
   refine wI ia hx0 (fun p1 hp1=>?_);refine zH hp1 (fun hs1=>?_);refine wc (Yk5 (t:=x0) hE0) ?_;refine wI ia hx1 (fun p2 hp2=>?_);refine zH hp2 (fun hs2=>?_);refine wc (Yk5 (t:=x1) hE0) ?_;refine wG ?_;refine Yfi Zz Zz ?_;exact wR (h:=by rw [XB f,if_neg w1,if_pos w2,hx0,hx1];rfl)
  by_cases w3:f.op=kNot
  ·obtain ⟨x,rest,hkd⟩:∃ x rest,f.kids=x::rest:=by
    cases hf:f.kids with
    | nil=>exact absurd hf (hS.head (.inl w3))
    | cons x rest=>exact ⟨x,rest,rfl⟩
   have hx:f.kids[0]?=some x:=by rw [hkd];rfl
   have hxm:=Zm hx;have hl0:0<m4:=by rw [<- l4,hkd];simp
   refine wI ik hx (fun p1 hp1=>?_);refine zL hp1 ?_;intro cs hcs;obtain ⟨wa,wp,we,wk,rfl,hRx⟩:=Yn hcs;obtain ⟨⟨E1,r1,q1,rfl,_⟩,⟨E2,r2,q2,rfl,_⟩,⟨E3,r3,q3,rfl,_⟩,⟨E4,r4,q4,rfl,_⟩⟩:=id hRx.sls;by_cases w4:x.op=kSame
   ·refine zW ?_;intros
    ((refine zG ?_);refine Yu (ihk hxm Zd hE0 hP hRx) ?_);exact wR (h:=by rw [XB f,if_neg w1,if_neg w2,if_pos w3,hkd,notH,if_pos w4])
   have w5:x.op=kAtom:=(hS.neg w3 x hxm).resolve_right w4;have hat:=(hS.kid hxm).atom w5;have hok:=Yqp hP hat;obtain ⟨y1,y2,y3,y4,hlk1,hlk2⟩:=Yiw h8 hok;have iax:=hRx.args;obtain ⟨_,_,_,ex,iax⟩:=iax;injection ex with ex1 ex2 ex3
   subst ex1;subst ex2;subst ex3;have lax:=iax.len;refine zWN ?_;intros;rename_i g11
   first | refine YV (fun σ fz' H'=>σ=[(13,Zo (decide (bndA E x.name x.args∈K.init))),(11,Zp g11),(4,Zp g4)]/\Le fz fz'/\H'=[(g11,Zu #[Zy x.op,Zy x.name,Zc E1 r1 q1,Zc E2 r2 q2,Zc E3 r3 q3,Zc E4 r4 q4] 35),(g4,Zu #[Zp gk] 70)]) ?_ ?_ | refine Yy (YV (fun σ fz' H'=>σ=[(13,Zo (decide (bndA E x.name x.args∈K.init))),(11,Zp g11),(4,Zp g4)]/\Le fz fz'/\H'=[(g11,Zu #[Zy x.op,Zy x.name,Zc E1 r1 q1,Zc E2 r2 q2,Zc E3 r3 q3,Zc E4 r4 q4] 35),(g4,Zu #[Zp gk] 70)]) ?_ ?_)
   ·refine zWN ?_;refine W9 [] [_,_,_,_,_] ?_;refine zW ?_;refine pT ?_
    repeat' first
     | refine Po.done ?_
     | (refine Yr ?_)
     | (refine XL ?_ ?_)
     | refine Po.three ?_ ?_ ?_
     | (refine Yd (Yh [] [_,_,_,_,_] Zz (Yg9 hE0 (fun x y h=>(hP x y h).1) iax Zi (Nat.le_trans hat.1.1 Zh)) (fun v2 fz2 H2 hle2 hR2=>⟨⟨hle2,Zx⟩,?_⟩));obtain ⟨rfl,va2,rfl,hRa⟩:=hR2;obtain ⟨Aa,na,ca,rfl,_⟩:=id hRa.args)
     | refine PoS.qk ⟨hle2,Zx⟩ (Yu (key_q hRa hok) ?_)
     | refine PoS.qk ⟨hle2,Zx⟩ (Xe (hle2 _ _ h7) ?_ (hv:=hlk1) (hb:=hlk2))
     | refine PoS.qk ⟨hle2,Zx⟩ (Yam ?_)
     | refine PoS.qk ⟨hle2,Zx⟩ (WH ?_)
     | refine Yd (XR (fun _=>⟨⟨hle2,Zx⟩,?_⟩))
     | refine Yd (XR (fun _=>⟨⟨Zd,Zx⟩,?_⟩))
     | (refine Yd (Yh [] [_,_,_,_,_,_] Zz (Yg9 hE0 (fun x y h=>(hP x y h).1) iax Zi (Nat.le_trans hat.1.1 Zh)) (fun v2 fz2 H2 hle2 hR2=>⟨⟨hle2,Zx⟩,?_⟩));obtain ⟨rfl,va2,rfl,hRa⟩:=hR2;obtain ⟨Aa,na,ca,rfl,_⟩:=id hRa.args)
     | refine PoS.hard0 (YP ?_)
     | refine PoS.hard (DoesQ.does (YE ?_))
    all_goals
     exact wN (h:=by exact ⟨rfl,hle2,rfl⟩)
   rintro σ fz3 H' ⟨rfl,hle3,rfl⟩;have hg3:=hle3 _ _ hg;cases hc:K.chg x.name with
   | true=>
    refine wG ?_;refine WL (v:=Zo true) (hle3 _ _ h5) ?_ (hv:=by rw [Yhu];exact (h6 _).trans (by rw [hc]));exact wR (h:=by rw [XB f,if_neg w1,if_neg w2,if_pos w3,hkd,notH,if_neg w4,hc];rfl)
   | false=>
    refine wG ?_;refine WL (v:=Zo false) (hle3 _ _ h5) ?_ (hv:=by rw [Yhu];exact (h6 _).trans (by rw [hc]));exact wR (h:=by rw [XB f,if_neg w1,if_neg w2,if_pos w3,hkd,notH,if_neg w4,hc];rfl)
  by_cases w5:f.op=kAnd
  ·refine wG ?_;refine YG ?_
   (refine zG ?_);refine XJ (fun fz' hle hf=>XD (p:=fun x=>¬holdsM K S E x=true) (ik.mono hle) (fun x hx cs hcs=>by
    obtain ⟨wa,wp,we,wk,rfl,hRx⟩:=Yn hcs;rw [show decide (¬holdsM K S E x=true)=!(holdsM K S E x) from by cases holdsM K S E x<;>simp];exact holds1_q hRx rfl (hf _ (.tail _ (.tail _ (.tail _ (.head _))))) (hf _ (.tail _ (.tail _ (.head _)))) (hf _ (.head _)) (ihk hx hle (hE0.mono hle) hP hRx))) ?_
   exact wR (h:=by rw [XB f,if_neg w1,if_neg w2,if_neg w3,if_pos w5,Yjp])
  by_cases w6:f.op=kOr
  ·refine wG ?_;refine YG ?_
   (refine zG ?_);refine XJ (fun fz' hle hf=>XD (p:=fun x=>holdsM K S E x=true) (ik.mono hle) (fun x hx cs hcs=>by
    obtain ⟨wa,wp,we,wk,rfl,hRx⟩:=Yn hcs;rw [show decide (holdsM K S E x=true)=holdsM K S E x from by cases holdsM K S E x<;>simp];exact holds2_q hRx rfl (hf _ (.tail _ (.tail _ (.tail _ (.head _))))) (hf _ (.tail _ (.tail _ (.head _)))) (hf _ (.head _)) (ihk hx hle (hE0.mono hle) hP hRx))) ?_
   exact wR (h:=by rw [XB f,if_neg w1,if_neg w2,if_neg w3,if_neg w5,if_pos w6,Yjm])
  by_cases hq:QuF f.op
  ·obtain ⟨x,rest,hkd⟩:∃ x rest,f.kids=x::rest:=by
    cases hf:f.kids with
    | nil=>exact absurd hf (hS.head (.inr hq))
    | cons x rest=>exact ⟨x,rest,rfl⟩
   have hxm:x∈f.kids:=by rw [hkd];simp
   have hqq:=Ymh f.params (hb:=fun E'=>headH K S E' f.kids) hK0 hOs hR0 hkd ip Zi hE0 hP (fun hle hE' hP' hRx=>by rw [hkd,headH];exact ihk hxm hle hE' hP' hRx);have e1:holdsM K S E f=quantV K (decide (f.op=kForall)) (fun E'=>headH K S E' f.kids) f.params E:=by rw [XB f,if_neg w1,if_neg w2,if_neg w3,if_neg w5,if_neg w6,if_pos hq]
   rcases hq with w7 | w7
   ·refine wc hqq ?_;exact wR (h:=by rw [e1])
   have w8:¬f.op=kForall:=by rw [w7];decide+kernel
   refine wc hqq ?_;exact wR (h:=by rw [e1])
  have w7:¬f.op=kForall:=fun h=>hq (.inl h)
  have w8:¬f.op=kExists:=fun h=>hq (.inr h)
  exact wR (h:=by rw [XB f,if_neg w1,if_neg w2,if_neg w3,if_neg w5,if_neg w6,if_neg hq])
end Go.Proofs.YtacfpcbladaohaaGreatDoor
namespace Go.Lx
open Go.RowKit
section
variable {P:Program} {cx:Cx} {r:Operand->Option Value} {fz fz0:FZ} {H:HP} {V:Value->Prop} {dst:Option Nat} {ty:TypeId} {pos:String} {af:Array Edge} {gd:Option (Nat × Bool)} {Q:QQ} {Hq:HP} {pu:List Nat} {σ' τ ve cv:Env} {l:List Oper} {all r1:List (Nat × Oper)} {i m d:Nat} {dn:Bool} {op:Op}
theorem PoS.qkG {g:Nat × Bool} (hk:Keep fz0 Hq fz H) (hw:Ydm ⟨some d,op,ty,pos,af,some g⟩ ve cv=some true) (h:DoesQ P cx ⟨some d,op,ty,pos,af,some g⟩ (rdc l ⟨some d,op,ty,pos,af,some g⟩ σ' ve cv) fz H fun v=>Po P cx l pu σ' ve fz0 Hq Q all m r1 (dn || allp l all pu ⟨some d,op,ty,pos,af,some g⟩) ((i,v)::cv) ((d,v)::τ) fz H):
 PoS P cx l pu σ' ve fz0 Hq Q all m r1 dn cv τ fz H i ⟨some d,op,ty,pos,af,some g⟩:=YqD hw ((h.mono fun _ hv=>⟨hk,hv⟩).does)
theorem YeO {t k e:TypeId} {x:Operand} {X:Ty} {g:Nat} {m:List (Bs × Value)} (i:Nat) (h:V (Zk m.length)) (T:Tab P:=by exact T) (hT:T.inf t=some X:=by exact rfl) (hd:X.desc=.map k e:=by exact rfl) (hx:r x=some (.map (some g)):=by exact rfl) (hH:H[i]?=some (g,mapS m):=by exact rfl):
 DoesQ P cx ⟨dst,.call {callee:=.builtin .len,args:=#[x],argTypes:=#[t]},ty,pos,af,gd⟩ r fz H V:=
 DoesQ.of h fun ρ w hr hi=>by
  have hg:=(hi.hp.own _ (Zm hH)).1;have hu:=run_underlying (und_plain T hT hd rfl) w;have:(execOp ρ ⟨dst,.call {callee:=.builtin .len,args:=#[x],argTypes:=#[t]},ty,pos,af,gd⟩).run P w=.ok (.value (Zk m.length)) w:=by
   simp [execOp,resolve,invoke,builtin,hr _ _ hx,Builtin.len_,hu,goInt,Wn hg,mapS,YdP]
  rw [this];exact ⟨rfl,Fr.refl _ _⟩
end
end Go.Lx
namespace Go.Proofs.YtacfpcbladaohaaGreatDoor
variable {α:Type} {A:Option Addr} {E:EnvM} {K:Kn} {c g:Nat} {fz:FZ} {m:List (Bs × Value)} {vb v:Value} {cs:List Value} {t:TypeId} {L:Lay α}
def addM (K:Kn) (c:Change):List Param->EnvM->List Atom->List Atom × Bool
 | [],E,S=>if bndA E c.name c.args ∉ S/\holdsM K S E c.when_=true then (S++ [bndA E c.name c.args],true) else (S,false)
 | p::ps,E,S=>(ofK K p.typ).foldl (fun r o=>if 4096<r.1.length then r else ((addM K c ps (setE E p.name o) r.1).1,(addM K c ps (setE E p.name o) r.1).2 || r.2)) (S,false)
def YbE (K:Kn) (l:List Change) (E:EnvM) (S:List Atom):List Atom × Bool:=
 l.foldl (fun r c=>((addM K c c.params E r.1).1,(addM K c c.params E r.1).2 || r.2)) (S,false)
theorem Yky {f:List Atom × Bool->Bs->List Atom × Bool} (hf:∀ r o,4096<r.1.length->f r o=r):∀ (l:List Bs) (r:List Atom × Bool),4096<r.1.length->l.foldl f r=r
 | [],_,_=>rfl
 | o::l,r,h=>by rw [List.foldl_cons,hf r o h];exact Yky hf l r h
structure CSh (c:Change):Prop where
 when_:HSh c.when_
 name:PlnS c.name
 nargs:c.args.length<=2000000
 args:∀ t∈c.args,PlnS t
 params:c.params.length<=2000000
theorem radd_f:∀ (ps:List Param) {fz:FZ} {K:Kn} {gr gk gs:Nat} {vs vb vd vat:Value} {S:List Atom} {m:List (Bs × Value)} {x:Change} {cs:List Value} {A:Option Addr} {n c:Nat} {E:EnvM},
 fz gr=some (Zu #[Zp gk,vs,.map (some gs),vb,vd] 81)->KnR fz (Zp gk) K->(∀ o∈K.os,PlnS o.name)->SetM fz m S->changeL.rep fz x cs->CSh x->Sl paramL fz A n c ps->n<=2000000->EnvR fz vat E->EnvP E->
 GFn prog 195 [Zp gr,.agg cs.toArray,Zc A n c,vat] fz [(gs,mapS m)] (fun r fz' H'=>r=Zo (addM K x ps E S).2/\∃ m',H'=[(gs,mapS m')]/\SetM fz' m' (addM K x ps E S).1)
 | ps,fz,K,gr,gk,gs,vs,vb,vd,vat,S,m,x,cs,A,n,c,E,hr,hK,hOs,hSet,hc,hC,hps,hn,hE,hP=>by
  obtain ⟨u1,u2,u3,u4,u5,u6,u7,u8,rfl,hR⟩:=Y6 hc;obtain ⟨A1,n1,c1',rfl,_⟩:=id hR.params;obtain ⟨⟨A2,n2,c2',rfl,_⟩,⟨A3,n3,c3',rfl,_⟩,⟨A4,n4,c4',rfl,_⟩,⟨A5,n5,c5',rfl,_⟩⟩:=id hR.when_.sls;obtain ⟨A6,n6,c6',rfl,ia⟩:=id hR.args;obtain ⟨⟨A7,n7,c7',rfl,_⟩,⟨A8,n8,c8',rfl,_⟩⟩:=id hR.value.sls;have lp:=hps.len;have la:=ia.len;have hna:=hC.nargs;have hE0:=hE;obtain ⟨ge,rfl⟩:=hE.form;refine zF Tryz.func195 Tryz.ntmps195 (fun w0=>?_);refine pX (fun g5=>?_);cases ps with
  | nil=>
   have:n=0:=by rw [<- lp];rfl
   subst this;have hok:=Yqp (E:=E) hP ⟨hC.name,hC.nargs,hC.args⟩;refine wC ?_ ?_<;>intro c1
   ·refine zW ?_;refine Ya (Yh [] [_,_] Zz (Yg9 hE0 (fun x y h=>(hP x y h).1) ia Zi hR.name) (fun v2 fz2 H2 hle2 hR2=>?_));obtain ⟨rfl,va2,rfl,hRa⟩:=hR2;obtain ⟨Aa,na,ca,rfl,_⟩:=id hRa.args;have hr2:=hle2 _ _ hr;have hSet2:=hSet.mono hle2;obtain ⟨y1,y2,y3,y4,hlk1,hlk2⟩:=Yiw hSet2 hok;generalize hbt:decide (bndA E x.name x.args∈S)=bt at hlk2;refine zWN ?_;intros;refine W9 [] [_,_,_] ?_;refine wc (key_q hRa hok) ?_;refine zG ?_;refine WZ (v:=.agg #[Zy y1,Zc y2 y3 y4]) (b:=bt) 2 hlk2 ?_ (hv:=hlk1);refine zW ?_;refine pT ?_;refine Yr ?_;refine Yd (XR (fun _=>⟨⟨Zd,Zx⟩,?_⟩));refine Yr ?_;refine Yhg (YP ⟨⟨Zd,Zx⟩,?_⟩);refine Yr ?_;refine PoS.qk ⟨Zd,Zx⟩ (YE ?_);refine Po.done ?_;have hK2:=hK.mono hle2;cases bt with
    | true=>
     have hin:bndA E x.name x.args∈S:=Zt hbt;exact wR (h:=by exact ⟨by rw [addM,if_neg (fun h=>h.1 hin)],m,rfl,by rw [addM,if_neg (fun h=>h.1 hin)];exact hSet2⟩)
    | false=>
     have hin:bndA E x.name x.args ∉ S:=Zf hbt;cases hb:holdsM K S E x.when_ with
     | false=>
      refine wG ?_;refine Ye (vs:=[Zy x.when_.op,Zy x.when_.name,Zc A2 n2 c2',Zc A3 n3 c3',Zc A4 n4 c4',Zc A5 n5 c5']) 2 ?_;refine wG ?_;refine XJ (fun fz' hle hf=>YcY _ (Zs _) (hK2.mono hle) hOs (hf (gs,mapS m) (by simp)) (hSet2.mono hle) (hR.when_.mono (hle2.trans hle)) hC.when_ (hE0.mono (hle2.trans hle)) hP) ?_;rw [hb];exact wR (h:=by exact ⟨by rw [addM,if_neg (fun h=>by rw [hb] at h;exact absurd h.2 Zh)],m,rfl,by rw [addM,if_neg (fun h=>by rw [hb] at h;exact absurd h.2 Zh)];exact hSet2⟩)
     | true=>
      refine zWN ?_;refine W9 [] [_,_,_,_] ?_
      repeat ((first | refine PK.q Zz ?_ | refine PK.yes Zz Zz ?_);(first | refine Yam ?_ | refine YE ?_ | refine Xi ?_ | refine Yp 0 ?_ (hv:=by exact rfl) | refine Yp 1 ?_ (hv:=by exact rfl) | refine Yp 2 ?_ (hv:=by exact rfl) | refine Yp 3 ?_ (hv:=by exact rfl) | refine Yp 4 ?_ (hv:=by exact rfl) | refine Yp 5 ?_ (hv:=by exact rfl) | refine Yp 6 ?_ (hv:=by exact rfl) | refine Yp 7 ?_ (hv:=by exact rfl) | refine Yt 0 ?_ | refine Yt 1 ?_ | refine Yt 2 ?_ | refine Yt 3 ?_ | refine Yt 4 ?_ | refine Yt 5 ?_ | refine Yt 6 ?_ | refine Yt 7 ?_ | refine YcQ T Zz Zz Zz (by assumption) Zz ?_ | refine Ya9 T Zz Zz Zz (by assumption) Zz ?_ | refine Xh ?_ | refine YbG T Zz Zz Zz ?_ | refine WH ?_ | refine WY Zz ?_ | refine Yni Zz ?_ | refine WG ?_ | refine YaX Zz Zz ?_ | refine YiG T Zz Zz Zz Zz Zz Zz ?_ | refine Yan T Zz Zz Zz ?_ | refine Yb5 T Zz Zz Zz Zz ?_ | refine YcS T Zz Zz Zz Zz ?_ | refine Ydb T Zz Zz Zz Zz ?_ | refine Yd3 T Zz Zz Zz Zz ?_ | refine YbH T Zz Zz Zz ?_ | refine Xy ?_ | refine q_max Zz Zz ?_ | refine YeQ Zz Zz (Xb Zi) ?_ | refine YoO Zz Zz (Xb Zi) ?_))
      (first | refine PK.q Zz ?_ | refine PK.yes Zz Zz ?_);refine Ye (vs:=[Zy x.when_.op,Zy x.when_.name,Zc A2 n2 c2',Zc A3 n3 c3',Zc A4 n4 c4',Zc A5 n5 c5']) 2 ?_
      repeat ((first | refine PK.q Zz ?_ | refine PK.yes Zz Zz ?_);(first | refine Yam ?_ | refine YE ?_ | refine Xi ?_ | refine Yp 0 ?_ (hv:=by exact rfl) | refine Yp 1 ?_ (hv:=by exact rfl) | refine Yp 2 ?_ (hv:=by exact rfl) | refine Yp 3 ?_ (hv:=by exact rfl) | refine Yp 4 ?_ (hv:=by exact rfl) | refine Yp 5 ?_ (hv:=by exact rfl) | refine Yp 6 ?_ (hv:=by exact rfl) | refine Yp 7 ?_ (hv:=by exact rfl) | refine Yt 0 ?_ | refine Yt 1 ?_ | refine Yt 2 ?_ | refine Yt 3 ?_ | refine Yt 4 ?_ | refine Yt 5 ?_ | refine Yt 6 ?_ | refine Yt 7 ?_ | refine YcQ T Zz Zz Zz (by assumption) Zz ?_ | refine Ya9 T Zz Zz Zz (by assumption) Zz ?_ | refine Xh ?_ | refine YbG T Zz Zz Zz ?_ | refine WH ?_ | refine WY Zz ?_ | refine Yni Zz ?_ | refine WG ?_ | refine YaX Zz Zz ?_ | refine YiG T Zz Zz Zz Zz Zz Zz ?_ | refine Yan T Zz Zz Zz ?_ | refine Yb5 T Zz Zz Zz Zz ?_ | refine YcS T Zz Zz Zz Zz ?_ | refine Ydb T Zz Zz Zz Zz ?_ | refine Yd3 T Zz Zz Zz Zz ?_ | refine YbH T Zz Zz Zz ?_ | refine Xy ?_ | refine q_max Zz Zz ?_ | refine YeQ Zz Zz (Xb Zi) ?_ | refine YoO Zz Zz (Xb Zi) ?_))
      (first | refine PK.q Zz ?_ | refine PK.yes Zz Zz ?_);refine XJ (fun fz' hle hf=>YcY _ (Zs _) (hK2.mono hle) hOs (hf (gs,mapS m) (by simp)) (hSet2.mono hle) (hR.when_.mono (hle2.trans hle)) hC.when_ (hE0.mono (hle2.trans hle)) hP) ?_
      rw [hb]
      repeat ((first | refine PK.q Zz ?_ | refine PK.yes Zz Zz ?_);(first | refine Yam ?_ | refine YE ?_ | refine Xi ?_ | refine Yp 0 ?_ (hv:=by exact rfl) | refine Yp 1 ?_ (hv:=by exact rfl) | refine Yp 2 ?_ (hv:=by exact rfl) | refine Yp 3 ?_ (hv:=by exact rfl) | refine Yp 4 ?_ (hv:=by exact rfl) | refine Yp 5 ?_ (hv:=by exact rfl) | refine Yp 6 ?_ (hv:=by exact rfl) | refine Yp 7 ?_ (hv:=by exact rfl) | refine Yt 0 ?_ | refine Yt 1 ?_ | refine Yt 2 ?_ | refine Yt 3 ?_ | refine Yt 4 ?_ | refine Yt 5 ?_ | refine Yt 6 ?_ | refine Yt 7 ?_ | refine YcQ T Zz Zz Zz (by assumption) Zz ?_ | refine Ya9 T Zz Zz Zz (by assumption) Zz ?_ | refine Xh ?_ | refine YbG T Zz Zz Zz ?_ | refine WH ?_ | refine WY Zz ?_ | refine Yni Zz ?_ | refine WG ?_ | refine YaX Zz Zz ?_ | refine YiG T Zz Zz Zz Zz Zz Zz ?_ | refine Yan T Zz Zz Zz ?_ | refine Yb5 T Zz Zz Zz Zz ?_ | refine YcS T Zz Zz Zz Zz ?_ | refine Ydb T Zz Zz Zz Zz ?_ | refine Yd3 T Zz Zz Zz Zz ?_ | refine YbH T Zz Zz Zz ?_ | refine Xy ?_ | refine q_max Zz Zz ?_ | refine YeQ Zz Zz (Xb Zi) ?_ | refine YoO Zz Zz (Xb Zi) ?_))
      refine pT ?_;refine Yr ?_;refine YqE Zz Zj (Does.perm (H':=[(gs,mapS m),_,_,_]) (Zq (l₁:=[_]) (l₂:=[_,_,_])) (Yh [_] [_,_,_] Zz (add_f hSet2 hRa hok) (fun v5 fz5 H5 hle5 hR5=>?_)));obtain ⟨rfl,rfl,m5,rfl,hS5⟩:=hR5;rw [if_neg hin] at hS5;rw [decide_eq_true hin];refine Yr ?_;refine PoS.hard (DoesQ.does (WG ?_)) (hd:=rfl);refine Yr ?_;refine PoS.hard (DoesQ.does (YE ?_)) (hd:=rfl);refine Po.done ?_;exact wR (h:=by exact ⟨by rw [addM,if_pos ⟨hin,hb⟩],m5,rfl,by rw [addM,if_pos ⟨hin,hb⟩];exact hS5⟩)
   exact absurd rfl c1
  | cons p ps=>
   have hn1:n=ps.length+1:=by rw [<- lp];rfl
   subst hn1;have hp0:(p::ps)[0]?=some p:=rfl;have hcap:=hps.cap;refine wC ?_ ?_<;>intro c1
   ·exact absurd c1 Zi
   refine zWN ?_;refine YS [_,_] ?_;refine wI hps hp0 (fun p1 hp1=>?_);refine wH hp1.Param_typ (fun hst=>?_);refine Yj (Yj ?_);refine zW ?_;refine QK.dz ?_;refine Yf (Yh [] [_,_] Zz (kof_f (t:=p.typ) hK) (fun v4 fz4 H4 hle4 hR4=>⟨⟨hle4,Zx⟩,?_⟩));obtain ⟨rfl,Bo,mo,do_,rfl,hSo⟩:=hR4;have lo:=hSo.len;have so:=hSo.short;refine Ch.qk ⟨hle4,Zx⟩ (Xh ?_);refine Ch.done ?_;generalize hF:(fun r o=>if 4096<r.1.length then r else ((addM K x ps (setE E p.name o) r.1).1,(addM K x ps (setE E p.name o) r.1).2 || r.2))=F;have hA:addM K x (p::ps) E S=(ofK K p.typ).foldl F (S,false):=by rw [addM,hF]
   have hF1:∀ r o,4096<r.1.length->F r o=r:=fun r o h=>by rw [<- hF];exact if_pos h
   have hF2:∀ (r:List Atom × Bool) o,¬4096<r.1.length->F r o=((addM K x ps (setE E p.name o) r.1).1,(addM K x ps (setE E p.name o) r.1).2 || r.2):=fun r o h=>by rw [<- hF];exact if_neg h
   refine zW ?_;refine Yi (fun q σ fz' H'=>∃ (k:Nat) (m:List (Bs × Value)) (Sk:List Atom) (nk:Bool),k<=mo/\q=mo - k/\σ=[(68,Zk k),(67,Zk mo),(66,Zc Bo mo do_),(12,Zo nk),(5,Zp g5),(3,.map ge),(2,Zc A (ps.length+1) c),(0,Zp gr)]/\Le fz4 fz'/\H'=[(g5,Zu #[Zk x.kind,Zc A1 n1 c1',Zy x.when_.op,Zy x.when_.name,Zc A2 n2 c2',Zc A3 n3 c3',Zc A4 n4 c4',Zc A5 n5 c5',Zy x.name,Zc A6 n6 c6',Zy x.value.op,Zy x.value.name,Zk x.value.n,Zc A7 n7 c7',Zc A8 n8 c8'] 104),(gs,mapS m)]/\SetM fz' m Sk/\((ofK K p.typ).take k).foldl F (S,false)=(Sk,nk)) ⟨0,m,S,false,Z0 _,rfl,rfl,Zd,rfl,hSet.mono hle4,rfl⟩ Zw Zb ?_;rintro q σ fz5 H' ⟨k,m5,Sk,nk,hk5,rfl,rfl,hle5,rfl,hS5,hf5⟩;have hx5:=hle4.trans hle5;have hr5:=hx5 _ _ hr;refine wC ?_ ?_<;>intro c2
   ·obtain ⟨o,ho⟩:=Yc (l:=ofK K p.typ) (k:=k) Zi;have hom:=Zm ho;obtain ⟨po,hpo,epo⟩:=Ylp hom;have hoP:PlnS o:=epo ▸ hOs po hpo;have hsl:=hS5.2.1;refine wI (hSo.mono hle5) ho (fun p2 hp2=>?_);refine zH hp2 (fun hso=>?_);refine wG ?_;refine YeO 1 ?_;refine zC ?_ ?_<;>intro c3
    ·have hstop:addM K x (p::ps) E S=(Sk,nk):=by
      rw [hA,<- List.take_append_drop k (ofK K p.typ),List.foldl_append,hf5];exact Yky hF1 _ _ (by show 4096<Sk.length;omega)
     exact wR (h:=by exact ⟨by rw [hstop],m5,rfl,by rw [hstop];exact hS5⟩)
    have hnext:((ofK K p.typ).take (k+1)).foldl F (S,false)=((addM K x ps (setE E p.name o) Sk).1,(addM K x ps (setE E p.name o) Sk).2 || nk):=by
     rw [List.take_add_one,ho,List.foldl_append,hf5];exact hF2 (Sk,nk) o (by show ¬4096<Sk.length;omega)
    refine zWN ?_;refine W9 [] [_] ?_;refine wG ?_;refine Yfh (j:=1) (hps.mono hx5) (fun A' hS'=>?_);refine wG ?_;refine Ylk (j:=1) ?_;refine zW ?_;refine Yo ?_;refine zW ?_;refine pT ?_;refine Yr ?_;refine Yd (Yb (cs:=[Zy o]) (fun gb=>⟨⟨Zd,Zx⟩,?_⟩));refine Yr ?_;refine Yd (Does.freeze (H1:=[_,_]) (H2:=[_]) (Zq (l₁:=[_])) (fun fz6 hle6 hf6=>?_));have hgb:Grow strL 9 fz5 (Zv gb 1 1) 1 [(gb,Zu #[Zy o] 9)] [o]:=
     Grow.block (ys:=[(o,[Value.string o])]) rfl rfl (by intro q hq;simp at hq;subst hq;exact ⟨rfl,hso⟩) rfl
    obtain ⟨B7,d7,e7,hS7⟩:=hgb.sl hle6 hf6 Zh;injection e7 with e71 e72 e73
    subst e71;subst e73;have hcut:=Yqc (hps.mono (hx5.trans hle6)) (k:=1) Zi;refine Yh [] [_,_] Zz (env_f hcut hS7 (Zs _) (hE0.mono (hx5.trans hle6))) (fun v7 fz7 H7 hle7 hR7=>⟨⟨hle6.trans hle7,Zx⟩,?_⟩);obtain ⟨rfl,hE7⟩:=hR7;have hE8:EnvR fz7 v7 (setE E p.name o):=hE7;have hx7:=hx5.trans (hle6.trans hle7);refine Yr ?_;refine Yd (Does.perm (H':=[(gs,mapS m5),_]) (List.Perm.swap _ _ _) (Does.after (Yh [_] [_] Zz (radd_f ps (hx7 _ _ hr) (hK.mono hx7) hOs (hS5.mono (hle6.trans hle7)) (YbO (hR.mono hx7)) hC (hS'.mono (hle6.trans hle7)) Zi hE8 (hP.set hoP)) (fun v8 fz8 H8 hle8 hR8=>?_))));obtain ⟨rfl,m8,rfl,hS8⟩:=hR8;refine ⟨[(g5,Zu #[Zk x.kind,Zc A1 n1 c1',Zy x.when_.op,Zy x.when_.name,Zc A2 n2 c2',Zc A3 n3 c3',Zc A4 n4 c4',Zc A5 n5 c5',Zy x.name,Zc A6 n6 c6',Zy x.value.op,Zy x.value.name,Zk x.value.n,Zc A7 n7 c7',Zc A8 n8 c8'] 104),(gs,mapS m8)],List.Perm.swap _ _ _,⟨hle6.trans (hle7.trans hle8),Zx⟩,?_⟩;refine Yr ?_;refine PoS.qk ⟨hle6.trans (hle7.trans hle8),Zx⟩ (Yam ?_);generalize hb8:(addM K x ps (setE E p.name o) Sk).2=b8 at hnext;cases b8 with
    | true=>
     refine Yr ?_;refine Yhh Zz ?_;refine Yr ?_;refine PoS.qk ⟨hle6.trans (hle7.trans hle8),Zx⟩ (WG ?_);refine Yr ?_;refine PoS.qk ⟨hle6.trans (hle7.trans hle8),Zx⟩ (YE ?_);refine Po.done ?_;exact wP (h:=by exact ⟨k+1,m8,_,true,by omega,rfl,rfl,hle5.trans (hle6.trans (hle7.trans hle8)),rfl,hS8,hnext⟩)
    | false=>
     refine Yr ?_;refine PoS.qkG ⟨hle6.trans (hle7.trans hle8),Zx⟩ Zz (Yam ?_);refine Yr ?_;refine PoS.qk ⟨hle6.trans (hle7.trans hle8),Zx⟩ (YaX Zz Zz ?_);refine Yr ?_;refine PoS.qk ⟨hle6.trans (hle7.trans hle8),Zx⟩ (YE ?_);refine Po.done ?_;exact wP (h:=by exact ⟨k+1,m8,_,nk,by omega,rfl,rfl,hle5.trans (hle6.trans (hle7.trans hle8)),rfl,hS8,hnext⟩)
   have hdone:addM K x (p::ps) E S=(Sk,nk):=by
    rw [Zl (show (ofK K p.typ).length<=k by omega)] at hf5;rw [hA,hf5]
   exact wR (h:=by exact ⟨by rw [hdone],m5,rfl,by rw [hdone];exact hS5⟩)
theorem adds_f {gr gk gs:Nat} {vs vd vat:Value} {S:List Atom} {l:List Change} {n:Nat}
 (hr:fz gr=some (Zu #[Zp gk,vs,.map (some gs),vb,vd] 81)) (hK:KnR fz (Zp gk) K) (hOs:∀ o∈K.os,PlnS o.name) (hSet:SetM fz m S) (hl:Sl changeL fz A n c l) (hC:∀ x∈l,CSh x) (hE:EnvR fz vat E) (hP:EnvP E):
 GFn prog 102 [Zp gr,Zc A n c,vat] fz [(gs,mapS m)] (fun r fz' H'=>r=Zo (YbE K l E S).2/\∃ m',H'=[(gs,mapS m')]/\SetM fz' m' (YbE K l E S).1):=by
 have ll:=hl.len;have sl:=hl.short;have hE0:=hE;obtain ⟨ge,rfl⟩:=hE.form;refine zF Tryz.func102 Tryz.ntmps102 (fun w0=>?_);generalize hF:(fun (r:List Atom × Bool) (c:Change)=>((addM K c c.params E r.1).1,(addM K c c.params E r.1).2 || r.2))=F;have hA:YbE K l E S=l.foldl F (S,false):=by rw [YbE,hF]
 have hF2:∀ (r:List Atom × Bool) x,F r x=((addM K x x.params E r.1).1,(addM K x x.params E r.1).2 || r.2):=fun r x=>by rw [<- hF]
 refine zW ?_;refine Yi (fun q σ fz' H'=>∃ (k:Nat) (m:List (Bs × Value)) (Sk:List Atom) (nk:Bool),k<=n/\q=n - k/\σ=[(12,Zk k),(11,Zk n),(10,Zc A n c),(7,Zo nk),(2,.map ge),(0,Zp gr)]/\Le fz fz'/\H'=[(gs,mapS m)]/\SetM fz' m Sk/\(l.take k).foldl F (S,false)=(Sk,nk)) ⟨0,m,S,false,Z0 _,rfl,rfl,Zd,rfl,hSet,rfl⟩ Zw Zb ?_;rintro q σ fz5 H' ⟨k,m5,Sk,nk,hk5,rfl,rfl,hle5,rfl,hS5,hf5⟩;refine wC ?_ ?_<;>intro c2
 ·obtain ⟨x,hx⟩:=Yc (l:=l) (k:=k) Zi;have hxm:=Zm hx;have hCx:=hC x hxm;have hxp:=hCx.params;have hnext:(l.take (k+1)).foldl F (S,false)=((addM K x x.params E Sk).1,(addM K x x.params E Sk).2 || nk):=by
   rw [List.take_add_one,hx,List.foldl_append,hf5];exact hF2 (Sk,nk) x
  refine wI (hl.mono hle5) hx (fun p2 hp2=>?_);refine zL hp2 ?_;intro cs hcs;obtain ⟨u1,u2,u3,u4,u5,u6,u7,u8,rfl,hR⟩:=Y6 hcs;obtain ⟨A1,n1,c1',rfl,ip⟩:=id hR.params;obtain ⟨⟨A2,n2,c2',rfl,_⟩,⟨A3,n3,c3',rfl,_⟩,⟨A4,n4,c4',rfl,_⟩,⟨A5,n5,c5',rfl,_⟩⟩:=id hR.when_.sls;obtain ⟨A6,n6,c6',rfl,ia⟩:=id hR.args;obtain ⟨⟨A7,n7,c7',rfl,_⟩,⟨A8,n8,c8',rfl,_⟩⟩:=id hR.value.sls;have lip:=ip.len;refine zW ?_;intros;refine Ya (Does.perm (H':=[(gs,mapS m5),_]) (List.Perm.swap _ _ _) (Yh [_] [_] Zz (radd_f x.params (hle5 _ _ hr) (hK.mono hle5) hOs hS5 (YbO hR) hCx ip Zi (hE0.mono hle5) hP) (fun v8 fz8 H8 hle8 hR8=>?_)));obtain ⟨rfl,m8,rfl,hS8⟩:=hR8;generalize hb8:(addM K x x.params E Sk).2=b8 at hnext;cases b8 with
  | true=>
   exact wP (h:=by exact ⟨k+1,m8,_,true,by omega,rfl,rfl,hle5.trans hle8,rfl,hS8,hnext⟩)
  | false=>
   exact wP (h:=by exact ⟨k+1,m8,_,nk,by omega,rfl,rfl,hle5.trans hle8,rfl,hS8,hnext⟩)
 have hdone:YbE K l E S=(Sk,nk):=by
  rw [Zl (show l.length<=k by omega)] at hf5;rw [hA,hf5]
 exact wR (h:=by exact ⟨by rw [hdone],m5,rfl,by rw [hdone];exact hS5⟩)
structure DurV (a:Durative) (i:Nat) (v:Value) (fz:FZ):Prop where
 p7:i=7->IsSl formulaL fz v [a.start]
 p8:i=8->FormulaV fz (normV (andF [a.start])) v
 p11:i=11->IsSl formulaL fz v [a.over]
 p12:i=12->FormulaV fz (normV (andF [a.over])) v
 p15:i=15->IsSl formulaL fz v [a.fin]
 p16:i=16->FormulaV fz (normV (andF [a.fin])) v
 p23:i=23->IsSl formulaL fz v [a.start,a.over,a.fin]
 p24:i=24->FormulaV fz (normV (andF [a.start,a.over,a.fin])) v
 p27:i=27->IsSl changeL fz v (normC a.atStart)
 p30:i=30->IsSl changeL fz v (normC a.atEnd)
theorem DurV.mono {a:Durative} (i:Nat) (v:Value) (fz fz':FZ) (hle:Le fz fz') (h:DurV a i v fz):DurV a i v fz':=
 ⟨fun e=>(h.p7 e).mono hle,fun e=>(h.p8 e).mono hle,fun e=>(h.p11 e).mono hle,fun e=>(h.p12 e).mono hle,fun e=>(h.p15 e).mono hle,fun e=>(h.p16 e).mono hle,fun e=>(h.p23 e).mono hle,fun e=>(h.p24 e).mono hle,fun e=>(h.p27 e).mono hle,fun e=>(h.p30 e).mono hle⟩
theorem YpA {x:α} (h:fz g=some (Zu cs.toArray t)) (hr:L.rep fz x cs):IsSl L fz (Zv g 1 1) [x]:=
 (XI (m:=1) (l:=[x]) (ys:=[(x,cs)]) h (by simp) rfl (fun p hp=>by rw [List.mem_singleton] at hp;subst hp;exact hr) rfl Zh).is
theorem is_three {x y z:α} {ds es:List Value} (h:fz g=some (.cells (cs++ds++es).toArray t (0,0))) (hx:L.rep fz x cs) (hy:L.rep fz y ds) (hz:L.rep fz z es):IsSl L fz (Zv g 3 3) [x,y,z]:=
 (XI (m:=3) (l:=[x,y,z]) (ys:=[(x,cs),(y,ds),(z,es)]) h (by simp) rfl (fun p hp=>by
  rcases List.mem_cons.1 hp with rfl | hp
  ·exact hx
  rcases List.mem_cons.1 hp with rfl | hp
  ·exact hy
  rw [List.mem_singleton] at hp;subst hp;exact hz) rfl Zh).is
theorem DurV.m7 {a:Durative} (h:IsSl formulaL fz v [a.start]):DurV a 7 v fz:=⟨fun _=>h,Za,Za,Za,Za,Za,Za,Za,Za,Za⟩
theorem DurV.m8 {a:Durative} (h:FormulaV fz (normV (andF [a.start])) v):DurV a 8 v fz:=⟨Za,fun _=>h,Za,Za,Za,Za,Za,Za,Za,Za⟩
theorem DurV.m11 {a:Durative} (h:IsSl formulaL fz v [a.over]):DurV a 11 v fz:=⟨Za,Za,fun _=>h,Za,Za,Za,Za,Za,Za,Za⟩
theorem DurV.m12 {a:Durative} (h:FormulaV fz (normV (andF [a.over])) v):DurV a 12 v fz:=⟨Za,Za,Za,fun _=>h,Za,Za,Za,Za,Za,Za⟩
theorem DurV.m15 {a:Durative} (h:IsSl formulaL fz v [a.fin]):DurV a 15 v fz:=⟨Za,Za,Za,Za,fun _=>h,Za,Za,Za,Za,Za⟩
theorem DurV.m16 {a:Durative} (h:FormulaV fz (normV (andF [a.fin])) v):DurV a 16 v fz:=⟨Za,Za,Za,Za,Za,fun _=>h,Za,Za,Za,Za⟩
theorem DurV.m23 {a:Durative} (h:IsSl formulaL fz v [a.start,a.over,a.fin]):DurV a 23 v fz:=⟨Za,Za,Za,Za,Za,Za,fun _=>h,Za,Za,Za⟩
theorem DurV.m24 {a:Durative} (h:FormulaV fz (normV (andF [a.start,a.over,a.fin])) v):DurV a 24 v fz:=⟨Za,Za,Za,Za,Za,Za,Za,fun _=>h,Za,Za⟩
theorem DurV.m27 {a:Durative} (h:IsSl changeL fz v (normC a.atStart)):DurV a 27 v fz:=⟨Za,Za,Za,Za,Za,Za,Za,Za,fun _=>h,Za⟩
theorem DurV.m30 {a:Durative} (h:IsSl changeL fz v (normC a.atEnd)):DurV a 30 v fz:=⟨Za,Za,Za,Za,Za,Za,Za,Za,Za,fun _=>h⟩
theorem Ygw (K:Kn):∀ l:List Schema,YbX (l.map (Ybn K))<=4097*l.length
 | []=>by simp [YbX]
 | x::r=>by
  have h1:=Ygw K r;have h2:=Yeq K 4096 x.params [[]] (by simp);unfold YbX at h1 ⊢;simp only [List.map_cons,List.sum_cons,List.length_cons] at h1 ⊢;have:(Ybn K x).arguments.length<=4097:=h2;omega
theorem manyS_le (K:Kn) (d:Domain) (k:Nat):YbX (((schB d).take k).map (Ybn K))<=4097*(schB d).length:=by
 refine Nat.le_trans (Ygw K _) (Nat.mul_le_mul_left _ ?_);rw [List.length_take];omega
theorem Ymc {d:Domain} {x:Schema} (hS:SchS K d) (hx:x∈schB d):x.params.length<=2000000:=by
 rcases List.mem_append.1 hx with hx | hx
 ·obtain ⟨a,ha,rfl⟩:=List.mem_map.1 hx;exact (hS.pa a ha).2.1
 obtain ⟨a,ha,rfl⟩:=List.mem_map.1 hx;exact (hS.pd a ha).2.2.2.1
theorem schL_sh {d:Domain} {x:Schema} (hS:SchS K d) (hx:x∈schL K d) (hc:x.count=true):ShN x.start/\∀ c∈x.late,ShN c.when_:=by
 obtain ⟨s,hs,rfl⟩:=List.mem_map.1 hx;rcases List.mem_append.1 hs with hs | hs
 ·obtain ⟨a,ha,rfl⟩:=List.mem_map.1 hs;exact hS.sh a ha
 obtain ⟨a,ha,rfl⟩:=List.mem_map.1 hs;cases hc
theorem YoB {d:Domain} (hKD:KnD fz v K d) (hS:SchS K d):
 GFn prog 42 [v] fz [] (fun r fz' H'=>H'=[]/\∃ vs,r=.tuple #[vs,errV (schE K d)]/\(schE K d=0->IsSl schemaL fz' vs (schL K d))/\(schE K d≠0->vs=Zn)):=by
 have hKD0:=hKD;obtain ⟨_,hK,gk,cs,v5,v6,rfl,hg,c5,c6,i5,i6⟩:=hKD;have hK0:=hK;obtain ⟨⟨gk',a0,a1,a2,a3,a4,a5,a6,a7,a8,a9,a10,a11,a12,a13,a14,a15,a16,a17,vf,Ao,no,co,gc,gi,mc,mi,e1,hg',hF,hO,h5,h6,h7,h8⟩,hw,hmany⟩:=hK;cases e1;rw [hg] at hg';injection hg' with hg'
 injection hg' with hg' _ _
 have e2:=congrArg Array.toList hg';simp only at e2;subst e2;simp only [List.getElem?_cons_succ,List.getElem?_cons_zero,Option.some.injEq] at c5 c6;subst c5;subst c6;obtain ⟨A5,n5,b5,rfl,i5⟩:=i5;obtain ⟨A6,n6,b6,rfl,i6⟩:=i6;have l5:=i5.len;have l6:=i6.len;have hna:=hS.na;have hnd:=hS.nd;refine zF Tryz.func42 Tryz.ntmps42 (fun w0=>?_);refine pX (fun g1=>?_);refine zW ?_;refine Yi (fun q σ fz' H'=>∃ (k:Nat) (u:Value) (Hs:HP),k<=n5/\q=n5 - k/\σ=[(20,Zk k),(19,Zk n5),(18,Zc A5 n5 b5),(4,u),(1,Zp g1)]/\Le fz fz'/\H'=(g1,Zu #[Zp gk] 70)::Hs/\Grow schemaL 113 fz' u k Hs ((d.actions.take k).map schA)) ⟨0,_,[],Z0 _,rfl,rfl,Zd,rfl,Grow.nil _ _ _⟩ Zw Zb ?_;rintro q σ fz' H' ⟨k,u,Hs,hk,rfl,rfl,hle,rfl,hG⟩;obtain ⟨Au,cu,rfl,_,_⟩:=hG.form;refine wC ?_ ?_<;>intro c1
 ·obtain ⟨x,hx⟩:=Yc (l:=d.actions) (k:=k) Zi;have hxm:=Zm hx;obtain ⟨w1,w2,w3,w4⟩:=hS.pa x hxm;refine wI (i5.mono hle) hx (fun p1 hp1=>?_);refine zL hp1 ?_;intro cs hcs;obtain ⟨u1,u2,u3,u4,u5,u6,rfl,hR⟩:=Y7 hcs;obtain ⟨B1,m1,d1,rfl,ip⟩:=id hR.params;obtain ⟨⟨B2,m2,d2,rfl,_⟩,⟨B3,m3,d3,rfl,_⟩,⟨B4,m4,d4,rfl,_⟩,⟨B5,m5,d5,rfl,_⟩⟩:=id hR.pre.sls;obtain ⟨B6,m6,d6,rfl,ich⟩:=id hR.changes;have lch:=ich.len;refine zW ?_;intros
  ((refine zG ?_);refine Ye (vs:=[Zy x.pre.op,Zy x.pre.name,Zc B2 m2 d2,Zc B3 m3 d3,Zc B4 m4 d4,Zc B5 m5 d5]) 0 ?_);refine Ya (Yh [] (_::_::Hs) Zz (YcF hR.pre w1) (fun v7 fz7 H7 hle7 hR7=>?_));obtain ⟨rfl,hV7⟩:=hR7;obtain ⟨C1,s1,t1,C2,s2,t2,C3,s3,t3,C4,s4,t4,rfl,hF7⟩:=hV7.open;refine zWN ?_;intros;refine YS [_,_,_] ?_;refine zW ?_;refine pU ?_;refine Yf (Yh [] (_::_::_::Hs) Zz (Ygc (ich.mono hle7) Zi w4) (fun v8 fz8 H8 hle8 hR8=>⟨⟨hle8,Zx⟩,?_⟩));obtain ⟨rfl,D1,o1,q1,rfl,hC8⟩:=hR8;refine Ch.qk ⟨hle8,Zx⟩ (Xy ?_);refine Yf (Yb (cs:=[Zy x.name,Zc B1 m1 d1,Zy (normV x.pre).op,Zy (normV x.pre).name,Zc C1 s1 t1,Zc C2 s2 t2,Zc C3 s3 t3,Zc C4 s4 t4,Zy (normV x.pre).op,Zy (normV x.pre).name,Zc C1 s1 t1,Zc C2 s2 t2,Zc C3 s3 t3,Zc C4 s4 t4,
   Ze,Ze,Zn,Zn,Zn,Zn,Ze,Ze,Zn,Zn,Zn,Zn,Zn,Zc D1 o1 q1,Zo true,Zn]) (fun gb=>⟨⟨hle8,Zx⟩,?_⟩))
  refine Yf (YD (Hr:=[_,_,_,_]) (d:=schA x) (Zr _) (hG.mono (hle7.trans hle8)) YhG (.head _) (YcO (x:=schA x) ⟨hR.name,ip.is.mono (hle7.trans hle8),hF7.mono hle8,hF7.mono hle8,Yk2,Yk2,IsSl.nil,hC8.is,trivial,IsSl.nil⟩) (fun v9 H9 hO9=>⟨⟨hle8,Zx⟩,?_⟩));obtain ⟨A9,c9,rfl,_,_⟩:=hO9.form;refine Ch.qk ⟨hle8,Zx⟩ (YE ?_);refine Ch.done ?_;exact wP (h:=by exact ⟨k+1,_,H9,by omega,rfl,rfl,hle.trans (hle7.trans hle8),rfl,hO9.of (by rw [List.take_add_one,hx];simp) rfl⟩)
 have hk2:n5=k:=by omega
 subst hk2;rw [Zl Zi] at hG;have hgA:=hle _ _ hg;refine zW ?_;refine Yi (fun q σ fz2 H'=>∃ (k:Nat) (u:Value) (Hs:HP),k<=n6/\q=n6 - k/\σ=[(47,Zk k),(46,Zk n6),(45,Zc A6 n6 b6),(4,u),(1,Zp g1)]/\Le fz' fz2/\H'=(g1,Zu #[Zp gk] 70)::Hs/\Grow schemaL 113 fz2 u (n5+k) Hs (d.actions.map schA++(d.duratives.take k).map schD)) ⟨0,_,Hs,Z0 _,rfl,rfl,Zd,rfl,hG.of (by simp) rfl⟩ Zw Zb ?_;rintro q σ fz2 H' ⟨k,u,Hs2,hk6,rfl,rfl,hle2,rfl,hG2⟩;obtain ⟨Au2,cu2,rfl,_,_⟩:=hG2.form;refine wC ?_ ?_<;>intro c2
 ·obtain ⟨x,hx⟩:=Yc (l:=d.duratives) (k:=k) Zi;have hxm:=Zm hx;obtain ⟨w1,w2,w3,w4,w5,w6,w7,w8⟩:=hS.pd x hxm;refine wI (i6.mono (hle.trans hle2)) hx (fun p1 hp1=>?_);refine zL hp1 ?_;intro cs hcs;obtain ⟨u0,u1,u2,u3,u4,u5,u6,u7,u8,u9,u10,u11,u12,u13,u14,rfl,hR⟩:=Xx hcs;obtain ⟨B0,m0,d0,rfl,ip⟩:=id hR.params;obtain ⟨⟨B1,m1,d1,rfl,_⟩,⟨B2,m2,d2,rfl,_⟩,⟨B3,m3,d3,rfl,_⟩,⟨B4,m4,d4,rfl,_⟩⟩:=id hR.start.sls;obtain ⟨⟨B5,m5,d5,rfl,_⟩,⟨B6,m6,d6,rfl,_⟩,⟨B7,m7,d7,rfl,_⟩,⟨B8,m8,d8,rfl,_⟩⟩:=id hR.over.sls;obtain ⟨⟨B9,m9,d9,rfl,_⟩,⟨B10,m10,d10,rfl,_⟩,⟨B11,m11,d11,rfl,_⟩,⟨B12,m12,d12,rfl,_⟩⟩:=id hR.fin.sls;obtain ⟨B13,m13,d13,rfl,ias⟩:=id hR.atStart;obtain ⟨B14,m14,d14,rfl,iae⟩:=id hR.atEnd;have las:=ias.len;have lae:=iae.len;refine zWN ?_;intros;refine W9 [] [_,_] ?_;refine wG ?_;refine Ye (vs:=[Zy x.start.op,Zy x.start.name,Zc B1 m1 d1,Zc B2 m2 d2,Zc B3 m3 d3,Zc B4 m4 d4]) 0 ?_;refine Yo (Yo ?_);refine wG ?_;refine Ye (vs:=[Zy x.over.op,Zy x.over.name,Zc B5 m5 d5,Zc B6 m6 d6,Zc B7 m7 d7,Zc B8 m8 d8]) 0 ?_;refine Yo (Yo ?_);refine wG ?_;refine Ye (vs:=[Zy x.fin.op,Zy x.fin.name,Zc B9 m9 d9,Zc B10 m10 d10,Zc B11 m11 d11,Zc B12 m12 d12]) 0 ?_;refine Yo (Yo ?_);refine wG ?_;refine Ye (vs:=[Zy x.start.op,Zy x.start.name,Zc B1 m1 d1,Zc B2 m2 d2,Zc B3 m3 d3,Zc B4 m4 d4]) 0 ?_;refine wG ?_;refine Ye (vs:=[Zy x.over.op,Zy x.over.name,Zc B5 m5 d5,Zc B6 m6 d6,Zc B7 m7 d7,Zc B8 m8 d8]) 0 ?_;refine wG ?_;refine Ye (vs:=[Zy x.fin.op,Zy x.fin.name,Zc B9 m9 d9,Zc B10 m10 d10,Zc B11 m11 d11,Zc B12 m12 d12]) 0 ?_;refine Yo (Yo ?_);refine zW ?_;refine Yo ?_;refine zW ?_;refine pT ?_;refine Po.dag [7,8,11,12,15,16,23,24,27,30] 30 40 (DurV x) Zz Zz Zj Zj Zj Zj DurV.mono ⟨Zd,Zx⟩ ?_ (fun dn cv τ1 fz3 hle3 h2 hv hτ=>?_)
  ·refine DagOps.step (fun cv fz4 hle4 h4 hd=>?_) ?_
   ·exact Does.cv (cv':=[]) trivial h4 (Does.post (Yb (cs:=[Zy x.start.op,Zy x.start.name,Zc B1 m1 d1,Zc B2 m2 d2,Zc B3 m3 d3,Zc B4 m4 d4]) (fun gb=>⟨_,[_],Zq (l₁:=[_]),fun fz5 hle5 hf5=>⟨rfl,hle5,.m7 (YpA (hf5 _ (.head _)) (YK (hR.start.mono (hle4.trans hle5))))⟩⟩)))
   refine DagOps.step (fun cv fz4 hle4 h4 hd=>?_) ?_
   ·obtain ⟨v7,e7,h7⟩:=hd 7 Zj Zj;obtain ⟨E7,r7,q7,rfl,hs7⟩:=h7.p7 rfl;exact Does.cv (cv':=[(7,_)]) ⟨e7,trivial⟩ h4 (Yh [] _ Zz (and_f hs7 (YmX _ (by simp;omega))) (fun v8 fz5 H5 hle5 hR5=>by
     obtain ⟨rfl,hV5⟩:=hR5;exact ⟨rfl,hle5,.m8 hV5⟩))
   refine DagOps.step (fun cv fz4 hle4 h4 hd=>?_) ?_
   ·exact Does.cv (cv':=[]) trivial h4 (Does.post (Yb (cs:=[Zy x.over.op,Zy x.over.name,Zc B5 m5 d5,Zc B6 m6 d6,Zc B7 m7 d7,Zc B8 m8 d8]) (fun gb=>⟨_,[_],Zq (l₁:=[_]),fun fz5 hle5 hf5=>⟨rfl,hle5,.m11 (YpA (hf5 _ (.head _)) (YK (hR.over.mono (hle4.trans hle5))))⟩⟩)))
   refine DagOps.step (fun cv fz4 hle4 h4 hd=>?_) ?_
   ·obtain ⟨v7,e7,h7⟩:=hd 11 Zj Zj;obtain ⟨E7,r7,q7,rfl,hs7⟩:=h7.p11 rfl;exact Does.cv (cv':=[(11,_)]) ⟨e7,trivial⟩ h4 (Yh [] _ Zz (and_f hs7 (YmX _ (by simp;omega))) (fun v8 fz5 H5 hle5 hR5=>by
     obtain ⟨rfl,hV5⟩:=hR5;exact ⟨rfl,hle5,.m12 hV5⟩))
   refine DagOps.step (fun cv fz4 hle4 h4 hd=>?_) ?_
   ·exact Does.cv (cv':=[]) trivial h4 (Does.post (Yb (cs:=[Zy x.fin.op,Zy x.fin.name,Zc B9 m9 d9,Zc B10 m10 d10,Zc B11 m11 d11,Zc B12 m12 d12]) (fun gb=>⟨_,[_],Zq (l₁:=[_]),fun fz5 hle5 hf5=>⟨rfl,hle5,.m15 (YpA (hf5 _ (.head _)) (YK (hR.fin.mono (hle4.trans hle5))))⟩⟩)))
   refine DagOps.step (fun cv fz4 hle4 h4 hd=>?_) ?_
   ·obtain ⟨v7,e7,h7⟩:=hd 15 Zj Zj;obtain ⟨E7,r7,q7,rfl,hs7⟩:=h7.p15 rfl;exact Does.cv (cv':=[(15,_)]) ⟨e7,trivial⟩ h4 (Yh [] _ Zz (and_f hs7 (YmX _ (by simp;omega))) (fun v8 fz5 H5 hle5 hR5=>by
     obtain ⟨rfl,hV5⟩:=hR5;exact ⟨rfl,hle5,.m16 hV5⟩))
   refine DagOps.step (fun cv fz4 hle4 h4 hd=>?_) ?_
   ·exact Does.cv (cv':=[]) trivial h4 (Does.post (Yb (cs:=[Zy x.start.op,Zy x.start.name,Zc B1 m1 d1,Zc B2 m2 d2,Zc B3 m3 d3,Zc B4 m4 d4,Zy x.over.op,Zy x.over.name,Zc B5 m5 d5,Zc B6 m6 d6,Zc B7 m7 d7,Zc B8 m8 d8,Zy x.fin.op,Zy x.fin.name,Zc B9 m9 d9,Zc B10 m10 d10,Zc B11 m11 d11,Zc B12 m12 d12]) (fun gb=>⟨_,[_],Zq (l₁:=[_]),fun fz5 hle5 hf5=>⟨rfl,hle5,.m23 (is_three (hf5 _ (.head _)) (YK (hR.start.mono (hle4.trans hle5))) (YK (hR.over.mono (hle4.trans hle5))) (YK (hR.fin.mono (hle4.trans hle5))))⟩⟩)))
   refine DagOps.step (fun cv fz4 hle4 h4 hd=>?_) ?_
   ·obtain ⟨v7,e7,h7⟩:=hd 23 Zj Zj;obtain ⟨E7,r7,q7,rfl,hs7⟩:=h7.p23 rfl;exact Does.cv (cv':=[(23,_)]) ⟨e7,trivial⟩ h4 (Yh [] _ Zz (and_f hs7 (YmX _ (by simp;omega))) (fun v8 fz5 H5 hle5 hR5=>by
     obtain ⟨rfl,hV5⟩:=hR5;exact ⟨rfl,hle5,.m24 hV5⟩))
   refine DagOps.step (fun cv fz4 hle4 h4 hd=>?_) ?_
   ·exact Does.cv (cv':=[]) trivial h4 (Yh [] _ Zz (Ygc (ias.mono hle4) Zi w7) (fun v8 fz5 H5 hle5 hR5=>by
     obtain ⟨rfl,hV5⟩:=hR5;exact ⟨rfl,hle5,.m27 hV5⟩))
   refine DagOps.step (fun cv fz4 hle4 h4 hd=>?_) ?_
   ·exact Does.cv (cv':=[]) trivial h4 (Yh [] _ Zz (Ygc (iae.mono hle4) Zi w8) (fun v8 fz5 H5 hle5 hR5=>by
     obtain ⟨rfl,hV5⟩:=hR5;exact ⟨rfl,hle5,.m30 hV5⟩))
   exact DagOps.nil rfl
  obtain ⟨v8,e8,h8⟩:=hv 8 Zj;obtain ⟨v12,e12,h12⟩:=hv 12 Zj;obtain ⟨v16,e16,h16⟩:=hv 16 Zj;obtain ⟨v24,e24,h24⟩:=hv 24 Zj;obtain ⟨v27,e27,h27⟩:=hv 27 Zj;obtain ⟨v30,e30,h30⟩:=hv 30 Zj;obtain ⟨C80,s80,t80,C81,s81,t81,C82,s82,t82,C83,s83,t83,rfl,hF8⟩:=(h8.p8 rfl).open;obtain ⟨C120,s120,t120,C121,s121,t121,C122,s122,t122,C123,s123,t123,rfl,hF12⟩:=(h12.p12 rfl).open;obtain ⟨C160,s160,t160,C161,s161,t161,C162,s162,t162,C163,s163,t163,rfl,hF16⟩:=(h16.p16 rfl).open;obtain ⟨C240,s240,t240,C241,s241,t241,C242,s242,t242,C243,s243,t243,rfl,hF24⟩:=(h24.p24 rfl).open;obtain ⟨C27,s27,t27,rfl,hC27⟩:=h27.p27 rfl;obtain ⟨C30,s30,t30,rfl,hC30⟩:=h30.p30 rfl;refine Po.cv [(8,_),(12,_),(16,_),(24,_),(27,_),(30,_)] ⟨e8,e12,e16,e24,e27,e30,trivial⟩ h2 Zj ?_;refine Yr ?_;refine PoS.qk ⟨hle3,Zx⟩ (Xy ?_);refine Yr ?_;refine Yd (Yb (cs:=[Zy x.name,Zc B0 m0 d0,Zy (normV (andF [x.start])).op,Zy (normV (andF [x.start])).name,Zc C80 s80 t80,Zc C81 s81 t81,Zc C82 s82 t82,Zc C83 s83 t83,Zy (normV (andF [x.start,x.over,x.fin])).op,Zy (normV (andF [x.start,x.over,x.fin])).name,Zc C240 s240 t240,Zc C241 s241 t241,Zc C242 s242 t242,Zc C243 s243 t243,Zy (normV (andF [x.over])).op,Zy (normV (andF [x.over])).name,Zc C120 s120 t120,Zc C121 s121 t121,Zc C122 s122 t122,Zc C123 s123 t123,Zy (normV (andF [x.fin])).op,Zy (normV (andF [x.fin])).name,Zc C160 s160 t160,Zc C161 s161 t161,Zc C162 s162 t162,Zc C163 s163 t163,Zc C27 s27 t27,Zc C30 s30 t30,Zo false,Zn]) (fun gb=>⟨⟨hle3,Zx⟩,?_⟩));refine Yr ?_;refine Yd (YD (Hr:=[_,_,_]) (d:=schD x) (Zr _) (hG2.mono hle3) YhG (.head _) (YcO (x:=schD x) ⟨hR.name,ip.is.mono hle3,hF8,hF24,hF12,hF16,hC27.is,hC30.is,trivial,IsSl.nil⟩) (fun v9 H9 hO9=>⟨⟨hle3,Zx⟩,?_⟩));obtain ⟨A9,c9,rfl,_,_⟩:=hO9.form;refine Yr ?_;refine PoS.qk ⟨hle3,Zx⟩ (YE ?_);refine Po.done ?_;refine blkN ?_;refine Ydn ?_;refine Wp.weaken (σ':=[(4,Zc A9 (n5+k+1) c9),(47,Zk k),(46,Zk n6),(45,Zc A6 n6 b6),(1,Zp g1)]) ⟨rfl,(hτ 47 Zj).trans rfl,(hτ 46 Zj).trans rfl,(hτ 45 Zj).trans rfl,(hτ 1 Zj).trans rfl,trivial⟩ (List.Sublist.refl _) ?_;exact wP (h:=by exact ⟨k+1,_,H9,by omega,rfl,rfl,hle2.trans hle3,rfl,hO9.of (by rw [List.take_add_one,hx];simp) rfl⟩)
 have hk2:n6=k:=by omega
 subst hk2;rw [Zl (show d.duratives.length<=n6 by omega)] at hG2;change Grow schemaL _ fz2 _ _ _ (schB d) at hG2;have lB:(schB d).length=n5+n6:=hG2.len;generalize hN:n5+n6=N at hG2 lB;have hleA:=hle.trans hle2;refine zW ?_;refine Yi (fun q σ fz3 H'=>∃ (k:Nat) (Hs:HP),k<=N/\q=N - k/\σ=[(88,Zk k),(87,Zk N),(10,Zk ((YbX (((schB d).take k).map (Ybn K)):Nat):Int)),(4,Zc Au2 N cu2),(1,Zp g1)]/\Le fz2 fz3/\H'=(g1,Zu #[Zp gk] 70)::Hs/\Grow schemaL 113 fz3 (Zc Au2 N cu2) N Hs (((schB d).take k).map (Ybn K)++(schB d).drop k)) ⟨0,Hs2,Z0 _,rfl,rfl,Zd,rfl,hG2.of (by simp) rfl⟩ Zw Zb ?_;rintro q σ fz3 H' ⟨k,Hs3,hk3,rfl,rfl,hle3,rfl,hG3⟩;have hmb:=manyS_le K d k;refine wC ?_ ?_<;>intro c3
 ·obtain ⟨x,hx⟩:=Yc (l:=schB d) (k:=k) Zi;have hxk:(((schB d).take k).map (Ybn K)++(schB d).drop k)[k]?=some x:=by
   rw [List.getElem?_append_right (by rw [List.length_map,List.length_take];omega),List.length_map,List.length_take,List.getElem?_drop,<- hx]
   congr 1;omega
  have hps:=Ymc hS (Zm hx);obtain ⟨gb,cap,cur,e8,rfl,hB⟩:=hG3.b Zi;injection e8 with e81 e82 e83
  subst e81;subst e83;obtain ⟨cs,hrx,hcx⟩:=YbM hB hxk;obtain ⟨u0,u1,u2,u3,u4,u5,u6,u7,u8,u9,u10,u11,u12,u13,u14,u15,u16,u17,u18,u19,rfl,hRx⟩:=Yaa hrx;obtain ⟨P1,pn,pc,rfl,hPs⟩:=id hRx.params;have lps:=hPs.len;have hK3:=hK0.mono (hleA.trans hle3);refine zWN ?_;refine YS [_,_] ?_;refine wG ?_;refine Yv rfl ?_;refine wG ?_;refine Yp 1 ?_ (hv:=YkB (o:=1) hcx rfl);refine pU ?_;refine Yf (Yh [] [_,_] Zz (comb_f (most:=4096) hK3 hPs Zi Zh) (fun v8 fz8 H8 hle8 hR8=>⟨⟨hle8,Zx⟩,?_⟩));obtain ⟨rfl,Bc,mc8,dc8,rfl,hSc⟩:=hR8;have lsc:=hSc.len;have hcl:(Yc6 K x.params 4096).length<=4097:=Yeq K 4096 x.params [[]] (by simp);refine Ch.qk ⟨hle8,Zx⟩ (Yv rfl ?_);refine Ch.qk ⟨hle8,Zx⟩ (Xi ?_);have hB8:=YnD (o:=29) (d':=Ybn K x) (v:=Zc Bc mc8 dc8) (hB.mono hle8) hxk hcx Zh (YcO (x:=Ybn K x) (let h:=hRx.mono hle8;⟨h.name,h.params,h.start,h.all,h.over,h.fin,h.early,h.late,trivial,hSc.is⟩));have e5:(((schB d).take k).map (Ybn K)++(schB d).drop k).set k (Ybn K x)=((schB d).take (k+1)).map (Ybn K)++(schB d).drop (k+1):=by
   rw [List.set_append_right _ _ (by rw [List.length_map,List.length_take];omega),List.length_map,List.length_take,show k - min k (schB d).length=0 by omega];obtain ⟨h1,h2⟩:=Zg hx;rw [List.drop_eq_getElem_cons h1,List.set_cons_zero,List.take_add_one,hx];simp
  rw [e5] at hB8;have hxk8:(((schB d).take (k+1)).map (Ybn K)++(schB d).drop (k+1))[k]?=some (Ybn K x):=by
   rw [<- e5,List.getElem?_set_self (by rw [List.length_append,List.length_map,List.length_take,List.length_drop];omega)]
  obtain ⟨cs8,hr8,hc8⟩:=YbM hB8 hxk8;have hl29:k*schemaL.size+29<cur.length:=by
   have h1:=hB.size;have h2:k*schemaL.size+schemaL.size<=cu2*schemaL.size:=by rw [<- Nat.succ_mul];exact Nat.mul_le_mul_right _ (by have:=hB.capn;omega)
   have h3:schemaL.size=30:=rfl;omega
  have hc29:cs8[29]?=some (Zc Bc mc8 dc8):=by
   rw [<- hc8,List.getElem?_take_of_lt Zh,List.getElem?_drop,List.getElem?_set_self hl29]
  have hms:YbX (((schB d).take (k+1)).map (Ybn K))=YbX (((schB d).take k).map (Ybn K))+mc8:=by
   unfold YbX;rw [List.take_add_one,hx,List.map_append,List.map_append,List.sum_append];show _+((Ybn K x).arguments.length+0)=_;rw [show (Ybn K x).arguments=Yc6 K x.params 4096 from rfl,lsc];rfl
  refine Ch.hard0 (YgC (pre:=[_]) (j:=k*schemaL.size+29) ?_ (hH:=rfl) (hs:=rfl) (hv:=rfl) (h1:=rfl) (hj:=hl29));refine Ch.done ?_;refine wG ?_;refine Yv rfl ?_;refine wG ?_;refine Yp 1 ?_ (hv:=YkB (o:=29) (z:=schemaL.size) (j:=k) hc8 hc29);exact wP (h:=by exact ⟨k+1,_,by omega,rfl,by rw [hms],hle3.trans hle8,rfl,hB8.grow⟩)
 have hk4:N=k:=by omega
 subst hk4;rw [Zl (show (schB d).length<=N by omega)] at hG3 ⊢;rw [List.drop_eq_nil_of_le (show (schB d).length<=N by omega),List.append_nil] at hG3;change Grow schemaL _ fz3 _ _ _ (schL K d) at hG3;rw [show (schB d).map (Ybn K)=schL K d from rfl];have hmz:YbX (schL K d)<=4097*(schB d).length:=Ygw K (schB d);refine wC ?_ ?_<;>intro c4
 ·have hE:schE K d=5:=by rw [schE,if_pos Zi]
  exact wS (h:=by exact ⟨rfl,_,by rw [hE];rfl,fun h=>absurd h (by rw [hE];decide),fun _=>rfl⟩)
 have hno:¬4096<YbX (schL K d):=by omega
 first
 | refine Wp.freezeAll (H1:=[_]) (H2:=Hs3) (Zr _) (fun fz4 hle4 hf4=>?_)
 | refine Seq.freezeAll (H1:=[_]) (H2:=Hs3) (Zr _) (fun fz4 hle4 hf4=>?_)
 obtain ⟨A9,c9,e9,hSl⟩:=hG3.sl hle4 hf4 Zi;injection e9 with e91 e92 e93
 subst e91;subst e93;have lSl:=hSl.len;refine zW ?_;refine Yi (fun q σ fz5 H'=>∃ (k:Nat),k<=N/\q=N - k/\σ=[(116,Zk k),(115,Zk N),(114,Zc Au2 N cu2),(4,Zc Au2 N cu2),(1,Zp g1)]/\fz4=fz5/\H'=[(g1,Zu #[Zp gk] 70)]/\∀ i,i<k->∀ s,(schL K d)[i]?=some s->¬Yla K s) ⟨0,Z0 _,rfl,rfl,rfl,rfl,fun i hi=>absurd hi Zi⟩ Zw Zb ?_;rintro q σ fz5 H' ⟨k,hk5,rfl,rfl,rfl,rfl,hall⟩;have hK4:=hK0.mono (hleA.trans (hle3.trans hle4));refine wC ?_ ?_<;>intro c5
 ·obtain ⟨x,hx⟩:=Yc (l:=schL K d) (k:=k) Zi;have hxm:=Zm hx;refine wI hSl hx (fun p5 hp5=>?_);refine zL hp5 ?_;intro cs hcs;obtain ⟨u0,u1,u2,u3,u4,u5,u6,u7,u8,u9,u10,u11,u12,u13,u14,u15,u16,u17,u18,u19,rfl,hR⟩:=Yaa hcs;obtain ⟨B0,m0,d0,rfl,_⟩:=id hR.params;obtain ⟨⟨B1,m1,d1,rfl,_⟩,⟨B2,m2,d2,rfl,_⟩,⟨B3,m3,d3,rfl,_⟩,⟨B4,m4,d4,rfl,_⟩⟩:=id hR.start.sls;obtain ⟨⟨B5,m5,d5,rfl,_⟩,⟨B6,m6,d6,rfl,_⟩,⟨B7,m7,d7,rfl,_⟩,⟨B8,m8,d8,rfl,_⟩⟩:=id hR.all.sls;obtain ⟨⟨B9,m9,d9,rfl,_⟩,⟨B10,m10,d10,rfl,_⟩,⟨B11,m11,d11,rfl,_⟩,⟨B12,m12,d12,rfl,_⟩⟩:=id hR.over.sls;obtain ⟨⟨B13,m13,d13,rfl,_⟩,⟨B14,m14,d14,rfl,_⟩,⟨B15,m15,d15,rfl,_⟩,⟨B16,m16,d16,rfl,_⟩⟩:=id hR.fin.sls;obtain ⟨B17,m17,d17,rfl,_⟩:=id hR.early;obtain ⟨B18,m18,d18,rfl,il⟩:=id hR.late;obtain ⟨B19,m19,d19,rfl,_⟩:=id hR.arguments;cases hcnt:x.count with
  | false=>
   refine zW ?_;intros;exact wM (h:=by exact Yx hall hx (fun h=>by rw [Yla,hcnt] at h;exact absurd h.1 Zh))
  | true=>
   obtain ⟨hs1,hs2⟩:=schL_sh hS hxm hcnt;refine zW ?_;intros
   ((refine zG ?_);refine Ye (vs:=[Zy x.start.op,Zy x.start.name,Zc B1 m1 d1,Zc B2 m2 d2,Zc B3 m3 d3,Zc B4 m4 d4]) 0 ?_);refine zc (You hK4 hR.start hs1) ?_;refine zC ?_ ?_<;>intro c6
   ·have hb:Yla K x:=⟨hcnt,.inl Zi⟩;have hE:schE K d=5:=by rw [schE,if_neg hno,if_pos ⟨x,hxm,hb⟩]
    exact wS (h:=by exact ⟨rfl,_,by rw [hE];rfl,fun h=>absurd h (by rw [hE];decide),fun _=>rfl⟩)
   refine wG ?_;refine YG ?_;refine zG ?_;refine YaQ (fun fz' hle hf=>YaN (p:=fun y=>64<termsM K y.when_) (il.mono hle) (fun y hy cs hcs=>schm1_q (hK4.mono hle) hcs (hs2 y hy) (hf _ (.tail _ (.head _))))) (fun f1=>?_) (fun f1=>?_)
   ·have hb:Yla K x:=⟨hcnt,.inr (Zt f1)⟩;have hE:schE K d=5:=by rw [schE,if_neg hno,if_pos ⟨x,hxm,hb⟩]
    exact wS (h:=by exact ⟨rfl,_,by rw [hE];rfl,fun h=>absurd h (by rw [hE];decide),fun _=>rfl⟩)
   have hb:¬Yla K x:=fun h=>by
    rcases h.2 with h | h
    ·omega
    exact Zf f1 h
   exact wM (h:=by exact Yx hall hx hb)
 have hA:∀ i s,(schL K d)[i]?=some s->¬Yla K s:=fun i s hi=>hall i (by have:=(Zg hi).1;omega) s hi
 have hE:schE K d=0:=by
  rw [schE,if_neg hno,if_neg];rintro ⟨s,hs,hb⟩;obtain ⟨i,hi⟩:=List.getElem?_of_mem hs;exact hA i s hi hb
 exact wS (h:=by exact ⟨rfl,_,by rw [hE];rfl,fun _=>hSl.is,fun h=>absurd hE h⟩)
end Go.Proofs.YtacfpcbladaohaaGreatDoor
namespace Go.Lx
open Go.RowKit
def rowL:Lay (Nat × Nat) where
 size:=1
 rep:=fun _ x cs=>cs=[Zc (some ⟨x.1,0,none⟩) x.2 x.2]
 len:=fun h=>by subst h;rfl
 mono:=fun _ h=>h
section
variable {P:Program} {cx:Cx} {r:Operand->Option Value} {fz:FZ} {H:HP} {V:Value->Prop} {dst:Option Nat} {ty:TypeId} {pos:String} {af:Array Edge} {gd:Option (Nat × Bool)}
theorem Y4 {t:TypeId} {x:Operand} {X:Ty} {p:Addr} {d:Nat × Nat} (h:At rowL fz p d) (hV:V (.slice (some ⟨d.1,0,none⟩) d.2 d.2)) (T:Tab P:=by exact T) (hT:T.inf t=some X:=by exact rfl) (hd:XU X.desc=false:=by exact rfl) (hx:r x=some (.pointer (some p)):=by exact rfl):DoesQ P cx ⟨dst,.load t x,ty,pos,af,gd⟩ r fz H V:=by
 obtain ⟨v,h1,h2⟩:=h.cell rfl;injection h1 with h1
 subst h1;exact YaF T hT hd hx h2 hV
end
theorem row_one:OneC rowL:=by
 intro fz d cs h u hu;subst h;simp at hu;subst hu;rfl
end Go.Lx
namespace Go.Proofs.YtacfpcbladaohaaGreatDoor
variable {g i k:Nat} {K:Kn}
def rowO (g:Nat) (b:List Bool):Nat × Obj:=(g,.cells (b.map Value.bool).toArray 4 (0,0))
def rowsO (gs:List Nat) (B:List (List Bool)):HP:=List.zipWith rowO gs B
theorem Ygb {gs:List Nat} {B:List (List Bool)} {b:List Bool} (hg:gs[i]?=some g) (hb:B[i]?=some b):(rowsO gs B)[i]?=some (rowO g b):=by
 unfold rowsO;rw [List.getElem?_zipWith,hg,hb]
theorem YoE {gs:List Nat} {B:List (List Bool)} (h:gs.length=B.length):(rowsO gs B).length=gs.length:=by
 unfold rowsO;rw [List.length_zipWith];omega
theorem YjQ {gs:List Nat} {B:List (List Bool)} {b b':List Bool} (hl:gs.length=B.length) (hg:gs[i]?=some g) (hb:B[i]?=some b):
 ∃ pre post,rowsO gs B=pre++rowO g b::post/\rowsO gs (B.set i b')=pre++rowO g b'::post:=by
 obtain ⟨h1,h2⟩:=Zg hg;obtain ⟨h3,h4⟩:=Zg hb;have e1:gs=gs.take i++g::gs.drop (i+1):=by rw [<- h2,<- List.drop_eq_getElem_cons h1,List.take_append_drop]
 have e2:B=B.take i++b::B.drop (i+1):=by rw [<- h4,<- List.drop_eq_getElem_cons h3,List.take_append_drop]
 have e3:B.set i b'=B.take i++b'::B.drop (i+1):=by rw [List.set_eq_take_append_cons_drop,if_pos h3]
 have hz:∀ c,rowsO (gs.take i++g::gs.drop (i+1)) (B.take i++c::B.drop (i+1))=rowsO (gs.take i) (B.take i)++rowO g c::rowsO (gs.drop (i+1)) (B.drop (i+1)):=fun c=>by
  unfold rowsO;rw [List.zipWith_append (by rw [List.length_take,List.length_take];omega)];rfl
 refine ⟨rowsO (gs.take i) (B.take i),rowsO (gs.drop (i+1)) (B.drop (i+1)),?_,?_⟩
 ·rw [<- hz b,<- e1,<- e2]
 rw [e3,<- hz b',<- e1]
structure InsR where
 S:List Atom
 b:Bool
 d:Bool
 n:Bool
def envA (s:Schema) (a:List Bs):EnvM:=extE (fun _=>none) s.params a
def Yah (K:Kn) (s:Schema) (a:List Bs) (S:List Atom) (b d:Bool):InsR:=
 let E:=envA s a
 let b':=b || holdsM K S E s.start
 let d':=d || (b' && holdsM K S E s.all)
 let r1:=if b'=true then YbE K s.early E S else (S,false)
 let r2:=if d'=true then YbE K s.late E r1.1 else (r1.1,false)
 ⟨r2.1,b',d',r2.2 || (r1.2 || ((!d && d') || (!b && b')))⟩
structure RowS where
 S:List Atom
 bs:List Bool
 ds:List Bool
 n:Bool
def Ym8 (K:Kn) (s:Schema) (st:RowS) (j:Nat) (a:List Bs):RowS:=
 let q:=Yah K s a st.S (st.bs[j]?.getD false) (st.ds[j]?.getD false)
 ⟨q.S,st.bs.set j q.b,st.ds.set j q.d,q.n || st.n⟩
def rowN (K:Kn) (s:Schema):Nat->RowS->RowS
 | 0,st=>st
 | k+1,st=>match s.arguments[k]? with
  | some a=>Ym8 K s (rowN K s k st) k a
  | none=>rowN K s k st
structure RndS where
 S:List Atom
 B:List (List Bool)
 D:List (List Bool)
 n:Bool
def stepW (K:Kn) (w:RndS) (i:Nat) (s:Schema):RndS:=
 let r:=rowN K s s.arguments.length ⟨w.S,w.B[i]?.getD [],w.D[i]?.getD [],w.n⟩
 ⟨r.S,w.B.set i r.bs,w.D.set i r.ds,r.n⟩
def rndN (K:Kn) (l:List Schema):Nat->RndS->RndS
 | 0,w=>w
 | i+1,w=>match l[i]? with
  | some s=>stepW K (rndN K l i w) i s
  | none=>rndN K l i w
def Xq (K:Kn) (l:List Schema) (S:List Atom) (B D:List (List Bool)):RndS:=rndN K l l.length ⟨S,B,D,false⟩
theorem YfH (K:Kn) (s:Schema):∀ (k:Nat) (st:RowS),(rowN K s k st).bs.length=st.bs.length/\(rowN K s k st).ds.length=st.ds.length
 | 0,_=>⟨rfl,rfl⟩
 | k+1,st=>by
  have h:=YfH K s k st;rw [rowN];split
  ·exact ⟨by show ((rowN K s k st).bs.set _ _).length=_;rw [List.length_set];exact h.1,by show ((rowN K s k st).ds.set _ _).length=_;rw [List.length_set];exact h.2⟩
  exact h
theorem YjR {s:Schema} {st:RowS} {a:List Bs} (h:s.arguments[k]?=some a):rowN K s (k+1) st=Ym8 K s (rowN K s k st) k a:=by rw [rowN,h]
theorem YjS {l:List Schema} {w:RndS} {s:Schema} (h:l[i]?=some s):rndN K l (i+1) w=stepW K (rndN K l i w) i s:=by rw [rndN,h]
def FitR (l:List Schema) (B:List (List Bool)):Prop:=B.length=l.length/\∀ (i:Nat) (s:Schema) (b:List Bool),l[i]?=some s->B[i]?=some b->b.length=s.arguments.length
theorem FitR.set {l:List Schema} {B:List (List Bool)} (h:FitR l B) {b b':List Bool} (hb:B[i]?=some b) (hl:b'.length=b.length):FitR l (B.set i b'):=by
 refine ⟨by rw [List.length_set];exact h.1,fun j s c hs hc=>?_⟩;by_cases he:i=j
 ·subst he;have hlt:=(Zg hb).1;rw [List.getElem?_set_self hlt] at hc;injection hc with hc
  subst hc;rw [hl];exact h.2 i s b hs hb
 rw [List.getElem?_set_ne he] at hc;exact h.2 j s c hs hc
theorem Yd0 {K:Kn} {l:List Schema}:∀ (i:Nat) {w:RndS},FitR l w.B->FitR l w.D->FitR l (rndN K l i w).B/\FitR l (rndN K l i w).D
 | 0,_,h1,h2=>⟨h1,h2⟩
 | i+1,w,h1,h2=>by
  obtain ⟨k1,k2⟩:=Yd0 (K:=K) i h1 h2;rw [rndN];split
  ·rename_i s hs;have hlt:i<l.length:=(Zg hs).1;obtain ⟨b,hb⟩:=Yc (l:=(rndN K l i w).B) (k:=i) (by rw [k1.1];exact hlt);obtain ⟨d,hd⟩:=Yc (l:=(rndN K l i w).D) (k:=i) (by rw [k2.1];exact hlt);have hrl:=YfH K s s.arguments.length ⟨(rndN K l i w).S,((rndN K l i w).B[i]?).getD [],((rndN K l i w).D[i]?).getD [],(rndN K l i w).n⟩;exact ⟨k1.set hb (by rw [hrl.1,hb];rfl),k2.set hd (by rw [hrl.2,hd];rfl)⟩
  exact ⟨k1,k2⟩
end Go.Proofs.YtacfpcbladaohaaGreatDoor
