/- The texts EvZ, EwA, EwB, EwC, Tries, laid together. Conditions: none. -/
import Derived.Test.YtaaanbkahfeknaaGreatDoorCNR
set_option linter.all false
noncomputable section
open Go.Lx Go.RowKit
open Go.Proofs.Tryz (prog)
namespace Go.Ev
variable {α:Type}
theorem Yck {α:Type}:∀ (n:Nat) (t:Tr α) (i:Nat) (x:Option α),i<n->YS n t i x (fun _=>true)=true
 | 0,_,_,_,h=>by omega
 | m+1,t,i,x,h=>by
  have key:∀ (l:Tr α) (v:Option α) (r:Tr α),YdT (YS m) i x (fun _=>true) l v r=true:=by
   intro l v r;unfold YdT;by_cases h0:i=0
   ·subst h0;rfl
   rw [Xa h0,YF];by_cases h1:Nat.mod i 2=1
   ·rw [h1];exact Yck m l (Nat.div i 2) x (by have:Nat.div i 2=i / 2:=rfl;omega)
   rw [Xa h1,YF];exact Yck m r (Nat.pred (Nat.div i 2)) x (by have e1:Nat.div i 2=i / 2:=rfl;have e2:Nat.pred (Nat.div i 2)=i / 2 - 1:=rfl;omega)
  cases t with
  | lf=>exact key .lf none .lf
  | n l v r=>exact key l v r
theorem YkN (t:Tr α) (i:Nat) (x:Option α):∃ t',t.upd i x t':=by
 obtain ⟨t',h,_⟩:=YC _ _ _ _ _ (Yck (i+1) t i x Zi);exact ⟨t',h⟩
section
variable {P:Program} {tT:TT} {T:Tab P}
def WI (tT:TT) (all:List Oper) (σA veA:Tr AV) (pendA:Pn) (u:Nat × Oper) (id:Nat) (o o':AO):Prop:=
 u.2.dst=none/\u.2.guard=none/\∃ (t:TypeId) (x y:Operand) (v:AV) (a:Nat) (X:TyA) (w:AV) (q:Ce) (cs:List AV),u.2.op=.store t x y/\rdQ all u.1 u.2 σA veA x=some v/\asP v=some (id,a)/\tT t=some X/\rdQ all u.1 u.2 σA veA y=some w/\w.cells.length=X.size/\w.cells.all AV.one=true/\
  o=.cells q.cs q.e q.sl q.fr/\wr q.cs a w.cells=some cs/\o'=.cells cs q.e q.sl q.fr/\∀ z∈YeX pendA u.2,∀ j∈z.2,j=id->o'=o
def QI (P:Program) (tT:TT) (all:List Oper) (σA veA:Tr AV) (u:Nat × Oper) (a:AV):Prop:=
 u.2.guard=none/\∃ f:QF,XS P tT u.2.op (.q f)/\f tT (rdQ all u.1 u.2 σA veA) .lf (fun v=>avEq v a)=true
inductive GK where
 | st (id:Nat) (o o':AO)
 | qt (a:AV)
def GK.val:GK->AV
 | .st _ _ _=>.tup []
 | .qt a=>a
abbrev GE:=(Nat × Oper) × GK
def GI (P:Program) (tT:TT) (all:List Oper) (σA veT:Tr AV) (pendA:Pn) (u:Nat × Oper):GK->Prop
 | .st id o o'=>WI tT all σA veT pendA u id o o'
 | .qt a=>QI P tT all σA veT u a
def Ch (id:Nat):Option AO->List GE->Option AO->Prop
 | cur,[],fin=>fin=cur
 | cur,e::r,fin=>match e.2 with
  | .st i o o'=>if i=id then cur=some o/\Ch id (some o') r fin else Ch id cur r fin
  | .qt _=>Ch id cur r fin
def notSt (id:Nat) (k:GK):Prop:=∀ o o',k≠ .st id o o'
theorem YbY {id:Nat} {e:GE}:∀ {W1 W2:List GE} {cur fin:Option AO},notSt id e.2->Ch id cur (W1++e::W2) fin->Ch id cur (W1++W2) fin
 | [],W2,cur,fin,hn,h=>by
  simp only [List.nil_append,Ch] at h ⊢;cases he:e.2 with
  | st i o o'=>
   simp only [he] at h;rw [if_neg (fun hc=>hn o o' (by rw [he,hc]))] at h;exact h
  | qt a=>simp only [he] at h;exact h
 | x::r,W2,cur,fin,hn,h=>by
  simp only [List.cons_append,Ch] at h ⊢;cases hx:x.2 with
  | st i o o'=>
   simp only [hx] at h ⊢;split at h
   ·rename_i hi;rw [if_pos hi];exact ⟨h.1,YbY hn h.2⟩
   rename_i hi;rw [if_neg hi];exact YbY hn h
  | qt a=>simp only [hx] at h ⊢;exact YbY hn h
theorem YdZ {id:Nat} {e:GE} {o o':AO} (he:e.2=.st id o o'):∀ {W1 W2:List GE} {cur fin:Option AO},(∀ x∈W1,notSt id x.2)->Ch id cur (W1++e::W2) fin->cur=some o/\Ch id (some o') (W1++W2) fin
 | [],W2,cur,fin,_,h=>by
  simp only [List.nil_append,Ch,he] at h ⊢;rw [if_pos trivial] at h;exact h
 | x::r,W2,cur,fin,hn,h=>by
  simp only [List.cons_append,Ch] at h ⊢;cases hx:x.2 with
  | st i p p'=>
   simp only [hx] at h ⊢;have hi:i≠id:=fun hc=>hn x (by simp) p p' (by rw [hx,hc])
   rw [if_neg hi] at h ⊢;exact YdZ he (fun y hy=>hn y (by simp [hy])) h
  | qt a=>simp only [hx] at h ⊢;exact YdZ he (fun y hy=>hn y (by simp [hy])) h
theorem oCe_eq {o:AO} {q:Ce} (h:oCe o=some q):o=.cells q.cs q.e q.sl q.fr:=by
 cases o with
 | cells cs e sl fr=>simp [oCe] at h;subst h;rfl
 | map _ _=>simp [oCe] at h
 | mit _ _ _ _=>simp [oCe] at h
theorem dstK_s {nt:Nat} {d:Option Nat} {ds:List Nat} {v:AV} {env:Tr AV} {c:List Nat->Tr AV->Bool} (h:dstK nt d ds v env c=true):
 ∃ ds' env',c ds' env'=true/\(∀ x∈ds,x∈ds')/\(∀ x,d=some x->x ∉ ds/\x<nt/\x∈ds'/\env'.get x=some v)/\∀ t,d≠some t->env'.get t=env.get t:=by
 cases d with
 | none=>exact ⟨ds,env,h,fun _ h=>h,(fun x hx=>by cases hx),fun _ _=>rfl⟩
 | some d=>
  obtain ⟨hc,h⟩:=YE (show fT (!hasN ds d && Nat.blt d nt) (YS envd env d (some v) fun env=>c (d::ds) env)=true from h);obtain ⟨e',hu,h⟩:=YC _ _ _ _ _ h;simp only [Bool.and_eq_true,Nat.blt_eq,Bool.not_eq_true'] at hc;refine ⟨d::ds,e',h,fun x hx=>by simp [hx],fun x hx=>?_,fun t ht=>?_⟩
  ·injection hx with hx;subst hx
   exact ⟨(fun hm=>by rw [WO.2 hm] at hc;cases hc.1),hc.2,by simp,by rw [hu,if_pos rfl]⟩
  rw [hu,if_neg (fun he=>ht (by rw [he]))]
def Gd (ν:Nu) (t:Tr AV):Prop:=∀ i a,t.get i=some a->∃ v,gv ν a=some v
variable {i:Nat} {o:Oper}
theorem gd_rr {ν:Nu} {all:List Oper} {σA veA:Tr AV} (hσ:Gd ν σA) (hv:Gd ν veA):RR ν (rdQ all i o σA veA) (fun x=>(rdQ all i o σA veA x).bind (gv ν)):=fun x a hx=>by
 have key:∃ v,gv ν a=some v:=by
  cases x with
  | tmp t=>
   have hx':oE (σA.get t) (fun j=>br (oB (at_ all j) fun oj=>oT (waits oj i) (σA.get t)) (veA.get j) (waits o j)) (Wy all t 0)=some a:=hx;cases hw:Wy all t 0 with
   | none=>rw [hw,Wl] at hx';exact hσ t a hx'
   | some j=>
    rw [hw,XQ] at hx';cases hwt:waits o j with
    | true=>rw [hwt,Y4] at hx';exact hv j a hx'
    | false=>
     rw [hwt,YF] at hx';obtain ⟨oj,hoj,hx'⟩:=YB hx';obtain ⟨hwi,hx'⟩:=YZ hx';exact hσ t a hx'
  | const c=>exact ⟨c,ofV_s hx ν⟩
  | func f=>injection hx with hx;subst hx;exact ⟨_,gv_fn ν f⟩
  | global g=>cases hx
 obtain ⟨v,hv⟩:=key;exact ⟨v,hv,by simp only [hx,Option.bind_some];exact hv⟩
variable {v:Value}
theorem Gd.put {ν:Nu} {t t':Tr AV} {a:AV} (h:Gd ν t) (hu:t.upd i (some a) t') (hv:gv ν a=some v):Gd ν t':=fun j b hb=>by
 rw [hu j] at hb;split at hb
 ·injection hb with hb;subst hb;exact ⟨v,hv⟩
 exact h j b hb
theorem Ykf (hT:TA tT T) {ν:Nu} {cx:Cx} {fz:FZ} {nt:Nat} {all:List Oper} {σA:Tr AV} {pendA:Pn}:∀ {us:List (Nat × Oper)} {seen:List (Nat × Nat)} {ds:List Nat} {h:Tr AO} {ve env:Tr AV} {c:Tr AO->Tr AV->Tr AV->Bool},gRun tT nt all σA pendA us seen ds h ve env c=true->
 Gd ν σA->Gd ν ve->(∀ u∈us,ve.get u.1=none)->(us.map Prod.fst).Nodup->
 ∃ (W:List GE) (hF:Tr AO) (veF envF:Tr AV),W.map (fun e=>e.1)=us/\c hF veF envF=true/\(∀ e∈W,∃ veT:Tr AV,(∀ i a,veT.get i=some a->veF.get i=some a)/\GI P tT all σA veT pendA e.1 e.2)/\
  (∀ id,Ch id (h.get id) W (hF.get id))/\W.Pairwise (fun x y=>∀ id o1 p1 o2 p2,x.2=.st id o1 p1->y.2=.st id o2 p2->waits y.1.2 x.1.1=true)/\
  (∀ e∈W,∀ id o o',e.2=.st id o o'->∀ z∈seen,z.1=id->waits e.1.2 z.2=true)/\
  ((∀ e∈W,veF.get e.1.1=some e.2.val)/\∀ i,(∀ e∈W,e.1.1≠i)->veF.get i=ve.get i)/\
  (∀ e∈W,∀ d,e.1.2.dst=some d->d ∉ ds/\d<nt/\envF.get d=some e.2.val)/\(∀ t,(∀ e∈W,e.1.2.dst≠some t)->envF.get t=env.get t)/\W.Pairwise (fun x y=>∀ d,x.1.2.dst=some d->y.1.2.dst≠some d)
 | [],seen,ds,h,ve,env,c,hf,_,_,_,_=>⟨[],h,ve,env,rfl,hf,by simp,fun _=>rfl,.nil,by simp,⟨by simp,fun _ _=>rfl⟩,by simp,fun _ _=>rfl,.nil⟩
 | p::r,seen,ds,h,ve,env,c,hf,hgσ,hgv,hn,hnd=>by
  simp only [List.map_cons,List.nodup_cons] at hnd;have hpn:ve.get p.1=none:=hn p (by simp);have hpr:∀ u∈r,u.1≠p.1:=fun u hu he=>hnd.1 (List.mem_map.2 ⟨u,hu,he⟩)
  have hsub:∀ (ve1:Tr AV) (a:AV),ve.upd p.1 (some a) ve1->∀ i b,ve.get i=some b->ve1.get i=some b:=fun ve1 a hu i b hb=>by
   rw [hu i,if_neg (fun hc=>by rw [hc,hpn] at hb;cases hb)];exact hb
  have hn1:∀ (ve1:Tr AV) (a:AV),ve.upd p.1 (some a) ve1->∀ u∈r,ve1.get u.1=none:=fun ve1 a hu u hur=>by
   rw [hu u.1,if_neg (hpr u hur)];exact hn u (by simp [hur])
  -- what the rest gives,with this one ahead
  have fin:∀ (k:GK) (ve1:Tr AV) (hu:ve.upd p.1 (some k.val) ve1) (W:List GE) (veF:Tr AV),W.map (fun e=>e.1)=r->(∀ e∈W,veF.get e.1.1=some e.2.val)->(∀ i,(∀ e∈W,e.1.1≠i)->veF.get i=ve1.get i)->
   ((∀ e∈(p,k)::W,veF.get e.1.1=some e.2.val)/\∀ i,(∀ e∈(p,k)::W,e.1.1≠i)->veF.get i=ve.get i)/\∀ i a,ve.get i=some a->veF.get i=some a:=fun k ve1 hu W veF hW g1 g2=>by
   have hWr:∀ e∈W,e.1.1≠p.1:=fun e he=>hpr e.1 (by rw [<- hW];exact List.mem_map.2 ⟨e,he,rfl⟩)
   have hp1:veF.get p.1=some k.val:=by rw [g2 p.1 hWr,hu,if_pos rfl]
   have h2:∀ i,(∀ e∈(p,k)::W,e.1.1≠i)->veF.get i=ve.get i:=fun i hi=>by
    rw [g2 i (fun e he=>hi e (by simp [he])),hu i,if_neg (fun hc=>hi (p,k) (by simp) hc.symm)]
   refine ⟨⟨fun e he=>?_,h2⟩,fun i a ha=>?_⟩
   ·cases he with
    | head=>exact hp1
    | tail _ he=>exact g1 e he
   rw [h2 i];exact ha;intro e he hc;cases he with
   | head=>rw [<- hc] at ha;simp only at ha;rw [hpn] at ha;cases ha
   | tail _ he=>
    have hin:e.1∈r:=by rw [<- hW];exact List.mem_map.2 ⟨e,he,rfl⟩
    have:=hn e.1 (by simp [hin]);rw [hc,ha] at this;cases this
  unfold gRun at hf;split at hf
  ·rename_i t x y hop;obtain ⟨hdg,hf⟩:=YE hf;simp only [Bool.and_eq_true,Option.isNone_iff_eq_none] at hdg;obtain ⟨v,hv,hf⟩:=Yf hf;obtain ⟨a,ha,hf⟩:=Yf hf;obtain ⟨hseen,hf⟩:=YE hf;have hns:∀ z∈seen,z.1=a.1->waits p.2 z.2=true:=fun z hz he=>by
    have:=List.all_eq_true.1 hseen z hz;rw [he,Nat.beq_refl] at this;exact this
   obtain ⟨X,hX,hf⟩:=Yf hf;obtain ⟨w,hw,hf⟩:=Yf hf;obtain ⟨hsz,hf⟩:=YE hf;obtain ⟨hone,hf⟩:=YE hf;obtain ⟨o,ho,hf⟩:=Yf hf;obtain ⟨q,hq,hf⟩:=Yf hf;obtain ⟨cs,hcs,hf⟩:=Yf hf;rw [Wq] at hf;obtain ⟨h1,hu,hf⟩:=YC _ _ _ _ _ hf;obtain ⟨hsame,hf⟩:=YE hf;obtain ⟨ve1,huv,hf⟩:=YC _ _ _ _ _ hf;obtain ⟨W,hF,veF,envF,g1,g2,g3,g4,g5,g6,g7,g8,g9,g10⟩:=Ykf hT (cx:=cx) (fz:=fz) hf hgσ (hgv.put huv (v:=undef) (by simp [gv,gvs,undef])) (hn1 ve1 _ huv) hnd.2;have h1a:h1.get a.1=some (.cells cs q.e q.sl q.fr):=by rw [hu,if_pos rfl]
   obtain ⟨f1,f2⟩:=fin (.st a.1 o (.cells cs q.e q.sl q.fr)) ve1 huv W veF g1 g7.1 g7.2;refine ⟨(p,.st a.1 o (.cells cs q.e q.sl q.fr))::W,hF,veF,envF,by simp [g1],g2,fun e he=>?_,fun id=>?_,?_,fun e he id o1 o2 heq z hz hzi=>?_,f1,fun e he d hd=>?_,fun t ht=>g9 t fun e he=>ht e (by simp [he]),?_⟩
   ·cases he with
    | head=>
     refine ⟨ve,f2,hdg.1,hdg.2,t,x,y,v,a.2,X,w,q,cs,hop,hv,ha,hX,hw,Nat.eq_of_beq_eq_true hsz,hone,oCe_eq hq,hcs,rfl,fun z hz j hj hji=>?_⟩;obtain ⟨o1,k1,k2⟩:=Ygj hsame z hz j hj;rw [hji,ho] at k1;rw [hji,h1a] at k2;injection k1 with k1
     injection k2 with k2
     rw [k1,k2]
    | tail _ he=>exact g3 e he
   ·have:=g4 id;simp only [Ch];by_cases hid:a.1=id
    ·subst hid;rw [if_pos rfl];rw [h1a] at this;exact ⟨ho,this⟩
    rw [if_neg hid];rw [hu,if_neg (fun hc=>hid hc.symm)] at this;exact this
   ·refine .cons (fun e he id o1 p1 o2 p2 hx hy=>?_) g5;injection hx with hx
    exact g6 e he id o2 p2 hy (a.1,p.1) (by simp) hx
   ·cases he with
    | head=>injection heq with heq;exact hns z hz (hzi.trans heq.symm)
    | tail _ he=>exact g6 e he id o1 o2 heq z (by simp [hz]) hzi
   ·cases he with
    | head=>simp only at hd;rw [hdg.1] at hd;cases hd
    | tail _ he=>exact g8 e he d hd
   exact .cons (fun e he d hd=>by simp only at hd;rw [hdg.1] at hd;cases hd) g10
  obtain ⟨hg,hf⟩:=YE hf;rw [Option.isNone_iff_eq_none] at hg;obtain ⟨x,hx,hxs,_⟩:=oxT_s (P:=P) hT hf;cases x with
  | q f=>
   have hf':(f tT (rdQ all p.1 p.2 σA ve) .lf fun v=>fT (f tT (rdQ all p.1 p.2 σA ve) .lf fun u=>avEq u v) (dstK nt p.2.dst ds v env fun ds env=>YS envd ve p.1 (some v) fun ve=>gRun tT nt all σA pendA r seen ds h ve env c))=true:=hx
   -- some value
   obtain ⟨a,va,ha,hav,_⟩:=hxs cx fz ν _ _ .lf [] [] _ p.2.dst p.2.type p.2.pos p.2.after p.2.guard (gd_rr (all:=all) (i:=p.1) (o:=p.2) hgσ hgv) ⟨(fun _ _ h=>by cases h),(fun _ _ _ _ _ h=>by cases h),by simp,(fun _ _ _ _ _ h=>by cases h)⟩ hf';obtain ⟨hval,ha⟩:=YE ha;obtain ⟨ds',env',ha,d1,d2,d3⟩:=dstK_s ha;obtain ⟨ve1,huv,ha⟩:=YC _ _ _ _ _ ha;obtain ⟨W,hF,veF,envF,g1,g2,g3,g4,g5,g6,g7,g8,g9,g10⟩:=Ykf hT (cx:=cx) (fz:=fz) ha hgσ (hgv.put huv hav) (hn1 ve1 _ huv) hnd.2;obtain ⟨f1,f2⟩:=fin (.qt a) ve1 huv W veF g1 g7.1 g7.2;refine ⟨(p,.qt a)::W,hF,veF,envF,by simp [g1],g2,fun e he=>?_,fun id=>g4 id,?_,fun e he id o1 o2 heq z hz hzi=>?_,f1,fun e he d hd=>?_,fun t ht=>?_,?_⟩
   ·cases he with
    | head=>exact ⟨ve,f2,hg,f,hxs,hval⟩
    | tail _ he=>exact g3 e he
   ·exact .cons (fun e he id o1 p1 o2 p2 hx=>by cases hx) g5
   ·cases he with
    | head=>cases heq
    | tail _ he=>exact g6 e he id o1 o2 heq z hz hzi
   ·cases he with
    | head=>
     obtain ⟨k1,k2,k3,k4⟩:=d2 d hd;refine ⟨k1,k2,?_⟩;rw [g9 d fun e he hc=>(g8 e he d hc).1 k3];exact k4
    | tail _ he=>
     obtain ⟨k1,k2,k3⟩:=g8 e he d hd;exact ⟨fun hm=>k1 (d1 d hm),k2,k3⟩
   ·rw [g9 t fun e he=>ht e (by simp [he])];exact d3 t (ht (p,.qt a) (by simp))
   exact .cons (fun e he d hd hc=>(g8 e he d hc).1 (d2 d hd).2.2.1) g10
  | _=>cases hx
variable {n:Nat}
theorem Ye2 {us:List (Nat × Oper)}:hasP us n=true↔∃ u∈us,u.1=n:=by
 unfold hasP;rw [List.any_eq_true];exact ⟨fun ⟨u,h1,h2⟩=>⟨u,h1,Nat.eq_of_beq_eq_true h2⟩,fun ⟨u,h1,h2⟩=>⟨u,h1,by rw [h2];exact Nat.beq_refl _⟩⟩
theorem hasP_no {us:List (Nat × Oper)}:hasP us n=false↔∀ u∈us,u.1≠n:=by
 rw [<- Bool.not_eq_true,Ye2];exact ⟨fun h u hu he=>h ⟨u,hu,he⟩,fun h ⟨u,hu,he⟩=>h u hu he⟩
theorem YeM:∀ (us kept:List (Nat × Oper)),YeN us kept=kept.filter fun p=>!hasP us p.1
 | [],kept=>by
  simp only [YeN];exact (List.filter_eq_self.2 (fun p _=>by simp [hasP])).symm
 | u::r,kept=>by
  simp only [YeN];rw [YeM r];unfold rm;rw [List.filter_filter]
  congr 1
  funext p
  have:hasP (u::r) p.1=(Nat.beq u.1 p.1 || hasP r p.1):=rfl;have hc:Nat.beq u.1 p.1=Nat.beq p.1 u.1:=by
   rw [nbeq,nbeq];simp [eq_comm]
  rw [this,hc];cases Nat.beq p.1 u.1<;>cases hasP r p.1<;>rfl
theorem Yel:∀ (us:List (Nat × Oper)) (pend:Pn),Ybt pend us=pend.filter fun q=>us.all fun u=>!waits u.2 q.1
 | [],pend=>by
  simp only [Ybt];exact (List.filter_eq_self.2 (fun p _=>by simp)).symm
 | u::r,pend=>by
  simp only [Ybt];rw [Yel r];unfold YeX;rw [List.filter_filter]
  congr 1
  funext q
  simp only [List.all_cons];cases waits u.2 q.1<;>simp
variable {H:HP} {fz:FZ}
theorem store_s (hT:TA tT T) {cx:Cx} {all:List Oper} {σA veA:Tr AV} {pendA:Pn} {u:Nat × Oper} {id:Nat} {o o':AO} {ν:Nu} {h h':Tr AO} {Fm:HP} {r:Operand->Option Value} (hw:WI tT all σA veA pendA u id o o') (hr:RR ν (rdQ all u.1 u.2 σA veA) r)
 (hh:HR tT ν h H Fm) (ho:h.get id=some o) (hu:h.upd id (some o') h'):YdY P cx u.2 r fz H (fun v fz' H'=>fz'=fz/\v=undef/\HR tT ν h' H' Fm):=by
 obtain ⟨hd,hg,t,x,y,v,a,X,w,q,cs,hop,hx,hp,hX,hy,hsz,hone,rfl,hcs,rfl,_⟩:=hw;obtain ⟨ux,h1,h2⟩:=hr x v hx;obtain ⟨uy,h3,h4⟩:=hr y w hy;obtain ⟨b,hb,rfl⟩:=Yam hp h1;obtain ⟨XT,hXT,hR⟩:=hT t X hX;have hcells:=YbO h3;intro Hx;refine Does.of fun ρ wd hρ hi=>?_
 obtain ⟨b',xo,pre,post,hb',hgo,rfl⟩:=hh.split ho;simp only at hb;rw [hb] at hb';injection hb' with hb';subst hb'
 obtain ⟨ws,l,g1,g2,rfl,_⟩:=HR.ce (q:=q) rfl hgo;obtain ⟨g3,g4⟩:=Yj7 g1 hcells hcs;have hi2:=hi.perm (Zq:((pre++(b,Obj.cells (ws++l).toArray q.e (frz q.fr (ws++l).length))::post)++Hx).Perm _);have hwd:=(hi2.hp.own (b,.cells (ws++l).toArray q.e (frz q.fr (ws++l).length)) (by simp)).1;simp only at hwd;obtain ⟨w',k1,k2,k3,k4,k5,k6,k7⟩:=run_store (P:=P) (off:=a) uy.cells.toList 0 (ws++l).toArray (frz q.fr (ws++l).length) wd hwd (by simp at g3 ⊢;omega) (Yhq hone hcells) (by
  unfold frz;split
  ·right;simp
  left;rfl)
 have hnew:(((ws++l).toArray.toList.take (a+0)++uy.cells.toList++(ws++l).toArray.toList.drop (a+0+uy.cells.toList.length)))=(ws.take a++uy.cells.toList++ws.drop (a+uy.cells.toList.length))++l:=by
  simp only [Nat.add_zero];rw [List.take_append_of_le_length Zi,List.drop_append_of_le_length Zi];simp
 rw [hnew] at k2;have hlen:((ws.take a++uy.cells.toList++ws.drop (a+uy.cells.toList.length))++l).length=(ws++l).length:=by simp at g3 ⊢;omega
 have hgo':go ν (.cells cs q.e q.sl q.fr)=some (.cells ((ws.take a++uy.cells.toList++ws.drop (a+uy.cells.toList.length))++l).toArray q.e (frz q.fr (ws++l).length)):=by
  simp only [go,g4,g2,hlen]
 have hnd:((pre++(b,Obj.cells (ws++l).toArray q.e (frz q.fr (ws++l).length))::post).map Prod.fst).Nodup:=by
  have:=hi2.hp.nd;rw [List.map_append,List.nodup_append] at this;exact this.1
 have hh':=hh.set hnd ho hb hgo' hu (fun cs' e j fr he=>by injection he with e1 e2 e3 e4;exact ⟨q.cs,q.fr,by rw [e2,e3],by rw [<- e1,<- Y9 g1,<- Y9 g4];simp at g3 ⊢;omega⟩);have hi3:Inv cx fz (pre++(b,Obj.cells ((ws.take a++uy.cells.toList++ws.drop (a+uy.cells.toList.length))++l).toArray q.e (frz q.fr (ws++l).length))::(post++Hx)) w':=
  Inv.write (pre:=pre) (post:=post++Hx) (by simpa using hi2) k3 k4 k5 k6 k2 k7
 have hsize:=Go.Lx.run_sizeOf T hXT wd;have hs:uy.cells.size=XT.size:=by
  have:=Y9 hcells;rw [hR.size,<- hsz];simpa using this
 have:(execOp ρ u.2).run P wd=.ok .skip w':=by
  simp only [execOp,hop,hρ _ _ h2,hρ _ _ h4,Instr.storeAt,Instr.sureAddr,Sem.run_bind,Sem.run_pure,Result.andThen_ok,storeVar,hsize];simp [hs,k1]
 rw [this];refine ⟨fz,_,hi3.perm (H':=Hx++(pre++(b,Obj.cells ((ws.take a++uy.cells.toList++ws.drop (a+uy.cells.toList.length))++l).toArray q.e (frz q.fr (ws++l).length))::post)) ?_,_,rfl,rfl,rfl,hh'⟩;refine Zq.trans ?_;simp
end
section
variable {P:Program} {tT:TT} {T:Tab P}
variable {H:HP} {fz:FZ} {o:Oper} {v:Value}
theorem quiet_h {cx:Cx} {r:Operand->Option Value} (h:Quiet P cx o r fz [] v):Quiet P cx o r fz H v:=fun ρ w hr hi=>h ρ w hr (hi.forget (List.nil_sublist _))
structure MS (P:Program) (tT:TT) (all:List Oper) (σA veF envF:Tr AV) (hF:Tr AO) (pendA FA:Pn) (us rF:List (Nat × Oper)) (ν:Nu) (ve0:Env) (Fm:HP) (W:List GE) (h:Tr AO) (H:HP) (ve τ:Env) (pend:Pend) (pA:Pn) (kept:List (Nat × Oper)):Prop where
 hr:HR tT ν h H Fm
 ch:∀ id,Ch id (h.get id) W (hF.get id)
 pw:W.Pairwise fun x y=>∀ id o1 p1 o2 p2,x.2=.st id o1 p1->y.2=.st id o2 p2->waits y.1.2 x.1.1=true
 gi:∀ e∈W,∃ veT:Tr AV,(∀ i a,veT.get i=some a->veF.get i=some a)/\GI P tT all σA veT pendA e.1 e.2
 ext:VExt ve0 ve
 no:∀ e∈W,lk ve e.1.1=none
 val:∀ i,(∀ e∈W,e.1.1≠i)->(∀ a,veF.get i=some a->∃ v,gv ν a=some v/\lk ve i=some v)/\(veF.get i=none->lk ve i=none)
 vw:∀ e∈W,veF.get e.1.1=some e.2.val
 tau:∀ t,(∀ e∈W,e.1.2.dst≠some t)->∀ a,envF.get t=some a->∃ v,gv ν a=some v/\lk τ t=some v
 ew:∀ e∈W,∀ d,e.1.2.dst=some d->envF.get d=some e.2.val
 dw:W.Pairwise fun x y=>∀ d,x.1.2.dst=some d->y.1.2.dst≠some d
 pr:PR ν h pA pend
 pf:pA.filter (fun q=>W.all fun e=>!waits e.1.2 q.1)=FA
 ps:∀ z∈pA,z∈pendA
 kn:(kept.map Prod.fst).Nodup
 kw:∀ e∈W,e.1∈kept/\fk e.1.2=false/\e.1∈us
 kf:kept.filter (fun p=>!hasP (W.map fun e=>e.1) p.1)=rF
theorem Yjr {R:α->α->Prop} {W1 W2:List α} {e:α} (h:(W1++e::W2).Pairwise R):(∀ x∈W1,R x e)/\(∀ x∈W2,R e x)/\(W1++W2).Pairwise R:=by
 rw [List.pairwise_append] at h;obtain ⟨h1,h2,h3⟩:=h;rw [List.pairwise_cons] at h2;exact ⟨fun x hx=>h3 x hx e (by simp),h2.1,List.pairwise_append.2 ⟨h1,h2.2,fun a ha b hb=>h3 a ha b (by simp [hb])⟩⟩
def gkUpd (h:Tr AO) (k:GK) (h':Tr AO):Prop:=match k with
 | .st id _ o'=>h.upd id (some o') h'
 | .qt _=>h'=h
theorem MS.step {all:List Oper} {σA veF envF:Tr AV} {hF:Tr AO} {pendA FA:Pn} {us rF:List (Nat × Oper)} {ν:Nu} {ve0:Env} {Fm:HP} {W1 W2:List GE} {e:GE} {h h':Tr AO} {H':HP} {ve τ:Env} {pend:Pend} {pA:Pn} {kept:List (Nat × Oper)}
 (m:MS P tT all σA veF envF hF pendA FA us rF ν ve0 Fm (W1++e::W2) h H ve τ pend pA kept) (hu:gkUpd h e.2 h') (hh:HR tT ν h' H' Fm) (hv:gv ν e.2.val=some v) (hidx:∀ x∈W1++W2,x.1.1≠e.1.1) (hun:∀ x∈W1++e::W2,waits e.1.2 x.1.1=false):
 MS P tT all σA veF envF hF pendA FA us rF ν ve0 Fm (W1++W2) h' H' ((e.1.1,v)::ve) (putT e.1.2.dst v τ) (Xo pend e.1.2) (YeX pA e.1.2) (rm e.1.1 kept):=by
 have hmem:∀ x,x∈W1++W2->x∈W1++e::W2:=fun x hx=>by
  rcases List.mem_append.1 hx with h | h<;>simp [h]
 have hee:e∈W1++e::W2:=by simp
 have hin:∀ x,x∈W1++e::W2->x=e\/x∈W1++W2:=fun x hx=>by
  have:=(List.perm_middle (a:=e) (l₁:=W1) (l₂:=W2)).subset hx;cases this with
  | head=>exact .inl rfl
  | tail _ h=>exact .inr h
 obtain ⟨pw1,pw2,pw3⟩:=Yjr m.pw;obtain ⟨dw1,dw2,dw3⟩:=Yjr m.dw;have hW1:∀ id o o',e.2=.st id o o'->∀ x∈W1,notSt id x.2:=fun id o o' he x hx p p' hxp=>by
  have h1:=pw1 x hx id p p' o o' hxp he;rw [hun x (by simp [hx])] at h1;cases h1
 refine ⟨hh,fun id=>?_,pw3,fun x hx=>m.gi x (hmem x hx),fun k u hk=>?_,fun x hx=>?_,fun i hi=>?_,fun x hx=>m.vw x (hmem x hx),fun t ht a ha=>?_,fun x hx=>m.ew x (hmem x hx),dw3,?_,?_,fun z hz=>m.ps z (List.mem_filter.1 hz).1,?_,fun x hx=>?_,?_⟩
 ·have hc:=m.ch id;cases he:e.2 with
  | st i o o'=>
   rw [he] at hu;have hu':h.upd i (some o') h':=hu;by_cases hid:i=id
   ·subst hid;rw [hu',if_pos rfl];exact (YdZ he (hW1 i o o' he) hc).2
   rw [hu',if_neg (fun hx=>hid hx.symm)];exact YbY (fun p p' hx=>by rw [he] at hx;injection hx with hx;exact hid hx) hc
  | qt a=>
   rw [he] at hu;have hu':h'=h:=hu;rw [hu'];exact YbY (fun p p' hx=>by rw [he] at hx;cases hx) hc
 ·rw [Yn _ _ (fun he=>by
   have h1:=m.no e hee;have h2:=m.ext k u hk;rw [he,h2] at h1;cases h1)]
  exact m.ext k u hk
 ·rw [Yn _ _ (fun he=>hidx x hx he.symm)];exact m.no x (hmem x hx)
 ·by_cases hc:e.1.1=i
  ·subst hc;rw [m.vw e hee];refine ⟨fun a ha=>?_,fun hn=>by cases hn⟩;injection ha with ha;subst ha
   exact ⟨v,hv,Ys _ _ _⟩
  rw [Yn _ _ hc];exact m.val i fun x hx=>by
   rcases hin x hx with h | h
   ·rw [h];exact hc
   exact hi x h
 ·by_cases hc:e.1.2.dst=some t
  ·rw [m.ew e hee t hc] at ha;injection ha with ha;subst ha
   rw [hc];exact ⟨v,hv,Ys _ _ _⟩
  obtain ⟨u,h1,h2⟩:=m.tau t (fun x hx=>by
   rcases hin x hx with h | h
   ·rw [h];exact hc
   exact ht x h) a ha
  refine ⟨u,h1,?_⟩;cases hd:e.1.2.dst with
  | none=>exact h2
  | some d=>
   unfold putT;rw [Yn _ _ (fun he=>hc (by rw [hd,he]))];exact h2
 ·refine (m.pr.left (o:=e.1.2)).move (Nu.le.refl _) fun z hz id hid o ho _=>?_
  cases he:e.2 with
  | st i p p'=>
   rw [he] at hu;have hu':h.upd i (some p') h':=hu;rw [hu' id];by_cases hc:id=i
   ·subst hc;rw [if_pos rfl];have hget:=(YdZ he (hW1 id p p' he) (m.ch id)).1;rw [ho] at hget;injection hget with hget
    obtain ⟨veT,_,hw⟩:=m.gi e hee;rw [he] at hw;obtain ⟨_,_,t,x,y,v,a,X,w,q,cs,_,_,_,_,_,_,_,_,_,_,hkeep⟩:=hw;have hz':=List.mem_filter.1 hz;rw [hkeep z (List.mem_filter.2 ⟨m.ps z hz'.1,hz'.2⟩) _ hid rfl,hget]
   rw [if_neg hc];exact ho
  | qt a=>
   rw [he] at hu;have hu':h'=h:=hu;rw [hu'];exact ho
 ·rw [<- m.pf];unfold YeX;rw [List.filter_filter]
  congr 1
  funext q
  simp only [List.all_append,List.all_cons];cases waits e.1.2 q.1<;>simp
 ·unfold rm;exact (List.filter_sublist.map _).nodup m.kn
 ·obtain ⟨h1,h2,h3⟩:=m.kw x (hmem x hx);exact ⟨YjB.2 ⟨h1,hidx x hx⟩,h2,h3⟩
 rw [<- m.kf];unfold rm;rw [List.filter_filter]
 congr 1
 funext p
 have h1:hasP ((W1++e::W2).map fun e=>e.1) p.1=(Nat.beq e.1.1 p.1 || hasP ((W1++W2).map fun e=>e.1) p.1):=by
  unfold hasP;simp only [List.map_append,List.map_cons,List.any_append,List.any_cons];cases Nat.beq e.1.1 p.1<;>simp
 have hc:Nat.beq e.1.1 p.1=Nat.beq p.1 e.1.1:=by
  rw [nbeq,nbeq];simp [eq_comm]
 rw [h1,hc];cases Nat.beq p.1 e.1.1<;>cases hasP ((W1++W2).map fun e=>e.1) p.1<;>rfl
def RestM (tT:TT) (all:List Oper) (σA veA:Tr AV) (fls:List Nat) (us rF:List (Nat × Oper)):Prop:=∀ p∈rF,
 (p.1∈fls/\fk p.2=true/\(∀ u∈us,waits p.2 u.1=false)/\(flo (ox p.2.op) tT (rdD all p.1 p.2 σA veA)).isSome=true)\/
 (p.1 ∉ fls/\((∃ e∈p.2.after,Region.binds .any e=true/\veA.get e.on=none/\e.on ∉ fls/\∀ u∈us,u.1≠e.on)\/∀ u∈us,waits p.2 u.1=true/\u.1 ∉ fls))
theorem restM_s {all:List Oper} {σA veA:Tr AV} {fls:List Nat} {us rF:List (Nat × Oper)} (h:restM tT all σA veA fls us rF=true):RestM tT all σA veA fls us rF:=fun p hp=>by
 have:=List.all_eq_true.1 h p hp;cases hn:hasN fls p.1 with
 | true=>
  rw [hn] at this;simp only [Bool.and_eq_true,List.all_eq_true,Bool.not_eq_true'] at this;exact .inl ⟨WO.1 hn,this.1,this.2.1,this.2.2⟩
 | false=>
  rw [hn] at this;simp only [Bool.or_eq_true] at this;refine .inr ⟨(fun hc=>by rw [WO.2 hc] at hn;cases hn),?_⟩;rcases this with h1 | h1
  ·obtain ⟨e,he,h2⟩:=List.any_eq_true.1 h1;simp only [Bool.and_eq_true,Option.isNone_iff_eq_none,Bool.not_eq_true',Bool.or_eq_false_iff] at h2;refine .inl ⟨e,by simpa using he,h2.1,h2.2.1,fun hc=>?_,hasP_no.1 h2.2.2.2⟩;have:=h2.2.2.1;rw [WO.2 hc] at this;cases this
  refine .inr fun u hu=>?_
  have h2:=List.all_eq_true.1 h1 u hu;simp only [Bool.and_eq_true,Bool.not_eq_true'] at h2;exact ⟨h2.1,fun hc=>by rw [WO.2 hc] at h2;cases h2.2⟩
theorem many_s (hT:TA tT T) {cx:Cx} {Q:QQ} {m:Nat} {all:List Oper} {σA veA veF envF:Tr AV} {hF:Tr AO} {pendA FA:Pn} {us rF:List (Nat × Oper)} {ν:Nu} {σ ve0:Env} {Fm:HP} {fls:List Nat} (hσ:ER ν σA σ)
 (hvF:∀ i,(∀ u∈us,u.1≠i)->veF.get i=veA.get i) (hflu:∀ u∈us,u.1 ∉ fls) (hrest:RestM tT all σA veA fls us rF)
 (hend:∀ H ve τ pend,VR ν veF ve->ER ν envF τ->PR ν hF FA pend->HR tT ν hF H Fm->DrV P cx all σ fk (flD P all σ) Q (m+1) rF ve τ pend fz H):
 ∀ (N:Nat) (W:List GE) (h:Tr AO) (H:HP) (ve τ:Env) (pend:Pend) (pA:Pn) (kept:List (Nat × Oper)),W.length=N->(W.map fun e=>e.1.1).Nodup->MS P tT all σA veF envF hF pendA FA us rF ν ve0 Fm W h H ve τ pend pA kept->
  (W≠ []->KQ P cx all σ Q (m+W.length) fz H ve τ pend kept)/\DrV P cx all σ fk (flD P all σ) Q (m+1+W.length) kept ve τ pend fz H:=by
 intro N
 induction N with
 | zero=>
  intro W h H ve τ pend pA kept hl _ s;have hW:W=[]:=List.eq_nil_of_length_eq_zero hl;subst hW;refine ⟨fun hc=>absurd rfl hc,?_⟩;have hk:kept=rF:=by
   rw [<- s.kf];exact (List.filter_eq_self.2 (fun p _=>by simp [hasP])).symm
  have hpA:pA=FA:=by
   rw [<- s.pf];exact (List.filter_eq_self.2 (fun p _=>by simp)).symm
  have hget:∀ id,hF.get id=h.get id:=fun id=>s.ch id
  subst hk hpA;refine hend H ve τ pend ⟨fun i a ha=>(s.val i (by simp)).1 a ha,fun i hi=>(s.val i (by simp)).2 hi⟩ (fun t a ha=>s.tau t (by simp) a ha) ?_ ?_
  ·exact s.pr.move (Nu.le.refl _) fun _ _ id _ o ho _=>by rw [hget];exact ho
  exact ⟨fun id o ho=>s.hr.own id o (by rw [<- hget];exact ho),fun id id' o o' b h1 h2=>s.hr.inj id id' o o' b (by rw [<- hget];exact h1) (by rw [<- hget];exact h2),fun p hp=>⟨(s.hr.fm p hp).1,fun id o ho=>(s.hr.fm p hp).2 id o (by rw [<- hget];exact ho)⟩,fun id cs e j fr hq=>s.hr.cap id cs e j fr (by rw [<- hget];exact hq)⟩
 | succ N ih=>
  intro W h H ve τ pend pA kept hl hwn s;have hne:W≠ []:=fun hc=>by rw [hc] at hl;cases hl
  have hKQ:KQ P cx all σ Q (m+W.length) fz H ve τ pend kept:=by
   obtain ⟨e0,he0⟩:∃ e0,e0∈W:=by
    cases W with
    | nil=>exact absurd rfl hne
    | cons e r=>exact ⟨e,by simp⟩
   -- one that is kept is one of the group,or of the others
   have hsplit:∀ p∈kept,(∃ e∈W,e.1=p)\/p∈rF:=fun p hp=>by
    cases hc:hasP (W.map fun e=>e.1) p.1 with
    | true=>
     obtain ⟨u,hu,he⟩:=Ye2.1 hc;obtain ⟨e,hew,rfl⟩:=List.mem_map.1 hu;exact .inl ⟨e,hew,YeD s.kn (s.kw e hew).1 hp he⟩
    | false=>
     refine .inr ?_;rw [<- s.kf];exact List.mem_filter.2 ⟨hp,by rw [hc];rfl⟩
   have hstuck:∀ p∈rF,p.1 ∉ fls->∃ e∈p.2.after,Region.binds .any e=true/\lk ve e.on=none/\e.on ∉ fls:=fun p hp hn=>by
    rcases hrest p hp with h1 | ⟨_,h1 | h1⟩
    ·exact absurd h1.1 hn
    ·obtain ⟨e,he,k1,k2,k3,k4⟩:=h1;refine ⟨e,he,k1,(s.val e.on fun x hx=>k4 _ (s.kw x hx).2.2).2 ?_,k3⟩;rw [hvF _ k4];exact k2
    obtain ⟨k1,k2⟩:=h1 e0.1 (s.kw e0 he0).2.2;obtain ⟨e,he,heb⟩:=List.any_eq_true.1 k1;simp only [Bool.and_eq_true] at heb;have hon:=Nat.eq_of_beq_eq_true heb.1;exact ⟨e,by simpa using he,heb.2,by rw [hon];exact s.no e0 he0,by rw [hon];exact k2⟩
   refine .inr (.inl ⟨⟨e0.1,(s.kw e0 he0).1,(s.kw e0 he0).2.1⟩,fls,?_,fun p hp=>?_⟩)
   ·refine YgV fun p hp hpf hpn=>?_
    rcases hsplit p hp with ⟨e,he,rfl⟩ | hp
    ·rw [(s.kw e he).2.1] at hpf;cases hpf
    exact hstuck p hp hpn
   rcases hsplit p hp with ⟨e,he,rfl⟩ | hpr
   ·by_cases hblk:∃ x∈W,waits e.1.2 x.1.1=true
    ·obtain ⟨x,hx,hw⟩:=hblk;obtain ⟨ed,hed,heb⟩:=List.any_eq_true.1 hw;simp only [Bool.and_eq_true] at heb;have hon:=Nat.eq_of_beq_eq_true heb.1;exact .inr (.inl (Ya9 ⟨ed,by simpa using hed,heb.2,by rw [hon];exact s.no x hx,by rw [hon];exact hflu _ (s.kw x hx).2.2⟩))
    have hun:∀ x∈W,waits e.1.2 x.1.1=false:=fun x hx=>by
     cases hw:waits e.1.2 x.1.1 with
     | false=>rfl
     | true=>exact absurd ⟨x,hx,hw⟩ hblk
    obtain ⟨veT,hsubT,hgi⟩:=s.gi e he;have hr:RR ν (rdQ all e.1.1 e.1.2 σA veT) (rdg all e.1.1 e.1.2 σ ve):=Yjh hσ fun j hj a ha=>by
     refine (s.val j fun x hx hc=>?_).1 a (hsubT j a ha);have:=hun x hx;rw [hc,hj] at this;cases this
    obtain ⟨W1,W2,rfl⟩:=List.append_of_mem he;have hperm:(W1++e::W2).Perm (e::(W1++W2)):=List.perm_middle;have hwn2:=(hperm.map fun e=>e.1.1).nodup hwn;simp only [List.map_cons,List.nodup_cons] at hwn2;have hidx:∀ x∈W1++W2,x.1.1≠e.1.1:=fun x hx hc=>hwn2.1 (List.mem_map.2 ⟨x,hx,hc⟩)
    have hlen:(W1++e::W2).length=(W1++W2).length+1:=by simp;omega
    have hgo:∀ (v:Value) (h':Tr AO) (H':HP),gkUpd h e.2 h'->HR tT ν h' H' Fm->gv ν e.2.val=some v->Le fz fz/\(∀ q∈Xo pend e.1.2,∀ b∈q.2,b∈H')/\DrV P cx all σ fk (flD P all σ) Q (m+(W1++e::W2).length) (rm e.1.1 kept) ((e.1.1,v)::ve) (putT e.1.2.dst v τ) (Xo pend e.1.2) fz H':=fun v h' H' hu hh hv=>by
     have s':=s.step hu hh hv hidx hun;obtain ⟨_,hd⟩:=ih (W1++W2) h' H' _ _ _ _ _ Zi hwn2.2 s';exact ⟨Zd,s'.pr.mem hh,YdX Zi hd⟩
    cases hk:e.2 with
    | st id o o'=>
     rw [hk] at hgi;have hwi:WI tT all σA veT pendA e.1 id o o':=hgi;have hW1:∀ x∈W1,notSt id x.2:=fun x hx p p' hxp=>by
      have h1:=(Yjr s.pw).1 x hx id p p' o o' hxp hk;rw [hun x (by simp [hx])] at h1;cases h1
     have hget:=(YdZ hk hW1 (s.ch id)).1;obtain ⟨h',hu⟩:=YkN h id (some o');have hdo:=store_s (P:=P) hT (cx:=cx) (fz:=fz) hwi hr s.hr hget hu;have hw:XR e.1.2 ve=some true:=by unfold XR;rw [hwi.2.1]
     refine .inr (.inr ⟨(s.kw e he).2.1,hw,Ycp hdo fun v fz' H' ⟨e1,e2,e3⟩=>?_⟩);subst e1 e2;exact hgo undef h' H' (by rw [hk];exact hu) e3 (by rw [hk];simp [GK.val,gv,gvs,undef])
    | qt a=>
     rw [hk] at hgi;obtain ⟨hg,f,hxs,hf⟩:=hgi;obtain ⟨av,v,h1,h2,h3⟩:=hxs cx fz ν _ _ .lf [] [] _ e.1.2.dst e.1.2.type e.1.2.pos e.1.2.after e.1.2.guard hr ⟨(fun _ _ h=>by cases h),(fun _ _ _ _ _ h=>by cases h),by simp,(fun _ _ _ _ _ h=>by cases h)⟩ hf;have hav:=avEq_iff _ _ h1;subst hav;have hw:XR e.1.2 ve=some true:=by unfold XR;rw [hg]
     refine .inr (.inr ⟨(s.kw e he).2.1,hw,fun Hx=>Does.of fun ρ w hρ hi=>(quiet_h (H:=Hx++H) h3 ρ w hρ hi).mono fun v' w' ⟨hv',hfr'⟩=>⟨fz,Hx++H,hi.quiet hfr',H,rfl,?_⟩⟩);rw [hv'];exact hgo v h H (by rw [hk];rfl) s.hr (by rw [hk];exact h2)
   rcases hrest p hpr with ⟨h1,h2,h3,h4⟩ | ⟨h1,_⟩
   ·refine .inl ⟨h1,Yku hT hσ (fun j hj=>?_) h2 h4⟩;have hj':∀ u∈us,u.1≠j:=fun u hu hc=>by have:=h3 u hu;rw [hc,hj] at this;cases this
    have hv:=s.val j fun x hx=>hj' _ (s.kw x hx).2.2
    rw [hvF j hj'] at hv;exact hv
   exact .inr (.inl (Ya9 (hstuck p hpr h1)))
  refine ⟨fun _=>hKQ,?_⟩;have:=Yco (YkP (P:=P) (cx:=cx) (l:=all) (σ:=σ) (fz:=fz) (H:=H) (K:=KQ P cx all σ Q (m+W.length) fz H) kept [] (by simpa using hKQ));exact YdX Zi this
theorem YjO:∀ {us l:List (Nat × Oper)},(us.map Prod.fst).Nodup->(∀ u∈us,u∈l)->us.length<=l.length
 | [],_,_,_=>Z0 _
 | u::r,l,hn,hs=>by
  simp only [List.map_cons,List.nodup_cons] at hn;obtain ⟨s,t,rfl⟩:=List.append_of_mem (hs u (by simp));have:=YjO (l:=s++t) hn.2 fun x hx=>by
   have h1:=hs x (by simp [hx]);simp only [List.mem_append,List.mem_cons] at h1 ⊢;rcases h1 with h | h | h
   ·exact .inl h
   ·subst h;exact absurd (List.mem_map.2 ⟨x,hx,rfl⟩) hn.1
   exact .inr h
  simp at this ⊢;omega
theorem Ygr {ve:Tr AV}:∀ {l acc:List (Nat × Oper)} {p:Nat × Oper},p∈Yiq ve l acc->p∈l\/p∈acc
 | [],acc,p,h=>.inr h
 | q::r,acc,p,h=>by
  unfold Yiq at h;split at h
  ·rcases Ygr h with h | h
   ·exact .inl (by simp [h])
   rcases List.mem_append.1 h with h | h
   ·exact .inr h
   simp at h;subst h;exact .inl (by simp)
  rcases Ygr h with h | h
  ·exact .inl (by simp [h])
  exact .inr h
variable {n:Nat}
theorem sGrp_s {ih:IH} {all:List Oper} {σA veA:Tr AV} {pendA:Pn} {kept:List (Nat × Oper)} {s:St} {k:CK} (hT:TA tT T)
 (hdr:∀ all σA rem veA pendA kept s k,ih (.dr all σA rem veA pendA kept) s k=true->MDr P tT n all σA rem veA pendA kept s k)
 (hf:sGrp tT ih all σA veA pendA kept s k=true):MDs P tT (n+1) all σA veA pendA kept s k:=fun cx fz ν0 nx0 ν σ ve τ pend H Fm hle hnx hσ hv he hp hh hfr=>by
 unfold sGrp at hf;rw [Wq,Wq] at hf;obtain ⟨hc,hf⟩:=YE hf;generalize hus:Yiq veA kept []=us at hc hf;generalize hfls:cloA veA kept []=fls at hc hf;simp only [Bool.and_eq_true] at hc;obtain ⟨ha,hall,hau,hemp,hro⟩:=hc;have hnd:=(YkJ ha).1;have husn:=(YkJ hau).1;have husk:∀ u∈us,u∈kept:=fun u hu=>by
  rw [<- hus] at hu;rcases Ygr hu with h | h
  ·exact h
  cases h
 have hU:∀ u∈us,veA.get u.1=none/\fk u.2=false/\u.1 ∉ fls:=fun u hu=>by
  have:=List.all_eq_true.1 hall u hu;simp only [Bool.and_eq_true,Option.isNone_iff_eq_none,Bool.not_eq_true'] at this;exact ⟨this.1,this.2.1,fun hm=>by rw [WO.2 hm] at this;cases this.2.2.1⟩
 have hgσ:Gd ν σA:=fun i a hi=>by obtain ⟨v,h1,_⟩:=hσ i a hi;exact ⟨v,h1⟩
 have hgv:Gd ν veA:=fun i a hi=>by obtain ⟨v,h1,_⟩:=hv.1 i a hi;exact ⟨v,h1⟩
 obtain ⟨W,hF,veF,envF,hW,hf,w1,w2,w3,_,w5,w6,w7,w8⟩:=Ykf (P:=P) hT (ν:=ν) (cx:=cx) (fz:=fz) hf hgσ hgv (fun u hu=>(hU u hu).1) husn;rw [Wq,Wq] at hf;have hM:=hdr _ _ _ _ _ _ _ _ hf;have hWus:∀ e∈W,e.1∈us:=fun e he=>by rw [<- hW];exact List.mem_map.2 ⟨e,he,rfl⟩
 have hWn:(W.map fun e=>e.1.1).Nodup:=by
  have:(W.map fun e=>e.1.1)=us.map Prod.fst:=by rw [<- hW,List.map_map];rfl
  rw [this];exact husn
 have hnone':∀ u∈us,lk ve u.1=none:=fun u hu=>hv.2 _ (hU u hu).1
 have hnW:∀ i,(∀ u∈us,u.1≠i)->∀ e∈W,e.1.1≠i:=fun i hi e he=>hi _ (hWus e he)
 have hend:∀ H ve τ pend,VR ν veF ve->ER ν envF τ->PR ν hF (Ybt pendA us) pend->HR tT ν hF H Fm->DrV P cx all σ fk (flD P all σ) (QE tT fz ν0 nx0 s.nt Fm k) ((YeN us kept).length+n+1) (YeN us kept) ve τ pend fz H:=fun H ve τ pend g1 g4 g2 g3=>
  Yco (by simpa using hM cx fz ν0 nx0 ν σ ve τ pend H Fm hle hnx hσ g1 g4 g2 g3 hfr)
 have hms:MS P tT all σA veF envF hF pendA (Ybt pendA us) us (YeN us kept) ν ve Fm W s.heap H ve τ pend pendA kept:=by
  refine ⟨hh,w2,w3,w1,fun _ _ h=>h,fun e he=>hnone' _ (hWus e he),fun i hi=>?_,w5.1,fun t ht a ha=>?_,fun e he d hd=>(w6 e he d hd).2.2,w8,hp,?_,fun _ h=>h,hnd,fun e he=>⟨husk _ (hWus e he),(hU _ (hWus e he)).2.1,hWus e he⟩,?_⟩
  ·rw [w5.2 i hi];exact ⟨hv.1 i,hv.2 i⟩
  ·rw [w7 t ht] at ha;exact he t a ha
  ·rw [Yel,<- hW]
   congr 1
   funext q
   rw [List.all_map];rfl
  rw [YeM,<- hW]
 have hWne:W≠ []:=fun hc=>by rw [hc] at hW;rw [<- hW] at hemp;cases hemp
 have:=((many_s (P:=P) hT hσ (fun i hi=>w5.2 i (hnW i hi)) (fun u hu=>(hU u hu).2.2) (restM_s hro) hend W.length W s.heap H ve τ pend pendA kept rfl hWn hms).1 hWne);refine YkR ?_ this;have hlW:W.length=us.length:=by rw [<- hW];simp
 have h1:us.length<=(kept.filter fun p=>hasP us p.1).length:=by
  exact YjO husn fun u hu=>List.mem_filter.2 ⟨husk u hu,Ye2.2 ⟨u,hu,rfl⟩⟩
 have h3:kept.length=(kept.filter fun p=>hasP us p.1).length+(kept.filter fun p=>!hasP us p.1).length:=by
  rw [<- List.countP_eq_length_filter,<- List.countP_eq_length_filter];have:=List.length_eq_countP_add_countP (fun p:Nat × Oper=>hasP us p.1) (l:=kept);rw [this]
  congr 1
  apply List.countP_congr;intro x _;simp
 rw [YeM,hlW];omega
theorem nowE_s {veA:Tr AV} {kept us:List (Nat × Oper)} (h:nowE veA kept=us):us.Sublist kept/\∀ u∈us,fk u.2=false/\Yc1 veA u.2=false:=by
 subst h;refine ⟨List.filter_sublist,fun u hu=>?_⟩;have:=(List.mem_filter.1 hu).2;simp only [Bool.not_eq_true',Bool.or_eq_false_iff] at this;exact this
theorem sDs_s {ih:IH} {all:List Oper} {σA veA:Tr AV} {pendA:Pn} {kept:List (Nat × Oper)} {s:St} {k:CK} (hT:TA tT T) (hcall:∀ g args s k,ih (.call g args) s k=true->Yfo P tT g args s k)
 (hdr:∀ all σA rem veA pendA kept s k,ih (.dr all σA rem veA pendA kept) s k=true->MDr P tT n all σA rem veA pendA kept s k)
 (hf:sDs all σA veA pendA kept tT ih s k=true):MDs P tT (n+1) all σA veA pendA kept s k:=by
 unfold sDs at hf;cases hk:kept with
 | nil=>
  rw [hk,Yhy] at hf;intro cx fz ν0 nx0 ν σ ve τ pend H Fm hle hnx hσ hv he hp hh hfr;exact .inl ⟨rfl,QE.of hle hnx he hh hfr hf⟩
 | cons p0 r0=>
  rw [<- hk];rw [hk,Yb9,<- hk] at hf;cases hn:nowE veA kept with
  | nil=>
   rw [hn,Yhy] at hf;exact sFlo_s hT hdr hf
  | cons p us=>
   obtain ⟨h1,h2⟩:=nowE_s hn;rw [hn,Yb9] at hf;cases us with
   | nil=>
    rw [Yhy] at hf;exact sOne_s hT hcall hdr (h1.subset (by simp)) (h2 p (by simp)).1 hf
   | cons q us=>
    rw [Yb9] at hf;exact sGrp_s hT hdr hf
end
section
variable {P:Program} {tT:TT} {T:Tab P}
def M (P:Program) (tT:TT) (n:Nat):Wk->St->CK->Prop
 | .code c=>fun s k=>Ygc P tT c s k
 | .ops all l=>fun s k=>MOps P tT all l s k
 | .call g args=>fun s k=>Yfo P tT g args s k
 | .dr all σ rem ve pend kept=>fun s k=>MDr P tT n all σ rem ve pend kept s k
 | .ds all σ ve pend kept=>fun s k=>MDs P tT n all σ ve pend kept s k
variable {H:HP} {fz fz':FZ} {n:Nat}
theorem sThen_s {cx:Cx} {c:Code} {ih:IH} {ν0:Nu} {nx0 nt:Nat} {Fm:HP} {k:CK} {x:Exit} {σ:Env} (hcode:∀ c s k,ih (.code c) s k=true->Ygc P tT c s k) (hnt:nt=n)
 (h:QE tT fz ν0 nx0 nt Fm (Yib ih (.code c) k) x σ fz' H):andThen P cx n c (QE tT fz ν0 nx0 nt Fm k) x σ fz' H:=by
 obtain ⟨h1,ν',s',h2,h3,h4,h5,h6,h7,h8⟩:=h;subst h1 hnt;unfold andThen;cases x with
 | normal=>
  have:=hcode _ _ _ h8 cx fz' ν0 nx0 ν' σ H Fm h2 h3 h5 h6 h7;rw [h4] at this;exact this
 | _=>exact ⟨rfl,ν',s',h2,h3,h4,h5,h6,h7,h8⟩
theorem sBlk_s {id:Nat} {ν0:Nu} {nx0 nt:Nat} {Fm:HP} {k:CK} {x:Exit} {σ:Env} (h:QE tT fz ν0 nx0 nt Fm (sBlk id k) x σ fz' H):blkQ id (QE tT fz ν0 nx0 nt Fm k) x σ fz' H:=by
 obtain ⟨h1,ν',s',h2,h3,h4,h5,h6,h7,h8⟩:=h;unfold blkQ;cases x with
 | exit i=>
  have h8':br (k (.exit i) s') (k .normal s') (Nat.beq i id)=true:=h8;simp only;cases hb:Nat.beq i id with
  | true=>rw [hb] at h8';exact ⟨h1,ν',s',h2,h3,h4,h5,h6,h7,h8'⟩
  | false=>rw [hb] at h8';exact ⟨h1,ν',s',h2,h3,h4,h5,h6,h7,h8'⟩
 | _=>exact ⟨h1,ν',s',h2,h3,h4,h5,h6,h7,h8⟩
def dd:Env->Env
 | []=>[]
 | (i,v)::r=>(i,v)::(dd r).filter fun p=>!Nat.beq p.1 i
theorem Ydw {i j:Nat} (h:i≠j):∀ σ:Env,lk (σ.filter fun p=>!Nat.beq p.1 i) j=lk σ j
 | []=>rfl
 | (k,v)::r=>by
  by_cases hk:k=i
  ·subst hk;rw [List.filter_cons_of_neg (by simp),Ydw h r,Yn _ _ h]
  rw [List.filter_cons_of_pos (by simp;exact Xa hk)];by_cases hj:k=j
  ·subst hj;rw [Ys,Ys]
  rw [Yn _ _ hj,Yn _ _ hj,Ydw h r]
theorem lk_dd:∀ (σ:Env) (j:Nat),lk (dd σ) j=lk σ j
 | [],_=>rfl
 | (i,v)::r,j=>by
  unfold dd;by_cases hij:i=j
  ·subst hij;rw [Ys,Ys]
  rw [Yn _ _ hij,Yn _ _ hij,Ydw hij,lk_dd r]
theorem mem_dd:∀ (σ:Env) (p:Nat × Value),p∈dd σ->lk σ p.1=some p.2
 | [],p,h=>by cases h
 | (i,v)::r,p,h=>by
  unfold dd at h;cases h with
  | head=>exact Ys _ _ _
  | tail _ h=>
   obtain ⟨h1,h2⟩:=List.mem_filter.1 h;have hne:i≠p.1:=fun he=>by rw [<- he,Nat.beq_refl] at h2;cases h2
   rw [Yn _ _ hne];exact mem_dd r p h1
theorem sub_of:∀ (l σ:Env),(∀ p∈l,lk σ p.1=some p.2)->Sub l σ
 | [],_,_=>trivial
 | (i,v)::r,σ,h=>⟨h (i,v) (by simp),sub_of r σ fun p hp=>h p (by simp [hp])⟩
theorem sub_dd (σ:Env):Sub (dd σ) σ:=sub_of _ _ (mem_dd σ)
theorem ER.dd {ν:Nu} {e:Tr AV} {σ:Env} (h:ER ν e σ):ER ν e (dd σ):=h.ext fun i v hv=>by rw [lk_dd];exact hv
theorem sCode_s {F:FF} {c:Code} {s:St} {k:CK} (hm:P.follows .mixedOrders=true) (ihs:∀ m,m<=n->∀ w s k,ev tT F m w s k=true->M P tT m w s k) (hf:sCode c (ev tT F n) s k=true):Ygc P tT c s k:=fun cx fz ν0 nx0 ν σ H Fm hle hnx he hh hfr=>by
 have hcode:∀ c s k,ev tT F n (.code c) s k=true->Ygc P tT c s k:=fun c s k h=>ihs n (Zs _) (.code c) s k h
 cases c with
 | skip=>exact Ybg (QE.of hle hnx he hh hfr hf)
 | region id ops draw=>
  have hf':sReg ops.toList draw (ev tT F n) s k=true:=hf;unfold sReg at hf';have e:ops=ops.toList.toArray:=by simp
  rw [e];cases draw with
  | false=>
   rw [YF] at hf';have:=ihs n (Zs _) (.ops ops.toList ops.toList) s k hf' cx fz ν0 nx0 ν σ H Fm hle hnx he hh hfr;exact Xg this
  | true=>
   rw [Y4] at hf';obtain ⟨hc,hf'⟩:=YE hf';simp only [Bool.and_eq_true] at hc;have:=ihs n (Zs _) (.dr ops.toList s.env (num 0 ops.toList) .lf [] []) s k hf' cx fz ν0 nx0 ν σ [] σ [] H Fm hle hnx he (VR.e ν) he trivial hh hfr;exact Wp.drawG (fk:=fk) (fl:=flD P ops.toList σ) hm hc.1 hc.2 flD_mono (fun i o ve obj mk h=>⟨(YcZ h).1,(YcZ h).2.2⟩) (fun i o ve obj mk h=>(YcZ h).2.1) (Yco this)
 | seq a b=>
  have hf':ev tT F n (.code a) s (Yib (ev tT F n) (.code b) k)=true:=hf;exact Yy ((hcode _ _ _ hf' cx fz ν0 nx0 ν σ H Fm hle hnx he hh hfr).mono fun x σ' fz' H' h=>sThen_s hcode rfl h)
 | cond c a b=>
  obtain ⟨v,hv,hf⟩:=Yf (show (fO (rdo s.env c) fun v=>fO (asB v) fun t=>br (ev tT F n (.code b) s k) (ev tT F n (.code a) s k) t)=true from hf);obtain ⟨t,ht,hf⟩:=Yf hf;obtain ⟨u,h1,h2⟩:=he.rr c v hv;have e:=YaO ht h1;subst e;cases t with
  | true=>exact Wg (hcode _ _ _ hf cx fz ν0 nx0 ν σ H Fm hle hnx he hh hfr) (hc:=h2)
  | false=>exact XO (hcode _ _ _ hf cx fz ν0 nx0 ν σ H Fm hle hnx he hh hfr) (hc:=h2)
 | block id c=>
  have hf':ev tT F n (.code c) s (sBlk id k)=true:=hf;exact Yax ((hcode _ _ _ hf' cx fz ν0 nx0 ν σ H Fm hle hnx he hh hfr).mono fun x σ' fz' H' h=>sBlk_s h)
 | loop c=>
  have hf':ev tT F n (.code c) s (Yib (ev tT F n) (.code (.loop c)) k)=true:=hf
  -- the rounds:as1 long as1 there is fuel
  let I:Nat->Env->FZ->HP->Prop:=fun m σ' fz' H'=>m<=n+1/\fz'=fz/\∃ ν' s',ν0.le ν'/\nx0<=s'.nx/\s'.nt=s.nt/\ER ν' s'.env σ'/\HR tT ν' s'.heap H' Fm/\Yac ν' s'.nx/\ev tT F m (.code (.loop c)) s' k=true
  refine Yd I (m0:=n+1) (σ0:=dd σ) (H0:=H) ⟨Zs _,rfl,ν,s,hle,hnx,rfl,he.dd,hh,hfr,hf⟩ (sub_dd σ) (List.Sublist.refl _) ?_;rintro m σ1 fz1 H1 ⟨hmn,e1,ν',s',h2,h3,h4,h5,h6,h7,h8⟩;subst e1;cases m with
  | zero=>cases h8
  | succ m=>
   have h8':ev tT F m (.code c) s' (Yib (ev tT F m) (.code (.loop c)) k)=true:=h8;have:=ihs m Zi (.code c) s' _ h8' cx fz1 ν0 nx0 ν' σ1 H1 Fm h2 h3 h5 h6 h7;rw [h4] at this;refine this.mono fun x σ' fz' H' ⟨g1,ν2,s2,g2,g3,g4,g5,g6,g7,g8⟩=>?_
   subst g1;unfold loopQ;cases x with
   | normal=>exact ⟨m,dd σ',H',by omega,sub_dd σ',List.Sublist.refl _,by omega,rfl,ν2,s2,g2,g3,g4,g5.dd,g6,g7,g8⟩
   | _=>exact ⟨rfl,ν2,s2,g2,g3,g4,g5,g6,g7,g8⟩
 | rangeFunc=>cases hf
 | exit id=>exact Ybh (QE.of hle hnx he hh hfr hf)
 | scope=>cases hf
 | label id=>exact Wp.label (QE.of hle hnx he hh hfr hf)
 | goto=>cases hf
 | ret=>exact Yby (QE.of hle hnx he hh hfr hf)
 | refuse=>cases hf
theorem ev_s {F:FF} (hT:TA tT T) (hF:FA P tT F) (hm:P.follows .mixedOrders=true):∀ n w s k,ev tT F n w s k=true->M P tT n w s k:=by
 intro n
 induction n using Nat.strongRecOn with
 | _ n ih=>
  intro w s k hf;cases n with
  | zero=>cases hf
  | succ n=>
   have hf':step w tT F (ev tT F n) s k=true:=hf;have ihs:∀ m,m<=n->∀ w s k,ev tT F m w s k=true->M P tT m w s k:=fun m hmn=>ih m Zi
   have hn:=ihs n (Zs _);have hcode:∀ c s k,ev tT F n (.code c) s k=true->Ygc P tT c s k:=fun c s k h=>hn (.code c) s k h
   have hcall:∀ g args s k,ev tT F n (.call g args) s k=true->Yfo P tT g args s k:=fun g args s k h=>hn (.call g args) s k h
   have hops:∀ all l s k,ev tT F n (.ops all l) s k=true->MOps P tT all l s k:=fun all l s k h=>hn (.ops all l) s k h
   have hdr:∀ all σA rem veA pendA kept s k,ev tT F n (.dr all σA rem veA pendA kept) s k=true->MDr P tT n all σA rem veA pendA kept s k:=fun all σA rem veA pendA kept s k h=>hn (.dr all σA rem veA pendA kept) s k h
   have hds:∀ all σA veA pendA kept s k,ev tT F n (.ds all σA veA pendA kept) s k=true->MDs P tT n all σA veA pendA kept s k:=fun all σA veA pendA kept s k h=>hn (.ds all σA veA pendA kept) s k h
   cases w with
   | code c=>exact sCode_s hm ihs hf'
   | ops all l=>exact sOps_s hT hcall hops hf'
   | call g args=>exact sCall_s hT hF hcode hf'
   | dr all σ rem ve pend kept=>exact sDr_s hT hdr hds hf'
   | ds all σ ve pend kept=>exact sDs_s hT hcall hdr hf'
theorem evCall_s {F:FF} {f:FuncId} {args:List AV} {vs:List Value} {k:AV->Bool} (hT:TA tT T) (hF:FA P tT F) (hm:P.follows .mixedOrders=true) (hv:∀ ν,gvs ν args=some vs) (hf:evCall tT F n f args k=true):
 GFn P f vs fz [] fun v fz' _=>fz'=fz/\∃ ν av,gv ν av=some v/\k av=true:=by
 let ν:Nu:=⟨fun _=>none,fun _=>none,fun _=>none⟩
 have:=ev_s hT hF hm n (.call f args) ⟨.lf,.lf,0,0⟩ _ hf fz ν vs [] [] (hv ν) ⟨(fun _ _ h=>by cases h),(fun _ _ _ _ _ h=>by cases h),by simp,(fun _ _ _ _ _ h=>by cases h)⟩ (fun _ _=>⟨rfl,rfl,rfl⟩);refine this.mono fun v fz' H' ⟨h1,ν',av,h',nx',e,h2,h3,h4,h5,h6,h7,h8⟩=>⟨h1,ν',av,h4,?_⟩
 simp only [h7] at h8;exact h8
theorem evMem_s {F:FF} {f:FuncId} {m:Mem} (hT:TA tT T) (hF:FA P tT F) (hm:P.follows .mixedOrders=true) (hf:evMem tT F n f m=true):MemoOk P tT f m:=by
 obtain ⟨h0,hf,hg⟩:=YeK hf;refine ⟨h0,fun id o ho=>(hg id o ho).elim (fun h=>h) (fun h=>by cases h),fun fz ν vs H Fm hv hh hfr=>?_⟩;refine (ev_s hT hF hm n (.call f m.args) ⟨.lf,h0,m.nx,0⟩ _ hf fz ν vs H Fm hv hh hfr).mono fun v fz' H' ⟨h1,ν',av,h',nx',e,h2,h3,h4,h5,h6,h7,h8⟩=>?_
 have h8':(fO (e.get 0) fun v=>avEq v m.res && (subH h' m.h' && Nat.ble nx' m.nx'))=true:=h8;rw [h7] at h8';have h9:(avEq av m.res && (subH h' m.h' && Nat.ble nx' m.nx'))=true:=h8';simp only [Bool.and_eq_true,Nat.ble_eq] at h9;have:=avEq_iff _ _ h9.1;subst this;exact ⟨h1,ν',h',h2,h4,h5,YiT h9.2.1,fun i hi=>h6 i (Nat.le_trans h9.2.2 hi)⟩
end
end Go.Ev
#print axioms Go.Ev.evCall_s
namespace Go.Ev
variable {X:Ty}
def nnEq:List (Nat × Nat)->List (Nat × Nat)->Bool
 | [],[]=>true
 | x::r,y::q=>Nat.beq x.1 y.1 && (Nat.beq x.2 y.2 && nnEq r q)
 | _,_=>false
theorem Yht:∀ {a b:List (Nat × Nat)},nnEq a b=true->a=b
 | [],[],_=>rfl
 | [],_::_,h=>by cases h
 | _::_,[],h=>by cases h
 | (a,b)::r,(c,d)::q,h=>by
  simp only [nnEq,Bool.and_eq_true] at h;rw [Nat.eq_of_beq_eq_true h.1,Nat.eq_of_beq_eq_true h.2.1,Yht h.2.2]
def kdB (d:TypeDesc) (a:TyA):Bool:=match d with
 | .bool=>Nat.beq a.k 0
 | .int ik=>Nat.beq a.k 1 && kEq ik a.ik
 | .string=>Nat.beq a.k 2
 | .pointer e=>Nat.beq a.k 3 && Nat.beq e a.e
 | .slice e=>Nat.beq a.k 4 && Nat.beq e a.e
 | .array n e=>Nat.beq a.k 5 && (Nat.beq n a.n && Nat.beq e a.e)
 | .map k e=>Nat.beq a.k 6 && (Nat.beq k a.n && Nat.beq e a.e)
 | .interface _=>Nat.beq a.k 7
 | .func _ _ _=>Nat.beq a.k 8
 | .struct fs=>Nat.beq a.k 9 && nnEq (fs.toList.map fun f=>(f.type,f.offset)) a.fs
 | _=>Nat.beq a.k 10
def isAggV:Value->Bool
 | .agg _=>true
 | _=>false
def zeroB (X:Ty) (a:TyA):Bool:=match ofVs X.zero.cells.toList with
 | some l=>avsEq l a.zero
 | none=>false
def trB (X:Ty) (a:TyA):Bool:=Nat.beq X.size a.size && (Nat.beq X.bytes a.bytes && ((isAggD X.desc==a.agg) && ((isAggV X.zero==a.agg) && (zeroB X a && (kdB X.desc a && (!(isIfaceD X.desc) || Nat.beq a.k 7))))))
theorem trB_s {a:TyA} (h:trB X a=true):TR X a:=by
 simp only [trB,Bool.and_eq_true,beq_iff_eq,Bool.or_eq_true,Bool.not_eq_true'] at h;obtain ⟨h1,h2,h3,h4,h5,h6,h7⟩:=h;have hz:ofVs X.zero.cells.toList=some a.zero:=by
  unfold zeroB at h5;cases hl:ofVs X.zero.cells.toList with
  | none=>rw [hl] at h5;cases h5
  | some l=>rw [hl] at h5;rw [avsEq_iff _ _ h5]
 have hk:∀ n:Nat,a.k=n->kdB X.desc a=true:=fun _ _=>h6
 have bt:∀ {x y:Nat},Nat.beq x y=true->x=y:=fun h=>Nat.eq_of_beq_eq_true h
 refine ⟨bt h1,bt h2,h3,⟨X.zero.cells.toList,Yjw hz,by simp⟩,fun ha=>?_,fun ha=>?_,fun ha=>?_,fun hk=>?_,fun hk=>?_,fun hk=>?_,fun hk=>?_,fun hk=>?_,fun hk=>?_,fun hk=>?_,fun hk=>?_,fun hk=>?_,fun hk=>?_⟩
 ·rw [ha] at h4;cases hv:X.zero with
  | agg cs=>exact ⟨cs,rfl⟩
  | _=>rw [hv] at h4;cases h4
 ·rw [ha] at h4;have hc:X.zero.cells.toList=[X.zero]:=by
   cases hv:X.zero with
   | agg cs=>rw [hv] at h4;cases h4
   | _=>rfl
  rw [hc] at hz;simp only [ofVs] at hz;cases h8:ofV1 X.zero with
  | none=>simp [h8] at hz
  | some z=>
   simp only [h8] at hz;injection hz with hz
   exact ⟨z,hz.symm,Yjx h8⟩
 ·rcases h7 with h7 | h7
  ·exact h7
  exact absurd (bt h7) ha
 all_goals
  unfold kdB at h6;cases hd:X.desc<;>rw [hd] at h6<;>simp only [Bool.and_eq_true] at h6<;>
   first
   | rfl
   | (exfalso;have h9:=bt h6;omega)
   | (exfalso;have h9:=bt h6.1;omega)
   | (rw [kEq_iff h6.2])
   | (rw [bt h6.2])
   | (rw [bt h6.2.1,bt h6.2.2])
   | exact ⟨_,rfl⟩
   | exact ⟨_,_,_,rfl⟩
   | exact ⟨_,rfl,Yht h6.2⟩
def allB {α:Type} (q:Nat->α->Bool):Tr α->Bool
 | .lf=>true
 | .n l v r=>(match v with
  | some a=>q 0 a
  | none=>true) && (allB (fun i a=>q (2*i+1) a) l && allB (fun i a=>q (2*i+2) a) r)
def AllT {α:Type} (Q:Nat->α->Prop):Tr α->Prop
 | .lf=>True
 | .n l v r=>(match v with
  | some a=>Q 0 a
  | none=>True)/\AllT (fun i a=>Q (2*i+1) a) l/\AllT (fun i a=>Q (2*i+2) a) r
theorem YhX {α:Type}:∀ {t:Tr α} {Q:Nat->α->Prop},AllT Q t->∀ i a,t.get i=some a->Q i a
 | .lf,Q,_,i,a,h=>by cases h
 | .n l v r,Q,⟨h1,h2,h3⟩,i,a,h=>by
  rw [Yaj] at h;by_cases h0:i=0
  ·subst h0;have h':v=some a:=h;subst h';exact h1
  rw [Xa h0,YF] at h;by_cases hm:Nat.mod i 2=1
  ·rw [hm] at h;have:=YhX h2 _ a h;have e1:i % 2=1:=hm;have e2:Nat.div i 2=i / 2:=rfl;rw [show 2*Nat.div i 2+1=i from by rw [e2];omega] at this;exact this
  rw [Xa hm,YF] at h;have:=YhX h3 _ a h;have e1:¬i % 2=1:=hm;have e2:Nat.pred (Nat.div i 2)=i / 2 - 1:=rfl;rw [show 2*Nat.pred (Nat.div i 2)+2=i from by rw [e2];omega] at this;exact this
theorem YkM {α:Type}:∀ {t:Tr α} {q:Nat->α->Bool},allB q t=true->AllT (fun i a=>q i a=true) t
 | .lf,_,_=>trivial
 | .n l v r,q,h=>by
  simp only [allB,Bool.and_eq_true] at h;refine ⟨?_,YkM h.2.1,YkM h.2.2⟩;cases v with
  | none=>trivial
  | some a=>exact h.1
def taQ {P:Program} (T:Tab P) (i:Nat) (a:TyA):Bool:=match T.inf i with
 | some X=>trB X a
 | none=>false
theorem TA_of {P:Program} {T:Tab P} {t:Tr TyA} (h:allB (taQ T) t=true):TA t.get T:=fun i a ha=>by
 have:=YhX (YkM h) i a ha;simp only [taQ] at this;cases hX:T.inf i with
 | none=>rw [hX] at this;cases this
 | some X=>rw [hX] at this;exact ⟨X,rfl,trB_s this⟩
theorem FA_of {P:Program} {tT:TT} {t:Tr FE} (h:AllT (FOk P tT) t):FA P tT t.get:=fun g f hg=>YhX h g f hg
def withM (F:FF) (g:FuncId) (f:FE):FF:=fun i=>br (F i) (some f) (Nat.beq i g)
theorem FA_with {P:Program} {tT:TT} {F:FF} {g:FuncId} {f:FE} (h:FA P tT F) (hf:FOk P tT g f):FA P tT (withM F g f):=fun i x hx=>by
 unfold withM at hx;cases hb:Nat.beq i g with
 | true=>rw [hb,Y4] at hx;injection hx with hx;subst hx;rw [Nat.eq_of_beq_eq_true hb];exact hf
 | false=>rw [hb,YF] at hx;exact h i x hx
end Go.Ev
namespace Go.Proofs.YtaaanbkahfeknaaGreatDoor
open Go.Lx Go.Ev
set_option maxRecDepth 100000
def tz3:TyA:=⟨1,0,0,.i64,[],1,8,false,[.i .i64 (.ofNat 0)]⟩
def tz4:TyA:=⟨0,0,0,.i64,[],1,1,false,[.b false]⟩
def tz5:TyA:=⟨1,0,0,.u8,[],1,1,false,[.i .u8 (.ofNat 0)]⟩
def tz9:TyA:=⟨2,0,0,.i64,[],1,16,false,[.s []]⟩
def tz22:TyA:=⟨4,110,0,.i64,[],1,24,false,[.sl none 0 0 none]⟩
def tz23:TyA:=⟨4,59,0,.i64,[],1,24,false,[.sl none 0 0 none]⟩
def tz24:TyA:=⟨4,61,0,.i64,[],1,24,false,[.sl none 0 0 none]⟩
def tz25:TyA:=⟨4,47,0,.i64,[],1,24,false,[.sl none 0 0 none]⟩
def tz26:TyA:=⟨4,50,0,.i64,[],1,24,false,[.sl none 0 0 none]⟩
def tz27:TyA:=⟨9,0,0,.i64,[(9,0),(22,1),(22,2),(23,3),(24,4),(25,5),(26,6)],7,160,true,[.s [],.sl none 0 0 none,.sl none 0 0 none,.sl none 0 0 none,.sl none 0 0 none,.sl none 0 0 none,.sl none 0 0 none]⟩
def tz28:TyA:=⟨9,0,0,.i64,[(9,0),(22,1),(22,2),(23,3),(24,4),(25,5),(26,6)],7,160,true,[.s [],.sl none 0 0 none,.sl none 0 0 none,.sl none 0 0 none,.sl none 0 0 none,.sl none 0 0 none,.sl none 0 0 none]⟩
def tz29:TyA:=⟨4,83,0,.i64,[],1,24,false,[.sl none 0 0 none]⟩
def tz30:TyA:=⟨4,86,0,.i64,[],1,24,false,[.sl none 0 0 none]⟩
def tz31:TyA:=⟨4,9,0,.i64,[],1,24,false,[.sl none 0 0 none]⟩
def tz32:TyA:=⟨4,93,0,.i64,[],1,24,false,[.sl none 0 0 none]⟩
def tz33:TyA:=⟨4,35,0,.i64,[],1,24,false,[.sl none 0 0 none]⟩
def tz34:TyA:=⟨9,0,0,.i64,[(9,0),(9,1),(31,2),(22,3),(32,4),(33,5)],6,128,true,[.s [],.s [],.sl none 0 0 none,.sl none 0 0 none,.sl none 0 0 none,.sl none 0 0 none]⟩
def tz35:TyA:=⟨9,0,0,.i64,[(9,0),(9,1),(31,2),(22,3),(32,4),(33,5)],6,128,true,[.s [],.s [],.sl none 0 0 none,.sl none 0 0 none,.sl none 0 0 none,.sl none 0 0 none]⟩
def tz36:TyA:=⟨9,0,0,.i64,[(9,0),(9,1),(22,2),(29,3),(30,4),(35,5)],11,232,true,[.s [],.s [],.sl none 0 0 none,.sl none 0 0 none,.sl none 0 0 none,.s [],.s [],.sl none 0 0 none,.sl none 0 0 none,.sl none 0 0 none,.sl none 0 0 none]⟩
def tz37:TyA:=⟨9,0,0,.i64,[(9,0),(9,1),(22,2),(29,3),(30,4),(35,5)],11,232,true,[.s [],.s [],.sl none 0 0 none,.sl none 0 0 none,.sl none 0 0 none,.s [],.s [],.sl none 0 0 none,.sl none 0 0 none,.sl none 0 0 none,.sl none 0 0 none]⟩
def tz45:TyA:=⟨4,95,0,.i64,[],1,24,false,[.sl none 0 0 none]⟩
def tz46:TyA:=⟨9,0,0,.i64,[(9,0),(22,1),(3,2),(35,3),(45,9)],10,200,true,[.s [],.sl none 0 0 none,.i .i64 (.ofNat 0),.s [],.s [],.sl none 0 0 none,.sl none 0 0 none,.sl none 0 0 none,.sl none 0 0 none,.sl none 0 0 none]⟩
def tz47:TyA:=⟨9,0,0,.i64,[(9,0),(22,1),(3,2),(35,3),(45,9)],10,200,true,[.s [],.sl none 0 0 none,.i .i64 (.ofNat 0),.s [],.s [],.sl none 0 0 none,.sl none 0 0 none,.sl none 0 0 none,.sl none 0 0 none,.sl none 0 0 none]⟩
def tz49:TyA:=⟨9,0,0,.i64,[(9,0),(22,1),(3,2),(35,3),(35,9),(35,15),(45,21),(45,22)],23,480,true,[.s [],.sl none 0 0 none,.i .i64 (.ofNat 0),.s [],.s [],.sl none 0 0 none,.sl none 0 0 none,.sl none 0 0 none,.sl none 0 0 none,.s [],.s [],.sl none 0 0 none,.sl none 0 0 none,.sl none 0 0 none,.sl none 0 0 none,.s [],.s [],.sl none 0 0 none,.sl none 0 0 none,.sl none 0 0 none,.sl none 0 0 none,.sl none 0 0 none,.sl none 0 0 none]⟩
def tz50:TyA:=⟨9,0,0,.i64,[(9,0),(22,1),(3,2),(35,3),(35,9),(35,15),(45,21),(45,22)],23,480,true,[.s [],.sl none 0 0 none,.i .i64 (.ofNat 0),.s [],.s [],.sl none 0 0 none,.sl none 0 0 none,.sl none 0 0 none,.sl none 0 0 none,.s [],.s [],.sl none 0 0 none,.sl none 0 0 none,.sl none 0 0 none,.sl none 0 0 none,.s [],.s [],.sl none 0 0 none,.sl none 0 0 none,.sl none 0 0 none,.sl none 0 0 none,.sl none 0 0 none,.sl none 0 0 none]⟩
def tz51:TyA:=⟨7,0,0,.i64,[],1,16,false,[.ni]⟩
def tz52:TyA:=⟨7,0,0,.i64,[],1,16,false,[.ni]⟩
def tz58:TyA:=⟨9,0,0,.i64,[(9,0),(22,1)],2,40,true,[.s [],.sl none 0 0 none]⟩
def tz59:TyA:=⟨9,0,0,.i64,[(9,0),(22,1)],2,40,true,[.s [],.sl none 0 0 none]⟩
def tz60:TyA:=⟨9,0,0,.i64,[(9,0),(22,1),(3,2),(3,3)],4,56,true,[.s [],.sl none 0 0 none,.i .i64 (.ofNat 0),.i .i64 (.ofNat 0)]⟩
def tz61:TyA:=⟨9,0,0,.i64,[(9,0),(22,1),(3,2),(3,3)],4,56,true,[.s [],.sl none 0 0 none,.i .i64 (.ofNat 0),.i .i64 (.ofNat 0)]⟩
def tz76:TyA:=⟨4,3,0,.i64,[],1,24,false,[.sl none 0 0 none]⟩
def tz82:TyA:=⟨9,0,0,.i64,[(9,0),(31,1)],2,40,true,[.s [],.sl none 0 0 none]⟩
def tz83:TyA:=⟨9,0,0,.i64,[(9,0),(31,1)],2,40,true,[.s [],.sl none 0 0 none]⟩
def tz85:TyA:=⟨9,0,0,.i64,[(83,0),(3,2)],3,48,true,[.s [],.sl none 0 0 none,.i .i64 (.ofNat 0)]⟩
def tz86:TyA:=⟨9,0,0,.i64,[(83,0),(3,2)],3,48,true,[.s [],.sl none 0 0 none,.i .i64 (.ofNat 0)]⟩
def tz92:TyA:=⟨9,0,0,.i64,[(9,0),(9,1),(3,2),(31,3),(32,4)],5,88,true,[.s [],.s [],.i .i64 (.ofNat 0),.sl none 0 0 none,.sl none 0 0 none]⟩
def tz93:TyA:=⟨9,0,0,.i64,[(9,0),(9,1),(3,2),(31,3),(32,4)],5,88,true,[.s [],.s [],.i .i64 (.ofNat 0),.sl none 0 0 none,.sl none 0 0 none]⟩
def tz94:TyA:=⟨9,0,0,.i64,[(3,0),(22,1),(35,2),(9,8),(31,9),(93,10)],15,288,true,[.i .i64 (.ofNat 0),.sl none 0 0 none,.s [],.s [],.sl none 0 0 none,.sl none 0 0 none,.sl none 0 0 none,.sl none 0 0 none,.s [],.sl none 0 0 none,.s [],.s [],.i .i64 (.ofNat 0),.sl none 0 0 none,.sl none 0 0 none]⟩
def tz95:TyA:=⟨9,0,0,.i64,[(3,0),(22,1),(35,2),(9,8),(31,9),(93,10)],15,288,true,[.i .i64 (.ofNat 0),.sl none 0 0 none,.s [],.s [],.sl none 0 0 none,.sl none 0 0 none,.sl none 0 0 none,.sl none 0 0 none,.s [],.sl none 0 0 none,.s [],.s [],.i .i64 (.ofNat 0),.sl none 0 0 none,.sl none 0 0 none]⟩
def tz97:TyA:=⟨4,99,0,.i64,[],1,24,false,[.sl none 0 0 none]⟩
def tz98:TyA:=⟨9,0,0,.i64,[(3,0),(3,1),(3,2),(3,3),(9,4),(97,5)],6,72,true,[.i .i64 (.ofNat 0),.i .i64 (.ofNat 0),.i .i64 (.ofNat 0),.i .i64 (.ofNat 0),.s [],.sl none 0 0 none]⟩
def tz99:TyA:=⟨9,0,0,.i64,[(3,0),(3,1),(3,2),(3,3),(9,4),(97,5)],6,72,true,[.i .i64 (.ofNat 0),.i .i64 (.ofNat 0),.i .i64 (.ofNat 0),.i .i64 (.ofNat 0),.s [],.sl none 0 0 none]⟩
def tz109:TyA:=⟨9,0,0,.i64,[(9,0),(9,1)],2,32,true,[.s [],.s []]⟩
def tz110:TyA:=⟨9,0,0,.i64,[(9,0),(9,1)],2,32,true,[.s [],.s []]⟩
def tz136:TyA:=⟨9,0,0,.i64,[(4,0)],1,1,true,[.b false]⟩
def tz137:TyA:=⟨9,0,0,.i64,[(4,0)],1,1,true,[.b false]⟩
def tz147:TyA:=⟨1,0,0,.i64,[],1,8,false,[.i .i64 (.ofNat 0)]⟩
def tz152:TyA:=⟨6,4,9,.i64,[],1,8,false,[.m none]⟩
def tz159:TyA:=⟨3,285,0,.i64,[],1,8,false,[.p none]⟩
def tz160:TyA:=⟨6,22,9,.i64,[],1,8,false,[.m none]⟩
def tz161:TyA:=⟨6,61,9,.i64,[],1,8,false,[.m none]⟩
def tz162:TyA:=⟨6,9,9,.i64,[],1,8,false,[.m none]⟩
def tz163:TyA:=⟨9,0,0,.i64,[(28,0),(37,7),(159,18),(160,19),(161,20),(162,21),(22,22)],23,448,true,[.s [],.sl none 0 0 none,.sl none 0 0 none,.sl none 0 0 none,.sl none 0 0 none,.sl none 0 0 none,.sl none 0 0 none,.s [],.s [],.sl none 0 0 none,.sl none 0 0 none,.sl none 0 0 none,.s [],.s [],.sl none 0 0 none,.sl none 0 0 none,.sl none 0 0 none,.sl none 0 0 none,.p none,.m none,.m none,.m none,.sl none 0 0 none]⟩
def tz164:TyA:=⟨9,0,0,.i64,[(28,0),(37,7),(159,18),(160,19),(161,20),(162,21),(22,22)],23,448,true,[.s [],.sl none 0 0 none,.sl none 0 0 none,.sl none 0 0 none,.sl none 0 0 none,.sl none 0 0 none,.sl none 0 0 none,.s [],.s [],.sl none 0 0 none,.sl none 0 0 none,.sl none 0 0 none,.s [],.s [],.sl none 0 0 none,.sl none 0 0 none,.sl none 0 0 none,.sl none 0 0 none,.p none,.m none,.m none,.m none,.sl none 0 0 none]⟩
def tz181:TyA:=⟨1,0,0,.u64,[],1,8,false,[.i .u64 (.ofNat 0)]⟩
def tz195:TyA:=⟨9,0,0,.i64,[(9,0),(3,1),(3,2),(3,3),(3,4),(97,5)],6,72,true,[.s [],.i .i64 (.ofNat 0),.i .i64 (.ofNat 0),.i .i64 (.ofNat 0),.i .i64 (.ofNat 0),.sl none 0 0 none]⟩
def tz196:TyA:=⟨9,0,0,.i64,[(9,0),(3,1),(3,2),(3,3),(3,4),(97,5)],6,72,true,[.s [],.i .i64 (.ofNat 0),.i .i64 (.ofNat 0),.i .i64 (.ofNat 0),.i .i64 (.ofNat 0),.sl none 0 0 none]⟩
def tz217:TyA:=⟨8,0,0,.i64,[],1,8,false,[.nf]⟩
def tz249:TyA:=⟨3,252,0,.i64,[],1,8,false,[.p none]⟩
def tz250:TyA:=⟨4,5,0,.i64,[],1,24,false,[.sl none 0 0 none]⟩
def tz251:TyA:=⟨9,0,0,.i64,[(249,0),(250,1)],2,32,true,[.p none,.sl none 0 0 none]⟩
def tz252:TyA:=⟨9,0,0,.i64,[(249,0),(250,1)],2,32,true,[.p none,.sl none 0 0 none]⟩
def tz284:TyA:=⟨9,0,0,.i64,[(162,0)],1,8,true,[.m none]⟩
def tz285:TyA:=⟨9,0,0,.i64,[(162,0)],1,8,true,[.m none]⟩
def tz286:TyA:=⟨4,289,0,.i64,[],1,24,false,[.sl none 0 0 none]⟩
def tz287:TyA:=⟨5,286,3,.i64,[],3,72,true,[.sl none 0 0 none,.sl none 0 0 none,.sl none 0 0 none]⟩
def tz288:TyA:=⟨9,0,0,.i64,[(9,0),(9,1)],2,32,true,[.s [],.s []]⟩
def tz289:TyA:=⟨9,0,0,.i64,[(9,0),(9,1)],2,32,true,[.s [],.s []]⟩
def tz293:TyA:=⟨4,45,0,.i64,[],1,24,false,[.sl none 0 0 none]⟩
def tz310:TyA:=⟨3,5,0,.i64,[],1,8,false,[.p none]⟩
def tz327:TyA:=⟨9,0,0,.i64,[(3,0)],1,8,true,[.i .i64 (.ofNat 0)]⟩
def tz328:TyA:=⟨9,0,0,.i64,[(3,0)],1,8,true,[.i .i64 (.ofNat 0)]⟩
def tT:Tr TyA:=(.n (.n (.n (.n (.n (.n .lf (some tz31) (.n (.n (.n .lf (some tz287) .lf) (some tz159) .lf) (some tz95) .lf)) none (.n .lf (some tz47) .lf)) none (.n (.n (.n .lf none (.n (.n .lf (some tz327) .lf) none .lf)) none .lf) (some tz23) .lf)) (some tz3) (.n (.n (.n (.n .lf none (.n .lf (some tz195) .lf)) (some tz35) (.n (.n .lf (some tz163) .lf) (some tz99) .lf)) none (.n (.n (.n .lf (some tz147) .lf) (some tz83) .lf) (some tz51) .lf)) none (.n .lf (some tz27) (.n .lf (some tz59) (.n .lf none (.n .lf (some tz251) .lf)))))) none (.n (.n (.n (.n .lf (some tz33) (.n (.n (.n .lf (some tz289) .lf) (some tz161) .lf) (some tz97) .lf)) none (.n .lf (some tz49) .lf)) (some tz9) (.n (.n (.n (.n .lf (some tz137) .lf) none .lf) none .lf) (some tz25) (.n (.n .lf none (.n .lf (some tz217) .lf)) none (.n .lf none (.n .lf (some tz249) .lf))))) (some tz5) (.n (.n (.n .lf (some tz37) (.n (.n (.n .lf (some tz293) .lf) none .lf) none .lf)) none (.n (.n .lf (some tz85) .lf) none (.n (.n .lf (some tz181) .lf) none .lf))) none (.n (.n .lf (some tz45) (.n .lf (some tz109) .lf)) (some tz29) (.n (.n (.n (.n .lf (some tz285) .lf) none .lf) (some tz93) .lf) (some tz61) .lf))))) none (.n (.n (.n (.n (.n .lf (some tz32) (.n (.n (.n .lf (some tz288) .lf) (some tz160) .lf) none .lf)) none .lf) none (.n (.n (.n (.n .lf (some tz136) .lf) none (.n (.n .lf (some tz328) .lf) none .lf)) none .lf) (some tz24) (.n (.n (.n .lf (some tz152) .lf) none .lf) none .lf))) (some tz4) (.n (.n (.n (.n .lf none (.n .lf (some tz196) .lf)) (some tz36) (.n (.n .lf (some tz164) .lf) none .lf)) none (.n .lf (some tz52) .lf)) none (.n (.n (.n .lf (some tz76) .lf) none .lf) (some tz28) (.n (.n (.n (.n .lf (some tz284) .lf) none .lf) (some tz92) .lf) (some tz60) (.n .lf none (.n .lf (some tz252) .lf)))))) none (.n (.n (.n (.n .lf (some tz34) (.n (.n .lf (some tz162) .lf) (some tz98) .lf)) none (.n (.n .lf (some tz82) .lf) (some tz50) .lf)) none (.n .lf (some tz26) (.n .lf (some tz58) (.n .lf none (.n .lf (some tz250) .lf))))) none (.n (.n .lf (some tz22) (.n (.n .lf (some tz86) .lf) none (.n (.n (.n .lf (some tz310) .lf) none .lf) none .lf))) none (.n (.n .lf (some tz46) (.n .lf (some tz110) .lf)) (some tz30) (.n (.n (.n (.n .lf (some tz286) .lf) none .lf) (some tz94) .lf) none .lf))))))
theorem tT_ok:TA tT.get T:=TA_of (by kernel_rfl)
def tF:Tr FE:=(.n (.n (.n (.n (.n (.n .lf none (.n (.n .lf (some (.fn Tryz.f159)) .lf) (some (.fn Tryz.f95)) .lf)) (some (.fn Tryz.f15)) (.n (.n (.n .lf (some (.fn Tryz.f143)) .lf) (some (.fn Tryz.f79)) .lf) (some (.fn Tryz.f47)) .lf)) none (.n (.n (.n .lf none (.n .lf (some (.fn Tryz.f199)) .lf)) none (.n (.n .lf (some (.fn Tryz.f167)) .lf) none .lf)) none (.n (.n (.n .lf (some (.fn Tryz.f151)) .lf) (some (.fn Tryz.f87)) (.n .lf (some (.fn Tryz.f215)) .lf)) (some (.fn Tryz.f55)) .lf))) none (.n (.n (.n (.n (.n (.n .lf (some (.fn Tryz.f259)) .lf) none .lf) none .lf) none .lf) none .lf) none (.n (.n (.n (.n .lf (some (.fn Tryz.f139)) .lf) none (.n .lf (some (.fn Tryz.f203)) .lf)) none .lf) none (.n (.n .lf (some (.fn Tryz.f91)) (.n .lf (some (.fn Tryz.f219)) .lf)) none .lf)))) none (.n (.n (.n (.n (.n (.n .lf (some (.fn Tryz.f129)) .lf) none .lf) none (.n .lf (some (.fn Tryz.f97)) (.n .lf (some (.fn Tryz.f225)) .lf))) none (.n (.n (.n .lf (some (.fn Tryz.f145)) .lf) (some (.fn Tryz.f81)) .lf) (some (.fn Tryz.f49)) .lf)) none (.n (.n (.n .lf none (.n .lf (some (.fn Tryz.f201)) .lf)) none (.n (.n (.n .lf (some (.fn Tryz.f297)) .lf) (some (.fn Tryz.f169)) .lf) none .lf)) none (.n (.n (.n .lf (some (.fn Tryz.f153)) .lf) (some (.fn Tryz.f89)) (.n .lf (some (.fn Tryz.f217)) .lf)) none .lf))) none (.n (.n (.n (.n (.n .lf (some (.fn Tryz.f133)) .lf) none .lf) none (.n (.n .lf (some (.fn Tryz.f165)) .lf) none (.n .lf (some (.fn Tryz.f229)) .lf))) none (.n (.n (.n (.n .lf (some (.fn Tryz.f277)) .lf) (some (.fn Tryz.f149)) .lf) none .lf) none .lf)) none (.n .lf none (.n (.n .lf (some (.fn Tryz.f93)) (.n .lf (some (.fn Tryz.f221)) .lf)) none .lf))))) none (.n (.n (.n (.n (.n (.n (.n .lf (some (.fn Tryz.f128)) .lf) none (.n .lf (some (.fn Tryz.f192)) .lf)) none (.n (.n .lf (some (.fn Tryz.f160)) .lf) (some (.fn Tryz.f96)) .lf)) none (.n (.n (.n (.n .lf (some (.fn Tryz.f272)) .lf) (some (.fn Tryz.f144)) .lf) (some (.fn Tryz.f80)) .lf) (some (.fn Tryz.f48)) .lf)) none (.n (.n (.n .lf none (.n .lf (some (.fn Tryz.f200)) .lf)) none (.n (.n (.n .lf (some (.fn Tryz.f296)) .lf) (some (.fn Tryz.f168)) .lf) none .lf)) none (.n .lf none (.n .lf (some (.fn Tryz.f120)) .lf)))) none (.n (.n (.n (.n (.n (.n .lf (some (.fn Tryz.f260)) .lf) (some (.fn Tryz.f132)) .lf) none .lf) none (.n (.n (.n .lf (some (.fn Tryz.f292)) .lf) (some (.fn Tryz.f164)) .lf) none .lf)) none (.n (.n (.n (.n .lf (some (.fn Tryz.f276)) .lf) (some (.fn Tryz.f148)) .lf) none .lf) none .lf)) none (.n (.n (.n (.n .lf (some (.fn Tryz.f140)) .lf) none (.n .lf (some (.fn Tryz.f204)) .lf)) none .lf) none (.n (.n (.n .lf (some (.fn Tryz.f156)) .lf) none (.n .lf (some (.fn Tryz.f220)) .lf)) none .lf)))) none (.n (.n (.n (.n (.n (.n (.n .lf (some (.fn Tryz.f258)) .lf) (some (.fn Tryz.f130)) .lf) none .lf) none (.n .lf (some (.fn Tryz.f98)) .lf)) none (.n (.n .lf (some (.fn Tryz.f82)) .lf) (some (.fn Tryz.f50)) .lf)) none (.n (.n (.n .lf none (.n .lf (some (.fn Tryz.f202)) .lf)) none .lf) none (.n (.n .lf (some (.fn Tryz.f90)) .lf) none (.n (.n (.n .lf (some (.fn Tryz.f314)) .lf) none .lf) (some (.fn Tryz.f122)) .lf)))) none (.n (.n (.n .lf none (.n (.n .lf (some (.fn Tryz.f166)) .lf) none (.n .lf (some (.fn Tryz.f230)) .lf))) none (.n (.n .lf (some (.fn Tryz.f86)) (.n .lf (some (.fn Tryz.f214)) .lf)) none .lf)) none (.n (.n (.n (.n (.n .lf (some (.fn Tryz.f270)) .lf) (some (.fn Tryz.f142)) .lf) (some (.fn Tryz.f78)) .lf) (some (.fn Tryz.f46)) .lf) none (.n (.n (.n .lf (some (.fn Tryz.f158)) .lf) (some (.fn Tryz.f94)) (.n .lf (some (.fn Tryz.f222)) .lf)) none .lf))))))
theorem fn15_ok:FnOk prog 15 Tryz.f15:=⟨Tryz.func15,by kernel_rfl⟩
theorem fn46_ok:FnOk prog 46 Tryz.f46:=⟨Tryz.func46,by kernel_rfl⟩
theorem fn47_ok:FnOk prog 47 Tryz.f47:=⟨Tryz.func47,by kernel_rfl⟩
theorem fn48_ok:FnOk prog 48 Tryz.f48:=⟨Tryz.func48,by kernel_rfl⟩
theorem fn49_ok:FnOk prog 49 Tryz.f49:=⟨Tryz.func49,by kernel_rfl⟩
theorem fn50_ok:FnOk prog 50 Tryz.f50:=⟨Tryz.func50,by kernel_rfl⟩
theorem fn55_ok:FnOk prog 55 Tryz.f55:=⟨Tryz.func55,by kernel_rfl⟩
theorem fn78_ok:FnOk prog 78 Tryz.f78:=⟨Tryz.func78,by kernel_rfl⟩
theorem fn79_ok:FnOk prog 79 Tryz.f79:=⟨Tryz.func79,by kernel_rfl⟩
theorem fn80_ok:FnOk prog 80 Tryz.f80:=⟨Tryz.func80,by kernel_rfl⟩
theorem fn81_ok:FnOk prog 81 Tryz.f81:=⟨Tryz.func81,by kernel_rfl⟩
theorem fn82_ok:FnOk prog 82 Tryz.f82:=⟨Tryz.func82,by kernel_rfl⟩
theorem fn86_ok:FnOk prog 86 Tryz.f86:=⟨Tryz.func86,by kernel_rfl⟩
theorem fn87_ok:FnOk prog 87 Tryz.f87:=⟨Tryz.func87,by kernel_rfl⟩
theorem fn89_ok:FnOk prog 89 Tryz.f89:=⟨Tryz.func89,by kernel_rfl⟩
theorem fn90_ok:FnOk prog 90 Tryz.f90:=⟨Tryz.func90,by kernel_rfl⟩
theorem fn91_ok:FnOk prog 91 Tryz.f91:=⟨Tryz.func91,by kernel_rfl⟩
theorem fn93_ok:FnOk prog 93 Tryz.f93:=⟨Tryz.func93,by kernel_rfl⟩
theorem fn94_ok:FnOk prog 94 Tryz.f94:=⟨Tryz.func94,by kernel_rfl⟩
theorem fn95_ok:FnOk prog 95 Tryz.f95:=⟨Tryz.func95,by kernel_rfl⟩
theorem fn96_ok:FnOk prog 96 Tryz.f96:=⟨Tryz.func96,by kernel_rfl⟩
theorem fn97_ok:FnOk prog 97 Tryz.f97:=⟨Tryz.func97,by kernel_rfl⟩
theorem fn98_ok:FnOk prog 98 Tryz.f98:=⟨Tryz.func98,by kernel_rfl⟩
theorem fn120_ok:FnOk prog 120 Tryz.f120:=⟨Tryz.func120,by kernel_rfl⟩
theorem fn122_ok:FnOk prog 122 Tryz.f122:=⟨Tryz.func122,by kernel_rfl⟩
theorem fn128_ok:FnOk prog 128 Tryz.f128:=⟨Tryz.func128,by kernel_rfl⟩
theorem fn129_ok:FnOk prog 129 Tryz.f129:=⟨Tryz.func129,by kernel_rfl⟩
theorem fn130_ok:FnOk prog 130 Tryz.f130:=⟨Tryz.func130,by kernel_rfl⟩
theorem fn132_ok:FnOk prog 132 Tryz.f132:=⟨Tryz.func132,by kernel_rfl⟩
theorem fn133_ok:FnOk prog 133 Tryz.f133:=⟨Tryz.func133,by kernel_rfl⟩
theorem fn139_ok:FnOk prog 139 Tryz.f139:=⟨Tryz.func139,by kernel_rfl⟩
theorem fn140_ok:FnOk prog 140 Tryz.f140:=⟨Tryz.func140,by kernel_rfl⟩
theorem fn142_ok:FnOk prog 142 Tryz.f142:=⟨Tryz.func142,by kernel_rfl⟩
theorem fn143_ok:FnOk prog 143 Tryz.f143:=⟨Tryz.func143,by kernel_rfl⟩
theorem fn144_ok:FnOk prog 144 Tryz.f144:=⟨Tryz.func144,by kernel_rfl⟩
theorem fn145_ok:FnOk prog 145 Tryz.f145:=⟨Tryz.func145,by kernel_rfl⟩
theorem fn148_ok:FnOk prog 148 Tryz.f148:=⟨Tryz.func148,by kernel_rfl⟩
theorem fn149_ok:FnOk prog 149 Tryz.f149:=⟨Tryz.func149,by kernel_rfl⟩
theorem fn151_ok:FnOk prog 151 Tryz.f151:=⟨Tryz.func151,by kernel_rfl⟩
theorem fn153_ok:FnOk prog 153 Tryz.f153:=⟨Tryz.func153,by kernel_rfl⟩
theorem fn156_ok:FnOk prog 156 Tryz.f156:=⟨Tryz.func156,by kernel_rfl⟩
theorem fn158_ok:FnOk prog 158 Tryz.f158:=⟨Tryz.func158,by kernel_rfl⟩
theorem fn159_ok:FnOk prog 159 Tryz.f159:=⟨Tryz.func159,by kernel_rfl⟩
theorem fn160_ok:FnOk prog 160 Tryz.f160:=⟨Tryz.func160,by kernel_rfl⟩
theorem fn164_ok:FnOk prog 164 Tryz.f164:=⟨Tryz.func164,by kernel_rfl⟩
theorem fn165_ok:FnOk prog 165 Tryz.f165:=⟨Tryz.func165,by kernel_rfl⟩
theorem fn166_ok:FnOk prog 166 Tryz.f166:=⟨Tryz.func166,by kernel_rfl⟩
theorem fn167_ok:FnOk prog 167 Tryz.f167:=⟨Tryz.func167,by kernel_rfl⟩
theorem fn168_ok:FnOk prog 168 Tryz.f168:=⟨Tryz.func168,by kernel_rfl⟩
theorem fn169_ok:FnOk prog 169 Tryz.f169:=⟨Tryz.func169,by kernel_rfl⟩
theorem fn192_ok:FnOk prog 192 Tryz.f192:=⟨Tryz.func192,by kernel_rfl⟩
theorem fn199_ok:FnOk prog 199 Tryz.f199:=⟨Tryz.func199,by kernel_rfl⟩
theorem fn200_ok:FnOk prog 200 Tryz.f200:=⟨Tryz.func200,by kernel_rfl⟩
theorem fn201_ok:FnOk prog 201 Tryz.f201:=⟨Tryz.func201,by kernel_rfl⟩
theorem fn202_ok:FnOk prog 202 Tryz.f202:=⟨Tryz.func202,by kernel_rfl⟩
theorem fn203_ok:FnOk prog 203 Tryz.f203:=⟨Tryz.func203,by kernel_rfl⟩
theorem fn204_ok:FnOk prog 204 Tryz.f204:=⟨Tryz.func204,by kernel_rfl⟩
theorem fn214_ok:FnOk prog 214 Tryz.f214:=⟨Tryz.func214,by kernel_rfl⟩
theorem fn215_ok:FnOk prog 215 Tryz.f215:=⟨Tryz.func215,by kernel_rfl⟩
theorem fn217_ok:FnOk prog 217 Tryz.f217:=⟨Tryz.func217,by kernel_rfl⟩
theorem fn219_ok:FnOk prog 219 Tryz.f219:=⟨Tryz.func219,by kernel_rfl⟩
theorem fn220_ok:FnOk prog 220 Tryz.f220:=⟨Tryz.func220,by kernel_rfl⟩
theorem fn221_ok:FnOk prog 221 Tryz.f221:=⟨Tryz.func221,by kernel_rfl⟩
theorem fn222_ok:FnOk prog 222 Tryz.f222:=⟨Tryz.func222,by kernel_rfl⟩
theorem fn225_ok:FnOk prog 225 Tryz.f225:=⟨Tryz.func225,by kernel_rfl⟩
theorem fn229_ok:FnOk prog 229 Tryz.f229:=⟨Tryz.func229,by kernel_rfl⟩
theorem fn230_ok:FnOk prog 230 Tryz.f230:=⟨Tryz.func230,by kernel_rfl⟩
theorem fn258_ok:FnOk prog 258 Tryz.f258:=⟨Tryz.func258,by kernel_rfl⟩
theorem fn259_ok:FnOk prog 259 Tryz.f259:=⟨Tryz.func259,by kernel_rfl⟩
theorem fn260_ok:FnOk prog 260 Tryz.f260:=⟨Tryz.func260,by kernel_rfl⟩
theorem fn270_ok:FnOk prog 270 Tryz.f270:=⟨Tryz.func270,by kernel_rfl⟩
theorem fn272_ok:FnOk prog 272 Tryz.f272:=⟨Tryz.func272,by kernel_rfl⟩
theorem fn276_ok:FnOk prog 276 Tryz.f276:=⟨Tryz.func276,by kernel_rfl⟩
theorem fn277_ok:FnOk prog 277 Tryz.f277:=⟨Tryz.func277,by kernel_rfl⟩
theorem fn292_ok:FnOk prog 292 Tryz.f292:=⟨Tryz.func292,by kernel_rfl⟩
theorem fn296_ok:FnOk prog 296 Tryz.f296:=⟨Tryz.func296,by kernel_rfl⟩
theorem fn297_ok:FnOk prog 297 Tryz.f297:=⟨Tryz.func297,by kernel_rfl⟩
theorem fn314_ok:FnOk prog 314 Tryz.f314:=⟨Tryz.func314,by kernel_rfl⟩
theorem tF_ok:FA prog tT.get tF.get:=FA_of ⟨trivial,⟨trivial,⟨trivial,⟨trivial,⟨fn15_ok,⟨trivial,trivial,⟨fn95_ok,⟨fn159_ok,trivial,trivial⟩,trivial⟩⟩,⟨fn47_ok,⟨fn79_ok,⟨fn143_ok,trivial,trivial⟩,trivial⟩,trivial⟩⟩,⟨trivial,⟨trivial,⟨trivial,trivial,⟨fn199_ok,trivial,trivial⟩⟩,⟨trivial,⟨fn167_ok,trivial,trivial⟩,trivial⟩⟩,⟨fn55_ok,⟨fn87_ok,⟨fn151_ok,trivial,trivial⟩,⟨fn215_ok,trivial,trivial⟩⟩,trivial⟩⟩⟩,⟨trivial,⟨trivial,⟨trivial,⟨trivial,⟨trivial,⟨fn259_ok,trivial,trivial⟩,trivial⟩,trivial⟩,trivial⟩,trivial⟩,⟨trivial,⟨trivial,⟨trivial,⟨fn139_ok,trivial,trivial⟩,⟨fn203_ok,trivial,trivial⟩⟩,trivial⟩,⟨trivial,⟨fn91_ok,trivial,⟨fn219_ok,trivial,trivial⟩⟩,trivial⟩⟩⟩⟩,⟨trivial,⟨trivial,⟨trivial,⟨trivial,⟨trivial,⟨fn129_ok,trivial,trivial⟩,trivial⟩,⟨fn97_ok,trivial,⟨fn225_ok,trivial,trivial⟩⟩⟩,⟨fn49_ok,⟨fn81_ok,⟨fn145_ok,trivial,trivial⟩,trivial⟩,trivial⟩⟩,⟨trivial,⟨trivial,⟨trivial,trivial,⟨fn201_ok,trivial,trivial⟩⟩,⟨trivial,⟨fn169_ok,⟨fn297_ok,trivial,trivial⟩,trivial⟩,trivial⟩⟩,⟨trivial,⟨fn89_ok,⟨fn153_ok,trivial,trivial⟩,⟨fn217_ok,trivial,trivial⟩⟩,trivial⟩⟩⟩,⟨trivial,⟨trivial,⟨trivial,⟨trivial,⟨fn133_ok,trivial,trivial⟩,trivial⟩,⟨trivial,⟨fn165_ok,trivial,trivial⟩,⟨fn229_ok,trivial,trivial⟩⟩⟩,⟨trivial,⟨trivial,⟨fn149_ok,⟨fn277_ok,trivial,trivial⟩,trivial⟩,trivial⟩,trivial⟩⟩,⟨trivial,trivial,⟨trivial,⟨fn93_ok,trivial,⟨fn221_ok,trivial,trivial⟩⟩,trivial⟩⟩⟩⟩⟩,⟨trivial,⟨trivial,⟨trivial,⟨trivial,⟨trivial,⟨trivial,⟨fn128_ok,trivial,trivial⟩,⟨fn192_ok,trivial,trivial⟩⟩,⟨fn96_ok,⟨fn160_ok,trivial,trivial⟩,trivial⟩⟩,⟨fn48_ok,⟨fn80_ok,⟨fn144_ok,⟨fn272_ok,trivial,trivial⟩,trivial⟩,trivial⟩,trivial⟩⟩,⟨trivial,⟨trivial,⟨trivial,trivial,⟨fn200_ok,trivial,trivial⟩⟩,⟨trivial,⟨fn168_ok,⟨fn296_ok,trivial,trivial⟩,trivial⟩,trivial⟩⟩,⟨trivial,trivial,⟨fn120_ok,trivial,trivial⟩⟩⟩⟩,⟨trivial,⟨trivial,⟨trivial,⟨trivial,⟨fn132_ok,⟨fn260_ok,trivial,trivial⟩,trivial⟩,trivial⟩,⟨trivial,⟨fn164_ok,⟨fn292_ok,trivial,trivial⟩,trivial⟩,trivial⟩⟩,⟨trivial,⟨trivial,⟨fn148_ok,⟨fn276_ok,trivial,trivial⟩,trivial⟩,trivial⟩,trivial⟩⟩,⟨trivial,⟨trivial,⟨trivial,⟨fn140_ok,trivial,trivial⟩,⟨fn204_ok,trivial,trivial⟩⟩,trivial⟩,⟨trivial,⟨trivial,⟨fn156_ok,trivial,trivial⟩,⟨fn220_ok,trivial,trivial⟩⟩,trivial⟩⟩⟩⟩,⟨trivial,⟨trivial,⟨trivial,⟨trivial,⟨trivial,⟨fn130_ok,⟨fn258_ok,trivial,trivial⟩,trivial⟩,trivial⟩,⟨fn98_ok,trivial,trivial⟩⟩,⟨fn50_ok,⟨fn82_ok,trivial,trivial⟩,trivial⟩⟩,⟨trivial,⟨trivial,⟨trivial,trivial,⟨fn202_ok,trivial,trivial⟩⟩,trivial⟩,⟨trivial,⟨fn90_ok,trivial,trivial⟩,⟨fn122_ok,⟨trivial,⟨fn314_ok,trivial,trivial⟩,trivial⟩,trivial⟩⟩⟩⟩,⟨trivial,⟨trivial,⟨trivial,trivial,⟨trivial,⟨fn166_ok,trivial,trivial⟩,⟨fn230_ok,trivial,trivial⟩⟩⟩,⟨trivial,⟨fn86_ok,trivial,⟨fn214_ok,trivial,trivial⟩⟩,trivial⟩⟩,⟨trivial,⟨fn46_ok,⟨fn78_ok,⟨fn142_ok,⟨fn270_ok,trivial,trivial⟩,trivial⟩,trivial⟩,trivial⟩,⟨trivial,⟨fn94_ok,⟨fn158_ok,trivial,trivial⟩,⟨fn222_ok,trivial,trivial⟩⟩,trivial⟩⟩⟩⟩⟩⟩
end Go.Proofs.YtaaanbkahfeknaaGreatDoor
