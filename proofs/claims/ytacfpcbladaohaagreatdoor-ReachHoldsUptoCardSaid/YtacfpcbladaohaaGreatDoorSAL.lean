/- The texts PDag, PCL, QL, UB, HA, UD, UE, UF, UG, HB, UA, laid together. Conditions: none. -/
import Derived.Test.YtacfpcbladaohaaGreatDoorSAK
set_option linter.all false
set_option maxHeartbeats 8000000
noncomputable section
namespace Go.Lx
open Go.RowKit
section
variable {P:Program} {cx:Cx} {σ:Env} {fz:FZ} {H:HP} {Q:QQ}
def inI (l:List Nat) (i:Nat):Bool:=l.any fun j=>Nat.beq j i
variable {o:Oper}
theorem rdc_sub {ops:List Oper} {ve cv cv':Env} (hx:Sub cv' cv) (h2:∀ j,lk cv j≠none->lk ve j=none):∀ x v,rdc ops o σ ve cv' x=some v->rdc ops o σ ve cv x=some v:=by
 intro x v h;cases x with
 | tmp t=>
  unfold rdc at h ⊢;cases hw:Ydk ops t 0 with
  | none=>simp only [hw] at h ⊢;exact h
  | some j=>
   simp only [hw] at h ⊢;cases hq:waits o j with
   | false=>simp only [hq] at h ⊢;exact h
   | true=>
    simp only [hq] at h ⊢;cases h1:lk cv' j with
    | some u=>
     simp only [h1] at h;have:=hx.lk_ j u h1;simp only [this];exact h
    | none=>
     simp only [h1] at h;cases h3:lk cv j with
     | none=>exact h
     | some u=>have:=h2 j (by rw [h3];simp);rw [this] at h;cases h
 | const c=>exact h
 | func f=>exact h
 | global g=>exact h
theorem Does.cv {ops:List Oper} {ve cv cv':Env} {K:Value->FZ->HP->Prop} (hx:Sub cv' cv) (h2:∀ j,lk cv j≠none->lk ve j=none) (h:Does P cx o (rdc ops o σ ve cv') fz H K):Does P cx o (rdc ops o σ ve cv) fz H K:=
 Does.of fun ρ w hr hi=>h.run ρ w (fun x v hv=>hr x v (rdc_sub hx h2 x v hv)) hi
theorem Does.post {r:Operand->Option Value} {K:Value->FZ->HP->Prop} (h:Does P cx o r fz H fun v fz' H'=>∃ H1 H2,H'.Perm (H1++H2)/\∀ fz2,Le fz' fz2->(∀ p∈H2,fz2 p.1=some p.2)->K v fz2 H1):Does P cx o r fz H K:=
 Does.of fun ρ w hr hi=>(h.run ρ w hr hi).mono fun v w' hh=>by
  obtain ⟨fz',H',h1,H1,H2,hp,h2⟩:=hh;obtain ⟨fz2,h3,h4,h5⟩:=XZ H2 fz' H1 (h1.perm hp.symm);exact ⟨fz2,H1,h5,h2 fz2 h3 h4⟩
variable {i:Nat} {v:Value}
theorem YpH {ve cv:Env} (h:lk ve i=none) (h2:∀ j,lk cv j≠none->lk ve j=none):∀ j,lk ((i,v)::cv) j≠none->lk ve j=none:=fun j hj=>by
 by_cases he:i=j
 ·rw [<- he];exact h
 rw [Y0 v cv he] at hj;exact h2 j hj
theorem rdc_ext {ops:List Oper} {ve cv cv':Env} (hx:VExt cv' cv) (h2:∀ j,lk cv j≠none->lk ve j=none):∀ x v,rdc ops o σ ve cv' x=some v->rdc ops o σ ve cv x=some v:=by
 intro x v h;cases x with
 | tmp t=>
  unfold rdc at h ⊢;cases hw:Ydk ops t 0 with
  | none=>simp only [hw] at h ⊢;exact h
  | some j=>
   simp only [hw] at h ⊢;cases hq:waits o j with
   | false=>simp only [hq] at h ⊢;exact h
   | true=>
    simp only [hq] at h ⊢;cases h1:lk cv' j with
    | some u=>
     simp only [h1] at h;have:=hx j u h1;simp only [this];exact h
    | none=>
     simp only [h1] at h;cases h3:lk cv j with
     | none=>exact h
     | some u=>have:=h2 j (by rw [h3];simp);rw [this] at h;cases h
 | const c=>exact h
 | func f=>exact h
 | global g=>exact h
variable {b:Bool}
theorem YjC {ve cv cv':Env} (hx:VExt cv' cv) (h2:∀ j,lk cv j≠none->lk ve j=none) (h:Ydm o ve cv'=some b):Ydm o ve cv=some b:=by
 unfold Ydm at h ⊢;split
 ·rename_i hg;simp only [hg] at h;exact h
 rename_i j c hg;simp only [hg] at h;cases hw:waits o j with
 | false=>simp only [hw] at h;cases h
 | true=>
  simp only [hw] at h ⊢;cases h1:lk cv' j with
  | some u=>
   simp only [h1] at h;have:=hx j u h1;simp only [this];exact h
  | none=>
   simp only [h1] at h;cases h3:lk cv j with
   | none=>simp only;exact h
   | some u=>have:=h2 j (by rw [h3];simp);simp only [this] at h;cases h
theorem Po.ext {ops:List Oper} {pu:List Nat} {ve:Env} {fz0:FZ} {Hq:HP} {all:List (Nat × Oper)}:∀ (m:Nat) {rest:List (Nat × Oper)} {dn:Bool} {cv cv' τ:Env} {fz:FZ} {H:HP},VExt cv' cv->(∀ j,lk cv j≠none->lk ve j=none)->(∀ p∈rest,lk ve p.1=none)->
 Po P cx ops pu σ ve fz0 Hq Q all m rest dn cv' τ fz H->Po P cx ops pu σ ve fz0 Hq Q all m rest dn cv τ fz H
 | 0,rest,dn,cv,cv',τ,fz,H,_,_,_,h=>by unfold Po at h ⊢;exact h
 | m+1,rest,dn,cv,cv',τ,fz,H,hx,h2,hr,h=>by
  unfold Po at h ⊢;intro p hp hf;have hx2:∀ u,VExt ((p.1,u)::cv') ((p.1,u)::cv):=fun u j w hj=>by
   by_cases he:p.1=j
   ·subst he;rw [XN] at hj ⊢;exact hj
   rw [Y0 u _ he] at hj ⊢;exact hx j w hj
  have hr2:∀ q∈rest.filter fun q=>!Nat.beq q.1 p.1,lk ve q.1=none:=fun q hq=>hr q (List.mem_filter.1 hq).1
  rcases h p hp hf with ⟨hw,hd⟩ | ⟨hw,hn⟩
  ·exact .inl ⟨YjC hx h2 hw,Does.of fun ρ w hrd hi=>(hd.run ρ w (fun x v hv=>hrd x v (rdc_ext hx h2 x v hv)) hi).mono fun v w' ⟨fz',H',h3,h4,h5⟩=>⟨fz',H',h3,h4,Po.ext m (hx2 v) (YpH (hr p hp) h2) hr2 h5⟩⟩
  exact .inr ⟨YjC hx h2 hw,Po.ext m (hx2 undef) (YpH (hr p hp) h2) hr2 hn⟩
theorem Po.cv {ops:List Oper} {pu:List Nat} {ve:Env} {fz0:FZ} {Hq:HP} {all:List (Nat × Oper)} {m:Nat} {rest:List (Nat × Oper)} {dn:Bool} {cv τ:Env} (cv':Env) (hx:Sub cv' cv) (h2:∀ j,lk cv j≠none->lk ve j=none) (hr:(rest.all fun p=>(lk ve p.1).isNone)=true)
 (h:Po P cx ops pu σ ve fz0 Hq Q all m rest dn cv' τ fz H):Po P cx ops pu σ ve fz0 Hq Q all m rest dn cv τ fz H:=
 Po.ext m (fun j v hj=>hx.lk_ j v hj) h2 (fun p hp=>by
  have:=List.all_eq_true.1 hr p hp;cases h0:lk ve p.1 with
  | none=>rfl
  | some u=>rw [h0] at this;cases this) h
def upB (A B:List (Nat × Oper)) (t M:Nat):Bool:=
 (A.all fun a=>Nat.blt a.1 M && (Nat.beq a.1 t || A.any fun b=>Nat.blt a.1 b.1 && waits b.2 a.1)) && (B.all fun b=>waits b.2 t || B.any fun c=>waits b.2 c.1)
def DagOps (P:Program) (cx:Cx) (ops:List Oper) (σ ve:Env) (fz:FZ) (H:HP) (idx:List Nat) (V:Nat->Value->FZ->Prop) (A:List (Nat × Oper)):Prop:=
 ∀ p∈A,∀ cv fz1,Le fz fz1->(∀ j,lk cv j≠none->lk ve j=none)->(∀ j,waits p.2 j=true->inI idx j=true->∃ v,lk cv j=some v/\V j v fz1)->
  Ydm p.2 ve cv=some true/\Does P cx p.2 (rdc ops p.2 σ ve cv) fz1 H fun v fz' H'=>H'=H/\Le fz1 fz'/\V p.1 v fz'
theorem DagOps.nil {ops:List Oper} {ve:Env} {idx:List Nat} {V:Nat->Value->FZ->Prop} {A:List (Nat × Oper)} (hA:A=[]):DagOps P cx ops σ ve fz H idx V A:=by
 subst hA;intro p hp;cases hp
theorem DagOps.step {ops:List Oper} {ve:Env} {idx:List Nat} {V:Nat->Value->FZ->Prop} {A r:List (Nat × Oper)} {d:Nat} {op:Op} {ty:TypeId} {pos:String} {af:Array Edge}
 (h:∀ cv fz1,Le fz fz1->(∀ j,lk cv j≠none->lk ve j=none)->(∀ j,waits ⟨some d,op,ty,pos,af,none⟩ j=true->inI idx j=true->∃ v,lk cv j=some v/\V j v fz1)->
  Does P cx ⟨some d,op,ty,pos,af,none⟩ (rdc ops ⟨some d,op,ty,pos,af,none⟩ σ ve cv) fz1 H fun v fz' H'=>H'=H/\Le fz1 fz'/\V i v fz') (hr:DagOps P cx ops σ ve fz H idx V r) (hA:A=(i,⟨some d,op,ty,pos,af,none⟩)::r:=by exact rfl):DagOps P cx ops σ ve fz H idx V A:=by
 subst hA;intro p hp cv fz1 hle h2 hd;rcases List.mem_cons.1 hp with rfl | hp
 ·exact ⟨rfl,h cv fz1 hle h2 hd⟩
 exact hr p hp cv fz1 hle h2 hd
theorem Wo {l:List (Nat × Oper)}:inCh l i=true↔∃ p∈l,p.1=i:=by
 unfold inCh;rw [List.any_eq_true];exact ⟨fun ⟨p,hp,h⟩=>⟨p,hp,Nat.eq_of_beq_eq_true h⟩,fun ⟨p,hp,h⟩=>⟨p,hp,by rw [h,Nat.beq_refl]⟩⟩
theorem Yo5 {l:List (Nat × Oper)}:YaB l=true->∀ {p q},p∈l->q∈l->p.1=q.1->p=q:=by
 induction l with
 | nil=>intro _ p q hp;cases hp
 | cons x r ih=>
  intro hn p q hp hq he;simp only [YaB,Bool.and_eq_true] at hn;rcases List.mem_cons.1 hp with rfl | hp'
  ·rcases List.mem_cons.1 hq with rfl | hq'
   ·rfl
   exact absurd he.symm (Yha (List.all_eq_true.1 hn.1 q hq'))
  rcases List.mem_cons.1 hq with rfl | hq'
  ·exact absurd he (Yha (List.all_eq_true.1 hn.1 p hp'))
  exact ih hn.2 hp' hq' he
theorem Po.dag (idx:List Nat) (t M:Nat) (V:Nat->Value->FZ->Prop) {ops:List Oper} {pu:List Nat} {ve τ:Env} {fz0:FZ} {Hq:HP} {all all0 A B:List (Nat × Oper)} {dn0:Bool} (hA:all0.filter (fun q=>inI idx q.1)=A) (hB:all0.filter (fun q=>!inI idx q.1)=B)
 (hnd:YaB all0=true) (hup:upB A B t M=true) (hve:(A.all fun a=>(lk ve a.1).isNone)=true) (hidx:(idx.all fun j=>inCh A j)=true) (hV:∀ i v fz fz',Le fz fz'->V i v fz->V i v fz') (hk:Keep fz0 Hq fz H)
 (hop:DagOps P cx ops σ ve fz H idx V A)
 (hfin:∀ dn cv τ1 fz1,Le fz fz1->(∀ j,lk cv j≠none->lk ve j=none)->(∀ j,inCh A j=true->∃ v,lk cv j=some v/\V j v fz1)->(∀ s,(A.all fun a=>match a.2.dst with | some d=>!Nat.beq d s | none=>true)=true->lk τ1 s=lk τ s)->
  Po P cx ops pu σ ve fz0 Hq Q all B.length B dn cv τ1 fz1 H):
 Po P cx ops pu σ ve fz0 Hq Q all all0.length all0 dn0 [] τ fz H:=by
 have hAm:∀ a,a∈A↔a∈all0/\inI idx a.1=true:=fun a=>by rw [<- hA,List.mem_filter]
 have hAi:∀ j,inCh A j=true->inI idx j=true:=fun j hj=>by
  obtain ⟨p,hp,e⟩:=Wo.1 hj;rw [<- e];exact ((hAm p).1 hp).2
 unfold upB at hup;rw [Bool.and_eq_true] at hup;obtain ⟨hu1,hu2⟩:=hup;have main:∀ (k:Nat) (rest:List (Nat × Oper)) (dn:Bool) (cv τ1:Env) (fz1:FZ),(rest.filter fun q=>inI idx q.1).length=k->YaB rest=true->(∀ q∈rest,q∈all0)->(rest.filter fun q=>!inI idx q.1)=B->Le fz fz1->
  (∀ j v,lk cv j=some v->inCh A j=true)->
  (∀ a∈A,inCh rest a.1=true\/((∃ v,lk cv a.1=some v/\V a.1 v fz1)/\∀ q∈rest,waits a.2 q.1=false))->
  (∀ s,(A.all fun a=>match a.2.dst with | some d=>!Nat.beq d s | none=>true)=true->lk τ1 s=lk τ s)->
  Po P cx ops pu σ ve fz0 Hq Q all rest.length rest dn cv τ1 fz1 H:=by
  intro k
  induction k with
  | zero=>
   intro rest dn cv τ1 fz1 hk0 hn hsub hBr hle hcv hst hτ;have hnil:(rest.filter fun q=>inI idx q.1)=[]:=List.length_eq_zero_iff.1 hk0;have hno:∀ q∈rest,inI idx q.1=false:=fun q hq=>by
    cases h:inI idx q.1 with
    | false=>rfl
    | true=>have:q∈rest.filter fun q=>inI idx q.1:=List.mem_filter.2 ⟨hq,h⟩;rw [hnil] at this;cases this
   have hrest:rest=B:=by rw [<- hBr];exact (List.filter_eq_self.2 (fun q hq=>by rw [hno q hq];rfl)).symm
   rw [hrest];refine hfin dn cv τ1 fz1 hle (fun j hj=>?_) (fun j hj=>?_) hτ
   ·cases hl:lk cv j with
    | none=>exact absurd hl hj
    | some v=>
     obtain ⟨p,hp,e⟩:=Wo.1 (hcv j v hl);have:=List.all_eq_true.1 hve p hp;rw [e] at this;cases h0:lk ve j with
     | none=>rfl
     | some u=>rw [h0] at this;cases this
   obtain ⟨p,hp,e⟩:=Wo.1 hj;rcases hst p hp with h | h
   ·obtain ⟨q,hq,e2⟩:=Wo.1 h;have:=hno q hq;rw [e2,((hAm p).1 hp).2] at this;cases this
   rw [<- e];exact h.1
  | succ k ih=>
   intro rest dn cv τ1 fz1 hk0 hn hsub hBr hle hcv hst hτ;have h2:∀ j,lk cv j≠none->lk ve j=none:=fun j hj=>by
    cases hl:lk cv j with
    | none=>exact absurd hl hj
    | some v=>
     obtain ⟨p,hp,e⟩:=Wo.1 (hcv j v hl);have:=List.all_eq_true.1 hve p hp;rw [e] at this;cases h0:lk ve j with
     | none=>rfl
     | some u=>rw [h0] at this;cases this
   -- the last of the free ones is still to come
   have htop:inCh rest t=true:=by
    have hup2:∀ (m:Nat) (a:Nat × Oper),M - a.1<=m->a∈A->inCh rest a.1=true->inCh rest t=true:=by
     intro m
     induction m with
     | zero=>
      intro a hm ha _;have h1:=List.all_eq_true.1 hu1 a ha;rw [Bool.and_eq_true] at h1;have:a.1<M:=Nat.le_of_ble_eq_true h1.1;omega
     | succ m ihm=>
      intro a hm ha hr;have h1:=List.all_eq_true.1 hu1 a ha;rw [Bool.and_eq_true,Bool.or_eq_true] at h1;rcases h1.2 with h3 | h3
      ·rw [<- Nat.eq_of_beq_eq_true h3];exact hr
      obtain ⟨b,hb,h4⟩:=List.any_eq_true.1 h3;rw [Bool.and_eq_true] at h4;have hlt:a.1<b.1:=Nat.le_of_ble_eq_true h4.1;have hM:a.1<M:=Nat.le_of_ble_eq_true h1.1;refine ihm b Zi hb ?_;rcases hst b hb with h5 | h5
      ·exact h5
      obtain ⟨q,hq,e⟩:=Wo.1 hr;have:=h5.2 q hq;rw [e,h4.2] at this;cases this
    have hex:∃ q∈rest,inI idx q.1=true:=by
     cases hf:rest.filter fun q=>inI idx q.1 with
     | nil=>rw [hf] at hk0;simp at hk0
     | cons x r=>
      have:x∈rest.filter fun q=>inI idx q.1:=by rw [hf];simp
      exact ⟨x,(List.mem_filter.1 this).1,(List.mem_filter.1 this).2⟩
    obtain ⟨q,hq,hqi⟩:=hex;exact hup2 _ q (Zs _) ((hAm q).2 ⟨hsub q hq,hqi⟩) (Wo.2 ⟨q,hq,rfl⟩)
   have hlen:∃ m,rest.length=m+1:=by
    cases rest with
    | nil=>simp at hk0
    | cons x r=>exact ⟨r.length,rfl⟩
   obtain ⟨m,hm⟩:=hlen;rw [hm];unfold Po;intro p hp hfree;have hpA:p∈A:=by
    refine (hAm p).2 ⟨hsub p hp,?_⟩;cases hpi:inI idx p.1 with
    | true=>rfl
    | false=>
     exfalso;have hpB:p∈B:=by rw [<- hBr];exact List.mem_filter.2 ⟨hp,by rw [hpi];rfl⟩
     have h1:=List.all_eq_true.1 hu2 p hpB;rw [Bool.or_eq_true] at h1;rcases h1 with h1 | h1
     ·obtain ⟨q,hq,e⟩:=Wo.1 htop;have:=List.all_eq_true.1 hfree q hq;rw [e,h1] at this;cases this
     obtain ⟨c,hc,h3⟩:=List.any_eq_true.1 h1;rw [<- hBr] at hc;have:=List.all_eq_true.1 hfree c (List.mem_filter.1 hc).1;rw [h3] at this;cases this
   have hwt:∀ q∈rest,waits p.2 q.1=false:=fun q hq=>by
    have:=List.all_eq_true.1 hfree q hq;cases h:waits p.2 q.1 with
    | false=>rfl
    | true=>rw [h] at this;cases this
   have hidx':∀ j,inI idx j=true->inCh A j=true:=fun j hj=>by
    unfold inI at hj;obtain ⟨x,hx,e⟩:=List.any_eq_true.1 hj;rw [<- Nat.eq_of_beq_eq_true e];exact List.all_eq_true.1 hidx x hx
   have hdep:∀ j,waits p.2 j=true->inI idx j=true->∃ v,lk cv j=some v/\V j v fz1:=by
    intro j hj hji;obtain ⟨a,ha,rfl⟩:=Wo.1 (hidx' j hji);rcases hst a ha with h | h
    ·obtain ⟨q,hq,e⟩:=Wo.1 h;have:=hwt q hq;rw [e,hj] at this;cases this
    exact h.1
   obtain ⟨hw,hD⟩:=hop p hpA cv fz1 hle h2 hdep;have hlen2:=Ydg hn hp;have hlm:m=(rest.filter fun q=>!Nat.beq q.1 p.1).length:=by omega
   have hnot:inCh (rest.filter fun q=>!Nat.beq q.1 p.1) p.1=false:=by
    cases h:inCh (rest.filter fun q=>!Nat.beq q.1 p.1) p.1 with
    | false=>rfl
    | true=>
     obtain ⟨q,hq,e⟩:=Wo.1 h;have:=(List.mem_filter.1 hq).2;exact absurd e (Yha this)
   have hpi:inI idx p.1=true:=((hAm p).1 hpA).2;refine .inl ⟨hw,Does.of fun ρ w hr hi=>(hD.run ρ w hr hi).mono fun v w' hh=>?_⟩;obtain ⟨fz',H',h1,rfl,hle2,hv⟩:=hh;have hHk:Keep fz0 Hq fz' H':=⟨hk.1.trans (hle.trans hle2),hk.2⟩;refine ⟨fz',H',h1,.inr hHk,?_⟩;rw [hlm];refine ih _ _ _ _ fz' ?_ (Ya0 hn) (fun q hq=>hsub q (List.mem_filter.1 hq).1) ?_ (hle.trans hle2) (fun j u hj=>?_) (fun a ha=>?_) (fun s hs=>?_)
   ·have e1:(rest.filter fun q=>!Nat.beq q.1 p.1).filter (fun q=>inI idx q.1)=(rest.filter fun q=>inI idx q.1).filter (fun q=>!Nat.beq q.1 p.1):=by
     rw [List.filter_filter,List.filter_filter]
     congr 1;funext q;exact Bool.and_comm _ _
    rw [e1];have:=Ydg (Ya0 (f:=fun q=>inI idx q.1) hn) (List.mem_filter.2 ⟨hp,hpi⟩);omega
   ·rw [<- hBr,List.filter_filter];refine List.filter_congr fun q hq=>?_
    by_cases he:q.1=p.1
    ·rw [he,hpi];rfl
    rw [YhV he,Bool.and_true]
   ·by_cases he:p.1=j
    ·rw [<- he];exact Wo.2 ⟨p,hpA,rfl⟩
    rw [Y0 v cv he] at hj;exact hcv j u hj
   ·by_cases he:p.1=a.1
    ·have:a=p:=Yo5 hnd ((hAm a).1 ha).1 (hsub p hp) he.symm;subst this;exact .inr ⟨⟨v,XN _ _ _,hv⟩,fun q hq=>hwt q (List.mem_filter.1 hq).1⟩
    rcases hst a ha with h | ⟨⟨u,hu,hVu⟩,h⟩
    ·obtain ⟨q,hq,e⟩:=Wo.1 h;exact .inl (Wo.2 ⟨q,List.mem_filter.2 ⟨hq,YhV (fun h0=>he (h0.symm.trans e))⟩,e⟩)
    exact .inr ⟨⟨u,by rw [Y0 v cv he];exact hu,hV _ _ _ _ hle2 hVu⟩,fun q hq=>h q (List.mem_filter.1 hq).1⟩
   have hp1:=List.all_eq_true.1 hs p hpA;cases hd:p.2.dst with
   | none=>simp only;exact hτ s hs
   | some d=>
    simp only [hd] at hp1 ⊢;rw [Y0 v τ1 (Yha hp1)];exact hτ s hs
 refine main _ all0 dn0 [] τ fz rfl hnd (fun _ h=>h) hB Zd (fun j v h=>by cases h) (fun a ha=>.inl (Wo.2 ⟨a,((hAm a).1 ha).1,rfl⟩)) (fun _ _=>rfl)
end
attribute [irreducible] DagOps
end Go.Lx
set_option maxRecDepth 20000
namespace Go.Proofs.YtacfpcbladaohaaGreatDoor
open Go.Lx Go.RowKit
attribute [local instance 10] Classical.propDecidable
open Go.Proofs.Tryz (prog)
variable {α:Type} {fz fz':FZ} {va ve vk vp v vb:Value} {cs:List Value} {A B:Option Addr} {c n g j:Nat} {K:Kn} {ff:FuncId} {vars:List Param} {a:Atom} {b:Bool} {H:HP} {t t':TypeId} {x y:Operand} {L:Lay α}
mutual
def LongP:Formula->Prop
 | .mk _ _ _ params _ kids=>6<params.length\/LongPL kids
def LongPL:List Formula->Prop
 | []=>False
 | k::r=>LongP k\/LongPL r
end
theorem YhZ:∀ {l:List Formula},LongPL l↔∃ x∈l,LongP x
 | []=>by simp [LongPL]
 | k::r=>by rw [LongPL,YhZ (l:=r)];simp
theorem Yd8 (f:Formula):LongP f↔6<f.params.length\/∃ x∈f.kids,LongP x:=by cases f;rw [LongP,YhZ];rfl
theorem long_f:∀ (s:Nat) {fz:FZ} {f:Formula} {va vp ve vk:Value},SizeOf.sizeOf f<=s->FormulaR fz f va vp ve vk->
 QFn prog 170 [.agg #[Zy f.op,Zy f.name,va,vp,ve,vk]] fz (Zo (decide (LongP f)))
 | 0,_,f,_,_,_,_,hse,_=>by cases f;simp at hse
 | s+1,fz,f,va,vp,ve,vk,hse,hR=>by
  obtain ⟨⟨B1,m1,d1,rfl,ia⟩,⟨B2,m2,d2,rfl,ip⟩,⟨B3,m3,d3,rfl,ie⟩,⟨B4,m4,d4,rfl,ik⟩⟩:=hR.sls;have l2:=ip.len;refine qF Tryz.func170 Tryz.ntmps170 (fun w0=>?_);refine pX (fun g0=>?_);refine vC ?_ ?_<;>intro x1
  ·exact vR (h:=by exact Ym ((Yd8 f).2 (.inl Zi)))
  refine zV ?_
  ((refine zG ?_);refine Yu (XD (cap:=[]) (p:=LongP) ik (fun x hx cs hcs=>by
   obtain ⟨wa,wp,we,wk,rfl,hRx⟩:=Yn hcs;exact long_f s (by have:=Lx.Formula.kids_lt hx;omega) hRx)) ?_)
  refine zV ?_
  (exact ret1 rfl rfl Zb (by
   by_cases h:∃ x∈f.kids,LongP x
   ·rw [decide_eq_true h,decide_eq_true ((Yd8 f).2 (.inr h))]
   rw [decide_eq_false h,decide_eq_false (fun h0=>((Yd8 f).1 h0).elim (fun h1=>x1 Zi) h)]))
theorem YhY {f:Formula} (hR:FormulaR fz f va vp ve vk):
 QFn prog 170 [.agg #[Zy f.op,Zy f.name,va,vp,ve,vk]] fz (Zo (decide (LongP f))):=long_f _ (Zs _) hR
def YhA (c:Change):Prop:=6<c.params.length\/LongP c.when_
theorem longC_q {c:Change} (h:changeL.rep fz c cs):QFn prog 249 [.agg cs.toArray] fz (Zo (decide (YhA c))):=by
 obtain ⟨v1,v2,v3,v4,v5,v6,v7,v8,rfl,hR⟩:=Y6 h;obtain ⟨A1,n1,b1,rfl,ip⟩:=hR.params;have hw:=hR.when_;obtain ⟨⟨A2,n2,b2,rfl,iw1⟩,⟨A3,n3,b3,rfl,iw2⟩,⟨A4,n4,b4,rfl,iw3⟩,⟨A5,n5,b5,rfl,iw4⟩⟩:=hR.when_.sls;obtain ⟨A6,n6,b6,rfl,iw5⟩:=hR.args;obtain ⟨⟨A7,n7,b7,rfl,iw6⟩,⟨A8,n8,b8,rfl,iw7⟩⟩:=hR.value.sls;have l1:=ip.len;refine qF Tryz.func249 Tryz.ntmps249 (fun w0=>?_);refine pX (fun g0=>?_);refine vC ?_ ?_<;>intro x1
 ·exact vR (h:=by exact Ym (.inl Zi))
 refine vG ?_;refine Ye (vs:=[Zy c.when_.op,Zy c.when_.name,Zc A2 n2 b2,Zc A3 n3 b3,Zc A4 n4 b4,Zc A5 n5 b5]) 0 ?_;refine zc (YhY hw) ?_;refine zV ?_
 (exact ret1 rfl rfl Zb (by
  by_cases h:LongP c.when_
  ·rw [decide_eq_true h,decide_eq_true (show YhA c from .inr h)]
  rw [decide_eq_false h,decide_eq_false (show ¬YhA c from fun h0=>h0.elim (fun h1=>x1 Zi) h)]))
theorem Ycv {l:List Change} (h:Sl changeL fz A n c l):
 QFn prog 176 [Zc A n c] fz (Zo (decide (∃ x∈l,YhA x))):=by
 refine qF Tryz.func176 Tryz.ntmps176 (fun w0=>?_);refine vG ?_;refine Yu (YaN (cap:=[]) (p:=YhA) h (fun x hx cs hcs=>longC_q hcs)) ?_;exact vR (h:=rfl)
theorem YfM:QFn prog 169 [Zc A n c] fz (Zo (decide (6<n))):=by
 refine qF Tryz.func169 Tryz.ntmps169 (fun w0=>?_);refine vC ?_ ?_<;>intro x1
 ·exact vR (h:=by exact Ym Zi)
 exact vR (h:=by exact Yg Zi)
def YcE (fz:FZ) (g:Nat):Prop:=fz g=some (Zu #[.func (.func 169) #[] #[]] 265)
theorem large2_q (hg:YcE fz g) {x:Predicate} (h:predicateL.rep fz x cs):
 QFn prog 172 [.agg cs.toArray,Zp g] fz (Zo (decide (6<x.params.length))):=by
 unfold YcE at hg;obtain ⟨v1,rfl,hR⟩:=Xo h;obtain ⟨A1,n1,b1,rfl,ip⟩:=hR.params;have l1:=ip.len;refine qF Tryz.func172 Tryz.ntmps172 (fun w0=>?_);refine pX (fun g0=>?_);refine vv YfM ?_;exact vR (h:=by rw [l1])
theorem large3_q (hg:YcE fz g) {x:Function} (h:functionL.rep fz x cs):
 QFn prog 174 [.agg cs.toArray,Zp g] fz (Zo (decide (6<x.params.length))):=by
 unfold YcE at hg;obtain ⟨v1,rfl,hR⟩:=YU h;obtain ⟨A1,n1,b1,rfl,ip⟩:=hR.params;have l1:=ip.len;refine qF Tryz.func174 Tryz.ntmps174 (fun w0=>?_);refine pX (fun g0=>?_);refine vv YfM ?_;exact vR (h:=by rw [l1])
def LongA (a:Action):Prop:=6<a.params.length\/LongP a.pre\/∃ c∈a.changes,YhA c
theorem orNo {p q r:Prop} [Decidable q] [Decidable r] (h:¬p) (e:r↔p\/q):Value.bool (decide q)=Value.bool (decide r):=by
 by_cases hq:q
 ·rw [decide_eq_true hq,decide_eq_true (e.2 (.inr hq))]
 rw [decide_eq_false hq,decide_eq_false (fun h0=>(e.1 h0).elim h hq)]
theorem large4_q (hg:YcE fz g) {x:Action} (h:actionL.rep fz x cs):
 QFn prog 175 [.agg cs.toArray,Zp g] fz (Zo (decide (LongA x))):=by
 unfold YcE at hg;obtain ⟨v1,v2,v3,v4,v5,v6,rfl,hR⟩:=Y7 h;obtain ⟨A1,n1,b1,rfl,ip⟩:=hR.params;have hw:=hR.pre;obtain ⟨⟨A2,n2,b2,rfl,iw1⟩,⟨A3,n3,b3,rfl,iw2⟩,⟨A4,n4,b4,rfl,iw3⟩,⟨A5,n5,b5,rfl,iw4⟩⟩:=hR.pre.sls;obtain ⟨A6,n6,b6,rfl,ic⟩:=hR.changes;have l1:=ip.len;refine qF Tryz.func175 Tryz.ntmps175 (fun w0=>?_);refine pX (fun g0=>?_);refine vG ?_;refine XX Zz Zz Zz YfM (fun f1=>?_) (fun f1=>?_)
 ·exact vR (h:=by exact Ym (.inl Zi))
 refine vG ?_;refine Ye (vs:=[Zy x.pre.op,Zy x.pre.name,Zc A2 n2 b2,Zc A3 n3 b3,Zc A4 n4 b4,Zc A5 n5 b5]) 0 ?_;refine zb (YhY hw) (fun f2=>?_) (fun f2=>?_)
 ·exact vR (h:=by exact Ym (.inr (.inl (Zt f2))))
 refine vc (Ycv ic) ?_;exact vR (h:=by exact orNo (p:=6<x.params.length\/LongP x.pre) (fun h0=>h0.elim (fun h1=>f1 Zi) (Zf f2)) or_assoc.symm)
def YnU (a:Durative):Prop:=6<a.params.length\/LongP a.start\/LongP a.over\/LongP a.fin\/(∃ c∈a.atStart,YhA c)\/∃ c∈a.atEnd,YhA c
theorem large5_q (hg:YcE fz g) {x:Durative} (h:durativeL.rep fz x cs):
 QFn prog 177 [.agg cs.toArray,Zp g] fz (Zo (decide (YnU x))):=by
 unfold YcE at hg;obtain ⟨v1,v2,v3,v4,v5,v6,v7,v8,v9,v10,v11,v12,v13,v14,v15,rfl,hR⟩:=Xx h;obtain ⟨A1,n1,b1,rfl,ip⟩:=hR.params;have hw:=hR.start;have ho:=hR.over;have hf:=hR.fin;obtain ⟨⟨A2,n2,b2,rfl,_⟩,⟨A3,n3,b3,rfl,_⟩,⟨A4,n4,b4,rfl,_⟩,⟨A5,n5,b5,rfl,_⟩⟩:=hR.start.sls;obtain ⟨⟨C2,c2,e2,rfl,_⟩,⟨C3,c3,e3,rfl,_⟩,⟨C4,c4,e4,rfl,_⟩,⟨C5,c5,e5,rfl,_⟩⟩:=hR.over.sls;obtain ⟨⟨D2,d2,i2,rfl,_⟩,⟨D3,d3,i3,rfl,_⟩,⟨D4,d4,i4,rfl,_⟩,⟨D5,d5,i5,rfl,_⟩⟩:=hR.fin.sls;obtain ⟨A6,n6,b6,rfl,ic⟩:=hR.atStart;obtain ⟨A7,n7,b7,rfl,id⟩:=hR.atEnd;have l1:=ip.len;refine qF Tryz.func177 Tryz.ntmps177 (fun w0=>?_);refine pX (fun g0=>?_);refine vG ?_;refine XX Zz Zz Zz YfM (fun f1=>?_) (fun f1=>?_)
 ·exact vR (h:=by exact Ym (.inl Zi))
 refine vG ?_;refine Ye (vs:=[Zy x.start.op,Zy x.start.name,Zc A2 n2 b2,Zc A3 n3 b3,Zc A4 n4 b4,Zc A5 n5 b5]) 0 ?_;refine zb (YhY hw) (fun f2=>?_) (fun f2=>?_)
 ·exact vR (h:=by exact Ym (.inr (.inl (Zt f2))))
 refine vG ?_;refine Ye (vs:=[Zy x.over.op,Zy x.over.name,Zc C2 c2 e2,Zc C3 c3 e3,Zc C4 c4 e4,Zc C5 c5 e5]) 0 ?_;refine zb (YhY ho) (fun f3=>?_) (fun f3=>?_)
 ·exact vR (h:=by exact Ym (.inr (.inr (.inl (Zt f3)))))
 refine vG ?_;refine Ye (vs:=[Zy x.fin.op,Zy x.fin.name,Zc D2 d2 i2,Zc D3 d3 i3,Zc D4 d4 i4,Zc D5 d5 i5]) 0 ?_;refine zb (YhY hf) (fun f4=>?_) (fun f4=>?_)
 ·exact vR (h:=by exact Ym (.inr (.inr (.inr (.inl (Zt f4))))))
 refine vb (Ycv ic) (fun f5=>?_) (fun f5=>?_)
 ·exact vR (h:=by exact Ym (.inr (.inr (.inr (.inr (.inl (Zt f5)))))))
 refine vc (Ycv id) ?_;refine zV ?_
 (exact ret1 rfl rfl Zb (orNo (p:=6<x.params.length\/LongP x.start\/LongP x.over\/LongP x.fin\/∃ c∈x.atStart,YhA c) (fun h0=>by
  rcases h0 with h1 | h1 | h1 | h1 | h1
  ·exact f1 Zi
  ·exact Zf f2 h1
  ·exact Zf f3 h1
  ·exact Zf f4 h1
  exact Zf f5 h1) (by unfold YnU;simp only [or_assoc])))
def schA (a:Action):Schema:=⟨a.name,a.params,normV a.pre,normV a.pre,YdD,YdD,[],normC a.changes,true,[]⟩
def schD (a:Durative):Schema:=⟨a.name,a.params,normV (andF [a.start]),normV (andF [a.start,a.over,a.fin]),normV (andF [a.over]),normV (andF [a.fin]),normC a.atStart,normC a.atEnd,false,[]⟩
def schB (d:Domain):List Schema:=d.actions.map schA++d.duratives.map schD
def Ybn (K:Kn) (s:Schema):Schema:={s with arguments:=Yc6 K s.params 4096}
def schL (K:Kn) (d:Domain):List Schema:=(schB d).map (Ybn K)
def YbX (l:List Schema):Nat:=(l.map fun s=>s.arguments.length).sum
def Yla (K:Kn) (s:Schema):Prop:=s.count=true/\(64<termsM K s.start\/∃ c∈s.late,64<termsM K c.when_)
def schE (K:Kn) (d:Domain):Int:=if 4096<YbX (schL K d) then 5 else if ∃ s∈schL K d,Yla K s then 5 else 0
structure KfR (fz:FZ) (v:Value) (d:Domain) (os:List Param):Prop where
 ex:∃ (g:Nat) (a0 a1 a2 a5 a6 a7 a8 a9 a10 a11 a12 a13 a14 a15 a16 a17 vf b0 b1:Value) (A3:Option Addr) (n3 c3:Nat) (A4:Option Addr) (n4 c4:Nat) (A:Option Addr) (n c:Nat),
  v=Zp g/\fz g=some (Zu #[a0,a1,a2,Zc A3 n3 c3,Zc A4 n4 c4,a5,a6,a7,a8,a9,a10,a11,a12,a13,a14,a15,a16,a17,vf,Zc A n c,b0,b1] 124)/\
  Sl predicateL fz A3 n3 c3 d.predicates/\Sl functionL fz A4 n4 c4 d.functions/\ForR fz vf d.types/\Sl paramL fz A n c os
 w:WFT d.types
 u:(parN os).Nodup
theorem KfR.mono {d:Domain} {os:List Param} (h:KfR fz v d os) (hle:Le fz fz'):KfR fz' v d os:=by
 obtain ⟨⟨g,a0,a1,a2,a5,a6,a7,a8,a9,a10,a11,a12,a13,a14,a15,a16,a17,vf,b0,b1,A3,n3,c3,A4,n4,c4,A,n,c,h1,h2,h3,h4,h5,h6⟩,hw,hu⟩:=h;exact ⟨⟨g,a0,a1,a2,a5,a6,a7,a8,a9,a10,a11,a12,a13,a14,a15,a16,a17,vf,b0,b1,A3,n3,c3,A4,n4,c4,A,n,c,h1,hle _ _ h2,h3.mono hle,h4.mono hle,h5.mono hle,h6.mono hle⟩,hw,hu⟩
structure KnD (fz:FZ) (v:Value) (K:Kn) (d:Domain):Prop where
 f:KfR fz v d K.os
 k:KnR fz v K
 ex:∃ (g:Nat) (cs:List Value) (v5 v6:Value),v=Zp g/\fz g=some (Zu cs.toArray 124)/\cs[5]?=some v5/\cs[6]?=some v6/\IsSl actionL fz v5 d.actions/\IsSl durativeL fz v6 d.duratives
theorem YhG:OneC schemaL:=by
 intro fz d cs h u hu;obtain ⟨u0,u1,u2,u3,u4,u5,u6,u7,u8,u9,u10,u11,u12,u13,u14,u15,u16,u17,u18,u19,rfl,hR⟩:=Yaa h;obtain ⟨A0,n0,c0,rfl,_⟩:=hR.params;obtain ⟨⟨A1,n1,c1,rfl,_⟩,⟨A2,n2,c2,rfl,_⟩,⟨A3,n3,c3,rfl,_⟩,⟨A4,n4,c4,rfl,_⟩⟩:=hR.start.sls;obtain ⟨⟨A5,n5,c5,rfl,_⟩,⟨A6,n6,c6,rfl,_⟩,⟨A7,n7,c7,rfl,_⟩,⟨A8,n8,c8,rfl,_⟩⟩:=hR.all.sls;obtain ⟨⟨A9,n9,c9,rfl,_⟩,⟨A10,n10,c10,rfl,_⟩,⟨A11,n11,c11,rfl,_⟩,⟨A12,n12,c12,rfl,_⟩⟩:=hR.over.sls;obtain ⟨⟨A13,n13,c13,rfl,_⟩,⟨A14,n14,c14,rfl,_⟩,⟨A15,n15,c15,rfl,_⟩,⟨A16,n16,c16,rfl,_⟩⟩:=hR.fin.sls;obtain ⟨A17,n17,c17,rfl,_⟩:=hR.early;obtain ⟨A18,n18,c18,rfl,_⟩:=hR.late;obtain ⟨A19,n19,c19,rfl,_⟩:=hR.arguments
 iterate 30 (rcases List.mem_cons.1 hu with rfl | hu;· rfl)
 cases hu
structure SchS (K:Kn) (d:Domain):Prop where
 na:d.actions.length<=2000000
 nd:d.duratives.length<=2000000
 pa:∀ a∈d.actions,fW a.pre<=100000000/\a.params.length<=2000000/\a.changes.length<=2000000/\∀ c∈a.changes,fW c.when_<=100000000
 pd:∀ a∈d.duratives,fW a.start<=10000000/\fW a.over<=10000000/\fW a.fin<=10000000/\a.params.length<=2000000/\a.atStart.length<=2000000/\a.atEnd.length<=2000000/\(∀ c∈a.atStart,fW c.when_<=100000000)/\(∀ c∈a.atEnd,fW c.when_<=100000000)
 sh:∀ a∈d.actions,ShN (normV a.pre)/\∀ c∈normC a.changes,ShN c.when_
theorem Yk2:FormulaR fz YdD Zn Zn Zn Zn:=⟨Z0 _,Z0 _,IsSl.nil,IsSl.nil,IsSl.nil,IsSl.nil⟩
theorem YmX (l:List Formula) (h:(l.map fW).sum<=90000000):fW (andF l)<=100000000:=by
 rw [Ya6];show 1+0+0+0+(l.map fW).sum<=_;omega
theorem YkB {z:Nat} {cur:List Value} {o:Nat} (hc:(cur.drop (j*z)).take z=cs) (hv:cs[o]?=some v):cur[j*z+o]?=some v:=by
 subst hc;have ho:o<z:=by
  have:=(Zg hv).1;rw [List.length_take] at this;omega
 rw [List.getElem?_take_of_lt ho,List.getElem?_drop] at hv;exact hv
theorem YnD {e:Nat} {cap:Nat} {cur:List Value} {l:List α} (h:GrowB L e fz g n cap cur l) {o:Nat} {d d':α} (hj:l[j]?=some d) (hc:(cur.drop (j*L.size)).take L.size=cs) (ho:o<L.size) (hr:L.rep fz d' (cs.set o v)):
 GrowB L e fz g n cap (cur.set (j*L.size+o) v) (l.set j d'):=by
 obtain ⟨xs,h1,h2,h3⟩:=h.pairs;have hl:=h.len;have hjn:j<n:=by have:=(Zg hj).1;omega
 have hxl:xs.length=n:=by rw [<- h1,List.length_map] at hl;exact hl
 have hsz:=h.size;have hcap:=h.capn;have hjz:j*L.size+L.size<=n*L.size:=by rw [<- Nat.succ_mul];exact Nat.mul_le_mul_right _ hjn
 have hnc:n*L.size<=cap*L.size:=Nat.mul_le_mul_right _ hcap;refine ⟨⟨xs.set j (d',cs.set o v),by rw [List.map_set,h1],fun p hp=>?_,?_⟩,by rw [List.length_set];exact hl,hcap,h.max,by rw [List.length_set];exact hsz⟩
 ·rcases List.mem_or_eq_of_mem_set hp with hp | hp
  ·exact h2 p hp
  subst hp;exact hr
 have hcl:cs.length=L.size:=by rw [<- hc,List.length_take,List.length_drop];omega
 rw [<- Yej (z:=L.size) (d:=(d',cs.set o v)) (by simpa using hcl) (fun p hp=>L.len (h2 p hp)) Zi,<- h3];refine List.ext_getElem? fun i=>?_
 rw [List.getElem?_take];simp only [<- hc];by_cases hi:i<n*L.size
 ·rw [if_pos hi];by_cases h5:i<j*L.size
  ·rw [List.append_assoc,List.getElem?_append_left (by rw [List.length_take,List.length_take];omega),List.getElem?_take_of_lt h5,List.getElem?_take_of_lt hi,List.getElem?_set_ne Zi]
  have e1:((cur.take (n*L.size)).take (j*L.size)).length=j*L.size:=by rw [List.length_take,List.length_take];omega
  have e2:(((cur.drop (j*L.size)).take L.size).set o v).length=L.size:=by rw [List.length_set,List.length_take,List.length_drop];omega
  rw [List.append_assoc,List.getElem?_append_right Zi,e1];by_cases h6:i<j*L.size+L.size
  ·rw [List.getElem?_append_left Zi];by_cases h7:i=j*L.size+o
   ·subst h7;rw [List.getElem?_set_self Zi,Nat.add_sub_cancel_left,List.getElem?_set_self (by rw [List.length_set] at e2;omega)]
   rw [List.getElem?_set_ne Zi,List.getElem?_set_ne Zi,List.getElem?_take_of_lt Zi,List.getElem?_drop]
   congr 1;omega
  rw [List.getElem?_append_right Zi,e2,List.getElem?_drop,List.getElem?_take_of_lt Zi,List.getElem?_set_ne Zi]
  congr 1;omega
 rw [if_neg hi];have:i>=(List.take (j*L.size) (cur.take (n*L.size))++((cur.drop (j*L.size)).take L.size).set o v++(cur.take (n*L.size)).drop (j*L.size+L.size)).length:=by
  simp only [List.length_append,List.length_take,List.length_drop,List.length_set];omega
 rw [List.getElem?_eq_none Zi]
theorem schm1_q {x:Change} {g1:Nat} {t1:TypeId} (hK:KnR fz v K) (hc:changeL.rep fz x cs) (hS:ShN x.when_) (h1:fz g1=some (.cells #[v] t1 (0,0))):
 QFn prog 100 [.agg cs.toArray,Zp g1] fz (Zo (decide (64<termsM K x.when_))):=by
 obtain ⟨u1,u2,u3,u4,u5,u6,u7,u8,rfl,hR⟩:=Y6 hc;obtain ⟨A1,n1,c1',rfl,_⟩:=id hR.params;obtain ⟨⟨A2,n2,c2',rfl,_⟩,⟨A3,n3,c3',rfl,_⟩,⟨A4,n4,c4',rfl,_⟩,⟨A5,n5,c5',rfl,_⟩⟩:=id hR.when_.sls;obtain ⟨A6,n6,c6',rfl,_⟩:=id hR.args;obtain ⟨⟨A7,n7,c7',rfl,_⟩,⟨A8,n8,c8',rfl,_⟩⟩:=id hR.value.sls;have hK0:=hK;obtain ⟨⟨gk,a0,a1,a2,a3,a4,a5,a6,a7,a8,a9,a10,a11,a12,a13,a14,a15,a16,a17,vf,Ao,no,co,gc,gi,mc,mi,rfl,hg,hF,hO,h5,h6,h7,h8⟩,hw,_⟩:=hK;refine qF Tryz.func100 Tryz.ntmps100 (fun w0=>?_);refine pX (fun g2=>?_);refine wG ?_;refine Ye (vs:=[Zy x.when_.op,Zy x.when_.name,Zc A2 n2 c2',Zc A3 n3 c3',Zc A4 n4 c4',Zc A5 n5 c5']) 0 ?_;refine zc (You hK0 hR.when_ hS) ?_;refine zC ?_ ?_<;>intro c1
 ·exact wR (h:=by rw [decide_eq_true Zi])
 exact wR (h:=by rw [decide_eq_false Zi])
theorem Yee {l:List Lx.Param} {cap:List Value} {p:Lx.Param->Prop} [DecidablePred p] (h1:Sl paramL fz A n c l) (hq:∀ x∈l,∀ cs,paramL.rep fz x cs->QFn prog ff (.agg cs.toArray::cap) fz (Zo (decide (p x)))):
 QFn prog 150 [Zc A n c,.func (.func ff) #[] cap.toArray] fz (Zk (WU p l 0)):=by
 refine qF Tryz.func150 Tryz.ntmps150 (fun w0=>?_);have l1:=h1.len;have hm:=h1.short;refine zW ?_;refine XW n (fun k=>[(8,Zk k),(7,Zk n),(0,Zc A n c),(1,.func (.func ff) #[] cap.toArray)]) [] (fun k=>(∀ i,i<k->∀ x,l[i]?=some x->¬p x)) (fun i hi=>absurd hi Zi) ?_;intro k hk hh;refine wC (fun hlt=>?_) (fun hge=>?_)
 ·refine zW ?_;obtain ⟨x,hx⟩:=Yc (l:=l) (k:=k) Zi;refine zI h1 hx (fun a ha=>?_);refine zL ha ?_;intro cs hcs;refine wG ?_;refine XX Zz Zz Zz (hq x (Zm hx) cs hcs) (fun c1=>?_) (fun c1=>?_)
  ·exact wR (h:=by rw [Xg hh hx c1,Int.zero_add])
  exact wM (h:=by exact Yx hh hx c1)
 exact wR (h:=by rw [YR (YQ hh Zi)])
theorem Wt {l:List Lx.Param} {cap:List Value} {p:Lx.Param->Prop} [DecidablePred p] (h1:Sl paramL fz A n c l) (hq:∀ x∈l,∀ cs,paramL.rep fz x cs->QFn prog ff (.agg cs.toArray::cap) fz (Zo (decide (p x)))):
 QFn prog 72 [Zc A n c,.func (.func ff) #[] cap.toArray] fz (Zo (decide (∃ x∈l,p x))):=by
 refine qF Tryz.func72 Tryz.ntmps72 (fun w0=>?_);refine wc (Yee h1 hq) ?_;refine zC ?_ ?_<;>intro c1
 ·exact wR (h:=by exact Ym ((YN (Int.le_refl 0)).1 c1))
 exact wR (h:=by exact Yg (fun h=>c1 ((YN (Int.le_refl 0)).2 h)))
theorem Ykt {l:List Lx.Atom} {cap:List Value} {p:Lx.Atom->Prop} [DecidablePred p] (h1:Sl atomL fz A n c l) (hq:∀ x∈l,∀ cs,atomL.rep fz x cs->QFn prog ff (.agg cs.toArray::cap) fz (Zo (decide (p x)))):
 QFn prog 218 [Zc A n c,.func (.func ff) #[] cap.toArray] fz (Zk (WU p l 0)):=by
 refine qF Tryz.func218 Tryz.ntmps218 (fun w0=>?_);have l1:=h1.len;have hm:=h1.short;refine zW ?_;refine XW n (fun k=>[(8,Zk k),(7,Zk n),(0,Zc A n c),(1,.func (.func ff) #[] cap.toArray)]) [] (fun k=>(∀ i,i<k->∀ x,l[i]?=some x->¬p x)) (fun i hi=>absurd hi Zi) ?_;intro k hk hh;refine wC (fun hlt=>?_) (fun hge=>?_)
 ·refine zW ?_;obtain ⟨x,hx⟩:=Yc (l:=l) (k:=k) Zi;refine zI h1 hx (fun a ha=>?_);refine zL ha ?_;intro cs hcs;refine wG ?_;refine XX Zz Zz Zz (hq x (Zm hx) cs hcs) (fun c1=>?_) (fun c1=>?_)
  ·exact wR (h:=by rw [Xg hh hx c1,Int.zero_add])
  exact wM (h:=by exact Yx hh hx c1)
 exact wR (h:=by rw [YR (YQ hh Zi)])
theorem Yg3 {l:List Lx.Atom} {cap:List Value} {p:Lx.Atom->Prop} [DecidablePred p] (h1:Sl atomL fz A n c l) (hq:∀ x∈l,∀ cs,atomL.rep fz x cs->QFn prog ff (.agg cs.toArray::cap) fz (Zo (decide (p x)))):
 QFn prog 120 [Zc A n c,.func (.func ff) #[] cap.toArray] fz (Zo (decide (∃ x∈l,p x))):=by
 refine qF Tryz.func120 Tryz.ntmps120 (fun w0=>?_);refine wc (Ykt h1 hq) ?_;refine zC ?_ ?_<;>intro c1
 ·exact wR (h:=by exact Ym ((YN (Int.le_refl 0)).1 c1))
 exact wR (h:=by exact Yg (fun h=>c1 ((YN (Int.le_refl 0)).2 h)))
theorem YiV {l:List Lx.Value_} {cap:List Value} {p:Lx.Value_->Prop} [DecidablePred p] (h1:Sl valueL fz A n c l) (hq:∀ x∈l,∀ cs,valueL.rep fz x cs->QFn prog ff (.agg cs.toArray::cap) fz (Zo (decide (p x)))):
 QFn prog 207 [Zc A n c,.func (.func ff) #[] cap.toArray] fz (Zk (WU p l 0)):=by
 refine qF Tryz.func207 Tryz.ntmps207 (fun w0=>?_);have l1:=h1.len;have hm:=h1.short;refine zW ?_;refine XW n (fun k=>[(8,Zk k),(7,Zk n),(0,Zc A n c),(1,.func (.func ff) #[] cap.toArray)]) [] (fun k=>(∀ i,i<k->∀ x,l[i]?=some x->¬p x)) (fun i hi=>absurd hi Zi) ?_;intro k hk hh;refine wC (fun hlt=>?_) (fun hge=>?_)
 ·refine zW ?_;obtain ⟨x,hx⟩:=Yc (l:=l) (k:=k) Zi;refine zI h1 hx (fun a ha=>?_);refine zL ha ?_;intro cs hcs;refine wG ?_;refine XX Zz Zz Zz (hq x (Zm hx) cs hcs) (fun c1=>?_) (fun c1=>?_)
  ·exact wR (h:=by rw [Xg hh hx c1,Int.zero_add])
  exact wM (h:=by exact Yx hh hx c1)
 exact wR (h:=by rw [YR (YQ hh Zi)])
theorem YcI {l:List Lx.Value_} {cap:List Value} {p:Lx.Value_->Prop} [DecidablePred p] (h1:Sl valueL fz A n c l) (hq:∀ x∈l,∀ cs,valueL.rep fz x cs->QFn prog ff (.agg cs.toArray::cap) fz (Zo (decide (p x)))):
 QFn prog 109 [Zc A n c,.func (.func ff) #[] cap.toArray] fz (Zo (decide (∃ x∈l,p x))):=by
 refine qF Tryz.func109 Tryz.ntmps109 (fun w0=>?_);refine wc (YiV h1 hq) ?_;refine zC ?_ ?_<;>intro c1
 ·exact wR (h:=by exact Ym ((YN (Int.le_refl 0)).1 c1))
 exact wR (h:=by exact Yg (fun h=>c1 ((YN (Int.le_refl 0)).2 h)))
theorem YgA:∀ {l:List Param} {t:Bs},(parN l).Nodup->YbY l t=tyF l t
 | [],_,_=>rfl
 | p::r,t,h=>by
  have h2:p.name ∉ parN r/\(parN r).Nodup:=List.nodup_cons.1 h;rw [YbY,tyF];by_cases e:t=p.name
  ·rw [if_pos e,Yb6 (fun q hq he=>h2.1 (List.mem_map.2 ⟨q,hq,he.trans e⟩))];exact if_pos e.symm
  rw [if_neg e,YgA h2.2];cases tyF r t with
  | some u=>rfl
  | none=>exact if_neg (fun h=>e h.symm)
theorem Ypq {d:Domain} {os:List Param} {t:Bs} (h:KfR fz v d os) (h1:Sl paramL fz A n c vars) (ht:Short t):
 QFn prog 138 [v,Zc A n c,Zy t] fz (Yhs (WK os vars t)):=by
 obtain ⟨⟨g,a0,a1,a2,a5,a6,a7,a8,a9,a10,a11,a12,a13,a14,a15,a16,a17,vf,b0,b1,A3,n3,c3,A4,n4,c4,B,m,e,rfl,hg,i3,i4,hF,hO⟩,hw,hu⟩:=h;refine qF Tryz.func138 Tryz.ntmps138 (fun w0=>?_);refine Yy ?_;refine zVX ?_;intros;refine Yy ?_;refine zVX ?_;intros;refine Yy (YV (fun σ fz' H'=>∃ (C:Option Addr) (k0 ck:Nat) (l:List Param),σ=[(8,Zc C k0 ck),(2,Zy t)]/\fz=fz'/\H'=[]/\Sl paramL fz C k0 ck l/\YbY l t=WK os vars t) ?_ ?_)
 ·refine zV ?_;intros
  ((refine zG ?_);refine Xu (Yfe (p:=kQm) ht (by unfold Short kQm;decide)) (fun f1=>?_) (fun f1=>?_))
  ·refine zV ?_;intros;exact wN (h:=by exact ⟨A,n,c,vars,rfl,rfl,rfl,h1,by rw [WK,if_pos (Zt f1)]⟩)
  refine zV ?_;intros;exact wN (h:=by exact ⟨B,m,e,os,rfl,rfl,rfl,hO,by rw [WK,if_neg (Zf f1)];exact YgA hu⟩)
 rintro σ fz' H' ⟨C,k0,ck,l,rfl,rfl,rfl,hl,e1⟩;have l1:=hl.len;have s1:=hl.short;refine zV ?_;intros;refine Yi (fun q σ fz' H'=>∃ (k:Nat) (z:Int),k<=k0/\q=k0 - k/\z=(k0:Int) - 1 - k/\σ=[(9,Zk z),(8,Zc C k0 ck),(2,Zy t)]/\fz=fz'/\H'=[]/\(∀ i,k0 - 1 - k<i->i<k0->∀ x,l[i]?=some x->x.name≠t)/\(k=k0->∀ x∈l,x.name≠t)) ⟨0,(k0:Int) - 1,Z0 _,rfl,by omega,rfl,rfl,rfl,fun i hi h2=>absurd hi Zi,fun h0 x hx=>by rw [List.eq_nil_of_length_eq_zero (l:=l) Zi] at hx;cases hx⟩ Zw Zb ?_;rintro q σ fz' H' ⟨k,z,hk,rfl,hzk,rfl,rfl,rfl,hh,hz⟩;refine zV ?_;intros;refine zC ?_ ?_<;>intro c1
 ·obtain ⟨x,hx⟩:=Yc (l:=l) (k:=k0 - 1 - k) Zi;refine zV ?_;intros;refine zI hl hx (fun p1 hp1=>?_);refine zV ?_;intros;refine zH hp1.Param_name (fun hn1=>?_);refine zV ?_;intros;refine zC ?_ ?_<;>intro c2
  ·have e2:YbY l t=some x.typ:=YiP hx c2 (fun i hi y hy=>hh i hi (by have:=(Zg hy).1;omega) y hy);refine zV ?_;intros;refine zI hl hx (fun p2 hp2=>?_);refine zV ?_;intros;refine zH hp2.Param_typ (fun hn2=>?_);refine zV ?_;intros;exact wS (h:=by exact (by rw [<- e1,e2];rfl))
  refine zV ?_;intros;exact Wr ⟨k+1,z - 1,by omega,rfl,by omega,rfl,rfl,rfl,fun i hi h2 y hy=>by
   by_cases he:i=k0 - 1 - k
   ·subst he;rw [hx] at hy;injection hy with hy;subst hy;exact c2
   ·exact hh i Zi h2 y hy,fun h0 y hy=>by
   obtain ⟨i,hi⟩:=List.getElem?_of_mem hy;have hin:=(Zg hi).1;by_cases he:i=k0 - 1 - k
   ·subst he;rw [hx] at hi;injection hi with hi;subst hi;exact c2
   exact hh i Zi Zi y hi⟩ Zi Zw Zb
 refine zV ?_;intros;exact wS (h:=by exact (by rw [<- e1,Yb6 (hz Zi)];rfl))
theorem Ypv {d:Domain} {os ps:List Param} {args:List Bs} {C:Option Addr} {n2 c2 n3 c3:Nat} (h:KfR fz v d os) (h1:Sl paramL fz A n c vars) (h2:Sl strL fz B n2 c2 args) (h3:Sl paramL fz C n3 c3 ps):
 QFn prog 137 [v,Zc A n c,Zc B n2 c2,Zc C n3 c3] fz (errV (YdS d os vars args ps)):=by
 have h0:=h;obtain ⟨⟨g,a0,a1,a2,a5,a6,a7,a8,a9,a10,a11,a12,a13,a14,a15,a16,a17,vf,b0,b1,A3,x3,y3,A4,x4,y4,Ao,mo,eo,rfl,hg,i3,i4,hF,hO⟩,hw,hu⟩:=h;have hF0:=hF;obtain ⟨gf,gm,rfl,hf1,hf2⟩:=hF;have l2:=h2.len;have l3:=h3.len;have s2:=h2.short;have s3:=h3.short;refine qF Tryz.func137 Tryz.ntmps137 (fun w0=>?_);refine zV ?_;intros;refine zC ?_ ?_<;>intro e0
 ·refine zV ?_;intros;exact zR (h:=by rw [YdS,if_pos Zi];rfl)
 have e1:YdS d os vars args ps=(YX (Xt d os vars) ((args.zip ps).map (fun z=>((⟨#[]⟩:Bs),z))++ [])).2:=if_neg Zi;refine zV ?_;intros;refine XW n2 (fun k=>[(21,Zk k),(20,Zk n2),(19,Zc B n2 c2),(0,Zp g),(1,Zc A n c),(3,Zc C n3 c3)]) [] (fun k=>(∀ i,i<k->∀ z,(args.zip ps)[i]?=some z->Xt d os vars z=0)) (fun i hi=>absurd hi Zi) ?_;intro k hk hh;refine zV ?_;intros;refine zC ?_ ?_<;>intro c1
 ·obtain ⟨x,hx⟩:=Yc (l:=args) (k:=k) Zi;obtain ⟨y,hy⟩:=Yc (l:=ps) (k:=k) Zi;have hz:(args.zip ps)[k]?=some (x,y):=by rw [List.getElem?_zip_eq_some];exact ⟨hx,hy⟩
  refine zV ?_;intros;refine zI h2 hx (fun p1 hp1=>?_);refine zH hp1 (fun hxs=>?_);refine zV ?_;intros;refine zc (Ypq h0 h1 hxs) ?_;cases hr:WK os vars x with
  | none=>
   have e2:Xt d os vars (x,y)=8:=by rw [Xt,hr]
   rw [show Yhs none=.tuple #[Ze,.iface 86 (Zk 8)] from rfl];refine zV ?_;intros;exact zR (h:=by rw [e1,XC (f:=fun _=>(⟨#[]⟩:Bs)) (g:=fun z=>z) hz hh (by rw [e2];decide),e2];rfl)
  | some t=>
   have ht:Short t:=by
    rw [WK] at hr;split at hr
    ·obtain ⟨q,hq,rfl⟩:=YgB hr;exact (XY h1 q hq).2
    obtain ⟨q,hq,rfl⟩:=Yf3 hr;exact (XY hO q hq).2
   rw [show Yhs (some t)=.tuple #[Zy t,.nilIface] from rfl];refine zV ?_;intros;refine zI h3 hy (fun p2 hp2=>?_);refine zV ?_;intros;refine zH hp2.Param_typ (fun hts=>?_);refine zV ?_;intros;refine zb (is_q hF0 hw ht) (fun f1=>?_) (fun f1=>?_)
   ·have e2:Xt d os vars (x,y)=0:=by rw [Xt,hr];exact if_pos (Zt f1)
    refine zV ?_;intros;exact wM (h:=by exact Yx hh hz e2)
   have e2:Xt d os vars (x,y)=9:=by rw [Xt,hr];exact if_neg (Zf f1)
   refine zV ?_;intros;exact zR (h:=by rw [e1,XC (f:=fun _=>(⟨#[]⟩:Bs)) (g:=fun z=>z) hz hh (by rw [e2];decide),e2];rfl)
 have hA:∀ z∈args.zip ps,Xt d os vars z=0:=fun z hz=>by
  obtain ⟨i,hi⟩:=List.getElem?_of_mem hz;have:=(Zg hi).1;rw [List.length_zip] at this;exact hh i Zi z hi
 refine zV ?_;intros;exact zR (h:=by rw [e1,YO (f:=fun _=>(⟨#[]⟩:Bs)) (g:=fun z=>z) hA];rfl)
theorem atom_eta {b:Atom} (h1:a.name=b.name) (h2:a.args=b.args):a=b:=by
 cases a;cases b;simp only at h1 h2;rw [h1,h2]
theorem Ybi {b:Atom} (ha:AtomR fz a va) (hb:AtomR fz b vb):
 QFn prog 111 [.agg #[Zy a.name,va],.agg #[Zy b.name,vb]] fz (Zo (decide (a=b))):=by
 obtain ⟨A,n,c,rfl,ia⟩:=ha.args;obtain ⟨B,m,d,rfl,ib⟩:=hb.args;refine qF Tryz.func111 Tryz.ntmps111 (fun w0=>?_);refine pX (fun g0=>?_);refine pY (fun g1=>?_);refine wC ?_ ?_<;>intro e1
 ·refine wb (Yi9 ia ib) (fun f1=>?_) (fun f1=>?_)
  ·exact wR (h:=by exact Ym (atom_eta e1 (Zt f1)))
  exact wR (h:=by exact Yg (fun h=>Zf f1 (by rw [h])))
 exact wR (h:=by exact Yg (fun h=>e1 (by rw [h])))
def optV (o:Option Int):Value:=.tuple #[Zk (o.getD 0),Zo o.isSome]
def smallM (o:Option Int):Option Int:=match o with
 | none=>none
 | some n=>if n>1099511627776\/n< -1099511627776 then none else some n
theorem YcN {o:Option Int} {n:Int} (h:smallM o=some n): -1099511627776<=n/\n<=1099511627776:=by
 unfold smallM at h;split at h
 ·cases h
 split at h
 ·cases h
 injection h with h;omega
theorem YdF {o:Option Int} {n:Int} (h1:o.getD 0=n) (h2:o.isSome=b):QFn prog 216 [Zk n,Zo b] fz (optV (smallM o)):=by
 refine GFn.quiet ?_;cases o with
 | none=>
  subst h1 h2;refine zF Tryz.func216 Tryz.ntmps216 (fun w0=>?_);exact wS (h:=rfl)
 | some k=>
  have h1:k=n:=h1;have h2:true=b:=h2;subst h1 h2;refine zF Tryz.func216 Tryz.ntmps216 (fun w0=>?_);refine wC ?_ ?_<;>intro c1
  ·exact wS (h:=by exact (by rw [smallM,if_pos (.inl c1)];rfl))
  refine wC ?_ ?_<;>intro c2
  ·exact wS (h:=by exact (by rw [smallM,if_pos (.inr c2)];rfl))
  exact wS (h:=by exact (by rw [smallM,if_neg Zi];rfl))
structure Wd where
 atoms:List Atom
 values:List Value_
def WdR (fz:FZ) (W:Wd) (v:Value):Prop:=∃ A n c B m d,v=.agg #[Zc A n c,Zc B m d]/\Sl atomL fz A n c W.atoms/\Sl valueL fz B m d W.values
variable {W:Wd}
theorem WdR.mono (h:WdR fz W v) (hle:Le fz fz'):WdR fz' W v:=by
 obtain ⟨A,n,c,B,m,d,e,h1,h2⟩:=h;exact ⟨A,n,c,B,m,d,e,h1.mono hle,h2.mono hle⟩
def fluW (vs:List Value_) (a:Atom):Option Int:=match vs.find? (fun v=>decide (v.fluent=a)) with
 | some v=>smallM (some v.n)
 | none=>none
theorem Yi5 {α:Type} {p:α->Bool} {x:α}:∀ {l:List α} {k:Nat},(∀ i,i<k->∀ y,l[i]?=some y->p y=false)->l[k]?=some x->p x=true->l.find? p=some x
 | [],_,_,h,_=>by simp at h
 | y::r,0,_,h,hx=>by simp at h;subst h;simp [hx]
 | y::r,k+1,hh,h,hx=>by
  rw [List.find?_cons,hh 0 Zi y rfl];exact Yi5 (k:=k) (fun i hi z hz=>hh (i+1) Zi z (by simpa using hz)) (by simpa using h) hx
theorem YlD {p:α->Bool} {l:List α} (h:∀ i,i<l.length->∀ y,l[i]?=some y->p y=false):l.find? p=none:=by
 rw [List.find?_eq_none];intro x hx;obtain ⟨i,hi⟩:=List.getElem?_of_mem hx;rw [h i (Zg hi).1 x hi];simp
theorem YjA (hW:WdR fz W v) (ha:AtomR fz a va):
 QFn prog 215 [v,.agg #[Zy a.name,va]] fz (optV (fluW W.values a)):=by
 obtain ⟨A,n,c,B,m,d,rfl,hA,hV⟩:=hW;have ha0:=ha;obtain ⟨Aa,na,ca,rfl,ia⟩:=ha.args;have lv:=hV.len;have sv:=hV.short;refine qF Tryz.func215 Tryz.ntmps215 (fun w0=>?_);refine pX (fun g2=>?_);refine pY (fun g3=>?_);refine zW ?_;refine XW m (fun k=>[(11,Zk k),(10,Zk m),(9,Zc B m d),(3,Zp g3)]) [(g3,Zu #[Zy a.name,Zc Aa na ca] 67)] (fun k=>(∀ i,i<k->∀ y,W.values[i]?=some y->decide (y.fluent=a)=false)) (fun i hi=>absurd hi Zi) ?_;intro k hk hh;refine wC ?_ ?_<;>intro c1
 ·obtain ⟨x,hx⟩:=Yc (l:=W.values) (k:=k) Zi;refine wI hV hx (fun p1 hp1=>?_);refine zL hp1 ?_;intro cs hcs;obtain ⟨w1,rfl,hRx⟩:=XE hcs;obtain ⟨Ax,nx,cx,rfl,ix⟩:=hRx.fluent.args;refine zW ?_;intros;rename_i g7
  ((refine zG ?_);refine Ye (vs:=[Zy x.fluent.name,Zc Ax nx cx]) 0 ?_);refine wb (Ybi hRx.fluent ha0) (fun f1=>?_) (fun f1=>?_)
  ·have hf:=Yi5 (p:=fun v=>decide (v.fluent=a)) hh hx f1;refine wc (YdF (o:=some x.n) rfl rfl) ?_;unfold optV;exact wS (h:=by unfold fluW;rw [hf];rfl)
  exact wM (h:=by exact Yx (p:=fun y:Value_=>decide (y.fluent=a)=false) hh hx f1)
 have hf:=YlD (p:=fun v:Value_=>decide (v.fluent=a)) (fun i hi y hy=>hh i Zi y hy);exact wS (h:=by unfold fluW;rw [hf];rfl)
theorem q_quoI {P:Program} {cx:Cx} {r:Operand->Option Value} {V:Value->Prop} {dst:Option Nat} {ty:TypeId} {pos:String} {af:Array Edge} {gd:Option (Nat × Bool)} {k:IntKind} {a b c:Int}
 (hx:r x=some (.int k a)) (hy:r y=some (.int k b)) (hb:b≠0) (hw:k.wrap (a.tdiv b)=c) (h:V (.int k c)):DoesQ P cx ⟨dst,.binOp .quo t x y t',ty,pos,af,gd⟩ r fz H V:=
 YC (fun ρ w hr=>by simp [execOp,hr _ _ hx,hr _ _ hy,eqGuard,binOp,Op.intDiv,hb,hw]) h
def Yag:Int:=1099511627776
def Yj2 (a b:Int):Option Int:=if a≠0/\(b>Yag.tdiv (max a (-a))\/b<(-Yag).tdiv (max a (-a))) then none else some (a*b)
theorem YoM {m:Int} (hm:0<m):0<=Yag.tdiv m/\Yag.tdiv m<=Yag/\Yag.tdiv m*m<=Yag/\(-Yag).tdiv m= -(Yag.tdiv m):=by
 have h0:(0:Int)<=Yag:=by decide
 rw [Int.neg_tdiv,Int.tdiv_eq_ediv_of_nonneg h0];have h1:=Int.ediv_nonneg h0 (Int.le_of_lt hm);have h2:=Int.ediv_mul_le Yag (Int.ne_of_gt hm);exact ⟨h1,Int.ediv_le_self m h0,h2,rfl⟩
theorem prod_in {a b:Int} (h:¬(a≠0/\(b>Yag.tdiv (max a (-a))\/b<(-Yag).tdiv (max a (-a))))): -Yag<=a*b/\a*b<=Yag:=by
 by_cases ha:a=0
 ·subst ha;rw [Int.zero_mul];decide
 have hm:0<max a (-a):=by omega
 obtain ⟨h1,_,h3,h4⟩:=YoM hm;rw [h4] at h;generalize Yag.tdiv (max a (-a))=q at*;have hb: -q<=b/\b<=q:=⟨by omega,by omega⟩;rcases Int.lt_or_gt_of_ne ha with hn | hp
 ·rw [show max a (-a)= -a by omega] at h3;have x1:=Int.mul_le_mul_of_nonneg_right hb.1 (show 0<= -a by omega);have x2:=Int.mul_le_mul_of_nonneg_right hb.2 (show 0<= -a by omega);have e1:b* -a= -(a*b):=by rw [Int.mul_neg,Int.mul_comm]
  have e2: -q* -a=q*a:=by rw [Int.neg_mul_neg]
  have e3:q* -a= -(q*a):=by rw [Int.mul_neg]
  omega
 rw [show max a (-a)=a by omega] at h3;have x1:=Int.mul_le_mul_of_nonneg_right hb.1 (show 0<=a by omega);have x2:=Int.mul_le_mul_of_nonneg_right hb.2 (show 0<=a by omega);have e1:b*a=a*b:=Int.mul_comm b a;have e2: -q*a= -(q*a):=by rw [Int.neg_mul]
 omega
theorem YoU {a b:Int} (ha: -Yag<=a/\a<=Yag) (hb: -Yag<=b/\b<=Yag):
 QFn prog 241 [Zk a,Zk b] fz (optV (Yj2 a b)):=by
 have hN:Yag=1099511627776:=rfl;refine qF Tryz.func241 Tryz.ntmps241 (fun w0=>?_);refine wC ?_ ?_<;>intro c1
 ·obtain ⟨h1,h2,h3,h4⟩:=YoM (m:=max a (-a)) Zi;generalize hq:Yag.tdiv (max a (-a))=q at*;have hq2:(1099511627776:Int).tdiv (max a (-a))=q:=hq;have hq3:(-1099511627776:Int).tdiv (max a (-a))= -q:=h4;refine wG ?_;refine q_neg Zz (c:= -a) (by rw [Int.zero_sub];exact Xb Zi) ?_;refine wG ?_;refine q_quoI Zz Zz Zi (c:=q) (by rw [hq2];exact Xb Zi) ?_;refine wC ?_ ?_<;>intro c2
  ·exact wS (h:=by exact (by rw [Yj2,if_pos ⟨c1,.inl (by rw [hq];exact c2)⟩];rfl))
  refine wG ?_;refine q_neg Zz (c:= -a) (by rw [Int.zero_sub];exact Xb Zi) ?_;refine wG ?_;refine q_quoI Zz Zz Zi (c:= -q) (by rw [hq3];exact Xb Zi) ?_;refine wC ?_ ?_<;>intro c3
  ·exact wS (h:=by exact (by rw [Yj2,if_pos ⟨c1,.inr (by rw [h4];exact c3)⟩];rfl))
  have hno:¬(a≠0/\(b>Yag.tdiv (max a (-a))\/b<(-Yag).tdiv (max a (-a)))):=by rw [hq,h4];exact fun h=>h.2.elim c2 c3
  have:=prod_in hno;refine wG ?_;refine YjY Zz Zz (c:=a*b) (Xb Zi) ?_;exact wS (h:=by exact (by rw [Yj2,if_neg hno];rfl))
 subst c1;refine wG ?_;refine YjY Zz Zz (c:=0) (by rw [Int.zero_mul];rfl) ?_;exact wS (h:=by exact (by rw [Yj2,if_neg (fun h=>h.1 rfl),Int.zero_mul];rfl))
def opV (op:Bs) (x y:Option Int):Option Int:=match x,y with
 | some a,some b=>if op=Ypy then smallM (some (a+b)) else if op=Yb7 then smallM (some (a - b)) else smallM (Yj2 a b)
 | _,_=>none
mutual
def valW (W:Wd):Lx.Expr->Option Int
 | .mk op name n args kids=>if op=kNumber then smallM (some n) else if op=kFluent then fluW W.values ⟨name,args⟩ else opV op (((valL W kids)[0]?).getD none) (((valL W kids)[1]?).getD none)
def valL (W:Wd):List Lx.Expr->List (Option Int)
 | []=>[]
 | e::r=>valW W e::valL W r
end
theorem Yod {W:Wd}:∀ l:List Lx.Expr,valL W l=l.map (valW W)
 | []=>rfl
 | e::r=>by rw [valL,Yod r,List.map_cons]
theorem Yoa (e:Lx.Expr):valW W e=if e.op=kNumber then smallM (some e.n) else if e.op=kFluent then fluW W.values ⟨e.name,e.args⟩ else opV e.op (((e.kids[0]?).map (valW W)).getD none) (((e.kids[1]?).map (valW W)).getD none):=by
 cases e;rw [valW,Yod,List.getElem?_map,List.getElem?_map];rfl
theorem Yk6 {W:Wd} {e:Lx.Expr} {n:Int} (h:valW W e=some n): -Yag<=n/\n<=Yag:=by
 rw [Yoa] at h;split at h
 ·exact YcN h
 split at h
 ·unfold fluW at h;split at h
  ·exact YcN h
  cases h
 unfold opV at h;split at h
 ·split at h
  ·exact YcN h
  split at h<;>exact YcN h
 cases h
inductive VSh:Lx.Expr->Prop
 | mk {e:Lx.Expr} (h:e.op=kNumber\/e.op=kFluent\/2<=e.kids.length) (hk:∀ k∈e.kids,VSh k):VSh e
theorem VSh.two {e:Lx.Expr} (h:VSh e):e.op=kNumber\/e.op=kFluent\/2<=e.kids.length:=by cases h with | mk h _=>exact h
theorem VSh.kid {e k:Lx.Expr} (h:VSh e) (hk:k∈e.kids):VSh k:=by cases h with | mk _ h=>exact h k hk
theorem Yn5:∀ (s:Nat) {e:Lx.Expr},SizeOf.sizeOf e<=s->EOk e->VSh e
 | 0,e,hs,_=>by cases e;simp at hs
 | s+1,e,hs,h=>by
  obtain ⟨h1,h2⟩:=YbT.1 h;refine .mk ?_ (fun k hk=>Yn5 s (by have:=Lx.Expr.kids_lt hk;omega) (h2 k hk));unfold YfC at h1;rcases h1 with h1 | h1 | h1
  ·exact .inl h1.1
  ·exact .inr (.inl h1.1)
  exact .inr (.inr (by rw [h1.2.2.2.2];omega))
theorem YdV:∀ (s:Nat) {fz:FZ} {W:Wd} {v va vk:Value} {e:Lx.Expr},SizeOf.sizeOf e<=s->WdR fz W v->ExprR fz e va vk->VSh e->
 QFn prog 155 [v,.agg #[Zy e.op,Zy e.name,Zk e.n,va,vk]] fz (optV (valW W e))
 | 0,_,_,_,_,_,e,hs,_,_,_=>by cases e;simp at hs
 | s+1,fz,W,v,va,vk,e,hs,hW,hR,hS=>by
  have hR0:=hR;have hW0:=hW;have hN:Yag=1099511627776:=rfl;obtain ⟨⟨A,n,c,rfl,ia⟩,⟨B,m,d,rfl,ik⟩⟩:=hR.sls;obtain ⟨A1,n1,b1,A2,n2,b2,rfl,_,_⟩:=hW;have lk:=ik.len;have hM:=Yoa (W:=W) e;refine qF Tryz.func155 Tryz.ntmps155 (fun w0=>?_);refine pX (fun g2=>?_);refine pY (fun g3=>?_);refine wC ?_ ?_<;>intro c1
  ·rw [if_pos (show e.op=kNumber from c1)] at hM;refine wc (YdF (o:=some e.n) rfl rfl) ?_;unfold optV;exact wS (h:=by rw [hM];rfl)
  rw [if_neg (show ¬e.op=kNumber from c1)] at hM;refine wC ?_ ?_<;>intro c2
  ·rw [if_pos (show e.op=kFluent from c2)] at hM;refine wG ?_;refine Yu (YjA (a:=⟨e.name,e.args⟩) hW0 ⟨hR0.name,⟨_,_,_,rfl,ia⟩⟩) ?_;unfold optV;exact wS (h:=by rw [hM];rfl)
  rw [if_neg (show ¬e.op=kFluent from c2)] at hM;have h2:2<=e.kids.length:=by
   rcases hS.two with h | h | h
   ·exact absurd h c1
   ·exact absurd h c2
   exact h
  obtain ⟨x,hx⟩:=Yc (l:=e.kids) (k:=0) Zi;obtain ⟨y,hy⟩:=Yc (l:=e.kids) (k:=1) Zi;have hxm:=Zm hx;have hym:=Zm hy;rw [hx,hy] at hM;have hM:valW W e=opV e.op (valW W x) (valW W y):=hM;refine wI ik hx (fun p1 hp1=>?_);refine zL hp1 ?_;intro cs hcs;obtain ⟨w1,w2,rfl,hRx⟩:=Yw hcs;obtain ⟨⟨A3,n3,b3,rfl,_⟩,⟨A4,n4,b4,rfl,_⟩⟩:=id hRx.sls;refine wG ?_;refine Yu (YdV s (by have:=Lx.Expr.kids_lt hxm;omega) hW0 hRx (hS.kid hxm)) ?_;unfold optV;refine wI ik hy (fun p2 hp2=>?_);refine zL hp2 ?_;intro cs2 hcs2;obtain ⟨w3,w4,rfl,hRy⟩:=Yw hcs2;obtain ⟨⟨A5,n5,b5,rfl,_⟩,⟨A6,n6,b6,rfl,_⟩⟩:=id hRy.sls;refine wG ?_;refine Yu (YdV s (by have:=Lx.Expr.kids_lt hym;omega) hW0 hRy (hS.kid hym)) ?_;unfold optV;have hax:=@Yk6 W x;have hay:=@Yk6 W y;generalize valW W x=ox at*;generalize valW W y=oy at*;refine zW ?_;cases ox with
  | none=>
   exact wS (h:=by rw [hM];rfl)
  | some a=>
   have ha:=hax rfl;cases oy with
   | none=>
    exact wS (h:=by rw [hM];rfl)
   | some b=>
    have hb:=hay rfl;have hM:valW W e=if e.op=Ypy then smallM (some (a+b)) else if e.op=Yb7 then smallM (some (a - b)) else smallM (Yj2 a b):=hM
    simp only [Option.getD_some,Option.isSome_some];refine wC ?_ ?_<;>intro c3
    ·rw [if_pos (show e.op=Ypy from c3)] at hM;refine wc (YdF (o:=some (a+b)) rfl rfl) ?_;unfold optV;exact wS (h:=by rw [hM];rfl)
    rw [if_neg (show ¬e.op=Ypy from c3)] at hM;refine wC ?_ ?_<;>intro c4
    ·rw [if_pos (show e.op=Yb7 from c4)] at hM;refine wc (YdF (o:=some (a - b)) rfl rfl) ?_;unfold optV;exact wS (h:=by rw [hM];rfl)
    rw [if_neg (show ¬e.op=Yb7 from c4)] at hM;refine wc (YoU ha hb) ?_;unfold optV;refine wc (YdF (o:=Yj2 a b) rfl rfl) ?_;unfold optV;exact wS (h:=by rw [hM];rfl)
def cmpW (W:Wd) (op:Bs) (es:List Lx.Expr):Bool:=match ((es[0]?).map (valW W)).getD none,((es[1]?).map (valW W)).getD none with
 | some a,some b=>if op=kLt then decide (a<b) else if op=kLe then decide (a<=b) else decide (a=b)
 | _,_=>false
theorem YnL {f:Formula} (hW:WdR fz W v) (hR:FormulaR fz f va vp ve vk) (h2:2<=f.exprs.length) (hS:∀ e∈f.exprs,VSh e):
 QFn prog 82 [v,.agg #[Zy f.op,Zy f.name,va,vp,ve,vk]] fz (Zo (cmpW W f.op f.exprs)):=by
 have hW0:=hW;obtain ⟨⟨B1,m1,d1,rfl,_⟩,⟨B2,m2,d2,rfl,_⟩,⟨B3,m3,d3,rfl,ie⟩,⟨B4,m4,d4,rfl,_⟩⟩:=hR.sls;obtain ⟨A1,n1,b1,A2,n2,b2,rfl,_,_⟩:=hW;have le:=ie.len;obtain ⟨x,hx⟩:=Yc (l:=f.exprs) (k:=0) Zi;obtain ⟨y,hy⟩:=Yc (l:=f.exprs) (k:=1) Zi;have hM:cmpW W f.op f.exprs=match valW W x,valW W y with
  | some a,some b=>if f.op=kLt then decide (a<b) else if f.op=kLe then decide (a<=b) else decide (a=b)
  | _,_=>false:=by unfold cmpW;rw [hx,hy];rfl
 rw [hM];refine qF Tryz.func82 Tryz.ntmps82 (fun w0=>?_);refine pX (fun g2=>?_);refine pY (fun g3=>?_);refine wI ie hx (fun p1 hp1=>?_);refine zL hp1 ?_;intro cs hcs;obtain ⟨w1,w2,rfl,hRx⟩:=Yw hcs;obtain ⟨⟨A3,n3,b3,rfl,_⟩,⟨A4,n4,b4,rfl,_⟩⟩:=id hRx.sls;refine wG ?_;refine Yu (YdV _ (Zs _) hW0 hRx (hS _ (Zm hx))) ?_;unfold optV;refine wI ie hy (fun p2 hp2=>?_);refine zL hp2 ?_;intro cs2 hcs2;obtain ⟨w3,w4,rfl,hRy⟩:=Yw hcs2;obtain ⟨⟨A5,n5,b5,rfl,_⟩,⟨A6,n6,b6,rfl,_⟩⟩:=id hRy.sls;refine wG ?_;refine Yu (YdV _ (Zs _) hW0 hRy (hS _ (Zm hy))) ?_;unfold optV;generalize valW W x=ox at*;generalize valW W y=oy at*;refine zW ?_;cases ox with
 | none=>
  exact wR (h:=rfl)
 | some a=>
  cases oy with
  | none=>
   exact wR (h:=rfl)
  | some b=>
   simp only [Option.getD_some,Option.isSome_some];refine wC ?_ ?_<;>intro c3
   ·rw [if_pos (show f.op=kLt from c3)];refine wC ?_ ?_<;>intro c5
    ·exact wR (h:=by exact Ym c5)
    exact wR (h:=by exact Yg c5)
   rw [if_neg (show ¬f.op=kLt from c3)];refine wC ?_ ?_<;>intro c4
   ·rw [if_pos (show f.op=kLe from c4)];refine wC ?_ ?_<;>intro c5
    ·exact wR (h:=by exact Ym c5)
    exact wR (h:=by exact Yg c5)
   rw [if_neg (show ¬f.op=kLe from c4)];refine wC ?_ ?_<;>intro c5
   ·exact wR (h:=by exact Ym c5)
   exact wR (h:=by exact Yg c5)
def valN:List Bs->List Bs->Bs->Bs
 | n::ns,a::bs,s=>if n=s then a else valN ns bs s
 | _,_,s=>s
theorem Yoc {s a:Bs}:∀ {ns bs:List Bs} {i:Nat} {x:Bs},(∀ j,j<i->∀ y,ns[j]?=some y->¬s=y)->ns[i]?=some x->s=x->bs[i]?=some a->valN ns bs s=a
 | [],_,i,_,_,h,_,_=>by simp at h
 | n::ns,[],i,_,_,_,_,h=>by simp at h
 | n::ns,b::bs,0,x,_,h,e,hb=>by
  simp at h hb;subst h hb;rw [valN,if_pos e.symm]
 | n::ns,b::bs,i+1,x,hh,h,e,hb=>by
  rw [valN,if_neg (fun e'=>hh 0 Zi n rfl e'.symm)];exact Yoc (i:=i) (fun j hj y hy=>hh (j+1) Zi y (by simpa using hy)) (by simpa using h) e (by simpa using hb)
theorem Yob {s:Bs}:∀ {ns bs:List Bs},(∀ y∈ns,¬s=y)->valN ns bs s=s
 | [],_,_=>by rw [valN];simp
 | n::ns,[],_=>by rw [valN];simp
 | n::ns,b::bs,h=>by rw [valN,if_neg (fun e=>h n (by simp) e.symm)];exact Yob (fun y hy=>h y (by simp [hy]))
theorem Ybc {α:Type} {p:α->Prop}:∀ l:List α,(∀ x∈l,¬p x)\/∃ (i:Nat) (x:α),(∀ j,j<i->∀ y,l[j]?=some y->¬p y)/\l[i]?=some x/\p x
 | []=>.inl (by simp)
 | x::r=>by
  by_cases h:p x
  ·exact .inr ⟨0,x,fun j hj=>absurd hj Zi,rfl,h⟩
  rcases Ybc (p:=p) r with h1 | ⟨i,y,h1,h2,h3⟩
  ·exact .inl (by intro y hy;rcases List.mem_cons.1 hy with rfl | hy;exact h;exact h1 y hy)
  refine .inr ⟨i+1,y,fun j hj z hz=>?_,by simpa using h2,h3⟩;cases j with
  | zero=>simp at hz;subst hz;exact h
  | succ j=>exact h1 j Zi z (by simpa using hz)
theorem set_map {f:α->α} {l:List α} {k:Nat} {x:α} (hx:l[k]?=some x):((l.take k).map f++l.drop k).set k (f x)=(l.take (k+1)).map f++l.drop (k+1):=by
 have hk:k<l.length:=(Zg hx).1;have h1:((l.take k).map f).length=k:=by rw [List.length_map,List.length_take];omega
 rw [List.set_append_right _ _ Zi,h1,Nat.sub_self,List.drop_eq_getElem_cons hk,List.set_cons_zero,List.take_add_one,hx];simp
theorem Yic {C:Option Addr} {m d q e:Nat} {l ns bs:List Bs} (h:Sl strL fz A n c l) (hn:n<=1000000000) (hN:Sl strL fz B m d ns) (hB:Sl strL fz C q e bs) (hl:ns.length<=bs.length):
 GFn prog 77 [Zc A n c,Zc B m d,Zc C q e] fz [] (fun v fz' H'=>H'=[]/\∃ A c,v=Zc A n c/\Sl strL fz' A n c (l.map (valN ns bs))):=by
 have ln:=h.len;have lN:=hN.len;have lB:=hB.len;have sB:=hB.short;refine zF Tryz.func77 Tryz.ntmps77 (fun w0=>?_);refine zW ?_;refine Ya (Yh [] [] Zz (YbN h hn) (fun v6 fz6 H6 hle6 hR6=>?_));obtain ⟨A6,c6,rfl,_,_⟩:=hR6.form;rw [List.append_nil];have hN6:=hN.mono hle6;have hB6:=hB.mono hle6;rcases Nat.eq_zero_or_pos n with h0 | hpos
 ·subst h0;have hl0:l=[]:=List.eq_nil_of_length_eq_zero Zi;subst hl0;refine zW ?_;refine Yi (fun q' σ fz' H'=>q'=0/\σ=[(15,Zk 0),(14,Zk 0),(13,Zc A6 0 c6),(7,Zc A6 0 c6)]/\fz6=fz'/\H'=H6) ⟨rfl,rfl,rfl,rfl⟩ Zw Zb ?_;rintro q' σ fz' H' ⟨rfl,rfl,rfl,rfl⟩;refine wC ?_ ?_<;>intro c1
  ·exact absurd c1 Zi
  refine zW ?_;refine Yb3 rfl rfl (fun fz3 hle3 hf3=>?_);obtain ⟨A',c',he,hsl⟩:=hR6.sl hle3 hf3 Zi;injection he with x1 x2 x3
  subst x1 x3;exact ⟨rfl,_,_,rfl,hsl⟩
 obtain ⟨g,cap,cur,e6,rfl,hb⟩:=hR6.b hpos;injection e6 with e61 e62 e63
 subst e61 e63;refine zW ?_;refine Yi (fun q' σ fz' H'=>∃ (k:Nat) (cur:List Value),k<=n/\q'=n - k/\σ=[(15,Zk k),(14,Zk n),(13,Zv g n c6),(7,Zv g n c6),(1,Zc B m d),(2,Zc C q e)]/\fz6=fz'/\H'=[(g,Zu cur.toArray 9)]/\GrowB strL 9 fz6 g n c6 cur ((l.take k).map (valN ns bs)++l.drop k)) ⟨0,cur,Z0 _,rfl,rfl,rfl,rfl,by simpa using hb⟩ Zw Zb ?_;rintro q' σ fz' H' ⟨k,cur1,hk,rfl,rfl,rfl,rfl,hb1⟩;refine wC ?_ ?_<;>intro c1
 ·obtain ⟨x,hx⟩:=Yc (l:=l) (k:=k) Zi;have hkx:((l.take k).map (valN ns bs)++l.drop k)[k]?=some x:=by
   rw [List.getElem?_append_right (by rw [List.length_map,List.length_take];omega),List.length_map,List.length_take,List.getElem?_drop,show k+(k - min k l.length)=k by omega];exact hx
  have hset:=set_map (f:=valN ns bs) hx;obtain ⟨cs1,hr1,hc1⟩:=YbM hb1 hkx;obtain ⟨rfl,hsx⟩:=hr1;refine wG ?_;refine Yv rfl ?_;have hcx:cur1[(k:Int).toNat*1]?=some (Zy x):=by
   have:((cur1.drop (k*1)).take 1)[0]?=some (Zy x):=by rw [show (cur1.drop (k*1)).take 1=[Zy x] from hc1];rfl
   rw [List.getElem?_take_of_lt Zi,List.getElem?_drop] at this;simpa using this
  refine zG ?_;refine Yp 0 ?_ (hv:=hcx);refine wc (Ymz (x:=x) hN6) ?_;rcases Ybc (p:=fun y=>x=y) ns with h1 | ⟨i,y,h1,h2,h3⟩
  ·have hv:=Yob (bs:=bs) h1;rw [YR h1];rw [hv] at hset;refine wC ?_ ?_<;>intro c2
   ·exact absurd c2 Zi
   exact wP (h:=by exact ⟨k+1,cur1,by omega,rfl,rfl,rfl,rfl,by rw [<- hset,Wi hkx];exact hb1⟩)
  have hi:i<bs.length:=by have:=(Zg h2).1;omega
  obtain ⟨a,ha⟩:=Yc (l:=bs) (k:=i) hi;have hv:=Yoc h1 h2 h3 ha;rw [Xg h1 h2 h3,Int.zero_add];rw [hv] at hset;refine wC ?_ ?_<;>intro c2
  ·refine wI hB6 ha (fun p1 hp1=>?_);refine zH hp1 (fun hsa=>?_);refine wG ?_;refine Yv rfl ?_;refine YA (Xr (pre:=[]) (L:=strL) (j:=k) rfl rfl WP ⟨rfl,hsa⟩ hb1 (fun cur2 hb2=>?_));exact wP (h:=by exact ⟨k+1,cur2,by omega,rfl,rfl,rfl,rfl,by rw [<- hset];exact hb2⟩)
  exact absurd (show (0:Int)<=i by omega) c2
 have hk2:n=k:=by omega
 subst hk2;have hb3:=hb1.grow;rw [Zl Zi,List.drop_eq_nil_of_le Zi,List.append_nil] at hb3;refine zW ?_;refine Yb3 rfl rfl (fun fz3 hle3 hf3=>?_);obtain ⟨A',c',he,hsl⟩:=hb3.sl hle3 hf3 Zi;injection he with x1 x2 x3
 subst x1 x3;exact ⟨rfl,_,_,rfl,hsl⟩
mutual
def bE (ns bs:List Bs):Lx.Expr->Lx.Expr
 | .mk op name n args kids=>.mk op name n (args.map (valN ns bs)) (bEL ns bs kids)
def bEL (ns bs:List Bs):List Lx.Expr->List Lx.Expr
 | []=>[]
 | e::r=>bE ns bs e::bEL ns bs r
end
theorem bEL_eq {ns bs:List Bs}:∀ l:List Lx.Expr,bEL ns bs l=l.map (bE ns bs)
 | []=>rfl
 | e::r=>by rw [bEL,bEL_eq r,List.map_cons]
theorem bE_eq {ns bs:List Bs} (e:Lx.Expr):bE ns bs e=.mk e.op e.name e.n (e.args.map (valN ns bs)) (e.kids.map (bE ns bs)):=by
 cases e;rw [bE,bEL_eq];rfl
theorem Yjj:∀ (s:Nat) {fz:FZ} {e:Lx.Expr} {va vk:Value} {B C:Option Addr} {m d q c:Nat} {ns bs:List Bs},SizeOf.sizeOf e<=s->ExprR fz e va vk->Sl strL fz B m d ns->Sl strL fz C q c bs->ns.length<=bs.length->eW e<=1000000000->
 GFn prog 81 [.agg #[Zy e.op,Zy e.name,Zk e.n,va,vk],Zc B m d,Zc C q c] fz [] (fun v fz' H'=>H'=[]/\ExprV fz' (bE ns bs e) v)
 | 0,_,e,_,_,_,_,_,_,_,_,_,_,hse,_,_,_,_,_=>by cases e;simp at hse
 | s+1,fz,e,va,vk,B,C,m,d,q,c,ns,bs,hse,hR,hN,hB,hl,hW=>by
  have hweq:=YnI e;have hkl:=XH YmL e.kids;obtain ⟨⟨B1,m1,d1,rfl,ia⟩,⟨B2,m2,d2,rfl,ik⟩⟩:=hR.sls;have l1:=ia.len;have l2:=ik.len;refine zF Tryz.func81 Tryz.ntmps81 (fun w0=>?_);refine zW ?_;intros;rename_i g3 g6;refine Ya (Yh [] [_,_] Zz (Yic ia Zi hN hB hl) (fun v1 fz1 H1 hle1 hR1=>?_));obtain ⟨rfl,B3,d3,rfl,ia1⟩:=hR1;refine zW ?_;refine Yi (fun q' σ fz' H'=>∃ (k:Nat) (vo:Value) (Hk:HP),k<=m2/\q'=m2 - k/\σ=[(19,Zk k),(18,Zk m2),(17,Zc B2 m2 d2),(7,vo),(6,Zp g6),(3,Zp g3),(1,Zc B m d),(2,Zc C q c)]/\Le fz1 fz'/\
   H'=(g6,Zu #[Ze,Ze,Zk 0,Zn,Zn] 61)::(g3,Zu #[Zy e.op,Zy e.name,Zk e.n,Zc B3 m1 d3,Zc B2 m2 d2] 61)::Hk/\
   Grow exprL 61 fz' vo k Hk ((e.kids.take k).map (bE ns bs))) ⟨0,_,[],Z0 _,rfl,rfl,Zd,rfl,Grow.nil _ _ _⟩ Zw Zb ?_
  rintro q' σ fz' H' ⟨k,vo,Hk,hk,rfl,rfl,hle,rfl,hG⟩;obtain ⟨Ao,co,rfl,_,_⟩:=hG.form;have hle01:=hle1.trans hle;refine wC ?_ ?_<;>intro c1
  ·obtain ⟨x,hx⟩:=Yc (l:=e.kids) (k:=k) Zi;have hxm:=Zm hx;have hlt:=Expr.kids_lt hxm;have hxw:=Y2 (w:=eW) hxm;refine wI (ik.mono hle01) hx (fun p1 hp1=>?_);refine zL hp1 ?_;intro cs hcs;obtain ⟨wa,wk,rfl,hRx⟩:=Yw hcs;obtain ⟨⟨E1,r1,q1,rfl,_⟩,⟨E2,r2,q2,rfl,_⟩⟩:=id hRx.sls;refine zW ?_;intros;rename_i g9;refine Ya (Yh [] (_::_::_::Hk) Zz (Yjj s Zi hRx (hN.mono hle01) (hB.mono hle01) hl Zi) (fun v5 fz5 H5 hle5 hR5=>?_));obtain ⟨rfl,wa5,wk5,rfl,hR5⟩:=hR5;refine Ya (Yb (cs:=[Zy (bE ns bs x).op,Zy (bE ns bs x).name,Zk (bE ns bs x).n,wa5,wk5]) (fun gb=>?_));refine Ya (YD (Hr:=[_,_,_,_]) (d:=bE ns bs x) (Zr _) (hG.mono hle5) Yen (.head _) (Ww hR5) (fun v' Hs' hO'=>?_));obtain ⟨Av',cv',rfl,_,_⟩:=hO'.form;exact wP (h:=by exact ⟨k+1,_,Hs',by omega,rfl,rfl,hle.trans hle5,rfl,hO'.of (by rw [List.take_add_one,hx];simp) rfl⟩)
  have hk2:m2=k:=by omega
  subst hk2;rw [show e.kids.take m2=e.kids from Zl Zi] at hG;refine zW ?_;refine YL (i:=0) rfl (fun fz3 hle3 hf3=>?_);obtain ⟨A9,c9,e9,h9⟩:=hG.sl hle3 (fun p hp=>hf3 p (by simp [hp])) Zi;injection e9 with e91 e92 e93
  subst e91;subst e93;refine ⟨rfl,_,_,by rw [bE_eq];rfl,?_⟩;rw [bE_eq];exact {op:=hR.op,name:=hR.name,n:=hR.n,args:=(ia1.mono (hle.trans hle3)).is,kids:=h9.is}
theorem Yeg {p:α->Prop} [DecidablePred p] {l:List α} {k:Nat} {x:α} (h1:∀ j,j<k->∀ y,l[j]?=some y->¬p y) (h2:l[k]?=some x) (h3:p x):l.find? (fun y=>decide (p y))=some x:=
 Yi5 (fun i hi y hy=>decide_eq_false (h1 i hi y hy)) h2 (decide_eq_true h3)
theorem YfO {p:α->Prop} [DecidablePred p] {l:List α} (h:∀ x∈l,¬p x):l.find? (fun y=>decide (p y))=none:=
 YlD fun _ _ y hy=>decide_eq_false (h y (Zm hy))
theorem kexpr1_q {e:Lx.Expr} {x:Function} {g0:Nat} {t0:TypeId} (h0:fz g0=some (.cells #[Zy e.op,Zy e.name,Zk e.n,va,vk] t0 (0,0))) (hcs:functionL.rep fz x cs):
 QFn prog 142 (.agg cs.toArray:: [Zp g0]) fz (Zo (decide (x.name=e.name))):=by
 obtain ⟨u0,rfl,hR⟩:=YU hcs;obtain ⟨P0,p0,q0,rfl,_⟩:=id hR.params;refine qF Tryz.func142 Tryz.ntmps142 (fun w0=>?_);refine pX (fun g9=>?_);refine zW ?_;intros;refine zC ?_ ?_<;>intro c1
 ·refine zW ?_;intros;exact wR (h:=by exact Ym c1)
 refine zW ?_;intros;exact wR (h:=by exact Yg c1)
theorem Ypu:∀ (s:Nat) {fz:FZ} {v:Value} {d:Domain} {os vars:List Param} {e:Lx.Expr} {va vk:Value} {A:Option Addr} {n c:Nat},SizeOf.sizeOf e<=s->KfR fz v d os->Sl paramL fz A n c vars->ExprR fz e va vk->
 QFn prog 56 [v,Zc A n c,.agg #[Zy e.op,Zy e.name,Zk e.n,va,vk]] fz (errV (exprM d os vars e))
 | 0,_,_,_,_,_,e,_,_,_,_,_,hse,_,_,_=>by cases e;simp at hse
 | s+1,fz,v,d,os,vars,e,va,vk,A,n,c,hse,h,h1,hR=>by
  have h0:=h;obtain ⟨⟨g,a0,a1,a2,a5,a6,a7,a8,a9,a10,a11,a12,a13,a14,a15,a16,a17,vf,b0,b1,A3,x3,y3,A4,x4,y4,Ao,mo,eo,rfl,hg,i3,i4,hF,hO⟩,hw,hu⟩:=h;obtain ⟨⟨B,n2,c2,rfl,ia⟩,⟨C,n3,c3,rfl,ik⟩⟩:=hR.sls;have l3:=ik.len;have s3:=ik.short;have l4:=i4.len;have s4:=i4.short;refine qF Tryz.func56 Tryz.ntmps56 (fun w0=>?_);refine pX (fun g5=>?_);refine zV ?_;intros;refine zC ?_ ?_<;>intro x1
  ·have e1:exprM d os vars e=fluM d os vars e.name e.args:=by rw [Ydi,if_pos (show e.op=kFluent from x1)]
   refine zV ?_;intros;refine zG ?_;refine YG ?_;refine zG ?_;refine XJ (fun fz' hle hf=>W3 (cap:=[Zp g5]) (p:=fun y:Function=>y.name=e.name) (i4.mono hle) (fun y _ cs hcs=>kexpr1_q (e:=e) (hf _ (.head _)) hcs)) ?_;rcases Ybc (p:=fun y:Function=>y.name=e.name) d.functions with hno | ⟨k,x,hk1,hk2,hk3⟩
   ·rw [YR hno];refine zV ?_;intros;refine zC ?_ ?_<;>intro c0;rotate_left 1
    ·exact absurd Zh c0
    refine zV ?_;intros;exact zR (h:=by rw [e1,fluM,show fstF d.functions e.name=none from YfO (p:=fun y:Function=>y.name=e.name) hno];rfl)
   have hkl:k<d.functions.length:=(Zg hk2).1;rw [Xg hk1 hk2 hk3,Int.zero_add];refine zV ?_;intros;refine zC ?_ ?_<;>intro c0
   ·exact absurd c0 Zi
   refine zV ?_;intros;refine zI i4 hk2 (fun p9 hp9=>?_);refine zV ?_;intros
   ((refine zG ?_);refine XQ hp9.Function_params (fun C9 n9 c9 h9=>?_));refine zV ?_;intros;refine zc (Ypv h0 h1 ia h9) ?_;refine zV ?_;intros;exact zR (h:=by rw [e1,fluM,show fstF d.functions e.name=some x from Yeg (p:=fun y:Function=>y.name=e.name) hk1 hk2 hk3])
  have e1:exprM d os vars e=exprML d os vars e.kids:=by rw [Ydi,if_neg (show ¬e.op=kFluent from x1)]
  refine zV ?_;intros;refine XW n3 (fun k=>[(41,Zk k),(40,Zk n3),(39,Zc C n3 c3),(0,Zp g),(1,Zc A n c)]) [] (fun k=>(∀ i,i<k->∀ y,e.kids[i]?=some y->exprM d os vars y=0)) (fun i hi=>absurd hi Zi) ?_;intro k hk hh;refine zV ?_;intros;refine zC ?_ ?_<;>intro c1
  ·obtain ⟨x,hx⟩:=Yc (l:=e.kids) (k:=k) Zi;have hlt:=Lx.Expr.kids_lt (Zm hx);refine zV ?_;intros;refine zI ik hx (fun p1 hp1=>?_);refine zL hp1 ?_;intro cs hcs;obtain ⟨wa,wk,rfl,hRx⟩:=Yw hcs;obtain ⟨⟨B1,m1,d1,rfl,_⟩,⟨B2,m2,d2,rfl,_⟩⟩:=hRx.sls;refine zV ?_;intros
   ((refine zG ?_);refine Yu (Ypu s Zi h0 h1 hRx) ?_);by_cases hz:exprM d os vars x=0
   ·rw [hz,show errV 0=.nilIface from rfl];refine zV ?_;intros;exact wM (h:=by exact Yx hh hx hz)
   rw [Yq hz];refine zV ?_;intros;exact zR (h:=by rw [e1,Ybz hx hh hz,Yq hz])
  have hA:=YQ hh Zi;refine zV ?_;intros;exact zR (h:=by rw [e1,W7 hA];rfl)
theorem kown1_q {f:Formula} {x:Predicate} {g0:Nat} {t0:TypeId} (h0:fz g0=some (.cells #[Zy f.op,Zy f.name,va,vp,ve,vk] t0 (0,0))) (hcs:predicateL.rep fz x cs):
 QFn prog 136 (.agg cs.toArray:: [Zp g0]) fz (Zo (decide (x.name=f.name))):=by
 obtain ⟨u0,rfl,hR⟩:=Xo hcs;obtain ⟨P0,p0,q0,rfl,_⟩:=id hR.params;refine qF Tryz.func136 Tryz.ntmps136 (fun w0=>?_);refine pX (fun g9=>?_);refine zW ?_;intros;refine zC ?_ ?_<;>intro c1
 ·refine zW ?_;intros;exact wR (h:=by exact Ym c1)
 refine zW ?_;intros;exact wR (h:=by exact Yg c1)
theorem kown2_q {z x:Param} {g0:Nat} {t0:TypeId} (h0:fz g0=some (.cells #[Zy z.name,Zy z.typ] t0 (0,0))) (hcs:paramL.rep fz x cs):
 QFn prog 139 (.agg cs.toArray:: [Zp g0]) fz (Zo (decide (x.name=z.name))):=by
 obtain ⟨rfl,hR⟩:=Yz hcs;refine qF Tryz.func139 Tryz.ntmps139 (fun w0=>?_);refine pX (fun g9=>?_);refine zW ?_;intros;refine zC ?_ ?_<;>intro c1
 ·refine zW ?_;intros;exact wR (h:=by exact Ym c1)
 refine zW ?_;intros;exact wR (h:=by exact Yg c1)
theorem kown3_q {d:Domain} {os:List Param} {x:Param} {g0:Nat} {t0:TypeId} (h:KfR fz v d os) (h0:fz g0=some (.cells #[v] t0 (0,0))) (hcs:paramL.rep fz x cs):
 QFn prog 140 (.agg cs.toArray:: [Zp g0]) fz (Zo (decide (¬HasT d.types x.typ))):=by
 obtain ⟨⟨g,a0,a1,a2,a5,a6,a7,a8,a9,a10,a11,a12,a13,a14,a15,a16,a17,vf,b0,b1,A3,x3,y3,A4,x4,y4,Ao,mo,eo,rfl,hg,i3,i4,hF,hO⟩,hw,hu⟩:=h;have hF0:=hF;obtain ⟨gf,gm,rfl,hf1,hf2⟩:=hF;obtain ⟨rfl,hR⟩:=Yz hcs;refine qF Tryz.func140 Tryz.ntmps140 (fun w0=>?_);refine pX (fun g9=>?_);refine zV ?_;intros;refine zb (YnC hF0) (fun f1=>?_) (fun f1=>?_)
 ·refine zV ?_;intros;exact wR (h:=by exact Yg (fun h=>h (Zt f1)))
 refine zV ?_;intros;exact wR (h:=by exact Ym (Zf f1))
structure Mn where
 d:Domain
 l:List Param
 os:List Param
structure MnR (fz:FZ) (v:Value) (M:Mn):Prop where
 ex:∃ (g:Nat) (v1 v2 v3 v4 v5 v6 a7 a8 a9 a10 a11 a12 a13 a14 a15 a16 a17 vf:Value) (A:Option Addr) (n c:Nat),
  v=Zp g/\fz g=some (Zu #[Zy M.d.name,v1,v2,v3,v4,v5,v6,a7,a8,a9,a10,a11,a12,a13,a14,a15,a16,a17,vf,Zc A n c] 160)/\
  DomainR fz M.d v1 v2 v3 v4 v5 v6/\ForR fz vf M.l/\Sl paramL fz A n c M.os
 w:WFT M.l
 many:M.os.length<=6
variable {M:Mn}
theorem MnR.mono (h:MnR fz v M) (hle:Le fz fz'):MnR fz' v M:=by
 obtain ⟨⟨g,v1,v2,v3,v4,v5,v6,a7,a8,a9,a10,a11,a12,a13,a14,a15,a16,a17,vf,A,n,c,h1,h2,h3,h4,h5⟩,hw,hm⟩:=h;exact ⟨⟨g,v1,v2,v3,v4,v5,v6,a7,a8,a9,a10,a11,a12,a13,a14,a15,a16,a17,vf,A,n,c,h1,hle _ _ h2,h3.mono hle,h4.mono hle,h5.mono hle⟩,hw,hm⟩
def ofN (M:Mn) (t:Bs):List Bs:=ofT M.l t M.os
theorem Ylo (M:Mn) (t:Bs):(ofN M t).length<=M.os.length:=by
 unfold ofN ofT;rw [List.length_map];exact List.length_filter_le _ _
theorem Ynr {t:Bs} (h:MnR fz v M):GFn prog 47 [v,Zy t] fz [] (fun v fz' H'=>H'=[]/\∃ B m cc,v=Zc B m cc/\Sl strL fz' B m cc (ofN M t)):=by
 obtain ⟨⟨g,v1,v2,v3,v4,v5,v6,a7,a8,a9,a10,a11,a12,a13,a14,a15,a16,a17,vf,A,n,c,rfl,hg,hD,hF,hO⟩,hw,hm⟩:=h;have ln:=hO.len;have hF0:=hF;obtain ⟨gf,gm,rfl,hf1,hf2⟩:=hF;refine zF Tryz.func47 Tryz.ntmps47 (fun w0=>?_);refine zWN ?_;refine YS [] ?_;refine zW ?_;refine pU ?_;refine Yf (Yh [] [] Zz (of_q hF0 hw hO Zi) (fun v2 fz2 H2 hle2 hR2=>⟨⟨hle2,by intro p hp;cases hp⟩,?_⟩));obtain ⟨rfl,B,m,cc,rfl,hS⟩:=hR2;refine Ch.qk ⟨hle2,by intro p hp;cases hp⟩ (YE ?_);refine Ch.done ?_;refine zW ?_;exact Yb3 rfl rfl (fun fz3 hle3 _=>⟨rfl,B,m,cc,rfl,hS.mono hle3⟩)
theorem Yiu {ps:List Param} (h:Sl paramL fz A n c ps) (hn:n<=1000000):
 GFn prog 69 [Zc A n c] fz [] (fun r fz' H'=>H'=[]/\∃ B m d,r=Zc B m d/\Sl strL fz' B m d (ps.map (·.name))):=by
 have lp:=h.len;have sp:=h.short;refine zF Tryz.func69 Tryz.ntmps69 (fun w0=>?_);refine zW ?_;refine Yi (fun q σ fz' H'=>∃ (k:Nat) (vo:Value) (Ho:HP),k<=n/\q=n - k/\σ=[(8,Zk k),(7,Zk n),(6,Zc A n c),(3,vo)]/\fz=fz'/\H'=Ho/\Grow strL 9 fz vo k Ho ((ps.take k).map (·.name))) ⟨0,_,[],Z0 _,rfl,rfl,rfl,rfl,Grow.nil _ _ _⟩ Zw Zb ?_;rintro q σ fz' H' ⟨k,vo,Ho,hk,rfl,rfl,rfl,rfl,hG⟩;obtain ⟨Ao,co,rfl,_,_⟩:=hG.form;refine wC ?_ ?_<;>intro c1
 ·obtain ⟨x,hx⟩:=Yc (l:=ps) (k:=k) Zi;refine wI h hx (fun p hp=>?_);refine zL hp ?_;intro cs hcs;obtain ⟨rfl,hR⟩:=Yz hcs;refine zW ?_;intros;refine Ya (Yb (cs:=[Zy x.name]) (fun gc=>?_));refine Ya (YD (Hr:=[_,_]) (d:=x.name) (Zr _) hG WP (.head _) ⟨rfl,hR.name⟩ (fun v' Hs' hO'=>?_));obtain ⟨Av',cv',rfl,_,_⟩:=hO'.form;exact wP (h:=by exact ⟨k+1,_,Hs',by omega,rfl,rfl,rfl,rfl,hO'.of (by rw [List.take_add_one,hx];simp) rfl⟩)
 have hk1:n=k:=by omega
 subst hk1;rw [show ps.take n=ps from Zl Zi] at hG;refine zW ?_;refine Yb3 rfl rfl (fun fz3 hle3 hf3=>?_);obtain ⟨A',c',he,hsl⟩:=hG.sl hle3 hf3 Zi;injection he with x1 x2 x3
 subst x1 x3;exact ⟨rfl,_,_,_,rfl,hsl⟩
def YeV (M:Mn) (out:List (List Bs)) (p:Param):List (List Bs):=out.flatMap fun l=>(ofN M p.typ).map fun o=>l++ [o]
def tupF (M:Mn) (ps:List Param):List (List Bs):=ps.foldl (YeV M) [[]]
def tupM (M:Mn) (ps:List Param):List (List Bs):=if ∃ p∈ps,ofN M p.typ=[] then [] else tupF M ps
theorem YlB {α β:Type} {f:α->List β} {b:Nat}:∀ {l:List α},(∀ x∈l,(f x).length<=b)->(l.flatMap f).length<=l.length*b
 | [],_=>by simp
 | x::r,h=>by
  have h1:=h x (by simp);have h2:=YlB (f:=f) (b:=b) (l:=r) (fun y hy=>h y (by simp [hy]));rw [List.flatMap_cons,List.length_append,List.length_cons,Nat.succ_mul];omega
theorem Ykf (hm:M.os.length<=6) (out:List (List Bs)) (p:Param):(YeV M out p).length<=out.length*6:=
 YlB fun l _=>by rw [List.length_map];exact Nat.le_trans (Ylo M p.typ) hm
theorem Yl4 (hm:M.os.length<=6) {ps:List Param} (h:ps.length<=3):(tupF M ps).length<=216:=by
 have a:=Ykf hm
 match ps,h with
 | [],_=>show 1<=216;omega
 | [p],_=>have:=a [[]] p;exact Nat.le_trans this Zh
 | [p,q],_=>have h1:=a [[]] p;have h2:=a (YeV M [[]] p) q;simp only [List.length_singleton] at h1;exact Nat.le_trans h2 Zi
 | [p,q,r],_=>have h1:=a [[]] p;have h2:=a (YeV M [[]] p) q;have h3:=a (YeV M (YeV M [[]] p) q) r;simp only [List.length_singleton] at h1;exact Nat.le_trans h3 Zi
theorem Yf4 (M:Mn):∀ (ps:List Param) (out:List (List Bs)) (k:Nat),(∀ l∈out,l.length=k)->∀ l∈ps.foldl (YeV M) out,l.length=k+ps.length
 | [],_,_,h=>h
 | p::ps,out,k,h=>by
  intro l hl;have:=Yf4 M ps (YeV M out p) (k+1) (fun l hl=>by
   obtain ⟨l',h2,h3⟩:=List.mem_flatMap.1 hl;obtain ⟨o,_,rfl⟩:=List.mem_map.1 h3;rw [List.length_append,h l' h2];rfl) l hl
  rw [this,List.length_cons];omega
end Go.Proofs.YtacfpcbladaohaaGreatDoor
