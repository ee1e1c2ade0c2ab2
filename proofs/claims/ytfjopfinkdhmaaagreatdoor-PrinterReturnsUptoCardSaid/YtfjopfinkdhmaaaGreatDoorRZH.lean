/- The texts PFree, PCD, PCE, PCG, laid together. Conditions: none. -/
import Derived.Test.YtfjopfinkdhmaaaGreatDoorRZG
set_option linter.all false
noncomputable section
namespace Go.Lx
open Go.RowKit
section
variable {P:Program} {cx:Cx} {n:Nat} {σ:Env} {fz:FZ} {H:HP} {Q:QQ}
def inPu (pu:List Nat) (i:Nat):Bool:=pu.any fun j=>Nat.beq j i
def QOkP (P:Program) (cx:Cx) (ops:List Oper) (pu:List Nat) (i:Nat) (o:Oper) (σ ve:Env) (fz:FZ) (H:HP) (v:Value):Prop:=match inPu pu i with
 | true=>∀ fz',QOk P cx ops o σ ve fz' [] v
 | false=>QOk P cx ops o σ ve fz H v
variable {i:Nat} {v:Value}
theorem QOkP.ext {ops':List Oper} {pu:List Nat} {o:Oper} {a b:Env} (h:VExt a b) (hq:QOkP P cx ops' pu i o σ a fz H v):QOkP P cx ops' pu i o σ b fz H v:=by
 unfold QOkP at*;cases hp:inPu pu i with
 | true=>rw [hp] at hq;exact fun fz'=>(hq fz').ext h
 | false=>rw [hp] at hq;exact hq.ext h
def PK (P:Program) (cx:Cx) (ops:List Oper) (pu:List Nat) (σ:Env) (fz:FZ) (Hq:HP) (K:Env->Env->List (Nat × Oper)->Prop):Nat->List Oper->Env->Env->List (Nat × Oper)->Prop
 | _,[],ve,τ,ch=>K ve τ ch
 | i,o::rest,ve,τ,ch=>
  (∃ v,QOkP P cx ops pu i o σ ve fz Hq v/\PK P cx ops pu σ fz Hq K (i+1) rest ((i,v)::ve) (match o.dst with | some d=>(d,v)::τ | none=>τ) ch)\/
  PK P cx ops pu σ fz Hq K (i+1) rest ve τ (ch++ [(i,o)])
def Yi9 (o:Oper):List Nat:=(o.after.toList.filter fun e=>Region.binds .any e).map (·.on)
def Yjd (ops:List Oper):Nat->List Nat->List Nat
 | 0,L=>L
 | j+1,L=>Yjd ops j (if inPu L j then (match ops[j]? with
  | some p=>Yi9 p++L
  | none=>L) else L)
theorem YkR {o:Oper} (h:inPu (Yi9 o) i=true):waits o i=true:=by
 unfold inPu Yi9 at h;obtain ⟨x,hx,e⟩:=List.any_eq_true.1 h;obtain ⟨d,hd,rfl⟩:=List.mem_map.1 hx;unfold waits;refine List.any_eq_true.2 ⟨d,(List.mem_filter.1 hd).1,?_⟩;rw [e,Bool.true_and];exact (List.mem_filter.1 hd).2
theorem YjV {a b:List Nat}:inPu (a++b) i=(inPu a i || inPu b i):=by unfold inPu;rw [List.any_append]
theorem YeL {ops:List Oper} {D:Nat->Prop} (hD:∀ k o,ops[k]?=some o->D k->∀ m,waits o m=true->D m):∀ (n:Nat) (L:List Nat),(∀ i,inPu L i=true->D i)->∀ i,inPu (Yjd ops n L) i=true->D i
 | 0,_,h,i,hi=>h i hi
 | n+1,L,h,i,hi=>by
  rw [Yjd] at hi;refine YeL hD n _ (fun k hk=>?_) i hi;by_cases hn:inPu L n=true
  ·rw [if_pos hn] at hk;cases ho:ops[n]? with
   | none=>rw [ho] at hk;exact h k hk
   | some p=>
    rw [ho] at hk;rw [YjV,Bool.or_eq_true] at hk;rcases hk with hk | hk
    ·exact hD n p ho (h n hn) k (YkR hk)
    exact h k hk
  rw [if_neg hn] at hk;exact h k hk
def allp (ops:List Oper) (ch:List (Nat × Oper)) (pu:List Nat) (o:Oper):Bool:=(List.range ops.length).all fun i=>inCh ch i || inPu pu i || inPu (Yjd ops ops.length (Yi9 o)) i
theorem PK.out {ops':List Oper} {pu:List Nat} {Hq:HP} {K:Env->Env->List (Nat × Oper)->Prop}:∀ (l:List Oper) (i:Nat) (ve τ:Env) (ch:List (Nat × Oper)),(∀ j,i<=j->lk ve j=none)->PK P cx ops' pu σ fz Hq K i l ve τ ch->
 ∃ VE τF ch',VExt ve VE/\K VE τF (ch++ch')/\(∀ p∈ch',i<=p.1/\l[p.1 - i]?=some p.2)/\
  (∀ j,(j<i\/(∃ p∈ch',p.1=j))->lk VE j=lk ve j)/\
  (∀ (k:Nat) (o:Oper),l[k]?=some o->(∃ p∈ch',p.1=i+k)\/((∀ p∈ch',p.1≠i+k)/\∃ v,lk VE (i+k)=some v/\QOkP P cx ops' pu (i+k) o σ VE fz Hq v))/\
  (∀ s v,lk τF s=some v->(∃ (k:Nat) (o:Oper),l[k]?=some o/\o.dst=some s/\lk VE (i+k)=some v)\/(lk τ s=some v/\∀ (k:Nat) (o:Oper),l[k]?=some o->(∀ p∈ch',p.1≠i+k)->o.dst≠some s))
 | [],i,ve,τ,ch,_,h=>⟨ve,τ,[],fun _ _ h=>h,by simpa [PK] using h,by simp,by simp,by simp,fun s v hs=>.inr ⟨hs,by simp⟩⟩
 | o::l,i,ve,τ,ch,hve,h=>by
  rcases h with ⟨v,hq,hr⟩ | hr
  ·have hx:VExt ve ((i,v)::ve):=by
    intro j u hj;by_cases he:i=j
    ·subst he;rw [hve i (Zs _)] at hj;cases hj
    rw [YZ v ve he];exact hj
   obtain ⟨VE,τF,ch',h1,h2,h3,h3b,h4,h5⟩:=PK.out l (i+1) ((i,v)::ve) _ ch (fun j hj=>by rw [YZ v ve Zi];exact hve j Zi) hr;have hv:lk VE i=some v:=h1 i v (Xh i v ve);have hvx:VExt ve VE:=fun j u hj=>h1 j u (hx j u hj)
   refine ⟨VE,τF,ch',hvx,h2,fun p hp=>?_,fun j hj=>?_,fun k o' hk=>?_,fun s u hs=>?_⟩
   ·obtain ⟨g1,g2⟩:=h3 p hp;exact ⟨by omega,by rw [show p.1 - i=(p.1 - (i+1))+1 from by omega];simpa using g2⟩
   ·have hne:i≠j:=by
     rcases hj with hj | ⟨p,hp,hj⟩
     ·omega
     have:=(h3 p hp).1;omega
    rw [h3b j (by rcases hj with hj | hj;exact .inl Zi;exact .inr hj),YZ v ve hne]
   ·cases k with
    | zero=>
     simp at hk;subst hk;exact .inr ⟨fun p hp=>by have:=(h3 p hp).1;omega,v,hv,hq.ext hvx⟩
    | succ k=>
     rcases h4 k o' (by simpa using hk) with ⟨p,hp,he⟩ | ⟨hn,u,hu,hqu⟩
     ·exact .inl ⟨p,hp,by omega⟩
     exact .inr ⟨fun p hp=>by have:=hn p hp;omega,u,by rw [<- hu];congr 1;omega,by rw [show i+(k+1)=i+1+k from by omega];exact hqu⟩
   rcases h5 s u hs with ⟨k,o',hk,hd,hl⟩ | ⟨hl,hn⟩
   ·exact .inl ⟨k+1,o',by simpa using hk,hd,by rw [<- hl];congr 1;omega⟩
   cases hd:o.dst with
   | none=>
    simp only [hd] at hl;refine .inr ⟨hl,fun k o' hk hp=>?_⟩;cases k with
    | zero=>simp at hk;subst hk;simp [hd]
    | succ k=>exact hn k o' (by simpa using hk) (fun p hp'=>by have:=hp p hp';omega)
   | some d=>
    simp only [hd] at hl;by_cases he:d=s
    ·subst he;rw [Xh] at hl;exact .inl ⟨0,o,by simp,hd,by simpa using hv.trans hl⟩
    rw [YZ v τ he] at hl;refine .inr ⟨hl,fun k o' hk hp=>?_⟩;cases k with
    | zero=>simp at hk;subst hk;rw [hd];simpa using he
    | succ k=>exact hn k o' (by simpa using hk) (fun p hp'=>by have:=hp p hp';omega)
  obtain ⟨VE,τF,ch',h1,h2,h3,h3b,h4,h5⟩:=PK.out l (i+1) ve τ (ch++ [(i,o)]) (fun j hj=>hve j Zi) hr;refine ⟨VE,τF,(i,o)::ch',h1,by simpa using h2,fun p hp=>?_,fun j hj=>?_,fun k o' hk=>?_,fun s u hs=>?_⟩
  ·cases hp with
   | head=>simp
   | tail _ hp=>
    obtain ⟨g1,g2⟩:=h3 p hp;exact ⟨by omega,by rw [show p.1 - i=(p.1 - (i+1))+1 from by omega];simpa using g2⟩
  ·rcases hj with hj | ⟨p,hp,hj⟩
   ·exact h3b j (.inl Zi)
   cases hp with
   | head=>exact h3b j (.inl (by simp at hj;omega))
   | tail _ hp=>exact h3b j (.inr ⟨p,hp,hj⟩)
  ·cases k with
   | zero=>exact .inl ⟨(i,o),by simp,by simp⟩
   | succ k=>
    rcases h4 k o' (by simpa using hk) with ⟨p,hp,he⟩ | ⟨hn,u,hu,hqu⟩
    ·exact .inl ⟨p,by simp [hp],by omega⟩
    refine .inr ⟨fun p hp=>?_,u,by rw [<- hu];congr 1;omega,by rw [show i+(k+1)=i+1+k from by omega];exact hqu⟩;cases hp with
    | head=>simp
    | tail _ hp=>have:=hn p hp;omega
  rcases h5 s u hs with ⟨k,o',hk,hd,hl⟩ | ⟨hl,hn⟩
  ·exact .inl ⟨k+1,o',by simpa using hk,hd,by rw [<- hl];congr 1;omega⟩
  refine .inr ⟨hl,fun k o' hk hp=>?_⟩;cases k with
  | zero=>exact absurd rfl (hp (i,o) (by simp))
  | succ k=>exact hn k o' (by simpa using hk) (fun p hp'=>by have:=hp p (by simp [hp']);omega)
def Ygb (o:Oper) (ve cv:Env):Option Bool:=match o.guard with
 | none=>some true
 | some (j,b)=>match waits o j with
  | false=>none
  | true=>match lk cv j with
   | some v=>some (asB v==some b)
   | none=>match lk ve j with
    | some v=>some (asB v==some b)
    | none=>none
def Po (P:Program) (cx:Cx) (ops:List Oper) (pu:List Nat) (σ ve:Env) (fz0:FZ) (Hq:HP) (Q:QQ) (all:List (Nat × Oper)):Nat->List (Nat × Oper)->Bool->Env->Env->FZ->HP->Prop
 | 0,_,_,_,τ,fz,H=>Q .normal τ fz H
 | m+1,rest,done,cv,τ,fz,H=>∀ p∈rest,(rest.all fun q=>!waits p.2 q.1)=true->
  (Ygb p.2 ve cv=some true/\Does P cx p.2 (rdc ops p.2 σ ve cv) fz H fun v fz' H'=>
   ((done || allp ops all pu p.2)=true\/Keep fz0 Hq fz' H')/\
   Po P cx ops pu σ ve fz0 Hq Q all m (rest.filter fun q=>!Nat.beq q.1 p.1) (done || allp ops all pu p.2) ((p.1,v)::cv) (match p.2.dst with | some d=>(d,v)::τ | none=>τ) fz' H')\/
  (Ygb p.2 ve cv=some false/\Po P cx ops pu σ ve fz0 Hq Q all m (rest.filter fun q=>!Nat.beq q.1 p.1) (done || allp ops all pu p.2) ((p.1,undef)::cv) (match p.2.dst with | some d=>(d,undef)::τ | none=>τ) fz H)
def YcE:List (Nat × Oper)->Bool
 | []=>true
 | p::r=>(r.all fun q=>!Nat.beq q.1 p.1) && YcE r
theorem Yoc {a b:Nat} (h:(!Nat.beq a b)=true):a≠b:=by
 intro he;subst he;simp at h
theorem ne_beq {a b:Nat} (h:a≠b):(!Nat.beq a b)=true:=by
 cases hb:Nat.beq a b with
 | true=>exact absurd (Nat.eq_of_beq_eq_true hb) h
 | false=>rfl
theorem YgN {p:Nat × Oper}:∀ {l:List (Nat × Oper)},YcE l=true->p∈l->(l.filter fun q=>!Nat.beq q.1 p.1).length+1=l.length
 | [],_,h=>by cases h
 | x::r,hn,h=>by
  simp only [YcE,Bool.and_eq_true] at hn;rcases List.mem_cons.1 h with rfl | h
  ·have:r.filter (fun q=>!Nat.beq q.1 p.1)=r:=List.filter_eq_self.2 (fun q hq=>List.all_eq_true.1 hn.1 q hq);simp [this]
  have ih:=YgN hn.2 h;have hx:(!Nat.beq x.1 p.1)=true:=ne_beq (fun he=>Yoc (List.all_eq_true.1 hn.1 p h) he.symm);rw [List.filter_cons,if_pos hx,List.length_cons,List.length_cons,ih]
theorem YcD {f:Nat × Oper->Bool}:∀ {l:List (Nat × Oper)},YcE l=true->YcE (l.filter f)=true
 | [],_=>rfl
 | x::r,hn=>by
  simp only [YcE,Bool.and_eq_true] at hn;rw [List.filter_cons];split
  ·simp only [YcE,Bool.and_eq_true];exact ⟨List.all_eq_true.2 (fun q hq=>List.all_eq_true.1 hn.1 q (List.mem_filter.1 hq).1),YcD hn.2⟩
  exact YcD hn.2
theorem YjM {p:Nat × Oper} {pre:List (Nat × Oper)}:∀ {l:List (Nat × Oper)},YcE l=true->p∈l->((pre++ [p])++l.filter fun q=>!Nat.beq q.1 p.1).Perm (pre++l):=by
 intro l hn hp;rw [List.append_assoc];refine List.Perm.append_left pre ?_
 induction l with
 | nil=>cases hp
 | cons x r ih=>
  simp only [YcE,Bool.and_eq_true] at hn;rcases List.mem_cons.1 hp with rfl | h
  ·have:r.filter (fun q=>!Nat.beq q.1 p.1)=r:=List.filter_eq_self.2 (fun q hq=>List.all_eq_true.1 hn.1 q hq);simp [this]
  have hx:(!Nat.beq x.1 p.1)=true:=ne_beq (fun he=>Yoc (List.all_eq_true.1 hn.1 p h) he.symm);rw [List.filter_cons,if_pos hx];exact (List.Perm.swap x p _).trans (List.Perm.cons x (ih hn.2 h))
theorem Wp.drawP (pu:List Nat) {id:Nat} {l:List Oper} {Hq:HP} (hm:P.follows .mixedOrders=true) (hB:YdM n l 0 []=true) (hG:Yhy l=true) (hHq:Hq.Sublist H)
 (h:PK P cx l pu σ fz Hq (fun ve τ ch=>YcE ch=true/\Po P cx l pu σ ve fz Hq Q ch ch.length ch false [] τ fz H) 0 l [] σ []):Wp P cx n (.region id l.toArray true) σ fz H Q:=by
 refine Wp.of ?_;intro a w hs hi;obtain ⟨VE,τF,ch,_,hK,hch,hVEch,hq,hτ⟩:=PK.out l 0 [] σ [] (fun _ _=>rfl) h;simp only [Nat.zero_add,List.nil_append,Nat.sub_zero] at hq hτ hK hch;obtain ⟨hcok,hCh⟩:=hK;have hedge:=YaO (n:=n) l 0 [] hB;have hdst:=Ybb (n:=n) l 0 [] hB;simp only [Nat.zero_add] at hedge;have hops:∀ k:Nat,(l.toArray)[k]?=l[k]?:=fun k=>by simp
 have hi0:Inv cx fz Hq w:=hi.forget hHq
 -- a quiet operation's number
 let isQ:Nat->Prop:=fun k=>∀ p∈ch,p.1≠k
 -- what holds at every point: 'rest' of the chain is to come
 let A:Array Bool->Act->World->Prop:=fun listed a w=>∃ pre rest done cv τ fzs Hs,(pre++rest).Perm ch/\YcE rest=true/\Po P cx l pu σ VE fz Hq Q ch rest.length rest done cv τ fzs Hs/\Inv cx fzs Hs w/\
  a.tmps.size=n/\a.defers=[]/\listed.size=l.length/\
  ((∀ s v,lk σ s=some v->(∀ (k:Nat) (o:Oper),l[k]?=some o->o.dst=some s->listed.getD k true=false)->a.tmps[s]?=some v)/\
   (∀ (k:Nat) (o:Oper),l[k]?=some o->listed.getD k true=true->∀ m,waits o m=true->listed.getD m true=true))/\
  (∀ (k:Nat) (o:Oper) (d:Nat) (v:Value),l[k]?=some o->o.dst=some d->isQ k->listed.getD k true=true->lk VE k=some v->a.tmps[d]?=some v)/\
  (∀ p∈pre,listed.getD p.1 true=true/\∃ v,lk cv p.1=some v/\∀ d,p.2.dst=some d->a.tmps[d]?=some v)/\
  (∀ p∈rest,listed.getD p.1 true=false/\lk cv p.1=none)/\
  (∀ j v,lk cv j=some v->∃ p∈pre,p.1=j)/\
  (Keep fz Hq fzs Hs\/(∀ k,k<l.length->isQ k->inPu pu k=false->listed.getD k true=true))/\
  (done=true->∀ k,k<l.length->isQ k->inPu pu k=false->listed.getD k true=true)/\
  (∀ s v,lk τ s=some v->(∃ (k:Nat) (o:Oper),l[k]?=some o/\o.dst=some s/\isQ k/\lk VE k=some v)\/(∃ p∈pre,p.2.dst=some s/\lk cv p.1=some v)\/
   (lk σ s=some v/\(∀ (k:Nat) (o:Oper),l[k]?=some o->isQ k->o.dst≠some s)/\∀ p∈pre,p.2.dst≠some s))
 have hall:∀ (listed:Array Bool),listed.size=l.length->Region.ready .any l.toArray listed=[]->∀ k,k<l.length->listed.getD k true=true:=by
  intro listed hsz hr k
  induction k using Nat.strongRecOn with
  | _ k ih=>
   intro hk;cases hl:listed.getD k true with
   | true=>rfl
   | false=>
    exfalso;have hmem:k∈Region.ready .any l.toArray listed:=by
     unfold Region.ready;simp only [List.mem_filter,List.mem_range,List.size_toArray,hk,true_and,hl,Bool.not_false,Bool.true_and];rw [hops k,List.getElem?_eq_getElem hk];simp only [Option.map_some,Option.getD_some,Array.all_eq_true_iff_forall_mem];intro e he;cases hb:Region.binds .any e with
     | false=>rfl
     | true=>
      have h1:=hedge k l[k] (List.getElem?_eq_getElem hk) e he hb;have h2:=ih e.on Zi Zi;have h3:e.on<listed.size:=by omega
      simp only [Bool.not_true,Bool.false_or];simpa [Array.getD,h3] using h2
    rw [hr] at hmem;cases hmem
 have hfin:∀ listed a w,A listed a w->Region.ready .any l.toArray listed=[]->lift cx n Q .normal a w:=by
  rintro listed a w ⟨pre,rest,done,cv,τ,fzs,Hs,e0,hnd,hC,a1,a2,a3,a4,⟨a5,_⟩,a6,a7,a8,a9,a10,a11,a12⟩ hr;have hrest:rest=[]:=by
   cases rest with
   | nil=>rfl
   | cons p r=>
    have h1:=(a8 p (by simp)).1;have h2:=hch p (e0.mem_iff.1 (by simp));have h3:=hall listed a4 hr p.1 (Zg h2.2).1;rw [h1] at h3;cases h3
  subst hrest;refine ⟨τ,fzs,Hs,⟨a2,a3,fun s v hsv=>?_⟩,a1,hC⟩;rcases a12 s v hsv with ⟨k,o,hk,hd,hqk,hv⟩ | ⟨p,hp,hd,hv⟩ | ⟨hv,hn1,hn2⟩
  ·exact a6 k o s v hk hd hqk (hall listed a4 hr k (Zg hk).1) hv
  ·obtain ⟨_,u,hu,hdu⟩:=a7 p hp;rw [hv] at hu;injection hu with hu;subst hu
   exact hdu s hd
  refine a5 s v hv fun k o hk hd=>absurd hd (show o.dst≠some s from fun hd=>?_)
  by_cases hqk:∀ p∈ch,p.1≠k
  ·exact hn1 k o hk hqk hd
  simp only [Classical.not_forall,Classical.not_not] at hqk;obtain ⟨p,hp,he⟩:=hqk;have:=(hch p hp).2;rw [he,hk] at this;injection this with this
  subst this;rw [List.append_nil] at e0;exact hn2 p (e0.mem_iff.2 hp) hd
 have main:∀ (fuel:Nat) (listed:Array Bool) (a:Act) (w:World),(List.range l.length).countP (fun i=>!listed.getD i true)<=fuel->A listed a w->wpAny P .any l.toArray (lift cx n Q) fuel listed a w:=by
  intro fuel
  induction fuel with
  | zero=>
   intro listed a w hc hA;have hr:Region.ready .any l.toArray listed=[]:=by
    unfold Region.ready;rw [List.filter_eq_nil_iff];intro k hk;have:(List.range l.length).countP (fun i=>!listed.getD i true)=0:=by omega
    rw [List.countP_eq_zero] at this;have:=this k (by simpa using hk);simp only [Bool.not_eq_true,Bool.not_eq_false'] at this;simp only [this];simp
   exact ⟨hr,hfin listed a w hA hr⟩
  | succ fuel ih=>
   intro listed a w hc hA;refine ⟨fun hr=>hfin listed a w hA hr,fun i hir=>?_⟩;obtain ⟨pre,rest,done,cv,τ,fzs,Hs,e0,hnd,hC,a1,a2,a3,a4,⟨a5,a13⟩,a6,a7,a8,a9,a10,a11,a12⟩:=hA;unfold Region.ready at hir;simp only [List.mem_filter,List.mem_range,List.size_toArray,Bool.and_eq_true,Bool.not_eq_true'] at hir;obtain ⟨hil,hun,hrdy⟩:=hir;have hio:l[i]?=some l[i]:=List.getElem?_eq_getElem hil;rw [hops i,hio] at hrdy;simp only [Option.map_some,Option.getD_some,Array.all_eq_true_iff_forall_mem] at hrdy;have hilt:i<listed.size:=by omega
   have hdone:∀ j,waits l[i] j=true->listed.getD j true=true/\j<l.length:=by
    intro j hj;unfold waits at hj;obtain ⟨e,he,hej⟩:=List.any_eq_true.1 hj;simp only [Bool.and_eq_true] at hej;have h1:=hrdy e (by simpa using he);rw [hej.2] at h1;have h2:e.on=j:=Nat.eq_of_beq_eq_true hej.1;have h3:=hedge i l[i] hio e (by simpa using he) hej.2;simp only [Bool.not_true,Bool.false_or] at h1;have h5:j<listed.size:=by omega
    subst h2;exact ⟨by simpa [Array.getD,h5] using h1,by omega⟩
   have hother:∀ k,k≠i->(listed.setIfInBounds i true).getD k true=listed.getD k true:=by
    intro k hk;simp only [Array.getD_eq_getD_getElem?];rw [Array.getElem?_setIfInBounds_ne Zi]
   have hsame:(listed.setIfInBounds i true).getD i true=true:=by simp [Array.getD,hilt]
   have hmono:∀ k,listed.getD k true=true->(listed.setIfInBounds i true).getD k true=true:=by
    intro k hk;by_cases he:k=i
    ·subst he;exact hsame
    rw [hother k he];exact hk
   have hcount:(List.range l.length).countP (fun j=>!(listed.setIfInBounds i true).getD j true)<=fuel:=by
    have:=Yd1 (p:=fun j=>!listed.getD j true) (q:=fun j=>!(listed.setIfInBounds i true).getD j true) (List.range l.length) i (by simpa using hil) (fun j hj=>by
     by_cases hji:j=i
     ·subst hji;rw [hsame] at hj;cases hj
     rw [hother j hji] at hj;exact hj) (by simp only [hun,Bool.not_false]) (by rw [hsame];rfl)
    omega
   have putOther:∀ (v:Value) (s:Nat) (u:Value),a.tmps[s]?=some u->l[i].dst≠some s->(a.put l[i].dst v).tmps[s]?=some u:=by
    intro v s u hu hne;cases hd:l[i].dst with
    | none=>exact hu
    | some d=>
     have:d≠s:=fun he=>hne (by rw [hd,he])
     simp only [Act.put];rw [Array.getElem?_setIfInBounds_ne this];exact hu
   have putSame:∀ (v:Value) (s:Nat),l[i].dst=some s->(a.put l[i].dst v).tmps[s]?=some v:=by
    intro v s hd;rw [hd];simp [Act.put,a2,(hdst i _ s hio hd).1]
   have putSize:∀ v,(a.put l[i].dst v).tmps.size=n:=by intro v;cases hd:l[i].dst<;>simp [Act.put,a2]
   have putDef:∀ v,(a.put l[i].dst v).defers=[]:=by intro v;cases hd:l[i].dst<;>simp [Act.put,a3]
   have dstNe:∀ (k:Nat) (o:Oper) (d:Nat),l[k]?=some o->o.dst=some d->k≠i->l[i].dst≠some d:=fun k o d hk hd hki hc=>hki ((hdst i _ d hio hc).2.2 k o hk hd)
   have hlate:∀ j t,YbC l t 0=some j->YeS l l[i] j=true->∀ (k:Nat) (o:Oper),l[k]?=some o->o.dst=some t->listed.getD k true=false:=by
    intro j t hw hlb k o hk hd;obtain ⟨kj,oj,hkj,hoj,hdj⟩:=WB l t 0 j hw;simp only [Nat.zero_add] at hkj;subst hkj;have hke:k=j:=(hdst j oj t hoj hdj).2.2 k o hk hd;subst hke;cases hls:listed.getD k true with
    | false=>rfl
    | true=>
     have:=YjS hio (fun a o d ha hd hi=>(hdst i _ d hio hi).2.2 a o ha hd) a13 hlb hls;rw [hun] at this;cases this
   have a5n:∀ (v:Value) (s:Nat) (u:Value),lk σ s=some u->(∀ (k:Nat) (o:Oper),l[k]?=some o->o.dst=some s->(listed.setIfInBounds i true).getD k true=false)->(a.put l[i].dst v).tmps[s]?=some u:=by
    intro v s u hsu hn;refine putOther v s u (a5 s u hsu (fun k o hk hd=>?_)) (fun hd=>?_)
    ·by_cases he:k=i
     ·subst he;have:=hn k o hk hd;rw [hsame] at this;cases this
     rw [<- hother k he];exact hn k o hk hd
    have:=hn i l[i] hio hd;rw [hsame] at this;cases this
   have a13n:∀ (k:Nat) (o:Oper),l[k]?=some o->(listed.setIfInBounds i true).getD k true=true->∀ m,waits o m=true->(listed.setIfInBounds i true).getD m true=true:=by
    intro k o hk hls m hm;by_cases he:k=i
    ·subst he;have:o=l[k]:=by rw [hio] at hk;injection hk with hk;exact hk.symm
     subst this;exact hmono m (hdone m hm).1
    rw [hother k he] at hls;exact hmono m (a13 k o hk hls m hm)
   have hyield:∀ j b,l[i].guard=some (j,b)->waits l[i] j=true->∀ c,lk VE j=some c->yielded l.toArray a.tmps j=asB c:=by
    intro j b hg hwt c hc;obtain ⟨h1,h2⟩:=hdone j hwt;have hqj:isQ j:=fun p hp he=>by
     have:=hVEch j (.inr ⟨p,hp,he⟩);rw [hc] at this;cases this
    unfold yielded;rw [hops j,List.getElem?_eq_getElem h2];cases hd:l[j].dst with
    | none=>
     have h7:=List.all_eq_true.1 hG l[i] (List.getElem_mem hil);simp [hg,List.getElem?_eq_getElem h2,hd] at h7
    | some d=>
     have:=a6 j l[j] d _ (List.getElem?_eq_getElem h2) hd hqj h1 hc;simp only [Option.bind_some,hd,this];cases c<;>rfl
   have hwantB:∀ c,Ybr l[i] VE=some c->Region.wanted l[i] (yielded l.toArray a.tmps)=c:=by
    intro c hw1;unfold Region.wanted;unfold Ybr at hw1;cases hg:l[i].guard with
    | none=>simp only [hg] at hw1;injection hw1
    | some jb=>
     obtain ⟨j,b⟩:=jb;simp only;simp only [hg] at hw1;cases hwt:waits l[i] j with
     | false=>simp [hwt] at hw1
     | true=>
      simp only [hwt] at hw1;split at hw1
      ·rename_i c hc;rw [hyield j b hg hwt c hc];exact Option.some.inj hw1
      cases hw1
   unfold wpOp;rw [hops i,hio];simp only;by_cases hqi:∀ p∈ch,p.1≠i
   ·-- a quiet operation
    obtain ⟨v,hv,hqv⟩:∃ v,lk VE i=some v/\QOkP P cx l pu i l[i] σ VE fz Hq v:=by
     rcases hq i l[i] hio with ⟨p,hp,he⟩ | ⟨_,h1⟩
     ·exact absurd he (hqi p hp)
     exact h1
    obtain ⟨fzq,Hqq,hkeep,hqv⟩:∃ fzq Hqq,Inv cx fzq Hqq w/\QOk P cx l l[i] σ VE fzq Hqq v:=by
     unfold QOkP at hqv;cases hpi:inPu pu i with
     | true=>rw [hpi] at hqv;exact ⟨fzs,[],a1.forget (List.nil_sublist _),hqv fzs⟩
     | false=>
      rw [hpi] at hqv;refine ⟨fz,Hq,?_,hqv⟩;rcases a10 with h1 | h1
      ·exact hi0.keep a1 h1
      have:=h1 i hil hqi hpi;rw [hun] at this;cases this
    have hreads:Reads (rdq l l[i] σ VE) a.eval:=by
     intro x u hx;cases x with
     | tmp t=>
      unfold rdq at hx;cases hw:YbC l t 0 with
      | none=>
       simp only [hw] at hx;have:=a5 t u hx (fun k o hk hd=>absurd hd (Yau l t 0 hw k o hk));simp [Act.eval,this]
      | some j=>
       simp only [hw] at hx;cases hwt:waits l[i] j with
       | false=>
        simp only [hwt] at hx;cases hlb:YeS l l[i] j with
        | false=>simp [hlb] at hx
        | true=>
         simp only [hlb] at hx;have:=a5 t u hx (hlate j t hw hlb);simp [Act.eval,this]
       | true=>
        simp only [hwt] at hx;obtain ⟨k,o,rfl,hk,hd⟩:=WB l t 0 j hw;simp only [Nat.zero_add] at*;have hqk:isQ k:=fun p hp he=>by
         have:=hVEch k (.inr ⟨p,hp,he⟩);rw [hx] at this;cases this
        have:=a6 k o t u hk hd hqk (hdone k hwt).1 hx;simp [Act.eval,this]
     | const c=>injection hx
     | global g=>injection hx
     | func f=>injection hx
    have hnext:∀ w',Fr [] w w'->A (listed.setIfInBounds i true) (a.put l[i].dst v) w':=by
     intro w' hw';refine ⟨pre,rest,done,cv,τ,fzs,Hs,e0,hnd,hC,a1.quiet hw',putSize v,putDef v,by simpa using a4,⟨a5n v,a13n⟩,fun k o d u hk hd hqk hls hu=>?_,fun p hp=>?_,fun p hp=>?_,a9,?_,fun hd k hk hqk hpk=>hmono k (a11 hd k hk hqk hpk),a12⟩
     ·by_cases hki:k=i
      ·subst hki;have:o=l[k]:=by rw [hio] at hk;injection hk with hk;exact hk.symm
       subst this;rw [hv] at hu;injection hu with hu;subst hu
       exact putSame v d hd
      rw [hother k hki] at hls;exact putOther v d u (a6 k o d u hk hd hqk hls hu) (dstNe k o d hk hd hki)
     ·obtain ⟨h1,u,h2,h3⟩:=a7 p hp;have hpi:p.1≠i:=hqi p (e0.mem_iff.1 (by simp [hp]));exact ⟨hmono _ h1,u,h2,fun d hd=>putOther v d u (h3 d hd) (dstNe p.1 p.2 d (hch p (e0.mem_iff.1 (by simp [hp]))).2 hd hpi)⟩
     ·have hpi:p.1≠i:=hqi p (e0.mem_iff.1 (by simp [hp]));obtain ⟨h1,h2⟩:=a8 p hp;exact ⟨by rw [hother _ hpi];exact h1,h2⟩
     rcases a10 with h1 | h1
     ·exact .inl h1
     exact .inr fun k hk hqk hpk=>hmono k (h1 k hk hqk hpk)
    rcases hqv with ⟨hw1,hw2⟩ | ⟨hw1,hw2⟩
    ·have hwant:Region.wanted l[i] (yielded l.toArray a.tmps)=true:=by
      unfold Region.wanted;cases hg:l[i].guard with
      | none=>rfl
      | some jb=>
       obtain ⟨j,b⟩:=jb;simp only;unfold Ybr at hw1;simp only [hg] at hw1;cases hwt:waits l[i] j with
       | false=>simp [hwt] at hw1
       | true=>
        simp only [hwt] at hw1;split at hw1
        ·rename_i c hc;rw [hyield j b hg hwt c hc];exact Option.some.inj hw1
        cases hw1
     rw [if_pos hwant];exact .inl (W3.wp ((hw2 a.eval w hreads hkeep).mono fun v' w' ⟨he,hw'⟩=>by subst he;exact ih _ _ _ hcount (hnext w' hw')))
    have hwant:Region.wanted l[i] (yielded l.toArray a.tmps)=false:=by
     unfold Region.wanted;unfold Ybr at hw1;cases hg:l[i].guard with
     | none=>simp [hg] at hw1
     | some jb=>
      obtain ⟨j,b⟩:=jb;simp only;simp only [hg] at hw1;cases hwt:waits l[i] j with
      | false=>simp [hwt] at hw1
      | true=>
       simp only [hwt] at hw1;split at hw1
       ·rename_i c hc;rw [hyield j b hg hwt c hc];exact Option.some.inj hw1
       cases hw1
    rw [if_neg (by simp [hwant])];subst hw2;exact ih _ _ _ hcount (hnext w (Fr.refl _ _))
   -- the chain's next operation
   simp only [Classical.not_forall,Classical.not_not] at hqi;obtain ⟨p,hp,hpi⟩:=hqi;have hpl:=(hch p hp).2;rw [hpi,hio] at hpl;injection hpl with hpl
   have hprest:p∈rest:=by
    rcases List.mem_append.1 (e0.mem_iff.2 hp) with h1 | h1
    ·have:=(a7 p h1).1;rw [hpi,hun] at this;cases this
    exact h1
   obtain ⟨m,hm0⟩:∃ m,rest.length=m+1:=by
    cases rest with
    | nil=>cases hprest
    | cons q r=>exact ⟨r.length,rfl⟩
   have hlen:=YgN hnd hprest;have hlm:(rest.filter fun q=>!Nat.beq q.1 p.1).length=m:=by omega
   have hfree:(rest.all fun q=>!waits p.2 q.1)=true:=by
    refine List.all_eq_true.2 (fun q hq=>?_);cases hw:waits p.2 q.1 with
    | false=>rfl
    | true=>
     rw [<- hpl] at hw;have h1:=(hdone q.1 hw).1;have h2:=(a8 q hq).1;rw [h2] at h1;cases h1
   rw [hm0] at hC;unfold Po at hC;have hC0:=hC p hprest hfree;obtain ⟨qi,qo⟩:=p;simp only at hpi hpl;subst hpi;generalize hrr:(rest.filter fun q=>!Nat.beq q.1 qi)=r at*;have hrsub:∀ x∈r,x∈rest/\x.1≠qi:=fun x hx=>by
    rw [<- hrr] at hx;exact ⟨(List.mem_filter.1 hx).1,Yoc (List.mem_filter.1 hx).2⟩
   have hreads:Reads (rdc l l[qi] σ VE cv) a.eval:=by
    intro x u hx;cases x with
    | tmp t=>
     unfold rdc at hx;cases hw:YbC l t 0 with
     | none=>
      simp only [hw] at hx;have:=a5 t u hx (fun k o hk hd=>absurd hd (Yau l t 0 hw k o hk));simp [Act.eval,this]
     | some j=>
      simp only [hw] at hx;cases hwt:waits l[qi] j with
      | false=>
       simp only [hwt] at hx;cases hlb:YeS l l[qi] j with
       | false=>simp [hlb] at hx
       | true=>
        simp only [hlb] at hx;have:=a5 t u hx (hlate j t hw hlb);simp [Act.eval,this]
      | true=>
       simp only [hwt] at hx;obtain ⟨k,o,rfl,hk,hd⟩:=WB l t 0 j hw;simp only [Nat.zero_add] at*;cases hcv:lk cv k with
       | some u'=>
        simp only [hcv] at hx;injection hx with hx
        subst hx;obtain ⟨x,hx,hxk⟩:=a9 k u' hcv;obtain ⟨_,u2,hu2,hd2⟩:=a7 x hx;rw [hxk,hcv] at hu2;injection hu2 with hu2
        subst hu2;have hxl:=(hch x (e0.mem_iff.1 (by simp [hx]))).2;rw [hxk,hk] at hxl;injection hxl with hxl
        have:=hd2 t (by rw [<- hxl];exact hd);simp [Act.eval,this]
       | none=>
        simp only [hcv] at hx;have hqk:isQ k:=fun p hp he=>by
         have:=hVEch k (.inr ⟨p,hp,he⟩);rw [hx] at this;cases this
        have:=a6 k o t u hk hd hqk (hdone k hwt).1 hx;simp [Act.eval,this]
    | const c=>injection hx
    | global g=>injection hx
    | func f=>injection hx
   have hstep:=hC0;simp only at hstep;rw [<- hpl] at hstep;have hdoneT:∀ j,inPu (Yjd l l.length (Yi9 l[qi])) j=true->listed.getD j true=true:=YeL (fun k o hk hl m hm=>a13 k o hk hl m hm) _ _ (fun j hj=>(hdone j (YkR hj)).1);have nextA:∀ (v:Value) (fz':FZ) (H':HP) (w':World),Inv cx fz' H' w'->((done || allp l ch pu l[qi])=true\/Keep fz Hq fz' H'\/(fz'=fzs/\H'=Hs))->
    Po P cx l pu σ VE fz Hq Q ch m r (done || allp l ch pu l[qi]) ((qi,v)::cv) (match l[qi].dst with | some d=>(d,v)::τ | none=>τ) fz' H'->A (listed.setIfInBounds qi true) (a.put l[qi].dst v) w':=by
    intro v fz' H' w' hinv hst hrest;refine ⟨pre++ [(qi,qo)],r,_,(qi,v)::cv,_,fz',H',by rw [<- hrr];exact (YjM hnd hprest).trans e0,by rw [<- hrr];exact YcD hnd,by rw [hlm];exact hrest,hinv,putSize v,putDef v,by simpa using a4,⟨a5n v,a13n⟩,fun k o d u hk hd hqk hls hu=>?_,fun x hx=>?_,fun x hx=>?_,fun j u hj=>?_,?_,fun hd k hk hqk hpk=>?_,fun s u hs=>?_⟩
    ·have hki:k≠qi:=fun he=>hqk (qi,qo) hp he.symm
     rw [hother k hki] at hls;exact putOther v d u (a6 k o d u hk hd hqk hls hu) (dstNe k o d hk hd hki)
    ·rcases List.mem_append.1 hx with hx | hx
     ·obtain ⟨h1,u,h2,h3⟩:=a7 x hx;have hne:x.1≠qi:=fun he=>by rw [he,hun] at h1;cases h1
      exact ⟨hmono _ h1,u,by rw [YZ v cv Zi];exact h2,fun d hd=>putOther v d u (h3 d hd) (dstNe x.1 x.2 d (hch x (e0.mem_iff.1 (by simp [hx]))).2 hd hne)⟩
     simp only [List.mem_singleton] at hx;subst hx;exact ⟨hsame,v,Xh _ _ _,fun d hd=>putSame v d (by rw [hpl];exact hd)⟩
    ·obtain ⟨h1,h2⟩:=a8 x (hrsub x hx).1;have hne:x.1≠qi:=(hrsub x hx).2;exact ⟨by rw [hother _ hne];exact h1,by rw [YZ v cv Zi];exact h2⟩
    ·by_cases he:qi=j
     ·exact ⟨(qi,qo),by simp,he⟩
     rw [YZ v cv he] at hj;obtain ⟨x,hx,hxj⟩:=a9 j u hj;exact ⟨x,by simp [hx],hxj⟩
    ·rcases hst with hst | hst
     ·right;intro k hk hqk hpk;cases hdn:done with
      | true=>exact hmono k (a11 hdn k hk hqk hpk)
      | false=>
       rw [hdn,Bool.false_or] at hst;unfold allp at hst;have:=List.all_eq_true.1 hst k (by simpa using hk);rw [hpk,Bool.or_false,Bool.or_eq_true] at this;rcases this with h1 | h1
       ·unfold inCh at h1;obtain ⟨x,hx,hxk⟩:=List.any_eq_true.1 h1;exact absurd (Nat.eq_of_beq_eq_true hxk) (hqk x hx)
       exact hmono k (hdoneT k h1)
     rcases hst with hst | ⟨h1,h2⟩
     ·exact .inl hst
     subst h1 h2;rcases a10 with h3 | h3
     ·exact .inl h3
     exact .inr fun k hk hqk hpk=>hmono k (h3 k hk hqk hpk)
    ·rw [Bool.or_eq_true] at hd;rcases hd with hd | hd
     ·exact hmono k (a11 hd k hk hqk hpk)
     unfold allp at hd;have:=List.all_eq_true.1 hd k (by simpa using hk);rw [hpk,Bool.or_false,Bool.or_eq_true] at this;rcases this with h1 | h1
     ·unfold inCh at h1;obtain ⟨x,hx,hxk⟩:=List.any_eq_true.1 h1;exact absurd (Nat.eq_of_beq_eq_true hxk) (hqk x hx)
     exact hmono k (hdoneT k h1)
    have hcvx:∀ x∈pre,lk ((qi,v)::cv) x.1=lk cv x.1:=by
     intro x hx;have h1:=(a7 x hx).1;have hne:x.1≠qi:=fun he=>by rw [he,hun] at h1;cases h1
     exact YZ v cv Zi
    cases hd:l[qi].dst with
    | none=>
     simp only [hd] at hs;rcases a12 s u hs with h1 | ⟨x,hx,hxd,hxv⟩ | ⟨h1,h2,h3⟩
     ·exact .inl h1
     ·exact .inr (.inl ⟨x,by simp [hx],hxd,by rw [hcvx x hx];exact hxv⟩)
     refine .inr (.inr ⟨h1,h2,fun x hx=>?_⟩);rcases List.mem_append.1 hx with hx | hx
     ·exact h3 x hx
     simp only [List.mem_singleton] at hx;subst hx;simp only [<- hpl,hd];simp
    | some d=>
     simp only [hd] at hs;by_cases he:d=s
     ·subst he;rw [Xh] at hs;exact .inr (.inl ⟨(qi,qo),by simp,by rw [<- hpl];exact hd,by rw [Xh];exact hs⟩)
     rw [YZ v τ he] at hs;rcases a12 s u hs with h1 | ⟨x,hx,hxd,hxv⟩ | ⟨h1,h2,h3⟩
     ·exact .inl h1
     ·exact .inr (.inl ⟨x,by simp [hx],hxd,by rw [hcvx x hx];exact hxv⟩)
     refine .inr (.inr ⟨h1,h2,fun x hx=>?_⟩);rcases List.mem_append.1 hx with hx | hx
     ·exact h3 x hx
     simp only [List.mem_singleton] at hx;subst hx;simp only [<- hpl,hd];intro hc;injection hc with hc;exact he hc
   have hwantC:∀ c,Ygb l[qi] VE cv=some c->Region.wanted l[qi] (yielded l.toArray a.tmps)=c:=by
    intro c hw1;unfold Region.wanted;unfold Ygb at hw1;cases hg:l[qi].guard with
    | none=>simp only [hg] at hw1;injection hw1
    | some jb=>
     obtain ⟨j,b⟩:=jb;simp only;simp only [hg] at hw1;cases hwt:waits l[qi] j with
     | false=>simp [hwt] at hw1
     | true=>
      simp only [hwt] at hw1;cases hcj:lk cv j with
      | some u=>
       simp only [hcj] at hw1;obtain ⟨x,hx,hxj⟩:=a9 j u hcj;obtain ⟨_,u',hu',hdu⟩:=a7 x hx;rw [hxj,hcj] at hu';injection hu' with hu'
       subst hu';have hxl:=(hch x (e0.mem_iff.1 (by simp [hx]))).2;obtain ⟨h1,h2⟩:=hdone j hwt;rw [hxj,List.getElem?_eq_getElem h2] at hxl;injection hxl with hxl
       have hy:yielded l.toArray a.tmps j=asB u:=by
        unfold yielded;rw [hops j,List.getElem?_eq_getElem h2];cases hd:l[j].dst with
        | none=>
         have h7:=List.all_eq_true.1 hG l[qi] (List.getElem_mem hil);simp [hg,List.getElem?_eq_getElem h2,hd] at h7
        | some d=>
         have:=hdu d (by rw [<- hxl];exact hd);simp only [Option.bind_some,hd,this];cases u<;>rfl
       rw [hy];exact Option.some.inj hw1
      | none=>
       simp only [hcj] at hw1;split at hw1
       ·rename_i c hc;rw [hyield j b hg hwt c hc];exact Option.some.inj hw1
       cases hw1
   rcases hstep with ⟨hw1,hdo⟩ | ⟨hw1,hno⟩
   ·rw [if_pos (hwantC true hw1)];refine .inl (W3.wp ((hdo.run a.eval w hreads a1).mono fun v w' hh=>?_));obtain ⟨fz',H',hinv,hst,hrest⟩:=hh;exact ih _ _ _ hcount (nextA v fz' H' w' hinv (hst.imp (fun h=>h) .inl) hrest)
   rw [if_neg (by rw [hwantC false hw1];simp)];exact ih _ _ _ hcount (nextA undef fzs Hs w a1 (.inr (.inr ⟨rfl,rfl⟩)) hno)
 refine wp_region_any hm (main _ _ _ _ ?_ ⟨[],ch,false,[],τF,fz,H,by simp,hcok,hCh,hi.drew,hs.size,hs.defers,by simp,⟨fun s v hv _=>hs.slot s v hv,fun k o hk hls=>?_⟩,fun k o d v hk hd _ hls=>?_,by simp,fun p hp=>⟨?_,rfl⟩,(fun j v hj=>by cases hj),.inl ⟨Le.refl _,fun p hp=>hHq.subset hp⟩,(fun h=>by cases h),fun s v hsv=>?_⟩)
 ·have:=List.countP_le_length (p:=fun i=>!(Array.replicate l.toArray.size false).getD i true) (l:=List.range l.length);simpa using this
 ·have:k<l.length:=(Zg hk).1;simp [Array.getD,this] at hls
 ·have:k<l.length:=(Zg hk).1;simp [Array.getD,this] at hls
 ·have:p.1<l.length:=(Zg (hch p hp).2).1;simp [Array.getD,this]
 rcases hτ s v hsv with ⟨k,o,hk,hd,hl⟩ | ⟨hl,hn⟩
 ·refine .inl ⟨k,o,hk,hd,fun p hp he=>?_,hl⟩;have:=hVEch k (.inr ⟨p,hp,he⟩);rw [hl] at this;cases this
 exact .inr (.inr ⟨hl,fun k o hk hqk=>hn k o hk hqk,by simp⟩)
def YmB (rest:List (Nat × Oper)):List (Nat × Oper):=rest.filter fun p=>rest.all fun q=>!waits p.2 q.1
theorem mem_ready {rest:List (Nat × Oper)} {p:Nat × Oper} (hp:p∈rest) (hf:(rest.all fun q=>!waits p.2 q.1)=true):p∈YmB rest:=List.mem_filter.2 ⟨hp,hf⟩
variable {Hq:HP} {pu:List Nat} {σ' τ ve cv:Env} {l:List Oper} {all rest r1 r2:List (Nat × Oper)} {i j d:Nat} {o o2:Oper} {dn:Bool} {fz0:FZ} {m:Nat}
def PoS (P:Program) (cx:Cx) (ops:List Oper) (pu:List Nat) (σ ve:Env) (fz0:FZ) (Hq:HP) (Q:QQ) (all:List (Nat × Oper)) (m:Nat) (rest':List (Nat × Oper)) (done:Bool) (cv τ:Env) (fz:FZ) (H:HP) (i:Nat) (o:Oper):Prop:=
 (Ygb o ve cv=some true/\Does P cx o (rdc ops o σ ve cv) fz H fun v fz' H'=>
  ((done || allp ops all pu o)=true\/Keep fz0 Hq fz' H')/\
  Po P cx ops pu σ ve fz0 Hq Q all m rest' (done || allp ops all pu o) ((i,v)::cv) (match o.dst with | some d=>(d,v)::τ | none=>τ) fz' H')\/
 (Ygb o ve cv=some false/\Po P cx ops pu σ ve fz0 Hq Q all m rest' (done || allp ops all pu o) ((i,undef)::cv) (match o.dst with | some d=>(d,undef)::τ | none=>τ) fz H)
theorem Yc (hr:YmB rest=[(i,o)]) (hf:(rest.filter fun q=>!Nat.beq q.1 i)=r1) (h:PoS P cx l pu σ' ve fz0 Hq Q all m r1 dn cv τ fz H i o):Po P cx l pu σ' ve fz0 Hq Q all (m+1) rest dn cv τ fz H:=by
 unfold Po;intro p hp hfree;have:=mem_ready hp hfree;rw [hr,List.mem_singleton] at this;subst this;rw [hf];exact h
theorem YI (hr:YmB rest=[(i,o),(j,o2)]) (hf:(rest.filter fun q=>!Nat.beq q.1 i)=r1) (hg:(rest.filter fun q=>!Nat.beq q.1 j)=r2) (h:PoS P cx l pu σ' ve fz0 Hq Q all m r1 dn cv τ fz H i o) (k:PoS P cx l pu σ' ve fz0 Hq Q all m r2 dn cv τ fz H j o2):Po P cx l pu σ' ve fz0 Hq Q all (m+1) rest dn cv τ fz H:=by
 unfold Po;intro p hp hfree;have:=mem_ready hp hfree;rw [hr,List.mem_cons,List.mem_singleton] at this;rcases this with this | this
 ·subst this;rw [hf];exact h
 subst this;rw [hg];exact k
theorem Po.done (h:Q .normal τ fz H):Po P cx l pu σ' ve fz0 Hq Q all 0 rest dn cv τ fz H:=by unfold Po;exact h
theorem Does.freezeAll {r:Operand->Option Value} {K:Value->FZ->HP->Prop} {H1 H2:HP} (hp:H.Perm (H1++H2)) (h:∀ fz',Le fz fz'->(∀ p∈H2,fz' p.1=some p.2)->Does P cx o r fz' H1 K):Does P cx o r fz H K:=
 Does.of fun ρ w hr hi=>by
  obtain ⟨fz',h1,h2,h3⟩:=WK H2 fz H1 (hi.perm hp.symm);exact (h fz' h1 h2).run ρ w hr h3
theorem Does.after {r:Operand->Option Value} {K:Value->FZ->HP->Prop} (h:Does P cx o r fz H fun v fz' H'=>∃ H2,H2.Perm H'/\K v fz' H2):Does P cx o r fz H K:=
 Does.of fun ρ w hr hi=>(h.run ρ w hr hi).mono fun v w' hh=>by
  obtain ⟨fz',H',h1,H2,h2,h3⟩:=hh;exact ⟨fz',H2,h1.perm h2,h3⟩
variable {op:Op} {ty:TypeId} {pos:String} {af:Array Edge}
theorem Yd (h:Does P cx ⟨some d,op,ty,pos,af,none⟩ (rdc l ⟨some d,op,ty,pos,af,none⟩ σ' ve cv) fz H fun v fz' H'=>Keep fz0 Hq fz' H'/\Po P cx l pu σ' ve fz0 Hq Q all m r1 (dn || allp l all pu ⟨some d,op,ty,pos,af,none⟩) ((i,v)::cv) ((d,v)::τ) fz' H'):
 PoS P cx l pu σ' ve fz0 Hq Q all m r1 dn cv τ fz H i ⟨some d,op,ty,pos,af,none⟩:=by
 refine .inl ⟨rfl,?_⟩;exact Does.of fun ρ w hr hi=>(h.run ρ w hr hi).mono fun v w' hh=>by
  obtain ⟨fz',H',h1,h2,h3⟩:=hh;exact ⟨fz',H',h1,.inr h2,h3⟩
theorem PoS.soft0 (h:Does P cx ⟨none,op,ty,pos,af,none⟩ (rdc l ⟨none,op,ty,pos,af,none⟩ σ' ve cv) fz H fun v fz' H'=>Keep fz0 Hq fz' H'/\Po P cx l pu σ' ve fz0 Hq Q all m r1 (dn || allp l all pu ⟨none,op,ty,pos,af,none⟩) ((i,v)::cv) τ fz' H'):
 PoS P cx l pu σ' ve fz0 Hq Q all m r1 dn cv τ fz H i ⟨none,op,ty,pos,af,none⟩:=by
 refine .inl ⟨rfl,?_⟩;exact Does.of fun ρ w hr hi=>(h.run ρ w hr hi).mono fun v w' hh=>by
  obtain ⟨fz',H',h1,h2,h3⟩:=hh;exact ⟨fz',H',h1,.inr h2,h3⟩
theorem PoS.hard (hd:(dn || allp l all pu ⟨some d,op,ty,pos,af,none⟩)=true) (h:Does P cx ⟨some d,op,ty,pos,af,none⟩ (rdc l ⟨some d,op,ty,pos,af,none⟩ σ' ve cv) fz H fun v fz' H'=>Po P cx l pu σ' ve fz0 Hq Q all m r1 true ((i,v)::cv) ((d,v)::τ) fz' H'):
 PoS P cx l pu σ' ve fz0 Hq Q all m r1 dn cv τ fz H i ⟨some d,op,ty,pos,af,none⟩:=by
 refine .inl ⟨rfl,?_⟩;exact Does.of fun ρ w hr hi=>(h.run ρ w hr hi).mono fun v w' hh=>by
  obtain ⟨fz',H',h1,h3⟩:=hh;exact ⟨fz',H',h1,.inl hd,by rw [hd];exact h3⟩
theorem PoS.hard0 (hd:(dn || allp l all pu ⟨none,op,ty,pos,af,none⟩)=true) (h:Does P cx ⟨none,op,ty,pos,af,none⟩ (rdc l ⟨none,op,ty,pos,af,none⟩ σ' ve cv) fz H fun v fz' H'=>Po P cx l pu σ' ve fz0 Hq Q all m r1 true ((i,v)::cv) τ fz' H'):
 PoS P cx l pu σ' ve fz0 Hq Q all m r1 dn cv τ fz H i ⟨none,op,ty,pos,af,none⟩:=by
 refine .inl ⟨rfl,?_⟩;exact Does.of fun ρ w hr hi=>(h.run ρ w hr hi).mono fun v w' hh=>by
  obtain ⟨fz',H',h1,h3⟩:=hh;exact ⟨fz',H',h1,.inl hd,by rw [hd];exact h3⟩
theorem PK.q {K:Env->Env->List (Nat × Oper)->Prop} {rest:List Oper} {ch:List (Nat × Oper)} (hp:inPu pu i=false) (h:DoesQ P cx ⟨some d,op,ty,pos,af,none⟩ (rdq l ⟨some d,op,ty,pos,af,none⟩ σ' ve) fz Hq fun v=>PK P cx l pu σ' fz Hq K (i+1) rest ((i,v)::ve) ((d,v)::τ) ch):
 PK P cx l pu σ' fz Hq K i (⟨some d,op,ty,pos,af,none⟩::rest) ve τ ch:=by
 unfold DoesQ at h;obtain ⟨v,h1,h2⟩:=h;unfold PK;exact .inl ⟨v,by unfold QOkP;rw [hp];exact .inl ⟨rfl,h2⟩,h1⟩
theorem PK.p {K:Env->Env->List (Nat × Oper)->Prop} {rest:List Oper} {ch:List (Nat × Oper)} (hp:inPu pu i=true) (h:∀ fz',DoesQ P cx ⟨some d,op,ty,pos,af,none⟩ (rdq l ⟨some d,op,ty,pos,af,none⟩ σ' ve) fz' [] fun u=>u=v) (k:PK P cx l pu σ' fz Hq K (i+1) rest ((i,v)::ve) ((d,v)::τ) ch):
 PK P cx l pu σ' fz Hq K i (⟨some d,op,ty,pos,af,none⟩::rest) ve τ ch:=by
 unfold PK;refine .inl ⟨v,?_,k⟩;unfold QOkP;rw [hp];intro fz';have h1:=h fz';unfold DoesQ at h1;obtain ⟨u,rfl,h2⟩:=h1;exact .inl ⟨rfl,h2⟩
theorem Ye {K:Env->Env->List (Nat × Oper)->Prop} {rest:List Oper} {ch:List (Nat × Oper)} {o:Oper} (h:PK P cx l pu σ' fz Hq K (i+1) rest ve τ (ch++ [(i,o)])):PK P cx l pu σ' fz Hq K i (o::rest) ve τ ch:=by
 unfold PK;exact .inr h
theorem PK.done {K:Env->Env->List (Nat × Oper)->Prop} {ch:List (Nat × Oper)} (h:K ve τ ch):PK P cx l pu σ' fz Hq K i [] ve τ ch:=by
 unfold PK;exact h
theorem PoS.qk (hk:Keep fz0 Hq fz H) (h:DoesQ P cx ⟨some d,op,ty,pos,af,none⟩ (rdc l ⟨some d,op,ty,pos,af,none⟩ σ' ve cv) fz H fun v=>Po P cx l pu σ' ve fz0 Hq Q all m r1 (dn || allp l all pu ⟨some d,op,ty,pos,af,none⟩) ((i,v)::cv) ((d,v)::τ) fz H):
 PoS P cx l pu σ' ve fz0 Hq Q all m r1 dn cv τ fz H i ⟨some d,op,ty,pos,af,none⟩:=Yd ((h.mono fun _ hv=>⟨hk,hv⟩).does)
theorem PK.yes {K:Env->Env->List (Nat × Oper)->Prop} {rest:List Oper} {ch:List (Nat × Oper)} {g:Nat × Bool} (hp:inPu pu i=false) (hw:Ybr ⟨some d,op,ty,pos,af,some g⟩ ve=some true) (h:DoesQ P cx ⟨some d,op,ty,pos,af,some g⟩ (rdq l ⟨some d,op,ty,pos,af,some g⟩ σ' ve) fz Hq fun v=>PK P cx l pu σ' fz Hq K (i+1) rest ((i,v)::ve) ((d,v)::τ) ch):
 PK P cx l pu σ' fz Hq K i (⟨some d,op,ty,pos,af,some g⟩::rest) ve τ ch:=by
 unfold DoesQ at h;obtain ⟨v,h1,h2⟩:=h;unfold PK;exact .inl ⟨v,by unfold QOkP;rw [hp];exact .inl ⟨hw,h2⟩,h1⟩
end
attribute [irreducible] Po PoS PK
end Go.Lx
set_option maxRecDepth 20000
namespace Go.Proofs.YtfjopfinkdhmaaaGreatDoor
open Go.Lx Go.RowKit
attribute [local instance 10] Classical.propDecidable
open Go.Proofs.Tryz (prog)
def X7:Bs:=⟨#[112,114,101,100,105,99,97,116,101,32]⟩
def XH:Bs:=⟨#[102,117,110,99,116,105,111,110,32]⟩
def Yb3:Bs:=⟨#[111,98,106,101,99,116,32]⟩
def WN:Bs:=⟨#[97,99,116,105,111,110,32]⟩
def XI:Bs:=⟨#[100,117,114,97,116,105,118,101,32]⟩
def Xx {α:Type} (E:α->Int):List (Bs × α)->Bs × Int
 | []=>(⟨#[]⟩,0)
 | p::r=>if E p.2=0 then Xx E r else (p.1,E p.2)
theorem Y8 {α β:Type} {E:β->Int} {f:α->Bs} {g:α->β} {r:List (Bs × β)}:∀ {l:List α},(∀ x∈l,E (g x)=0)->Xx E (l.map (fun x=>(f x,g x))++r)=Xx E r
 | [],_=>rfl
 | x::l,h=>by
  rw [List.map_cons,List.cons_append,Xx,if_pos (h x (by simp))];exact Y8 (fun y hy=>h y (by simp [hy]))
theorem WE {α β:Type} {E:β->Int} {f:α->Bs} {g:α->β} {r:List (Bs × β)}:∀ {l:List α} {k:Nat} {x:α},l[k]?=some x->(∀ i,i<k->∀ y,l[i]?=some y->E (g y)=0)->E (g x)≠0->Xx E (l.map (fun x=>(f x,g x))++r)=(f x,E (g x))
 | [],k,x,h,_,_=>by simp at h
 | y::l,0,x,h,_,hx=>by
  simp at h;subst h;rw [List.map_cons,List.cons_append,Xx,if_neg hx]
 | y::l,k+1,x,h,hh,hx=>by
  rw [List.map_cons,List.cons_append,Xx,if_pos (hh 0 Zi y rfl)];exact WE (k:=k) (by simpa using h) (fun i hi z hz=>hh (i+1) Zi z (by simpa using hz)) hx
def resV (a:Bs × Int):Value:=.tuple #[.string a.1,errV a.2]
structure NmS (d:Domain) (all:List Param):Prop where
 p:∀ x∈d.predicates,x.name.size<=1000
 f:∀ x∈d.functions,x.name.size<=1000
 o:∀ x∈all,x.name.size<=1000
 a:∀ x∈d.actions,x.name.size<=1000
 u:∀ x∈d.duratives,x.name.size<=1000
def YbR (d:Domain) (all:List Param):List (Bs × List Param):=
 d.predicates.map (fun x=>(X7++x.name,x.params))++(d.functions.map (fun x=>(XH++x.name,x.params))++(all.map (fun x=>(Yb3++x.name,[x]))++(d.actions.map (fun x=>(WN++x.name,x.params))++(d.duratives.map (fun x=>(XI++x.name,x.params))++ []))))
variable {all:List Param} {d:Domain} {fz:FZ} {v vp:Value}
set_option maxHeartbeats 4000000 in
/-- lists, without the objects (ob false) or with them: fv is the check -/
theorem Ynd {p:Problem} {vf vg vo:Value} {ob:Bool} {f:FuncId} {first capt:List Value} {E:List Param->Int} (h:CkR fz v d p all vf vp vg vo) (hs:NmS d all)
 (hE:∀ {A:Option Addr} {n c:Nat} {l:List Param} {fz':FZ},Le fz fz'->Sl paramL fz' A n c l->QFn prog f (first++ [.slice A n c]++capt) fz' (errV (E l))):
 QFn prog 74 [v,.func (.func f) first.toArray capt.toArray,.bool ob] fz (resV (Xx E (YbR d (if ob=true then all else [])))):=by
 obtain ⟨gc,v1,v2,v3,v4,v5,v6,u1,u2,u3,u4,u5,u6,u7,Aa,na,ca,rfl,hc,hD,hP,hall⟩:=h;obtain ⟨A1,n1,b1,rfl,i1⟩:=hD.types;obtain ⟨A2,n2,b2,rfl,i2⟩:=hD.constants;obtain ⟨A3,n3,b3,rfl,i3⟩:=hD.predicates;obtain ⟨A4,n4,b4,rfl,i4⟩:=hD.functions;obtain ⟨A5,n5,b5,rfl,i5⟩:=hD.actions;obtain ⟨A6,n6,b6,rfl,i6⟩:=hD.duratives;have l3:=i3.len;have l4:=i4.len;have l5:=i5.len;have l6:=i6.len;have la:=hall.len;have s3:=i3.short;have s4:=i4.short;have s5:=i5.short;have s6:=i6.short;have sa:=hall.short;refine GFn.quiet ?_;refine zF Tryz.func74 Tryz.ntmps74 (fun w0=>?_);refine zV ?_;refine Ym (fun q σ fz' H'=>∃ k:Nat,k<=n3/\q=n3 - k/\σ=[(29,Zk k),(28,Zk n3),(27,.slice A3 n3 b3),(0,Zp gc),(1,.func (.func f) first.toArray capt.toArray),(2,.bool ob)]/\fz=fz'/\H'=[]/\(∀ i,i<k->∀ x,d.predicates[i]?=some x->E x.params=0)) ⟨0,Z0 _,rfl,rfl,rfl,rfl,fun i hi=>absurd hi Zi⟩ Zw Zb ?_;rintro q σ fz' H' ⟨k,hk,rfl,rfl,rfl,rfl,hh⟩;refine zV ?_;refine zC (fun c1=>?_) (fun c1=>?_)
 ·obtain ⟨x,hx⟩:=Yl (l:=d.predicates) (k:=k) Zi;have hxs:=hs.p x (Zm hx);refine zV ?_;refine zI i3 hx (fun p1 hp=>?_);refine zL hp ?_;intro cs hcs;obtain ⟨w1,rfl,hR⟩:=XK hcs;obtain ⟨Ap,np,cp,rfl,ip⟩:=hR.params;refine zV ?_;intros;refine zG ?_;refine Ycz Zz Zz Zz (hE (Le.refl _) ip) ?_;by_cases hz:E x.params=0
  ·rw [hz,show errV 0=.nilIface from rfl];refine zV ?_;exact WO ⟨k+1,by omega,rfl,rfl,rfl,rfl,YL hh hx hz⟩ Zi Zw Zb
  rw [Yk hz];refine zV ?_;refine zG ?_;refine XT Zz Zz (by show _+_<=_;exact Nat.le_trans (Nat.add_le_add_left hxs _) Zh) ?_;refine zV ?_;exact ret2 rfl rfl rfl Zb (by rw [YbR,WE (l:=d.predicates) (E:=E) (f:=fun x=>X7++x.name) (g:=fun x=>x.params) hx hh hz];rw [resV,Yk hz];rfl)
 have hzp:=fun x (hx:x∈d.predicates)=>(by obtain ⟨i,hi⟩:=List.getElem?_of_mem hx;exact Xy hh Zi x hx:E x.params=0)
 refine zV ?_;refine Ym (fun q σ fz' H'=>∃ k:Nat,k<=n4/\q=n4 - k/\σ=[(50,Zk k),(49,Zk n4),(48,.slice A4 n4 b4),(0,Zp gc),(1,.func (.func f) first.toArray capt.toArray),(2,.bool ob)]/\fz=fz'/\H'=[]/\(∀ i,i<k->∀ x,d.functions[i]?=some x->E x.params=0)) ⟨0,Z0 _,rfl,rfl,rfl,rfl,fun i hi=>absurd hi Zi⟩ Zw Zb ?_;rintro q σ fz' H' ⟨k,hk,rfl,rfl,rfl,rfl,hh⟩;refine zV ?_;refine zC (fun c1=>?_) (fun c1=>?_)
 ·obtain ⟨x,hx⟩:=Yl (l:=d.functions) (k:=k) Zi;have hxs:=hs.f x (Zm hx);refine zV ?_;refine zI i4 hx (fun p1 hp=>?_);refine zL hp ?_;intro cs hcs;obtain ⟨w1,rfl,hR⟩:=Y9 hcs;obtain ⟨Ap,np,cp,rfl,ip⟩:=hR.params;refine zV ?_;intros;refine zG ?_;refine Ycz Zz Zz Zz (hE (Le.refl _) ip) ?_;by_cases hz:E x.params=0
  ·rw [hz,show errV 0=.nilIface from rfl];refine zV ?_;exact WO ⟨k+1,by omega,rfl,rfl,rfl,rfl,YL hh hx hz⟩ Zi Zw Zb
  rw [Yk hz];refine zV ?_;refine zG ?_;refine XT Zz Zz (by show _+_<=_;exact Nat.le_trans (Nat.add_le_add_left hxs _) Zh) ?_;refine zV ?_;exact ret2 rfl rfl rfl Zb (by rw [YbR,Y8 (l:=d.predicates) (E:=E) (f:=fun x=>X7++x.name) (g:=fun x=>x.params) hzp,WE (l:=d.functions) (E:=E) (f:=fun x=>XH++x.name) (g:=fun x=>x.params) hx hh hz];rw [resV,Yk hz];rfl)
 have hzf:=fun x (hx:x∈d.functions)=>(by obtain ⟨i,hi⟩:=List.getElem?_of_mem hx;exact Xy hh Zi x hx:E x.params=0)
 refine zVX ?_;refine Yj ?_;refine zVX ?_;refine Yj (Wp.mid (fun σ fz' H'=>σ=[(0,Zp gc),(1,.func (.func f) first.toArray capt.toArray)]/\fz=fz'/\H'=[]/\(∀ r,Xx E ((if ob=true then all else []).map (fun x=>(Yb3++x.name,[x]))++r)=Xx E r)) ?_ ?_)
 ·refine zV ?_;refine Ym (fun q σ fz' H'=>∃ k:Nat,k<=na/\q=na - k/\σ=[(70,Zk k),(69,Zk na),(68,.slice Aa na ca),(0,Zp gc),(1,.func (.func f) first.toArray capt.toArray),(2,.bool ob)]/\fz=fz'/\H'=[]/\(∀ i,i<k->∀ x,all[i]?=some x->E [x]=0)/\(ob=false->k=0)) ⟨0,Z0 _,rfl,rfl,rfl,rfl,fun i hi=>absurd hi Zi,fun _=>rfl⟩ Zw Zb ?_;rintro q σ fz' H' ⟨k,hk,rfl,rfl,rfl,rfl,hh,hob⟩;refine zV ?_;refine zC (fun c1=>?_) (fun c1=>?_)
  ·obtain ⟨x,hx⟩:=Yl (l:=all) (k:=k) Zi;have hxs:=hs.o x (Zm hx);refine zV ?_;refine zI hall hx (fun p1 hp=>?_);refine zL hp ?_;intro cs hcs;obtain ⟨rfl,hR⟩:=YR hcs;cases ob with
   | false=>
    refine zV ?_;intros;exact midN ⟨rfl,rfl,rfl,fun r=>rfl⟩ Zw Zb
   | true=>
    refine zV ?_;intros;refine Ya Zz (Yb T (cs:=[.string x.name,.string x.typ]) Zz Zz Zz Zz Zz Zz Zz Zz (fun gb=>?_));refine zG ?_;refine q_callvU Zz Zz Zz (fun fz' hl hf=>hE hl (Xz (l:=[x]) (ys:=[(x,[.string x.name,.string x.typ])]) (hf _ (.head _)) rfl rfl (by simpa using Yca (hR.mono hl)) rfl (by simp))) ?_;by_cases hz:E [x]=0
    ·rw [hz,show errV 0=.nilIface from rfl];refine zV ?_;exact WO ⟨k+1,by omega,rfl,rfl,rfl,rfl,YL hh hx hz,fun h0=>by cases h0⟩ Zi Zw Zb
    rw [Yk hz];refine zV ?_;refine zG ?_;refine XT Zz Zz (by show _+_<=_;exact Nat.le_trans (Nat.add_le_add_left hxs _) Zh) ?_;refine zV ?_;exact ret2 rfl rfl rfl Zb (by rw [YbR,Y8 (l:=d.predicates) (E:=E) (f:=fun x=>X7++x.name) (g:=fun x=>x.params) hzp,Y8 (l:=d.functions) (E:=E) (f:=fun x=>XH++x.name) (g:=fun x=>x.params) hzf,if_pos rfl,WE (l:=all) (E:=E) (f:=fun x=>Yb3++x.name) (g:=fun x=>[x]) hx hh hz];rw [resV,Yk hz];rfl)
  have hzo:∀ x∈all,E [x]=0\/ob=false:=fun x hx=>by
   cases ob with
   | false=>exact .inr rfl
   | true=>obtain ⟨i,hi⟩:=List.getElem?_of_mem hx;exact .inl (Xy (p:=fun x=>E [x]=0) hh Zi x hx)
  refine zV ?_;exact midN ⟨rfl,rfl,rfl,fun r=>by
   cases ob with
   | false=>rfl
   | true=>exact Y8 (l:=all) (E:=E) (f:=fun x=>Yb3++x.name) (g:=fun x=>[x]) (fun x hx=>(hzo x hx).elim (fun h=>h) (fun h=>by cases h))⟩ Zw Zb
 rintro σ fz' H' ⟨rfl,rfl,rfl,hzo⟩;refine zV ?_;refine Ym (fun q σ fz' H'=>∃ k:Nat,k<=n5/\q=n5 - k/\σ=[(93,Zk k),(92,Zk n5),(91,.slice A5 n5 b5),(0,Zp gc),(1,.func (.func f) first.toArray capt.toArray)]/\fz=fz'/\H'=[]/\(∀ i,i<k->∀ x,d.actions[i]?=some x->E x.params=0)) ⟨0,Z0 _,rfl,rfl,rfl,rfl,fun i hi=>absurd hi Zi⟩ Zw Zb ?_;rintro q σ fz' H' ⟨k,hk,rfl,rfl,rfl,rfl,hh⟩;refine zV ?_;refine zC (fun c1=>?_) (fun c1=>?_)
 ·obtain ⟨x,hx⟩:=Yl (l:=d.actions) (k:=k) Zi;have hxs:=hs.a x (Zm hx);refine zV ?_;refine zI i5 hx (fun p1 hp=>?_);refine zL hp ?_;intro cs hcs;obtain ⟨w1,w2,w3,w4,w5,w6,rfl,hR⟩:=Xq hcs;obtain ⟨Ap,np,cp,rfl,ip⟩:=hR.params;obtain ⟨B0,e0,j0,rfl,_⟩:=hR.pre.args;obtain ⟨B1,e1,j1,rfl,_⟩:=hR.pre.params;obtain ⟨B2,e2,j2,rfl,_⟩:=hR.pre.exprs;obtain ⟨B3,e3,j3,rfl,_⟩:=hR.pre.kids;obtain ⟨B4,e4,j4,rfl,_⟩:=hR.changes;refine zV ?_;intros;refine zG ?_;refine Ycz Zz Zz Zz (hE (Le.refl _) ip) ?_;by_cases hz:E x.params=0
  ·rw [hz,show errV 0=.nilIface from rfl];refine zV ?_;exact WO ⟨k+1,by omega,rfl,rfl,rfl,rfl,YL hh hx hz⟩ Zi Zw Zb
  rw [Yk hz];refine zV ?_;refine zG ?_;refine XT Zz Zz (by show _+_<=_;exact Nat.le_trans (Nat.add_le_add_left hxs _) Zh) ?_;refine zV ?_;exact ret2 rfl rfl rfl Zb (by rw [YbR,Y8 (l:=d.predicates) (E:=E) (f:=fun x=>X7++x.name) (g:=fun x=>x.params) hzp,Y8 (l:=d.functions) (E:=E) (f:=fun x=>XH++x.name) (g:=fun x=>x.params) hzf,hzo,WE (l:=d.actions) (E:=E) (f:=fun x=>WN++x.name) (g:=fun x=>x.params) hx hh hz];rw [resV,Yk hz];rfl)
 have hza:=fun x (hx:x∈d.actions)=>(by obtain ⟨i,hi⟩:=List.getElem?_of_mem hx;exact Xy hh Zi x hx:E x.params=0)
 refine zV ?_;refine Ym (fun q σ fz' H'=>∃ k:Nat,k<=n6/\q=n6 - k/\σ=[(114,Zk k),(113,Zk n6),(112,.slice A6 n6 b6),(1,.func (.func f) first.toArray capt.toArray)]/\fz=fz'/\H'=[]/\(∀ i,i<k->∀ x,d.duratives[i]?=some x->E x.params=0)) ⟨0,Z0 _,rfl,rfl,rfl,rfl,fun i hi=>absurd hi Zi⟩ Zw Zb ?_;rintro q σ fz' H' ⟨k,hk,rfl,rfl,rfl,rfl,hh⟩;refine zV ?_;refine zC (fun c1=>?_) (fun c1=>?_)
 ·obtain ⟨x,hx⟩:=Yl (l:=d.duratives) (k:=k) Zi;have hxs:=hs.u x (Zm hx);refine zV ?_;refine zI i6 hx (fun p1 hp=>?_);refine zL hp ?_;intro cs hcs;obtain ⟨w0,w1,w2,w3,w4,w5,w6,w7,w8,w9,w10,w11,w12,w13,w14,rfl,hR⟩:=Xg hcs;obtain ⟨Ap,np,cp,rfl,ip⟩:=hR.params;obtain ⟨B0,e0,j0,rfl,_⟩:=hR.start.args;obtain ⟨B1,e1,j1,rfl,_⟩:=hR.start.params;obtain ⟨B2,e2,j2,rfl,_⟩:=hR.start.exprs;obtain ⟨B3,e3,j3,rfl,_⟩:=hR.start.kids;obtain ⟨B4,e4,j4,rfl,_⟩:=hR.over.args;obtain ⟨B5,e5,j5,rfl,_⟩:=hR.over.params;obtain ⟨B6,e6,j6,rfl,_⟩:=hR.over.exprs;obtain ⟨B7,e7,j7,rfl,_⟩:=hR.over.kids;obtain ⟨B8,e8,j8,rfl,_⟩:=hR.fin.args;obtain ⟨B9,e9,j9,rfl,_⟩:=hR.fin.params;obtain ⟨B10,e10,j10,rfl,_⟩:=hR.fin.exprs;obtain ⟨B11,e11,j11,rfl,_⟩:=hR.fin.kids;obtain ⟨B12,e12,j12,rfl,_⟩:=hR.atStart;obtain ⟨B13,e13,j13,rfl,_⟩:=hR.atEnd;refine zV ?_;intros;refine zG ?_;refine Ycz Zz Zz Zz (hE (Le.refl _) ip) ?_;by_cases hz:E x.params=0
  ·rw [hz,show errV 0=.nilIface from rfl];refine zV ?_;exact WO ⟨k+1,by omega,rfl,rfl,rfl,rfl,YL hh hx hz⟩ Zi Zw Zb
  rw [Yk hz];refine zV ?_;refine zG ?_;refine XT Zz Zz (by show _+_<=_;exact Nat.le_trans (Nat.add_le_add_left hxs _) Zh) ?_;refine zV ?_;exact ret2 rfl rfl rfl Zb (by rw [YbR,Y8 (l:=d.predicates) (E:=E) (f:=fun x=>X7++x.name) (g:=fun x=>x.params) hzp,Y8 (l:=d.functions) (E:=E) (f:=fun x=>XH++x.name) (g:=fun x=>x.params) hzf,hzo,Y8 (l:=d.actions) (E:=E) (f:=fun x=>WN++x.name) (g:=fun x=>x.params) hza,WE (l:=d.duratives) (E:=E) (f:=fun x=>XI++x.name) (g:=fun x=>x.params) hx hh hz];rw [resV,Yk hz];rfl)
 have hzu:=fun x (hx:x∈d.duratives)=>(by obtain ⟨i,hi⟩:=List.getElem?_of_mem hx;exact Xy hh Zi x hx:E x.params=0)
 refine zV ?_;exact ret2 rfl rfl rfl Zb (by rw [YbR,Y8 (l:=d.predicates) (E:=E) (f:=fun x=>X7++x.name) (g:=fun x=>x.params) hzp,Y8 (l:=d.functions) (E:=E) (f:=fun x=>XH++x.name) (g:=fun x=>x.params) hzf,hzo,Y8 (l:=d.actions) (E:=E) (f:=fun x=>WN++x.name) (g:=fun x=>x.params) hza,Y8 (l:=d.duratives) (E:=E) (f:=fun x=>XI++x.name) (g:=fun x=>x.params) hzu];rfl)
def nmd (w n:Bs):Param:=⟨n,w++n⟩
def YfB (d:Domain):List Param:=d.predicates.map (fun x=>nmd X7 x.name)++d.functions.map (fun x=>nmd XH x.name)
def YeH (all:List Param):List Param:=all.map (fun x=>nmd Yb3 x.name)
def YgF (d:Domain):List Param:=d.actions.map (fun x=>nmd WN x.name)++d.duratives.map (fun x=>nmd XI x.name)
def Ybu (d:Domain) (all:List Param):Option Bs:=match repM [] (YfB d) with
 | some p=>some p
 | none=>match repM [] (YeH all) with
  | some p=>some p
  | none=>repM [] (YgF d)
theorem YfA {w n:Bs} (hn:Short n) (hs:n.size<=1000) (hw:w.size<=1000):paramL.rep fz (nmd w n) [.string n,.string (w++n)]:=
 Yca (x:=nmd w n) ⟨hn,by show (w++n).size<=_;rw [ByteArray.size_append];omega⟩
set_option maxHeartbeats 8000000 in
theorem names_q {p:Problem} {vf vg vo:Value} (h:CkR fz v d p all vf vp vg vo) (hs:NmS d all)
 (hm:d.predicates.length<=1000000/\d.functions.length<=1000000/\all.length<=1000000/\d.actions.length<=1000000/\d.duratives.length<=1000000):
 QFn prog 73 [v] fz (repV (Ybu d all)):=by
 obtain ⟨gc,v1,v2,v3,v4,v5,v6,u1,u2,u3,u4,u5,u6,u7,Aa,na,ca,rfl,hc,hD,hP,hall⟩:=h;obtain ⟨A1,n1,b1,rfl,i1⟩:=hD.types;obtain ⟨A2,n2,b2,rfl,i2⟩:=hD.constants;obtain ⟨A3,n3,b3,rfl,i3⟩:=hD.predicates;obtain ⟨A4,n4,b4,rfl,i4⟩:=hD.functions;obtain ⟨A5,n5,b5,rfl,i5⟩:=hD.actions;obtain ⟨A6,n6,b6,rfl,i6⟩:=hD.duratives;have l3:=i3.len;have l4:=i4.len;have l5:=i5.len;have l6:=i6.len;have la:=hall.len;have s3:=i3.short;have s4:=i4.short;have s5:=i5.short;have s6:=i6.short;have sa:=hall.short;obtain ⟨m3,m4,ma,m5,m6⟩:=hm;refine GFn.quiet ?_;refine zF Tryz.func73 Tryz.ntmps73 (fun w0=>?_);refine zV ?_;intros;rename_i gs;refine zV ?_;refine Ym (fun q σ fz' H'=>∃ (k:Nat) (v':Value) (Ho:HP),k<=n3/\q=n3 - k/\σ=[(25,Zk k),(24,Zk n3),(23,.slice A3 n3 b3),(4,Zp gs),(0,Zp gc)]/\fz=fz'/\H'=(gs,.cells #[v',Zn,Zn] 198 (0,0))::Ho/\Grow paramL 200 fz v' (k) Ho ((d.predicates.take k).map (fun x=>nmd X7 x.name))) ⟨0,_,[],Z0 _,rfl,rfl,rfl,rfl,Grow.nil _ _ _⟩ Zw Zb ?_;rintro q σ fz' H' ⟨k,v',Ho,hk,rfl,rfl,rfl,rfl,hG⟩;obtain ⟨Ao,co,rfl,_,_⟩:=hG.form;refine vC (fun c1=>?_) (fun c1=>?_)
 ·obtain ⟨x,hx⟩:=Yl (l:=d.predicates) (k:=k) Zi;have hxs:=hs.p x (Zm hx);refine vI i3 hx (fun p1 hp=>?_);refine zL hp ?_;intro cs hcs;obtain ⟨w1,rfl,hR⟩:=XK hcs;obtain ⟨Ap,np,cp,rfl,ip⟩:=hR.params;have hxn:Short x.name:=by unfold Short;omega
  refine zV ?_;intros
  ((refine zG ?_);refine Wq T Zz Zz Zz Zz Zz Zh Zh ?_);refine vG ?_;refine XT Zz Zz (by show _+_<=_;exact Nat.le_trans (Nat.add_le_add_left hxs _) Zh) ?_;refine zV ?_;refine Ya Zz (Yb T (cs:=[.string x.name,.string (X7++x.name)]) Zz Zz Zz Zz Zz Zz Zz Zz (fun gb=>?_));refine Ya Zz (YP T (Hr:=[_,_,_]) (d:=nmd X7 x.name) Zz Zz Zz Zz Zz Zz Zz Zz (Zr _) hG WV (.head _) (YfA hxn hxs Zh) (by show _*32<=_;omega) Zi (fun v2 Hs' hO'=>?_));obtain ⟨Av',cv',rfl,_,_⟩:=hO'.form;refine vG ?_;refine Wq T Zz Zz Zz Zz Zz Zh Zh ?_;exact vP (h:=by exact ⟨k+1,_,Hs',by omega,rfl,rfl,rfl,rfl,hO'.of (by rw [List.take_add_one,hx];simp) Zi⟩)
 have hk1:n3=k:=by omega
 subst hk1;rw [show d.predicates.take n3=d.predicates from Zl Zi] at hG;refine zV ?_;refine Ym (fun q σ fz' H'=>∃ (k:Nat) (v':Value) (Ho:HP),k<=n4/\q=n4 - k/\σ=[(47,Zk k),(46,Zk n4),(45,.slice A4 n4 b4),(4,Zp gs),(0,Zp gc)]/\fz=fz'/\H'=(gs,.cells #[v',Zn,Zn] 198 (0,0))::Ho/\Grow paramL 200 fz v' (n3+k) Ho (d.predicates.map (fun x=>nmd X7 x.name)++(d.functions.take k).map (fun x=>nmd XH x.name))) ⟨0,_,Ho,Z0 _,rfl,rfl,rfl,rfl,hG.of (by simp) rfl⟩ Zw Zb ?_;rintro q σ fz' H' ⟨k,v',Ho,hk,rfl,rfl,rfl,rfl,hG⟩;obtain ⟨Ao,co,rfl,_,_⟩:=hG.form;refine vC (fun c1=>?_) (fun c1=>?_)
 ·obtain ⟨x,hx⟩:=Yl (l:=d.functions) (k:=k) Zi;have hxs:=hs.f x (Zm hx);refine vI i4 hx (fun p1 hp=>?_);refine zL hp ?_;intro cs hcs;obtain ⟨w1,rfl,hR⟩:=Y9 hcs;obtain ⟨Ap,np,cp,rfl,ip⟩:=hR.params;have hxn:Short x.name:=by unfold Short;omega
  refine zV ?_;intros
  ((refine zG ?_);refine Wq T Zz Zz Zz Zz Zz Zh Zh ?_);refine vG ?_;refine XT Zz Zz (by show _+_<=_;exact Nat.le_trans (Nat.add_le_add_left hxs _) Zh) ?_;refine zV ?_;refine Ya Zz (Yb T (cs:=[.string x.name,.string (XH++x.name)]) Zz Zz Zz Zz Zz Zz Zz Zz (fun gb=>?_));refine Ya Zz (YP T (Hr:=[_,_,_]) (d:=nmd XH x.name) Zz Zz Zz Zz Zz Zz Zz Zz (Zr _) hG WV (.head _) (YfA hxn hxs Zh) (by show _*32<=_;omega) Zi (fun v2 Hs' hO'=>?_));obtain ⟨Av',cv',rfl,_,_⟩:=hO'.form;refine vG ?_;refine Wq T Zz Zz Zz Zz Zz Zh Zh ?_;exact vP (h:=by exact ⟨k+1,_,Hs',by omega,rfl,rfl,rfl,rfl,hO'.of (by rw [List.take_add_one,hx];simp) Zi⟩)
 have hk1:n4=k:=by omega
 subst hk1;rw [show d.functions.take n4=d.functions from Zl Zi] at hG;have hG0:Grow paramL 200 fz _ (n3+n4) Ho (YfB d):=hG;clear hG;refine zV ?_;refine Ym (fun q σ fz' H'=>∃ (k:Nat) (v':Value) (H1:HP),k<=na/\q=na - k/\σ=[(68,Zk k),(67,Zk na),(66,.slice Aa na ca),(4,Zp gs),(0,Zp gc)]/\fz=fz'/\H'=(gs,.cells #[.slice Ao (n3+n4) co,v',Zn] 198 (0,0))::(Ho++H1)/\Grow paramL 200 fz v' (k) H1 ((all.take k).map (fun x=>nmd Yb3 x.name))) ⟨0,_,[],Z0 _,rfl,rfl,rfl,(by rw [List.append_nil]),Grow.nil _ _ _⟩ Zw Zb ?_;rintro q σ fz' H' ⟨k,v',H1,hk,rfl,rfl,rfl,rfl,hG⟩;obtain ⟨A1',c1',rfl,_,_⟩:=hG.form;refine vC (fun c1=>?_) (fun c1=>?_)
 ·obtain ⟨x,hx⟩:=Yl (l:=all) (k:=k) Zi;have hxs:=hs.o x (Zm hx);refine vI hall hx (fun p1 hp=>?_);refine zL hp ?_;intro cs hcs;obtain ⟨rfl,hR⟩:=YR hcs;have hxn:Short x.name:=by unfold Short;omega
  refine zV ?_;intros
  ((refine zG ?_);refine Wq T Zz Zz Zz Zz Zz Zh Zh ?_);refine vG ?_;refine XT Zz Zz (by show _+_<=_;exact Nat.le_trans (Nat.add_le_add_left hxs _) Zh) ?_;refine zV ?_;refine Ya Zz (Yb T (cs:=[.string x.name,.string (Yb3++x.name)]) Zz Zz Zz Zz Zz Zz Zz Zz (fun gb=>?_));refine Ya Zz (YP T (Hr:=_::_::_::Ho) (d:=nmd Yb3 x.name) Zz Zz Zz Zz Zz Zz Zz Zz (Zr _) hG WV (.head _) (YfA hxn hxs Zh) (by show _*32<=_;omega) Zi (fun v2 Hs' hO'=>?_));obtain ⟨Av',cv',rfl,_,_⟩:=hO'.form;refine vG ?_;refine Wq T Zz Zz Zz Zz Zz Zh Zh ?_;exact vP (h:=by exact ⟨k+1,_,Hs',by omega,rfl,rfl,rfl,rfl,hO'.of (by rw [List.take_add_one,hx];simp) Zi⟩)
 have hk1:na=k:=by omega
 subst hk1;rw [show all.take na=all from Zl Zi] at hG;have hG1:Grow paramL 200 fz _ na H1 (YeH all):=hG;clear hG;refine zV ?_;refine Ym (fun q σ fz' H'=>∃ (k:Nat) (v':Value) (H2:HP),k<=n5/\q=n5 - k/\σ=[(90,Zk k),(89,Zk n5),(88,.slice A5 n5 b5),(4,Zp gs),(0,Zp gc)]/\fz=fz'/\H'=(gs,.cells #[.slice Ao (n3+n4) co,.slice A1' na c1',v'] 198 (0,0))::((Ho++H1)++H2)/\Grow paramL 200 fz v' (k) H2 ((d.actions.take k).map (fun x=>nmd WN x.name))) ⟨0,_,[],Z0 _,rfl,rfl,rfl,(by rw [List.append_nil]),Grow.nil _ _ _⟩ Zw Zb ?_;rintro q σ fz' H' ⟨k,v',H2,hk,rfl,rfl,rfl,rfl,hG⟩;obtain ⟨A2',c2',rfl,_,_⟩:=hG.form;refine vC (fun c1=>?_) (fun c1=>?_)
 ·obtain ⟨x,hx⟩:=Yl (l:=d.actions) (k:=k) Zi;have hxs:=hs.a x (Zm hx);refine vI i5 hx (fun p1 hp=>?_);refine zL hp ?_;intro cs hcs;obtain ⟨w1,w2,w3,w4,w5,w6,rfl,hR⟩:=Xq hcs;obtain ⟨Ap,np,cp,rfl,ip⟩:=hR.params;obtain ⟨B0,e0,j0,rfl,_⟩:=hR.pre.args;obtain ⟨B1,e1,j1,rfl,_⟩:=hR.pre.params;obtain ⟨B2,e2,j2,rfl,_⟩:=hR.pre.exprs;obtain ⟨B3,e3,j3,rfl,_⟩:=hR.pre.kids;obtain ⟨B4,e4,j4,rfl,_⟩:=hR.changes;have hxn:Short x.name:=by unfold Short;omega
  refine zV ?_;intros
  ((refine zG ?_);refine Wq T Zz Zz Zz Zz Zz Zh Zh ?_);refine vG ?_;refine XT Zz Zz (by show _+_<=_;exact Nat.le_trans (Nat.add_le_add_left hxs _) Zh) ?_;refine zV ?_;refine Ya Zz (Yb T (cs:=[.string x.name,.string (WN++x.name)]) Zz Zz Zz Zz Zz Zz Zz Zz (fun gb=>?_));refine Ya Zz (YP T (Hr:=_::_::_::(Ho++H1)) (d:=nmd WN x.name) Zz Zz Zz Zz Zz Zz Zz Zz (Zr _) hG WV (.head _) (YfA hxn hxs Zh) (by show _*32<=_;omega) Zi (fun v2 Hs' hO'=>?_));obtain ⟨Av',cv',rfl,_,_⟩:=hO'.form;refine vG ?_;refine Wq T Zz Zz Zz Zz Zz Zh Zh ?_;exact vP (h:=by exact ⟨k+1,_,Hs',by omega,rfl,rfl,rfl,rfl,hO'.of (by rw [List.take_add_one,hx];simp) Zi⟩)
 have hk1:n5=k:=by omega
 subst hk1;rw [show d.actions.take n5=d.actions from Zl Zi] at hG;refine zV ?_;refine Ym (fun q σ fz' H'=>∃ (k:Nat) (v':Value) (H2:HP),k<=n6/\q=n6 - k/\σ=[(112,Zk k),(111,Zk n6),(110,.slice A6 n6 b6),(4,Zp gs)]/\fz=fz'/\H'=(gs,.cells #[.slice Ao (n3+n4) co,.slice A1' na c1',v'] 198 (0,0))::((Ho++H1)++H2)/\Grow paramL 200 fz v' (n5+k) H2 (d.actions.map (fun x=>nmd WN x.name)++(d.duratives.take k).map (fun x=>nmd XI x.name))) ⟨0,_,H2,Z0 _,rfl,rfl,rfl,rfl,hG.of (by simp) rfl⟩ Zw Zb ?_;rintro q σ fz' H' ⟨k,v',H2,hk,rfl,rfl,rfl,rfl,hG⟩;obtain ⟨A2',c2',rfl,_,_⟩:=hG.form;refine vC (fun c1=>?_) (fun c1=>?_)
 ·obtain ⟨x,hx⟩:=Yl (l:=d.duratives) (k:=k) Zi;have hxs:=hs.u x (Zm hx);refine vI i6 hx (fun p1 hp=>?_);refine zL hp ?_;intro cs hcs;obtain ⟨w0,w1,w2,w3,w4,w5,w6,w7,w8,w9,w10,w11,w12,w13,w14,rfl,hR⟩:=Xg hcs;obtain ⟨Ap,np,cp,rfl,ip⟩:=hR.params;obtain ⟨B0,e0,j0,rfl,_⟩:=hR.start.args;obtain ⟨B1,e1,j1,rfl,_⟩:=hR.start.params;obtain ⟨B2,e2,j2,rfl,_⟩:=hR.start.exprs;obtain ⟨B3,e3,j3,rfl,_⟩:=hR.start.kids;obtain ⟨B4,e4,j4,rfl,_⟩:=hR.over.args;obtain ⟨B5,e5,j5,rfl,_⟩:=hR.over.params;obtain ⟨B6,e6,j6,rfl,_⟩:=hR.over.exprs;obtain ⟨B7,e7,j7,rfl,_⟩:=hR.over.kids;obtain ⟨B8,e8,j8,rfl,_⟩:=hR.fin.args;obtain ⟨B9,e9,j9,rfl,_⟩:=hR.fin.params;obtain ⟨B10,e10,j10,rfl,_⟩:=hR.fin.exprs;obtain ⟨B11,e11,j11,rfl,_⟩:=hR.fin.kids;obtain ⟨B12,e12,j12,rfl,_⟩:=hR.atStart;obtain ⟨B13,e13,j13,rfl,_⟩:=hR.atEnd;have hxn:Short x.name:=by unfold Short;omega
  refine zV ?_;intros
  ((refine zG ?_);refine Wq T Zz Zz Zz Zz Zz Zh Zh ?_);refine vG ?_;refine XT Zz Zz (by show _+_<=_;exact Nat.le_trans (Nat.add_le_add_left hxs _) Zh) ?_;refine zV ?_;refine Ya Zz (Yb T (cs:=[.string x.name,.string (XI++x.name)]) Zz Zz Zz Zz Zz Zz Zz Zz (fun gb=>?_));refine Ya Zz (YP T (Hr:=_::_::_::(Ho++H1)) (d:=nmd XI x.name) Zz Zz Zz Zz Zz Zz Zz Zz (Zr _) hG WV (.head _) (YfA hxn hxs Zh) (by show _*32<=_;omega) Zi (fun v2 Hs' hO'=>?_));obtain ⟨Av',cv',rfl,_,_⟩:=hO'.form;refine vG ?_;refine Wq T Zz Zz Zz Zz Zz Zh Zh ?_;exact vP (h:=by exact ⟨k+1,_,Hs',by omega,rfl,rfl,rfl,rfl,hO'.of (by rw [List.take_add_one,hx];simp) Zi⟩)
 have hk1:n6=k:=by omega
 subst hk1;rw [show d.duratives.take n6=d.duratives from Zl Zi] at hG;have hG2:Grow paramL 200 fz _ (n5+n6) H2 (YgF d):=hG;clear hG;refine zV ?_;refine Ym (fun q σ fz' H'=>∃ k:Nat,k<=3/\q=3 - k/\σ=[(129,Zk k),(128,.agg #[.slice Ao (n3+n4) co,.slice A1' na c1',.slice A2' (n5+n6) c2'])]/\fz=fz'/\H'=(gs,.cells #[.slice Ao (n3+n4) co,.slice A1' na c1',.slice A2' (n5+n6) c2'] 198 (0,0))::((Ho++H1)++H2)/\(0<k->repM [] (YfB d)=none)/\(1<k->repM [] (YeH all)=none)/\(2<k->repM [] (YgF d)=none)) ⟨0,by omega,rfl,rfl,rfl,rfl,fun h0=>by omega,fun h0=>by omega,fun h0=>by omega⟩ Zw Zb ?_;rintro q σ fz' H' ⟨k,hk,rfl,rfl,rfl,rfl,z0,z1,z2⟩;refine vC (fun c1=>?_) (fun c1=>?_)
 ·have hk3:k=0\/k=1\/k=2:=by omega
  rcases hk3 with rfl | rfl | rfl
  ·refine vG ?_;refine Yhi T Zz Zz Zz Zz Zz Zz Zz Zh Zh Zz ?_;refine zV ?_
   (refine zG ?_);refine Yb9 (v:=repV (repM [] (YfB d))) Zz Zz (fun fz' hl hf=>by
    obtain ⟨A',c',he,hsl⟩:=hG0.sl hl (fun p hp=>hf p (by simp [hp])) Zi;injection he with x1 x2 x3
    subst x1 x3;exact Yea hsl) ?_
   cases hr:repM [] (YfB d) with
   | some pl=>
    rw [show repV (some pl)=.tuple #[.string pl,.iface 65 (Zk 4)] from rfl];exact vS (h:=by exact (by rw [Ybu,hr];rfl))
   | none=>
    rw [show repV none=.tuple #[Ze,.nilIface] from rfl];exact vP (h:=by exact ⟨1,by omega,rfl,rfl,rfl,rfl,fun _=>rfl,fun h0=>by omega,fun h0=>by omega⟩)
  ·refine vG ?_;refine Yhi T Zz Zz Zz Zz Zz Zz Zz Zh Zh Zz ?_;refine zV ?_
   (refine zG ?_);refine Yb9 (v:=repV (repM [] (YeH all))) Zz Zz (fun fz' hl hf=>by
    obtain ⟨A',c',he,hsl⟩:=hG1.sl hl (fun p hp=>hf p (by simp [hp])) Zi;injection he with x1 x2 x3
    subst x1 x3;exact Yea hsl) ?_
   cases hr:repM [] (YeH all) with
   | some pl=>
    rw [show repV (some pl)=.tuple #[.string pl,.iface 65 (Zk 4)] from rfl];exact vS (h:=by exact (by rw [Ybu,z0 Zi,hr];rfl))
   | none=>
    rw [show repV none=.tuple #[Ze,.nilIface] from rfl];exact vP (h:=by exact ⟨2,by omega,rfl,rfl,rfl,rfl,fun _=>z0 Zi,fun _=>rfl,fun h0=>by omega⟩)
  refine vG ?_;refine Yhi T Zz Zz Zz Zz Zz Zz Zz Zh Zh Zz ?_;refine zV ?_
  (refine zG ?_);refine Yb9 (v:=repV (repM [] (YgF d))) Zz Zz (fun fz' hl hf=>by
   obtain ⟨A',c',he,hsl⟩:=hG2.sl hl (fun p hp=>hf p (by simp [hp])) Zi;injection he with x1 x2 x3
   subst x1 x3;exact Yea hsl) ?_
  cases hr:repM [] (YgF d) with
  | some pl=>
   rw [show repV (some pl)=.tuple #[.string pl,.iface 65 (Zk 4)] from rfl];exact vS (h:=by exact (by rw [Ybu,z0 Zi,z1 Zi,hr];rfl))
  | none=>
   rw [show repV none=.tuple #[Ze,.nilIface] from rfl];exact vP (h:=by exact ⟨3,by omega,rfl,rfl,rfl,rfl,fun _=>z0 Zi,fun _=>z1 Zi,fun _=>rfl⟩)
 exact vS (h:=by exact (by rw [Ybu,z0 Zi,z1 Zi,z2 Zi];rfl))
end Go.Proofs.YtfjopfinkdhmaaaGreatDoor
namespace Go.Lx
variable {A:Option Addr} {c n:Nat} {fz:FZ}
theorem Sl.reps {α:Type} {L:Lay α} {l:List α} (h:Sl L fz A n c l) {x:α} (hx:x∈l):∃ cs,L.rep fz x cs:=by
 obtain ⟨i,hi⟩:=List.getElem?_of_mem hx;have h1:=(Zg hi).1;have h2:=h.len;rcases h.elem with h0 | ⟨ad,_,h3⟩
 ·omega
 obtain ⟨cs,h4,_⟩:=h3 i x hi;exact ⟨cs,h4⟩
end Go.Lx
namespace Go.Proofs.YtfjopfinkdhmaaaGreatDoor
open Go.Lx Go.RowKit
attribute [local instance 10] Classical.propDecidable
open Go.Proofs.Tryz (prog)
variable {A:Option Addr} {c n:Nat} {fz:FZ}
theorem YcB {l:List Param} (h:Sl paramL fz A n c l):∀ p∈l,Short p.name/\Short p.typ:=fun p hp=>by
 obtain ⟨cs,hr⟩:=h.reps hp;obtain ⟨_,hR⟩:=YR hr;exact ⟨hR.name,hR.typ⟩
def kQm:Bs:=⟨#[63]⟩
theorem Yil {s p:Bs} (hs:Short s) (hp:Short p):QFn prog 198 [.string s,.string p] fz (.bool (decide (PreP s p))):=by
 refine GFn.quiet ?_;refine zF Tryz.func198 Tryz.ntmps198 (fun w0=>?_);refine vc (Ydp hs hp) ?_;exact vR (h:=rfl)
def Ygh:List Param->Bs->Option Bs
 | [],_=>none
 | p::r,t=>match Ygh r t with
  | some u=>some u
  | none=>if p.name=t then some p.typ else none
theorem Yem:∀ {l:List Param} {t:Bs},(∀ p∈l,p.name≠t)->Ygh l t=none
 | [],_,_=>rfl
 | p::r,t,h=>by rw [Ygh,Yem (fun q hq=>h q (by simp [hq]))];exact if_neg (h p (by simp))
theorem YkW:∀ {l:List Param} {j:Nat} {x:Param} {t:Bs},l[j]?=some x->x.name=t->(∀ i,j<i->∀ y,l[i]?=some y->y.name≠t)->Ygh l t=some x.typ
 | [],j,x,t,h,_,_=>by simp at h
 | p::r,0,x,t,h,hx,hh=>by
  simp at h;subst h;rw [Ygh,Yem (fun q hq=>by obtain ⟨i,hi⟩:=List.getElem?_of_mem hq;exact hh (i+1) Zi q (by simpa using hi))];exact if_pos hx
 | p::r,j+1,x,t,h,hx,hh=>by
  rw [Ygh,YkW (l:=r) (j:=j) (by simpa using h) hx (fun i hi y hy=>hh (i+1) Zi y (by simpa using hy))]
theorem YiP:∀ {l:List Param} {t u:Bs},Ygh l t=some u->∃ p∈l,p.typ=u
 | [],_,_,h=>by cases h
 | p::r,t,u,h=>by
  rw [Ygh] at h;cases hr:Ygh r t with
  | some w=>
   rw [hr] at h;injection h with h
   subst h;obtain ⟨q,hq,e⟩:=YiP hr;exact ⟨q,by simp [hq],e⟩
  | none=>
   rw [hr] at h;split at h
   ·rename_i h0;cases h0
   split at h
   ·injection h with h;exact ⟨p,by simp,h⟩
   cases h
theorem Yl8:∀ {l:List Param} {t u:Bs},tyF l t=some u->∃ p∈l,p.typ=u
 | [],_,_,h=>by cases h
 | p::r,t,u,h=>by
  rw [tyF] at h;split at h
  ·injection h with h;exact ⟨p,by simp,h⟩
  obtain ⟨q,hq,e⟩:=Yl8 h;exact ⟨q,by simp [hq],e⟩
def YdV (all vars:List Param) (t:Bs):Option Bs:=if PreP t kQm then Ygh vars t else tyF all t
def ObjR (fz:FZ) (vo:Value) (all:List Param):Prop:=∃ g m,vo=.map (some g)/\fz g=some (mapS m)/\∀ x,valS m x=(tyF all x).map Value.string
variable {all:List Param} {fz':FZ}
theorem ObjR.mono {vo:Value} (h:ObjR fz vo all) (hle:Le fz fz'):ObjR fz' vo all:=by
 obtain ⟨g,m,h1,h2,h3⟩:=h;exact ⟨g,m,h1,hle _ _ h2,h3⟩
def YnB (o:Option Bs):Value:=.tuple #[.string (o.getD ⟨#[]⟩),errV (if o.isSome=true then 0 else 8)]
variable {d:Domain} {v vp:Value} {vars:List Param}
theorem find_q {p:Problem} {vf vg vo:Value} {t:Bs} (h:CkR fz v d p all vf vp vg vo) (ho:ObjR fz vo all) (h1:Sl paramL fz A n c vars) (ht:Short t):
 QFn prog 165 [v,.slice A n c,.string t] fz (YnB (YdV all vars t)):=by
 obtain ⟨gc,v1,v2,v3,v4,v5,v6,u1,u2,u3,u4,u5,u6,u7,Aa,na,ca,rfl,hc,hD,hP,hall⟩:=h;obtain ⟨go,mo,rfl,hgo,hmo⟩:=ho;have l1:=h1.len;have s1:=h1.short;refine GFn.quiet ?_;refine zF Tryz.func165 Tryz.ntmps165 (fun w0=>?_);refine vG ?_;refine We Zz Zz (Yil (p:=kQm) ht (by unfold Short kQm;decide)) (fun f1=>?_) (fun f1=>?_)
 ·have hp:=Zt f1;refine zV ?_;refine Ym (fun q σ fz' H'=>∃ (k:Nat) (z:Int),k<=n/\q=n - k/\z=(n:Int) - 1 - k/\σ=[(10,Zk z),(1,.slice A n c),(2,.string t)]/\fz=fz'/\H'=[]/\(∀ i,n - 1 - k<i->i<n->∀ x,vars[i]?=some x->x.name≠t)/\(k=n->∀ x∈vars,x.name≠t)) ⟨0,(n:Int) - 1,Z0 _,rfl,by omega,rfl,rfl,rfl,fun i hi h2=>absurd hi Zi,fun h0 x hx=>by rw [List.eq_nil_of_length_eq_zero (l:=vars) Zi] at hx;cases hx⟩ Zw Zb ?_;rintro q σ fz' H' ⟨k,z,hk,rfl,hzk,rfl,rfl,rfl,hh,hz⟩;refine vC (fun c1=>?_) (fun c1=>?_)
  ·obtain ⟨x,hx⟩:=Yl (l:=vars) (k:=n - 1 - k) Zi;refine vI h1 hx (fun p1 hp1=>?_);refine vH hp1.Param_name (fun hn1=>?_);refine vC (fun c2=>?_) (fun c2=>?_)
   ·have e1:YdV all vars t=some x.typ:=by
     rw [YdV,if_pos hp];exact YkW hx c2 (fun i hi y hy=>hh i hi (by have:=(Zg hy).1;omega) y hy)
    refine vI h1 hx (fun p2 hp2=>?_);refine vH hp2.Param_typ (fun hn2=>?_);exact vS (h:=by rw [e1];rfl)
   refine zV ?_;exact WO ⟨k+1,z - 1,by omega,rfl,by omega,rfl,rfl,rfl,fun i hi h2 y hy=>by
    by_cases he:i=n - 1 - k
    ·subst he;rw [hx] at hy;injection hy with hy;subst hy;exact c2
    ·exact hh i Zi h2 y hy,fun h0 y hy=>by
    obtain ⟨i,hi⟩:=List.getElem?_of_mem hy;have hin:=(Zg hi).1;by_cases he:i=n - 1 - k
    ·subst he;rw [hx] at hi;injection hi with hi;subst hi;exact c2
    exact hh i Zi Zi y hi⟩ Zi Zw Zb
  have e1:YdV all vars t=none:=by
   rw [YdV,if_pos hp];exact Yem (hz Zi)
  exact vS (h:=by rw [e1];rfl)
 have hp:=Zf f1;have e0:YdV all vars t=tyF all t:=if_neg hp;refine vG ?_;refine WC (v:=.string ((tyF all t).getD ⟨#[]⟩)) (b:=(tyF all t).isSome) T Zz Zz Zz Zz Zz Zz Zz hgo (by rw [Yj4,hmo];cases tyF all t<;>rfl) (by rw [YfE,hmo];cases tyF all t<;>rfl) ?_;cases hr:tyF all t with
 | some u=>
  exact vS (h:=by exact (by rw [e0,hr];rfl))
 | none=>
  exact vS (h:=by exact (by rw [e0,hr];rfl))
end Go.Proofs.YtfjopfinkdhmaaaGreatDoor
