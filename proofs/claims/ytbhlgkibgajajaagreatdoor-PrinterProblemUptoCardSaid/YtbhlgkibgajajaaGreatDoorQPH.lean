/- The texts PFree, PGrowB, PRefB, PWalkJ, laid together. Conditions: none. -/
import Derived.Test.YtbhlgkibgajajaaGreatDoorQPB
import Derived.Test.YtbhlgkibgajajaaGreatDoorQPC
import Derived.Test.YtbhlgkibgajajaaGreatDoorQPD
import Derived.Test.YtbhlgkibgajajaaGreatDoorQPF
import Derived.Test.YtbhlgkibgajajaaGreatDoorQPE
import Derived.Test.YtbhlgkibgajajaaGreatDoorQPG
import Derived.Laws.StructEq
import Derived.Tactics
import Derived.KernelRfl
namespace Go.Lx
open Go.RowKit
section
variable {P:Program} {cx:Cx} {n:Nat} {σ:Env} {fz:FZ} {H:HP} {Q:QQ}
def inPu (pu:List Nat) (i:Nat):Bool:=pu.any fun j=>Nat.beq j i
def QOkP (P:Program) (cx:Cx) (ops:List Oper) (pu:List Nat) (i:Nat) (o:Oper) (σ ve:Env) (fz:FZ) (H:HP) (v:Value):Prop:=match inPu pu i with
 | true=>∀ fz',QOk P cx ops o σ ve fz' [] v
 | false=>QOk P cx ops o σ ve fz H v
theorem QOkP.ext {ops':List Oper} {pu:List Nat} {i:Nat} {o:Oper} {a b:Env} {v:Value} (h:VExt a b) (hq:QOkP P cx ops' pu i o σ a fz H v):QOkP P cx ops' pu i o σ b fz H v:=by
 unfold QOkP at*
 cases hp:inPu pu i with
 | true=>rw [hp] at hq;exact fun fz'=>(hq fz').ext h
 | false=>rw [hp] at hq;exact hq.ext h
def PK (P:Program) (cx:Cx) (ops:List Oper) (pu:List Nat) (σ:Env) (fz:FZ) (Hq:HP) (K:Env→Env→List (Nat × Oper)→Prop):Nat→List Oper→Env→Env→List (Nat × Oper)→Prop
 | _,[],ve,τ,ch=>K ve τ ch
 | i,o::rest,ve,τ,ch=>
  (∃ v,QOkP P cx ops pu i o σ ve fz Hq v∧PK P cx ops pu σ fz Hq K (i+1) rest ((i,v)::ve) (match o.dst with | some d=>(d,v)::τ | none=>τ) ch)∨
  PK P cx ops pu σ fz Hq K (i+1) rest ve τ (ch++ [(i,o)])
def allp (ops:List Oper) (ch:List (Nat × Oper)) (pu:List Nat) (o:Oper):Bool:=(List.range ops.length).all fun i=>inCh ch i || inPu pu i || waits o i
theorem PK.out {ops':List Oper} {pu:List Nat} {Hq:HP} {K:Env→Env→List (Nat × Oper)→Prop}:∀ (l:List Oper) (i:Nat) (ve τ:Env) (ch:List (Nat × Oper)),(∀ j,i≤j→lk ve j=none)→PK P cx ops' pu σ fz Hq K i l ve τ ch→
 ∃ VE τF ch',VExt ve VE∧K VE τF (ch++ch')∧(∀ p∈ch',i≤p.1∧l[p.1 - i]?=some p.2)∧
  (∀ j,(j<i∨(∃ p∈ch',p.1=j))→lk VE j=lk ve j)∧
  (∀ (k:Nat) (o:Oper),l[k]?=some o→(∃ p∈ch',p.1=i+k)∨((∀ p∈ch',p.1≠i+k)∧∃ v,lk VE (i+k)=some v∧QOkP P cx ops' pu (i+k) o σ VE fz Hq v))∧
  (∀ s v,lk τF s=some v→(∃ (k:Nat) (o:Oper),l[k]?=some o∧o.dst=some s∧lk VE (i+k)=some v)∨(lk τ s=some v∧∀ (k:Nat) (o:Oper),l[k]?=some o→(∀ p∈ch',p.1≠i+k)→o.dst≠some s))
 | [],i,ve,τ,ch,_,h=>⟨ve,τ,[],fun _ _ h=>h,by simpa [PK] using h,by simp,by simp,by simp,fun s v hs=>.inr ⟨hs,by simp⟩⟩
 | o::l,i,ve,τ,ch,hve,h=>by
  rcases h with ⟨v,hq,hr⟩ | hr
  ·have hx:VExt ve ((i,v)::ve):=by
    intro j u hj
    by_cases he:i=j
    ·subst he;rw [hve i (Nat.le_refl _)] at hj;cases hj
    ·rw [Yu v ve he];exact hj
   obtain ⟨VE,τF,ch',h1,h2,h3,h3b,h4,h5⟩:=PK.out l (i+1) ((i,v)::ve) _ ch (fun j hj=>by rw [Yu v ve Zi];exact hve j Zi) hr
   have hv:lk VE i=some v:=h1 i v (YC i v ve)
   have hvx:VExt ve VE:=fun j u hj=>h1 j u (hx j u hj)
   refine ⟨VE,τF,ch',hvx,h2,fun p hp=>?_,fun j hj=>?_,fun k o' hk=>?_,fun s u hs=>?_⟩
   ·obtain ⟨g1,g2⟩:=h3 p hp
    exact ⟨by omega,by rw [show p.1 - i=(p.1 - (i+1))+1 from by omega];simpa using g2⟩
   ·have hne:i≠j:=by
     rcases hj with hj | ⟨p,hp,hj⟩
     ·omega
     ·have:=(h3 p hp).1;omega
    rw [h3b j (by rcases hj with hj | hj;exact .inl Zi;exact .inr hj),Yu v ve hne]
   ·cases k with
    | zero=>
     simp at hk;subst hk
     exact .inr ⟨fun p hp=>by have:=(h3 p hp).1;omega,v,hv,hq.ext hvx⟩
    | succ k=>
     rcases h4 k o' (by simpa using hk) with ⟨p,hp,he⟩ | ⟨hn,u,hu,hqu⟩
     ·exact .inl ⟨p,hp,by omega⟩
     ·exact .inr ⟨fun p hp=>by have:=hn p hp;omega,u,by rw [← hu];congr 1;omega,by rw [show i+(k+1)=i+1+k from by omega];exact hqu⟩
   ·rcases h5 s u hs with ⟨k,o',hk,hd,hl⟩ | ⟨hl,hn⟩
    ·exact .inl ⟨k+1,o',by simpa using hk,hd,by rw [← hl];congr 1;omega⟩
    ·cases hd:o.dst with
     | none=>
      simp only [hd] at hl
      refine .inr ⟨hl,fun k o' hk hp=>?_⟩
      cases k with
      | zero=>simp at hk;subst hk;simp [hd]
      | succ k=>exact hn k o' (by simpa using hk) (fun p hp'=>by have:=hp p hp';omega)
     | some d=>
      simp only [hd] at hl
      by_cases he:d=s
      ·subst he
       rw [YC] at hl
       exact .inl ⟨0,o,by simp,hd,by simpa using hv.trans hl⟩
      ·rw [Yu v τ he] at hl
       refine .inr ⟨hl,fun k o' hk hp=>?_⟩
       cases k with
       | zero=>simp at hk;subst hk;rw [hd];simpa using he
       | succ k=>exact hn k o' (by simpa using hk) (fun p hp'=>by have:=hp p hp';omega)
  ·obtain ⟨VE,τF,ch',h1,h2,h3,h3b,h4,h5⟩:=PK.out l (i+1) ve τ (ch++ [(i,o)]) (fun j hj=>hve j Zi) hr
   refine ⟨VE,τF,(i,o)::ch',h1,by simpa using h2,fun p hp=>?_,fun j hj=>?_,fun k o' hk=>?_,fun s u hs=>?_⟩
   ·cases hp with
    | head=>simp
    | tail _ hp=>
     obtain ⟨g1,g2⟩:=h3 p hp
     exact ⟨by omega,by rw [show p.1 - i=(p.1 - (i+1))+1 from by omega];simpa using g2⟩
   ·rcases hj with hj | ⟨p,hp,hj⟩
    ·exact h3b j (.inl Zi)
    ·cases hp with
     | head=>exact h3b j (.inl (by simp at hj;omega))
     | tail _ hp=>exact h3b j (.inr ⟨p,hp,hj⟩)
   ·cases k with
    | zero=>exact .inl ⟨(i,o),by simp,by simp⟩
    | succ k=>
     rcases h4 k o' (by simpa using hk) with ⟨p,hp,he⟩ | ⟨hn,u,hu,hqu⟩
     ·exact .inl ⟨p,by simp [hp],by omega⟩
     ·refine .inr ⟨fun p hp=>?_,u,by rw [← hu];congr 1;omega,by rw [show i+(k+1)=i+1+k from by omega];exact hqu⟩
      cases hp with
      | head=>simp
      | tail _ hp=>have:=hn p hp;omega
   ·rcases h5 s u hs with ⟨k,o',hk,hd,hl⟩ | ⟨hl,hn⟩
    ·exact .inl ⟨k+1,o',by simpa using hk,hd,by rw [← hl];congr 1;omega⟩
    ·refine .inr ⟨hl,fun k o' hk hp=>?_⟩
     cases k with
     | zero=>exact absurd rfl (hp (i,o) (by simp))
     | succ k=>exact hn k o' (by simpa using hk) (fun p hp'=>by have:=hp p (by simp [hp']);omega)
def Po (P:Program) (cx:Cx) (ops:List Oper) (pu:List Nat) (σ ve:Env) (fz0:FZ) (Hq:HP) (Q:QQ) (all:List (Nat × Oper)):Nat→List (Nat × Oper)→Bool→Env→Env→FZ→HP→Prop
 | 0,_,_,_,τ,fz,H=>Q .normal τ fz H
 | m+1,rest,done,cv,τ,fz,H=>∀ p∈rest,(rest.all fun q=>!waits p.2 q.1)=true→
  (X0 p.2 ve=some true∧Does P cx p.2 (rdc ops p.2 σ ve cv) fz H fun v fz' H'=>
   ((done || allp ops all pu p.2)=true∨Keep fz0 Hq fz' H')∧
   Po P cx ops pu σ ve fz0 Hq Q all m (rest.filter fun q=>!Nat.beq q.1 p.1) (done || allp ops all pu p.2) ((p.1,v)::cv) (match p.2.dst with | some d=>(d,v)::τ | none=>τ) fz' H')∨
  (X0 p.2 ve=some false∧Po P cx ops pu σ ve fz0 Hq Q all m (rest.filter fun q=>!Nat.beq q.1 p.1) (done || allp ops all pu p.2) ((p.1,undef)::cv) (match p.2.dst with | some d=>(d,undef)::τ | none=>τ) fz H)
def Ybu:List (Nat × Oper)→Bool
 | []=>true
 | p::r=>(r.all fun q=>!Nat.beq q.1 p.1) && Ybu r
theorem Yj6 {a b:Nat} (h:(!Nat.beq a b)=true):a≠b:=by
 intro he;subst he;simp at h
theorem ne_beq {a b:Nat} (h:a≠b):(!Nat.beq a b)=true:=by
 cases hb:Nat.beq a b with
 | true=>exact absurd (Nat.eq_of_beq_eq_true hb) h
 | false=>rfl
theorem YeJ {p:Nat × Oper}:∀ {l:List (Nat × Oper)},Ybu l=true→p∈l→(l.filter fun q=>!Nat.beq q.1 p.1).length+1=l.length
 | [],_,h=>by cases h
 | x::r,hn,h=>by
  simp only [Ybu,Bool.and_eq_true] at hn
  rcases List.mem_cons.1 h with rfl | h
  ·have:r.filter (fun q=>!Nat.beq q.1 p.1)=r:=List.filter_eq_self.2 (fun q hq=>List.all_eq_true.1 hn.1 q hq)
   simp [this]
  ·have ih:=YeJ hn.2 h
   have hx:(!Nat.beq x.1 p.1)=true:=ne_beq (fun he=>Yj6 (List.all_eq_true.1 hn.1 p h) he.symm)
   rw [List.filter_cons,if_pos hx,List.length_cons,List.length_cons,ih]
theorem Ybt {f:Nat × Oper→Bool}:∀ {l:List (Nat × Oper)},Ybu l=true→Ybu (l.filter f)=true
 | [],_=>rfl
 | x::r,hn=>by
  simp only [Ybu,Bool.and_eq_true] at hn
  rw [List.filter_cons]
  split
  ·simp only [Ybu,Bool.and_eq_true]
   exact ⟨List.all_eq_true.2 (fun q hq=>List.all_eq_true.1 hn.1 q (List.mem_filter.1 hq).1),Ybt hn.2⟩
  ·exact Ybt hn.2
theorem YgT {p:Nat × Oper} {pre:List (Nat × Oper)}:∀ {l:List (Nat × Oper)},Ybu l=true→p∈l→((pre++ [p])++l.filter fun q=>!Nat.beq q.1 p.1).Perm (pre++l):=by
 intro l hn hp
 rw [List.append_assoc]
 refine List.Perm.append_left pre ?_
 induction l with
 | nil=>cases hp
 | cons x r ih=>
  simp only [Ybu,Bool.and_eq_true] at hn
  rcases List.mem_cons.1 hp with rfl | h
  ·have:r.filter (fun q=>!Nat.beq q.1 p.1)=r:=List.filter_eq_self.2 (fun q hq=>List.all_eq_true.1 hn.1 q hq)
   simp [this]
  ·have hx:(!Nat.beq x.1 p.1)=true:=ne_beq (fun he=>Yj6 (List.all_eq_true.1 hn.1 p h) he.symm)
   rw [List.filter_cons,if_pos hx]
   exact (List.Perm.swap x p _).trans (List.Perm.cons x (ih hn.2 h))
theorem Wp.drawP (pu:List Nat) {id:Nat} {l:List Oper} {Hq:HP} (hm:P.follows .mixedOrders=true) (hB:Ybs n l 0 []=true) (hG:Ycn l=true) (hHq:Hq.Sublist H)
 (h:PK P cx l pu σ fz Hq (fun ve τ ch=>Ybu ch=true∧Po P cx l pu σ ve fz Hq Q ch ch.length ch false [] τ fz H) 0 l [] σ []):Wp P cx n (.region id l.toArray true) σ fz H Q:=by
 refine Wp.of ?_
 intro a w hs hi
 obtain ⟨VE,τF,ch,_,hK,hch,hVEch,hq,hτ⟩:=PK.out l 0 [] σ [] (fun _ _=>rfl) h
 simp only [Nat.zero_add,List.nil_append,Nat.sub_zero] at hq hτ hK hch
 obtain ⟨hcok,hCh⟩:=hK
 have hedge:=WB (n:=n) l 0 [] hB
 have hdst:=WU (n:=n) l 0 [] hB
 simp only [Nat.zero_add] at hedge
 have hops:∀ k:Nat,(l.toArray)[k]?=l[k]?:=fun k=>by simp
 have hi0:Inv cx fz Hq w:=hi.forget hHq
 -- a quiet operation's number
 let isQ:Nat→Prop:=fun k=>∀ p∈ch,p.1≠k
 -- what holds at Yiv point: 'rest' of the chain is to come
 let A:Array Bool→Act→World→Prop:=fun listed a w=>∃ pre rest done cv τ fzs Hs,(pre++rest).Perm ch∧Ybu rest=true∧Po P cx l pu σ VE fz Hq Q ch rest.length rest done cv τ fzs Hs∧Inv cx fzs Hs w∧
  a.tmps.size=n∧a.defers=[]∧listed.size=l.length∧
  ((∀ s v,lk σ s=some v→(∀ (k:Nat) (o:Oper),l[k]?=some o→o.dst=some s→listed.getD k true=false)→a.tmps[s]?=some v)∧
   (∀ (k:Nat) (o:Oper),l[k]?=some o→listed.getD k true=true→∀ m,waits o m=true→listed.getD m true=true))∧
  (∀ (k:Nat) (o:Oper) (d:Nat) (v:Value),l[k]?=some o→o.dst=some d→isQ k→listed.getD k true=true→lk VE k=some v→a.tmps[d]?=some v)∧
  (∀ p∈pre,listed.getD p.1 true=true∧∃ v,lk cv p.1=some v∧∀ d,p.2.dst=some d→a.tmps[d]?=some v)∧
  (∀ p∈rest,listed.getD p.1 true=false∧lk cv p.1=none)∧
  (∀ j v,lk cv j=some v→∃ p∈pre,p.1=j)∧
  (Keep fz Hq fzs Hs∨(∀ k,k<l.length→isQ k→inPu pu k=false→listed.getD k true=true))∧
  (done=true→∀ k,k<l.length→isQ k→inPu pu k=false→listed.getD k true=true)∧
  (∀ s v,lk τ s=some v→(∃ (k:Nat) (o:Oper),l[k]?=some o∧o.dst=some s∧isQ k∧lk VE k=some v)∨(∃ p∈pre,p.2.dst=some s∧lk cv p.1=some v)∨
   (lk σ s=some v∧(∀ (k:Nat) (o:Oper),l[k]?=some o→isQ k→o.dst≠some s)∧∀ p∈pre,p.2.dst≠some s))
 have hall:∀ (listed:Array Bool),listed.size=l.length→Region.ready .any l.toArray listed=[]→∀ k,k<l.length→listed.getD k true=true:=by
  intro listed hsz hr k
  induction k using Nat.strongRecOn with
  | _ k ih=>
   intro hk
   cases hl:listed.getD k true with
   | true=>rfl
   | false=>
    exfalso
    have hmem:k∈Region.ready .any l.toArray listed:=by
     unfold Region.ready
     simp only [List.mem_filter,List.mem_range,List.size_toArray,hk,true_and,hl,Bool.not_false,Bool.true_and]
     rw [hops k,List.getElem?_eq_getElem hk]
     simp only [Option.map_some,Option.getD_some,Array.all_eq_true_iff_forall_mem]
     intro e he
     cases hb:Region.binds .any e with
     | false=>rfl
     | true=>
      have h1:=hedge k l[k] (List.getElem?_eq_getElem hk) e he hb
      have h2:=ih e.on Zi Zi
      have h3:e.on<listed.size:=by omega
      simp only [Bool.not_true,Bool.false_or]
      simpa [Array.getD,h3] using h2
    rw [hr] at hmem
    cases hmem
 have hfin:∀ listed a w,A listed a w→Region.ready .any l.toArray listed=[]→lift cx n Q .normal a w:=by
  rintro listed a w ⟨pre,rest,done,cv,τ,fzs,Hs,e0,hnd,hC,a1,a2,a3,a4,⟨a5,_⟩,a6,a7,a8,a9,a10,a11,a12⟩ hr
  have hrest:rest=[]:=by
   cases rest with
   | nil=>rfl
   | cons p r=>
    have h1:=(a8 p (by simp)).1
    have h2:=hch p (e0.mem_iff.1 (by simp))
    have h3:=hall listed a4 hr p.1 (List.getElem?_eq_some_iff.1 h2.2).1
    rw [h1] at h3;cases h3
  subst hrest
  refine ⟨τ,fzs,Hs,⟨a2,a3,fun s v hsv=>?_⟩,a1,hC⟩
  rcases a12 s v hsv with ⟨k,o,hk,hd,hqk,hv⟩ | ⟨p,hp,hd,hv⟩ | ⟨hv,hn1,hn2⟩
  ·exact a6 k o s v hk hd hqk (hall listed a4 hr k (List.getElem?_eq_some_iff.1 hk).1) hv
  ·obtain ⟨_,u,hu,hdu⟩:=a7 p hp
   rw [hv] at hu;injection hu with hu;subst hu
   exact hdu s hd
  ·refine a5 s v hv fun k o hk hd=>absurd hd (show o.dst≠some s from fun hd=>?_)
   by_cases hqk:∀ p∈ch,p.1≠k
   ·exact hn1 k o hk hqk hd
   ·simp only [Classical.not_forall,Classical.not_not] at hqk
    obtain ⟨p,hp,he⟩:=hqk
    have:=(hch p hp).2
    rw [he,hk] at this;injection this with this
    subst this
    rw [List.append_nil] at e0
    exact hn2 p (e0.mem_iff.2 hp) hd
 have main:∀ (fuel:Nat) (listed:Array Bool) (a:Act) (w:World),(List.range l.length).countP (fun i=>!listed.getD i true)≤fuel→A listed a w→wpAny P .any l.toArray (lift cx n Q) fuel listed a w:=by
  intro fuel
  induction fuel with
  | zero=>
   intro listed a w hc hA
   have hr:Region.ready .any l.toArray listed=[]:=by
    unfold Region.ready
    rw [List.filter_eq_nil_iff]
    intro k hk
    have:(List.range l.length).countP (fun i=>!listed.getD i true)=0:=by omega
    rw [List.countP_eq_zero] at this
    have:=this k (by simpa using hk)
    simp only [Bool.not_eq_true,Bool.not_eq_false'] at this
    simp only [this];simp
   exact ⟨hr,hfin listed a w hA hr⟩
  | succ fuel ih=>
   intro listed a w hc hA
   refine ⟨fun hr=>hfin listed a w hA hr,fun i hir=>?_⟩
   obtain ⟨pre,rest,done,cv,τ,fzs,Hs,e0,hnd,hC,a1,a2,a3,a4,⟨a5,a13⟩,a6,a7,a8,a9,a10,a11,a12⟩:=hA
   unfold Region.ready at hir
   simp only [List.mem_filter,List.mem_range,List.size_toArray,Bool.and_eq_true,Bool.not_eq_true'] at hir
   obtain ⟨hil,hun,hrdy⟩:=hir
   have hio:l[i]?=some l[i]:=List.getElem?_eq_getElem hil
   rw [hops i,hio] at hrdy
   simp only [Option.map_some,Option.getD_some,Array.all_eq_true_iff_forall_mem] at hrdy
   have hilt:i<listed.size:=by omega
   have hdone:∀ j,waits l[i] j=true→listed.getD j true=true∧j<l.length:=by
    intro j hj
    unfold waits at hj
    obtain ⟨e,he,hej⟩:=List.any_eq_true.1 hj
    simp only [Bool.and_eq_true] at hej
    have h1:=hrdy e (by simpa using he)
    rw [hej.2] at h1
    have h2:e.on=j:=Nat.eq_of_beq_eq_true hej.1
    have h3:=hedge i l[i] hio e (by simpa using he) hej.2
    simp only [Bool.not_true,Bool.false_or] at h1
    have h5:j<listed.size:=by omega
    subst h2
    exact ⟨by simpa [Array.getD,h5] using h1,by omega⟩
   have hother:∀ k,k≠i→(listed.setIfInBounds i true).getD k true=listed.getD k true:=by
    intro k hk
    simp only [Array.getD_eq_getD_getElem?]
    rw [Array.getElem?_setIfInBounds_ne Zi]
   have hsame:(listed.setIfInBounds i true).getD i true=true:=by simp [Array.getD,hilt]
   have hmono:∀ k,listed.getD k true=true→(listed.setIfInBounds i true).getD k true=true:=by
    intro k hk
    by_cases he:k=i
    ·subst he;exact hsame
    ·rw [hother k he];exact hk
   have hcount:(List.range l.length).countP (fun j=>!(listed.setIfInBounds i true).getD j true)≤fuel:=by
    have:=YbA (p:=fun j=>!listed.getD j true) (q:=fun j=>!(listed.setIfInBounds i true).getD j true) (List.range l.length) i (by simpa using hil) (fun j hj=>by
     by_cases hji:j=i
     ·subst hji;rw [hsame] at hj;cases hj
     ·rw [hother j hji] at hj;exact hj) (by simp only [hun,Bool.not_false]) (by rw [hsame];rfl)
    omega
   have putOther:∀ (v:Value) (s:Nat) (u:Value),a.tmps[s]?=some u→l[i].dst≠some s→(a.put l[i].dst v).tmps[s]?=some u:=by
    intro v s u hu hne
    cases hd:l[i].dst with
    | none=>exact hu
    | some d=>
     have:d≠s:=fun he=>hne (by rw [hd,he])
     simp only [Act.put]
     rw [Array.getElem?_setIfInBounds_ne this]
     exact hu
   have putSame:∀ (v:Value) (s:Nat),l[i].dst=some s→(a.put l[i].dst v).tmps[s]?=some v:=by
    intro v s hd
    rw [hd]
    simp [Act.put,a2,(hdst i _ s hio hd).1]
   have putSize:∀ v,(a.put l[i].dst v).tmps.size=n:=by intro v;cases hd:l[i].dst<;>simp [Act.put,a2]
   have putDef:∀ v,(a.put l[i].dst v).defers=[]:=by intro v;cases hd:l[i].dst<;>simp [Act.put,a3]
   have dstNe:∀ (k:Nat) (o:Oper) (d:Nat),l[k]?=some o→o.dst=some d→k≠i→l[i].dst≠some d:=fun k o d hk hd hki hc=>hki ((hdst i _ d hio hc).2.2 k o hk hd)
   have hlate:∀ j t,WQ l t 0=some j→Ydg l j=true→∀ (k:Nat) (o:Oper),l[k]?=some o→o.dst=some t→listed.getD k true=false:=by
    intro j t hw hlb k o hk hd
    obtain ⟨kj,oj,hkj,hoj,hdj⟩:=XG l t 0 j hw
    simp only [Nat.zero_add] at hkj
    subst hkj
    have hke:k=j:=(hdst j oj t hoj hdj).2.2 k o hk hd
    subst hke
    obtain ⟨q,hq1,hq2⟩:=Yg1 hlb
    cases hls:listed.getD k true with
    | false=>rfl
    | true=>
     rcases hq2 i hil with h1 | h1
     ·subst h1;rw [hls] at hun;cases hun
     ·have:=a13 k q hq1 hls i h1;rw [hun] at this;cases this
   have a5n:∀ (v:Value) (s:Nat) (u:Value),lk σ s=some u→(∀ (k:Nat) (o:Oper),l[k]?=some o→o.dst=some s→(listed.setIfInBounds i true).getD k true=false)→(a.put l[i].dst v).tmps[s]?=some u:=by
    intro v s u hsu hn
    refine putOther v s u (a5 s u hsu (fun k o hk hd=>?_)) (fun hd=>?_)
    ·by_cases he:k=i
     ·subst he;have:=hn k o hk hd;rw [hsame] at this;cases this
     ·rw [← hother k he];exact hn k o hk hd
    ·have:=hn i l[i] hio hd;rw [hsame] at this;cases this
   have a13n:∀ (k:Nat) (o:Oper),l[k]?=some o→(listed.setIfInBounds i true).getD k true=true→∀ m,waits o m=true→(listed.setIfInBounds i true).getD m true=true:=by
    intro k o hk hls m hm
    by_cases he:k=i
    ·subst he
     have:o=l[k]:=by rw [hio] at hk;injection hk with hk;exact hk.symm
     subst this
     exact hmono m (hdone m hm).1
    ·rw [hother k he] at hls
     exact hmono m (a13 k o hk hls m hm)
   have hyield:∀ j b,l[i].guard=some (j,b)→waits l[i] j=true→∀ c,lk VE j=some c→yielded l.toArray a.tmps j=asB c:=by
    intro j b hg hwt c hc
    obtain ⟨h1,h2⟩:=hdone j hwt
    have hqj:isQ j:=fun p hp he=>by
     have:=hVEch j (.inr ⟨p,hp,he⟩)
     rw [hc] at this;cases this
    unfold yielded
    rw [hops j,List.getElem?_eq_getElem h2]
    cases hd:l[j].dst with
    | none=>
     have h7:=List.all_eq_true.1 hG l[i] (List.getElem_mem hil)
     simp [hg,List.getElem?_eq_getElem h2,hd] at h7
    | some d=>
     have:=a6 j l[j] d _ (List.getElem?_eq_getElem h2) hd hqj h1 hc
     simp only [Option.bind_some,hd,this]
     cases c<;>rfl
   have hwantB:∀ c,X0 l[i] VE=some c→Region.wanted l[i] (yielded l.toArray a.tmps)=c:=by
    intro c hw1
    unfold Region.wanted
    unfold X0 at hw1
    cases hg:l[i].guard with
    | none=>simp only [hg] at hw1;injection hw1
    | some jb=>
     obtain ⟨j,b⟩:=jb
     simp only
     simp only [hg] at hw1
     cases hwt:waits l[i] j with
     | false=>simp [hwt] at hw1
     | true=>
      simp only [hwt] at hw1
      split at hw1
      ·rename_i c hc
       rw [hyield j b hg hwt c hc]
       exact Option.some.inj hw1
      ·cases hw1
   unfold wpOp
   rw [hops i,hio]
   simp only
   by_cases hqi:∀ p∈ch,p.1≠i
   ·-- a quiet operation
    obtain ⟨v,hv,hqv⟩:∃ v,lk VE i=some v∧QOkP P cx l pu i l[i] σ VE fz Hq v:=by
     rcases hq i l[i] hio with ⟨p,hp,he⟩ | ⟨_,h1⟩
     ·exact absurd he (hqi p hp)
     ·exact h1
    obtain ⟨fzq,Hqq,hkeep,hqv⟩:∃ fzq Hqq,Inv cx fzq Hqq w∧QOk P cx l l[i] σ VE fzq Hqq v:=by
     unfold QOkP at hqv
     cases hpi:inPu pu i with
     | true=>rw [hpi] at hqv;exact ⟨fzs,[],a1.forget (List.nil_sublist _),hqv fzs⟩
     | false=>
      rw [hpi] at hqv
      refine ⟨fz,Hq,?_,hqv⟩
      rcases a10 with h1 | h1
      ·exact hi0.keep a1 h1
      ·have:=h1 i hil hqi hpi;rw [hun] at this;cases this
    have hreads:Reads (rdq l l[i] σ VE) a.eval:=by
     intro x u hx
     cases x with
     | tmp t=>
      unfold rdq at hx
      cases hw:WQ l t 0 with
      | none=>
       simp only [hw] at hx
       have:=a5 t u hx (fun k o hk hd=>absurd hd (Ws l t 0 hw k o hk))
       simp [Act.eval,this]
      | some j=>
       simp only [hw] at hx
       cases hwt:waits l[i] j with
       | false=>
        simp only [hwt] at hx
        cases hlb:Ydg l j with
        | false=>simp [hlb] at hx
        | true=>
         simp only [hlb] at hx
         have:=a5 t u hx (hlate j t hw hlb)
         simp [Act.eval,this]
       | true=>
        simp only [hwt] at hx
        obtain ⟨k,o,rfl,hk,hd⟩:=XG l t 0 j hw
        simp only [Nat.zero_add] at*
        have hqk:isQ k:=fun p hp he=>by
         have:=hVEch k (.inr ⟨p,hp,he⟩)
         rw [hx] at this;cases this
        have:=a6 k o t u hk hd hqk (hdone k hwt).1 hx
        simp [Act.eval,this]
     | const c=>injection hx
     | global g=>injection hx
     | func f=>injection hx
    have hnext:∀ w',Fr [] w w'→A (listed.setIfInBounds i true) (a.put l[i].dst v) w':=by
     intro w' hw'
     refine ⟨pre,rest,done,cv,τ,fzs,Hs,e0,hnd,hC,a1.quiet hw',putSize v,putDef v,by simpa using a4,⟨a5n v,a13n⟩,fun k o d u hk hd hqk hls hu=>?_,fun p hp=>?_,fun p hp=>?_,a9,?_,fun hd k hk hqk hpk=>hmono k (a11 hd k hk hqk hpk),a12⟩
     ·by_cases hki:k=i
      ·subst hki
       have:o=l[k]:=by rw [hio] at hk;injection hk with hk;exact hk.symm
       subst this
       rw [hv] at hu;injection hu with hu;subst hu
       exact putSame v d hd
      ·rw [hother k hki] at hls
       exact putOther v d u (a6 k o d u hk hd hqk hls hu) (dstNe k o d hk hd hki)
     ·obtain ⟨h1,u,h2,h3⟩:=a7 p hp
      have hpi:p.1≠i:=hqi p (e0.mem_iff.1 (by simp [hp]))
      exact ⟨hmono _ h1,u,h2,fun d hd=>putOther v d u (h3 d hd) (dstNe p.1 p.2 d (hch p (e0.mem_iff.1 (by simp [hp]))).2 hd hpi)⟩
     ·have hpi:p.1≠i:=hqi p (e0.mem_iff.1 (by simp [hp]))
      obtain ⟨h1,h2⟩:=a8 p hp
      exact ⟨by rw [hother _ hpi];exact h1,h2⟩
     ·rcases a10 with h1 | h1
      ·exact .inl h1
      ·exact .inr fun k hk hqk hpk=>hmono k (h1 k hk hqk hpk)
    rcases hqv with ⟨hw1,hw2⟩ | ⟨hw1,hw2⟩
    ·have hwant:Region.wanted l[i] (yielded l.toArray a.tmps)=true:=by
      unfold Region.wanted
      cases hg:l[i].guard with
      | none=>rfl
      | some jb=>
       obtain ⟨j,b⟩:=jb
       simp only
       unfold X0 at hw1
       simp only [hg] at hw1
       cases hwt:waits l[i] j with
       | false=>simp [hwt] at hw1
       | true=>
        simp only [hwt] at hw1
        split at hw1
        ·rename_i c hc
         rw [hyield j b hg hwt c hc]
         exact Option.some.inj hw1
        ·cases hw1
     rw [if_pos hwant]
     exact .inl (XL.wp ((hw2 a.eval w hreads hkeep).mono fun v' w' ⟨he,hw'⟩=>by subst he;exact ih _ _ _ hcount (hnext w' hw')))
    ·have hwant:Region.wanted l[i] (yielded l.toArray a.tmps)=false:=by
      unfold Region.wanted
      unfold X0 at hw1
      cases hg:l[i].guard with
      | none=>simp [hg] at hw1
      | some jb=>
       obtain ⟨j,b⟩:=jb
       simp only
       simp only [hg] at hw1
       cases hwt:waits l[i] j with
       | false=>simp [hwt] at hw1
       | true=>
        simp only [hwt] at hw1
        split at hw1
        ·rename_i c hc
         rw [hyield j b hg hwt c hc]
         exact Option.some.inj hw1
        ·cases hw1
     rw [if_neg (by simp [hwant])]
     subst hw2
     exact ih _ _ _ hcount (hnext w (Fr.refl _ _))
   ·-- the chain's next operation
    simp only [Classical.not_forall,Classical.not_not] at hqi
    obtain ⟨p,hp,hpi⟩:=hqi
    have hpl:=(hch p hp).2
    rw [hpi,hio] at hpl
    injection hpl with hpl
    have hprest:p∈rest:=by
     rcases List.mem_append.1 (e0.mem_iff.2 hp) with h1 | h1
     ·have:=(a7 p h1).1;rw [hpi,hun] at this;cases this
     ·exact h1
    obtain ⟨m,hm0⟩:∃ m,rest.length=m+1:=by
     cases rest with
     | nil=>cases hprest
     | cons q r=>exact ⟨r.length,rfl⟩
    have hlen:=YeJ hnd hprest
    have hlm:(rest.filter fun q=>!Nat.beq q.1 p.1).length=m:=by omega
    have hfree:(rest.all fun q=>!waits p.2 q.1)=true:=by
     refine List.all_eq_true.2 (fun q hq=>?_)
     cases hw:waits p.2 q.1 with
     | false=>rfl
     | true=>
      rw [← hpl] at hw
      have h1:=(hdone q.1 hw).1
      have h2:=(a8 q hq).1
      rw [h2] at h1;cases h1
    rw [hm0] at hC
    unfold Po at hC
    have hC0:=hC p hprest hfree
    obtain ⟨qi,qo⟩:=p
    simp only at hpi hpl
    subst hpi
    ·generalize hrr:(rest.filter fun q=>!Nat.beq q.1 qi)=r at*
     have hrsub:∀ x∈r,x∈rest∧x.1≠qi:=fun x hx=>by
      rw [← hrr] at hx
      exact ⟨(List.mem_filter.1 hx).1,Yj6 (List.mem_filter.1 hx).2⟩
     have hreads:Reads (rdc l l[qi] σ VE cv) a.eval:=by
      intro x u hx
      cases x with
      | tmp t=>
       unfold rdc at hx
       cases hw:WQ l t 0 with
       | none=>
        simp only [hw] at hx
        have:=a5 t u hx (fun k o hk hd=>absurd hd (Ws l t 0 hw k o hk))
        simp [Act.eval,this]
       | some j=>
        simp only [hw] at hx
        cases hwt:waits l[qi] j with
        | false=>
         simp only [hwt] at hx
         cases hlb:Ydg l j with
         | false=>simp [hlb] at hx
         | true=>
          simp only [hlb] at hx
          have:=a5 t u hx (hlate j t hw hlb)
          simp [Act.eval,this]
        | true=>
         simp only [hwt] at hx
         obtain ⟨k,o,rfl,hk,hd⟩:=XG l t 0 j hw
         simp only [Nat.zero_add] at*
         cases hcv:lk cv k with
         | some u'=>
          simp only [hcv] at hx
          injection hx with hx
          subst hx
          obtain ⟨x,hx,hxk⟩:=a9 k u' hcv
          obtain ⟨_,u2,hu2,hd2⟩:=a7 x hx
          rw [hxk,hcv] at hu2
          injection hu2 with hu2
          subst hu2
          have hxl:=(hch x (e0.mem_iff.1 (by simp [hx]))).2
          rw [hxk,hk] at hxl
          injection hxl with hxl
          have:=hd2 t (by rw [← hxl];exact hd)
          simp [Act.eval,this]
         | none=>
          simp only [hcv] at hx
          have hqk:isQ k:=fun p hp he=>by
           have:=hVEch k (.inr ⟨p,hp,he⟩)
           rw [hx] at this;cases this
          have:=a6 k o t u hk hd hqk (hdone k hwt).1 hx
          simp [Act.eval,this]
      | const c=>injection hx
      | global g=>injection hx
      | func f=>injection hx
     have hstep:=hC0
     simp only at hstep
     rw [← hpl] at hstep
     have nextA:∀ (v:Value) (fz':FZ) (H':HP) (w':World),Inv cx fz' H' w'→((done || allp l ch pu l[qi])=true∨Keep fz Hq fz' H'∨(fz'=fzs∧H'=Hs))→
      Po P cx l pu σ VE fz Hq Q ch m r (done || allp l ch pu l[qi]) ((qi,v)::cv) (match l[qi].dst with | some d=>(d,v)::τ | none=>τ) fz' H'→A (listed.setIfInBounds qi true) (a.put l[qi].dst v) w':=by
      intro v fz' H' w' hinv hst hrest
      refine ⟨pre++ [(qi,qo)],r,_,(qi,v)::cv,_,fz',H',by rw [← hrr];exact (YgT hnd hprest).trans e0,by rw [← hrr];exact Ybt hnd,by rw [hlm];exact hrest,hinv,putSize v,putDef v,by simpa using a4,⟨a5n v,a13n⟩,fun k o d u hk hd hqk hls hu=>?_,fun x hx=>?_,fun x hx=>?_,fun j u hj=>?_,?_,fun hd k hk hqk hpk=>?_,fun s u hs=>?_⟩
      ·have hki:k≠qi:=fun he=>hqk (qi,qo) hp he.symm
       rw [hother k hki] at hls
       exact putOther v d u (a6 k o d u hk hd hqk hls hu) (dstNe k o d hk hd hki)
      ·rcases List.mem_append.1 hx with hx | hx
       ·obtain ⟨h1,u,h2,h3⟩:=a7 x hx
        have hne:x.1≠qi:=fun he=>by rw [he,hun] at h1;cases h1
        exact ⟨hmono _ h1,u,by rw [Yu v cv Zi];exact h2,fun d hd=>putOther v d u (h3 d hd) (dstNe x.1 x.2 d (hch x (e0.mem_iff.1 (by simp [hx]))).2 hd hne)⟩
       ·simp only [List.mem_singleton] at hx
        subst hx
        exact ⟨hsame,v,YC _ _ _,fun d hd=>putSame v d (by rw [hpl];exact hd)⟩
      ·obtain ⟨h1,h2⟩:=a8 x (hrsub x hx).1
       have hne:x.1≠qi:=(hrsub x hx).2
       exact ⟨by rw [hother _ hne];exact h1,by rw [Yu v cv Zi];exact h2⟩
      ·by_cases he:qi=j
       ·exact ⟨(qi,qo),by simp,he⟩
       ·rw [Yu v cv he] at hj
        obtain ⟨x,hx,hxj⟩:=a9 j u hj
        exact ⟨x,by simp [hx],hxj⟩
      ·rcases hst with hst | hst
       ·right
        intro k hk hqk hpk
        cases hdn:done with
        | true=>exact hmono k (a11 hdn k hk hqk hpk)
        | false=>
         rw [hdn,Bool.false_or] at hst
         unfold allp at hst
         have:=List.all_eq_true.1 hst k (by simpa using hk)
         rw [hpk,Bool.or_false,Bool.or_eq_true] at this
         rcases this with h1 | h1
         ·unfold inCh at h1
          obtain ⟨x,hx,hxk⟩:=List.any_eq_true.1 h1
          exact absurd (Nat.eq_of_beq_eq_true hxk) (hqk x hx)
         ·exact hmono k (hdone k h1).1
       ·rcases hst with hst | ⟨h1,h2⟩
        ·exact .inl hst
        ·subst h1 h2
         rcases a10 with h3 | h3
         ·exact .inl h3
         ·exact .inr fun k hk hqk hpk=>hmono k (h3 k hk hqk hpk)
      ·rw [Bool.or_eq_true] at hd
       rcases hd with hd | hd
       ·exact hmono k (a11 hd k hk hqk hpk)
       ·unfold allp at hd
        have:=List.all_eq_true.1 hd k (by simpa using hk)
        rw [hpk,Bool.or_false,Bool.or_eq_true] at this
        rcases this with h1 | h1
        ·unfold inCh at h1
         obtain ⟨x,hx,hxk⟩:=List.any_eq_true.1 h1
         exact absurd (Nat.eq_of_beq_eq_true hxk) (hqk x hx)
        ·exact hmono k (hdone k h1).1
      ·have hcvx:∀ x∈pre,lk ((qi,v)::cv) x.1=lk cv x.1:=by
        intro x hx
        have h1:=(a7 x hx).1
        have hne:x.1≠qi:=fun he=>by rw [he,hun] at h1;cases h1
        exact Yu v cv Zi
       cases hd:l[qi].dst with
       | none=>
        simp only [hd] at hs
        rcases a12 s u hs with h1 | ⟨x,hx,hxd,hxv⟩ | ⟨h1,h2,h3⟩
        ·exact .inl h1
        ·exact .inr (.inl ⟨x,by simp [hx],hxd,by rw [hcvx x hx];exact hxv⟩)
        ·refine .inr (.inr ⟨h1,h2,fun x hx=>?_⟩)
         rcases List.mem_append.1 hx with hx | hx
         ·exact h3 x hx
         ·simp only [List.mem_singleton] at hx
          subst hx
          simp only [← hpl,hd];simp
       | some d=>
        simp only [hd] at hs
        by_cases he:d=s
        ·subst he
         rw [YC] at hs
         exact .inr (.inl ⟨(qi,qo),by simp,by rw [← hpl];exact hd,by rw [YC];exact hs⟩)
        ·rw [Yu v τ he] at hs
         rcases a12 s u hs with h1 | ⟨x,hx,hxd,hxv⟩ | ⟨h1,h2,h3⟩
         ·exact .inl h1
         ·exact .inr (.inl ⟨x,by simp [hx],hxd,by rw [hcvx x hx];exact hxv⟩)
         ·refine .inr (.inr ⟨h1,h2,fun x hx=>?_⟩)
          rcases List.mem_append.1 hx with hx | hx
          ·exact h3 x hx
          ·simp only [List.mem_singleton] at hx
           subst hx
           simp only [← hpl,hd]
           intro hc;injection hc with hc;exact he hc
     rcases hstep with ⟨hw1,hdo⟩ | ⟨hw1,hno⟩
     ·rw [if_pos (hwantB true hw1)]
      refine .inl (XL.wp ((hdo.run a.eval w hreads a1).mono fun v w' hh=>?_))
      obtain ⟨fz',H',hinv,hst,hrest⟩:=hh
      exact ih _ _ _ hcount (nextA v fz' H' w' hinv (hst.imp (fun h=>h) .inl) hrest)
     ·rw [if_neg (by rw [hwantB false hw1];simp)]
      exact ih _ _ _ hcount (nextA undef fzs Hs w a1 (.inr (.inr ⟨rfl,rfl⟩)) hno)
 refine wp_region_any hm (main _ _ _ _ ?_ ⟨[],ch,false,[],τF,fz,H,by simp,hcok,hCh,hi.drew,hs.size,hs.defers,by simp,⟨fun s v hv _=>hs.slot s v hv,fun k o hk hls=>?_⟩,fun k o d v hk hd _ hls=>?_,by simp,fun p hp=>⟨?_,rfl⟩,(fun j v hj=>by cases hj),.inl ⟨Le.refl _,fun p hp=>hHq.subset hp⟩,(fun h=>by cases h),fun s v hsv=>?_⟩)
 ·have:=List.countP_le_length (p:=fun i=>!(Array.replicate l.toArray.size false).getD i true) (l:=List.range l.length)
  simpa using this
 ·have:k<l.length:=(List.getElem?_eq_some_iff.1 hk).1
  simp [Array.getD,this] at hls
 ·have:k<l.length:=(List.getElem?_eq_some_iff.1 hk).1
  simp [Array.getD,this] at hls
 ·have:p.1<l.length:=(List.getElem?_eq_some_iff.1 (hch p hp).2).1
  simp [Array.getD,this]
 ·rcases hτ s v hsv with ⟨k,o,hk,hd,hl⟩ | ⟨hl,hn⟩
  ·refine .inl ⟨k,o,hk,hd,fun p hp he=>?_,hl⟩
   have:=hVEch k (.inr ⟨p,hp,he⟩)
   rw [hl] at this;cases this
  ·exact .inr (.inr ⟨hl,fun k o hk hqk=>hn k o hk hqk,by simp⟩)/-! the steps of such a walk -/
def Yi4 (rest:List (Nat × Oper)):List (Nat × Oper):=rest.filter fun p=>rest.all fun q=>!waits p.2 q.1
theorem mem_ready {rest:List (Nat × Oper)} {p:Nat × Oper} (hp:p∈rest) (hf:(rest.all fun q=>!waits p.2 q.1)=true):p∈Yi4 rest:=List.mem_filter.2 ⟨hp,hf⟩
variable {Hq:HP} {pu:List Nat} {σ' τ ve cv:Env} {l:List Oper} {all rest r1 r2:List (Nat × Oper)} {i j d:Nat} {o o2:Oper} {dn:Bool} {fz0:FZ} {m:Nat}
def PoS (P:Program) (cx:Cx) (ops:List Oper) (pu:List Nat) (σ ve:Env) (fz0:FZ) (Hq:HP) (Q:QQ) (all:List (Nat × Oper)) (m:Nat) (rest':List (Nat × Oper)) (done:Bool) (cv τ:Env) (fz:FZ) (H:HP) (i:Nat) (o:Oper):Prop:=
 (X0 o ve=some true∧Does P cx o (rdc ops o σ ve cv) fz H fun v fz' H'=>
  ((done || allp ops all pu o)=true∨Keep fz0 Hq fz' H')∧
  Po P cx ops pu σ ve fz0 Hq Q all m rest' (done || allp ops all pu o) ((i,v)::cv) (match o.dst with | some d=>(d,v)::τ | none=>τ) fz' H')∨
 (X0 o ve=some false∧Po P cx ops pu σ ve fz0 Hq Q all m rest' (done || allp ops all pu o) ((i,undef)::cv) (match o.dst with | some d=>(d,undef)::τ | none=>τ) fz H)
theorem Yf (hr:Yi4 rest=[(i,o)]) (hf:(rest.filter fun q=>!Nat.beq q.1 i)=r1) (h:PoS P cx l pu σ' ve fz0 Hq Q all m r1 dn cv τ fz H i o):Po P cx l pu σ' ve fz0 Hq Q all (m+1) rest dn cv τ fz H:=by
 unfold Po
 intro p hp hfree
 have:=mem_ready hp hfree
 rw [hr,List.mem_singleton] at this
 subst this
 rw [hf]
 exact h
theorem YV (hr:Yi4 rest=[(i,o),(j,o2)]) (hf:(rest.filter fun q=>!Nat.beq q.1 i)=r1) (hg:(rest.filter fun q=>!Nat.beq q.1 j)=r2) (h:PoS P cx l pu σ' ve fz0 Hq Q all m r1 dn cv τ fz H i o) (k:PoS P cx l pu σ' ve fz0 Hq Q all m r2 dn cv τ fz H j o2):Po P cx l pu σ' ve fz0 Hq Q all (m+1) rest dn cv τ fz H:=by
 unfold Po
 intro p hp hfree
 have:=mem_ready hp hfree
 rw [hr,List.mem_cons,List.mem_singleton] at this
 rcases this with this | this
 ·subst this;rw [hf];exact h
 ·subst this;rw [hg];exact k
theorem Po.done (h:Q .normal τ fz H):Po P cx l pu σ' ve fz0 Hq Q all 0 rest dn cv τ fz H:=by unfold Po;exact h
theorem Does.freezeAll {r:Operand→Option Value} {K:Value→FZ→HP→Prop} {H1 H2:HP} (hp:H.Perm (H1++H2)) (h:∀ fz',Le fz fz'→(∀ p∈H2,fz' p.1=some p.2)→Does P cx o r fz' H1 K):Does P cx o r fz H K:=
 Does.of fun ρ w hr hi=>by
  obtain ⟨fz',h1,h2,h3⟩:=Wc H2 fz H1 (hi.perm hp.symm)
  exact (h fz' h1 h2).run ρ w hr h3
theorem Does.after {r:Operand→Option Value} {K:Value→FZ→HP→Prop} (h:Does P cx o r fz H fun v fz' H'=>∃ H2,H2.Perm H'∧K v fz' H2):Does P cx o r fz H K:=
 Does.of fun ρ w hr hi=>(h.run ρ w hr hi).mono fun v w' hh=>by
  obtain ⟨fz',H',h1,H2,h2,h3⟩:=hh
  exact ⟨fz',H2,h1.perm h2,h3⟩
variable {op:Op} {ty:TypeId} {pos:String} {af:Array Edge}
theorem Yh (h:Does P cx ⟨some d,op,ty,pos,af,none⟩ (rdc l ⟨some d,op,ty,pos,af,none⟩ σ' ve cv) fz H fun v fz' H'=>Keep fz0 Hq fz' H'∧Po P cx l pu σ' ve fz0 Hq Q all m r1 (dn || allp l all pu ⟨some d,op,ty,pos,af,none⟩) ((i,v)::cv) ((d,v)::τ) fz' H'):
 PoS P cx l pu σ' ve fz0 Hq Q all m r1 dn cv τ fz H i ⟨some d,op,ty,pos,af,none⟩:=by
 refine .inl ⟨rfl,?_⟩
 exact Does.of fun ρ w hr hi=>(h.run ρ w hr hi).mono fun v w' hh=>by
  obtain ⟨fz',H',h1,h2,h3⟩:=hh
  exact ⟨fz',H',h1,.inr h2,h3⟩
theorem PoS.soft0 (h:Does P cx ⟨none,op,ty,pos,af,none⟩ (rdc l ⟨none,op,ty,pos,af,none⟩ σ' ve cv) fz H fun v fz' H'=>Keep fz0 Hq fz' H'∧Po P cx l pu σ' ve fz0 Hq Q all m r1 (dn || allp l all pu ⟨none,op,ty,pos,af,none⟩) ((i,v)::cv) τ fz' H'):
 PoS P cx l pu σ' ve fz0 Hq Q all m r1 dn cv τ fz H i ⟨none,op,ty,pos,af,none⟩:=by
 refine .inl ⟨rfl,?_⟩
 exact Does.of fun ρ w hr hi=>(h.run ρ w hr hi).mono fun v w' hh=>by
  obtain ⟨fz',H',h1,h2,h3⟩:=hh
  exact ⟨fz',H',h1,.inr h2,h3⟩
theorem PoS.hard (hd:(dn || allp l all pu ⟨some d,op,ty,pos,af,none⟩)=true) (h:Does P cx ⟨some d,op,ty,pos,af,none⟩ (rdc l ⟨some d,op,ty,pos,af,none⟩ σ' ve cv) fz H fun v fz' H'=>Po P cx l pu σ' ve fz0 Hq Q all m r1 true ((i,v)::cv) ((d,v)::τ) fz' H'):
 PoS P cx l pu σ' ve fz0 Hq Q all m r1 dn cv τ fz H i ⟨some d,op,ty,pos,af,none⟩:=by
 refine .inl ⟨rfl,?_⟩
 exact Does.of fun ρ w hr hi=>(h.run ρ w hr hi).mono fun v w' hh=>by
  obtain ⟨fz',H',h1,h3⟩:=hh
  exact ⟨fz',H',h1,.inl hd,by rw [hd];exact h3⟩
theorem PoS.hard0 (hd:(dn || allp l all pu ⟨none,op,ty,pos,af,none⟩)=true) (h:Does P cx ⟨none,op,ty,pos,af,none⟩ (rdc l ⟨none,op,ty,pos,af,none⟩ σ' ve cv) fz H fun v fz' H'=>Po P cx l pu σ' ve fz0 Hq Q all m r1 true ((i,v)::cv) τ fz' H'):
 PoS P cx l pu σ' ve fz0 Hq Q all m r1 dn cv τ fz H i ⟨none,op,ty,pos,af,none⟩:=by
 refine .inl ⟨rfl,?_⟩
 exact Does.of fun ρ w hr hi=>(h.run ρ w hr hi).mono fun v w' hh=>by
  obtain ⟨fz',H',h1,h3⟩:=hh
  exact ⟨fz',H',h1,.inl hd,by rw [hd];exact h3⟩
theorem PK.q {K:Env→Env→List (Nat × Oper)→Prop} {rest:List Oper} {ch:List (Nat × Oper)} (hp:inPu pu i=false) (h:DoesQ P cx ⟨some d,op,ty,pos,af,none⟩ (rdq l ⟨some d,op,ty,pos,af,none⟩ σ' ve) fz Hq fun v=>PK P cx l pu σ' fz Hq K (i+1) rest ((i,v)::ve) ((d,v)::τ) ch):
 PK P cx l pu σ' fz Hq K i (⟨some d,op,ty,pos,af,none⟩::rest) ve τ ch:=by
 unfold DoesQ at h
 obtain ⟨v,h1,h2⟩:=h
 unfold PK
 exact .inl ⟨v,by unfold QOkP;rw [hp];exact .inl ⟨rfl,h2⟩,h1⟩
theorem PK.p {K:Env→Env→List (Nat × Oper)→Prop} {rest:List Oper} {ch:List (Nat × Oper)} {v:Value} (hp:inPu pu i=true) (h:∀ fz',DoesQ P cx ⟨some d,op,ty,pos,af,none⟩ (rdq l ⟨some d,op,ty,pos,af,none⟩ σ' ve) fz' [] fun u=>u=v) (k:PK P cx l pu σ' fz Hq K (i+1) rest ((i,v)::ve) ((d,v)::τ) ch):
 PK P cx l pu σ' fz Hq K i (⟨some d,op,ty,pos,af,none⟩::rest) ve τ ch:=by
 unfold PK
 refine .inl ⟨v,?_,k⟩
 unfold QOkP
 rw [hp]
 intro fz'
 have h1:=h fz'
 unfold DoesQ at h1
 obtain ⟨u,rfl,h2⟩:=h1
 exact .inl ⟨rfl,h2⟩
theorem Yl {K:Env→Env→List (Nat × Oper)→Prop} {rest:List Oper} {ch:List (Nat × Oper)} {o:Oper} (h:PK P cx l pu σ' fz Hq K (i+1) rest ve τ (ch++ [(i,o)])):PK P cx l pu σ' fz Hq K i (o::rest) ve τ ch:=by
 unfold PK;exact .inr h
theorem PK.done {K:Env→Env→List (Nat × Oper)→Prop} {ch:List (Nat × Oper)} (h:K ve τ ch):PK P cx l pu σ' fz Hq K i [] ve τ ch:=by
 unfold PK;exact h
theorem PoS.qk (hk:Keep fz0 Hq fz H) (h:DoesQ P cx ⟨some d,op,ty,pos,af,none⟩ (rdc l ⟨some d,op,ty,pos,af,none⟩ σ' ve cv) fz H fun v=>Po P cx l pu σ' ve fz0 Hq Q all m r1 (dn || allp l all pu ⟨some d,op,ty,pos,af,none⟩) ((i,v)::cv) ((d,v)::τ) fz H):
 PoS P cx l pu σ' ve fz0 Hq Q all m r1 dn cv τ fz H i ⟨some d,op,ty,pos,af,none⟩:=Yh ((h.mono fun _ hv=>⟨hk,hv⟩).does)
end
attribute [irreducible] Po PoS PK
end Go.Lx
namespace Go.Lx
open Go.RowKit
theorem YhQ {α:Type} {z:Nat} {d:α × List Value} (hd:d.2.length=z):∀ {xs:List (α × List Value)} {i:Nat},(∀ p∈xs,p.2.length=z)→i<xs.length→
 (xs.flatMap Prod.snd).take (i*z)++d.2++(xs.flatMap Prod.snd).drop (i*z+z)=(xs.set i d).flatMap Prod.snd
 | [],i,_,hi=>by simp at hi
 | x::r,0,h,_=>by
  have hx:=h x (by simp)
  simp only [List.flatMap_cons,Nat.zero_mul,List.take_zero,List.nil_append,Nat.zero_add,List.set_cons_zero]
  rw [← hx,List.drop_left]
 | x::r,i+1,h,hi=>by
  have hx:=h x (by simp)
  have ih:=YhQ hd (xs:=r) (i:=i) (fun p hp=>h p (by simp [hp])) (by simpa using hi)
  simp only [List.flatMap_cons,List.set_cons_succ]
  rw [← ih,Nat.succ_mul]
  have e1:i*z+z=x.2.length+i*z:=by omega
  have e2:i*z+z+z=x.2.length+(i*z+z):=by omega
  rw [e2,List.drop_append,e1,List.take_append]
  simp only [List.take_of_length_le (show x.2.length≤x.2.length+i*z by omega),Nat.add_sub_cancel_left,List.append_assoc]
  have e3:List.drop (x.2.length+(x.2.length+i*z)) x.2=[]:=List.drop_eq_nil_of_le Zi
  simp [e3]
structure GrowB {α:Type} (L:Lay α) (e:Nat) (fz:FZ) (g n cap:Nat) (cur:List Value) (l:List α):Prop where
 pairs:∃ xs:List (α × List Value),xs.map Prod.fst=l∧(∀ p∈xs,L.rep fz p.1 p.2)∧cur.take (n*L.size)=xs.flatMap Prod.snd
 len:l.length=n
 capn:n≤cap
 max:cap≤maxLen
 size:cur.length=cap*L.size
theorem Grow.b {α:Type} {L:Lay α} {e:Nat} {fz:FZ} {v:Value} {n:Nat} {Hs:HP} {l:List α} (hg:Grow L e fz v n Hs l) (hn:0<n):∃ g cap cur,v=.slice (some ⟨g,0,none⟩) n cap∧Hs=[(g,.cells (List.toArray cur) e (0,0))]∧GrowB L e fz g n cap cur l:=by
 obtain ⟨xs,h1,h2,h3,h4⟩:=hg
 rcases h4.2 with ⟨_,h0,_⟩ | ⟨g,cap,cur,h5,h6,h7,h8,h9,h10⟩
 ·omega
 ·exact ⟨g,cap,cur.toList,h5,by rw [h6],⟨xs,h1,h2,h10⟩,h3,h7,h8,by simpa using h9⟩
theorem GrowB.grow {α:Type} {L:Lay α} {e:Nat} {fz:FZ} {g n cap:Nat} {cur:List Value} {l:List α} (h:GrowB L e fz g n cap cur l):Grow L e fz (.slice (some ⟨g,0,none⟩) n cap) n [(g,.cells (List.toArray cur) e (0,0))] l:=by
 obtain ⟨xs,h1,h2,h3⟩:=h.pairs
 have hl:xs.length=n:=by have:=h.len;rw [← h1,List.length_map] at this;exact this
 exact ⟨xs,h1,h2,h.len,by rw [Ybe (fun p hp=>L.len (h2 p hp)),hl],.inr ⟨g,cap,cur.toArray,rfl,rfl,h.capn,h.max,by simpa using h.size,by simpa using h3⟩⟩
theorem GrowB.mono {α:Type} {L:Lay α} {e:Nat} {fz fz':FZ} (hle:Le fz fz') {g n cap:Nat} {cur:List Value} {l:List α} (h:GrowB L e fz g n cap cur l):GrowB L e fz' g n cap cur l:=by
 obtain ⟨xs,h1,h2,h3⟩:=h.pairs
 exact ⟨⟨xs,h1,fun p hp=>L.mono hle (h2 p hp),h3⟩,h.len,h.capn,h.max,h.size⟩
section
variable {P:Program} {cx:Cx} {r:Operand→Option Value} {fz:FZ} {H:HP} {V:Value→Prop} {dst:Option Nat} {ty:TypeId} {pos:String} {af:Array Edge} {gd:Option (Nat × Bool)}
theorem YQ (T:Tab P) {t e:TypeId} {x i:Operand} {X Y:Ty} {g n c z:Nat} {k:IntKind} {j:Int} (hT:T.inf t=some X) (hd:X.desc=.slice e) (hY:T.inf e=some Y)
 (hx:r x=some (.slice (some ⟨g,0,none⟩) n c)) (hi:r i=some (.int k j)) (hs:Y.size=z) (h0:0≤j) (hn:j<n) (h:V (.pointer (some ⟨g,j.toNat*z,none⟩))):DoesQ P cx ⟨dst,.indexAddr t x i,ty,pos,af,gd⟩ r fz H V:=by
 refine Ya3 T hT hd hY hx hi h0 hn ?_
 have hadd:(⟨g,0,none⟩:Addr).add (j.toNat*Y.size)=⟨g,j.toNat*z,none⟩:=by rw [hs];unfold Addr.add;split<;>simp_all
 rw [hadd]
 exact h
theorem YH (T:Tab P) {t t':TypeId} {x y:Operand} {X:Ty} {pre post:HP} {g j n cap:Nat} {v:Value} {cs cur:List Value} {α:Type} {L:Lay α} {l:List α} {d:α} {K:Value→FZ→HP→Prop} (hT:T.inf t=some X)
 (hx:r x=some (.pointer (some ⟨g,j*L.size,none⟩))) (hy:r y=some v) (hH:H=pre++(g,.cells cur.toArray t' (0,0))::post) (hv:v.cells=cs.toArray) (hs:X.size=L.size) (h1:OneC L) (hr:L.rep fz d cs) (hb:GrowB L t' fz g n cap cur l) (hj:j<n)
 (h:∀ cur',GrowB L t' fz g n cap cur' (l.set j d)→K undef fz (pre++(g,.cells cur'.toArray t' (0,0))::post)):Does P cx ⟨dst,.store t x y,ty,pos,af,gd⟩ r fz H K:=by
 refine Does.of fun ρ w hrd hw=>?_
 subst hH
 have hcs:=L.len hr
 have hgb:=(hw.hp.own (g,.cells cur.toArray t' (0,0)) (by simp)).1
 obtain ⟨xs,e1,e2,e3⟩:=hb.pairs
 have hxl:xs.length=n:=by have:=hb.len;rw [← e1,List.length_map] at this;exact this
 have hsz:=hb.size
 have hcap:=hb.capn
 have hjn:j*L.size+L.size≤n*L.size:=by rw [← Nat.succ_mul];exact Nat.mul_le_mul_right _ hj
 have hnc:n*L.size≤cap*L.size:=Nat.mul_le_mul_right _ hcap
 have hle:j*L.size+0+cs.length≤cur.toArray.size:=by simp;omega
 have hst:=run_storeCells_at (P:=P) g (j*L.size) t' cs 0 cur.toArray w hgb hle (fun u hu=>h1 _ _ _ hr u hu)
 simp only [Nat.add_zero] at hst
 have hz:=run_sizeOf T hT w
 rw [hs,← hcs] at hz
 have hvl:v.cells.toList=cs:=by rw [hv]
 have:(execOp ρ ⟨dst,.store t x y,ty,pos,af,gd⟩).run P w=.ok .skip (w.setRow g (cur.take (j*L.size)++cs++cur.drop (j*L.size+cs.length)).toArray):=by
  simp only [execOp,hrd _ _ hx,hrd _ _ hy,Instr.storeAt,Instr.sureAddr,Sem.run_bind,Sem.run_pure,Result.andThen_ok,storeVar,hz,hvl]
  simp [hst,hv]
 rw [this]
 have hflat:(xs.flatMap Prod.snd).length=n*L.size:=by rw [Ybe (fun p hp=>L.len (e2 p hp)),hxl]
 have hcur:cur=xs.flatMap Prod.snd++cur.drop (n*L.size):=by rw [← e3,List.take_append_drop]
 have hnew:(cur.take (j*L.size)++cs++cur.drop (j*L.size+cs.length)).take (n*L.size)=(xs.set j (d,cs)).flatMap Prod.snd:=by
  rw [← YhQ (z:=L.size) (d:=(d,cs)) hcs (fun p hp=>L.len (e2 p hp)) Zi,hcs]
  generalize hf:xs.flatMap Prod.snd=fl at*
  generalize hT':cur.drop (n*L.size)=tl at*
  subst hcur
  have a1:(fl++tl).take (j*L.size)=fl.take (j*L.size):=List.take_append_of_le_length Zi
  have a2:(fl++tl).drop (j*L.size+L.size)=fl.drop (j*L.size+L.size)++tl:=List.drop_append_of_le_length Zi
  rw [a1,a2,← List.append_assoc,List.take_append_of_le_length (by simp only [List.length_append,List.length_take,List.length_drop];omega),List.take_of_length_le (by simp only [List.length_append,List.length_take,List.length_drop];omega)]
 refine ⟨fz,_,hw.write (o':=.cells (cur.take (j*L.size)++cs++cur.drop (j*L.size+cs.length)).toArray t' (0,0)) rfl rfl rfl (by simp) ?_ (fun k hk=>?_),h _ ⟨⟨xs.set j (d,cs),?_,fun p hp=>?_,hnew⟩,by rw [List.length_set];exact hb.len,hcap,hb.max,?_⟩⟩
 ·simp [World.setRow,Array.getElem?_modify,hgb]
 ·simp only [World.setRow,Array.getElem?_modify]
  rw [if_neg Zi]
 ·rw [← e1,List.map_set]
 ·rcases List.mem_or_eq_of_mem_set hp with hp | rfl
  ·exact e2 p hp
  ·exact hr
 ·simp only [List.length_append,List.length_take,List.length_drop];omega
end
end Go.Lx
set_option maxRecDepth 20000
namespace Go.Proofs.YtbhlgkibgajajaaGreatDoor
open Go.Lx Go.RowKit
attribute [local instance 10] Classical.propDecidable
theorem Ybl {fz:FZ} {s:ByteArray}:QFn Tryz.prog 153 [.string s] fz (sxV 1 0 s (.slice none 0 0)):=by
 refine GFn.quiet ?_
 (refine GFn.of_wp Tryz.func153 rfl Tryz.ntmps153 rfl rfl (fun w0=>?_))
 ((repeat (first | refine zS ?_ | refine zA fun _=>?_)))
 exact XR T (i:=0) rfl Zz Zz Zz Zz Zz (fun _ hi=>⟨_,[],hi.forget (List.nil_sublist _),rfl⟩)
theorem YeT {fz:FZ} {s:ByteArray}:QFn Tryz.prog 99 [.string s] fz (sxV 1 0 s (.slice none 0 0)):=by
 refine GFn.quiet ?_
 (refine GFn.of_wp Tryz.func99 rfl Tryz.ntmps99 rfl rfl (fun w0=>?_))
 ((repeat (first | refine zS ?_ | refine zA fun _=>?_)))
 exact XR T (i:=0) rfl Zz Zz Zz Zz Zz (fun _ hi=>⟨_,[],hi.forget (List.nil_sublist _),rfl⟩)
set_option maxHeartbeats 1000000 in
theorem YgZ {fz:FZ} {f0:ByteArray} {A:Option Addr} {n c:Nat} {l:List ByteArray} (hf:Short f0) (h1:Sl strL fz A n c l) (hn:n≤1000000000):
 GFn Tryz.prog 154 [.string f0,.slice A n c] fz [] (fun v fz' H'=>H'=[]∧SxIs fz' v (Xj f0 l)):=by
 have l1:=h1.len
 (refine GFn.of_wp Tryz.func154 rfl Tryz.ntmps154 rfl rfl (fun w0=>?_))
 ((repeat (first | refine zS ?_ | refine zA fun _=>?_)))
 rename_i g4
 (((refine zG ?_));refine Yj Zz Zz (Ybl (s:=f0)) ?_)
 unfold sxV
 refine Yb Zz (Yc T (cs:=Ym f0) Zz Zz Zz Zz Zz Zz Zz Zz (fun gb=>?_))
 ((repeat (first | refine zS ?_ | refine zA fun _=>?_)))
 refine Wp.perm (List.Perm.swap _ _ _) ?_
 refine YD (fun q σ fz' H'=>∃ (k:Nat) (v:Value) (Hs:HP),k≤n∧q=n - k∧σ=[(6,.int .i64 k),(5,v),(4,.pointer (some ⟨g4,0,none⟩)),(1,.slice A n c)]∧fz=fz'∧
  H'=(g4,.cells #[.int .i64 0,.int .i64 0,.int .i64 0,.int .i64 0,.string ⟨#[]⟩,.slice none 0 0] 64 (0,0))::Hs∧Grow YF 64 fz' v (k+1) Hs (Yd f0::(l.take k).map Yd))
  ⟨0,_,[_],Nat.zero_le _,rfl,rfl,rfl,rfl,Grow.block (ys:=[(Yd f0,Ym f0)]) rfl rfl (by simpa using Yq hf) rfl Zh⟩ (Zw) (Zb) ?_
 rintro q σ fz' H' ⟨k,v,Hs,hk,rfl,rfl,rfl,rfl,hG⟩
 obtain ⟨Av,cv,rfl,_,_⟩:=hG.form
 ((repeat (first | refine zS ?_ | refine zA fun _=>?_)))
 ((refine zG ?_;refine zC (fun c1=>?_) (fun c1=>?_)))
 ·obtain ⟨x,hx⟩:=YG (l:=l) (k:=k) Zi
  ((repeat (first | refine zS ?_ | refine zA fun _=>?_)))
  (((refine zG ?_));refine YA T k Zz Zz Zz Zz Zz Zz h1 (by first | rfl | omega) hx (fun p hp=>?_))
  (((refine zG ?_));refine Y9 T Zz Zz Zz hp (fun ix=>?_))
  (((refine zG ?_));refine Yj Zz Zz (Ybl (s:=x)) ?_)
  unfold sxV
  refine Yb Zz (Yc T (cs:=Ym x) Zz Zz Zz Zz Zz Zz Zz Zz (fun gb=>?_))
  refine Yb Zz (Y3 T (Hr:=[_,_]) Zz Zz Zz Zz Zz Zz Zz Zz (List.Perm.refl _) hG Yn (.head _) (Yq ix) (by show _*72≤_;omega) Zi (fun v' Hs' hO'=>?_))
  obtain ⟨Av',cv',rfl,_,_⟩:=hO'.form
  ((repeat (first | refine zS ?_ | refine zA fun _=>?_)))
  exact YP ⟨k+1,_,Hs',by omega,rfl,rfl,rfl,rfl,hO'.of (by rw [List.take_add_one,hx];simp) rfl⟩ Zi (Zw) (Zb)
 ·have hk1:n=k:=by omega
  subst hk1
  rw [List.take_of_length_le Zi] at hG
  ((repeat (first | refine zS ?_ | refine zA fun _=>?_)))
  refine Y4 T (i:=0) rfl Zz Zz Zz Zz Zz (fun fz3 hle3 hf3=>⟨rfl,?_⟩)
  obtain ⟨A',c',he,hsl⟩:=hG.sl hle3 (fun p hp=>hf3 p (by simp [hp])) Zi
  injection he with he1 he2 he3
  subst he1 he3
  exact XQ hsl
set_option maxHeartbeats 1000000 in
theorem Yhd:∀ (s:Nat) {fz:FZ} {e:Lx.Expr} {va vk:Value},SizeOf.sizeOf e≤s→ExprR fz e va vk→EShape e→
 GFn Tryz.prog 155 [.agg #[.string e.op,.string e.name,.int .i64 e.n,va,vk]] fz [] (fun v fz' H'=>H'=[]∧SxIs fz' v (Y8 e))
 | 0,_,e,_,_,hs,_,_=>by cases e;simp at hs
 | s+1,fz,e,va,vk,hs,h,hE=>by
  obtain ⟨A,n,c,rfl,ha⟩:=h.args
  obtain ⟨B,m,d,rfl,hk⟩:=h.kids
  (refine GFn.of_wp Tryz.func155 rfl Tryz.ntmps155 rfl rfl (fun w0=>?_))
  (refine Yr (Yp (Yb Zz (Xi _ Zz Zz (fun g0=>?_)))))
  ((repeat (first | refine zS ?_ | refine zA fun _=>?_)))
  rename_i g1
  ((refine zG ?_;refine zC (fun x1=>?_) (fun y1=>?_)))
  ·((repeat (first | refine zS ?_ | refine zA fun _=>?_)))
   refine Y4 T (i:=0) rfl Zz Zz Zz Zz Zz (fun fz3 hle3 hf3=>⟨rfl,?_⟩)
   rw [Ycs,if_pos (show e.op=kNumber from x1)]
   exact Yjg h.n
  ·((repeat (first | refine zS ?_ | refine zA fun _=>?_)))
   ((refine zG ?_;refine zC (fun x2=>?_) (fun y2=>?_)))
   ·have hn:e.args.length≤1000000000:=by
     cases hE with
     | num h=>exact absurd h y1
     | flu _ hn=>exact hn
     | bin _ h2=>exact absurd x2 h2
    ((repeat (first | refine zS ?_ | refine zA fun _=>?_)))
    (refine Yb Zz (YB [] [_,_] Zz Zz Zz (YgZ (f0:=e.name) h.name ha (by rw [← ha.len];exact hn)) (fun v fz2 H2 hle2 hR=>?_)))
    obtain ⟨rfl,cs,rfl,hr⟩:=hR
    obtain ⟨vk6,rfl,hX⟩:=Yt hr
    obtain ⟨A6,n6,b6,rfl,_⟩:=hX.kids
    ((repeat (first | refine zS ?_ | refine zA fun _=>?_)))
    refine Y4 T (i:=0) rfl Zz Zz Zz Zz Zz (fun fz3 hle3 hf3=>⟨rfl,?_⟩)
    rw [Ycs,if_neg (show ¬e.op=kNumber from y1),if_pos (show e.op=kFluent from x2)]
    exact SxIs.mono hle3 ⟨_,rfl,Yg hX⟩
   ·obtain ⟨a,b,hab,hsa,hsb⟩:∃ a b,e.kids=[a,b]∧EShape a∧EShape b:=by
     cases hE with
     | num h=>exact absurd h y1
     | flu h _=>exact absurd h y2
     | bin _ _ hk ha hb=>exact ⟨_,_,hk,ha,hb⟩
    have la:=Lx.Expr.kids_lt (x:=e) (k:=a) (by rw [hab];simp)
    have lb:=Lx.Expr.kids_lt (x:=e) (k:=b) (by rw [hab];simp)
    have l2:=hk.len
    rw [hab] at l2
    simp at l2
    subst l2
    ((repeat (first | refine zS ?_ | refine zA fun _=>?_)))
    (refine Wp.drawK (Hq:=[_,_]) T.mixed Zj Zj (Zb) ?_)
    ((repeat (first | refine zS ?_ | refine zA fun _=>?_)))
    (((refine zG ?_));refine Yj Zz Zz (Ybl (s:=e.op)) ?_)
    ((repeat (first | refine zS ?_ | refine zA fun _=>?_)))
    (((refine zG ?_));refine YA T 0 Zz Zz Zz Zz Zz Zz hk (by first | rfl | omega) (by rw [hab];rfl:e.kids[0]?=some a) (fun p hp=>?_))
    (((refine zG ?_));refine Yx T Zz Zz Zz hp Zz ?_)
    intro cs hcs
    obtain ⟨wa,wk,rfl,hRa⟩:=YU hcs
    (refine Ye ?_)
    ((repeat (first | refine zS ?_ | refine zA fun _=>?_)))
    (((refine zG ?_));refine YA T 1 Zz Zz Zz Zz Zz Zz hk (by first | rfl | omega) (by rw [hab];rfl:e.kids[1]?=some b) (fun p2 hp2=>?_))
    (((refine zG ?_));refine Yx T Zz Zz Zz hp2 Zz ?_)
    intro cs2 hcs2
    obtain ⟨za,zk,rfl,hRb⟩:=YU hcs2
    (refine Ye ?_)
    (refine Ye ?_)
    (refine Ye ?_)
    (refine Ye ?_)
    (refine YR ⟨by kernel_rfl,?_⟩)
    refine Ys (YB [] [_,_] Zz Zz Zz (Yhd s (e:=a) Zi hRa hsa) (fun v2 fz2 H2 hle2 hR2=>?_))
    obtain ⟨rfl,cs3,rfl,hr3⟩:=hR2
    obtain ⟨vk3,rfl,hR3⟩:=Yt hr3
    refine ⟨(⟨hle2,Zp2⟩),?_⟩
    refine Ys (YB [] [_,_] Zz Zz Zz (Yhd s (e:=b) Zi (hRb.mono hle2) hsb) (fun v4 fz4 H4 hle4 hR4=>?_))
    obtain ⟨rfl,cs5,rfl,hr5⟩:=hR4
    obtain ⟨vk5,rfl,hR5⟩:=Yt hr5
    refine ⟨(⟨(hle2.trans hle4),Zp2⟩),?_⟩
    refine Ys (Yc T (cs:=Ym e.op++ [.int .i64 (Y8 a).kind,.int .i64 (Y8 a).value,.int .i64 (Y8 a).line,.int .i64 (Y8 a).column,.string (Y8 a).text,vk3]++ [.int .i64 (Y8 b).kind,.int .i64 (Y8 b).value,.int .i64 (Y8 b).line,.int .i64 (Y8 b).column,.string (Y8 b).text,vk5]) Zz Zz Zz Zz Zz Zz Zz Zz (fun gb=>⟨(⟨(hle2.trans hle4),Zp3⟩),?_⟩))
    refine Ch.qk (⟨(hle2.trans hle4),Zp3⟩) (Yat T Zz Zz Zz Zz Zz ?_)
    refine Ch.hard0 Zj (YT T Zz Zz Zz Zz Zz Zz ?_)
    refine Ch.done ?_
    ((repeat (first | refine zS ?_ | refine zA fun _=>?_)))
    refine Y4 T (i:=1) rfl Zz Zz Zz Zz Zz (fun fz3 hle3 hf3=>⟨rfl,?_⟩)
    rw [Ycs,if_neg (show ¬e.op=kNumber from y1),if_neg (show ¬e.op=kFluent from y2),hab]
    exact Ybn h.op (hf3 _ (.head _)) (hR3.mono (hle4.trans hle3)) (hR5.mono hle3)
theorem YjT {fz:FZ} {e:Lx.Expr} {va vk:Value} (h:ExprR fz e va vk) (hE:EShape e):
 GFn Tryz.prog 155 [.agg #[.string e.op,.string e.name,.int .i64 e.n,va,vk]] fz [] (fun v fz' H'=>H'=[]∧SxIs fz' v (Y8 e)):=Yhd _ (Nat.le_refl _) h hE
end Go.Proofs.YtbhlgkibgajajaaGreatDoor
set_option maxRecDepth 20000
namespace Go.Proofs.YtbhlgkibgajajaaGreatDoor
open Go.Lx Go.RowKit
attribute [local instance 10] Classical.propDecidable
theorem toList_inj {a b:ByteArray}:a.toList=b.toList↔a=b:=by
 constructor
 ·intro h
  rw [ByteArray.toList_eq,ByteArray.toList_eq] at h
  cases a;cases b
  simp only [ByteArray.mk.injEq]
  exact Array.toList_inj.1 h
 ·intro h;rw [h]
theorem eq_param (a b c d:ByteArray) (w:World):(Op.equalIn 10000 138 (.agg #[.string a,.string b]) (.agg #[.string c,.string d])).run Tryz.prog w=.ok (decide (a=c∧b=d)) w:=by
 have u3:=Tryz.underlying9
 have a3:=Tryz.isAgg9
 have z3:=Tryz.sizeOf9
 have hS:Tryz.prog.underlying 138=some (.struct (Tryz.prog.fieldsOf 138)):=by kernel_rfl
 rw [show (10000:Nat)=9999+1 from rfl,run_equalIn_agg w 9999 138 _ _ hS Zj]
 simp only [Program.fieldsOf,Tryz.underlying138]
 go_simp
 by_cases h1:a=c<;>by_cases h2:b=d<;>simp [h1,h2,toList_inj]
theorem YgP {cx:Cx} {r:Operand→Option Value} {fz:FZ} {H:HP} {V:Value→Prop} {dst:Option Nat} {ty t':TypeId} {pos:String} {af:Array Edge} {gd:Option (Nat × Bool)} {x y:Operand} {a b:Param} (hx:r x=some (.agg #[.string a.name,.string a.typ])) (hy:r y=some (.agg #[.string b.name,.string b.typ]))
 (ht:a≠b→V (.bool true)) (hf:a=b→V (.bool false)):DoesQ Tryz.prog cx ⟨dst,.binOp .neq 138 x y t',ty,pos,af,gd⟩ r fz H V:=by
 have hab:a=b↔(a.name=b.name∧a.typ=b.typ):=by
  cases a;cases b;simp
 have hV:V (.bool (!decide (a.name=b.name∧a.typ=b.typ))):=by
  by_cases h:a=b
  ·rw [decide_eq_true (hab.1 h)];exact hf h
  ·rw [decide_eq_false (fun h0=>h (hab.2 h0))];exact ht h
 refine DoesQ.of hV fun ρ w hr hw=>?_
 have hg:=run_eqGuard_agg (P:=Tryz.prog) w .neq 138 x y #[.string a.name,.string a.typ] #[.string b.name,.string b.typ] Zj
 have hb:=run_neq_struct (P:=Tryz.prog) w 138 #[.string a.name,.string a.typ] #[.string b.name,.string b.typ]
 rw [eq_param,Result.andThen_ok] at hb
 have:(execOp ρ ⟨dst,.binOp .neq 138 x y t',ty,pos,af,gd⟩).run Tryz.prog w=.ok (.value (.bool (!decide (a.name=b.name∧a.typ=b.typ)))) w:=by
  simp only [execOp,hr _ _ hx,hr _ _ hy,Sem.run_bind,hg,hb,Result.andThen_ok,Sem.run_pure]
 rw [this]
 exact ⟨rfl,Fr.refl _ _⟩
theorem YbM {α:Type} {l m:List α} (hl:l.length=m.length) (h:∀ i,i<l.length→∀ x,l[i]?=some x→m[i]?=some x):l=m:=by
 apply List.ext_getElem?
 intro i
 by_cases hi:i<l.length
 ·have hx:l[i]?=some l[i]:=List.getElem?_eq_getElem hi
  rw [hx,h i hi _ hx]
 ·rw [List.getElem?_eq_none Zi,List.getElem?_eq_none Zi]
theorem YcA {α:Type} {p:Nat→α→Prop} {l:List α} {k:Nat} {x:α} (h:∀ i,i<k→∀ x,l[i]?=some x→p i x) (hx:l[k]?=some x) (hp:p k x):∀ i,i<k+1→∀ x,l[i]?=some x→p i x:=fun i hi y hy=>by
 by_cases he:i=k
 ·subst he;rw [hx] at hy;cases hy;exact hp
 ·exact h i Zi y hy
theorem YhX {fz:FZ} {A B:Option Addr} {n c m d:Nat} {l1 l2} (h1:Sl strL fz A n c l1) (h2:Sl strL fz B m d l2):
 QFn Tryz.prog 143 [.slice A n c,.slice B m d] fz (.bool (decide (l1=l2))):=by
 refine GFn.quiet ?_
 have k1:=h1.len
 have k2:=h2.len
 have k3:=h1.short
 have k4:=h2.short
 (refine GFn.of_wp Tryz.func143 rfl Tryz.ntmps143 rfl rfl (fun w0=>?_))
 ((repeat (first | refine zS ?_ | refine zA fun _=>?_)))
 ((refine zG ?_;refine zC (fun c1=>?_) (fun c1=>?_)))
 ·((repeat (first | refine zS ?_ | refine zA fun _=>?_)))
  (exact ret1 rfl rfl (Zb) (Ya (fun h=>c1 (by rw [← k1,← k2,h]))))
 ·((repeat (first | refine zS ?_ | refine zA fun _=>?_)))
  refine YD (fun q σ fz' H'=>∃ k:Nat,k≤n∧q=n - k∧σ=[(13,.int .i64 k),(12,.int .i64 n),(0,.slice A n c),(1,.slice B m d)]∧fz=fz'∧H'=[]∧(∀ i,i<k→∀ x,l1[i]?=some x→l2[i]?=some x)) ⟨0,Nat.zero_le _,rfl,rfl,rfl,rfl,fun i hi=>absurd hi Zi⟩ (Zw) (Zb) ?_
  rintro q σ fz' H' ⟨k,hk,rfl,rfl,rfl,rfl,hh⟩
  ((repeat (first | refine zS ?_ | refine zA fun _=>?_)))
  ((refine zG ?_;refine zC (fun c2=>?_) (fun c2=>?_)))
  ·obtain ⟨x,hx⟩:=YG (l:=l1) (k:=k) Zi
   obtain ⟨y,hy⟩:=YG (l:=l2) (k:=k) Zi
   ((repeat (first | refine zS ?_ | refine zA fun _=>?_)))
   (((refine zG ?_));refine YA T k Zz Zz Zz Zz Zz Zz h1 (by first | rfl | omega) hx (fun a ha=>?_))
   (((refine zG ?_));refine Y9 T Zz Zz Zz ha (fun sx=>?_))
   ((repeat (first | refine zS ?_ | refine zA fun _=>?_)))
   (((refine zG ?_));refine YA T k Zz Zz Zz Zz Zz Zz h2 (by first | rfl | omega) hy (fun b hb=>?_))
   (((refine zG ?_));refine Y9 T Zz Zz Zz hb (fun sy=>?_))
   ((repeat (first | refine zS ?_ | refine zA fun _=>?_)))
   ((refine zG ?_;refine zC (fun e1=>?_) (fun e1=>?_)))
   ·((repeat (first | refine zS ?_ | refine zA fun _=>?_)))
    (exact ret1 rfl rfl (Zb) (Ya (fun h=>e1 (by rw [h,hy] at hx;exact (Option.some.inj hx).symm))))
   ·((repeat (first | refine zS ?_ | refine zA fun _=>?_)))
    exact YP ⟨k+1,by omega,rfl,rfl,rfl,rfl,YcA hh hx (by rw [hy,e1])⟩ Zi (Zw) (Zb)
  ·((repeat (first | refine zS ?_ | refine zA fun _=>?_)))
   (exact ret1 rfl rfl (Zb) (Yw (YbM Zi (fun i hi x hx=>hh i Zi x hx))))
theorem equalP_q {fz:FZ} {A B:Option Addr} {n c m d:Nat} {l1 l2} (h1:Sl paramL fz A n c l1) (h2:Sl paramL fz B m d l2):
 QFn Tryz.prog 144 [.slice A n c,.slice B m d] fz (.bool (decide (l1=l2))):=by
 refine GFn.quiet ?_
 have k1:=h1.len
 have k2:=h2.len
 have k3:=h1.short
 have k4:=h2.short
 (refine GFn.of_wp Tryz.func144 rfl Tryz.ntmps144 rfl rfl (fun w0=>?_))
 ((repeat (first | refine zS ?_ | refine zA fun _=>?_)))
 ((refine zG ?_;refine zC (fun c1=>?_) (fun c1=>?_)))
 ·((repeat (first | refine zS ?_ | refine zA fun _=>?_)))
  (exact ret1 rfl rfl (Zb) (Ya (fun h=>c1 (by rw [← k1,← k2,h]))))
 ·((repeat (first | refine zS ?_ | refine zA fun _=>?_)))
  refine YD (fun q σ fz' H'=>∃ k:Nat,k≤n∧q=n - k∧σ=[(13,.int .i64 k),(12,.int .i64 n),(0,.slice A n c),(1,.slice B m d)]∧fz=fz'∧H'=[]∧(∀ i,i<k→∀ x,l1[i]?=some x→l2[i]?=some x)) ⟨0,Nat.zero_le _,rfl,rfl,rfl,rfl,fun i hi=>absurd hi Zi⟩ (Zw) (Zb) ?_
  rintro q σ fz' H' ⟨k,hk,rfl,rfl,rfl,rfl,hh⟩
  ((repeat (first | refine zS ?_ | refine zA fun _=>?_)))
  ((refine zG ?_;refine zC (fun c2=>?_) (fun c2=>?_)))
  ·obtain ⟨x,hx⟩:=YG (l:=l1) (k:=k) Zi
   obtain ⟨y,hy⟩:=YG (l:=l2) (k:=k) Zi
   ((repeat (first | refine zS ?_ | refine zA fun _=>?_)))
   (((refine zG ?_));refine YA T k Zz Zz Zz Zz Zz Zz h1 (by first | rfl | omega) hx (fun a ha=>?_))
   (((((refine zG ?_));refine Yx T Zz Zz Zz ha Zz ?_);intro cs1 hcs1;obtain ⟨rfl,hR1⟩:=Xy hcs1))
   ((repeat (first | refine zS ?_ | refine zA fun _=>?_)))
   (((refine zG ?_));refine YA T k Zz Zz Zz Zz Zz Zz h2 (by first | rfl | omega) hy (fun b hb=>?_))
   (((((refine zG ?_));refine Yx T Zz Zz Zz hb Zz ?_);intro cs2 hcs2;obtain ⟨rfl,hR2⟩:=Xy hcs2))
   ((repeat (first | refine zS ?_ | refine zA fun _=>?_)))
   ((((refine zG ?_));refine YgP Zz Zz (fun e1=>?_) (fun e1=>?_)))
   ·((repeat (first | refine zS ?_ | refine zA fun _=>?_)))
    (exact ret1 rfl rfl (Zb) (Ya (fun h=>e1 (by rw [h,hy] at hx;exact (Option.some.inj hx).symm))))
   ·((repeat (first | refine zS ?_ | refine zA fun _=>?_)))
    exact YP ⟨k+1,by omega,rfl,rfl,rfl,rfl,YcA hh hx (by rw [hy,e1])⟩ Zi (Zw) (Zb)
  ·((repeat (first | refine zS ?_ | refine zA fun _=>?_)))
   (exact ret1 rfl rfl (Zb) (Yw (YbM Zi (fun i hi x hx=>hh i Zi x hx))))
theorem eqfE_q {fz:FZ} {A B:Option Addr} {n c m d:Nat} {l1 l2:List Lx.Expr} {ff:FuncId} (h1:Sl exprL fz A n c l1) (h2:Sl exprL fz B m d l2) (hq:∀ x y cs ds,x∈l1→exprL.rep fz x cs→exprL.rep fz y ds→QFn Tryz.prog ff [.agg (List.toArray cs),.agg (List.toArray ds)] fz (.bool (decide (x=y)))):
 QFn Tryz.prog 145 [.slice A n c,.slice B m d,.func (.func ff) #[] #[]] fz (.bool (decide (l1=l2))):=by
 refine GFn.quiet ?_
 have k1:=h1.len
 have k2:=h2.len
 have k3:=h1.short
 have k4:=h2.short
 (refine GFn.of_wp Tryz.func145 rfl Tryz.ntmps145 rfl rfl (fun w0=>?_))
 ((repeat (first | refine zS ?_ | refine zA fun _=>?_)))
 ((refine zG ?_;refine zC (fun c1=>?_) (fun c1=>?_)))
 ·((repeat (first | refine zS ?_ | refine zA fun _=>?_)))
  (exact ret1 rfl rfl (Zb) (Ya (fun h=>c1 (by rw [← k1,← k2,h]))))
 ·((repeat (first | refine zS ?_ | refine zA fun _=>?_)))
  refine YD (fun q σ fz' H'=>∃ k:Nat,k≤n∧q=n - k∧σ=[(17,.int .i64 k),(16,.int .i64 n),(15,.slice A n c),(2,.func (.func ff) #[] #[]),(1,.slice B m d)]∧fz=fz'∧H'=[]∧(∀ i,i<k→∀ x,l1[i]?=some x→l2[i]?=some x)) ⟨0,Nat.zero_le _,rfl,rfl,rfl,rfl,fun i hi=>absurd hi Zi⟩ (Zw) (Zb) ?_
  rintro q σ fz' H' ⟨k,hk,rfl,rfl,rfl,rfl,hh⟩
  ((repeat (first | refine zS ?_ | refine zA fun _=>?_)))
  ((refine zG ?_;refine zC (fun c2=>?_) (fun c2=>?_)))
  ·obtain ⟨x,hx⟩:=YG (l:=l1) (k:=k) Zi
   obtain ⟨y,hy⟩:=YG (l:=l2) (k:=k) Zi
   ((repeat (first | refine zS ?_ | refine zA fun _=>?_)))
   (((refine zG ?_));refine YA T k Zz Zz Zz Zz Zz Zz h1 (by first | rfl | omega) hx (fun a ha=>?_))
   (((refine zG ?_));refine Yx T Zz Zz Zz ha Zz ?_)
   intro cs1 hcs1
   have hq1:=fun y ds=>hq x y cs1 ds (List.mem_of_getElem? hx) hcs1
   obtain ⟨u1,u2,rfl,hR1⟩:=YU hcs1
   ((obtain ⟨A1,n1,c1',rfl,ia1⟩:=hR1.args;obtain ⟨A2,n2,c2',rfl,ik1⟩:=hR1.kids))
   ((repeat (first | refine zS ?_ | refine zA fun _=>?_)))
   (((refine zG ?_));refine YA T k Zz Zz Zz Zz Zz Zz h2 (by first | rfl | omega) hy (fun b hb=>?_))
   (((refine zG ?_));refine Yx T Zz Zz Zz hb Zz ?_)
   intro cs2 hcs2
   have hq2:=hq1 y cs2 hcs2
   obtain ⟨w1,w2,rfl,hR2⟩:=YU hcs2
   ((obtain ⟨A3,n3,c3',rfl,ia2⟩:=hR2.args;obtain ⟨A4,n4,c4',rfl,ik2⟩:=hR2.kids))
   ((repeat (first | refine zS ?_ | refine zA fun _=>?_)))
   (((refine zG ?_));refine Ydn Zz Zz Zz hq2 (fun e1=>?_) (fun e1=>?_))
   ·((repeat (first | refine zS ?_ | refine zA fun _=>?_)))
    exact YP ⟨k+1,by omega,rfl,rfl,rfl,rfl,YcA hh hx (by rw [hy,e1])⟩ Zi (Zw) (Zb)
   ·((repeat (first | refine zS ?_ | refine zA fun _=>?_)))
    (exact ret1 rfl rfl (Zb) (Ya (fun h=>e1 (by rw [h,hy] at hx;exact (Option.some.inj hx).symm))))
  ·((repeat (first | refine zS ?_ | refine zA fun _=>?_)))
   (exact ret1 rfl rfl (Zb) (Yw (YbM Zi (fun i hi x hx=>hh i Zi x hx))))
theorem eqfF_q {fz:FZ} {A B:Option Addr} {n c m d:Nat} {l1 l2:List Lx.Formula} {ff:FuncId} (h1:Sl Wi fz A n c l1) (h2:Sl Wi fz B m d l2) (hq:∀ x y cs ds,x∈l1→Wi.rep fz x cs→Wi.rep fz y ds→QFn Tryz.prog ff [.agg (List.toArray cs),.agg (List.toArray ds)] fz (.bool (decide (x=y)))):
 QFn Tryz.prog 147 [.slice A n c,.slice B m d,.func (.func ff) #[] #[]] fz (.bool (decide (l1=l2))):=by
 refine GFn.quiet ?_
 have k1:=h1.len
 have k2:=h2.len
 have k3:=h1.short
 have k4:=h2.short
 (refine GFn.of_wp Tryz.func147 rfl Tryz.ntmps147 rfl rfl (fun w0=>?_))
 ((repeat (first | refine zS ?_ | refine zA fun _=>?_)))
 ((refine zG ?_;refine zC (fun c1=>?_) (fun c1=>?_)))
 ·((repeat (first | refine zS ?_ | refine zA fun _=>?_)))
  (exact ret1 rfl rfl (Zb) (Ya (fun h=>c1 (by rw [← k1,← k2,h]))))
 ·((repeat (first | refine zS ?_ | refine zA fun _=>?_)))
  refine YD (fun q σ fz' H'=>∃ k:Nat,k≤n∧q=n - k∧σ=[(17,.int .i64 k),(16,.int .i64 n),(15,.slice A n c),(2,.func (.func ff) #[] #[]),(1,.slice B m d)]∧fz=fz'∧H'=[]∧(∀ i,i<k→∀ x,l1[i]?=some x→l2[i]?=some x)) ⟨0,Nat.zero_le _,rfl,rfl,rfl,rfl,fun i hi=>absurd hi Zi⟩ (Zw) (Zb) ?_
  rintro q σ fz' H' ⟨k,hk,rfl,rfl,rfl,rfl,hh⟩
  ((repeat (first | refine zS ?_ | refine zA fun _=>?_)))
  ((refine zG ?_;refine zC (fun c2=>?_) (fun c2=>?_)))
  ·obtain ⟨x,hx⟩:=YG (l:=l1) (k:=k) Zi
   obtain ⟨y,hy⟩:=YG (l:=l2) (k:=k) Zi
   ((repeat (first | refine zS ?_ | refine zA fun _=>?_)))
   (((refine zG ?_));refine YA T k Zz Zz Zz Zz Zz Zz h1 (by first | rfl | omega) hx (fun a ha=>?_))
   (((refine zG ?_));refine Yx T Zz Zz Zz ha Zz ?_)
   intro cs1 hcs1
   have hq1:=fun y ds=>hq x y cs1 ds (List.mem_of_getElem? hx) hcs1
   obtain ⟨u1,u2,u3,u4,rfl,hR1⟩:=Xc hcs1
   ((obtain ⟨A1,n1,c1',rfl,ia1⟩:=hR1.args;obtain ⟨A2,n2,c2',rfl,ip1⟩:=hR1.params;obtain ⟨A3,n3,c3',rfl,ie1⟩:=hR1.exprs;obtain ⟨A4,n4,c4',rfl,ik1⟩:=hR1.kids))
   ((repeat (first | refine zS ?_ | refine zA fun _=>?_)))
   (((refine zG ?_));refine YA T k Zz Zz Zz Zz Zz Zz h2 (by first | rfl | omega) hy (fun b hb=>?_))
   (((refine zG ?_));refine Yx T Zz Zz Zz hb Zz ?_)
   intro cs2 hcs2
   have hq2:=hq1 y cs2 hcs2
   obtain ⟨w1,w2,w3,w4,rfl,hR2⟩:=Xc hcs2
   ((obtain ⟨A5,n5,c5',rfl,ia2⟩:=hR2.args;obtain ⟨A6,n6,c6',rfl,ip2⟩:=hR2.params;obtain ⟨A7,n7,c7',rfl,ie2⟩:=hR2.exprs;obtain ⟨A8,n8,c8',rfl,ik2⟩:=hR2.kids))
   ((repeat (first | refine zS ?_ | refine zA fun _=>?_)))
   (((refine zG ?_));refine Ydn Zz Zz Zz hq2 (fun e1=>?_) (fun e1=>?_))
   ·((repeat (first | refine zS ?_ | refine zA fun _=>?_)))
    exact YP ⟨k+1,by omega,rfl,rfl,rfl,rfl,YcA hh hx (by rw [hy,e1])⟩ Zi (Zw) (Zb)
   ·((repeat (first | refine zS ?_ | refine zA fun _=>?_)))
    (exact ret1 rfl rfl (Zb) (Ya (fun h=>e1 (by rw [h,hy] at hx;exact (Option.some.inj hx).symm))))
  ·((repeat (first | refine zS ?_ | refine zA fun _=>?_)))
   (exact ret1 rfl rfl (Zb) (Yw (YbM Zi (fun i hi x hx=>hh i Zi x hx))))
theorem YbQ {a b:Lx.Expr}:a=b↔a.op=b.op∧a.name=b.name∧a.n=b.n∧a.args=b.args∧a.kids=b.kids:=by
 cases a;cases b;simp only [Lx.Expr.op,Lx.Expr.name,Lx.Expr.n,Lx.Expr.args,Lx.Expr.kids,Lx.Expr.mk.injEq]
theorem Ybd {a b:Formula}:a=b↔a.op=b.op∧a.name=b.name∧a.args=b.args∧a.params=b.params∧a.exprs=b.exprs∧a.kids=b.kids:=by
 cases a;cases b;simp only [Formula.op,Formula.name,Formula.args,Formula.params,Formula.exprs,Formula.kids,Formula.mk.injEq]
theorem Yez:∀ (s:Nat) {fz:FZ} {a b:Lx.Expr} {va vk wa wk:Value},SizeOf.sizeOf a≤s→ExprR fz a va vk→ExprR fz b wa wk→
 QFn Tryz.prog 146 [.agg #[.string a.op,.string a.name,.int .i64 a.n,va,vk],.agg #[.string b.op,.string b.name,.int .i64 b.n,wa,wk]] fz (.bool (decide (a=b)))
 | 0,_,e,_,_,_,_,_,hs,_,_=>by cases e;simp at hs
 | s+1,fz,a,b,va,vk,wa,wk,hs,hR1,hR2=>by
  refine GFn.quiet ?_
  ((obtain ⟨A1,n1,c1',rfl,ia1⟩:=hR1.args;obtain ⟨A2,n2,c2',rfl,ik1⟩:=hR1.kids))
  ((obtain ⟨A3,n3,c3',rfl,ia2⟩:=hR2.args;obtain ⟨A4,n4,c4',rfl,ik2⟩:=hR2.kids))
  (refine GFn.of_wp Tryz.func146 rfl Tryz.ntmps146 rfl rfl (fun w0=>?_))
  (refine Yr (Yp (Yb Zz (Xi _ Zz Zz (fun g0=>?_)))))
  (refine Yb Zz (Xi _ Zz Zz (fun g1=>?_)))
  ((repeat (first | refine zS ?_ | refine zA fun _=>?_)))
  ((((refine zG ?_;refine zC (fun e1=>?_) (fun e1=>?_)));rotate_left 1;(((repeat (first | refine zS ?_ | refine zA fun _=>?_)));(exact ret1 rfl rfl (Zb) (Ya (fun h=>e1 (YbQ.1 h).1))));((repeat (first | refine zS ?_ | refine zA fun _=>?_)))))
  ((((refine zG ?_;refine zC (fun e2=>?_) (fun e2=>?_)));rotate_left 1;(((repeat (first | refine zS ?_ | refine zA fun _=>?_)));(exact ret1 rfl rfl (Zb) (Ya (fun h=>e2 (YbQ.1 h).2.1))));((repeat (first | refine zS ?_ | refine zA fun _=>?_)))))
  ((((refine zG ?_;refine zC (fun e3=>?_) (fun e3=>?_)));rotate_left 1;(((repeat (first | refine zS ?_ | refine zA fun _=>?_)));(exact ret1 rfl rfl (Zb) (Ya (fun h=>e3 (YbQ.1 h).2.2.1))));((repeat (first | refine zS ?_ | refine zA fun _=>?_)))))
  (((refine zG ?_));refine Yz Zz Zz (YhX ia1 ia2) (fun f1=>?_) (fun f1=>?_))
  ·((repeat (first | refine zS ?_ | refine zA fun _=>?_)))
   (((refine zG ?_));refine Yz Zz Zz (eqfE_q ik1 ik2 (fun x y cs ds hx h1 h2=>by
    obtain ⟨u1,u2,rfl,h3⟩:=YU h1
    obtain ⟨w1,w2,rfl,h4⟩:=YU h2
    exact Yez s (by have:=Lx.Expr.kids_lt hx;omega) h3 h4)) (fun f2=>?_) (fun f2=>?_))
   ·((repeat (first | refine zS ?_ | refine zA fun _=>?_)))
    (exact ret1 rfl rfl (Zb) (Yw (YbQ.2 ⟨e1,e2,e3,of_decide_eq_true f1,of_decide_eq_true f2⟩)))
   ·((repeat (first | refine zS ?_ | refine zA fun _=>?_)))
    (exact ret1 rfl rfl (Zb) (Ya (fun h=>of_decide_eq_false f2 (YbQ.1 h).2.2.2.2)))
  ·((repeat (first | refine zS ?_ | refine zA fun _=>?_)))
   (exact ret1 rfl rfl (Zb) (Ya (fun h=>of_decide_eq_false f1 (YbQ.1 h).2.2.2.1)))
theorem same_f:∀ (s:Nat) {fz:FZ} {a b:Formula} {va vp ve vk wa wp we wk:Value},SizeOf.sizeOf a≤s→FormulaR fz a va vp ve vk→FormulaR fz b wa wp we wk→
 QFn Tryz.prog 68 [.agg #[.string a.op,.string a.name,va,vp,ve,vk],.agg #[.string b.op,.string b.name,wa,wp,we,wk]] fz (.bool (decide (a=b)))
 | 0,_,e,_,_,_,_,_,_,_,_,_,hs,_,_=>by cases e;simp at hs
 | s+1,fz,a,b,va,vp,ve,vk,wa,wp,we,wk,hs,hR1,hR2=>by
  refine GFn.quiet ?_
  ((obtain ⟨A1,n1,c1',rfl,ia1⟩:=hR1.args;obtain ⟨A2,n2,c2',rfl,ip1⟩:=hR1.params;obtain ⟨A3,n3,c3',rfl,ie1⟩:=hR1.exprs;obtain ⟨A4,n4,c4',rfl,ik1⟩:=hR1.kids))
  ((obtain ⟨A5,n5,c5',rfl,ia2⟩:=hR2.args;obtain ⟨A6,n6,c6',rfl,ip2⟩:=hR2.params;obtain ⟨A7,n7,c7',rfl,ie2⟩:=hR2.exprs;obtain ⟨A8,n8,c8',rfl,ik2⟩:=hR2.kids))
  (refine GFn.of_wp Tryz.func68 rfl Tryz.ntmps68 rfl rfl (fun w0=>?_))
  (refine Yr (Yp (Yb Zz (Xi _ Zz Zz (fun g0=>?_)))))
  (refine Yb Zz (Xi _ Zz Zz (fun g1=>?_)))
  ((repeat (first | refine zS ?_ | refine zA fun _=>?_)))
  ((((refine zG ?_;refine zC (fun e1=>?_) (fun e1=>?_)));rotate_left 1;(((repeat (first | refine zS ?_ | refine zA fun _=>?_)));(exact ret1 rfl rfl (Zb) (Ya (fun h=>e1 (Ybd.1 h).1))));((repeat (first | refine zS ?_ | refine zA fun _=>?_)))))
  ((((refine zG ?_;refine zC (fun e2=>?_) (fun e2=>?_)));rotate_left 1;(((repeat (first | refine zS ?_ | refine zA fun _=>?_)));(exact ret1 rfl rfl (Zb) (Ya (fun h=>e2 (Ybd.1 h).2.1))));((repeat (first | refine zS ?_ | refine zA fun _=>?_)))))
  (((refine zG ?_));refine Yz Zz Zz (YhX ia1 ia2) (fun f1=>?_) (fun f1=>?_))
  ·((repeat (first | refine zS ?_ | refine zA fun _=>?_)))
   (((refine zG ?_));refine Yz Zz Zz (equalP_q ip1 ip2) (fun f2=>?_) (fun f2=>?_))
   ·((repeat (first | refine zS ?_ | refine zA fun _=>?_)))
    (((refine zG ?_));refine Yz Zz Zz (eqfE_q ie1 ie2 (fun x y cs ds hx h1 h2=>by
     obtain ⟨u1,u2,rfl,h3⟩:=YU h1
     obtain ⟨w1,w2,rfl,h4⟩:=YU h2
     exact Yez _ (Nat.le_refl _) h3 h4)) (fun f3=>?_) (fun f3=>?_))
    ·((repeat (first | refine zS ?_ | refine zA fun _=>?_)))
     (((refine zG ?_));refine Yz Zz Zz (eqfF_q ik1 ik2 (fun x y cs ds hx h1 h2=>by
      obtain ⟨u1,u2,u3,u4,rfl,h3⟩:=Xc h1
      obtain ⟨w1,w2,w3,w4,rfl,h4⟩:=Xc h2
      exact same_f s (by have:=Formula.kids_lt hx;omega) h3 h4)) (fun f4=>?_) (fun f4=>?_))
     ·((repeat (first | refine zS ?_ | refine zA fun _=>?_)))
      (exact ret1 rfl rfl (Zb) (Yw (Ybd.2 ⟨e1,e2,of_decide_eq_true f1,of_decide_eq_true f2,of_decide_eq_true f3,of_decide_eq_true f4⟩)))
     ·((repeat (first | refine zS ?_ | refine zA fun _=>?_)))
      (exact ret1 rfl rfl (Zb) (Ya (fun h=>of_decide_eq_false f4 (Ybd.1 h).2.2.2.2.2)))
    ·((repeat (first | refine zS ?_ | refine zA fun _=>?_)))
     (exact ret1 rfl rfl (Zb) (Ya (fun h=>of_decide_eq_false f3 (Ybd.1 h).2.2.2.2.1)))
   ·((repeat (first | refine zS ?_ | refine zA fun _=>?_)))
    (exact ret1 rfl rfl (Zb) (Ya (fun h=>of_decide_eq_false f2 (Ybd.1 h).2.2.2.1)))
  ·((repeat (first | refine zS ?_ | refine zA fun _=>?_)))
   (exact ret1 rfl rfl (Zb) (Ya (fun h=>of_decide_eq_false f1 (Ybd.1 h).2.2.1)))
theorem Yey {fz:FZ} {a b:Formula} {va vp ve vk wa wp we wk:Value} (hR1:FormulaR fz a va vp ve vk) (hR2:FormulaR fz b wa wp we wk):
 QFn Tryz.prog 68 [.agg #[.string a.op,.string a.name,va,vp,ve,vk],.agg #[.string b.op,.string b.name,wa,wp,we,wk]] fz (.bool (decide (a=b))):=same_f _ (Nat.le_refl _) hR1 hR2
def Wn:Formula:=.mk kAnd ⟨#[]⟩ [] [] [] []
theorem YdB {fz:FZ}:FormulaR fz Wn (.slice none 0 0) (.slice none 0 0) (.slice none 0 0) (.slice none 0 0):=⟨by unfold Short Wn;decide,Y0,IsSl.nil,IsSl.nil,IsSl.nil,IsSl.nil⟩
def YbT:Value:=.agg #[.string kAnd,.string ⟨#[]⟩,.slice none 0 0,.slice none 0 0,.slice none 0 0,.slice none 0 0]
theorem Ycz {fz:FZ}:QFn Tryz.prog 69 [] fz YbT:=by
 refine GFn.quiet ?_
 (refine GFn.of_wp Tryz.func69 rfl Tryz.ntmps69 rfl rfl (fun w0=>?_))
 ((repeat (first | refine zS ?_ | refine zA fun _=>?_)))
 exact XR T (i:=0) rfl Zz Zz Zz Zz Zz (fun _ hi=>⟨_,[],hi.forget (List.nil_sublist _),rfl⟩)
theorem Ygn {fz:FZ}:ExprR fz (.mk ⟨#[]⟩ ⟨#[]⟩ 0 [] []) (.slice none 0 0) (.slice none 0 0):=⟨Y0,Y0,Xp,IsSl.nil,IsSl.nil⟩
theorem Yd7 {fz:FZ} {a b:Lx.Expr} {va vk wa wk:Value} (hR1:ExprR fz a va vk) (hR2:ExprR fz b wa wk):
 QFn Tryz.prog 204 [.agg #[.string a.op,.string a.name,.int .i64 a.n,va,vk],.agg #[.string b.op,.string b.name,.int .i64 b.n,wa,wk]] fz (.bool (decide (a=b))):=by
 refine GFn.quiet ?_
 ((obtain ⟨A1,n1,c1',rfl,ia1⟩:=hR1.args;obtain ⟨A2,n2,c2',rfl,ik1⟩:=hR1.kids))
 ((obtain ⟨A3,n3,c3',rfl,ia2⟩:=hR2.args;obtain ⟨A4,n4,c4',rfl,ik2⟩:=hR2.kids))
 (refine GFn.of_wp Tryz.func204 rfl Tryz.ntmps204 rfl rfl (fun w0=>?_))
 (refine Yr (Yp (Yb Zz (Xi _ Zz Zz (fun g0=>?_)))))
 (refine Yb Zz (Xi _ Zz Zz (fun g1=>?_)))
 ((repeat (first | refine zS ?_ | refine zA fun _=>?_)))
 refine Yb Zz (Yc T (cs:=[.string a.op,.string a.name,.int .i64 a.n,.slice A1 n1 c1',.slice A2 n2 c2']) Zz Zz Zz Zz Zz Zz Zz Zz (fun gA=>?_))
 ((repeat (first | refine zS ?_ | refine zA fun _=>?_)))
 refine Yb Zz (Yc T (cs:=[.string b.op,.string b.name,.int .i64 b.n,.slice A3 n3 c3',.slice A4 n4 c4']) Zz Zz Zz Zz Zz Zz Zz Zz (fun gB=>?_))
 ((repeat (first | refine zS ?_ | refine zA fun _=>?_)))
 (first | refine Wp.freeze Zz (fun fz1 hl1 hg1=>?_) | refine Seq.freeze Zz (fun fz1 hl1 hg1=>?_))
 (first | refine Wp.freeze Zz (fun fz2 hl2 hg2=>?_) | refine Seq.freeze Zz (fun fz2 hl2 hg2=>?_))
 have s1:Sl exprL fz2 (some ⟨gA,0,none⟩) 1 1 [a]:=Xt (ys:=[(a,_)]) hg2 (by simp;rfl) rfl (by simpa using YbR (hR1.mono (hl1.trans hl2))) rfl Zh
 have s2:Sl exprL fz2 (some ⟨gB,0,none⟩) 1 1 [b]:=Xt (ys:=[(b,_)]) (hl2 _ _ hg1) (by simp;rfl) rfl (by simpa using YbR (hR2.mono (hl1.trans hl2))) rfl Zh
 (((refine zG ?_));refine Yj Zz Zz (Yey (a:=.mk ⟨#[]⟩ ⟨#[]⟩ [] [] [a] []) (b:=.mk ⟨#[]⟩ ⟨#[]⟩ [] [] [b] []) ⟨Y0,Y0,IsSl.nil,IsSl.nil,s1.is,IsSl.nil⟩ ⟨Y0,Y0,IsSl.nil,IsSl.nil,s2.is,IsSl.nil⟩) ?_)
 ((repeat (first | refine zS ?_ | refine zA fun _=>?_)))
 (exact ret1 rfl rfl (Zb) (by simp))
end Go.Proofs.YtbhlgkibgajajaaGreatDoor
