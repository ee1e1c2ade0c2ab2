/- The texts PFree, PGrowB, RB, PWalkB, PWalkC, laid together. Conditions: none. -/
import Derived.Test.YtfjopfinkdhmaaaGreatDoorRYE
set_option linter.all false
noncomputable section
namespace Go.Lx
open Go.RowKit
section
variable {P:Program} {cx:Cx} {n:Nat} {σ:Env} {fz:FZ} {H:HP} {Q:QQ}
def inPu (pu:List Nat) (i:Nat):Bool:=pu.any fun j=>Nat.beq j i
def QOkP (P:Program) (cx:Cx) (ops:List Oper) (pu:List Nat) (i:Nat) (o:Oper) (σ ve:Env) (fz:FZ) (H:HP) (v:Value):Prop:=match inPu pu i with
 | true=>∀ fz',QOk P cx ops o σ ve fz' [] v
 | false=>QOk P cx ops o σ ve fz H v
variable {i:Nat} {v:Value}
theorem QOkP.ext {ops':List Oper} {pu:List Nat} {o:Oper} {a b:Env} (h:VExt a b) (hq:QOkP P cx ops' pu i o σ a fz H v):QOkP P cx ops' pu i o σ b fz H v:=by
 unfold QOkP at*
 cases hp:inPu pu i with
 | true=>rw [hp] at hq;exact fun fz'=>(hq fz').ext h
 | false=>rw [hp] at hq;exact hq.ext h
def PK (P:Program) (cx:Cx) (ops:List Oper) (pu:List Nat) (σ:Env) (fz:FZ) (Hq:HP) (K:Env→Env→List (Nat × Oper)→Prop):Nat→List Oper→Env→Env→List (Nat × Oper)→Prop
 | _,[],ve,τ,ch=>K ve τ ch
 | i,o::rest,ve,τ,ch=>
  (∃ v,QOkP P cx ops pu i o σ ve fz Hq v∧PK P cx ops pu σ fz Hq K (i+1) rest ((i,v)::ve) (match o.dst with | some d=>(d,v)::τ | none=>τ) ch)∨
  PK P cx ops pu σ fz Hq K (i+1) rest ve τ (ch++ [(i,o)])
def Yh2 (o:Oper):List Nat:=(o.after.toList.filter fun e=>Region.binds .any e).map (·.on)
def Yh6 (ops:List Oper):Nat→List Nat→List Nat
 | 0,L=>L
 | j+1,L=>Yh6 ops j (if inPu L j then (match ops[j]? with
  | some p=>Yh2 p++L
  | none=>L) else L)
theorem YjI {o:Oper} (h:inPu (Yh2 o) i=true):waits o i=true:=by
 unfold inPu Yh2 at h
 obtain ⟨x,hx,e⟩:=List.any_eq_true.1 h
 obtain ⟨d,hd,rfl⟩:=List.mem_map.1 hx
 unfold waits
 refine List.any_eq_true.2 ⟨d,(List.mem_filter.1 hd).1,?_⟩
 rw [e,Bool.true_and];exact (List.mem_filter.1 hd).2
theorem YiL {a b:List Nat}:inPu (a++b) i=(inPu a i || inPu b i):=by unfold inPu;rw [List.any_append]
theorem Yd1 {ops:List Oper} {D:Nat→Prop} (hD:∀ k o,ops[k]?=some o→D k→∀ m,waits o m=true→D m):∀ (n:Nat) (L:List Nat),(∀ i,inPu L i=true→D i)→∀ i,inPu (Yh6 ops n L) i=true→D i
 | 0,_,h,i,hi=>h i hi
 | n+1,L,h,i,hi=>by
  rw [Yh6] at hi
  refine Yd1 hD n _ (fun k hk=>?_) i hi
  by_cases hn:inPu L n=true
  ·rw [if_pos hn] at hk
   cases ho:ops[n]? with
   | none=>rw [ho] at hk;exact h k hk
   | some p=>
    rw [ho] at hk
    rw [YiL,Bool.or_eq_true] at hk
    rcases hk with hk | hk
    ·exact hD n p ho (h n hn) k (YjI hk)
    ·exact h k hk
  ·rw [if_neg hn] at hk;exact h k hk
def allp (ops:List Oper) (ch:List (Nat × Oper)) (pu:List Nat) (o:Oper):Bool:=(List.range ops.length).all fun i=>inCh ch i || inPu pu i || inPu (Yh6 ops ops.length (Yh2 o)) i
theorem PK.out {ops':List Oper} {pu:List Nat} {Hq:HP} {K:Env→Env→List (Nat × Oper)→Prop}:∀ (l:List Oper) (i:Nat) (ve τ:Env) (ch:List (Nat × Oper)),(∀ j,i≤j→lk ve j=none)→PK P cx ops' pu σ fz Hq K i l ve τ ch→
 ∃ VE τF ch',VExt ve VE∧K VE τF (ch++ch')∧(∀ p∈ch',i≤p.1∧l[p.1 - i]?=some p.2)∧
  (∀ j,(j<i∨(∃ p∈ch',p.1=j))→lk VE j=lk ve j)∧
  (∀ (k:Nat) (o:Oper),l[k]?=some o→(∃ p∈ch',p.1=i+k)∨((∀ p∈ch',p.1≠i+k)∧∃ v,lk VE (i+k)=some v∧QOkP P cx ops' pu (i+k) o σ VE fz Hq v))∧
  (∀ s v,lk τF s=some v→(∃ (k:Nat) (o:Oper),l[k]?=some o∧o.dst=some s∧lk VE (i+k)=some v)∨(lk τ s=some v∧∀ (k:Nat) (o:Oper),l[k]?=some o→(∀ p∈ch',p.1≠i+k)→o.dst≠some s))
 | [],i,ve,τ,ch,_,h=>⟨ve,τ,[],fun _ _ h=>h,by simpa [PK] using h,by simp,by simp,by simp,fun s v hs=>.inr ⟨hs,by simp⟩⟩
 | o::l,i,ve,τ,ch,hve,h=>by
  rcases h with ⟨v,hq,hr⟩ | hr
  ·have hx:VExt ve ((i,v)::ve):=by
    intro j u hj
    by_cases he:i=j
    ·subst he;rw [hve i (Zs _)] at hj;cases hj
    ·rw [YA v ve he];exact hj
   obtain ⟨VE,τF,ch',h1,h2,h3,h3b,h4,h5⟩:=PK.out l (i+1) ((i,v)::ve) _ ch (fun j hj=>by rw [YA v ve Zi];exact hve j Zi) hr
   have hv:lk VE i=some v:=h1 i v (YO i v ve)
   have hvx:VExt ve VE:=fun j u hj=>h1 j u (hx j u hj)
   refine ⟨VE,τF,ch',hvx,h2,fun p hp=>?_,fun j hj=>?_,fun k o' hk=>?_,fun s u hs=>?_⟩
   ·obtain ⟨g1,g2⟩:=h3 p hp
    exact ⟨by omega,by rw [show p.1 - i=(p.1 - (i+1))+1 from by omega];simpa using g2⟩
   ·have hne:i≠j:=by
     rcases hj with hj | ⟨p,hp,hj⟩
     ·omega
     ·have:=(h3 p hp).1;omega
    rw [h3b j (by rcases hj with hj | hj;exact .inl Zi;exact .inr hj),YA v ve hne]
   ·cases k with
    | zero=>
     simp at hk;subst hk
     exact .inr ⟨fun p hp=>by have:=(h3 p hp).1;omega,v,hv,hq.ext hvx⟩
    | succ k=>
     rcases h4 k o' (by simpa using hk) with ⟨p,hp,he⟩ | ⟨hn,u,hu,hqu⟩
     ·exact .inl ⟨p,hp,by omega⟩
     ·exact .inr ⟨fun p hp=>by have:=hn p hp;omega,u,by rw [← hu];congr 1;omega,by rw [show i+(k+1)=i+1+k from by omega];exact hqu⟩
   ·rcases h5 s u hs with ⟨k,o',hk,hd,hl⟩ | ⟨hl,hn⟩
    ·exact .inl ⟨k+1,o',by simpa using hk,hd,by rw [← hl];congr 1;omega⟩
    ·cases hd:o.dst with
     | none=>
      simp only [hd] at hl
      refine .inr ⟨hl,fun k o' hk hp=>?_⟩
      cases k with
      | zero=>simp at hk;subst hk;simp [hd]
      | succ k=>exact hn k o' (by simpa using hk) (fun p hp'=>by have:=hp p hp';omega)
     | some d=>
      simp only [hd] at hl
      by_cases he:d=s
      ·subst he
       rw [YO] at hl
       exact .inl ⟨0,o,by simp,hd,by simpa using hv.trans hl⟩
      ·rw [YA v τ he] at hl
       refine .inr ⟨hl,fun k o' hk hp=>?_⟩
       cases k with
       | zero=>simp at hk;subst hk;rw [hd];simpa using he
       | succ k=>exact hn k o' (by simpa using hk) (fun p hp'=>by have:=hp p hp';omega)
  ·obtain ⟨VE,τF,ch',h1,h2,h3,h3b,h4,h5⟩:=PK.out l (i+1) ve τ (ch++ [(i,o)]) (fun j hj=>hve j Zi) hr
   refine ⟨VE,τF,(i,o)::ch',h1,by simpa using h2,fun p hp=>?_,fun j hj=>?_,fun k o' hk=>?_,fun s u hs=>?_⟩
   ·cases hp with
    | head=>simp
    | tail _ hp=>
     obtain ⟨g1,g2⟩:=h3 p hp
     exact ⟨by omega,by rw [show p.1 - i=(p.1 - (i+1))+1 from by omega];simpa using g2⟩
   ·rcases hj with hj | ⟨p,hp,hj⟩
    ·exact h3b j (.inl Zi)
    ·cases hp with
     | head=>exact h3b j (.inl (by simp at hj;omega))
     | tail _ hp=>exact h3b j (.inr ⟨p,hp,hj⟩)
   ·cases k with
    | zero=>exact .inl ⟨(i,o),by simp,by simp⟩
    | succ k=>
     rcases h4 k o' (by simpa using hk) with ⟨p,hp,he⟩ | ⟨hn,u,hu,hqu⟩
     ·exact .inl ⟨p,by simp [hp],by omega⟩
     ·refine .inr ⟨fun p hp=>?_,u,by rw [← hu];congr 1;omega,by rw [show i+(k+1)=i+1+k from by omega];exact hqu⟩
      cases hp with
      | head=>simp
      | tail _ hp=>have:=hn p hp;omega
   ·rcases h5 s u hs with ⟨k,o',hk,hd,hl⟩ | ⟨hl,hn⟩
    ·exact .inl ⟨k+1,o',by simpa using hk,hd,by rw [← hl];congr 1;omega⟩
    ·refine .inr ⟨hl,fun k o' hk hp=>?_⟩
     cases k with
     | zero=>exact absurd rfl (hp (i,o) (by simp))
     | succ k=>exact hn k o' (by simpa using hk) (fun p hp'=>by have:=hp p (by simp [hp']);omega)
def YcY (o:Oper) (ve cv:Env):Option Bool:=match o.guard with
 | none=>some true
 | some (j,b)=>match waits o j with
  | false=>none
  | true=>match lk cv j with
   | some v=>some (asB v==some b)
   | none=>match lk ve j with
    | some v=>some (asB v==some b)
    | none=>none
def Po (P:Program) (cx:Cx) (ops:List Oper) (pu:List Nat) (σ ve:Env) (fz0:FZ) (Hq:HP) (Q:QQ) (all:List (Nat × Oper)):Nat→List (Nat × Oper)→Bool→Env→Env→FZ→HP→Prop
 | 0,_,_,_,τ,fz,H=>Q .normal τ fz H
 | m+1,rest,done,cv,τ,fz,H=>∀ p∈rest,(rest.all fun q=>!waits p.2 q.1)=true→
  (YcY p.2 ve cv=some true∧Does P cx p.2 (rdc ops p.2 σ ve cv) fz H fun v fz' H'=>
   ((done || allp ops all pu p.2)=true∨Keep fz0 Hq fz' H')∧
   Po P cx ops pu σ ve fz0 Hq Q all m (rest.filter fun q=>!Nat.beq q.1 p.1) (done || allp ops all pu p.2) ((p.1,v)::cv) (match p.2.dst with | some d=>(d,v)::τ | none=>τ) fz' H')∨
  (YcY p.2 ve cv=some false∧Po P cx ops pu σ ve fz0 Hq Q all m (rest.filter fun q=>!Nat.beq q.1 p.1) (done || allp ops all pu p.2) ((p.1,undef)::cv) (match p.2.dst with | some d=>(d,undef)::τ | none=>τ) fz H)
def Ya9:List (Nat × Oper)→Bool
 | []=>true
 | p::r=>(r.all fun q=>!Nat.beq q.1 p.1) && Ya9 r
theorem YfZ {a b:Nat} (h:(!Nat.beq a b)=true):a≠b:=by
 intro he;subst he;simp at h
theorem YjH {a b:Nat} (h:a≠b):(!Nat.beq a b)=true:=by
 cases hb:Nat.beq a b with
 | true=>exact absurd (Nat.eq_of_beq_eq_true hb) h
 | false=>rfl
theorem YfS {p:Nat × Oper}:∀ {l:List (Nat × Oper)},Ya9 l=true→p∈l→(l.filter fun q=>!Nat.beq q.1 p.1).length+1=l.length
 | [],_,h=>by cases h
 | x::r,hn,h=>by
  simp only [Ya9,Bool.and_eq_true] at hn
  rcases List.mem_cons.1 h with rfl | h
  ·have:r.filter (fun q=>!Nat.beq q.1 p.1)=r:=List.filter_eq_self.2 (fun q hq=>List.all_eq_true.1 hn.1 q hq)
   simp [this]
  ·have ih:=YfS hn.2 h
   have hx:(!Nat.beq x.1 p.1)=true:=YjH (fun he=>YfZ (List.all_eq_true.1 hn.1 p h) he.symm)
   rw [List.filter_cons,if_pos hx,List.length_cons,List.length_cons,ih]
theorem Ycc {f:Nat × Oper→Bool}:∀ {l:List (Nat × Oper)},Ya9 l=true→Ya9 (l.filter f)=true
 | [],_=>rfl
 | x::r,hn=>by
  simp only [Ya9,Bool.and_eq_true] at hn
  rw [List.filter_cons]
  split
  ·simp only [Ya9,Bool.and_eq_true]
   exact ⟨List.all_eq_true.2 (fun q hq=>List.all_eq_true.1 hn.1 q (List.mem_filter.1 hq).1),Ycc hn.2⟩
  ·exact Ycc hn.2
theorem YiB {p:Nat × Oper} {pre:List (Nat × Oper)}:∀ {l:List (Nat × Oper)},Ya9 l=true→p∈l→((pre++ [p])++l.filter fun q=>!Nat.beq q.1 p.1).Perm (pre++l):=by
 intro l hn hp
 rw [List.append_assoc]
 refine List.Perm.append_left pre ?_
 induction l with
 | nil=>cases hp
 | cons x r ih=>
  simp only [Ya9,Bool.and_eq_true] at hn
  rcases List.mem_cons.1 hp with rfl | h
  ·have:r.filter (fun q=>!Nat.beq q.1 p.1)=r:=List.filter_eq_self.2 (fun q hq=>List.all_eq_true.1 hn.1 q hq)
   simp [this]
  ·have hx:(!Nat.beq x.1 p.1)=true:=YjH (fun he=>YfZ (List.all_eq_true.1 hn.1 p h) he.symm)
   rw [List.filter_cons,if_pos hx]
   exact (List.Perm.swap x p _).trans (List.Perm.cons x (ih hn.2 h))
theorem Wp.drawP (pu:List Nat) {id:Nat} {l:List Oper} {Hq:HP} (hm:P.follows .mixedOrders=true) (hB:Yc8 n l 0 []=true) (hG:Ygv l=true) (hHq:Hq.Sublist H)
 (h:PK P cx l pu σ fz Hq (fun ve τ ch=>Ya9 ch=true∧Po P cx l pu σ ve fz Hq Q ch ch.length ch false [] τ fz H) 0 l [] σ []):Wp P cx n (.region id l.toArray true) σ fz H Q:=by
 refine Wp.of ?_
 intro a w hs hi
 obtain ⟨VE,τF,ch,_,hK,hch,hVEch,hq,hτ⟩:=PK.out l 0 [] σ [] (fun _ _=>rfl) h
 simp only [Nat.zero_add,List.nil_append,Nat.sub_zero] at hq hτ hK hch
 obtain ⟨hcok,hCh⟩:=hK
 have hedge:=Yas (n:=n) l 0 [] hB
 have hdst:=YaO (n:=n) l 0 [] hB
 simp only [Nat.zero_add] at hedge
 have hops:∀ k:Nat,(l.toArray)[k]?=l[k]?:=fun k=>by simp
 have hi0:Inv cx fz Hq w:=hi.forget hHq
 -- a quiet operation's number
 let isQ:Nat→Prop:=fun k=>∀ p∈ch,p.1≠k
 -- what holds at every point: 'rest' of the chain is to come
 let A:Array Bool→Act→World→Prop:=fun listed a w=>∃ pre rest done cv τ fzs Hs,(pre++rest).Perm ch∧Ya9 rest=true∧Po P cx l pu σ VE fz Hq Q ch rest.length rest done cv τ fzs Hs∧Inv cx fzs Hs w∧
  a.tmps.size=n∧a.defers=[]∧listed.size=l.length∧
  ((∀ s v,lk σ s=some v→(∀ (k:Nat) (o:Oper),l[k]?=some o→o.dst=some s→listed.getD k true=false)→a.tmps[s]?=some v)∧
   (∀ (k:Nat) (o:Oper),l[k]?=some o→listed.getD k true=true→∀ m,waits o m=true→listed.getD m true=true))∧
  (∀ (k:Nat) (o:Oper) (d:Nat) (v:Value),l[k]?=some o→o.dst=some d→isQ k→listed.getD k true=true→lk VE k=some v→a.tmps[d]?=some v)∧
  (∀ p∈pre,listed.getD p.1 true=true∧∃ v,lk cv p.1=some v∧∀ d,p.2.dst=some d→a.tmps[d]?=some v)∧
  (∀ p∈rest,listed.getD p.1 true=false∧lk cv p.1=none)∧
  (∀ j v,lk cv j=some v→∃ p∈pre,p.1=j)∧
  (Keep fz Hq fzs Hs∨(∀ k,k<l.length→isQ k→inPu pu k=false→listed.getD k true=true))∧
  (done=true→∀ k,k<l.length→isQ k→inPu pu k=false→listed.getD k true=true)∧
  (∀ s v,lk τ s=some v→(∃ (k:Nat) (o:Oper),l[k]?=some o∧o.dst=some s∧isQ k∧lk VE k=some v)∨(∃ p∈pre,p.2.dst=some s∧lk cv p.1=some v)∨
   (lk σ s=some v∧(∀ (k:Nat) (o:Oper),l[k]?=some o→isQ k→o.dst≠some s)∧∀ p∈pre,p.2.dst≠some s))
 have hall:∀ (listed:Array Bool),listed.size=l.length→Region.ready .any l.toArray listed=[]→∀ k,k<l.length→listed.getD k true=true:=by
  intro listed hsz hr k
  induction k using Nat.strongRecOn with
  | _ k ih=>
   intro hk
   cases hl:listed.getD k true with
   | true=>rfl
   | false=>
    exfalso
    have hmem:k∈Region.ready .any l.toArray listed:=by
     unfold Region.ready
     simp only [List.mem_filter,List.mem_range,List.size_toArray,hk,true_and,hl,Bool.not_false,Bool.true_and]
     rw [hops k,List.getElem?_eq_getElem hk]
     simp only [Option.map_some,Option.getD_some,Array.all_eq_true_iff_forall_mem]
     intro e he
     cases hb:Region.binds .any e with
     | false=>rfl
     | true=>
      have h1:=hedge k l[k] (List.getElem?_eq_getElem hk) e he hb
      have h2:=ih e.on Zi Zi
      have h3:e.on<listed.size:=by omega
      simp only [Bool.not_true,Bool.false_or]
      simpa [Array.getD,h3] using h2
    rw [hr] at hmem
    cases hmem
 have hfin:∀ listed a w,A listed a w→Region.ready .any l.toArray listed=[]→lift cx n Q .normal a w:=by
  rintro listed a w ⟨pre,rest,done,cv,τ,fzs,Hs,e0,hnd,hC,a1,a2,a3,a4,⟨a5,_⟩,a6,a7,a8,a9,a10,a11,a12⟩ hr
  have hrest:rest=[]:=by
   cases rest with
   | nil=>rfl
   | cons p r=>
    have h1:=(a8 p (by simp)).1
    have h2:=hch p (e0.mem_iff.1 (by simp))
    have h3:=hall listed a4 hr p.1 (Zg h2.2).1
    rw [h1] at h3;cases h3
  subst hrest
  refine ⟨τ,fzs,Hs,⟨a2,a3,fun s v hsv=>?_⟩,a1,hC⟩
  rcases a12 s v hsv with ⟨k,o,hk,hd,hqk,hv⟩ | ⟨p,hp,hd,hv⟩ | ⟨hv,hn1,hn2⟩
  ·exact a6 k o s v hk hd hqk (hall listed a4 hr k (Zg hk).1) hv
  ·obtain ⟨_,u,hu,hdu⟩:=a7 p hp
   rw [hv] at hu;injection hu with hu;subst hu
   exact hdu s hd
  ·refine a5 s v hv fun k o hk hd=>absurd hd (show o.dst≠some s from fun hd=>?_)
   by_cases hqk:∀ p∈ch,p.1≠k
   ·exact hn1 k o hk hqk hd
   ·simp only [Classical.not_forall,Classical.not_not] at hqk
    obtain ⟨p,hp,he⟩:=hqk
    have:=(hch p hp).2
    rw [he,hk] at this;injection this with this
    subst this
    rw [List.append_nil] at e0
    exact hn2 p (e0.mem_iff.2 hp) hd
 have main:∀ (fuel:Nat) (listed:Array Bool) (a:Act) (w:World),(List.range l.length).countP (fun i=>!listed.getD i true)≤fuel→A listed a w→wpAny P .any l.toArray (lift cx n Q) fuel listed a w:=by
  intro fuel
  induction fuel with
  | zero=>
   intro listed a w hc hA
   have hr:Region.ready .any l.toArray listed=[]:=by
    unfold Region.ready
    rw [List.filter_eq_nil_iff]
    intro k hk
    have:(List.range l.length).countP (fun i=>!listed.getD i true)=0:=by omega
    rw [List.countP_eq_zero] at this
    have:=this k (by simpa using hk)
    simp only [Bool.not_eq_true,Bool.not_eq_false'] at this
    simp only [this];simp
   exact ⟨hr,hfin listed a w hA hr⟩
  | succ fuel ih=>
   intro listed a w hc hA
   refine ⟨fun hr=>hfin listed a w hA hr,fun i hir=>?_⟩
   obtain ⟨pre,rest,done,cv,τ,fzs,Hs,e0,hnd,hC,a1,a2,a3,a4,⟨a5,a13⟩,a6,a7,a8,a9,a10,a11,a12⟩:=hA
   unfold Region.ready at hir
   simp only [List.mem_filter,List.mem_range,List.size_toArray,Bool.and_eq_true,Bool.not_eq_true'] at hir
   obtain ⟨hil,hun,hrdy⟩:=hir
   have hio:l[i]?=some l[i]:=List.getElem?_eq_getElem hil
   rw [hops i,hio] at hrdy
   simp only [Option.map_some,Option.getD_some,Array.all_eq_true_iff_forall_mem] at hrdy
   have hilt:i<listed.size:=by omega
   have hdone:∀ j,waits l[i] j=true→listed.getD j true=true∧j<l.length:=by
    intro j hj
    unfold waits at hj
    obtain ⟨e,he,hej⟩:=List.any_eq_true.1 hj
    simp only [Bool.and_eq_true] at hej
    have h1:=hrdy e (by simpa using he)
    rw [hej.2] at h1
    have h2:e.on=j:=Nat.eq_of_beq_eq_true hej.1
    have h3:=hedge i l[i] hio e (by simpa using he) hej.2
    simp only [Bool.not_true,Bool.false_or] at h1
    have h5:j<listed.size:=by omega
    subst h2
    exact ⟨by simpa [Array.getD,h5] using h1,by omega⟩
   have hother:∀ k,k≠i→(listed.setIfInBounds i true).getD k true=listed.getD k true:=by
    intro k hk
    simp only [Array.getD_eq_getD_getElem?]
    rw [Array.getElem?_setIfInBounds_ne Zi]
   have hsame:(listed.setIfInBounds i true).getD i true=true:=by simp [Array.getD,hilt]
   have hmono:∀ k,listed.getD k true=true→(listed.setIfInBounds i true).getD k true=true:=by
    intro k hk
    by_cases he:k=i
    ·subst he;exact hsame
    ·rw [hother k he];exact hk
   have hcount:(List.range l.length).countP (fun j=>!(listed.setIfInBounds i true).getD j true)≤fuel:=by
    have:=Ydj (p:=fun j=>!listed.getD j true) (q:=fun j=>!(listed.setIfInBounds i true).getD j true) (List.range l.length) i (by simpa using hil) (fun j hj=>by
     by_cases hji:j=i
     ·subst hji;rw [hsame] at hj;cases hj
     ·rw [hother j hji] at hj;exact hj) (by simp only [hun,Bool.not_false]) (by rw [hsame];rfl)
    omega
   have putOther:∀ (v:Value) (s:Nat) (u:Value),a.tmps[s]?=some u→l[i].dst≠some s→(a.put l[i].dst v).tmps[s]?=some u:=by
    intro v s u hu hne
    cases hd:l[i].dst with
    | none=>exact hu
    | some d=>
     have:d≠s:=fun he=>hne (by rw [hd,he])
     simp only [Act.put]
     rw [Array.getElem?_setIfInBounds_ne this]
     exact hu
   have putSame:∀ (v:Value) (s:Nat),l[i].dst=some s→(a.put l[i].dst v).tmps[s]?=some v:=by
    intro v s hd
    rw [hd]
    simp [Act.put,a2,(hdst i _ s hio hd).1]
   have putSize:∀ v,(a.put l[i].dst v).tmps.size=n:=by intro v;cases hd:l[i].dst<;>simp [Act.put,a2]
   have putDef:∀ v,(a.put l[i].dst v).defers=[]:=by intro v;cases hd:l[i].dst<;>simp [Act.put,a3]
   have dstNe:∀ (k:Nat) (o:Oper) (d:Nat),l[k]?=some o→o.dst=some d→k≠i→l[i].dst≠some d:=fun k o d hk hd hki hc=>hki ((hdst i _ d hio hc).2.2 k o hk hd)
   have hlate:∀ j t,Ya5 l t 0=some j→Yd3 l l[i] j=true→∀ (k:Nat) (o:Oper),l[k]?=some o→o.dst=some t→listed.getD k true=false:=by
    intro j t hw hlb k o hk hd
    obtain ⟨kj,oj,hkj,hoj,hdj⟩:=Wn l t 0 j hw
    simp only [Nat.zero_add] at hkj
    subst hkj
    have hke:k=j:=(hdst j oj t hoj hdj).2.2 k o hk hd
    subst hke
    cases hls:listed.getD k true with
    | false=>rfl
    | true=>
     have:=YiI hio (fun a o d ha hd hi=>(hdst i _ d hio hi).2.2 a o ha hd) a13 hlb hls
     rw [hun] at this;cases this
   have a5n:∀ (v:Value) (s:Nat) (u:Value),lk σ s=some u→(∀ (k:Nat) (o:Oper),l[k]?=some o→o.dst=some s→(listed.setIfInBounds i true).getD k true=false)→(a.put l[i].dst v).tmps[s]?=some u:=by
    intro v s u hsu hn
    refine putOther v s u (a5 s u hsu (fun k o hk hd=>?_)) (fun hd=>?_)
    ·by_cases he:k=i
     ·subst he;have:=hn k o hk hd;rw [hsame] at this;cases this
     ·rw [← hother k he];exact hn k o hk hd
    ·have:=hn i l[i] hio hd;rw [hsame] at this;cases this
   have a13n:∀ (k:Nat) (o:Oper),l[k]?=some o→(listed.setIfInBounds i true).getD k true=true→∀ m,waits o m=true→(listed.setIfInBounds i true).getD m true=true:=by
    intro k o hk hls m hm
    by_cases he:k=i
    ·subst he
     have:o=l[k]:=by rw [hio] at hk;injection hk with hk;exact hk.symm
     subst this
     exact hmono m (hdone m hm).1
    ·rw [hother k he] at hls
     exact hmono m (a13 k o hk hls m hm)
   have hyield:∀ j b,l[i].guard=some (j,b)→waits l[i] j=true→∀ c,lk VE j=some c→yielded l.toArray a.tmps j=asB c:=by
    intro j b hg hwt c hc
    obtain ⟨h1,h2⟩:=hdone j hwt
    have hqj:isQ j:=fun p hp he=>by
     have:=hVEch j (.inr ⟨p,hp,he⟩)
     rw [hc] at this;cases this
    unfold yielded
    rw [hops j,List.getElem?_eq_getElem h2]
    cases hd:l[j].dst with
    | none=>
     have h7:=List.all_eq_true.1 hG l[i] (List.getElem_mem hil)
     simp [hg,List.getElem?_eq_getElem h2,hd] at h7
    | some d=>
     have:=a6 j l[j] d _ (List.getElem?_eq_getElem h2) hd hqj h1 hc
     simp only [Option.bind_some,hd,this]
     cases c<;>rfl
   have hwantB:∀ c,Ya6 l[i] VE=some c→Region.wanted l[i] (yielded l.toArray a.tmps)=c:=by
    intro c hw1
    unfold Region.wanted
    unfold Ya6 at hw1
    cases hg:l[i].guard with
    | none=>simp only [hg] at hw1;injection hw1
    | some jb=>
     obtain ⟨j,b⟩:=jb
     simp only
     simp only [hg] at hw1
     cases hwt:waits l[i] j with
     | false=>simp [hwt] at hw1
     | true=>
      simp only [hwt] at hw1
      split at hw1
      ·rename_i c hc
       rw [hyield j b hg hwt c hc]
       exact Option.some.inj hw1
      ·cases hw1
   unfold wpOp
   rw [hops i,hio]
   simp only
   by_cases hqi:∀ p∈ch,p.1≠i
   ·-- a quiet operation
    obtain ⟨v,hv,hqv⟩:∃ v,lk VE i=some v∧QOkP P cx l pu i l[i] σ VE fz Hq v:=by
     rcases hq i l[i] hio with ⟨p,hp,he⟩ | ⟨_,h1⟩
     ·exact absurd he (hqi p hp)
     ·exact h1
    obtain ⟨fzq,Hqq,hkeep,hqv⟩:∃ fzq Hqq,Inv cx fzq Hqq w∧QOk P cx l l[i] σ VE fzq Hqq v:=by
     unfold QOkP at hqv
     cases hpi:inPu pu i with
     | true=>rw [hpi] at hqv;exact ⟨fzs,[],a1.forget (List.nil_sublist _),hqv fzs⟩
     | false=>
      rw [hpi] at hqv
      refine ⟨fz,Hq,?_,hqv⟩
      rcases a10 with h1 | h1
      ·exact hi0.keep a1 h1
      ·have:=h1 i hil hqi hpi;rw [hun] at this;cases this
    have hreads:Reads (rdq l l[i] σ VE) a.eval:=by
     intro x u hx
     cases x with
     | tmp t=>
      unfold rdq at hx
      cases hw:Ya5 l t 0 with
      | none=>
       simp only [hw] at hx
       have:=a5 t u hx (fun k o hk hd=>absurd hd (Yad l t 0 hw k o hk))
       simp [Act.eval,this]
      | some j=>
       simp only [hw] at hx
       cases hwt:waits l[i] j with
       | false=>
        simp only [hwt] at hx
        cases hlb:Yd3 l l[i] j with
        | false=>simp [hlb] at hx
        | true=>
         simp only [hlb] at hx
         have:=a5 t u hx (hlate j t hw hlb)
         simp [Act.eval,this]
       | true=>
        simp only [hwt] at hx
        obtain ⟨k,o,rfl,hk,hd⟩:=Wn l t 0 j hw
        simp only [Nat.zero_add] at*
        have hqk:isQ k:=fun p hp he=>by
         have:=hVEch k (.inr ⟨p,hp,he⟩)
         rw [hx] at this;cases this
        have:=a6 k o t u hk hd hqk (hdone k hwt).1 hx
        simp [Act.eval,this]
     | const c=>injection hx
     | global g=>injection hx
     | func f=>injection hx
    have hnext:∀ w',Fr [] w w'→A (listed.setIfInBounds i true) (a.put l[i].dst v) w':=by
     intro w' hw'
     refine ⟨pre,rest,done,cv,τ,fzs,Hs,e0,hnd,hC,a1.quiet hw',putSize v,putDef v,by simpa using a4,⟨a5n v,a13n⟩,fun k o d u hk hd hqk hls hu=>?_,fun p hp=>?_,fun p hp=>?_,a9,?_,fun hd k hk hqk hpk=>hmono k (a11 hd k hk hqk hpk),a12⟩
     ·by_cases hki:k=i
      ·subst hki
       have:o=l[k]:=by rw [hio] at hk;injection hk with hk;exact hk.symm
       subst this
       rw [hv] at hu;injection hu with hu;subst hu
       exact putSame v d hd
      ·rw [hother k hki] at hls
       exact putOther v d u (a6 k o d u hk hd hqk hls hu) (dstNe k o d hk hd hki)
     ·obtain ⟨h1,u,h2,h3⟩:=a7 p hp
      have hpi:p.1≠i:=hqi p (e0.mem_iff.1 (by simp [hp]))
      exact ⟨hmono _ h1,u,h2,fun d hd=>putOther v d u (h3 d hd) (dstNe p.1 p.2 d (hch p (e0.mem_iff.1 (by simp [hp]))).2 hd hpi)⟩
     ·have hpi:p.1≠i:=hqi p (e0.mem_iff.1 (by simp [hp]))
      obtain ⟨h1,h2⟩:=a8 p hp
      exact ⟨by rw [hother _ hpi];exact h1,h2⟩
     ·rcases a10 with h1 | h1
      ·exact .inl h1
      ·exact .inr fun k hk hqk hpk=>hmono k (h1 k hk hqk hpk)
    rcases hqv with ⟨hw1,hw2⟩ | ⟨hw1,hw2⟩
    ·have hwant:Region.wanted l[i] (yielded l.toArray a.tmps)=true:=by
      unfold Region.wanted
      cases hg:l[i].guard with
      | none=>rfl
      | some jb=>
       obtain ⟨j,b⟩:=jb
       simp only
       unfold Ya6 at hw1
       simp only [hg] at hw1
       cases hwt:waits l[i] j with
       | false=>simp [hwt] at hw1
       | true=>
        simp only [hwt] at hw1
        split at hw1
        ·rename_i c hc
         rw [hyield j b hg hwt c hc]
         exact Option.some.inj hw1
        ·cases hw1
     rw [if_pos hwant]
     exact .inl (WL.wp ((hw2 a.eval w hreads hkeep).mono fun v' w' ⟨he,hw'⟩=>by subst he;exact ih _ _ _ hcount (hnext w' hw')))
    ·have hwant:Region.wanted l[i] (yielded l.toArray a.tmps)=false:=by
      unfold Region.wanted
      unfold Ya6 at hw1
      cases hg:l[i].guard with
      | none=>simp [hg] at hw1
      | some jb=>
       obtain ⟨j,b⟩:=jb
       simp only
       simp only [hg] at hw1
       cases hwt:waits l[i] j with
       | false=>simp [hwt] at hw1
       | true=>
        simp only [hwt] at hw1
        split at hw1
        ·rename_i c hc
         rw [hyield j b hg hwt c hc]
         exact Option.some.inj hw1
        ·cases hw1
     rw [if_neg (by simp [hwant])]
     subst hw2
     exact ih _ _ _ hcount (hnext w (Fr.refl _ _))
   ·-- the chain's next operation
    simp only [Classical.not_forall,Classical.not_not] at hqi
    obtain ⟨p,hp,hpi⟩:=hqi
    have hpl:=(hch p hp).2
    rw [hpi,hio] at hpl
    injection hpl with hpl
    have hprest:p∈rest:=by
     rcases List.mem_append.1 (e0.mem_iff.2 hp) with h1 | h1
     ·have:=(a7 p h1).1;rw [hpi,hun] at this;cases this
     ·exact h1
    obtain ⟨m,hm0⟩:∃ m,rest.length=m+1:=by
     cases rest with
     | nil=>cases hprest
     | cons q r=>exact ⟨r.length,rfl⟩
    have hlen:=YfS hnd hprest
    have hlm:(rest.filter fun q=>!Nat.beq q.1 p.1).length=m:=by omega
    have hfree:(rest.all fun q=>!waits p.2 q.1)=true:=by
     refine List.all_eq_true.2 (fun q hq=>?_)
     cases hw:waits p.2 q.1 with
     | false=>rfl
     | true=>
      rw [← hpl] at hw
      have h1:=(hdone q.1 hw).1
      have h2:=(a8 q hq).1
      rw [h2] at h1;cases h1
    rw [hm0] at hC
    unfold Po at hC
    have hC0:=hC p hprest hfree
    obtain ⟨qi,qo⟩:=p
    simp only at hpi hpl
    subst hpi
    ·generalize hrr:(rest.filter fun q=>!Nat.beq q.1 qi)=r at*
     have hrsub:∀ x∈r,x∈rest∧x.1≠qi:=fun x hx=>by
      rw [← hrr] at hx
      exact ⟨(List.mem_filter.1 hx).1,YfZ (List.mem_filter.1 hx).2⟩
     have hreads:Reads (rdc l l[qi] σ VE cv) a.eval:=by
      intro x u hx
      cases x with
      | tmp t=>
       unfold rdc at hx
       cases hw:Ya5 l t 0 with
       | none=>
        simp only [hw] at hx
        have:=a5 t u hx (fun k o hk hd=>absurd hd (Yad l t 0 hw k o hk))
        simp [Act.eval,this]
       | some j=>
        simp only [hw] at hx
        cases hwt:waits l[qi] j with
        | false=>
         simp only [hwt] at hx
         cases hlb:Yd3 l l[qi] j with
         | false=>simp [hlb] at hx
         | true=>
          simp only [hlb] at hx
          have:=a5 t u hx (hlate j t hw hlb)
          simp [Act.eval,this]
        | true=>
         simp only [hwt] at hx
         obtain ⟨k,o,rfl,hk,hd⟩:=Wn l t 0 j hw
         simp only [Nat.zero_add] at*
         cases hcv:lk cv k with
         | some u'=>
          simp only [hcv] at hx
          injection hx with hx
          subst hx
          obtain ⟨x,hx,hxk⟩:=a9 k u' hcv
          obtain ⟨_,u2,hu2,hd2⟩:=a7 x hx
          rw [hxk,hcv] at hu2
          injection hu2 with hu2
          subst hu2
          have hxl:=(hch x (e0.mem_iff.1 (by simp [hx]))).2
          rw [hxk,hk] at hxl
          injection hxl with hxl
          have:=hd2 t (by rw [← hxl];exact hd)
          simp [Act.eval,this]
         | none=>
          simp only [hcv] at hx
          have hqk:isQ k:=fun p hp he=>by
           have:=hVEch k (.inr ⟨p,hp,he⟩)
           rw [hx] at this;cases this
          have:=a6 k o t u hk hd hqk (hdone k hwt).1 hx
          simp [Act.eval,this]
      | const c=>injection hx
      | global g=>injection hx
      | func f=>injection hx
     have hstep:=hC0
     simp only at hstep
     rw [← hpl] at hstep
     have hdoneT:∀ j,inPu (Yh6 l l.length (Yh2 l[qi])) j=true→listed.getD j true=true:=Yd1 (fun k o hk hl m hm=>a13 k o hk hl m hm) _ _ (fun j hj=>(hdone j (YjI hj)).1)
     have nextA:∀ (v:Value) (fz':FZ) (H':HP) (w':World),Inv cx fz' H' w'→((done || allp l ch pu l[qi])=true∨Keep fz Hq fz' H'∨(fz'=fzs∧H'=Hs))→
      Po P cx l pu σ VE fz Hq Q ch m r (done || allp l ch pu l[qi]) ((qi,v)::cv) (match l[qi].dst with | some d=>(d,v)::τ | none=>τ) fz' H'→A (listed.setIfInBounds qi true) (a.put l[qi].dst v) w':=by
      intro v fz' H' w' hinv hst hrest
      refine ⟨pre++ [(qi,qo)],r,_,(qi,v)::cv,_,fz',H',by rw [← hrr];exact (YiB hnd hprest).trans e0,by rw [← hrr];exact Ycc hnd,by rw [hlm];exact hrest,hinv,putSize v,putDef v,by simpa using a4,⟨a5n v,a13n⟩,fun k o d u hk hd hqk hls hu=>?_,fun x hx=>?_,fun x hx=>?_,fun j u hj=>?_,?_,fun hd k hk hqk hpk=>?_,fun s u hs=>?_⟩
      ·have hki:k≠qi:=fun he=>hqk (qi,qo) hp he.symm
       rw [hother k hki] at hls
       exact putOther v d u (a6 k o d u hk hd hqk hls hu) (dstNe k o d hk hd hki)
      ·rcases List.mem_append.1 hx with hx | hx
       ·obtain ⟨h1,u,h2,h3⟩:=a7 x hx
        have hne:x.1≠qi:=fun he=>by rw [he,hun] at h1;cases h1
        exact ⟨hmono _ h1,u,by rw [YA v cv Zi];exact h2,fun d hd=>putOther v d u (h3 d hd) (dstNe x.1 x.2 d (hch x (e0.mem_iff.1 (by simp [hx]))).2 hd hne)⟩
       ·simp only [List.mem_singleton] at hx
        subst hx
        exact ⟨hsame,v,YO _ _ _,fun d hd=>putSame v d (by rw [hpl];exact hd)⟩
      ·obtain ⟨h1,h2⟩:=a8 x (hrsub x hx).1
       have hne:x.1≠qi:=(hrsub x hx).2
       exact ⟨by rw [hother _ hne];exact h1,by rw [YA v cv Zi];exact h2⟩
      ·by_cases he:qi=j
       ·exact ⟨(qi,qo),by simp,he⟩
       ·rw [YA v cv he] at hj
        obtain ⟨x,hx,hxj⟩:=a9 j u hj
        exact ⟨x,by simp [hx],hxj⟩
      ·rcases hst with hst | hst
       ·right
        intro k hk hqk hpk
        cases hdn:done with
        | true=>exact hmono k (a11 hdn k hk hqk hpk)
        | false=>
         rw [hdn,Bool.false_or] at hst
         unfold allp at hst
         have:=List.all_eq_true.1 hst k (by simpa using hk)
         rw [hpk,Bool.or_false,Bool.or_eq_true] at this
         rcases this with h1 | h1
         ·unfold inCh at h1
          obtain ⟨x,hx,hxk⟩:=List.any_eq_true.1 h1
          exact absurd (Nat.eq_of_beq_eq_true hxk) (hqk x hx)
         ·exact hmono k (hdoneT k h1)
       ·rcases hst with hst | ⟨h1,h2⟩
        ·exact .inl hst
        ·subst h1 h2
         rcases a10 with h3 | h3
         ·exact .inl h3
         ·exact .inr fun k hk hqk hpk=>hmono k (h3 k hk hqk hpk)
      ·rw [Bool.or_eq_true] at hd
       rcases hd with hd | hd
       ·exact hmono k (a11 hd k hk hqk hpk)
       ·unfold allp at hd
        have:=List.all_eq_true.1 hd k (by simpa using hk)
        rw [hpk,Bool.or_false,Bool.or_eq_true] at this
        rcases this with h1 | h1
        ·unfold inCh at h1
         obtain ⟨x,hx,hxk⟩:=List.any_eq_true.1 h1
         exact absurd (Nat.eq_of_beq_eq_true hxk) (hqk x hx)
        ·exact hmono k (hdoneT k h1)
      ·have hcvx:∀ x∈pre,lk ((qi,v)::cv) x.1=lk cv x.1:=by
        intro x hx
        have h1:=(a7 x hx).1
        have hne:x.1≠qi:=fun he=>by rw [he,hun] at h1;cases h1
        exact YA v cv Zi
       cases hd:l[qi].dst with
       | none=>
        simp only [hd] at hs
        rcases a12 s u hs with h1 | ⟨x,hx,hxd,hxv⟩ | ⟨h1,h2,h3⟩
        ·exact .inl h1
        ·exact .inr (.inl ⟨x,by simp [hx],hxd,by rw [hcvx x hx];exact hxv⟩)
        ·refine .inr (.inr ⟨h1,h2,fun x hx=>?_⟩)
         rcases List.mem_append.1 hx with hx | hx
         ·exact h3 x hx
         ·simp only [List.mem_singleton] at hx
          subst hx
          simp only [← hpl,hd];simp
       | some d=>
        simp only [hd] at hs
        by_cases he:d=s
        ·subst he
         rw [YO] at hs
         exact .inr (.inl ⟨(qi,qo),by simp,by rw [← hpl];exact hd,by rw [YO];exact hs⟩)
        ·rw [YA v τ he] at hs
         rcases a12 s u hs with h1 | ⟨x,hx,hxd,hxv⟩ | ⟨h1,h2,h3⟩
         ·exact .inl h1
         ·exact .inr (.inl ⟨x,by simp [hx],hxd,by rw [hcvx x hx];exact hxv⟩)
         ·refine .inr (.inr ⟨h1,h2,fun x hx=>?_⟩)
          rcases List.mem_append.1 hx with hx | hx
          ·exact h3 x hx
          ·simp only [List.mem_singleton] at hx
           subst hx
           simp only [← hpl,hd]
           intro hc;injection hc with hc;exact he hc
     have hwantC:∀ c,YcY l[qi] VE cv=some c→Region.wanted l[qi] (yielded l.toArray a.tmps)=c:=by
      intro c hw1
      unfold Region.wanted
      unfold YcY at hw1
      cases hg:l[qi].guard with
      | none=>simp only [hg] at hw1;injection hw1
      | some jb=>
       obtain ⟨j,b⟩:=jb
       simp only
       simp only [hg] at hw1
       cases hwt:waits l[qi] j with
       | false=>simp [hwt] at hw1
       | true=>
        simp only [hwt] at hw1
        cases hcj:lk cv j with
        | some u=>
         simp only [hcj] at hw1
         obtain ⟨x,hx,hxj⟩:=a9 j u hcj
         obtain ⟨_,u',hu',hdu⟩:=a7 x hx
         rw [hxj,hcj] at hu'
         injection hu' with hu'
         subst hu'
         have hxl:=(hch x (e0.mem_iff.1 (by simp [hx]))).2
         obtain ⟨h1,h2⟩:=hdone j hwt
         rw [hxj,List.getElem?_eq_getElem h2] at hxl
         injection hxl with hxl
         have hy:yielded l.toArray a.tmps j=asB u:=by
          unfold yielded
          rw [hops j,List.getElem?_eq_getElem h2]
          cases hd:l[j].dst with
          | none=>
           have h7:=List.all_eq_true.1 hG l[qi] (List.getElem_mem hil)
           simp [hg,List.getElem?_eq_getElem h2,hd] at h7
          | some d=>
           have:=hdu d (by rw [← hxl];exact hd)
           simp only [Option.bind_some,hd,this]
           cases u<;>rfl
         rw [hy]
         exact Option.some.inj hw1
        | none=>
         simp only [hcj] at hw1
         split at hw1
         ·rename_i c hc
          rw [hyield j b hg hwt c hc]
          exact Option.some.inj hw1
         ·cases hw1
     rcases hstep with ⟨hw1,hdo⟩ | ⟨hw1,hno⟩
     ·rw [if_pos (hwantC true hw1)]
      refine .inl (WL.wp ((hdo.run a.eval w hreads a1).mono fun v w' hh=>?_))
      obtain ⟨fz',H',hinv,hst,hrest⟩:=hh
      exact ih _ _ _ hcount (nextA v fz' H' w' hinv (hst.imp (fun h=>h) .inl) hrest)
     ·rw [if_neg (by rw [hwantC false hw1];simp)]
      exact ih _ _ _ hcount (nextA undef fzs Hs w a1 (.inr (.inr ⟨rfl,rfl⟩)) hno)
 refine wp_region_any hm (main _ _ _ _ ?_ ⟨[],ch,false,[],τF,fz,H,by simp,hcok,hCh,hi.drew,hs.size,hs.defers,by simp,⟨fun s v hv _=>hs.slot s v hv,fun k o hk hls=>?_⟩,fun k o d v hk hd _ hls=>?_,by simp,fun p hp=>⟨?_,rfl⟩,(fun j v hj=>by cases hj),.inl ⟨Le.refl _,fun p hp=>hHq.subset hp⟩,(fun h=>by cases h),fun s v hsv=>?_⟩)
 ·have:=List.countP_le_length (p:=fun i=>!(Array.replicate l.toArray.size false).getD i true) (l:=List.range l.length)
  simpa using this
 ·have:k<l.length:=(Zg hk).1
  simp [Array.getD,this] at hls
 ·have:k<l.length:=(Zg hk).1
  simp [Array.getD,this] at hls
 ·have:p.1<l.length:=(Zg (hch p hp).2).1
  simp [Array.getD,this]
 ·rcases hτ s v hsv with ⟨k,o,hk,hd,hl⟩ | ⟨hl,hn⟩
  ·refine .inl ⟨k,o,hk,hd,fun p hp he=>?_,hl⟩
   have:=hVEch k (.inr ⟨p,hp,he⟩)
   rw [hl] at this;cases this
  ·exact .inr (.inr ⟨hl,fun k o hk hqk=>hn k o hk hqk,by simp⟩)/-! the steps of such a walk -/
def Yjt (rest:List (Nat × Oper)):List (Nat × Oper):=rest.filter fun p=>rest.all fun q=>!waits p.2 q.1
theorem mem_ready {rest:List (Nat × Oper)} {p:Nat × Oper} (hp:p∈rest) (hf:(rest.all fun q=>!waits p.2 q.1)=true):p∈Yjt rest:=List.mem_filter.2 ⟨hp,hf⟩
variable {Hq:HP} {pu:List Nat} {σ' τ ve cv:Env} {l:List Oper} {all rest r1 r2:List (Nat × Oper)} {i j d:Nat} {o o2:Oper} {dn:Bool} {fz0:FZ} {m:Nat}
def PoS (P:Program) (cx:Cx) (ops:List Oper) (pu:List Nat) (σ ve:Env) (fz0:FZ) (Hq:HP) (Q:QQ) (all:List (Nat × Oper)) (m:Nat) (rest':List (Nat × Oper)) (done:Bool) (cv τ:Env) (fz:FZ) (H:HP) (i:Nat) (o:Oper):Prop:=
 (YcY o ve cv=some true∧Does P cx o (rdc ops o σ ve cv) fz H fun v fz' H'=>
  ((done || allp ops all pu o)=true∨Keep fz0 Hq fz' H')∧
  Po P cx ops pu σ ve fz0 Hq Q all m rest' (done || allp ops all pu o) ((i,v)::cv) (match o.dst with | some d=>(d,v)::τ | none=>τ) fz' H')∨
 (YcY o ve cv=some false∧Po P cx ops pu σ ve fz0 Hq Q all m rest' (done || allp ops all pu o) ((i,undef)::cv) (match o.dst with | some d=>(d,undef)::τ | none=>τ) fz H)
theorem Yb (hr:Yjt rest=[(i,o)]) (hf:(rest.filter fun q=>!Nat.beq q.1 i)=r1) (h:PoS P cx l pu σ' ve fz0 Hq Q all m r1 dn cv τ fz H i o):Po P cx l pu σ' ve fz0 Hq Q all (m+1) rest dn cv τ fz H:=by
 unfold Po
 intro p hp hfree
 have:=mem_ready hp hfree
 rw [hr,List.mem_singleton] at this
 subst this
 rw [hf]
 exact h
theorem YG (hr:Yjt rest=[(i,o),(j,o2)]) (hf:(rest.filter fun q=>!Nat.beq q.1 i)=r1) (hg:(rest.filter fun q=>!Nat.beq q.1 j)=r2) (h:PoS P cx l pu σ' ve fz0 Hq Q all m r1 dn cv τ fz H i o) (k:PoS P cx l pu σ' ve fz0 Hq Q all m r2 dn cv τ fz H j o2):Po P cx l pu σ' ve fz0 Hq Q all (m+1) rest dn cv τ fz H:=by
 unfold Po
 intro p hp hfree
 have:=mem_ready hp hfree
 rw [hr,List.mem_cons,List.mem_singleton] at this
 rcases this with this | this
 ·subst this;rw [hf];exact h
 ·subst this;rw [hg];exact k
theorem Po.done (h:Q .normal τ fz H):Po P cx l pu σ' ve fz0 Hq Q all 0 rest dn cv τ fz H:=by unfold Po;exact h
theorem Does.freezeAll {r:Operand→Option Value} {K:Value→FZ→HP→Prop} {H1 H2:HP} (hp:H.Perm (H1++H2)) (h:∀ fz',Le fz fz'→(∀ p∈H2,fz' p.1=some p.2)→Does P cx o r fz' H1 K):Does P cx o r fz H K:=
 Does.of fun ρ w hr hi=>by
  obtain ⟨fz',h1,h2,h3⟩:=Wu H2 fz H1 (hi.perm hp.symm)
  exact (h fz' h1 h2).run ρ w hr h3
theorem Does.after {r:Operand→Option Value} {K:Value→FZ→HP→Prop} (h:Does P cx o r fz H fun v fz' H'=>∃ H2,H2.Perm H'∧K v fz' H2):Does P cx o r fz H K:=
 Does.of fun ρ w hr hi=>(h.run ρ w hr hi).mono fun v w' hh=>by
  obtain ⟨fz',H',h1,H2,h2,h3⟩:=hh
  exact ⟨fz',H2,h1.perm h2,h3⟩
variable {op:Op} {ty:TypeId} {pos:String} {af:Array Edge}
theorem Yd (h:Does P cx ⟨some d,op,ty,pos,af,none⟩ (rdc l ⟨some d,op,ty,pos,af,none⟩ σ' ve cv) fz H fun v fz' H'=>Keep fz0 Hq fz' H'∧Po P cx l pu σ' ve fz0 Hq Q all m r1 (dn || allp l all pu ⟨some d,op,ty,pos,af,none⟩) ((i,v)::cv) ((d,v)::τ) fz' H'):
 PoS P cx l pu σ' ve fz0 Hq Q all m r1 dn cv τ fz H i ⟨some d,op,ty,pos,af,none⟩:=by
 refine .inl ⟨rfl,?_⟩
 exact Does.of fun ρ w hr hi=>(h.run ρ w hr hi).mono fun v w' hh=>by
  obtain ⟨fz',H',h1,h2,h3⟩:=hh
  exact ⟨fz',H',h1,.inr h2,h3⟩
theorem PoS.soft0 (h:Does P cx ⟨none,op,ty,pos,af,none⟩ (rdc l ⟨none,op,ty,pos,af,none⟩ σ' ve cv) fz H fun v fz' H'=>Keep fz0 Hq fz' H'∧Po P cx l pu σ' ve fz0 Hq Q all m r1 (dn || allp l all pu ⟨none,op,ty,pos,af,none⟩) ((i,v)::cv) τ fz' H'):
 PoS P cx l pu σ' ve fz0 Hq Q all m r1 dn cv τ fz H i ⟨none,op,ty,pos,af,none⟩:=by
 refine .inl ⟨rfl,?_⟩
 exact Does.of fun ρ w hr hi=>(h.run ρ w hr hi).mono fun v w' hh=>by
  obtain ⟨fz',H',h1,h2,h3⟩:=hh
  exact ⟨fz',H',h1,.inr h2,h3⟩
theorem PoS.hard (hd:(dn || allp l all pu ⟨some d,op,ty,pos,af,none⟩)=true) (h:Does P cx ⟨some d,op,ty,pos,af,none⟩ (rdc l ⟨some d,op,ty,pos,af,none⟩ σ' ve cv) fz H fun v fz' H'=>Po P cx l pu σ' ve fz0 Hq Q all m r1 true ((i,v)::cv) ((d,v)::τ) fz' H'):
 PoS P cx l pu σ' ve fz0 Hq Q all m r1 dn cv τ fz H i ⟨some d,op,ty,pos,af,none⟩:=by
 refine .inl ⟨rfl,?_⟩
 exact Does.of fun ρ w hr hi=>(h.run ρ w hr hi).mono fun v w' hh=>by
  obtain ⟨fz',H',h1,h3⟩:=hh
  exact ⟨fz',H',h1,.inl hd,by rw [hd];exact h3⟩
theorem PoS.hard0 (hd:(dn || allp l all pu ⟨none,op,ty,pos,af,none⟩)=true) (h:Does P cx ⟨none,op,ty,pos,af,none⟩ (rdc l ⟨none,op,ty,pos,af,none⟩ σ' ve cv) fz H fun v fz' H'=>Po P cx l pu σ' ve fz0 Hq Q all m r1 true ((i,v)::cv) τ fz' H'):
 PoS P cx l pu σ' ve fz0 Hq Q all m r1 dn cv τ fz H i ⟨none,op,ty,pos,af,none⟩:=by
 refine .inl ⟨rfl,?_⟩
 exact Does.of fun ρ w hr hi=>(h.run ρ w hr hi).mono fun v w' hh=>by
  obtain ⟨fz',H',h1,h3⟩:=hh
  exact ⟨fz',H',h1,.inl hd,by rw [hd];exact h3⟩
theorem PK.q {K:Env→Env→List (Nat × Oper)→Prop} {rest:List Oper} {ch:List (Nat × Oper)} (hp:inPu pu i=false) (h:DoesQ P cx ⟨some d,op,ty,pos,af,none⟩ (rdq l ⟨some d,op,ty,pos,af,none⟩ σ' ve) fz Hq fun v=>PK P cx l pu σ' fz Hq K (i+1) rest ((i,v)::ve) ((d,v)::τ) ch):
 PK P cx l pu σ' fz Hq K i (⟨some d,op,ty,pos,af,none⟩::rest) ve τ ch:=by
 unfold DoesQ at h
 obtain ⟨v,h1,h2⟩:=h
 unfold PK
 exact .inl ⟨v,by unfold QOkP;rw [hp];exact .inl ⟨rfl,h2⟩,h1⟩
theorem PK.p {K:Env→Env→List (Nat × Oper)→Prop} {rest:List Oper} {ch:List (Nat × Oper)} (hp:inPu pu i=true) (h:∀ fz',DoesQ P cx ⟨some d,op,ty,pos,af,none⟩ (rdq l ⟨some d,op,ty,pos,af,none⟩ σ' ve) fz' [] fun u=>u=v) (k:PK P cx l pu σ' fz Hq K (i+1) rest ((i,v)::ve) ((d,v)::τ) ch):
 PK P cx l pu σ' fz Hq K i (⟨some d,op,ty,pos,af,none⟩::rest) ve τ ch:=by
 unfold PK
 refine .inl ⟨v,?_,k⟩
 unfold QOkP
 rw [hp]
 intro fz'
 have h1:=h fz'
 unfold DoesQ at h1
 obtain ⟨u,rfl,h2⟩:=h1
 exact .inl ⟨rfl,h2⟩
theorem Ye {K:Env→Env→List (Nat × Oper)→Prop} {rest:List Oper} {ch:List (Nat × Oper)} {o:Oper} (h:PK P cx l pu σ' fz Hq K (i+1) rest ve τ (ch++ [(i,o)])):PK P cx l pu σ' fz Hq K i (o::rest) ve τ ch:=by
 unfold PK;exact .inr h
theorem PK.done {K:Env→Env→List (Nat × Oper)→Prop} {ch:List (Nat × Oper)} (h:K ve τ ch):PK P cx l pu σ' fz Hq K i [] ve τ ch:=by
 unfold PK;exact h
theorem PoS.qk (hk:Keep fz0 Hq fz H) (h:DoesQ P cx ⟨some d,op,ty,pos,af,none⟩ (rdc l ⟨some d,op,ty,pos,af,none⟩ σ' ve cv) fz H fun v=>Po P cx l pu σ' ve fz0 Hq Q all m r1 (dn || allp l all pu ⟨some d,op,ty,pos,af,none⟩) ((i,v)::cv) ((d,v)::τ) fz H):
 PoS P cx l pu σ' ve fz0 Hq Q all m r1 dn cv τ fz H i ⟨some d,op,ty,pos,af,none⟩:=Yd ((h.mono fun _ hv=>⟨hk,hv⟩).does)
theorem PK.yes {K:Env→Env→List (Nat × Oper)→Prop} {rest:List Oper} {ch:List (Nat × Oper)} {g:Nat × Bool} (hp:inPu pu i=false) (hw:Ya6 ⟨some d,op,ty,pos,af,some g⟩ ve=some true) (h:DoesQ P cx ⟨some d,op,ty,pos,af,some g⟩ (rdq l ⟨some d,op,ty,pos,af,some g⟩ σ' ve) fz Hq fun v=>PK P cx l pu σ' fz Hq K (i+1) rest ((i,v)::ve) ((d,v)::τ) ch):
 PK P cx l pu σ' fz Hq K i (⟨some d,op,ty,pos,af,some g⟩::rest) ve τ ch:=by
 unfold DoesQ at h
 obtain ⟨v,h1,h2⟩:=h
 unfold PK
 exact .inl ⟨v,by unfold QOkP;rw [hp];exact .inl ⟨hw,h2⟩,h1⟩
end
attribute [irreducible] Po PoS PK
theorem YgG {α:Type} {z:Nat} {d:α × List Value} (hd:d.2.length=z):∀ {xs:List (α × List Value)} {i:Nat},(∀ p∈xs,p.2.length=z)→i<xs.length→
 (xs.flatMap Prod.snd).take (i*z)++d.2++(xs.flatMap Prod.snd).drop (i*z+z)=(xs.set i d).flatMap Prod.snd
 | [],i,_,hi=>by simp at hi
 | x::r,0,h,_=>by
  have hx:=h x (by simp)
  simp only [List.flatMap_cons,Nat.zero_mul,List.take_zero,List.nil_append,Nat.zero_add,List.set_cons_zero]
  rw [← hx,List.drop_left]
 | x::r,i+1,h,hi=>by
  have hx:=h x (by simp)
  have ih:=YgG hd (xs:=r) (i:=i) (fun p hp=>h p (by simp [hp])) (by simpa using hi)
  simp only [List.flatMap_cons,List.set_cons_succ]
  rw [← ih,Nat.succ_mul]
  have e1:i*z+z=x.2.length+i*z:=by omega
  have e2:i*z+z+z=x.2.length+(i*z+z):=by omega
  rw [e2,List.drop_append,e1,List.take_append]
  simp only [Zl (show x.2.length≤x.2.length+i*z by omega),Nat.add_sub_cancel_left,List.append_assoc]
  have e3:List.drop (x.2.length+(x.2.length+i*z)) x.2=[]:=List.drop_eq_nil_of_le Zi
  simp [e3]
structure GrowB {α:Type} (L:Lay α) (e:Nat) (fz:FZ) (g n cap:Nat) (cur:List Value) (l:List α):Prop where
 pairs:∃ xs:List (α × List Value),xs.map Prod.fst=l∧(∀ p∈xs,L.rep fz p.1 p.2)∧cur.take (n*L.size)=xs.flatMap Prod.snd
 len:l.length=n
 capn:n≤cap
 max:cap≤maxLen
 size:cur.length=cap*L.size
variable {Hs:HP} {fz:FZ} {n:Nat} {v:Value}
theorem Grow.b {α:Type} {L:Lay α} {e:Nat} {l:List α} (hg:Grow L e fz v n Hs l) (hn:0<n):∃ g cap cur,v=.slice (some ⟨g,0,none⟩) n cap∧Hs=[(g,.cells (List.toArray cur) e (0,0))]∧GrowB L e fz g n cap cur l:=by
 obtain ⟨xs,h1,h2,h3,h4⟩:=hg
 rcases h4.2 with ⟨_,h0,_⟩ | ⟨g,cap,cur,h5,h6,h7,h8,h9,h10⟩
 ·omega
 ·exact ⟨g,cap,cur.toList,h5,by rw [h6],⟨xs,h1,h2,h10⟩,h3,h7,h8,by simpa using h9⟩
variable {g:Nat}
theorem GrowB.grow {α:Type} {L:Lay α} {e:Nat} {cap:Nat} {cur:List Value} {l:List α} (h:GrowB L e fz g n cap cur l):Grow L e fz (.slice (some ⟨g,0,none⟩) n cap) n [(g,.cells (List.toArray cur) e (0,0))] l:=by
 obtain ⟨xs,h1,h2,h3⟩:=h.pairs
 have hl:xs.length=n:=by have:=h.len;rw [← h1,List.length_map] at this;exact this
 exact ⟨xs,h1,h2,h.len,by rw [YaI (fun p hp=>L.len (h2 p hp)),hl],.inr ⟨g,cap,cur.toArray,rfl,rfl,h.capn,h.max,by simpa using h.size,by simpa using h3⟩⟩
variable {fz':FZ}
theorem GrowB.mono {α:Type} {L:Lay α} {e:Nat} (hle:Le fz fz') {cap:Nat} {cur:List Value} {l:List α} (h:GrowB L e fz g n cap cur l):GrowB L e fz' g n cap cur l:=by
 obtain ⟨xs,h1,h2,h3⟩:=h.pairs
 exact ⟨⟨xs,h1,fun p hp=>L.mono hle (h2 p hp),h3⟩,h.len,h.capn,h.max,h.size⟩
section
variable {P:Program} {cx:Cx} {r:Operand→Option Value} {fz:FZ} {H:HP} {V:Value→Prop} {dst:Option Nat} {ty:TypeId} {pos:String} {af:Array Edge} {gd:Option (Nat × Bool)}
variable {X Y:Ty} {c:Nat} {t:TypeId} {x:Operand}
theorem YC (T:Tab P) {e:TypeId} {i:Operand} {z:Nat} {k:IntKind} {j:Int} (hT:T.inf t=some X) (hd:X.desc=.slice e) (hY:T.inf e=some Y)
 (hx:r x=some (.slice (some ⟨g,0,none⟩) n c)) (hi:r i=some (.int k j)) (hs:Y.size=z) (h0:0≤j) (hn:j<n) (h:V (.pointer (some ⟨g,j.toNat*z,none⟩))):DoesQ P cx ⟨dst,.indexAddr t x i,ty,pos,af,gd⟩ r fz H V:=by
 refine YcI T hT hd hY hx hi h0 hn ?_
 have hadd:(⟨g,0,none⟩:Addr).add (j.toNat*Y.size)=⟨g,j.toNat*z,none⟩:=by rw [hs];unfold Addr.add;split<;>simp_all
 rw [hadd]
 exact h
variable {cs:List Value} {j:Nat} {y:Operand}
theorem Yx (T:Tab P) {t':TypeId} {pre post:HP} {cap:Nat} {cur:List Value} {α:Type} {L:Lay α} {l:List α} {d:α} {K:Value→FZ→HP→Prop} (hT:T.inf t=some X)
 (hx:r x=some (.pointer (some ⟨g,j*L.size,none⟩))) (hy:r y=some v) (hH:H=pre++(g,.cells cur.toArray t' (0,0))::post) (hv:v.cells=cs.toArray) (hs:X.size=L.size) (h1:OneC L) (hr:L.rep fz d cs) (hb:GrowB L t' fz g n cap cur l) (hj:j<n)
 (h:∀ cur',GrowB L t' fz g n cap cur' (l.set j d)→K undef fz (pre++(g,.cells cur'.toArray t' (0,0))::post)):Does P cx ⟨dst,.store t x y,ty,pos,af,gd⟩ r fz H K:=by
 refine Does.of fun ρ w hrd hw=>?_
 subst hH
 have hcs:=L.len hr
 have hgb:=(hw.hp.own (g,.cells cur.toArray t' (0,0)) (by simp)).1
 obtain ⟨xs,e1,e2,e3⟩:=hb.pairs
 have hxl:xs.length=n:=by have:=hb.len;rw [← e1,List.length_map] at this;exact this
 have hsz:=hb.size
 have hcap:=hb.capn
 have hjn:j*L.size+L.size≤n*L.size:=by rw [← Nat.succ_mul];exact Nat.mul_le_mul_right _ hj
 have hnc:n*L.size≤cap*L.size:=Nat.mul_le_mul_right _ hcap
 have hle:j*L.size+0+cs.length≤cur.toArray.size:=by simp;omega
 have hst:=run_storeCells_at (P:=P) g (j*L.size) t' cs 0 cur.toArray w hgb hle (fun u hu=>h1 _ _ _ hr u hu)
 simp only [Nat.add_zero] at hst
 have hz:=run_sizeOf T hT w
 rw [hs,← hcs] at hz
 have hvl:v.cells.toList=cs:=by rw [hv]
 have:(execOp ρ ⟨dst,.store t x y,ty,pos,af,gd⟩).run P w=.ok .skip (w.setRow g (cur.take (j*L.size)++cs++cur.drop (j*L.size+cs.length)).toArray):=by
  simp only [execOp,hrd _ _ hx,hrd _ _ hy,Instr.storeAt,Instr.sureAddr,Sem.run_bind,Sem.run_pure,Result.andThen_ok,storeVar,hz,hvl]
  simp [hst,hv]
 rw [this]
 have hflat:(xs.flatMap Prod.snd).length=n*L.size:=by rw [YaI (fun p hp=>L.len (e2 p hp)),hxl]
 have hcur:cur=xs.flatMap Prod.snd++cur.drop (n*L.size):=by rw [← e3,List.take_append_drop]
 have hnew:(cur.take (j*L.size)++cs++cur.drop (j*L.size+cs.length)).take (n*L.size)=(xs.set j (d,cs)).flatMap Prod.snd:=by
  rw [← YgG (z:=L.size) (d:=(d,cs)) hcs (fun p hp=>L.len (e2 p hp)) Zi,hcs]
  generalize hf:xs.flatMap Prod.snd=fl at*
  generalize hT':cur.drop (n*L.size)=tl at*
  subst hcur
  have a1:(fl++tl).take (j*L.size)=fl.take (j*L.size):=List.take_append_of_le_length Zi
  have a2:(fl++tl).drop (j*L.size+L.size)=fl.drop (j*L.size+L.size)++tl:=List.drop_append_of_le_length Zi
  rw [a1,a2,← List.append_assoc,List.take_append_of_le_length (by simp only [List.length_append,List.length_take,List.length_drop];omega),Zl (by simp only [List.length_append,List.length_take,List.length_drop];omega)]
 refine ⟨fz,_,hw.write (o':=.cells (cur.take (j*L.size)++cs++cur.drop (j*L.size+cs.length)).toArray t' (0,0)) rfl rfl rfl (by simp) ?_ (fun k hk=>?_),h _ ⟨⟨xs.set j (d,cs),?_,fun p hp=>?_,hnew⟩,by rw [List.length_set];exact hb.len,hcap,hb.max,?_⟩⟩
 ·simp [World.setRow,Array.getElem?_modify,hgb]
 ·simp only [World.setRow,Array.getElem?_modify]
  rw [if_neg Zi]
 ·rw [← e1,List.map_set]
 ·rcases List.mem_or_eq_of_mem_set hp with hp | rfl
  ·exact e2 p hp
  ·exact hr
 ·simp only [List.length_append,List.length_take,List.length_drop];omega
end
end Go.Lx
set_option maxRecDepth 20000
namespace Go.Proofs.YtfjopfinkdhmaaaGreatDoor
open Go.Lx Go.RowKit
attribute [local instance 10] Classical.propDecidable
open Go.Proofs.Tryz (prog)
def zroC:List Value:=[.int .i64 0,.int .i64 0,.int .i64 0,.int .i64 0,.string ⟨#[]⟩,.slice none 0 0]
def zroX:Sexpr:=.mk 0 0 0 0 ⟨#[]⟩ []
theorem i64z:I64 0:=by unfold I64;omega
variable {fz:FZ}
theorem Yi7:Yy.rep fz zroX zroC:=Yg (x:=zroX) ⟨i64z,i64z,i64z,i64z,by show (ByteArray.mk #[]).size≤_;decide,IsSl.nil⟩
variable {n:Nat}
theorem Ygb {α:Type} {l:List α} {z w:α} (hn:l.length=n):(l++ [z]).set n w=l++ [w]:=by
 subst hn
 rw [List.set_append_right _ _ (Zs _),Nat.sub_self]
 rfl
theorem Yet:OneC Yy:=by
 intro fz d cs h u hu
 obtain ⟨v,rfl,hR⟩:=Yh h
 obtain ⟨A,n,c,rfl,_⟩:=hR.kids
 simp at hu
 rcases hu with rfl | rfl | rfl | rfl | rfl | rfl<;>rfl
variable {k:Nat} {v:Value}
set_option maxHeartbeats 8000000 in
theorem add_f {gr go a m cap:Nat} {t:Bs} {n:Int} {vx:Value} {cur:List Value} {Hb Hl:HP} {l:List Sexpr} {x:Sexpr} (hm:1≤m) (hmc:m≤cap) (hm6:m≤1000) (hcur:cur[(m - 1)*6+5]?=some v) (hG:Grow Yy 57 fz v k Hl l) (hX:YW fz x vx) (hk:k≤1000000):
 GFn prog 134 [.pointer (some ⟨gr,0,none⟩),.agg #[.int .i64 x.kind,.int .i64 x.value,.int .i64 x.line,.int .i64 x.column,.string x.text,vx]] fz
  ((gr,rdO t a n (.slice (some ⟨go,0,none⟩) m cap))::(go,.cells cur.toArray 57 (0,0))::(Hb++Hl))
  (fun r fz' H'=>fz'=fz∧r=.tuple #[]∧∃ v' Hl',H'=(gr,rdO t a n (.slice (some ⟨go,0,none⟩) m cap))::(go,.cells (cur.set ((m - 1)*6+5) v').toArray 57 (0,0))::(Hb++Hl')∧Grow Yy 57 fz v' (k+1) Hl' (l++ [x])):=by
 obtain ⟨Ax,nx,cx',rfl,_⟩:=hX.kids
 have hlen:=hG.len
 obtain ⟨Av,cv,rfl,_,_⟩:=hG.form
 have hjl:(m - 1)*6+5<cur.length:=(Zg hcur).1
 unfold rdO
 refine zF Tryz.func134 Tryz.ntmps134 (fun w0=>?_)
 refine Yk (Yr (Ya Zz (Xc _ Zz Zz (fun g7=>?_))))
 refine zW ?_;intros
 refine zG ?_;refine YC (z:=6) T Zz Zz Zz Zz Zz rfl Zi Zi ?_
 rw [show ((m:Int) - 1).toNat=m - 1 by omega]
 refine zWN ?_;intros
 refine Wp.drawP [10,11] (Hq:=(g7,_)::(gr,_)::(go,_):: []) T.mixed Zj Zj Zb ?_
 refine zW ?_;intros
 refine zG ?_;refine Y0 T 2 Zz Zz Zz Zz hcur ?_
 refine zW ?_;intros
 refine Ye ?_
 refine Ye ?_
 refine Ye ?_
 refine Ye ?_
 refine PK.p Zz (fun fz'=>by first | exact X5 Zz rfl | exact Xx Zz rfl | exact YZ T Zz Zz Zz Zz Zz Zz rfl | exact Yaf Zz Zz (Xw Zi) rfl | exact YU T Zz Zz Zz rfl) ?_
 refine PK.p Zz (fun fz'=>by first | exact X5 Zz rfl | exact Xx Zz rfl | exact YZ T Zz Zz Zz Zz Zz Zz rfl | exact Yaf Zz Zz (Xw Zi) rfl | exact YU T Zz Zz Zz rfl) ?_
 refine Ye ?_
 refine PK.done ⟨by kernel_rfl,?_⟩
 refine Yb Zz Zz ?_
 refine Yd (Yc T (cs:=zroC) Zz Zz Zz Zz Zz Zz Zz Zz (fun gb=>⟨(⟨(Le.refl _),Zx⟩),?_⟩))
 refine Yb Zz Zz ?_
 refine Yd (YhG T (Hr:=(gb,_)::(g7,_)::(gr,_)::(go,_)::Hb) (ys:=[(zroX,zroC)]) (l2:=[zroX]) (m:=1) Zz Zz Zz Zz Zz Zz Zz Zz (Zr _) hG Yet (.head _) (List.append_nil _).symm rfl (by intro p hp;simp at hp;subst hp;exact Yi7) rfl (by show _*72≤_;omega) Zi (fun v' Hs' hO'=>⟨(⟨(Le.refl _),Zx⟩),?_⟩))
 obtain ⟨gk,cap2,cur1,rfl,rfl,hB⟩:=hO'.b Zi
 refine YG Zz Zz Zz ?_ ?_
 ·refine PoS.hard Zj (DoesQ.does (YC T Zz Zz Zz Zz Zz rfl Zi Zi ?_))
  refine YG Zz Zz Zz ?_ ?_
  ·refine PoS.hard0 Zj (Yx T (pre:=(gb,_)::(g7,_)::(gr,_)::(go,_)::Hb) (L:=Yy) (j:=k) Zz Zz Zz rfl rfl Zz Yet (Yg hX) hB Zi (fun cur2 hB2=>?_))
   refine Yb Zz Zz ?_
   refine PoS.hard0 Zj (YbR T (pre:=[_,_,_]) Zz Zz Zz rfl Zz Zz Zz hjl ?_)
   refine Po.done ?_
   refine zW ?_;intros
   exact Yap (H':=(gr,_)::(go,_)::(Hb++ [(gk,_)])) rfl (List.Sublist.cons _ (List.Sublist.cons _ (List.Sublist.refl _))) ⟨rfl,rfl,_,[(gk,_)],rfl,hB2.grow.of (Ygb hlen) rfl⟩
  ·refine PoS.hard0 Zj (YbR T (pre:=[_,_,_]) Zz Zz Zz rfl Zz Zz Zz hjl ?_)
   refine Yb Zz Zz ?_
   refine PoS.hard0 Zj (Yx T (pre:=(gb,_)::(g7,_)::(gr,_)::(go,_)::Hb) (L:=Yy) (j:=k) Zz Zz Zz rfl rfl Zz Yet (Yg hX) hB Zi (fun cur2 hB2=>?_))
   refine Po.done ?_
   refine zW ?_;intros
   exact Yap (H':=(gr,_)::(go,_)::(Hb++ [(gk,_)])) rfl (List.Sublist.cons _ (List.Sublist.cons _ (List.Sublist.refl _))) ⟨rfl,rfl,_,[(gk,_)],rfl,hB2.grow.of (Ygb hlen) rfl⟩
 ·refine PoS.hard0 Zj (YbR T (pre:=[_,_,_]) Zz Zz Zz rfl Zz Zz Zz hjl ?_)
  refine Yb Zz Zz ?_
  refine PoS.hard Zj (DoesQ.does (YC T Zz Zz Zz Zz Zz rfl Zi Zi ?_))
  refine Yb Zz Zz ?_
  refine PoS.hard0 Zj (Yx T (pre:=(gb,_)::(g7,_)::(gr,_)::(go,_)::Hb) (L:=Yy) (j:=k) Zz Zz Zz rfl rfl Zz Yet (Yg hX) hB Zi (fun cur2 hB2=>?_))
  refine Po.done ?_
  refine zW ?_;intros
  exact Yap (H':=(gr,_)::(go,_)::(Hb++ [(gk,_)])) rfl (List.Sublist.cons _ (List.Sublist.cons _ (List.Sublist.refl _))) ⟨rfl,rfl,_,[(gk,_)],rfl,hB2.grow.of (Ygb hlen) rfl⟩
end Go.Proofs.YtfjopfinkdhmaaaGreatDoor
namespace Go.Proofs.YtfjopfinkdhmaaaGreatDoor
open Go.Lx Go.RowKit
open Go.Proofs.Tryz (prog)
def sxV (k v:Int) (s:Bs) (kids:Value):Value:=.agg #[.int .i64 k,.int .i64 v,.int .i64 0,.int .i64 0,.string s,kids]
variable {fz:FZ}
theorem YaX {s:Bs}:QFn prog 112 [.string s] fz (sxV 1 0 s (.slice none 0 0)):=by
 refine GFn.quiet ?_
 refine zF Tryz.func112 Tryz.ntmps112 (fun w0=>?_)
 refine zW ?_;intros
 exact WD T (i:=0) rfl Zz Zz Zz Zz Zz (fun _ hi=>⟨_,[],hi.forget (List.nil_sublist _),rfl⟩)
theorem WY {s:Bs}:QFn prog 47 [.string s] fz (sxV 1 0 s (.slice none 0 0)):=by
 refine GFn.quiet ?_
 refine zF Tryz.func47 Tryz.ntmps47 (fun w0=>?_)
 refine zW ?_;intros
 exact WD T (i:=0) rfl Zz Zz Zz Zz Zz (fun _ hi=>⟨_,[],hi.forget (List.nil_sublist _),rfl⟩)
theorem WW {s:Bs}:QFn prog 57 [.string s] fz (sxV 1 0 s (.slice none 0 0)):=by
 refine GFn.quiet ?_
 refine zF Tryz.func57 Tryz.ntmps57 (fun w0=>?_)
 refine zW ?_;intros
 exact WD T (i:=0) rfl Zz Zz Zz Zz Zz (fun _ hi=>⟨_,[],hi.forget (List.nil_sublist _),rfl⟩)
variable {A:Option Addr} {c n:Nat}
theorem Ycf:QFn prog 156 [.slice A n c] fz (sxV 3 0 ⟨#[]⟩ (.slice A n c)):=by
 refine GFn.quiet ?_
 refine zF Tryz.func156 Tryz.ntmps156 (fun w0=>?_)
 refine zW ?_;intros
 exact WD T (i:=0) rfl Zz Zz Zz Zz Zz (fun _ hi=>⟨_,[],hi.forget (List.nil_sublist _),rfl⟩)
theorem Xk:QFn prog 46 [.slice A n c] fz (sxV 3 0 ⟨#[]⟩ (.slice A n c)):=by
 refine GFn.quiet ?_
 refine zF Tryz.func46 Tryz.ntmps46 (fun w0=>?_)
 refine zW ?_;intros
 exact WD T (i:=0) rfl Zz Zz Zz Zz Zz (fun _ hi=>⟨_,[],hi.forget (List.nil_sublist _),rfl⟩)
theorem XX:QFn prog 56 [.slice A n c] fz (sxV 3 0 ⟨#[]⟩ (.slice A n c)):=by
 refine GFn.quiet ?_
 refine zF Tryz.func56 Tryz.ntmps56 (fun w0=>?_)
 refine zW ?_;intros
 exact WD T (i:=0) rfl Zz Zz Zz Zz Zz (fun _ hi=>⟨_,[],hi.forget (List.nil_sublist _),rfl⟩)
theorem Yem {n:Int}:QFn prog 51 [.int .i64 n] fz (sxV 2 n ⟨#[]⟩ (.slice none 0 0)):=by
 refine GFn.quiet ?_
 refine zF Tryz.func51 Tryz.ntmps51 (fun w0=>?_)
 refine zW ?_;intros
 exact WD T (i:=0) rfl Zz Zz Zz Zz Zz (fun _ hi=>⟨_,[],hi.forget (List.nil_sublist _),rfl⟩)
theorem flat_get {α:Type} {f:α→List Value} {z:Nat} (hz:∀ x,(f x).length=z):∀ {l:List α} {i j:Nat} {x:α} {u:Value},l[i]?=some x→(f x)[j]?=some u→(l.flatMap f)[i*z+j]?=some u
 | [],i,j,x,u,h,_=>by simp at h
 | y::r,0,j,x,u,h,hu=>by
  simp at h;subst h
  have hj:j<(f y).length:=(Zg hu).1
  rw [List.flatMap_cons,Nat.zero_mul,Nat.zero_add,List.getElem?_append_left hj];exact hu
 | y::r,i+1,j,x,u,h,hu=>by
  have h2:=flat_get hz (l:=r) (i:=i) (j:=j) (x:=x) (u:=u) (by simpa using h) hu
  have e:(i+1)*z+j=z+(i*z+j):=by rw [Nat.succ_mul];omega
  rw [List.flatMap_cons,e,List.getElem?_append_right (by rw [hz];omega),hz,Nat.add_sub_cancel_left];exact h2
variable {k:Nat}
theorem Yl8 {α β:Type} {f:α→List β} {a:α} {l:List α} {x:α} (hx:l[k]?=some x):(a::l.take (k+1)).flatMap f=(a::l.take k).flatMap f++f x:=by
 rw [List.take_add_one,hx];simp
variable {fz':FZ} {v:Value}
theorem Yga {α β:Type} {L:Lay α} {f:β→List Value} {g:β→α} {e:Nat} {l:List β} {b:HP} (hz:∀ x,(f x).length=L.size) (hO:OwnS e L.size v n (l.flatMap f) b) (hf:∀ p∈b,fz' p.1=some p.2) (hl:l.length=n) (hn:n≤140737488355328) (hr:∀ x∈l,L.rep fz' (g x) (f x)):
 ∃ A c,v=.slice A n c∧Sl L fz' A n c (l.map g):=by
 obtain ⟨A,c,h1,h2,h3,h4⟩:=hO.row hf
 refine ⟨A,c,h1,h4.sl h2 h3 hn (by simpa using hl) fun i d hd=>?_⟩
 rw [List.getElem?_map] at hd
 cases hx:l[i]? with
 | none=>simp [hx] at hd
 | some x=>
  simp [hx] at hd
  subst hd
  exact ⟨f x,hr x (Zm hx),fun j u hu=>flat_get hz hx hu⟩
theorem short_of {l:List Bs} (h:Sl strL fz A n c l) {x:Bs} (hx:x∈l):Short x:=by
 obtain ⟨i,hi⟩:=List.mem_iff_getElem?.1 hx
 rcases h.elem with h0 | ⟨ad,h1,h2⟩
 ·have:=YeN hi;have:=h.len;omega
 ·obtain ⟨v,⟨_,h3⟩,_⟩:=(h2 i x hi).cell rfl
  exact h3
def Yi (s:Bs):Sexpr:=.mk 1 0 0 0 s []
def Yq (s:Bs):List Value:=[.int .i64 1,.int .i64 0,.int .i64 0,.int .i64 0,.string s,.slice none 0 0]
theorem Yu {s:Bs} (hs:Short s):Yy.rep fz (Yi s) (Yq s):=
 Yg (x:=Yi s) ⟨by show I64 1;unfold I64;omega,by show I64 0;unfold I64;omega,by show I64 0;unfold I64;omega,by show I64 0;unfold I64;omega,hs,IsSl.nil⟩
set_option maxHeartbeats 1000000 in
theorem Ygy {f0:Bs} {l:List Bs} (hf:Short f0) (h1:Sl strL fz A n c l) (hn:n≤1000000000):
 GFn prog 155 [.string f0,.slice A n c] fz [] (fun v fz' H'=>H'=[]∧∃ B m cc,v=sxV 3 0 ⟨#[]⟩ (.slice B m cc)∧Sl Yy fz' B m cc (Yi f0::l.map Yi)):=by
 have l1:=h1.len
 refine zF Tryz.func155 Tryz.ntmps155 (fun w0=>?_)
 refine zW ?_;intros
 rename_i g4
 refine zc (YaX (s:=f0)) ?_
 refine Ya Zz (Yc T (cs:=Yq f0) Zz Zz Zz Zz Zz Zz Zz Zz (fun gb=>?_))
 refine zc Ycf ?_
 refine zW ?_;intros
 rename_i g5
 refine Wp.perm (List.Perm.cons _ (List.Perm.swap _ _ _)) ?_
 refine Yl (fun q σ fz' H'=>∃ (k:Nat) (v:Value) (Hs:HP),k≤n∧q=n - k∧σ=[(14,.int .i64 k),(13,.int .i64 n),(12,.slice A n c),(5,.pointer (some ⟨g5,0,none⟩)),(4,.pointer (some ⟨g4,0,none⟩))]∧fz=fz'∧
  H'=(g5,.cells #[.int .i64 3,.int .i64 0,.int .i64 0,.int .i64 0,.string ⟨#[]⟩,v] 57 (0,0))::(g4,.cells #[.int .i64 0,.int .i64 0,.int .i64 0,.int .i64 0,.string ⟨#[]⟩,.slice none 0 0] 57 (0,0))::Hs∧OwnS 57 6 v (k+1) ((f0::l.take k).flatMap Yq) Hs)
  ⟨0,_,[_],Z0 _,rfl,rfl,rfl,rfl,?_⟩ Zw Zb ?_
 ·exact OwnS.of_block (size:=6) (cs:=Yq f0) (n:=1) rfl Zh
 rintro q σ fz' H' ⟨k,v,Hs,hk,rfl,rfl,rfl,rfl,hO⟩
 refine zW ?_;intros
 refine zC (fun c1=>?_) (fun c1=>?_)
 ·obtain ⟨x,hx⟩:=Yn (l:=l) (k:=k) Zi
  obtain ⟨Av,cv,rfl,_,_⟩:=hO.form
  refine zW ?_;intros
  refine zI h1 hx (fun p hp=>?_)
  refine zH hp (fun ix=>?_)
  refine zW ?_;intros
  refine Wp.drawK (Hq:=[_,_]) T.mixed Zj Zj Zb ?_
  refine zW ?_;intros
  refine Yf ?_
  refine Yf ?_
  refine Yf ?_
  refine zW ?_;intros
  refine Yf ?_
  refine YM ⟨by kernel_rfl,?_⟩
  refine Ch.qk (⟨Le.refl _,Zx⟩) (Yw Zz Zz (YaX (s:=x)) ?_)
  refine Yt (Yc T (cs:=Yq x) Zz Zz Zz Zz Zz Zz Zz Zz (fun gb=>⟨(⟨Le.refl _,Zx⟩),?_⟩))
  refine Yt (Yei T (Hr:=[_,_,_]) Zz Zz Zz Zz Zz Zz Zz (Zr _) hO rfl (Yip (.head _)) (by intro u hu;simp [Yq] at hu;rcases hu with rfl | rfl | rfl | rfl | rfl | rfl<;>rfl) (by show _*72≤_;omega) Zi (fun v' Hs' hO'=>⟨(⟨Le.refl _,Zx⟩),?_⟩))
  obtain ⟨Av',cv',rfl,_,_⟩:=hO'.form
  refine Ch.hard0 Zj (YN T Zz Zz Zz Zz Zz Zz ?_)
  refine Ch.done ?_
  refine zW ?_;intros
  exact Yz ⟨k+1,_,Hs',by omega,rfl,rfl,rfl,rfl,by rw [Yl8 (a:=f0) hx];exact hO'⟩ Zi Zw Zb
 ·have hk1:k=n:=by omega
  subst hk1
  obtain ⟨Av,cv,rfl,_,_⟩:=hO.form
  refine zW ?_;intros
  refine X8 T (i:=1) rfl Zz Zz Zz Zz Zz (fun fz3 hle3 hf3=>?_)
  rw [Zl Zi] at hO
  obtain ⟨A',c',he,hsl⟩:=Yga (L:=Yy) (g:=Yi) (fun _=>rfl) hO (fun p hp=>hf3 p (by simp [hp])) (by simp [l1]) Zi (fun x hx=>Yu (by
   rcases List.mem_cons.1 hx with rfl | hx
   ·exact hf
   ·exact short_of h1 hx))
  exact ⟨rfl,_,_,_,by rw [he];rfl,hsl⟩
theorem Yj6 {l:List Bs}:∀ u∈l.flatMap Yq,u.oneCell'=true:=by
 intro u hu
 obtain ⟨x,_,hx⟩:=List.mem_flatMap.1 hu
 simp [Yq] at hx
 rcases hx with rfl | rfl | rfl | rfl<;>rfl
theorem rep_of {α:Type} {L:Lay α} {l:List α} (h:Sl L fz A n c l) {x:α} (hx:x∈l):∃ cs,L.rep fz x cs:=by
 obtain ⟨i,hi⟩:=List.mem_iff_getElem?.1 hx
 rcases h.elem with h0 | ⟨ad,h1,h2⟩
 ·have:=YeN hi;have:=h.len;omega
 ·obtain ⟨cs,hr,_⟩:=h2 i x hi
  exact ⟨cs,hr⟩
def W2 (p:Param):List Bs:=[p.name,Wr,p.typ]
theorem Ykq {α β γ:Type} {f:α→List β} {h:β→List γ} {l:List α} {x:α} (hx:l[k]?=some x):((l.take (k+1)).flatMap f).flatMap h=((l.take k).flatMap f).flatMap h++(f x).flatMap h:=by
 rw [List.take_add_one,hx];simp
theorem Ycq:∀ {l:List Param},(l.flatMap W2).length=3*l.length
 | []=>rfl
 | p::r=>by rw [List.flatMap_cons,List.length_append,Ycq];simp [W2];omega
set_option maxHeartbeats 1000000 in
theorem Yc6 {l:List Param} (h1:Sl paramL fz A n c l) (hn:n≤1000000000):
 GFn prog 58 [.slice A n c] fz [] (fun v fz' H'=>H'=[]∧∃ B cc,v=.slice B (3*n) cc∧Sl Yy fz' B (3*n) cc ((l.flatMap W2).map Yi)):=by
 have l1:=h1.len
 refine zF Tryz.func58 Tryz.ntmps58 (fun w0=>?_)
 refine zW ?_;intros
 refine Yl (fun q σ fz' H'=>∃ (k:Nat) (v:Value) (Hs:HP),k≤n∧q=n - k∧σ=[(8,.int .i64 k),(7,.int .i64 n),(6,.slice A n c),(3,v)]∧fz=fz'∧
  H'=Hs∧OwnS 57 6 v (3*k) (((l.take k).flatMap W2).flatMap Yq) Hs)
  ⟨0,_,[],Z0 _,rfl,rfl,rfl,rfl,OwnS.nil _ _⟩ Zw Zb ?_
 rintro q σ fz' H' ⟨k,v,Hs,hk,rfl,rfl,rfl,rfl,hO⟩
 refine zW ?_;intros
 refine zC (fun c1=>?_) (fun c1=>?_)
 ·obtain ⟨x,hx⟩:=Yn (l:=l) (k:=k) Zi
  obtain ⟨Av,cv,rfl,_,_⟩:=hO.form
  refine zW ?_;intros
  refine zI h1 hx (fun p hp=>?_)
  refine zL hp ?_
  intro cs hcs
  obtain ⟨rfl,hR⟩:=YV hcs
  refine zW ?_;intros
  rename_i g5
  refine Wp.drawK (Hq:=[_]) T.mixed Zj Zj Zb ?_
  refine zW ?_;intros
  refine Yf ?_
  refine Yf ?_
  refine zW ?_;intros
  refine Yf ?_
  refine Yf ?_
  refine Yf ?_
  refine Yf ?_
  refine YM ⟨by kernel_rfl,?_⟩
  refine Ch.qk (⟨Le.refl _,Zx⟩) (Yw Zz Zz (YaX (s:=x.name)) ?_)
  refine Ch.qk (⟨Le.refl _,Zx⟩) (Yw Zz Zz (YaX (s:=Wr)) ?_)
  refine Ch.qk (⟨Le.refl _,Zx⟩) (Yw Zz Zz (YaX (s:=x.typ)) ?_)
  refine Yt (Yc T (cs:=(W2 x).flatMap Yq) Zz Zz Zz Zz Zz Zz Zz Zz (fun gb=>⟨(⟨Le.refl _,Zx⟩),?_⟩))
  refine Yt (Yei T (Hr:=[_,_]) Zz Zz Zz Zz Zz Zz Zz (Zr _) hO rfl (Yip (.head _)) Yj6 (by show _*72≤_;omega) Zi (fun v' Hs' hO'=>⟨(⟨Le.refl _,Zx⟩),?_⟩))
  refine Ch.qk (⟨Le.refl _,Zx⟩) (YJ Zz ?_)
  refine Ch.done ?_
  refine zW ?_;intros
  exact Yz ⟨k+1,_,Hs',by omega,rfl,rfl,rfl,rfl,by rw [Ykq hx];exact hO'⟩ Zi Zw Zb
 ·have hk1:k=n:=by omega
  subst hk1
  obtain ⟨Av,cv,rfl,_,_⟩:=hO.form
  refine zW ?_;intros
  refine ret1F rfl rfl (fun fz3 hle3 hf3=>?_)
  rw [Zl Zi] at hO
  obtain ⟨A',c',he,hsl⟩:=Yga (L:=Yy) (g:=Yi) (fun _=>rfl) hO (fun p hp=>hf3 p hp) (by rw [Ycq,l1]) Zi (fun x hx=>Yu (by
   obtain ⟨p,hp,hx⟩:=List.mem_flatMap.1 hx
   obtain ⟨cs,hr⟩:=rep_of h1 hp
   obtain ⟨_,hR⟩:=YV hr
   simp only [W2,List.mem_cons,List.not_mem_nil,or_false] at hx
   rcases hx with rfl | rfl | rfl
   ·exact hR.name
   ·unfold Short Wr;decide
   ·exact hR.typ))
  exact ⟨rfl,_,_,he,hsl⟩
def kNumber:Bs:=⟨#[110,117,109,98,101,114]⟩
def kFluent:Bs:=⟨#[102,108,117,101,110,116]⟩
def SxIs (fz:FZ) (v:Value) (x:Sexpr):Prop:=∃ cs,v=.agg (List.toArray cs)∧Yy.rep fz x cs
theorem SxIs.mono (h:Le fz fz') {x:Sexpr} (hs:SxIs fz v x):SxIs fz' v x:=by
 obtain ⟨cs,e,hr⟩:=hs
 exact ⟨cs,e,Yy.mono h hr⟩
def YF (l:List Sexpr):Sexpr:=.mk 3 0 0 0 ⟨#[]⟩ l
def numE (n:Int):Sexpr:=.mk 2 n 0 0 ⟨#[]⟩ []
def W0 (f:Bs) (l:List Bs):Sexpr:=YF (Yi f::l.map Yi)
theorem X6:I64 0:=by unfold I64;omega
theorem i64_2:I64 2:=by unfold I64;omega
theorem YeT:I64 3:=by unfold I64;omega
theorem Xq:Short ⟨#[]⟩:=by unfold Short;decide
theorem WS {l:List Sexpr} (h:Sl Yy fz A n c l):SxIs fz (sxV 3 0 ⟨#[]⟩ (.slice A n c)) (YF l):=
 ⟨_,rfl,Yg (x:=YF l) ⟨YeT,X6,X6,X6,Xq,h.is⟩⟩
theorem numE_is {n:Int} (h:I64 n):SxIs fz (sxV 2 n ⟨#[]⟩ (.slice none 0 0)) (numE n):=
 ⟨_,rfl,Yg (x:=numE n) ⟨i64_2,h,X6,X6,Xq,IsSl.nil⟩⟩
inductive EShape:Lx.Expr→Prop
 | num {e:Lx.Expr} (h:e.op=kNumber):EShape e
 | flu {e:Lx.Expr} (h:e.op=kFluent) (hn:e.args.length≤1000000000):EShape e
 | bin {e a b:Lx.Expr} (h1:e.op≠kNumber) (h2:e.op≠kFluent) (hk:e.kids=[a,b]) (ha:EShape a) (hb:EShape b):EShape e
def Wy:Nat→Lx.Expr→Sexpr
 | 0,_=>numE 0
 | s+1,e=>open Classical in if e.op=kNumber then numE e.n else if e.op=kFluent then W0 e.name e.args else YF (Yi e.op::e.kids.map (Wy s))
set_option maxHeartbeats 1000000 in
theorem YcF:∀ (s:Nat) {fz:FZ} {e:Lx.Expr} {va vk:Value},SizeOf.sizeOf e≤s→ExprR fz e va vk→EShape e→
 GFn prog 157 [.agg #[.string e.op,.string e.name,.int .i64 e.n,va,vk]] fz [] (fun v fz' H'=>H'=[]∧SxIs fz' v (Wy s e))
 | 0,_,e,_,_,hs,_,_=>by cases e;simp at hs
 | s+1,fz,e,va,vk,hs,h,hE=>by
  obtain ⟨A,n,c,rfl,ha⟩:=h.args
  obtain ⟨B,m,d,rfl,hk⟩:=h.kids
  refine zF Tryz.func157 Tryz.ntmps157 (fun w0=>?_)
  refine Yk (Yr (Ya Zz (Xc _ Zz Zz (fun g0=>?_))))
  refine zW ?_;intros
  rename_i g1
  refine zC (fun x1=>?_) (fun y1=>?_)
  ·refine zW ?_;intros
   refine X8 T (i:=0) rfl Zz Zz Zz Zz Zz (fun fz3 hle3 hf3=>⟨rfl,?_⟩)
   rw [Wy,if_pos (show e.op=kNumber from x1)]
   exact numE_is h.n
  ·refine zW ?_;intros
   refine zC (fun x2=>?_) (fun y2=>?_)
   ·have hn:e.args.length≤1000000000:=by
     cases hE with
     | num h=>exact absurd h y1
     | flu _ hn=>exact hn
     | bin _ h2=>exact absurd x2 h2
    refine zW ?_;intros
    refine Ya Zz (Ym [] [_,_] Zz Zz Zz (Ygy (f0:=e.name) h.name ha (by rw [← ha.len];exact hn)) (fun v fz2 H2 hle2 hR=>?_))
    obtain ⟨rfl,C,mm,cc,rfl,hsl⟩:=hR
    unfold sxV
    refine zW ?_;intros
    refine X8 T (i:=0) rfl Zz Zz Zz Zz Zz (fun fz3 hle3 hf3=>⟨rfl,?_⟩)
    rw [Wy,if_neg (show ¬e.op=kNumber from y1),if_pos (show e.op=kFluent from x2)]
    exact (WS hsl).mono hle3
   ·obtain ⟨a,b,hab,hsa,hsb⟩:∃ a b,e.kids=[a,b]∧EShape a∧EShape b:=by
     cases hE with
     | num h=>exact absurd h y1
     | flu h _=>exact absurd h y2
     | bin _ _ hk ha hb=>exact ⟨_,_,hk,ha,hb⟩
    have la:=Lx.Expr.kids_lt (x:=e) (k:=a) (by rw [hab];simp)
    have lb:=Lx.Expr.kids_lt (x:=e) (k:=b) (by rw [hab];simp)
    have l2:=hk.len
    rw [hab] at l2
    simp at l2
    subst l2
    refine zW ?_;intros
    refine Wp.drawK (Hq:=[_,_]) T.mixed Zj Zj Zb ?_
    refine zW ?_;intros
    refine Yf ?_
    refine zW ?_;intros
    ((refine zG ?_);refine Yax T 0 Zz Zz Zz Zz Zz Zz hk (by first | rfl | omega) (by rw [hab];rfl:e.kids[0]?=some a) (fun p hp=>?_))
    refine zL hp ?_
    intro cs hcs
    obtain ⟨wa,wk,rfl,hRa⟩:=YT hcs
    refine Yf ?_
    refine zW ?_;intros
    ((refine zG ?_);refine Yax T 1 Zz Zz Zz Zz Zz Zz hk (by first | rfl | omega) (by rw [hab];rfl:e.kids[1]?=some b) (fun p2 hp2=>?_))
    refine zL hp2 ?_
    intro cs2 hcs2
    obtain ⟨za,zk,rfl,hRb⟩:=YT hcs2
    refine Yf ?_
    refine Yf ?_
    refine Yf ?_
    refine Yf ?_
    refine YM ⟨by kernel_rfl,?_⟩
    refine Ch.qk (⟨Le.refl _,Zx⟩) (Yw Zz Zz (YaX (s:=e.op)) ?_)
    refine Yt (Ym [] [_,_] Zz Zz Zz (YcF s (e:=a) Zi hRa hsa) (fun v2 fz2 H2 hle2 hR2=>?_))
    obtain ⟨rfl,cs3,rfl,hr3⟩:=hR2
    obtain ⟨vk3,rfl,hR3⟩:=Yh hr3
    refine ⟨(⟨hle2,Zp2⟩),?_⟩
    refine Yt (Ym [] [_,_] Zz Zz Zz (YcF s (e:=b) Zi (hRb.mono hle2) hsb) (fun v4 fz4 H4 hle4 hR4=>?_))
    obtain ⟨rfl,cs5,rfl,hr5⟩:=hR4
    obtain ⟨vk5,rfl,hR5⟩:=Yh hr5
    refine ⟨(⟨(hle2.trans hle4),Zp2⟩),?_⟩
    refine Yt (Yc T (cs:=Yq e.op++ [.int .i64 (Wy s a).kind,.int .i64 (Wy s a).value,.int .i64 (Wy s a).line,.int .i64 (Wy s a).column,.string (Wy s a).text,vk3]++ [.int .i64 (Wy s b).kind,.int .i64 (Wy s b).value,.int .i64 (Wy s b).line,.int .i64 (Wy s b).column,.string (Wy s b).text,vk5]) Zz Zz Zz Zz Zz Zz Zz Zz (fun gb=>⟨(⟨(hle2.trans hle4),Zp3⟩),?_⟩))
    refine Ch.qk (⟨(hle2.trans hle4),Zp3⟩) (Yw Zz Zz Ycf ?_)
    unfold sxV
    refine Ch.hard0 Zj (YN T Zz Zz Zz Zz Zz Zz ?_)
    refine Ch.done ?_
    refine zW ?_;intros
    refine X8 T (i:=1) rfl Zz Zz Zz Zz Zz (fun fz3 hle3 hf3=>⟨rfl,?_⟩)
    rw [Wy,if_neg (show ¬e.op=kNumber from y1),if_neg (show ¬e.op=kFluent from y2),hab]
    obtain ⟨A',c',he,hsl⟩:=Yga (β:={p:Sexpr × List Value // p.2.length=6}) (L:=Yy) (f:=fun p=>p.1.2) (g:=fun p=>p.1.1) (e:=57) (n:=3) (v:=.slice (some ⟨gb,0,none⟩) 3 3)
     (l:=[⟨(Yi e.op,Yq e.op),rfl⟩,⟨(Wy s a,[.int .i64 (Wy s a).kind,.int .i64 (Wy s a).value,.int .i64 (Wy s a).line,.int .i64 (Wy s a).column,.string (Wy s a).text,vk3]),rfl⟩,⟨(Wy s b,[.int .i64 (Wy s b).kind,.int .i64 (Wy s b).value,.int .i64 (Wy s b).line,.int .i64 (Wy s b).column,.string (Wy s b).text,vk5]),rfl⟩]) (fun p=>p.2) (OwnS.of_block (size:=6) rfl Zh) (fun p hp=>hf3 p (by simp at hp;subst hp;exact .head _)) rfl Zh (fun x hx=>by
      simp only [List.mem_cons,List.not_mem_nil,or_false] at hx
      rcases hx with rfl | rfl | rfl
      ·exact Yu h.op
      ·exact Yg (x:=Wy s a) (hR3.mono (hle4.trans hle3))
      ·exact Yg (x:=Wy s b) (hR5.mono hle3))
    injection he with he1 he2 he3
    subst he1 he3
    exact WS hsl
theorem YdL:∀ (s s':Nat) (e:Lx.Expr),SizeOf.sizeOf e≤s→SizeOf.sizeOf e≤s'→Wy s e=Wy s' e
 | 0,_,e,h,_=>by cases e;simp at h
 | _+1,0,e,_,h=>by cases e;simp at h
 | s+1,s'+1,e,h,h'=>by
  have hk:e.kids.map (Wy s)=e.kids.map (Wy s'):=List.map_congr_left (fun k hk=>YdL s s' k (by have:=Lx.Expr.kids_lt hk;omega) (by have:=Lx.Expr.kids_lt hk;omega))
  simp only [Wy,hk]
def X3 (e:Lx.Expr):Sexpr:=Wy (SizeOf.sizeOf e) e
open Classical in
theorem YjX (e:Lx.Expr):X3 e=if e.op=kNumber then numE e.n else if e.op=kFluent then W0 e.name e.args else YF (Yi e.op::e.kids.map X3):=by
 have hk:e.kids.map (Wy (SizeOf.sizeOf e))=e.kids.map X3:=List.map_congr_left (fun k hk=>YdL _ _ k (by have:=Lx.Expr.kids_lt hk;omega) (Zs _))
 rw [X3,YdL _ (SizeOf.sizeOf e+1) e (Zs _) Zi,Wy,hk]
variable {va vk:Value}
theorem WC {e:Lx.Expr} (h:ExprR fz e va vk) (hE:EShape e):
 GFn prog 157 [.agg #[.string e.op,.string e.name,.int .i64 e.n,va,vk]] fz [] (fun v fz' H'=>H'=[]∧SxIs fz' v (X3 e)):=YcF _ (Zs _) h hE
end Go.Proofs.YtfjopfinkdhmaaaGreatDoor
