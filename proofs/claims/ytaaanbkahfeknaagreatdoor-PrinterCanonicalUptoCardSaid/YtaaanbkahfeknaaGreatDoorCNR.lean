/- The texts EvT, EvU, EvW, EvX, EvY, laid together. Conditions: none. -/
import Derived.Test.YtaaanbkahfeknaaGreatDoorCNQ
set_option linter.all false
namespace Go.Ev
open Go.Lx Go.RowKit
variable {v:Value} {H:HP} {fz:FZ} {n i:Nat} {o:Oper}
theorem Yjx {a:AV} (h:ofV1 v=some a) (ν:Nu):gv ν a=some v:=by
 cases v with
 | bool b=>injection h with h;subst h;rfl
 | int k n=>injection h with h;subst h;simp [gv]
 | string s=>
  injection h with h;subst h
  have hall:(s.data.toList.map UInt8.toNat).all (fun n=>Nat.blt n 256)=true:=by
   rw [List.all_eq_true];intro n hn;obtain ⟨b,_,rfl⟩:=List.mem_map.1 hn;rw [Nat.blt_eq];exact b.toNat_lt
  simp only [gv];rw [if_pos hall]
  congr 2
  apply ByteArray.ext;apply Array.ext';simp [bs,Function.comp_def]
 | pointer p=>
  cases p with
  | none=>injection h with h;subst h;simp [gv,gA]
  | some _=>cases h
 | slice p n c=>
  cases p with
  | none=>
   cases n with
   | zero=>
    cases c with
    | zero=>injection h with h;subst h;simp [gv,gA,gC]
    | succ _=>cases h
   | succ _=>cases h
  | some _=>cases h
 | map p=>
  cases p with
  | none=>injection h with h;subst h;simp [gv,gM]
  | some _=>cases h
 | nilFunc=>injection h with h;subst h;simp [gv]
 | nilIface=>injection h with h;subst h;simp [gv]
 | _=>cases h
theorem Yjw:∀ {l:List Value} {as1:List AV},ofVs l=some as1->∀ ν,gvs ν as1=some l
 | [],as1,h,ν=>by injection h with h;subst h;simp [gvs]
 | v::r,as1,h,ν=>by
  simp only [ofVs] at h;cases h1:ofV1 v with
  | none=>simp [h1] at h
  | some a=>
   cases h2:ofVs r with
   | none=>simp [h1,h2] at h
   | some l=>
    simp only [h1,h2] at h;injection h with h;subst h
    exact YdB (Yjx h1 ν) (Yjw h2 ν)
theorem ofV_s {a:AV} (h:ofV v=some a) (ν:Nu):gv ν a=some v:=by
 cases v with
 | agg cs=>
  simp only [ofV] at h;cases h1:ofVs cs.toList with
  | none=>simp [h1] at h
  | some l=>
   simp [h1] at h;subst h;simp only [gv,Yjw h1 ν,Option.map_some]
 | tuple cs=>
  simp only [ofV] at h;cases h1:cs.toList with
  | nil=>
   simp [h1] at h;subst h;have:cs=#[]:=Array.ext' h1;subst this;simp [gv,gvs]
  | cons x r=>simp [h1] at h
 | _=>exact Yjx (by simpa only [ofV] using h) ν
theorem gv_fn (ν:Nu) (f:FuncId):gv ν (.f f [] [])=some (.func (.func f) #[] #[]):=by simp [gv,gvs]
theorem ER.rr {ν:Nu} {e:Tr AV} {σ:Env} (h:ER ν e σ):RR ν (rdo e) (rd σ):=fun x a hx=>by
 cases x with
 | tmp t=>
  obtain ⟨v,h1,h2⟩:=h t a hx;exact ⟨v,h1,h2⟩
 | const c=>exact ⟨c,ofV_s hx ν,rfl⟩
 | func f=>injection hx with hx;subst hx;exact ⟨_,gv_fn ν f,rfl⟩
 | global g=>cases hx
theorem ER.mono {ν ν':Nu} {e:Tr AV} {σ:Env} (h:ER ν e σ) (hle:ν.le ν'):ER ν' e σ:=fun i a hi=>by
 obtain ⟨v,h1,h2⟩:=h i a hi;exact ⟨v,gv_mono hle _ _ h1,h2⟩
theorem ER.put {ν:Nu} {e e':Tr AV} {σ:Env} {d:Nat} {a:AV} (h:ER ν e σ) (hu:e.upd d (some a) e') (hv:gv ν a=some v):ER ν e' ((d,v)::σ):=fun i b hi=>by
 rw [hu i] at hi;split at hi
 ·rename_i hd;subst hd;injection hi with hi;subst hi
  exact ⟨v,hv,Ys _ _ _⟩
 rename_i hd;obtain ⟨u,h1,h2⟩:=h i b hi;exact ⟨u,h1,by rw [Yn _ _ (fun he=>hd he.symm)];exact h2⟩
theorem Yef {ν:Nu} {s:St} {d:Option Nat} {a:AV} {σ:Env} {c:St->Bool} (h:ER ν s.env σ) (hv:gv ν a=some v) (hf:setE s d a c=true):
 ∃ e,ER ν e (putT d v σ)/\(∀ x,d=some x->x<s.nt)/\c ⟨e,s.heap,s.nx,s.nt⟩=true:=by
 cases d with
 | none=>exact ⟨s.env,h,(fun x hx=>by cases hx),hf⟩
 | some d=>
  obtain ⟨hlt,hf⟩:=YE (show fT (Nat.blt d s.nt) (YS envd s.env d (some a) fun e=>c ⟨e,s.heap,s.nx,s.nt⟩)=true from hf);obtain ⟨e,hu,hc⟩:=YC _ _ _ _ _ hf;rw [Nat.blt_eq] at hlt;exact ⟨e,h.put hu hv,fun x hx=>by injection hx with hx;subst hx;exact hlt,hc⟩
section
variable {P:Program} {tT:TT} {T:Tab P}
variable {H:HP}
theorem HR.nodup_frame {ν:Nu} {h:Tr AO} {Fm Hx:HP} (hh:HR tT ν h H Fm) (hnd:((Hx++H).map Prod.fst).Nodup):HR tT ν h (Hx++H) (Hx++Fm):=by
 refine ⟨fun id o ho=>?_,hh.inj,fun p hp=>?_,hh.cap⟩
 ·obtain ⟨b,x,h1,h2,h3⟩:=hh.own id o ho;exact ⟨b,x,h1,h2,List.mem_append.2 (.inr h3)⟩
 rcases List.mem_append.1 hp with hp | hp
 ·refine ⟨List.mem_append.2 (.inl hp),fun id o ho hc=>?_⟩;obtain ⟨b,x,h1,h2,h3⟩:=hh.own id o ho;rw [h1] at hc;injection hc with hc
  rw [List.map_append,List.nodup_append] at hnd;exact hnd.2.2 p.1 (List.mem_map.2 ⟨p,hp,rfl⟩) b (List.mem_map.2 ⟨(b,x),h3,rfl⟩) hc.symm
 exact ⟨List.mem_append.2 (.inr (hh.fm p hp).1),(hh.fm p hp).2⟩
theorem HR.unframe {ν:Nu} {h:Tr AO} {H' Fm Hx:HP} (hh:HR tT ν h H' (Hx++Fm)) (hnd:(H'.map Prod.fst).Nodup) (hnx:(Hx.map Prod.fst).Nodup) (hfx:∀ p∈Fm,∀ q∈Hx,p.1≠q.1):
 ∃ H1,H'.Perm (Hx++H1)/\HR tT ν h H1 Fm:=by
 have hsub:∀ p∈Hx,p∈H':=fun p hp=>(hh.fm p (List.mem_append.2 (.inl hp))).1
 have key:∀ (Hx H':HP),(H'.map Prod.fst).Nodup->(Hx.map Prod.fst).Nodup->(∀ p∈Hx,p∈H')->∃ H1,H'.Perm (Hx++H1):=by
  intro Hx
  induction Hx with
  | nil=>intro H' _ _ _;exact ⟨H',Zr _⟩
  | cons x r ih=>
   intro H' h1 h2 h3;obtain ⟨s,t,rfl⟩:=List.append_of_mem (h3 x (by simp));have hp:(s++x::t).Perm (x::(s++t)):=List.perm_middle;have h1':=(hp.map Prod.fst).nodup h1;simp only [List.map_cons,List.nodup_cons] at h1' h2;obtain ⟨H1,hp1⟩:=ih (s++t) h1'.2 h2.2 (fun p hp'=>by
    have:=hp.subset (h3 p (by simp [hp']));cases this with
    | head=>exact absurd (List.mem_map.2 ⟨_,hp',rfl⟩) h2.1
    | tail _ h=>exact h)
   exact ⟨H1,hp.trans (hp1.cons x)⟩
 obtain ⟨H1,hp⟩:=key Hx H' hnd hnx hsub;refine ⟨H1,hp,?_⟩;have hh':=hh.perm hp;have hmem:∀ p∈Hx++H1,(∀ q∈Hx,p.1≠q.1)->p∈H1:=fun p hp hne=>by
  rcases List.mem_append.1 hp with h | h
  ·exact absurd rfl (hne p h)
  exact h
 refine ⟨fun id o ho=>?_,hh'.inj,fun p hp'=>⟨hmem p (hh'.fm p (List.mem_append.2 (.inr hp'))).1 (fun q hq=>hfx p hp' q hq),(hh'.fm p (List.mem_append.2 (.inr hp'))).2⟩,hh'.cap⟩;obtain ⟨b,x,h1,h2,h3⟩:=hh'.own id o ho;refine ⟨b,x,h1,h2,hmem _ h3 fun q hq hc=>?_⟩;exact (hh'.fm q (List.mem_append.2 (.inl hq))).2 id o ho (by rw [h1];exact congrArg some hc)
variable {fz:FZ} {o:Oper}
theorem Ycc {cx:Cx} {ν:Nu} {h:Tr AO} {nx:Nat} {Fm:HP} {c:KC} {r:Operand->Option Value} (hh:HR tT ν h H Fm)
 (hd:∀ H Fm,HR tT ν h H Fm->Does P cx o r fz H (YkS tT ν nx Fm c fz)):YdY P cx o r fz H (YkS tT ν nx Fm c fz):=by
 intro Hx;refine Does.of fun ρ w hr hi=>?_
 have hnd:=hi.hp.nd;have hfx:∀ p∈Fm,∀ q∈Hx,p.1≠q.1:=fun p hp q hq hc=>by
  rw [List.map_append,List.nodup_append] at hnd;exact hnd.2.2 q.1 (List.mem_map.2 ⟨q,hq,rfl⟩) p.1 (List.mem_map.2 ⟨p,(hh.fm p hp).1,rfl⟩) hc.symm
 have hnx:(Hx.map Prod.fst).Nodup:=by
  rw [List.map_append,List.nodup_append] at hnd;exact hnd.1
 refine ((hd _ _ (hh.nodup_frame hnd)).run ρ w hr hi).mono fun v w' ⟨fz',H',hi',he,ν',av,h',nx',g1,g2,g3,g4,g5,g6⟩=>?_
 obtain ⟨H1,hp,g7⟩:=g5.unframe hi'.hp.nd hnx hfx;exact ⟨fz',_,hi'.perm hp.symm,H1,rfl,he,ν',av,h',nx',g1,g2,g3,g4,g7,g6⟩
theorem can {f:FuncId} {args:List Value} {R:Value->FZ->HP->Prop} (h:GFn P f args fz H R):XY P f:=by unfold GFn at h;exact h.1
def RK (tT:TT) (fz:FZ) (ν:Nu) (nx nt:Nat) (Fm:HP) (k:CK) (v:Value) (fz':FZ) (H':HP):Prop:=
 fz'=fz/\∃ ν' av h' nx' e,ν.le ν'/\nx<=nx'/\gv ν' av=some v/\HR tT ν' h' H' Fm/\Yac ν' nx'/\e.get 0=some av/\k .ret ⟨e,h',nx',nt⟩=true
def Yfo (P:Program) (tT:TT) (g:FuncId) (args:List AV) (s:St) (k:CK):Prop:=
 ∀ fz ν vs H Fm,gvs ν args=some vs->HR tT ν s.heap H Fm->Yac ν s.nx->GFn P g vs fz H (RK tT fz ν s.nx s.nt Fm k)
theorem sDo_s {cx:Cx} {ih:IH} {ν:Nu} {Fm:HP} {s:St} {c:KC} {ar:RD} {r:Operand->Option Value} {x:OX} (_hT:TA tT T) (hcall:∀ g args s k,ih (.call g args) s k=true->Yfo P tT g args s k)
 (hx:XS P tT o.op x) (hr:RR ν ar r) (hh:HR tT ν s.heap H Fm) (hfr:Yac ν s.nx) (hf:sDo x tT ih ar s c=true):YdY P cx o r fz H (YkS tT ν s.nx Fm c fz):=by
 obtain ⟨dst,op,ty,pos,af,gd⟩:=o;cases x with
 | q f=>
  refine Ycc hh fun H Fm hh=>?_
  obtain ⟨av,v,h1,h2,h3⟩:=hx cx fz ν ar r s.heap H Fm _ dst ty pos af gd hr hh hf;exact Does.of fun ρ w hρ hi=>(h3 ρ w hρ hi).mono fun v' w' ⟨he,hfr'⟩=>⟨fz,H,hi.quiet hfr',rfl,ν,av,s.heap,s.nx,Nu.le.refl _,Zs _,h1,by rw [he];exact h2,hh,hfr⟩
 | l f=>
  refine Ycc hh fun H Fm hh=>?_
  exact ks_new (f:=f) hx ν ar r s.heap s.nx H Fm c dst ty pos af gd hr hh hfr hf
 | k f=>
  refine Ycc hh fun H Fm hh=>?_
  exact hx cx fz ν ar r s.heap s.nx H Fm c dst ty pos af gd hr hh hfr hf
 | call f xs=>
  obtain ⟨ats,hop⟩:=hx;have hop':op=.call {callee:=.value f,args:=xs.toArray,argTypes:=ats}:=hop;subst hop';have hf':sVal f xs ih ar s c=true:=hf;unfold sVal at hf';obtain ⟨a,ha,hf'⟩:=Yf hf';obtain ⟨g,hg,hf'⟩:=Yf hf';obtain ⟨as1,has,hf'⟩:=Yf hf';rw [Wq] at hf';obtain ⟨u,h1,h2⟩:=hr f a ha;obtain ⟨us,h3,h4⟩:=hr.all has;obtain ⟨fs,cs,h5,h6,rfl⟩:=Yfe hg h1;have hq:=hcall _ _ _ _ hf' fz ν _ H Fm (We h5 (We h3 h6)) hh hfr;intro Hx;refine Does.of fun ρ w hρ hi=>?_
  have hi2:=hi.perm (Zq:(H++Hx).Perm (Hx++H));rw [YcT hρ h2 h4 (vs:=fs++(us++cs)) (by simp) (can hq)];refine (hq.out w ⟨hi2.hp.keep,fun p hp=>hi2.hp.own p (by simp [hp]),?_⟩).mono fun e w' ⟨v,fz',H',he,hR,g1,g2,g3⟩=>⟨v,he,fz',_,(hi2.called g1 g2 g3).perm (Zq:(Hx++H').Perm (H'++Hx)),H',rfl,?_⟩
  ·have:=hi2.hp.nd;rw [List.map_append,List.nodup_append] at this;exact this.1
  obtain ⟨e1,ν',av,h',nx',e',q1,q2,q3,q4,q5,q6,q7⟩:=hR;refine ⟨e1,ν',av,h',nx',q1,q2,?_,q3,q4,q5⟩;simp only [q6] at q7;exact q7
 | cv=>cases hf
 | bad=>cases hf
theorem YdY.does {cx:Cx} {r:Operand->Option Value} {K:Value->FZ->HP->Prop} (h:YdY P cx o r fz H K):Does P cx o r fz H K:=
 Does.of fun ρ w hr hi=>((h []).run ρ w hr (by simpa using hi)).mono fun v w' ⟨fz',H',hi',H1,e,hk⟩=>⟨fz',H',hi',by simp at e;subst e;exact hk⟩
end
theorem oEq_iff:∀ {a b:Option (Nat × Nat)},oEq a b=true->a=b
 | none,none,_=>rfl
 | none,some _,h=>by cases h
 | some _,none,h=>by cases h
 | some (a,b),some (c,d),h=>by
  simp only [oEq,Bool.and_eq_true] at h;rw [Nat.eq_of_beq_eq_true h.1,Nat.eq_of_beq_eq_true h.2]
mutual
theorem avEq_iff:∀ (a b:AV),avEq a b=true->a=b
 | .b x,b,h=>by
  cases b with
  | b y=>simp only [avEq,beq_iff_eq] at h;rw [h]
  | _=>cases h
 | .i k x,b,h=>by
  cases b with
  | i k' y=>simp only [avEq,Bool.and_eq_true,iEq_eq,decide_eq_true_iff] at h;rw [kEq_iff h.1,h.2]
  | _=>cases h
 | .s x,b,h=>by
  cases b with
  | s y=>simp only [avEq,sEq_iff] at h;rw [h]
  | _=>cases h
 | .p x,b,h=>by
  cases b with
  | p y=>simp only [avEq] at h;rw [oEq_iff h]
  | _=>cases h
 | .sl a n c s,b,h=>by
  cases b with
  | sl a' n' c' s'=>
   simp only [avEq,Bool.and_eq_true] at h;rw [oEq_iff h.1,Nat.eq_of_beq_eq_true h.2.1,Nat.eq_of_beq_eq_true h.2.2.1,oEq_iff h.2.2.2]
  | _=>cases h
 | .m x,b,h=>by
  cases b with
  | m y=>
   cases x with
   | none=>
    cases y with
    | none=>rfl
    | some _=>cases h
   | some x=>
    cases y with
    | none=>cases h
    | some y=>simp only [avEq] at h;rw [Nat.eq_of_beq_eq_true h]
  | _=>cases x<;>cases h
 | .f g x y,b,h=>by
  cases b with
  | f g' x' y'=>
   simp only [avEq,Bool.and_eq_true] at h;rw [Nat.eq_of_beq_eq_true h.1,avsEq_iff _ _ h.2.1,avsEq_iff _ _ h.2.2]
  | _=>cases h
 | .nf,b,h=>by
  cases b with
  | nf=>rfl
  | _=>cases h
 | .ifc t v,b,h=>by
  cases b with
  | ifc t' v'=>
   simp only [avEq,Bool.and_eq_true] at h;rw [Nat.eq_of_beq_eq_true h.1,avEq_iff _ _ h.2]
  | _=>cases h
 | .ni,b,h=>by
  cases b with
  | ni=>rfl
  | _=>cases h
 | .agg x,b,h=>by
  cases b with
  | agg y=>simp only [avEq] at h;rw [avsEq_iff _ _ h]
  | _=>cases h
 | .tup x,b,h=>by
  cases b with
  | tup y=>simp only [avEq] at h;rw [avsEq_iff _ _ h]
  | _=>cases h
theorem avsEq_iff:∀ (a b:List AV),avsEq a b=true->a=b
 | [],b,h=>by
  cases b with
  | nil=>rfl
  | cons _ _=>cases h
 | x::r,b,h=>by
  cases b with
  | nil=>cases h
  | cons y q=>
   simp only [avsEq,Bool.and_eq_true] at h;rw [avEq_iff _ _ h.1,avsEq_iff _ _ h.2]
end
theorem YhL:∀ {a b:List (AV × AV × Nat)},esEq a b=true->a=b
 | [],[],_=>rfl
 | [],_::_,h=>by cases h
 | _::_,[],h=>by cases h
 | (a,b,n)::r,(a',b',n')::q,h=>by
  simp only [esEq,Bool.and_eq_true] at h;rw [avEq_iff _ _ h.1,avEq_iff _ _ h.2.1,Nat.eq_of_beq_eq_true h.2.2.1,YhL h.2.2.2]
theorem Yhs:∀ {a b:Option Nat},onEq a b=true->a=b
 | none,none,_=>rfl
 | none,some _,h=>by cases h
 | some _,none,h=>by cases h
 | some a,some b,h=>by rw [Nat.eq_of_beq_eq_true h]
theorem YhU {a b:AO} (h:aoEq a b=true):a=b:=by
 cases a with
 | cells x e s f=>
  cases b with
  | cells y e' s' f'=>
   simp only [aoEq,Bool.and_eq_true,beq_iff_eq] at h;rw [avsEq_iff _ _ h.1,Nat.eq_of_beq_eq_true h.2.1,Yhs h.2.2.1,h.2.2.2]
  | _=>cases h
 | map x c=>
  cases b with
  | map y c'=>
   simp only [aoEq,Bool.and_eq_true] at h;rw [YhL h.1,Nat.eq_of_beq_eq_true h.2]
  | _=>cases h
 | mit m a l z=>
  cases b with
  | mit m' a' l' b'=>
   simp only [aoEq,Bool.and_eq_true,sEq_iff] at h;rw [Yhs h.1,Nat.eq_of_beq_eq_true h.2.1,h.2.2.1,Nat.eq_of_beq_eq_true h.2.2.2]
  | _=>cases h
def QE (tT:TT) (fz:FZ) (ν:Nu) (nx nt:Nat) (Fm:HP) (k:CK):QQ:=fun x σ' fz' H'=>
 fz'=fz/\∃ ν' s',ν.le ν'/\nx<=s'.nx/\s'.nt=nt/\ER ν' s'.env σ'/\HR tT ν' s'.heap H' Fm/\Yac ν' s'.nx/\k x s'=true
def Ygc (P:Program) (tT:TT) (c:Code) (s:St) (k:CK):Prop:=∀ cx fz ν0 nx0 ν σ H Fm,ν0.le ν->nx0<=s.nx->ER ν s.env σ->HR tT ν s.heap H Fm->Yac ν s.nx->Wp P cx s.nt c σ fz H (QE tT fz ν0 nx0 s.nt Fm k)
def MOps (P:Program) (tT:TT) (all l:List Oper) (s:St) (k:CK):Prop:=∀ cx fz ν0 nx0 ν σ H Fm,ν0.le ν->nx0<=s.nx->ER ν s.env σ->HR tT ν s.heap H Fm->Yac ν s.nx->Seq P cx s.nt all.toArray l σ fz H (QE tT fz ν0 nx0 s.nt Fm k)
theorem QE.of {tT:TT} {ν0 ν:Nu} {nx0:Nat} {σ:Env} {Fm:HP} {s:St} {k:CK} {x:Exit} (hle:ν0.le ν) (hnx:nx0<=s.nx) (he:ER ν s.env σ) (hh:HR tT ν s.heap H Fm) (hfr:Yac ν s.nx) (hk:k x s=true):QE tT fz ν0 nx0 s.nt Fm k x σ fz H:=
 ⟨rfl,ν,s,hle,hnx,rfl,he,hh,hfr,hk⟩
section
variable {P:Program} {tT:TT} {T:Tab P}
variable {n:Nat} {o:Oper}
theorem Seq.stepG {cx:Cx} {ops:Array Oper} {rest:List Oper} {σ:Env} {Q:QQ} (hw:∀ a,Sat n σ a->Region.wanted o (yielded ops a.tmps)=true) 
 (h:Does P cx o (rd σ) fz H fun v fz' H'=>(∀ d,o.dst=some d->d<n)/\Seq P cx n ops rest (putT o.dst v σ) fz' H' Q):Seq P cx n ops (o::rest) σ fz H Q:=
 Seq.of fun a w hs hi=>by
  unfold wpList;rw [if_pos (hw a hs)];refine .inl (Xk.wp ((h.run a.eval w hs.reads hi).mono fun v w' ⟨fz',H',h1,hd,h2⟩=>?_));refine h2.run _ _ ?_ h1;cases hdst:o.dst with
  | none=>exact hs
  | some d=>exact hs.put d (hd d hdst) v
theorem YgZ {cx:Cx} {ops:Array Oper} {rest:List Oper} {σ:Env} {Q:QQ} (hw:∀ a,Sat n σ a->Region.wanted o (yielded ops a.tmps)=false) (hd:∀ d,o.dst=some d->d<n)
 (h:Seq P cx n ops rest (putT o.dst undef σ) fz H Q):Seq P cx n ops (o::rest) σ fz H Q:=
 Seq.of fun a w hs hi=>by
  unfold wpList;rw [if_neg (by rw [hw a hs];simp)];refine h.run _ _ ?_ hi;cases hdst:o.dst with
  | none=>exact hs
  | some d=>exact hs.put d (hd d hdst) undef
variable {b:Bool}
theorem Ykd {ν:Nu} {a:AV} {c:Bool} (h:gateV a b=some c) (hv:gv ν a=some v):(∃ x,v=.bool x/\c=(x==b))\/(v=undef/\c=false):=by
 cases a with
 | b x=>
  injection h with h;subst h
  simp only [gv] at hv;injection hv with hv
  exact .inl ⟨x,hv.symm,rfl⟩
 | tup l=>
  cases l with
  | nil=>
   injection h with h;subst h
   simp only [gv,gvs] at hv;injection hv with hv
   exact .inr ⟨hv.symm,rfl⟩
  | cons x r=>cases h
 | _=>cases h
theorem gate_s {ν:Nu} {all:List Oper} {env:Tr AV} {σ:Env} {c:Bool} (he:ER ν env σ) (h:gate all env o.guard=some c):∀ a,Sat n σ a->Region.wanted o (yielded all.toArray a.tmps)=c:=fun a hs=>by
 unfold Region.wanted;cases hg:o.guard with
 | none=>rw [hg] at h;injection h
 | some jb=>
  obtain ⟨j,b⟩:=jb;rw [hg] at h;obtain ⟨oj,hoj,h⟩:=YB (show (oB (at_ all j) fun o=>oB o.dst fun d=>oB (env.get d) fun v=>gateV v b)=some c from h);obtain ⟨d,hd,h⟩:=YB h;obtain ⟨av,hav,h⟩:=YB h;obtain ⟨v,h1,h2⟩:=he d av hav;have hj:(all.toArray[j]?).bind (·.dst)=some d:=by
   have:=Ybn hoj;simp [this,hd]
  have hslot:=hs.slot d v h2;rcases Ykd h h1 with ⟨x,rfl,rfl⟩ | ⟨rfl,rfl⟩
  ·simp only;have:yielded all.toArray a.tmps j=some x:=by
    unfold yielded;rw [hj];simp [hslot]
   rw [this];cases x<;>cases b<;>rfl
  simp only;have:yielded all.toArray a.tmps j=none:=by
   unfold yielded;rw [hj];simp [hslot,undef]
  rw [this];rfl
theorem sOps_s {ih:IH} {all l:List Oper} {s:St} {k:CK} (hT:TA tT T) (hcall:∀ g args s k,ih (.call g args) s k=true->Yfo P tT g args s k) (hops:∀ all l s k,ih (.ops all l) s k=true->MOps P tT all l s k)
 (hf:sOps all l tT ih s k=true):MOps P tT all l s k:=fun cx fz ν0 nx0 ν σ H Fm hle hnx he hh hfr=>by
 cases l with
 | nil=>exact Seq.nil (QE.of hle hnx he hh hfr hf)
 | cons o r=>
  obtain ⟨b,hb,hf⟩:=Yf (show (fO (gate all s.env o.guard) fun b=>br (setE s o.dst (.tup []) fun s=>ih (.ops all r) s k) (sGo tT ih all o r s k) b)=true from hf);have hw:=gate_s (n:=s.nt) he hb;cases b with
  | false=>
   rw [YF] at hf;obtain ⟨e,h1,h2,h3⟩:=Yef (v:=undef) he (by simp [gv,gvs,undef]) hf;exact YgZ hw h2 (hops _ _ _ _ h3 cx fz ν0 nx0 ν _ H Fm hle hnx h1 hh hfr)
  | true=>
   rw [Y4] at hf;obtain ⟨x,hx,hxs,_⟩:=oxT_s hT (show (oxT tT o.op fun x=>sDo x tT ih (rdo s.env) s fun v h nx=>setE ⟨s.env,h,nx,s.nt⟩ o.dst v fun s=>ih (.ops all r) s k)=true from hf);have hdo:=YdY.does (sDo_s (cx:=cx) (fz:=fz) hT hcall hxs he.rr hh hfr hx);refine Seq.stepG hw ?_;refine Does.of fun ρ w hr hi=>(hdo.run ρ w hr hi).mono fun v w' ⟨fz',H',hi',e1,ν',av,h',nx',g1,g2,g3,g4,g5,g6⟩=>⟨fz',H',hi',?_⟩
   subst e1;obtain ⟨e,h1,h2,h3⟩:=Yef (s:=⟨s.env,h',nx',s.nt⟩) (he.mono g1) g4 g3;exact ⟨h2,hops _ _ _ _ h3 cx fz' ν0 nx0 ν' _ H' Fm (hle.trans g1) (Nat.le_trans hnx g2) h1 g5 g6⟩
theorem args_s {ν:Nu}:∀ {l:List AV} {vs:List Value} {i:Nat} {t:Tr AV} {c:Tr AV->Bool},gvs ν l=some vs->args_ l i t c=true->∃ t',c t'=true/\∀ j,t'.get j=if i<=j/\j<i+l.length then l[j - i]? else t.get j
 | [],vs,i,t,c,_,h=>⟨t,h,fun j=>by rw [if_neg (fun hc=>by simp at hc;omega)]⟩
 | a::r,vs,i,t,c,hv,h=>by
  obtain ⟨x,l,_,hl,rfl⟩:=XA hv;obtain ⟨t1,hu,h1⟩:=YC _ _ _ _ _ (show YS envd t i (some a) (fun t=>args_ r (Nat.succ i) t c)=true from h);obtain ⟨t',hc,hg⟩:=args_s hl h1;refine ⟨t',hc,fun j=>?_⟩;rw [hg j];by_cases h2:Nat.succ i<=j/\j<Nat.succ i+r.length
  ·rw [if_pos h2,if_pos (by simp;omega)];rw [show j - i=(j - Nat.succ i)+1 from by omega];simp
  rw [if_neg h2,hu j];by_cases h3:j=i
  ·subst h3;rw [if_pos rfl,if_pos (by simp)];simp
  rw [if_neg h3,if_neg (by simp;omega)]
theorem Ycz:∀ (vs:List Value) (k i:Nat) (v:Value),vs[i]?=some v->lk (YdH vs k) (k+i)=some v
 | [],_,_,_,h=>by simp at h
 | u::r,k,0,v,h=>by simp at h;subst h;unfold YdH;exact Ys _ _ _
 | u::r,k,i+1,v,h=>by
  unfold YdH;rw [Yn _ _ Zi];have:=Ycz r (k+1) i v (by simpa using h)
  rwa [show k+1+i=k+(i+1) from by omega] at this
theorem args_er {ν:Nu} {l:List AV} {vs:List Value} {c:Tr AV->Bool} (hv:gvs ν l=some vs) (h:args_ l 0 .lf c=true):∃ e,ER ν e (YdH vs 0)/\c e=true:=by
 obtain ⟨e,hc,hg⟩:=args_s hv h;refine ⟨e,fun i a ha=>?_,hc⟩;rw [hg i] at ha;split at ha
 ·simp only [Nat.sub_zero] at ha;obtain ⟨v,h1,h2⟩:=Yca hv ha;refine ⟨v,h2,?_⟩;have:=Ycz vs 0 i v h1
  rwa [Nat.zero_add] at this
 cases ha
variable {t:TypeId}
theorem ldv_s (hT:TA tT T) {cx:Cx} {ν:Nu} {h:Tr AO} {Fm:HP} {a:Nat × Nat} {b:Nat} {c:QC} (hh:HR tT ν h H Fm) (hb:ν.blk a.1=some b) (hf:ldv tT h t a c=true):
 ∃ av v,c av=true/\gv ν av=some v/\∀ w,Inv cx fz H w->(loadVar t ⟨b,a.2,none⟩).run P w=.ok v w:=by
 obtain ⟨o,ho,hf⟩:=Yf hf;obtain ⟨cs,hcs,hf⟩:=Yf hf;obtain ⟨Y,hY,hf⟩:=Yf hf;obtain ⟨X,hX,hR⟩:=hT t Y hY;obtain ⟨b',vs,l,e,f,hb',hvs,hm⟩:=hh.cells ho hcs;rw [hb] at hb';injection hb' with hb';subst hb'
 cases hag:Y.agg with
 | false=>
  rw [hag] at hf;obtain ⟨z,hz,hc⟩:=Yf hf;obtain ⟨v,h3,h4⟩:=Yca hvs (Ybn hz);refine ⟨z,v,hc,h4,fun w hi=>?_⟩;have hcell:w.cell? ⟨b,a.2,none⟩=some v:=by
   rw [YaM hi hm];have hlt:a.2<vs.length:=(Zg h3).1;simp only [List.getElem?_toArray];rw [List.getElem?_append_left hlt];exact h3
  exact YbG T hX (by rw [hR.agg,hag]) hcell
 | true=>
  rw [hag] at hf;obtain ⟨q,hq,hf⟩:=Yf hf;rw [Wq] at hf;obtain ⟨h3,h4⟩:=YbN hvs hq;refine ⟨.agg q,.agg ((vs.drop a.2).take Y.size).toArray,hf,by simp [gv,h4],fun w hi=>?_⟩;have hc:∀ j v,((vs.drop a.2).take Y.size)[j]?=some v->w.cell? ((⟨b,a.2,none⟩:Addr).add j)=some v:=fun j v hj=>by
   rw [addr_add,YaM hi hm];rw [List.getElem?_take] at hj;split at hj
   ·rename_i hlt;rw [List.getElem?_drop] at hj;have hlt':a.2+j<vs.length:=(Zg hj).1;simp only [List.getElem?_toArray];rw [List.getElem?_append_left hlt'];exact hj
   cases hj
  exact W3 T hX (by rw [hR.agg,hag]) (cs:=(vs.drop a.2).take Y.size) (by rw [hR.size];simp;omega) hc
theorem Yjc (hT:TA tT T) {cx:Cx} {fz:FZ} {ν:Nu} {H Fm:HP} {s:St} {σ:Env} (he:ER ν s.env σ) (hh:HR tT ν s.heap H Fm):∀ {l:List ResultVar} {c:List AV->Bool},ress tT s l c=true->
 ∃ as1 vs,c as1=true/\gvs ν as1=some vs/\∀ a w,Sat s.nt σ a->Inv cx fz H w->(l.mapM fun
  | .tmp t=>pure (a.tmps.getD t undef)
  | .cell u t=>do loadVar t (<- asAddr (a.tmps.getD u undef)):Sem (List Value)).run P w=.ok vs w
 | [],c,h=>⟨[],[],h,by simp [gvs],fun a w _ _=>by simp⟩
 | .tmp t::l,c,h=>by
  obtain ⟨av,hav,h⟩:=Yf (show (fO (s.env.get t) fun v=>ress tT s l fun l=>c (v::l))=true from h);obtain ⟨as1,vs,h1,h2,h3⟩:=Yjc hT (cx:=cx) (fz:=fz) he hh h;obtain ⟨v,h4,h5⟩:=he t av hav;refine ⟨_,v::vs,h1,YdB h4 h2,fun a w hs hi=>?_⟩;rw [List.mapM_cons];have:=h3 a w hs hi;simp only [Sem.run_bind,Sem.run_pure,Result.andThen_ok,this];simp [hs.slot t v h5]
 | .cell u t::l,c,h=>by
  obtain ⟨av,hav,h⟩:=Yf (show (fO (s.env.get u) fun v=>fO (asP v) fun a=>ldv tT s.heap t a fun v=>ress tT s l fun l=>c (v::l))=true from h);obtain ⟨p,hp,h⟩:=Yf h;obtain ⟨v,h4,h5⟩:=he u av hav;obtain ⟨b,hb,rfl⟩:=Yam hp h4;obtain ⟨av2,v2,h6,h7,h8⟩:=ldv_s (P:=P) hT (cx:=cx) (fz:=fz) hh hb h;obtain ⟨as1,vs,h1,h2,h3⟩:=Yjc hT (cx:=cx) (fz:=fz) he hh h6;refine ⟨_,v2::vs,h1,YdB h7 h2,fun a w hs hi=>?_⟩;rw [List.mapM_cons];have h9:=h3 a w hs hi;have h10:=h8 w hi;have hg:a.tmps.getD u undef=.pointer (some ⟨b,p.2,none⟩):=by simp [hs.slot u _ h5]
  have hgs:(asAddr (.pointer (some ⟨b,p.2,none⟩))).run P w=.ok ⟨b,p.2,none⟩ w:=by simp [asAddr]
  simp only [Sem.run_bind,Sem.run_pure,Result.andThen_ok,hg,hgs,h10,h9]
theorem resl_s (hT:TA tT T) {cx:Cx} {ν:Nu} {Fm:HP} {s:St} {σ:Env} {fn:Func} {c:QC} (he:ER ν s.env σ) (hh:HR tT ν s.heap H Fm) (h:resl tT s fn.results.toList c=true):
 ∃ a v,c a=true/\gv ν a=some v/\∀ a w,Sat s.nt σ a->Inv cx fz H w->(results fn a.tmps).run P w=.ok v w:=by
 obtain ⟨as1,vs,h1,h2,h3⟩:=Yjc (P:=P) hT (cx:=cx) (fz:=fz) he hh h;have hrun:∀ a w,Sat s.nt σ a->Inv cx fz H w->(results fn a.tmps).run P w=.ok (if hsz:vs.toArray.size=1 then vs.toArray[0] else .tuple vs.toArray) w:=fun a w hs hi=>by
  have:=h3 a w hs hi;unfold results;rw [Array.mapM_eq_mapM_toList];simp only [Sem.run_bind,map_eq_pure_bind,bind_assoc,pure_bind,Sem.run_pure];exact congrArg (fun r:Result (List Value)=>r.andThen fun a w'=>Result.ok (if h:a.toArray.size=1 then a.toArray[0] else Value.tuple a.toArray) w') this
 cases as1 with
 | nil=>
  simp [gvs] at h2;subst h2;exact ⟨_,.tuple #[],h1,by simp [gv,gvs],fun a w hs hi=>by rw [hrun a w hs hi];rfl⟩
 | cons x r=>
  obtain ⟨v,q,g1,g2,rfl⟩:=XA h2;cases r with
  | nil=>
   simp [gvs] at g2;subst g2;exact ⟨x,v,h1,g1,fun a w hs hi=>by rw [hrun a w hs hi];rfl⟩
  | cons y r=>
   obtain ⟨v2,q2,g3,g4,rfl⟩:=XA g2;refine ⟨_,.tuple (v::v2::q2).toArray,h1,by simp only [gv,h2,Option.map_some],fun a w hs hi=>?_⟩;rw [hrun a w hs hi];rw [dif_neg (by simp)]
def MemoOk (P:Program) (tT:TT) (g:FuncId) (m:Mem):Prop:=∃ h0:Tr AO,(∀ id o,h0.get id=some o->(id,o)∈m.h)/\∀ fz ν vs H Fm,gvs ν m.args=some vs->HR tT ν h0 H Fm->Yac ν m.nx->
 GFn P g vs fz H fun v fz' H'=>fz'=fz/\∃ ν' h',ν.le ν'/\gv ν' m.res=some v/\HR tT ν' h' H' Fm/\(∀ z∈m.h',h'.get z.1=some z.2)/\Yac ν' m.nx'
def FnOk (P:Program) (g:FuncId) (fn:Func):Prop:=P.funcs[g]?=some fn∧(fn.name== "runtime.NumGoroutine")=false
def FOk (P:Program) (tT:TT) (g:FuncId):FE->Prop
 | .fn fn=>FnOk P g fn
 | .ibs=>∀ fz (l:List Nat) (n:Nat),l.all (fun n=>Nat.blt n 256)=true->n<256->QFn P g [.string (bs l),.int .u8 n] fz (.int .i64 ((l.findIdx? (Nat.beq n)).elim (-1) fun i=>(i:Int)))
 | .memo ms fn=>FnOk P g fn/\∀ m∈ms,MemoOk P tT g m
def FA (P:Program) (tT:TT) (F:FF):Prop:=∀ g f,F g=some f->FOk P tT g f
theorem YiT {h:Tr AO}:∀ {l:List (Nat × AO)},subH h l=true->∀ z∈l,h.get z.1=some z.2
 | [],_,z,hz=>by cases hz
 | y::r,hs,z,hz=>by
  unfold subH at hs;split at hs
  ·rename_i o ho;split at hs
   ·rename_i he;cases hz with
    | head=>rw [ho,YhU he]
    | tail _ hz=>exact YiT hs z hz
   cases hs
  cases hs
theorem YeK:∀ {l:List (Nat × AO)} {h:Tr AO} {c:Tr AO->Bool},Yfz l h c=true->∃ h',c h'=true/\∀ id o,h'.get id=some o->(id,o)∈l\/h.get id=some o
 | [],h,c,hf=>⟨h,hf,fun _ _ h=>.inr h⟩
 | z::r,h,c,hf=>by
  obtain ⟨h1,hu,hf⟩:=YC _ _ _ _ _ (show YS dep h z.1 (some z.2) (fun h=>Yfz r h c)=true from hf);obtain ⟨h',hc,hg⟩:=YeK hf;refine ⟨h',hc,fun id o ho=>?_⟩;rcases hg id o ho with h2 | h2
  ·exact .inl (by simp [h2])
  rw [hu id] at h2;split at h2
  ·rename_i hid;injection h2 with h2;subst hid h2;exact .inl (by simp)
  exact .inr h2
theorem Yf3:∀ {l:List (Nat × AO)} {h:Tr AO} {c:Tr AO->Bool},Ye7 l h c=true->∃ h',c h'=true/\∀ id o,h'.get id=some o->(∀ z∈l,z.1≠id)/\h.get id=some o
 | [],h,c,hf=>⟨h,hf,fun _ _ h=>⟨by simp,h⟩⟩
 | z::r,h,c,hf=>by
  obtain ⟨h1,hu,hf⟩:=YC _ _ _ _ _ (show YS dep h z.1 none (fun h=>Ye7 r h c)=true from hf);obtain ⟨h',hc,hg⟩:=Yf3 hf;refine ⟨h',hc,fun id o ho=>?_⟩;obtain ⟨h2,h3⟩:=hg id o ho;rw [hu id] at h3;split at h3
  ·cases h3
  rename_i hid;exact ⟨fun y hy=>by
   cases hy with
   | head=>exact fun hc=>hid hc.symm
   | tail _ hy=>exact h2 y hy,h3⟩
theorem Ykj {args:List AV} {s:St} {m:Mem}:∀ {ms:List Mem},fits args s ms=some m->m∈ms/\m.args=args/\s.nx<=m.nx/\m.nx<=m.nx'/\∀ z∈m.h,s.heap.get z.1=some z.2
 | [],h=>by cases h
 | y::r,h=>by
  unfold fits at h;split at h
  ·rename_i ha;split at h
   ·rename_i hb;injection h with h;subst h
    simp only [Bool.and_eq_true,Nat.ble_eq] at hb;exact ⟨by simp,avsEq_iff _ _ ha,hb.1,hb.2.1,YiT hb.2.2⟩
   obtain ⟨h1,h2⟩:=Ykj h;exact ⟨by simp [h1],h2⟩
  obtain ⟨h1,h2⟩:=Ykj h;exact ⟨by simp [h1],h2⟩
theorem quiet_g {f:FuncId} {args:List Value} {R:Value->FZ->HP->Prop} (h:QFn P f args fz v) (hR:R v fz H):GFn P f args fz H R:=by
 have hc:XY P f:=by unfold QFn at h;exact h.1
 refine GFn.of hc fun w hw=>(h.out w ⟨hw.keep,by simp,by simp⟩).mono fun e w' ⟨he,hfr⟩=>⟨v,fz,H,he,hR,?_,?_,⟨fun _ _ h=>h,fun _ _ _=>rfl,fun p hp=>.inl (List.mem_map.2 ⟨p,hp,rfl⟩)⟩⟩
 ·refine ⟨fun b o hb=>?_,fun p hp=>?_,hw.nd⟩
  ·have:=hw.keep b o hb;rw [hfr.block b (lt_of_heap this) (by simp)];exact this
  have:=hw.own p hp;exact ⟨by rw [hfr.block p.1 (lt_of_heap this.1) (by simp)];exact this.1,this.2⟩
 exact ⟨hfr.os,hfr.tape,hfr.output,hfr.size,fun b hb _=>hfr.block b hb (by simp),fun h=>h.elim⟩
theorem sFn_s {ih:IH} {g:FuncId} {fn:Func} {args:List AV} {s:St} {k:CK} (hT:TA tT T) (hok:FnOk P g fn) (hcode:∀ c s k,ih (.code c) s k=true->Ygc P tT c s k) (hf:sFn fn tT ih args s k=true):Yfo P tT g args s k:=fun fz ν vs H Fm hv hh hfr=>by
 obtain ⟨hle,hf⟩:=YE hf;obtain ⟨body,hbody,hf⟩:=Yf hf;obtain ⟨e,he,hf⟩:=args_er hv hf;refine YbW hok.1 hbody rfl (by rw [Y9 hv];exact hle) hok.2 fun w0=>?_
 refine (hcode _ _ _ hf ⟨w0,H.map Prod.fst,fz⟩ fz ν s.nx ν (YdH vs 0) H Fm (Nu.le.refl _) (Zs _) he hh hfr).mono fun x σ' fz' H' ⟨h1,ν',s',h2,h3,h4,h5,h6,h7,h8⟩=>?_
 subst h1;obtain ⟨hret,h8⟩:=YE h8;have hnt:s'.nt=fn.ntmps:=h4;obtain ⟨a,v,q1,q2,q3⟩:=resl_s (P:=P) hT (cx:=⟨w0,H.map Prod.fst,fz'⟩) (fz:=fz') h5 h6 h8;rw [hnt] at q3;have hR:RK tT fz' ν s.nx s.nt Fm k v fz' H':=⟨rfl,ν',a,s'.heap,s'.nx,_,h2,h3,q2,h6,h7,rfl,q1⟩;cases x with
 | normal=>unfold retQ;exact ⟨v,q3,fun w hi=>⟨fz',H',hi,hR⟩⟩
 | ret=>unfold retQ;exact ⟨v,q3,fun w hi=>⟨fz',H',hi,hR⟩⟩
 | _=>cases hret
open Classical in
theorem sMemo_s {ih:IH} {g:FuncId} {fn:Func} {ms:List Mem} {args:List AV} {s:St} {k:CK} (hT:TA tT T) (hok:FOk P tT g (.memo ms fn)) (hcode:∀ c s k,ih (.code c) s k=true->Ygc P tT c s k) (hf:sMemo ms fn tT ih args s k=true):Yfo P tT g args s k:=by
 unfold sMemo at hf;cases hm:fits args s ms with
 | none=>rw [hm,Wl] at hf;exact sFn_s hT hok.1 hcode hf
 | some m=>
  rw [hm,XQ] at hf;obtain ⟨hin,rfl,hnx,hnx',hsub⟩:=Ykj hm;obtain ⟨h1,hf,hg1⟩:=Yf3 hf;obtain ⟨h2,hf,hg2⟩:=YeK hf;obtain ⟨h0,hh0,hmem⟩:=hok.2 m hin;intro fz ν vs H Fm hv hh hfr;have h0s:∀ id o,h0.get id=some o->s.heap.get id=some o:=fun id o ho=>hsub _ (hh0 id o ho)
  -- what the call does not look at
  let F:HP:=H.filter fun p=>decide (∃ id o,h1.get id=some o/\ν.blk id=some p.1/\go ν o=some p.2)
  have hFin:∀ p,p∈F↔p∈H/\∃ id o,h1.get id=some o/\ν.blk id=some p.1/\go ν o=some p.2:=fun p=>by
   simp only [F,List.mem_filter,decide_eq_true_iff]
  have hHR:HR tT ν h0 H (Fm++F):=by
   refine ⟨fun id o ho=>hh.own id o (h0s id o ho),fun id id' o o' b g1 g2=>hh.inj id id' o o' b (h0s _ _ g1) (h0s _ _ g2),fun p hp=>?_,fun id cs e j fr hq=>hh.cap id cs e j fr (h0s _ _ hq)⟩;rcases List.mem_append.1 hp with hp | hp
   ·exact ⟨(hh.fm p hp).1,fun id o ho=>(hh.fm p hp).2 id o (h0s id o ho)⟩
   obtain ⟨hpH,id',o',k1,k2,_⟩:=(hFin p).1 hp;refine ⟨hpH,fun id o ho hb=>?_⟩;obtain ⟨k3,k4⟩:=hg1 id' o' k1;have hid:=hh.inj id id' o o' p.1 (h0s id o ho) k4 hb k2;exact k3 (id,o) (hh0 id o ho) hid
  refine (hmem fz ν vs H (Fm++F) hv hHR (fun i hi=>hfr i (Nat.le_trans hnx hi))).mono fun v fz' H' ⟨e1,ν',h',q1,q2,q3,q4,q5⟩=>?_
  have hold:∀ id o,h1.get id=some o->∃ b x,ν'.blk id=some b/\go ν' o=some x/\(b,x)∈H'/\∀ id' o',h'.get id'=some o'->ν'.blk id'≠some b:=fun id o ho=>by
   obtain ⟨_,k4⟩:=hg1 id o ho;obtain ⟨b,x,g1,g2,g3⟩:=hh.own id o k4;have hF:(b,x)∈F:=(hFin (b,x)).2 ⟨g3,id,o,ho,g1,g2⟩;obtain ⟨k5,k6⟩:=q3.fm (b,x) (List.mem_append.2 (.inr hF));exact ⟨b,x,q1.blk _ _ g1,YdC q1 g2,k5,k6⟩
  have hnew:∀ id o,h2.get id=some o->h'.get id=some o\/h1.get id=some o:=fun id o ho=>by
   rcases hg2 id o ho with k1 | k1
   ·exact .inl (q4 _ k1)
   exact .inr k1
  refine ⟨e1,ν',m.res,h2,m.nx',_,q1,?_,q2,⟨fun id o ho=>?_,fun id id' o o' b g1 g2 b1 b2=>?_,fun p hp=>?_,fun id cs e j fr hq=>?_⟩,q5,rfl,hf⟩
  ·exact Nat.le_trans hnx hnx'
  ·rcases hnew id o ho with k | k
   ·exact q3.own id o k
   obtain ⟨b,x,k1,k2,k3,_⟩:=hold id o k;exact ⟨b,x,k1,k2,k3⟩
  ·rcases hnew id o g1 with k | k
   ·rcases hnew id' o' g2 with k' | k'
    ·exact q3.inj id id' o o' b k k' b1 b2
    obtain ⟨b',x,j1,_,_,j4⟩:=hold id' o' k';rw [j1] at b2;injection b2 with b2;subst b2
    exact absurd b1 (j4 id o k)
   obtain ⟨b',x,j1,_,_,j4⟩:=hold id o k;rw [j1] at b1;injection b1 with b1;subst b1
   rcases hnew id' o' g2 with k' | k'
   ·exact absurd b2 (j4 id' o' k')
   obtain ⟨c1,x1,i1,_,_⟩:=hh.own id o (hg1 id o k).2;obtain ⟨c2,x2,i2,_,_⟩:=hh.own id' o' (hg1 id' o' k').2;have e1:=q1.blk _ _ i1;have e2:=q1.blk _ _ i2;rw [j1] at e1;injection e1 with e1
   rw [b2] at e2;injection e2 with e2
   exact hh.inj id id' o o' c1 (hg1 id o k).2 (hg1 id' o' k').2 i1 (by rw [i2,<- e1,<- e2])
  ·refine ⟨(q3.fm p (List.mem_append.2 (.inl hp))).1,fun id o ho=>?_⟩;rcases hnew id o ho with k | k
   ·exact (q3.fm p (List.mem_append.2 (.inl hp))).2 id o k
   obtain ⟨b,x,i1,_,_⟩:=hh.own id o (hg1 id o k).2;rw [q1.blk _ _ i1];intro hc;injection hc with hc
   exact (hh.fm p hp).2 id o (hg1 id o k).2 (by rw [i1,hc])
  rcases hnew id _ hq with k | k
  ·exact q3.cap id cs e j fr k
  exact (hh.cap id cs e j fr (hg1 id _ k).2).mono q1
theorem sCall_s {F:FF} {ih:IH} {g:FuncId} {args:List AV} {s:St} {k:CK} (hT:TA tT T) (hF:FA P tT F) (hcode:∀ c s k,ih (.code c) s k=true->Ygc P tT c s k) (hf:sCall g args tT F ih s k=true):Yfo P tT g args s k:=by
 obtain ⟨fe,hfe,hf⟩:=Yf hf;have hok:=hF g fe hfe;cases fe with
 | fn fn=>exact sFn_s hT hok hcode hf
 | memo ms fn=>exact sMemo_s hT hok hcode hf
 | ibs=>
  intro fz ν vs H Fm hv hh hfr;obtain ⟨a,b,rfl,hf⟩:=Yc6 (show (two_ args fun x y=>fO (asS x) fun l=>fO (byteOf y) fun n=>oE ((fun v=>k .ret ⟨.n .lf (some v) .lf,s.heap,s.nx,s.nt⟩) (.i .i64 (.negSucc 0))) (fun i=>rN (fun v=>k .ret ⟨.n .lf (some v) .lf,s.heap,s.nx,s.nt⟩) i) (l.findIdx? (Nat.beq n)))=true from hf);obtain ⟨l,hl,hf⟩:=Yf hf;obtain ⟨n,hn,hf⟩:=Yf hf;obtain ⟨u1,u2,h1,h2,rfl⟩:=Yj8 hv;obtain ⟨rfl,hall⟩:=Wa hl h1;obtain ⟨rfl,hlt⟩:=YhQ hn h2;refine quiet_g (hok fz l n hall hlt) ?_;cases hi:l.findIdx? (Nat.beq n) with
  | none=>
   rw [hi,Wl] at hf;exact ⟨rfl,ν,_,s.heap,s.nx,_,Nu.le.refl _,Zs _,gv_i _ _ _,hh,hfr,rfl,hf⟩
  | some i=>
   rw [hi,XQ] at hf;exact ⟨rfl,ν,_,s.heap,s.nx,_,Nu.le.refl _,Zs _,gv_i _ _ _,hh,hfr,rfl,Yhl hf⟩
end
def PG (ν:Nu) (a:AV) (v:Value):Prop:=gv ν a=some v\/(a=.p none/\Yei v=true)
theorem PG.len {ν:Nu} {a:AV} (h:PG ν a v):v.cells.toList.length=a.cells.length:=by
 rcases h with h | ⟨rfl,h⟩
 ·exact Y9 (YbO h)
 cases v<;>first | rfl | cases h
theorem PG.num {ν:Nu} {a:AV} (h:PG ν a v) (hn:asN a=some n):∃ k,v=.int k n:=by
 rcases h with h | ⟨rfl,h⟩
 ·exact Ych hn h
 cases hn
inductive PGs (ν:Nu):List AV->List Value->Prop where
 | nil:PGs ν [] []
 | cons {a:AV} {v:Value} {l:List AV} {vs:List Value}:PG ν a v->PGs ν l vs->PGs ν (a::l) (v::vs)
theorem PGs.len {ν:Nu} {l:List AV} {vs:List Value} (h:PGs ν l vs):vs.length=l.length:=by
 induction h with
 | nil=>rfl
 | cons _ _ ih=>simp [ih]
def RG (ν:Nu) (ar:RD) (r:Operand->Option Value):Prop:=∀ x a,ar x=some a->∃ v,r x=some v/\PG ν a v
theorem RG.all {ν:Nu} {ar:RD} {r:Operand->Option Value} (h:RG ν ar r):∀ {xs:List Operand} {l:List AV},rdos ar xs=some l->∃ vs,rds r xs=some vs/\PGs ν l vs
 | [],l,hl=>by
  have:l=[]:=by injection hl with hl;exact hl.symm
  subst this;exact ⟨[],rfl,.nil⟩
 | x::xs,l,hl=>by
  obtain ⟨a,ha,hl⟩:=YB hl;obtain ⟨q,hq,hl⟩:=YB hl;injection hl with hl
  subst hl;obtain ⟨v,h1,h2⟩:=h x a ha;obtain ⟨vs,h3,h4⟩:=RG.all h hq;exact ⟨v::vs,by simp only [rds,h1,h3],.cons h2 h4⟩
theorem YhI {ν:Nu} {place:Nat->Option (Nat × Nat)}:∀ {ns:List Nat} {l:List AV} {vs:List Value} {cells:List AV} {us:List Value} {cs:List AV},PGs ν l vs->ns.length=l.length->us.length=cells.length->YfY place cells (ns.zip l)=some cs->
 ∃ cs',Yd6 place us (ns.zip vs)=some cs'
 | [],l,vs,cells,us,cs,_,_,_,_=>⟨us,by simp [Yd6]⟩
 | n::ns,[],vs,cells,us,cs,hp,hl,_,_=>by simp at hl
 | n::ns,a::l,vs,cells,us,cs,hp,hl,hu,h=>by
  cases hp with
  | cons h1 h2=>
   rename_i v vs;simp only [List.zip_cons_cons,YfY] at h;obtain ⟨z,hz,h⟩:=YB h;obtain ⟨hb,h⟩:=YZ h;obtain ⟨c1,hc1,h⟩:=YB h;obtain ⟨h3,h4⟩:=Yg8 hc1;have h5:=h1.len;have hw:=Yg9 us z.1 v.cells.toList (by rw [h5,hu];exact h3);have hlen:(us.take z.1++v.cells.toList++us.drop (z.1+v.cells.toList.length)).length=c1.length:=by
    rw [h4];simp only [List.length_append,List.length_take,List.length_drop];rw [h5,hu]
   obtain ⟨cs',h6⟩:=YhI h2 (by simpa using hl) hlen h;refine ⟨cs',?_⟩;simp only [List.zip_cons_cons,Yd6,hz];have hb':Nat.beq v.cells.toList.length z.2=true:=by rw [h5];exact hb
   rw [hb'];simp only [hw];exact h6
theorem zip_eq:∀ (ps:List (Nat × Operand)) (l:List AV),zip_ ps l=(ps.map (·.1)).zip l
 | [],l=>by simp [zip_]
 | q::ps,[]=>by simp [zip_]
 | q::ps,v::l=>by simp [zip_,zip_eq ps l]
section
variable {P:Program} {tT:TT} {T:Tab P}
def LE (P:Program) (tT:TT) (f:LF) (op:Op):Prop:=∀ (ν:Nu) (ar:RD) (r:Operand->Option Value) (z:AO × Mk),RG ν ar r->f tT ar=some z->
 ∃ (obj:Obj) (mk:Nat->Value),(∀ g,Yei (mk g)=true)/\∀ (dst:Option Nat) (ty:TypeId) (pos:String) (af:Array Edge) (gd:Option (Nat × Bool)) ρ w,Reads r ρ->(execOp ρ ⟨dst,op,ty,pos,af,gd⟩).run P w=.ok (.value (mk w.heap.size)) (w.alloc obj)
theorem e_alloc (hT:TA tT T) (t:TypeId):LE P tT (floA t) (.alloc t):=fun ν ar r z hr hf=>by
 obtain ⟨A,hA,hf⟩:=YB hf;obtain ⟨X,hX,hR⟩:=hT t A hA;refine ⟨.cells X.zero.cells t (0,0),fun g=>Zp g,fun _=>rfl,fun dst ty pos af gd ρ w hρ=>?_⟩;have:=XJ T hX w;simp [execOp,Instr.alloc,this,newVar,newRow,newObj,Sem.run]
theorem e_box (t:TypeId) (x:Operand):LE P tT (floB t x) (.box t x):=fun ν ar r z hr hf=>by
 obtain ⟨a,ha,hf⟩:=YB hf;obtain ⟨v,h1,h2⟩:=hr x a ha;refine ⟨.cells v.cells t (0,0),fun g=>Zp g,fun _=>rfl,fun dst ty pos af gd ρ w hρ=>?_⟩;simp [execOp,Instr.box,hρ _ _ h1,newVar,newRow,newObj,Sem.run]
theorem e_map (t:TypeId):LE P tT floE (.makeMap t none):=fun ν ar r z hr hf=>by
 refine ⟨.map #[] 0,fun g=>.map (some g),fun _=>rfl,fun dst ty pos af gd ρ w hρ=>?_⟩;simp [execOp,Instr.makeMap,newObj,Sem.run]
theorem e_make (hT:TA tT T) (t:TypeId) (l q:Operand):LE P tT (floM t l q) (.makeSlice t l q):=fun ν ar r z hr hf=>by
 have hf0:=hf;obtain ⟨A,hA,hf⟩:=YB hf;obtain ⟨hk,hf⟩:=YZ hf;obtain ⟨Y,hY,hf⟩:=YB hf;obtain ⟨al,hal,hf⟩:=YB hf;obtain ⟨nl,hnl,hf⟩:=YB hf;obtain ⟨aq,haq,hf⟩:=YB hf;obtain ⟨nq,hnq,hf⟩:=YB hf;obtain ⟨ul,g1,g2⟩:=hr l al hal;obtain ⟨uq,g3,g4⟩:=hr q aq haq;have k1:gv ν al=some ul:=by
  rcases g2 with h | ⟨rfl,_⟩
  ·exact h
  cases hnl
 have k2:gv ν aq=some uq:=by
  rcases g4 with h | ⟨rfl,_⟩
  ·exact h
  cases hnq
 -- reads of these two alone
 let ar':RD:=fun x=>open Classical in if x=l then some al else if x=q then some aq else none
 have hl':ar' l=some al:=by simp [ar']
 have hq':ar' q=some aq:=by
  by_cases he:q=l
  ·subst he;simp only [ar',if_true];rw [hal] at haq;exact haq
  simp [ar',he]
 have hr':RR ν ar' r:=fun x a hx=>by
  simp only [ar'] at hx;split at hx
  ·rename_i he;subst he;injection hx with hx;subst hx;exact ⟨ul,k1,g1⟩
  split at hx
  ·rename_i he;subst he;injection hx with hx;subst hx;exact ⟨uq,k2,g3⟩
  cases hx
 have hf':floM t l q tT ar'=some z:=by
  rw [<- hf0];unfold floM;rw [hl',hq',hal,haq]
 obtain ⟨_,_,x,_,hrun⟩:=l_make (P:=P) hT t l q ν ar' r z.1 z.2 hr' hf';refine ⟨x,z.2.real,fun g=>?_,hrun⟩;have:z.2=.sl nl nq:=by
  obtain ⟨_,hf⟩:=YZ hf;injection hf with hf
  rw [<- hf]
 rw [this];rfl
theorem e_slice (hT:TA tT T) (t:TypeId) (len:Nat) (ps:Array (Nat × Operand)):LE P tT (floS t len ps.toList) (.buildSlice t len ps):=fun ν ar r z hr hf=>by
 obtain ⟨A,hA,hf⟩:=YB hf;obtain ⟨hk,hf⟩:=YZ hf;obtain ⟨Y,hY,hf⟩:=YB hf;obtain ⟨vs,hvs,hf⟩:=YB hf;obtain ⟨hb,hf⟩:=YZ hf;obtain ⟨cs,hcs,hf⟩:=YB hf;simp only [Bool.and_eq_true,Nat.ble_eq] at hb;obtain ⟨X,hX,hR⟩:=hT t A hA;obtain ⟨Z,hZ,hRZ⟩:=hT A.e Y hY;obtain ⟨us,h2,h1⟩:=hr.all hvs;obtain ⟨zs,hz,hzc⟩:=hRZ.zero;have hzl:zs.length=Y.size:=by rw [Y9 (hz ⟨fun _=>none,fun _=>none,fun _=>none⟩)];exact Nat.eq_of_beq_eq_true hb.2
 rw [zip_eq] at hcs;obtain ⟨ws,g2⟩:=YhI (us:=repZ zs len) h1 (by rw [YcU hvs];simp) (by
  have:=Y9 (rep_s (hz ⟨fun _=>none,fun _=>none,fun _=>none⟩) len);exact this) hcs
 refine ⟨.cells ws.toArray A.e (0,0),fun g=>Zv g len len,fun _=>rfl,fun dst ty pos af gd ρ w hρ=>?_⟩;have hu:=und_plain T hX (hR.d4 (Nat.eq_of_beq_eq_true hk)) rfl;have hsz:=Go.Lx.run_sizeOf T hZ w;rw [hRZ.size] at hsz;have hzr:=XJ T hZ w;have hl':¬len*Y.size>2 ^ 24:=by have:=hb.1;simp only [Nat.mul_eq] at this;omega
 have hps':(ps.map fun x=>match x with | (i,x)=>(i,ρ x)).toList=(ps.toList.map (·.1)).zip us:=by
  rw [<- Wu hρ ps.toList us h2];simp
 have hc':Instr.fill (fun i=>some (i*Y.size,Y.size)) ((Array.range (len*Y.size)).map ((if len*Y.size=0 then #[] else Z.zero.cells)[· % (if len*Y.size=0 then #[] else Z.zero.cells).size]!)) ((ps.toList.map (·.1)).zip us)=some ws.toArray:=by
  rw [YeP hzc hzl];exact Ycb _ _ _ g2
 by_cases h0:len*Y.size=0
 ·rw [if_pos h0] at hc';simp only [execOp,Instr.buildSlice,Sem.run_bind,run_underlying hu w,Result.andThen_ok,hsz,if_neg hl',if_pos h0,Sem.run_pure,hps',hc',newRow,newObj,Sem.run];rfl
 rw [if_neg h0] at hc';simp only [execOp,Instr.buildSlice,Sem.run_bind,run_underlying hu w,Result.andThen_ok,hsz,if_neg hl',if_neg h0,Sem.run_pure,hzr,hps',hc',newRow,newObj,Sem.run];rfl
theorem flo_e (hT:TA tT T) (op:Op):∀ f,ox op=.l f->LE P tT f op:=by
 intro f hf;cases op with
 | alloc t=>injection hf with hf;subst hf;exact e_alloc hT t
 | box t x=>injection hf with hf;subst hf;exact e_box t x
 | buildSlice t n ps=>injection hf with hf;subst hf;exact e_slice hT t n ps
 | makeMap t r=>
  cases r with
  | none=>injection hf with hf;subst hf;exact e_map t
  | some y=>cases hf
 | makeSlice t l q=>injection hf with hf;subst hf;exact e_make hT t l q
 | call k=>
  obtain ⟨cal,xs,ats⟩:=k;cases cal with
  | value=>cases hf
  | invoke=>cases hf
  | builtin b=>cases b<;>cases hf
 | _=>cases hf
def YcG (P:Program) (all:List Oper) (σ:Env) (i:Nat) (o:Oper) (ve:Env) (x:Obj × (Nat->Value)):Prop:=
 o.guard=none/\(∀ g,Yei (x.2 g)=true)/\∀ ρ w,Reads (rdg all i o σ ve) ρ->(execOp ρ o).run P w=.ok (.value (x.2 w.heap.size)) (w.alloc x.1)
variable {i:Nat} {o:Oper}
theorem Yg3 {all:List Oper} {σ:Env} {ve:Env} {x y:Obj × (Nat->Value)} (hx:YcG P all σ i o ve x) (hy:YcG P all σ i o ve y):x=y:=by
 have key:∀ g:Nat,x.2 g=y.2 g/\x.1=y.1:=fun g=>by
  let w:World:={heap:=Array.replicate g (.cells #[] 0),tape:=fun _ _=>0,drawn:=0,os:=default,output:=#[]}
  have hsz:w.heap.size=g:=by simp [w]
  have hr:Reads (rdg all i o σ ve) (fun x=>(rdg all i o σ ve x).getD undef):=fun z v hz=>by simp [hz]
  have h1:=hx.2.2 _ w hr;rw [hy.2.2 _ w hr] at h1;rw [hsz] at h1;injection h1 with h1 h2
  injection h1 with h1
  refine ⟨h1.symm,?_⟩;have h3:=congrArg (fun w:World=>w.heap[g]?) h2;have h4:∀ o:Obj,(w.alloc o).heap[g]?=some o:=fun o=>by rw [<- hsz];exact heap_alloc_new w o
  simp only [h4] at h3;injection h3 with h3
  exact h3.symm
 obtain ⟨a,b⟩:=x;obtain ⟨c,d⟩:=y;have e1:a=c:=(key 0).2;have e2:b=d:=funext fun g=>(key g).1
 rw [e1,e2]
open Classical in
noncomputable def flD (P:Program) (all:List Oper) (σ:Env):Fl:=fun i o ve=>if h:∃ x,YcG P all σ i o ve x then some h.choose else none
theorem Ykh {all:List Oper} {σ:Env} {ve:Env} {x:Obj × (Nat->Value)} (h:YcG P all σ i o ve x):flD P all σ i o ve=some x:=by
 have hex:∃ x,YcG P all σ i o ve x:=⟨x,h⟩;unfold flD;rw [dif_pos hex];rw [Yg3 hex.choose_spec h]
theorem YcZ {all:List Oper} {σ:Env} {ve:Env} {x:Obj × (Nat->Value)} (h:flD P all σ i o ve=some x):YcG P all σ i o ve x:=by
 unfold flD at h;split at h
 ·rename_i hex;injection h with h;subst h;exact hex.choose_spec
 cases h
theorem flD_mono {all:List Oper} {σ:Env} (i:Nat) (o:Oper) (a b:Env) (x:Obj × (Nat->Value)) (hab:VExt a b) (h:flD P all σ i o a=some x):flD P all σ i o b=some x:=by
 obtain ⟨h1,h2,h3⟩:=YcZ h;exact Ykh ⟨h1,h2,fun ρ w hr=>h3 ρ w fun x v hx=>hr x v (Ygl hab x v hx)⟩
end
def VR (ν:Nu) (a:Tr AV) (ve:Env):Prop:=ER ν a ve/\∀ i,a.get i=none->lk ve i=none
theorem VR.e (ν:Nu):VR ν .lf []:=⟨(fun _ _ h=>by cases h),fun _ _=>rfl⟩
theorem VR.put {ν:Nu} {a a':Tr AV} {ve:Env} {x:AV} (h:VR ν a ve) (hu:a.upd i (some x) a') (hv:gv ν x=some v):VR ν a' ((i,v)::ve):=by
 refine ⟨h.1.put hu hv,fun j hj=>?_⟩;rw [hu j] at hj;split at hj
 ·cases hj
 rename_i hne;rw [Yn _ _ (fun he=>hne he.symm)];exact h.2 j hj
theorem VR.mono {ν ν':Nu} {a:Tr AV} {ve:Env} (h:VR ν a ve) (hle:ν.le ν'):VR ν' a ve:=⟨h.1.mono hle,h.2⟩
theorem ER.ext {ν:Nu} {a:Tr AV} {σ σ':Env} (h:ER ν a σ) (he:VExt σ σ'):ER ν a σ':=fun i x hx=>by
 obtain ⟨v,h1,h2⟩:=h i x hx;exact ⟨v,h1,he _ _ h2⟩
def PR (ν:Nu) (h:Tr AO):Pn->Pend->Prop
 | [],[]=>True
 | q::r,p::t=>q.1=p.1/\(∀ bx∈p.2,∃ id∈q.2,∃ o,h.get id=some o/\ν.blk id=some bx.1/\go ν o=some bx.2)/\PR ν h r t
 | _,_=>False
theorem PR.left {ν:Nu} {h:Tr AO} {o:Oper}:∀ {q:Pn} {p:Pend},PR ν h q p->PR ν h (YeX q o) (Xo p o)
 | [],[],_=>trivial
 | [],_::_,h=>h.elim
 | _::_,[],h=>h.elim
 | q::r,p::t,⟨h1,h2,h3⟩=>by
  have ih:=PR.left (o:=o) h3;unfold YeX Xo at ih ⊢;rw [List.filter_cons,List.filter_cons,h1];cases waits o p.1 with
  | true=>exact ih
  | false=>exact ⟨h1,h2,ih⟩
theorem PR.move {ν ν':Nu} {h h':Tr AO}:∀ {q:Pn} {p:Pend},PR ν h q p->ν.le ν'->(∀ z∈q,∀ id∈z.2,∀ o,h.get id=some o->ν.blk id≠none->h'.get id=some o)->PR ν' h' q p
 | [],[],_,_,_=>trivial
 | [],_::_,h,_,_=>h.elim
 | _::_,[],h,_,_=>h.elim
 | q::r,p::t,⟨h1,h2,h3⟩,hle,hs=>by
  refine ⟨h1,fun bx hbx=>?_,PR.move h3 hle fun z hz=>hs z (by simp [hz])⟩;obtain ⟨id,hid,o,g1,g2,g3⟩:=h2 bx hbx;exact ⟨id,hid,o,hs q (by simp) id hid o g1 (by rw [g2];simp),hle.blk _ _ g2,YdC hle g3⟩
theorem PR.mem {tT:TT} {ν:Nu} {h:Tr AO} {H Fm:HP} (hh:HR tT ν h H Fm):∀ {q:Pn} {p:Pend},PR ν h q p->∀ z∈p,∀ bx∈z.2,bx∈H
 | [],[],_,z,hz=>by cases hz
 | [],_::_,h,_,_=>h.elim
 | _::_,[],h,_,_=>h.elim
 | q::r,p::t,⟨h1,h2,h3⟩,z,hz=>by
  intro bx hbx;cases hz with
  | head=>
   obtain ⟨id,_,o,g1,g2,g3⟩:=h2 bx hbx;obtain ⟨b,x,k1,k2,k3⟩:=hh.own id o g1;rw [g2] at k1;injection k1 with k1
   rw [g3] at k2;injection k2 with k2
   obtain ⟨b',x'⟩:=bx;simp only at k1 k2;subst k1 k2;exact k3
  | tail _ hz=>exact PR.mem hh h3 z hz bx hbx
theorem same_s {h h':Tr AO}:∀ {l:List Nat},same h h' l=true->∀ id∈l,∃ o,h.get id=some o/\h'.get id=some o
 | [],_,id,hid=>by cases hid
 | i::r,hs,id,hid=>by
  obtain ⟨a,ha,hs⟩:=Yf (show (fO (h.get i) fun a=>fO (h'.get i) fun b=>fT (aoEq a b) (same h h' r))=true from hs);obtain ⟨b,hb,hs⟩:=Yf hs;obtain ⟨he,hs⟩:=YE hs;cases hid with
  | head=>exact ⟨a,ha,by rw [hb,YhU he]⟩
  | tail _ hid=>exact same_s hs id hid
theorem Ygj {h h':Tr AO}:∀ {q:Pn},Yia h h' q=true->∀ z∈q,∀ id∈z.2,∃ o,h.get id=some o/\h'.get id=some o
 | [],_,z,hz=>by cases hz
 | q::r,hs,z,hz=>by
  obtain ⟨h1,h2⟩:=YE (show fT (same h h' q.2) (Yia h h' r)=true from hs);cases hz with
  | head=>exact same_s h1
  | tail _ hz=>exact Ygj h2 z hz
theorem PR.same {ν ν':Nu} {h h':Tr AO} {q:Pn} {p:Pend} (hp:PR ν h q p) (hs:Yia h h' q=true) (hle:ν.le ν'):PR ν' h' q p:=
 hp.move hle fun z hz id hid o ho _=>by
  obtain ⟨o',h1,h2⟩:=Ygj hs z hz id hid;rw [ho] at h1;injection h1 with h1
  rw [h2,h1]
theorem Yja {h:Tr AO}:∀ {l:List Nat} {t:Tr AO} {c:Tr AO->Bool},restr h l t c=true->∃ t',c t'=true/\∀ id o,t'.get id=some o->(id∈l/\h.get id=some o)\/t.get id=some o
 | [],t,c,hf=>⟨t,hf,fun _ _ h=>.inr h⟩
 | i::r,t,c,hf=>by
  obtain ⟨o,ho,hf⟩:=Yf (show (fO (h.get i) fun o=>YS dep t i (some o) fun t=>restr h r t c)=true from hf);obtain ⟨t1,hu,hf⟩:=YC _ _ _ _ _ hf;obtain ⟨t',hc,hg⟩:=Yja hf;refine ⟨t',hc,fun id x hx=>?_⟩;rcases hg id x hx with ⟨h1,h2⟩ | h1
  ·exact .inl ⟨by simp [h1],h2⟩
  rw [hu id] at h1;split at h1
  ·rename_i hid;subst hid;injection h1 with h1;subst h1
   exact .inl ⟨by simp,ho⟩
  exact .inr h1
open Classical in
theorem HR.restrict {tT:TT} {ν:Nu} {h t:Tr AO} {Fm:HP} {ws:List Nat} (hh:HR tT ν h H Fm) (ht:∀ id o,t.get id=some o->id∈ws/\h.get id=some o):
 ∃ H0,H0.Sublist H/\HR tT ν t H0 []/\∀ bx∈H0,∃ id∈ws,∃ o,h.get id=some o/\ν.blk id=some bx.1/\go ν o=some bx.2:=by
 refine ⟨H.filter fun bx=>decide (∃ id∈ws,∃ o,h.get id=some o/\ν.blk id=some bx.1/\go ν o=some bx.2),List.filter_sublist,⟨fun id o ho=>?_,fun id id' o o' b h1 h2=>hh.inj id id' o o' b (ht _ _ h1).2 (ht _ _ h2).2,by simp,fun id cs e j fr hq=>hh.cap id cs e j fr (ht _ _ hq).2⟩,fun bx hbx=>?_⟩
 ·obtain ⟨h1,h2⟩:=ht id o ho;obtain ⟨b,x,g1,g2,g3⟩:=hh.own id o h2;exact ⟨b,x,g1,g2,List.mem_filter.2 ⟨g3,by simpa using ⟨id,h1,o,h2,g1,g2⟩⟩⟩
 simpa using (List.mem_filter.1 hbx).2
def VRo (ν:Nu) (o:Oper) (a:Tr AV) (ve:Env):Prop:=∀ j,waits o j=true->(∀ x,a.get j=some x->∃ v,gv ν x=some v/\lk ve j=some v)/\(a.get j=none->lk ve j=none)
theorem VR.vro {ν:Nu} {a:Tr AV} {ve:Env} (h:VR ν a ve):VRo ν o a ve:=fun j _=>⟨h.1 j,h.2 j⟩
theorem Yjh {ν:Nu} {all:List Oper} {σA veA:Tr AV} {σ ve:Env} (hσ:ER ν σA σ) (hv:∀ j,waits o j=true->∀ a,veA.get j=some a->∃ v,gv ν a=some v/\lk ve j=some v):RR ν (rdQ all i o σA veA) (rdg all i o σ ve):=fun x a hx=>by
 cases x with
 | tmp t=>
  have hx':oE (σA.get t) (fun j=>br (oB (at_ all j) fun oj=>oT (waits oj i) (σA.get t)) (veA.get j) (waits o j)) (Wy all t 0)=some a:=hx;cases hw:Wy all t 0 with
  | none=>
   rw [hw,Wl] at hx';simp only [rdg,hw];exact hσ t a hx'
  | some j=>
   rw [hw,XQ] at hx';cases hwt:waits o j with
   | true=>
    rw [hwt,Y4] at hx';simp only [rdg,hw,hwt];exact hv j hwt a hx'
   | false=>
    rw [hwt,YF] at hx';obtain ⟨oj,hoj,hx'⟩:=YB hx';obtain ⟨hwi,hx'⟩:=YZ hx';simp only [rdg,hw,hwt,Ybn hoj,hwi];exact hσ t a hx'
 | const c=>exact ⟨c,ofV_s hx ν,rfl⟩
 | func f=>injection hx with hx;subst hx;exact ⟨_,gv_fn ν f,rfl⟩
 | global g=>cases hx
theorem Yji {ν:Nu} {all:List Oper} {σA veA:Tr AV} {σ ve:Env} (hσ:ER ν σA σ) (hv:VR ν veA ve):RR ν (rdQ all i o σA veA) (rdg all i o σ ve):=Yjh hσ fun j _=>hv.1 j
theorem rdD_rg {ν:Nu} {all:List Oper} {σA veA:Tr AV} {σ ve ve':Env} (hσ:ER ν σA σ) (hv:VRo ν o veA ve) (hext:VExt ve ve') (hpl:∀ k v,lk ve' k=some v->lk ve k=none->Yei v=true) (hk:∀ e∈o.after,Region.binds .any e=true->lk ve' e.on≠none):
 RG ν (rdD all i o σA veA) (rdg all i o σ ve'):=fun x a hx=>by
 cases x with
 | tmp t=>
  cases hw:Wy all t 0 with
  | none=>
   simp only [rdD,hw] at hx;simp only [rdg,hw];obtain ⟨v,h1,h2⟩:=hσ t a hx;exact ⟨v,h2,.inl h1⟩
  | some j=>
   cases hwt:waits o j with
   | true=>
    simp only [rdD,hw,hwt] at hx;simp only [rdg,hw,hwt];cases hg:veA.get j with
    | some b=>
     simp only [hg] at hx;injection hx with hx;subst hx
     obtain ⟨v,h1,h2⟩:=(hv j hwt).1 b hg;exact ⟨v,hext _ _ h2,.inl h1⟩
    | none=>
     simp only [hg] at hx;injection hx with hx;subst hx
     have hn:=(hv j hwt).2 hg;obtain ⟨e,he,heb⟩:=List.any_eq_true.1 hwt;simp only [Bool.and_eq_true] at heb;have hne:=hk e (by simpa using he) heb.2;rw [Nat.eq_of_beq_eq_true heb.1] at hne;cases hl:lk ve' j with
     | none=>exact absurd hl hne
     | some v=>exact ⟨v,rfl,.inr ⟨rfl,hpl j v hl hn⟩⟩
   | false=>
    simp only [rdD,hw,hwt] at hx;obtain ⟨oj,hoj,hx⟩:=YB hx;obtain ⟨hwi,hx⟩:=YZ hx;simp only [rdg,hw,hwt,Ybn hoj,hwi];obtain ⟨v,h1,h2⟩:=hσ t a hx;exact ⟨v,h2,.inl h1⟩
 | const c=>exact ⟨c,rfl,.inl (ofV_s hx ν)⟩
 | func f=>injection hx with hx;subst hx;exact ⟨_,rfl,.inl (gv_fn ν f)⟩
 | global g=>cases hx
theorem Yke {ν:Nu} {veA:Tr AV} {ve:Env} {c:Bool} (hv:VR ν veA ve) (h:gateQ o veA=some c):XR o ve=some c:=by
 unfold gateQ at h;unfold XR;cases hg:o.guard with
 | none=>rw [hg,Wl] at h;exact h
 | some jb=>
  obtain ⟨j,b⟩:=jb;rw [hg,XQ] at h;obtain ⟨hw,h⟩:=YZ h;obtain ⟨a,ha,h⟩:=YB h;obtain ⟨v,h1,h2⟩:=hv.1 j a ha;simp only at hw h ⊢;rw [hw];simp only [h2];rcases Ykd h h1 with ⟨x,rfl,rfl⟩ | ⟨rfl,rfl⟩
  ·cases x<;>cases b<;>rfl
  cases b<;>rfl
section
variable {P:Program} {tT:TT} {T:Tab P}
theorem fk_iff (h:fk o=true):o.guard=none/\∃ f,ox o.op=.l f:=by
 simp only [fk,Bool.and_eq_true,Option.isNone_iff_eq_none] at h;refine ⟨h.2,?_⟩;cases ho:ox o.op with
 | l f=>exact ⟨f,rfl⟩
 | _=>rw [ho] at h;cases h.1
theorem Yku (hT:TA tT T) {ν:Nu} {all:List Oper} {σA veA:Tr AV} {σ ve:Env} (hσ:ER ν σA σ) (hv:VRo ν o veA ve) (hk:fk o=true) (hf:(flo (ox o.op) tT (rdD all i o σA veA)).isSome=true):
 Yfq fk (flD P all σ) ve (i,o):=by
 refine ⟨hk,fun ve' hext hpl hed=>?_⟩;obtain ⟨hg,f,hox⟩:=fk_iff hk;rw [hox] at hf;obtain ⟨z,hz⟩:=Option.isSome_iff_exists.1 hf;obtain ⟨obj,mk,h1,h2⟩:=flo_e (P:=P) hT o.op f hox ν _ _ z (rdD_rg (all:=all) (i:=i) hσ hv hext hpl hed) hz;rw [Ykh (x:=(obj,mk)) ⟨hg,h1,fun ρ w hr=>h2 o.dst o.type o.pos o.after o.guard ρ w hr⟩];rfl
theorem YgV {ve:Env} {kept:List (Nat × Oper)} {fls:List Nat} (h:∀ p∈kept,fk p.2=true->p.1 ∉ fls->∃ e∈p.2.after,Region.binds .any e=true/\lk ve e.on=none/\e.on ∉ fls):∀ k,Clo fk ve kept k->k∈fls:=by
 intro k hk
 induction hk with
 | mk p hp hf _ ih=>
  by_cases hin:p.1∈fls
  ·exact hin
  obtain ⟨e,he,h1,h2,h3⟩:=h p hp hf hin;exact absurd (ih e he h1 h2) h3
theorem WO {l:List Nat}:hasN l n=true↔n∈l:=by rw [YgJ];simp
theorem stuckA_s {ν:Nu} {veA:Tr AV} {ve:Env} {fls:List Nat} (hv:VR ν veA ve) (h:stuckA veA fls o=true):∃ e∈o.after,Region.binds .any e=true/\lk ve e.on=none/\e.on ∉ fls:=by
 obtain ⟨e,he,h1⟩:=List.any_eq_true.1 h;simp only [Bool.and_eq_true,Option.isNone_iff_eq_none,Bool.not_eq_true'] at h1;refine ⟨e,by simpa using he,h1.1,hv.2 _ h1.2.1,fun hc=>?_⟩;rw [WO.2 hc] at h1;cases h1.2.2
theorem Ya9 {ve:Env} {fls:List Nat} (h:∃ e∈o.after,Region.binds .any e=true/\lk ve e.on=none/\e.on ∉ fls):YaW ve fls o=true:=by
 obtain ⟨e,he,h1,h2,h3⟩:=h;refine List.any_eq_true.2 ⟨e,by simpa using he,?_⟩;rw [h1,h2];simp only [Option.isNone_none,Bool.true_and,Bool.not_eq_true'];rw [Bool.eq_false_iff];intro hc;obtain ⟨x,hx,hb⟩:=List.any_eq_true.1 hc;rw [Nat.eq_of_beq_eq_true hb] at h3;exact h3 hx
theorem Yhh (hT:TA tT T) {ν:Nu} {all:List Oper} {σA veA:Tr AV} {σ ve:Env} {fls:List Nat} {r:List (Nat × Oper)} (hσ:ER ν σA σ) (hv:VR ν veA ve) (h:Yjb tT all σA veA fls r=true):
 ∀ p∈r,(p.1∈fls/\Yfq fk (flD P all σ) ve p)\/(p.1 ∉ fls/\∃ e∈p.2.after,Region.binds .any e=true/\lk ve e.on=none/\e.on ∉ fls):=fun p hp=>by
 have:=List.all_eq_true.1 h p hp;cases hn:hasN fls p.1 with
 | true=>
  rw [hn] at this;simp only [Bool.and_eq_true] at this;exact .inl ⟨WO.1 hn,Yku hT hσ hv.vro this.1 this.2⟩
 | false=>
  rw [hn] at this;exact .inr ⟨(fun hc=>by rw [WO.2 hc] at hn;cases hn),stuckA_s hv this⟩
end
section
variable {P:Program} {tT:TT} {T:Tab P}
def KQ (P:Program) (cx:Cx) (l:List Oper) (σ:Env) (Q:QQ) (m:Nat) (fz:FZ) (H:HP):Env->Env->Pend->List (Nat × Oper)->Prop:=fun ve τ pend kept=>(kept=[]/\Q .normal τ fz H)\/
 ((∃ p∈kept,fk p.2=false)/\∃ fls:List Nat,(∀ k,Clo fk ve kept k->k∈fls)/\∀ p∈kept,(p.1∈fls/\Yfq fk (flD P l σ) ve p)\/YaW ve fls p.2=true\/
  (fk p.2=false/\XR p.2 ve=some true/\YdY P cx p.2 (rdg l p.1 p.2 σ ve) fz H fun v fz' H'=>
   Le fz fz'/\(∀ q∈Xo pend p.2,∀ b∈q.2,b∈H')/\DrV P cx l σ fk (flD P l σ) Q m (rm p.1 kept) ((p.1,v)::ve) (putT p.2.dst v τ) (Xo pend p.2) fz' H'))\/
 (∃ i o,(i,o)∈kept/\∃ obj mk,flD P l σ i o ve=some (obj,mk)/\∃ fls:List Nat,(∀ k,Clo fk ve (rm i kept) k->k∈fls)/\(∀ p∈rm i kept,(p.1∈fls/\Yfq fk (flD P l σ) ve p)\/YaW ve fls p.2=true)/\∀ g,(∀ p∈H,p.1≠g)->DrV P cx l σ fk (flD P l σ) Q m (rm i kept) ((i,mk g)::ve) (putT o.dst (mk g) τ) pend fz ((g,obj)::H))
theorem Yco {cx:Cx} {l:List Oper} {σ:Env} {Q:QQ} {m:Nat} {rem:List (Nat × Oper)} {ve τ:Env} {pend:Pend} (h:NP P cx l σ fk fz H (KQ P cx l σ Q m fz H) rem ve τ pend []):DrV P cx l σ fk (flD P l σ) Q (m+1) rem ve τ pend fz H:=h
theorem Ycm {cx:Cx} {l:List Oper} {σ:Env} {fz:FZ} {H:HP} {K K':Env->Env->Pend->List (Nat × Oper)->Prop} (hK:∀ ve τ pend kept,K ve τ pend kept->K' ve τ pend kept):∀ (rem:List (Nat × Oper)) (ve τ:Env) (pend:Pend) (kept:List (Nat × Oper)),
 NP P cx l σ fk fz H K rem ve τ pend kept->NP P cx l σ fk fz H K' rem ve τ pend kept
 | [],_,_,_,_,h=>hK _ _ _ _ h
 | (i,o)::r,ve,τ,pend,kept,h=>by
  unfold NP at h ⊢;rcases h with ⟨h1,v,H0,h2,h3,h4⟩ | h
  ·exact .inl ⟨h1,v,H0,h2,h3,Ycm hK r _ _ _ _ h4⟩
  exact .inr (Ycm hK r _ _ _ _ h)
theorem YkP {cx:Cx} {l:List Oper} {σ:Env} {fz:FZ} {H:HP} {K:Env->Env->Pend->List (Nat × Oper)->Prop} {ve τ:Env} {pend:Pend}:∀ (rem kept:List (Nat × Oper)),K ve τ pend (kept++rem)->NP P cx l σ fk fz H K rem ve τ pend kept
 | [],kept,h=>by simpa [NP] using h
 | (i,o)::r,kept,h=>by
  unfold NP;exact .inr (YkP r (kept++ [(i,o)]) (by simpa using h))
theorem Ycp {cx:Cx} {r:Operand->Option Value} {K K':Value->FZ->HP->Prop} (h:YdY P cx o r fz H K) (hk:∀ v fz' H',K v fz' H'->K' v fz' H'):YdY P cx o r fz H K':=fun Hx=>
 Does.of fun ρ w hr hi=>((h Hx).run ρ w hr hi).mono fun _ _ ⟨fz',H',hi',H1,e,hv⟩=>⟨fz',H',hi',H1,e,hk _ _ _ hv⟩
theorem YkQ {cx:Cx} {l:List Oper} {σ:Env} {Q:QQ} {m m':Nat} (hD:∀ rem ve τ pend fz H,DrV P cx l σ fk (flD P l σ) Q m rem ve τ pend fz H->DrV P cx l σ fk (flD P l σ) Q m' rem ve τ pend fz H) {ve τ:Env} {pend:Pend} {kept:List (Nat × Oper)} (h:KQ P cx l σ Q m fz H ve τ pend kept):KQ P cx l σ Q m' fz H ve τ pend kept:=by
 rcases h with h | ⟨h1,fls,h2,h3⟩ | ⟨i,o,h1,obj,mk,h2,fls,h3,h4,h5⟩
 ·exact .inl h
 ·refine .inr (.inl ⟨h1,fls,h2,fun p hp=>?_⟩);rcases h3 p hp with h | h | ⟨g1,g2,g3⟩
  ·exact .inl h
  ·exact .inr (.inl h)
  exact .inr (.inr ⟨g1,g2,Ycp g3 fun v fz' H' ⟨k1,k2,k3⟩=>⟨k1,k2,hD _ _ _ _ _ _ k3⟩⟩)
 exact .inr (.inr ⟨i,o,h1,obj,mk,h2,fls,h3,h4,fun g hg=>hD _ _ _ _ _ _ (h5 g hg)⟩)
theorem YhW {cx:Cx} {l:List Oper} {σ:Env} {Q:QQ}:∀ {m:Nat} {rem:List (Nat × Oper)} {ve τ:Env} {pend:Pend} {fz:FZ} {H:HP},DrV P cx l σ fk (flD P l σ) Q m rem ve τ pend fz H->DrV P cx l σ fk (flD P l σ) Q (m+1) rem ve τ pend fz H
 | 0,_,_,_,_,_,_,h=>h.elim
 | m+1,rem,ve,τ,pend,fz,H,h=>by
  have h':NP P cx l σ fk fz H (KQ P cx l σ Q m fz H) rem ve τ pend []:=h;exact Yco (Ycm (fun ve τ pend kept hk=>YkQ (fun _ _ _ _ _ _ hd=>YhW hd) hk) _ _ _ _ _ h')
theorem YdX {cx:Cx} {l:List Oper} {σ:Env} {Q:QQ} {rem:List (Nat × Oper)} {ve τ:Env} {pend:Pend} {m m':Nat} (hm:m<=m') (h:DrV P cx l σ fk (flD P l σ) Q m rem ve τ pend fz H):DrV P cx l σ fk (flD P l σ) Q m' rem ve τ pend fz H:=by
 induction hm with
 | refl=>exact h
 | step _ ih=>exact YhW ih
theorem YkR {cx:Cx} {l:List Oper} {σ:Env} {Q:QQ} {m m':Nat} {ve τ:Env} {pend:Pend} {kept:List (Nat × Oper)} (hm:m<=m') (h:KQ P cx l σ Q m fz H ve τ pend kept):KQ P cx l σ Q m' fz H ve τ pend kept:=
 YkQ (fun _ _ _ _ _ _ hd=>YdX hm hd) h
def MDr (P:Program) (tT:TT) (n:Nat) (all:List Oper) (σA:Tr AV) (rem:List (Nat × Oper)) (veA:Tr AV) (pendA:Pn) (kept:List (Nat × Oper)) (s:St) (k:CK):Prop:=
 ∀ cx fz ν0 nx0 ν σ ve τ pend H Fm,ν0.le ν->nx0<=s.nx->ER ν σA σ->VR ν veA ve->ER ν s.env τ->PR ν s.heap pendA pend->HR tT ν s.heap H Fm->Yac ν s.nx->
  NP P cx all σ fk fz H (KQ P cx all σ (QE tT fz ν0 nx0 s.nt Fm k) (rem.length+kept.length+n) fz H) rem ve τ pend kept
def MDs (P:Program) (tT:TT) (n:Nat) (all:List Oper) (σA:Tr AV) (veA:Tr AV) (pendA:Pn) (kept:List (Nat × Oper)) (s:St) (k:CK):Prop:=
 ∀ cx fz ν0 nx0 ν σ ve τ pend H Fm,ν0.le ν->nx0<=s.nx->ER ν σA σ->VR ν veA ve->ER ν s.env τ->PR ν s.heap pendA pend->HR tT ν s.heap H Fm->Yac ν s.nx->
  KQ P cx all σ (QE tT fz ν0 nx0 s.nt Fm k) (kept.length+n) fz H ve τ pend kept
theorem sDr_s {ih:IH} {all:List Oper} {σA veA:Tr AV} {rem:List (Nat × Oper)} {pendA:Pn} {kept:List (Nat × Oper)} {s:St} {k:CK} (hT:TA tT T)
 (hdr:∀ all σA rem veA pendA kept s k,ih (.dr all σA rem veA pendA kept) s k=true->MDr P tT n all σA rem veA pendA kept s k) (hds:∀ all σA veA pendA kept s k,ih (.ds all σA veA pendA kept) s k=true->MDs P tT n all σA veA pendA kept s k)
 (hf:sDr all σA rem veA pendA kept tT ih s k=true):MDr P tT (n+1) all σA rem veA pendA kept s k:=fun cx fz ν0 nx0 ν σ ve τ pend H Fm hle hnx hσ hv he hp hh hfr=>by
 cases rem with
 | nil=>
  have:=hds _ _ _ _ _ _ _ hf cx fz ν0 nx0 ν σ ve τ pend H Fm hle hnx hσ hv he hp hh hfr;exact YkR (by simp) this
 | cons p r=>
  obtain ⟨i,o⟩:=p;have hkeep:ih (.dr all σA r veA pendA (kept++ [(i,o)])) s k=true->NP P cx all σ fk fz H (KQ P cx all σ (QE tT fz ν0 nx0 s.nt Fm k) (((i,o)::r).length+kept.length+(n+1)) fz H) ((i,o)::r) ve τ pend kept:=fun hf=>by
   have:=hdr _ _ _ _ _ _ _ _ hf cx fz ν0 nx0 ν σ ve τ pend H Fm hle hnx hσ hv he hp hh hfr;unfold NP;exact .inr (Ycm (fun _ _ _ _ h=>YkR (by simp;omega) h) _ _ _ _ _ this)
  have hf1:sDr1 tT ih all σA i o r veA pendA kept s k=true:=hf;unfold sDr1 at hf1;cases hb:(fk o || Yc1 veA o) with
  | true=>
   rw [hb,Y4] at hf1;unfold Yi6 at hf1;rw [Wq] at hf1;exact hkeep hf1
  | false=>
   rw [hb,YF] at hf1;simp only [Bool.or_eq_false_iff] at hb;obtain ⟨b,hg,hf1⟩:=Yf hf1;have hw:=Yke hv hg;cases b with
   | false=>
    rw [YF] at hf1;obtain ⟨ve',hu,hf1⟩:=YC _ _ _ _ _ hf1;have hun:gv ν (.tup [])=some undef:=by simp [gv,gvs,undef]
    obtain ⟨e,h1,h2,h3⟩:=Yef he hun hf1;have:=hdr _ _ _ _ _ _ _ _ h3 cx fz ν0 nx0 ν σ ((i,undef)::ve) (putT o.dst undef τ) ((i,[])::pend) H Fm hle hnx hσ (hv.put hu hun) h1 ⟨rfl,by simp,hp⟩ hh hfr;unfold NP;exact .inl ⟨hb.1,undef,[],List.nil_sublist _,.inr ⟨hw,rfl⟩,Ycm (fun _ _ _ _ h=>YkR (by simp;omega) h) _ _ _ _ _ this⟩
   | true=>
    rw [Y4] at hf1;obtain ⟨x,hx,hxs,_⟩:=oxT_s hT hf1;have hk':Yi6 ih all σA i o r veA pendA kept s k=true->NP P cx all σ fk fz H (KQ P cx all σ (QE tT fz ν0 nx0 s.nt Fm k) (((i,o)::r).length+kept.length+(n+1)) fz H) ((i,o)::r) ve τ pend kept:=fun hf=>by
     unfold Yi6 at hf;rw [Wq] at hf;exact hkeep hf
    cases x with
    | q f=>
     have hq:sQ f tT ih all σA i o r veA pendA kept s k=true:=hx;unfold sQ at hq;rw [Wq] at hq;obtain ⟨hw0,hq,hg0⟩:=Yja hq;obtain ⟨H0,hs0,hh0,hpr⟩:=hh.restrict (t:=hw0) (ws:=watch (rdQ all i o σA veA) s.heap o.op) (fun id x hx=>by
      rcases hg0 id x hx with h | h
      ·exact h
      cases h)
     obtain ⟨av,v,h1,h2,h3⟩:=hxs cx fz ν _ _ hw0 H0 [] _ o.dst o.type o.pos o.after o.guard (Yji (all:=all) (i:=i) (o:=o) hσ hv) hh0 hq;obtain ⟨ve',hu,h1⟩:=YC _ _ _ _ _ h1;obtain ⟨e,g1,g2,g3⟩:=Yef he h2 h1;have:=hdr _ _ _ _ _ _ _ _ g3 cx fz ν0 nx0 ν σ ((i,v)::ve) (putT o.dst v τ) ((i,H0)::pend) H Fm hle hnx hσ (hv.put hu h2) g1 ⟨rfl,hpr,hp⟩ hh hfr;unfold NP;exact .inl ⟨hb.1,v,H0,hs0,.inl ⟨hw,h3⟩,Ycm (fun _ _ _ _ h=>YkR (by simp;omega) h) _ _ _ _ _ this⟩
    | l f=>exact hk' hx
    | k f=>exact hk' hx
    | call f xs=>exact hk' hx
    | cv=>exact hk' hx
    | bad=>exact hk' hx
theorem YkJ:∀ {l:List (Nat × Oper)} {n:Nat},asc l n=true->(l.map Prod.fst).Nodup/\∀ p∈l,n<=p.1
 | [],_,_=>⟨by simp,by simp⟩
 | p::r,n,h=>by
  simp only [asc] at h;cases hb:Nat.ble n p.1 with
  | false=>rw [hb] at h;cases h
  | true=>
   rw [hb] at h;rw [Nat.ble_eq] at hb;obtain ⟨h1,h2⟩:=YkJ h;refine ⟨?_,fun q hq=>?_⟩
   ·simp only [List.map_cons,List.nodup_cons];refine ⟨fun hc=>?_,h1⟩;obtain ⟨q,hq,he⟩:=List.mem_map.1 hc;have h3:p.1+1<=q.1:=h2 q hq;omega
   cases hq with
   | head=>exact hb
   | tail _ hq=>have h3:p.1+1<=q.1:=h2 q hq;omega
theorem YjB {kept:List (Nat × Oper)} {p:Nat × Oper}:p∈rm i kept↔p∈kept/\p.1≠i:=by
 unfold rm;rw [List.mem_filter];constructor
 ·rintro ⟨h1,h2⟩;refine ⟨h1,fun he=>?_⟩;rw [he,Nat.beq_refl] at h2;cases h2
 rintro ⟨h1,h2⟩;exact ⟨h1,by rw [Xa h2];rfl⟩
theorem YeD {kept:List (Nat × Oper)} (h:(kept.map Prod.fst).Nodup):∀ {p q:Nat × Oper},p∈kept->q∈kept->p.1=q.1->p=q:=by
 induction kept with
 | nil=>intro p q hp;cases hp
 | cons x r ih=>
  simp only [List.map_cons,List.nodup_cons] at h;intro p q hp hq he;cases hp with
  | head=>
   cases hq with
   | head=>rfl
   | tail _ hq=>exact absurd (List.mem_map.2 ⟨q,hq,he.symm⟩) h.1
  | tail _ hp=>
   cases hq with
   | head=>exact absurd (List.mem_map.2 ⟨p,hp,he⟩) h.1
   | tail _ hq=>exact ih h.2 hp hq he
theorem rm_len {kept:List (Nat × Oper)} {p:Nat × Oper} (hp:p∈kept) (hi:p.1=i):(rm i kept).length+1<=kept.length:=by
 unfold rm;have:=List.length_filter_lt_length_iff_exists (l:=kept) (p:=fun p=>!Nat.beq p.1 i);have h2:=this.2 ⟨p,hp,by rw [hi,Nat.beq_refl];simp⟩;omega
theorem YjY {b:Option Bool} (h:isT b=true):b=some true:=by
 cases b with
 | none=>cases h
 | some b=>cases b with
  | false=>cases h
  | true=>rfl
theorem sOne_s {ih:IH} {all:List Oper} {σA veA:Tr AV} {pendA:Pn} {kept:List (Nat × Oper)} {s:St} {k:CK} (hT:TA tT T) (hcall:∀ g args s k,ih (.call g args) s k=true->Yfo P tT g args s k)
 (hdr:∀ all σA rem veA pendA kept s k,ih (.dr all σA rem veA pendA kept) s k=true->MDr P tT n all σA rem veA pendA kept s k) (hin:(i,o)∈kept) (hnf:fk o=false)
 (hf:sOne tT ih all σA i o veA pendA kept s k=true):MDs P tT (n+1) all σA veA pendA kept s k:=fun cx fz ν0 nx0 ν σ ve τ pend H Fm hle hnx hσ hv he hp hh hfr=>by
 obtain ⟨hc,hf⟩:=YE hf;rw [Wq] at hf;simp only [Bool.and_eq_true] at hc;obtain ⟨hg,ha,hro⟩:=hc;have hnd:=(YkJ ha).1;have hrest:=Yhh hT hσ hv hro;obtain ⟨x,hx,hxs,_⟩:=oxT_s hT hf;have hdo:=sDo_s (cx:=cx) (fz:=fz) hT hcall hxs (Yji (all:=all) (i:=i) (o:=o) hσ hv) hh hfr hx;refine .inr (.inl ⟨⟨(i,o),hin,hnf⟩,cloA veA kept [],?_,fun p hpk=>?_⟩)
 ·refine YgV fun p hpk hpf hpn=>?_
  have hne:p.1≠i:=fun he=>by
   have:=YeD hnd hpk hin he;rw [this,hnf] at hpf;cases hpf
  rcases hrest p (YjB.2 ⟨hpk,hne⟩) with h | h
  ·exact absurd h.1 hpn
  exact h.2
 by_cases hpi:p.1=i
 ·have:=YeD hnd hpk hin hpi;subst this;refine .inr (.inr ⟨hnf,Yke hv (YjY hg),Ycp hdo fun v fz' H' ⟨e1,ν',av,h',nx',g1,g2,g3,g4,g5,g6⟩=>?_⟩);subst e1;obtain ⟨hsame,g3⟩:=YE g3;obtain ⟨ve',hu,g3⟩:=YC _ _ _ _ _ g3;obtain ⟨e,k1,k2,k3⟩:=Yef (s:=⟨s.env,h',nx',s.nt⟩) (he.mono g1) g4 g3;rw [Wq] at k3;have hpl:=(hp.left (o:=o)).same hsame g1;have:=hdr _ _ _ _ _ _ _ _ k3 cx fz' ν0 nx0 ν' σ ((i,v)::ve) (putT o.dst v τ) (Xo pend o) H' Fm (hle.trans g1) (Nat.le_trans hnx g2) (hσ.mono g1) ((hv.mono g1).put hu g4) k1 hpl g5 g6;refine ⟨Zd,hpl.mem g5,YdX ?_ (Yco this)⟩;have:=rm_len hin rfl;simp only at this ⊢;simp;omega
 rcases hrest p (YjB.2 ⟨hpk,hpi⟩) with h | h
 ·exact .inl h
 exact .inr (.inl (Ya9 h.2))
theorem Yjv {ve:Tr AV}:∀ {l:List (Nat × Oper)} {p:Nat × Oper},pickF ve l=some p->p∈l/\fk p.2=true
 | [],_,h=>by cases h
 | q::r,p,h=>by
  simp only [pickF] at h;cases hb:(fk q.2 && !Yc1 ve q.2) with
  | true=>
   rw [hb] at h;injection h with h;subst h
   simp only [Bool.and_eq_true] at hb;exact ⟨by simp,hb.1⟩
  | false=>
   rw [hb] at h;obtain ⟨h1,h2⟩:=Yjv h;exact ⟨by simp [h1],h2⟩
theorem sFlo_s {ih:IH} {all:List Oper} {σA veA:Tr AV} {pendA:Pn} {kept:List (Nat × Oper)} {s:St} {k:CK} (hT:TA tT T)
 (hdr:∀ all σA rem veA pendA kept s k,ih (.dr all σA rem veA pendA kept) s k=true->MDr P tT n all σA rem veA pendA kept s k)
 (hf:sFlo tT ih all σA veA pendA kept s k=true):MDs P tT (n+1) all σA veA pendA kept s k:=fun cx fz ν0 nx0 ν σ ve τ pend H Fm hle hnx hσ hv he hp hh hfr=>by
 obtain ⟨⟨i,o⟩,hpick,hf⟩:=Yf hf;obtain ⟨hin,hfk⟩:=Yjv hpick;obtain ⟨hc,hf⟩:=YE hf;simp only [Bool.and_eq_true] at hc;obtain ⟨ha,hro⟩:=hc;have hnd:=(YkJ ha).1;have hrest:=Yhh hT hσ hv hro;obtain ⟨hg,f,hox⟩:=fk_iff hfk;simp only at hg hox hf hro;rw [hox] at hf;obtain ⟨z,hz,hf⟩:=Yf hf;have hl:LS P tT f o.op:=by
  have:=ox_s (P:=P) hT o.op;rw [hox] at this;exact this
 obtain ⟨hmk,hns,x,hgo,hrun⟩:=hl ν _ _ z.1 z.2 (Yji (all:=all) (i:=i) (o:=o) hσ hv) hz;have hfA:∀ q:AO,∀ k:AO->Bool,fA q k=k q:=fun q k=>by
  cases q with
  | cells cs e sl fr=>exact Wq cs fun cs=>k (.cells cs e sl fr)
  | map es n=>rfl
  | mit m a l b=>rfl
 rw [hfA] at hf;obtain ⟨h',hu,hf⟩:=YC _ _ _ _ _ hf;rw [YaL] at hf;obtain ⟨ve',huv,hf⟩:=YC _ _ _ _ _ hf;have hfl:flD P all σ i o ve=some (x,z.2.real):=Ykh ⟨hg,fun g=>by cases z.2<;>rfl,fun ρ w hr=>hrun o.dst o.type o.pos o.after o.guard ρ w hr⟩;refine .inr (.inr ⟨i,o,hin,x,z.2.real,hfl,cloA veA (rm i kept) [],?_,fun p hpk=>?_,fun g hgf=>?_⟩)
 ·refine YgV fun p hpk hpf hpn=>?_
  rcases hrest p hpk with h | h
  ·exact absurd h.1 hpn
  exact h.2
 ·rcases hrest p hpk with h | h
  ·exact .inl h
  exact .inr (Ya9 h.2)
 have hle1:ν.le (ν.ext s.nx g none none):=YdV hfr;have hgv:=YhV hmk (ν:=ν.ext s.nx g none none) (i:=s.nx) WY;obtain ⟨e,k1,k2,k3⟩:=Yef (s:=⟨s.env,h',s.nx+1,s.nt⟩) (he.mono hle1) hgv hf;rw [Wq] at k3;have hp':PR (ν.ext s.nx g none none) h' pendA pend:=hp.move hle1 fun z _ id _ o' ho' hb=>by
  rw [hu id,if_neg (fun hc=>by rw [hc] at hb;exact hb (hfr s.nx (Zs _)).1)];exact ho'
 have:=hdr _ _ _ _ _ _ _ _ k3 cx fz ν0 nx0 _ σ ((i,z.2.real g)::ve) (putT o.dst (z.2.real g) τ) pend ((g,x)::H) Fm (hle.trans hle1) (by show nx0<=s.nx+1;omega) (hσ.mono hle1) ((hv.mono hle1).put huv hgv) k1 hp'
  (hh.new hle1 WY (YdC hle1 hgo) hgf hu (fun cs e j fr he=>absurd he (hns cs e j fr))) (Ya7 hfr)
 refine YdX ?_ (Yco this);have:=rm_len hin rfl;simp only at this ⊢;simp;omega
end
end Go.Ev
