/- The texts Base, laid together. Conditions: none. -/
import Derived.Test.YtfjopfinkdhmaaaGreatDoorRZB
import Derived.WalkKit
import Derived.Orders
import GoSem.ClaimData
import Derived.WideLaws
set_option linter.all false
namespace Go.Lx
open Go.RowKit
abbrev FZ:=Nat->Option Obj
abbrev HP:=List (Nat × Obj)
abbrev Env:=List (Nat × Value)
abbrev Zn:Value:=.slice none 0 0
abbrev Ze:Value:=.string ⟨#[]⟩
abbrev Zk (x:Int):Value:=.int .i64 x
abbrev Zp (g:Nat):Value:=.pointer (some ⟨g,0,none⟩)
abbrev Zv (g n c:Nat):Value:=.slice (some ⟨g,0,none⟩) n c
def lk:Env->Nat->Option Value
 | [],_=>none
 | (j,v)::r,i=>match Nat.beq j i with
  | true=>some v
  | false=>lk r i
theorem Xh (d:Nat) (v:Value) (σ:Env):lk ((d,v)::σ) d=some v:=by
 simp only [lk,Nat.beq_refl]
variable {i:Nat}
theorem YZ {d:Nat} (v:Value) (σ:Env) (h:d≠i):lk ((d,v)::σ) i=lk σ i:=by
 have:Nat.beq d i=false:=by
  cases hb:Nat.beq d i
  ·rfl
  exact absurd (Nat.eq_of_beq_eq_true hb) h
 simp only [lk,this]
def rd (σ:Env):Operand->Option Value
 | .tmp t=>lk σ t
 | .const v=>some v
 | .func f=>some (.func (.func f) #[] #[])
 | .global g=>some (.pointer (some ⟨g,0,none⟩))
def rds (r:Operand->Option Value):List Operand->Option (List Value)
 | []=>some []
 | x::xs=>match r x with
  | none=>none
  | some v=>match rds r xs with
   | none=>none
   | some vs=>some (v::vs)
structure Sat (n:Nat) (σ:Env) (a:Act):Prop where
 size:a.tmps.size=n
 defers:a.defers=[]
 slot:∀ i v,lk σ i=some v->a.tmps[i]?=some v
variable {n:Nat}
theorem Sat.put {σ:Env} {a:Act} (h:Sat n σ a) (d:Nat) (hd:d<n) (v:Value):Sat n ((d,v)::σ) (a.put (some d) v):=by
 refine ⟨by simp [Act.put,h.size],by simp [Act.put,h.defers],fun i u hu=>?_⟩;by_cases hi:d=i
 ·subst hi;rw [Xh] at hu;injection hu with hu
  subst hu;simp [Act.put,h.size,hd]
 rw [YZ v σ hi] at hu;have:=h.slot i u hu;simp only [Act.put];rw [Array.getElem?_setIfInBounds_ne hi];exact this
def Sub:Env->Env->Prop
 | [],_=>True
 | (i,v)::r,σ=>lk σ i=some v/\Sub r σ
theorem Sub.lk_ {ρ σ:Env} (h:Sub ρ σ):∀ i v,lk ρ i=some v->lk σ i=some v:=by
 induction ρ with
 | nil=>intro i v hv;cases hv
 | cons p r ih=>
  obtain ⟨j,u⟩:=p;intro i v hv;by_cases hji:j=i
  ·subst hji;rw [Xh] at hv;injection hv with hv
   subst hv;exact h.1
  rw [YZ u r hji] at hv;exact ih h.2 i v hv
theorem Sat.sub {ρ σ:Env} {a:Act} (h:Sat n σ a) (hs:Sub ρ σ):Sat n ρ a:=
 ⟨h.size,h.defers,fun i v hv=>h.slot i v (hs.lk_ i v hv)⟩
def Reads (r:Operand->Option Value) (ρ:Operand->Value):Prop:=∀ x v,r x=some v->ρ x=v
theorem Sat.reads {σ:Env} {a:Act} (h:Sat n σ a):Reads (rd σ) a.eval:=by
 intro x v hv;cases x with
 | tmp t=>have:=h.slot t v hv;simp [Act.eval,this]
 | const u=>injection hv
 | global g=>injection hv
 | func f=>injection hv
theorem Reads.all {r:Operand->Option Value} {ρ:Operand->Value} (h:Reads r ρ):∀ (xs:List Operand) (vs:List Value),rds r xs=some vs->xs.map ρ=vs
 | [],vs,hv=>by injection hv
 | x::xs,vs,hv=>by
  unfold rds at hv;cases hx:r x with
  | none=>simp [hx] at hv
  | some v=>
   cases hxs:rds r xs with
   | none=>simp [hx,hxs] at hv
   | some us=>
    simp [hx,hxs] at hv;subst hv;simp [h x v hx,h.all xs us hxs]
structure Hp (fz:FZ) (H:HP) (w:World):Prop where
 keep:∀ b o,fz b=some o->w.heap[b]?=some o
 own:∀ p∈H,w.heap[p.1]?=some p.2/\fz p.1=none
 nd:(H.map Prod.fst).Nodup
class Dr where
 d:Prop
instance (priority:=low) drF:Dr:=⟨False⟩
variable [Dr]
set_option linter.unusedSectionVars false
structure Fr (S:List Nat) (w w':World):Prop where
 os:w'.os=w.os
 tape:w'.tape=w.tape
 output:w'.output=w.output
 size:w.heap.size<=w'.heap.size
 block:∀ b,b<w.heap.size->b ∉ S->w'.heap[b]?=w.heap[b]?
 dr:Dr.d->w.drawn<=w'.drawn
structure New (n0:Nat) (S:List Nat) (fz fz':FZ) (H':HP):Prop where
 le:∀ b o,fz b=some o->fz' b=some o
 old:∀ b,b<n0->b ∉ S->fz' b=fz b
 own:∀ p∈H',p.1∈S\/n0<=p.1
structure Cx where
 w0:World
 S:List Nat
 fz0:FZ
structure Inv (cx:Cx) (fz:FZ) (H:HP) (w:World):Prop where
 hp:Hp fz H w
 fr:Fr cx.S cx.w0 w
 nw:New cx.w0.heap.size cx.S cx.fz0 fz H
def Le (fz fz':FZ):Prop:=∀ b o,fz b=some o->fz' b=some o
theorem Le.refl (fz:FZ):Le fz fz:=fun _ _ h=>h
theorem Le.trans {a b c:FZ} (h:Le a b) (k:Le b c):Le a c:=fun i o hi=>k i o (h i o hi)
variable {w:World}
theorem lt_of_heap {b:Nat} {o:Obj} (h:w.heap[b]?=some o):b<w.heap.size:=by
 rcases Nat.lt_or_ge b w.heap.size with hl | hl
 ·exact hl
 rw [Array.getElem?_eq_none hl] at h;cases h
theorem Fr.refl (S:List Nat) (w:World):Fr S w w:=⟨rfl,rfl,rfl,Zs _,fun _ _ _=>rfl,fun _=>Zs _⟩
theorem Fr.trans {S S':List Nat} {a b c:World} (h:Fr S a b) (k:Fr S' b c) (hs:∀ x∈S',x∈S\/a.heap.size<=x):Fr S a c:=
 ⟨k.os.trans h.os,k.tape.trans h.tape,k.output.trans h.output,Nat.le_trans h.size k.size,fun i hi hn=>
  (k.block i (Nat.lt_of_lt_of_le hi h.size) (fun hc=>by rcases hs i hc with h1 | h1;exact hn h1;omega)).trans (h.block i hi hn),fun hd=>Nat.le_trans (h.dr hd) (k.dr hd)⟩
variable {H:HP} {fz:FZ} {w':World}
theorem Inv.world {cx:Cx} (h:Inv cx fz H w) (h1:w'.os=w.os) (h2:w'.tape=w.tape) (h3:w'.output=w.output) (h4:w'.heap=w.heap) (h5:Dr.d->w.drawn<=w'.drawn:=by first | exact fun h=>False.elim h | exact fun _=>Zs _ | exact fun _=>Nat.le_succ _ | (intro _;simp;done)):Inv cx fz H w':=by
 obtain ⟨⟨a,b,c⟩,⟨d,e,f,g,i,ii⟩,k⟩:=h;exact ⟨⟨by rw [h4];exact a,by rw [h4];exact b,c⟩,⟨h1.trans d,h2.trans e,h3.trans f,by rw [h4];exact g,by rw [h4];exact i,fun hd=>Nat.le_trans (ii hd) (h5 hd)⟩,k⟩
theorem Inv.drew {cx:Cx} (h:Inv cx fz H w):Inv cx fz H {w with drawn:=w.drawn+1}:=h.world rfl rfl rfl rfl
theorem Inv.alloc {cx:Cx} (h:Inv cx fz H w) (o:Obj):Inv cx fz ((w.heap.size,o)::H) (w.alloc o):=by
 obtain ⟨⟨a,b,c⟩,⟨d,e,f,g,i,ii⟩,⟨j,k,l⟩⟩:=h;have hold:∀ x,x<w.heap.size->(w.alloc o).heap[x]?=w.heap[x]?:=fun x hx=>Below.heap_alloc w o x hx
 have hnew:fz w.heap.size=none:=by
  cases hq:fz w.heap.size with
  | none=>rfl
  | some q=>have:=lt_of_heap (a _ _ hq);omega
 refine ⟨⟨fun x q hx=>?_,fun p hp=>?_,?_⟩,⟨d,e,f,?_,fun x hx hn=>?_,fun hd=>by simpa using ii hd⟩,⟨j,k,fun p hp=>?_⟩⟩
 ·have:=a x q hx;rw [hold x (lt_of_heap this)];exact this
 ·cases hp with
  | head=>exact ⟨heap_alloc_new w o,hnew⟩
  | tail _ hp=>have:=b p hp;exact ⟨by rw [hold _ (lt_of_heap this.1)];exact this.1,this.2⟩
 ·simp only [List.map_cons,List.nodup_cons];refine ⟨fun hm=>?_,c⟩;obtain ⟨p,hp,he⟩:=List.mem_map.1 hm;have:=lt_of_heap (b p hp).1;omega
 ·simp;omega
 ·rw [hold x Zi];exact i x hx hn
 cases hp with
 | head=>exact .inr g
 | tail _ hp=>exact l p hp
theorem Inv.forget {cx:Cx} {H':HP} (h:Inv cx fz H w) (hs:H'.Sublist H):Inv cx fz H' w:=
 ⟨⟨h.hp.keep,fun p hp=>h.hp.own p (hs.subset hp),h.hp.nd.sublist (hs.map _)⟩,h.fr,⟨h.nw.le,h.nw.old,fun p hp=>h.nw.own p (hs.subset hp)⟩⟩
theorem Inv.perm {cx:Cx} {H':HP} (h:Inv cx fz H w) (hs:H'.Perm H):Inv cx fz H' w:=
 ⟨⟨h.hp.keep,fun p hp=>h.hp.own p (hs.subset hp),(hs.map _).symm.nodup h.hp.nd⟩,h.fr,⟨h.nw.le,h.nw.old,fun p hp=>h.nw.own p (hs.subset hp)⟩⟩
variable {g:Nat}
theorem Inv.write {cx:Cx} {pre post:HP} {o o':Obj} (h:Inv cx fz (pre++(g,o)::post) w)
 (h1:w'.os=w.os) (h2:w'.tape=w.tape) (h3:w'.output=w.output) (h4:w'.heap.size=w.heap.size) (h5:w'.heap[g]?=some o') (h6:∀ k,k≠g->w'.heap[k]?=w.heap[k]?) (h7:Dr.d->w.drawn<=w'.drawn:=by first | exact fun h=>False.elim h | exact fun _=>Zs _ | (intro _;simp;done)):
 Inv cx fz (pre++(g,o')::post) w':=by
 obtain ⟨⟨a,b,c⟩,⟨d,e,f,gg,i,ii⟩,⟨j,k,l⟩⟩:=h;have hg:=b (g,o) (by simp);have hnd:(pre++(g,o')::post).map Prod.fst=(pre++(g,o)::post).map Prod.fst:=by simp
 have hgS:g∈cx.S\/cx.w0.heap.size<=g:=l (g,o) (by simp);have hne:∀ p:Nat × Obj,(p∈pre\/p∈post)->p.1≠g:=by
  intro p hp he;simp only [List.map_append,List.map_cons,List.nodup_append,List.nodup_cons] at c;rcases hp with hp | hp
  ·exact c.2.2 p.1 (List.mem_map.2 ⟨p,hp,rfl⟩) g (by simp) he
  exact c.2.1.1 (he ▸ List.mem_map.2 ⟨p,hp,rfl⟩)
 refine ⟨⟨fun x q hx=>?_,fun p hp=>?_,by rw [hnd];exact c⟩,⟨h1.trans d,h2.trans e,h3.trans f,by omega,fun x hx hn=>?_,fun hd=>Nat.le_trans (ii hd) (h7 hd)⟩,⟨j,k,fun p hp=>?_⟩⟩
 ·rw [h6 x (fun hc=>by subst hc;rw [hg.2] at hx;cases hx)];exact a x q hx
 ·simp only [List.mem_append,List.mem_cons] at hp;rcases hp with hp | rfl | hp
  ·rw [h6 _ (hne p (.inl hp))];exact b p (by simp [hp])
  ·exact ⟨h5,hg.2⟩
  rw [h6 _ (hne p (.inr hp))];exact b p (by simp [hp])
 ·rw [h6 x (fun hc=>by subst hc;rcases hgS with h7 | h7;exact hn h7;omega)];exact i x hx hn
 simp only [List.mem_append,List.mem_cons] at hp;rcases hp with hp | rfl | hp
 ·exact l p (by simp [hp])
 ·exact hgS
 exact l p (by simp [hp])
def upd (fz:FZ) (g:Nat) (o:Obj):FZ:=fun b=>if b=g then some o else fz b
theorem Inv.freeze {cx:Cx} {o:Obj} (h:Inv cx fz ((g,o)::H) w):Inv cx (upd fz g o) H w/\Le fz (upd fz g o):=by
 obtain ⟨⟨a,b,c⟩,fr,⟨j,k,l⟩⟩:=h;have hg:=b (g,o) (by simp);have hgS:g∈cx.S\/cx.w0.heap.size<=g:=l (g,o) (by simp);have hle:Le fz (upd fz g o):=by
  intro x q hx;unfold upd;by_cases he:x=g
  ·subst he;rw [hg.2] at hx;cases hx
  rw [if_neg he];exact hx
 simp only [List.map_cons,List.nodup_cons] at c;refine ⟨⟨⟨fun x q hx=>?_,fun p hp=>⟨(b p (by simp [hp])).1,?_⟩,c.2⟩,fr,⟨fun x q hx=>hle x q (j x q hx),fun x hx hn=>?_,fun p hp=>l p (by simp [hp])⟩⟩,hle⟩
 ·unfold upd at hx;by_cases he:x=g
  ·subst he;rw [if_pos rfl] at hx;injection hx with hx;subst hx;exact hg.1
  rw [if_neg he] at hx;exact a x q hx
 ·unfold upd;rw [if_neg (fun he=>c.1 (List.mem_map.2 ⟨p,hp,he⟩))];exact (b p (by simp [hp])).2
 unfold upd;rw [if_neg (fun he=>by subst he;rcases hgS with h7 | h7;exact hn h7;omega)];exact k x hx hn
theorem Inv.quiet {cx:Cx} (h:Inv cx fz H w) (k:Fr [] w w'):Inv cx fz H w':=by
 obtain ⟨⟨a,b,c⟩,d,e⟩:=h;refine ⟨⟨fun x o hx=>?_,fun p hp=>?_,c⟩,d.trans k (by simp),e⟩
 ·have:=a x o hx;rw [k.block x (lt_of_heap this) (by simp)];exact this
 have:=b p hp;exact ⟨by rw [k.block _ (lt_of_heap this.1) (by simp)];exact this.1,this.2⟩
def W3 (P:Program) (R:Value->World->Prop):Result Next->Prop
 | .ok (.value v) w'=>R v w'
 | .ok .skip w'=>R undef w'
 | .ok (.enter f args) w'=>Calls P f args w' fun e w''=>∃ v,e=.returned v/\R v w''
 | _=>False
theorem W3.mono {P:Program} {R R':Value->World->Prop} (h:∀ v w,R v w->R' v w) {r:Result Next} (hr:W3 P R r):W3 P R' r:=by
 unfold W3 at*;split at hr
 ·exact h _ _ hr
 ·exact h _ _ hr
 ·exact hr.mono fun e w'' ⟨v,he,hv⟩=>⟨v,he,h _ _ hv⟩
 exact hr.elim
theorem W3.wp {P:Program} {o:Oper} {a:Act} {next:Act->World->Prop} {Q:Exit->Act->World->Prop}
 (h:W3 P (fun v w'=>next (a.put o.dst v) w') ((execOp a.eval o).run P w)):o.wp P a w next Q:=by
 unfold Oper.wp;unfold W3 at h;split at h
 ·rename_i hr;rw [hr];exact h
 ·rename_i hr;rw [hr];exact h
 ·rename_i hr;rw [hr];exact h.mono fun e w'' ⟨v,he,hv⟩=>by subst he;exact hv
 exact h.elim
def DoesQ (P:Program) (cx:Cx) (o:Oper) (r:Operand->Option Value) (fz:FZ) (H:HP) (V:Value->Prop):Prop:=
 ∃ v,V v/\∀ ρ w,Reads r ρ->Inv cx fz H w->W3 P (fun v' w'=>v'=v/\Fr [] w w') ((execOp ρ o).run P w)
def Does (P:Program) (cx:Cx) (o:Oper) (r:Operand->Option Value) (fz:FZ) (H:HP) (K:Value->FZ->HP->Prop):Prop:=
 ∀ ρ w,Reads r ρ->Inv cx fz H w->W3 P (fun v w'=>∃ fz' H',Inv cx fz' H' w'/\K v fz' H') ((execOp ρ o).run P w)
theorem DoesQ.does {P:Program} {cx:Cx} {o:Oper} {r:Operand->Option Value} {K:Value->FZ->HP->Prop} (h:DoesQ P cx o r fz H fun v=>K v fz H):Does P cx o r fz H K:=by
 obtain ⟨v,hv,hh⟩:=h;intro ρ w hr hi;exact (hh ρ w hr hi).mono fun v' w' ⟨he,hw⟩=>⟨fz,H,hi.quiet hw,by subst he;exact hv⟩
theorem DoesQ.mono {P:Program} {cx:Cx} {o:Oper} {r:Operand->Option Value} {V V':Value->Prop} (h:DoesQ P cx o r fz H V) (hv:∀ v,V v->V' v):DoesQ P cx o r fz H V':=by
 obtain ⟨v,h1,h2⟩:=h;exact ⟨v,hv v h1,h2⟩
abbrev QQ:=Exit->Env->FZ->HP->Prop
def lift (cx:Cx) (n:Nat) (Q:QQ):Exit->Act->World->Prop:=fun e a w=>∃ σ fz H,Sat n σ a/\Inv cx fz H w/\Q e σ fz H
def Wp (P:Program) (cx:Cx) (n:Nat) (c:Code) (σ:Env) (fz:FZ) (H:HP) (Q:QQ):Prop:=
 ∀ a w,Sat n σ a->Inv cx fz H w->c.wp P (lift cx n Q) a w
def Seq (P:Program) (cx:Cx) (n:Nat) (ops:Array Oper) (l:List Oper) (σ:Env) (fz:FZ) (H:HP) (Q:QQ):Prop:=
 ∀ a w,Sat n σ a->Inv cx fz H w->wpList P ops (lift cx n Q) l a w
section
variable {P:Program} {cx:Cx} {n:Nat} {σ:Env} {fz:FZ} {H:HP} {Q:QQ} {ops:Array Oper} {rest:List Oper}
def andThen (P:Program) (cx:Cx) (n:Nat) (y:Code) (Q:QQ):QQ
 | .normal,σ,fz,H=>Wp P cx n y σ fz H Q
 | e,σ,fz,H=>Q e σ fz H
theorem Wp.mono {c:Code} {Q':QQ} (h:Wp P cx n c σ fz H Q) (hq:∀ e σ fz H,Q e σ fz H->Q' e σ fz H):Wp P cx n c σ fz H Q':=
 fun a w hs hi=>wp_mono (h a w hs hi) fun _ _ _ ⟨σ,fz,H,h1,h2,h3⟩=>⟨σ,fz,H,h1,h2,hq _ _ _ _ h3⟩
theorem Yj {x y:Code} (h:Wp P cx n x σ fz H (andThen P cx n y Q)):Wp P cx n (.seq x y) σ fz H Q:=by
 intro a w hs hi;refine wp_seq (wp_mono (h a w hs hi) fun e a w hh=>?_);obtain ⟨σ',fz',H',h1,h2,h3⟩:=hh;cases e with
 | normal=>exact h3 a w h1 h2
 | _=>exact ⟨σ',fz',H',h1,h2,h3⟩
theorem YbB (h:Q .normal σ fz H):Wp P cx n .skip σ fz H Q:=fun _ _ hs hi=>wp_skip ⟨σ,fz,H,hs,hi,h⟩
theorem Yf8 (h:Q .ret σ fz H):Wp P cx n .ret σ fz H Q:=fun _ _ hs hi=>wp_ret ⟨σ,fz,H,hs,hi,h⟩
theorem Yd3 {id:Nat} (h:Q (.exit id) σ fz H):Wp P cx n (.exit id) σ fz H Q:=fun _ _ hs hi=>wp_exit ⟨σ,fz,H,hs,hi,h⟩
def blkQ (id:Nat) (Q:QQ):QQ
 | .exit i,σ,fz,H=>match Nat.beq i id with
  | true=>Q .normal σ fz H
  | false=>Q (.exit i) σ fz H
 | e,σ,fz,H=>Q e σ fz H
theorem YcS {id:Nat} {c:Code} (h:Wp P cx n c σ fz H (blkQ id Q)):Wp P cx n (.block id c) σ fz H Q:=by
 intro a w hs hi;refine wp_block (wp_mono (h a w hs hi) fun e a w hh=>?_);obtain ⟨σ',fz',H',h1,h2,h3⟩:=hh;cases e with
 | exit i=>
  unfold Exit.inBlock;unfold blkQ at h3;by_cases he:i=id
  ·subst he;simp only [Nat.beq_refl] at h3;simp only [if_true];exact ⟨σ',fz',H',h1,h2,h3⟩
  have:Nat.beq i id=false:=by
   cases hb:Nat.beq i id
   ·rfl
   exact absurd (Nat.eq_of_beq_eq_true hb) he
  simp only [this] at h3;simp only [he,if_false];exact ⟨σ',fz',H',h1,h2,h3⟩
 | _=>exact ⟨σ',fz',H',h1,h2,h3⟩
theorem Wp.cond {c:Operand} {x y:Code} {t:Bool} (hc:rd σ c=some (.bool t)) (ht:t=true->Wp P cx n x σ fz H Q) (hf:t=false->Wp P cx n y σ fz H Q):Wp P cx n (.cond c x y) σ fz H Q:=by
 intro a w hs hi;exact wp_cond_split (hs.reads _ _ hc) (fun h=>ht h a w hs hi) (fun h=>hf h a w hs hi)
theorem Wp.cond_true {c:Operand} {x y:Code} (hc:rd σ c=some (.bool true)) (ht:Wp P cx n x σ fz H Q):Wp P cx n (.cond c x y) σ fz H Q:=Wp.cond hc (fun _=>ht) (fun h=>by cases h)
theorem Wp.cond_false {c:Operand} {x y:Code} (hc:rd σ c=some (.bool false)) (hf:Wp P cx n y σ fz H Q):Wp P cx n (.cond c x y) σ fz H Q:=Wp.cond hc (fun h=>by cases h) (fun _=>hf)
theorem Wp.weaken {c:Code} {σ':Env} {H':HP} (hs:Sub σ' σ) (hh:H'.Sublist H) (h:Wp P cx n c σ' fz H' Q):Wp P cx n c σ fz H Q:=
 fun a w h1 h2=>h a w (h1.sub hs) (h2.forget hh)
theorem Wp.freeze {c:Code} {o:Obj} {H':HP} (hH:H=(g,o)::H') (h:∀ fz',Le fz fz'->fz' g=some o->Wp P cx n c σ fz' H' Q):Wp P cx n c σ fz H Q:=by
 subst hH;intro a w h1 h2;obtain ⟨h3,h4⟩:=h2.freeze;exact h _ h4 (by simp [upd]) a w h1 h3
def loopQ (I:Nat->Env->FZ->HP->Prop) (m:Nat) (Q:QQ):QQ
 | .normal,σ,fz,H=>∃ m' σ' H',m'<m/\Sub σ' σ/\H'.Sublist H/\I m' σ' fz H'
 | e,σ,fz,H=>Q e σ fz H
theorem Ym {c:Code} (I:Nat->Env->FZ->HP->Prop) {m0:Nat} {σ0:Env} {H0:HP} (k3:I m0 σ0 fz H0) (k1:Sub σ0 σ) (k2:H0.Sublist H)
 (round:∀ m σ fz H,I m σ fz H->Wp P cx n c σ fz H (loopQ I m Q)):Wp P cx n (.loop c) σ fz H Q:=by
 intro a w hs hi b k cs;have key:∀ (m:Nat) (σ:Env) (fz:FZ) (H:HP),I m σ fz H->∀ a w,Sat n σ a->Inv cx fz H w->
  ∃ e a' w',lift cx n Q e a' w'/\Arrives P (lone (b.at a (.code c:: .inLoop c::k)) cs w) b k cs e a' w':=by
  intro m
  induction m using Nat.strongRecOn with
  | _ m ih=>
   intro σ fz H hI a w hs hi;obtain ⟨e,a1,w1,hq,harr⟩:=round m σ fz H hI a w hs hi b (.inLoop c::k) cs;obtain ⟨σ1,fz1,H1,s1,i1,q1⟩:=hq;cases e with
   | normal=>
    obtain ⟨m',σ',H',hlt,g1,g2,g3⟩:=q1;obtain ⟨e2,a2,w2,hq2,harr2⟩:=ih m' hlt σ' fz1 H' g3 a1 w1 (s1.sub g1) (i1.forget g2);exact ⟨e2,a2,w2,hq2,.of_steps (Steps.trans harr (.one step_inLoop)) harr2⟩
   | exit id=>exact ⟨_,a1,w1,⟨σ1,fz1,H1,s1,i1,q1⟩,.pass (x:=.inLoop c) rfl (fun _ _=>.inl (by simp)) harr⟩
   | goto l=>exact ⟨_,a1,w1,⟨σ1,fz1,H1,s1,i1,q1⟩,.pass (x:=.inLoop c) rfl (fun _ _=>.inl (by simp)) harr⟩
   | ret=>exact ⟨_,a1,w1,⟨σ1,fz1,H1,s1,i1,q1⟩,.pass (x:=.inLoop c) rfl (fun _ _=>.inl (by simp)) harr⟩
   | panic ch=>exact ⟨_,a1,w1,⟨σ1,fz1,H1,s1,i1,q1⟩,.pass (x:=.inLoop c) rfl (fun _ _=>.inl (by simp)) harr⟩
   | outgrown=>exact ⟨_,a1,w1,⟨σ1,fz1,H1,s1,i1,q1⟩,.pass (x:=.inLoop c) rfl (fun _ _=>.inl (by simp)) harr⟩
 obtain ⟨e,a',w',hq,harr⟩:=key m0 σ0 fz H0 k3 a w (hs.sub k1) (hi.forget k2);exact ⟨e,a',w',hq,.of_steps (.one step_loop) harr⟩
theorem Yq {id:Nat} {l:List Oper} (h:Seq P cx n l.toArray l σ fz H Q):Wp P cx n (.region id l.toArray false) σ fz H Q:=
 fun a w hs hi=>wp_region_lit (h a w hs hi)
theorem Seq.nil (h:Q .normal σ fz H):Seq P cx n ops [] σ fz H Q:=fun _ _ hs hi=>wpList_nil ⟨σ,fz,H,hs,hi,h⟩
theorem Yb1 {y:Code} (h:Wp P cx n y σ fz H Q):Seq P cx n ops [] σ fz H (andThen P cx n y Q):=Seq.nil h
theorem Ya {d:Nat} {op:Op} {ty:TypeId} {pos:String} {af:Array Edge} (hd:Nat.blt d n=true)
 (h:Does P cx ⟨some d,op,ty,pos,af,none⟩ (rd σ) fz H fun v fz' H'=>Seq P cx n ops rest ((d,v)::σ) fz' H' Q):
 Seq P cx n ops (⟨some d,op,ty,pos,af,none⟩::rest) σ fz H Q:=by
 intro a w hs hi;unfold wpList;rw [if_pos (by simp [Region.wanted])];refine .inl (W3.wp ((h a.eval w hs.reads hi).mono fun v w' hh=>?_));obtain ⟨fz',H',h1,h2⟩:=hh;exact h2 _ _ (hs.put d (by simpa [Nat.blt_eq] using hd) v) h1
theorem YF {op:Op} {ty:TypeId} {pos:String} {af:Array Edge}
 (h:Does P cx ⟨none,op,ty,pos,af,none⟩ (rd σ) fz H fun _ fz' H'=>Seq P cx n ops rest σ fz' H' Q):
 Seq P cx n ops (⟨none,op,ty,pos,af,none⟩::rest) σ fz H Q:=by
 intro a w hs hi;unfold wpList;rw [if_pos (by simp [Region.wanted])];refine .inl (W3.wp ((h a.eval w hs.reads hi).mono fun v w' hh=>?_));obtain ⟨fz',H',h1,h2⟩:=hh;exact h2 _ _ hs h1
theorem Seq.q {d:Nat} {op:Op} {ty:TypeId} {pos:String} {af:Array Edge} (hd:Nat.blt d n=true)
 (h:DoesQ P cx ⟨some d,op,ty,pos,af,none⟩ (rd σ) fz H fun v=>Seq P cx n ops rest ((d,v)::σ) fz H Q):
 Seq P cx n ops (⟨some d,op,ty,pos,af,none⟩::rest) σ fz H Q:=Ya hd h.does
theorem Seq.freeze {l:List Oper} {o:Obj} {H':HP} (hH:H=(g,o)::H') (h:∀ fz',Le fz fz'->fz' g=some o->Seq P cx n ops l σ fz' H' Q):Seq P cx n ops l σ fz H Q:=by
 subst hH;intro a w h1 h2;obtain ⟨h3,h4⟩:=h2.freeze;exact h _ h4 (by simp [upd]) a w h1 h3
theorem Seq.perm {l:List Oper} {H':HP} (hH:H'.Perm H) (h:Seq P cx n ops l σ fz H' Q):Seq P cx n ops l σ fz H Q:=fun a w h1 h2=>h a w h1 (h2.perm hH)
theorem Wp.perm {c:Code} {H':HP} (hH:H'.Perm H) (h:Wp P cx n c σ fz H' Q):Wp P cx n c σ fz H Q:=fun a w h1 h2=>h a w h1 (h2.perm hH)
variable {j:Nat}
theorem Yd6 {a:Act} {σ:Env} {n:Nat} (hs:Sat n σ a) {ops:Array Oper} {s:Nat} {c:Bool} (hj:(ops[j]?).bind (·.dst)=some s) (hv:lk σ s=some (.bool c)):yielded ops a.tmps j=some c:=by
 unfold yielded;rw [hj];simp [hs.slot s _ hv]
theorem Seq.guard_yes {d:Nat} {op:Op} {ty:TypeId} {pos:String} {af:Array Edge} {s:Nat} {c:Bool} (hd:Nat.blt d n=true) (hj:(ops[j]?).bind (·.dst)=some s) (hv:lk σ s=some (.bool c))
 (h:DoesQ P cx ⟨some d,op,ty,pos,af,some (j,c)⟩ (rd σ) fz H fun v=>Seq P cx n ops rest ((d,v)::σ) fz H Q):
 Seq P cx n ops (⟨some d,op,ty,pos,af,some (j,c)⟩::rest) σ fz H Q:=by
 intro a w hs hi;unfold wpList;rw [if_pos (by simp [Region.wanted,Yd6 hs hj hv])];refine .inl (W3.wp ((h.does (K:=fun v fz' H'=>Seq P cx n ops rest ((d,v)::σ) fz' H' Q) a.eval w hs.reads hi).mono fun v w' hh=>?_));obtain ⟨fz',H',h1,h2⟩:=hh;exact h2 _ _ (hs.put d (by simpa [Nat.blt_eq] using hd) v) h1
theorem Seq.guard_off {d:Nat} {op:Op} {ty:TypeId} {pos:String} {af:Array Edge} {s:Nat} {b:Bool} (hd:Nat.blt d n=true) (hj:(ops[j]?).bind (·.dst)=some s) (hv:lk σ s=some undef)
 (h:Seq P cx n ops rest ((d,undef)::σ) fz H Q):
 Seq P cx n ops (⟨some d,op,ty,pos,af,some (j,b)⟩::rest) σ fz H Q:=by
 intro a w hs hi;unfold wpList;have hy:yielded ops a.tmps j=none:=by
  unfold yielded;rw [hj];simp [hs.slot s _ hv,undef]
 rw [if_neg (by simp [Region.wanted,hy])];exact h _ _ (hs.put d (by simpa [Nat.blt_eq] using hd) undef) hi
theorem Seq.guard_no {d:Nat} {op:Op} {ty:TypeId} {pos:String} {af:Array Edge} {s:Nat} {b c:Bool} (hd:Nat.blt d n=true) (hj:(ops[j]?).bind (·.dst)=some s) (hv:lk σ s=some (.bool c)) (hb:b=!c)
 (h:Seq P cx n ops rest ((d,undef)::σ) fz H Q):
 Seq P cx n ops (⟨some d,op,ty,pos,af,some (j,b)⟩::rest) σ fz H Q:=by
 intro a w hs hi;unfold wpList;rw [if_neg (by simp [Region.wanted,Yd6 hs hj hv,hb])];exact h _ _ (hs.put d (by simpa [Nat.blt_eq] using hd) undef) hi
def waits (o:Oper) (j:Nat):Bool:=o.after.toList.any fun e=>Nat.beq e.on j && Region.binds .any e
def YbC:List Oper->Nat->Nat->Option Nat
 | [],_,_=>none
 | p::r,t,i=>match p.dst with
  | some d=>match Nat.beq d t with
   | true=>some i
   | false=>YbC r t (i+1)
  | none=>YbC r t (i+1)
def nthO:List Oper->Nat->Option Oper
 | [],_=>none
 | p::_,0=>some p
 | _::r,j+1=>nthO r j
theorem YjO:∀ (l:List Oper) (j:Nat),nthO l j=l[j]?
 | [],_=>by simp [nthO]
 | _::_,0=>rfl
 | _::r,j+1=>by simpa [nthO] using YjO r j
def YhX (q:Oper) (j:Nat):Nat->Bool
 | 0=>true
 | k+1=>match (Nat.beq k j || waits q k) with
  | true=>YhX q j k
  | false=>false
theorem Yjj {q:Oper} {j:Nat}:∀ {n:Nat},YhX q j n=true->∀ k,k<n->k=j\/waits q k=true
 | 0,_,k,hk=>absurd hk Zi
 | n+1,h,k,hk=>by
  unfold YhX at h;cases hb:(Nat.beq n j || waits q n) with
  | false=>simp [hb] at h
  | true=>
   simp only [hb] at h;by_cases he:k=n
   ·subst he;rcases Bool.or_eq_true _ _ ▸ hb with h1 | h1
    ·exact .inl (Nat.eq_of_beq_eq_true h1)
    exact .inr h1
   exact Yjj h k Zi
def lastB (ops:List Oper) (j:Nat):Bool:=match nthO ops j with
 | some q=>YhX q j ops.length
 | none=>false
theorem lastB_s {ops:List Oper} (h:lastB ops j=true):∃ q,ops[j]?=some q/\∀ k,k<ops.length->k=j\/waits q k=true:=by
 unfold lastB at h;rw [YjO] at h;cases hq:ops[j]? with
 | none=>simp [hq] at h
 | some q=>simp only [hq] at h;exact ⟨q,rfl,Yjj h⟩
def befB (ops:List Oper) (i:Nat):Nat->Nat->Bool
 | 0,j=>Nat.beq j i
 | f+1,j=>match Nat.beq j i with
  | true=>true
  | false=>match nthO ops j with
   | some q=>q.after.toList.any fun e=>match Region.binds .any e with
    | true=>befB ops i f e.on
    | false=>false
   | none=>false
def YeS (ops:List Oper) (o:Oper) (j:Nat):Bool:=match lastB ops j with
 | true=>true
 | false=>match o.dst with
  | some d=>match YbC ops d 0 with
   | some i=>befB ops i 3 j
   | none=>false
  | none=>false
theorem befB_s {l:List Oper} {i:Nat} {listed:Array Bool} (hcl:∀ (k:Nat) (o:Oper),l[k]?=some o->listed.getD k true=true->∀ m,waits o m=true->listed.getD m true=true):∀ (f j:Nat),befB l i f j=true->listed.getD j true=true->listed.getD i true=true
 | 0,j,h,hj=>by
  unfold befB at h;rw [Nat.eq_of_beq_eq_true h] at hj;exact hj
 | f+1,j,h,hj=>by
  unfold befB at h;cases hb:Nat.beq j i with
  | true=>rw [Nat.eq_of_beq_eq_true hb] at hj;exact hj
  | false=>
   simp only [hb,YjO] at h;cases hq:l[j]? with
   | none=>simp [hq] at h
   | some q=>
    simp only [hq] at h;obtain ⟨e,he,h1⟩:=List.any_eq_true.1 h;cases hbe:Region.binds .any e with
    | false=>simp [hbe] at h1
    | true=>
     simp only [hbe] at h1;have hw:waits q e.on=true:=List.any_eq_true.2 ⟨e,he,by simp [hbe]⟩;exact befB_s hcl f e.on h1 (hcl j q hq hj e.on hw)
def rdq (ops:List Oper) (o:Oper) (σ ve:Env):Operand->Option Value
 | .tmp t=>match YbC ops t 0 with
  | none=>lk σ t
  | some j=>match waits o j with
   | true=>lk ve j
   | false=>match YeS ops o j with
    | true=>lk σ t
    | false=>none
 | .const v=>some v
 | .func f=>some (.func (.func f) #[] #[])
 | .global g=>some (.pointer (some ⟨g,0,none⟩))
def asB:Value->Option Bool
 | .bool b=>some b
 | _=>none
def Ybr (o:Oper) (ve:Env):Option Bool:=match o.guard with
 | none=>some true
 | some (j,b)=>match waits o j with
  | false=>none
  | true=>match lk ve j with
   | some v=>some (asB v==some b)
   | none=>none
def Quiet (P:Program) (cx:Cx) (o:Oper) (r:Operand->Option Value) (fz:FZ) (H:HP) (v:Value):Prop:=
 ∀ ρ w,Reads r ρ->Inv cx fz H w->W3 P (fun v' w'=>v'=v/\Fr [] w w') ((execOp ρ o).run P w)
def QOk (P:Program) (cx:Cx) (ops:List Oper) (o:Oper) (σ ve:Env) (fz:FZ) (H:HP) (v:Value):Prop:=
 (Ybr o ve=some true/\Quiet P cx o (rdq ops o σ ve) fz H v)\/(Ybr o ve=some false/\v=undef)
def QL (P:Program) (cx:Cx) (ops:List Oper) (σ:Env) (fz:FZ) (H:HP) (Q:QQ):Nat->List Oper->Env->Env->Prop
 | _,[],_,τ=>Q .normal τ fz H
 | i,o::rest,ve,τ=>∃ v,QOk P cx ops o σ ve fz H v/\QL P cx ops σ fz H Q (i+1) rest ((i,v)::ve) (match o.dst with | some d=>(d,v)::τ | none=>τ)
def YdM (n:Nat):List Oper->Nat->List Nat->Bool
 | [],_,_=>true
 | o::r,i,ds=>(o.after.toList.all fun e=>!Region.binds .any e || Nat.blt e.on i) && (match o.dst with
  | some d=>Nat.blt d n && !ds.any (Nat.beq d) && YdM n r (i+1) (d::ds)
  | none=>YdM n r (i+1) ds)
def Yhy (l:List Oper):Bool:=l.all fun o=>match o.guard with
 | none=>true
 | some (j,_)=>((l[j]?).bind (·.dst)).isSome
def VExt (a b:Env):Prop:=∀ i v,lk a i=some v->lk b i=some v
theorem Yh4 {o:Oper} {a b:Env} (h:VExt a b) {c:Bool} (hw:Ybr o a=some c):Ybr o b=some c:=by
 unfold Ybr at*;split
 ·rename_i hg;simp only [hg] at hw;exact hw
 rename_i j bb hg;simp only [hg] at hw;cases hwt:waits o j with
 | false=>simp [hwt] at hw
 | true=>
  simp only [hwt] at hw ⊢;cases hl:lk a j with
  | none=>simp [hl] at hw
  | some v=>rw [h j v hl];simpa [hl] using hw
theorem rdq_ext {ops:List Oper} {o:Oper} {σ a b:Env} (h:VExt a b):∀ x v,rdq ops o σ a x=some v->rdq ops o σ b x=some v:=by
 intro x v hx;cases x with
 | tmp t=>
  unfold rdq at*;cases hw:YbC ops t 0 with
  | none=>simpa [hw] using hx
  | some j=>
   simp only [hw] at hx ⊢;cases hwt:waits o j with
   | false=>simpa only [hwt] using hx
   | true=>simp only [hwt] at hx ⊢;exact h j v hx
 | const u=>exact hx
 | global g=>exact hx
 | func f=>exact hx
variable {v:Value}
theorem QOk.ext {ops':List Oper} {o:Oper} {a b:Env} (h:VExt a b) (hq:QOk P cx ops' o σ a fz H v):QOk P cx ops' o σ b fz H v:=by
 rcases hq with ⟨h1,h2⟩ | ⟨h1,h2⟩
 ·exact .inl ⟨Yh4 h h1,fun ρ w hr hi=>h2 ρ w (fun x v hx=>hr x v (rdq_ext h x v hx)) hi⟩
 exact .inr ⟨Yh4 h h1,h2⟩
theorem QL.out {ops':List Oper}:∀ (l:List Oper) (i:Nat) (ve τ:Env),(∀ j,i<=j->lk ve j=none)->QL P cx ops' σ fz H Q i l ve τ->
 ∃ VE τF,VExt ve VE/\(∀ (k:Nat) (o:Oper),l[k]?=some o->∃ v,lk VE (i+k)=some v/\QOk P cx ops' o σ VE fz H v)/\Q .normal τF fz H/\
  (∀ s v,lk τF s=some v->(∃ (k:Nat) (o:Oper),l[k]?=some o/\o.dst=some s/\lk VE (i+k)=some v)\/(lk τ s=some v/\∀ (k:Nat) (o:Oper),l[k]?=some o->o.dst≠some s))
 | [],i,ve,τ,_,h=>⟨ve,τ,fun _ _ h=>h,by simp,h,fun s v hs=>.inr ⟨hs,by simp⟩⟩
 | o::l,i,ve,τ,hve,h=>by
  obtain ⟨v,hq,hr⟩:=h;have hx:VExt ve ((i,v)::ve):=by
   intro j u hj;by_cases he:i=j
   ·subst he;rw [hve i (Zs _)] at hj;cases hj
   rw [YZ v ve he];exact hj
  obtain ⟨VE,τF,h1,h2,h3,h4⟩:=QL.out l (i+1) ((i,v)::ve) _ (fun j hj=>by rw [YZ v ve Zi];exact hve j Zi) hr;have hv:lk VE i=some v:=h1 i v (Xh i v ve);have hvx:VExt ve VE:=fun j u hj=>h1 j u (hx j u hj)
  refine ⟨VE,τF,hvx,fun k o' hk=>?_,h3,fun s u hs=>?_⟩
  ·cases k with
   | zero=>simp at hk;subst hk;exact ⟨v,hv,hq.ext hvx⟩
   | succ k=>
    obtain ⟨u,hu,hqu⟩:=h2 k o' (by simpa using hk);exact ⟨u,by rw [<- hu];congr 1;omega,hqu⟩
  rcases h4 s u hs with ⟨k,o',hk,hd,hl⟩ | ⟨hl,hn⟩
  ·exact .inl ⟨k+1,o',by simpa using hk,hd,by rw [<- hl];congr 1;omega⟩
  cases hd:o.dst with
  | none=>
   simp only [hd] at hl;refine .inr ⟨hl,fun k o' hk=>?_⟩;cases k with
   | zero=>simp at hk;subst hk;simp [hd]
   | succ k=>exact hn k o' (by simpa using hk)
  | some d=>
   simp only [hd] at hl;by_cases he:d=s
   ·subst he;rw [Xh] at hl;exact .inl ⟨0,o,by simp,hd,by simpa using hv.trans hl⟩
   rw [YZ v τ he] at hl;refine .inr ⟨hl,fun k o' hk=>?_⟩;cases k with
   | zero=>simp at hk;subst hk;rw [hd];simpa using he
   | succ k=>exact hn k o' (by simpa using hk)
theorem YaO:∀ (l:List Oper) (i:Nat) (ds:List Nat),YdM n l i ds=true->∀ (k:Nat) (o:Oper),l[k]?=some o->∀ e∈o.after,Region.binds .any e=true->e.on<i+k
 | [],_,_,_,k,o,hk=>by simp at hk
 | p::r,i,ds,h,k,o,hk=>by
  simp only [YdM,Bool.and_eq_true] at h;cases k with
  | zero=>
   simp at hk;subst hk;intro e he hb;have:=List.all_eq_true.1 h.1 e (by simpa using he);simp only [hb,Bool.not_true,Bool.false_or,Nat.blt_eq] at this;simpa using this
  | succ k=>
   intro e he hb;have h2:=h.2;cases hd:p.dst with
   | none=>
    simp only [hd] at h2;have:=YaO r (i+1) ds h2 k o (by simpa using hk) e he hb;omega
   | some d=>
    simp only [hd,Bool.and_eq_true] at h2;have:=YaO r (i+1) (d::ds) h2.2 k o (by simpa using hk) e he hb;omega
theorem Ybb:∀ (l:List Oper) (i:Nat) (ds:List Nat),YdM n l i ds=true->∀ (k:Nat) (o:Oper) (d:Nat),l[k]?=some o->o.dst=some d->d<n/\d ∉ ds/\∀ (k':Nat) (o':Oper),l[k']?=some o'->o'.dst=some d->k'=k
 | [],_,_,_,k,o,d,hk=>by simp at hk
 | p::r,i,ds,h,k,o,d,hk=>by
  intro hod;simp only [YdM,Bool.and_eq_true] at h;have h2:=h.2;cases hd:p.dst with
  | none=>
   simp only [hd] at h2;cases k with
   | zero=>simp at hk;subst hk;rw [hd] at hod;cases hod
   | succ k=>
    obtain ⟨a,b,c⟩:=Ybb r (i+1) ds h2 k o d (by simpa using hk) hod;refine ⟨a,b,fun k' o' hk' ho'=>?_⟩;cases k' with
    | zero=>simp at hk';subst hk';rw [hd] at ho';cases ho'
    | succ k'=>rw [c k' o' (by simpa using hk') ho']
  | some d0=>
   simp only [hd,Bool.and_eq_true,Nat.blt_eq,Bool.not_eq_true'] at h2;have hnot:d0 ∉ ds:=by
    intro hm;have:ds.any (Nat.beq d0)=true:=List.any_eq_true.2 ⟨d0,hm,Nat.beq_refl d0⟩;rw [this] at h2;exact absurd h2.1.2 (by simp)
   cases k with
   | zero=>
    simp at hk;subst hk;rw [hd] at hod;injection hod with hod
    subst hod;refine ⟨h2.1.1,hnot,fun k' o' hk' ho'=>?_⟩;cases k' with
    | zero=>rfl
    | succ k'=>
     have:=(Ybb r (i+1) (d0::ds) h2.2 k' o' d0 (by simpa using hk') ho').2.1;simp at this
   | succ k=>
    obtain ⟨a,b,c⟩:=Ybb r (i+1) (d0::ds) h2.2 k o d (by simpa using hk) hod;simp only [List.mem_cons,not_or] at b;refine ⟨a,b.2,fun k' o' hk' ho'=>?_⟩;cases k' with
    | zero=>simp at hk';subst hk';rw [hd] at ho';injection ho' with ho';exact absurd ho'.symm b.1
    | succ k'=>rw [c k' o' (by simpa using hk') ho']
theorem Yau:∀ (l:List Oper) (t i:Nat),YbC l t i=none->∀ (k:Nat) (o:Oper),l[k]?=some o->o.dst≠some t
 | [],_,_,_,k,o,hk=>by simp at hk
 | p::r,t,i,h,k,o,hk=>by
  unfold YbC at h;cases hd:p.dst with
  | none=>
   simp only [hd] at h;cases k with
   | zero=>simp at hk;subst hk;simp [hd]
   | succ k=>exact Yau r t (i+1) h k o (by simpa using hk)
  | some d=>
   simp only [hd] at h;cases hb:Nat.beq d t with
   | true=>simp [hb] at h
   | false=>
    simp only [hb] at h;cases k with
    | zero=>
     simp at hk;subst hk;rw [hd];intro he;injection he with he;subst he;rw [Nat.beq_refl] at hb;cases hb
    | succ k=>exact Yau r t (i+1) h k o (by simpa using hk)
theorem WB:∀ (l:List Oper) (t i j:Nat),YbC l t i=some j->∃ (k:Nat) (o:Oper),j=i+k/\l[k]?=some o/\o.dst=some t
 | [],_,_,_,h=>by cases h
 | p::r,t,i,j,h=>by
  unfold YbC at h;cases hd:p.dst with
  | none=>
   simp only [hd] at h;obtain ⟨k,o,h1,h2,h3⟩:=WB r t (i+1) j h;exact ⟨k+1,o,by omega,by simpa using h2,h3⟩
  | some d=>
   simp only [hd] at h;cases hb:Nat.beq d t with
   | true=>simp [hb] at h;subst h;exact ⟨0,p,rfl,rfl,by rw [hd,Nat.eq_of_beq_eq_true hb]⟩
   | false=>
    simp only [hb] at h;obtain ⟨k,o,h1,h2,h3⟩:=WB r t (i+1) j h;exact ⟨k+1,o,by omega,by simpa using h2,h3⟩
variable {k:Nat}
theorem YjS {l:List Oper} {o1:Oper} {listed:Array Bool} (hil:l[i]?=some o1) (huniq:∀ (a:Nat) (o:Oper) (d:Nat),l[a]?=some o->o.dst=some d->o1.dst=some d->a=i) (hcl:∀ (k:Nat) (o:Oper),l[k]?=some o->listed.getD k true=true->∀ m,waits o m=true->listed.getD m true=true)
 (hb:YeS l o1 k=true) (hls:listed.getD k true=true):listed.getD i true=true:=by
 unfold YeS at hb;cases hlb:lastB l k with
 | true=>
  obtain ⟨q,hq1,hq2⟩:=lastB_s hlb;rcases hq2 i (Zg hil).1 with h1 | h1
  ·subst h1;exact hls
  exact hcl k q hq1 hls i h1
 | false=>
  simp only [hlb] at hb;cases hd:o1.dst with
  | none=>simp [hd] at hb
  | some d=>
   simp only [hd] at hb;cases hw:YbC l d 0 with
   | none=>simp [hw] at hb
   | some a=>
    simp only [hw] at hb;obtain ⟨a',o,rfl,ho,hod⟩:=WB l d 0 a hw;simp only [Nat.zero_add] at*;have:=huniq a' o d ho hod hd;subst this;exact befB_s hcl 3 k hb hls
theorem Yd1 {p q:Nat->Bool}:∀ (l:List Nat) (i:Nat),i∈l->(∀ j,q j=true->p j=true)->p i=true->q i=false->l.countP q<l.countP p
 | [],_,h,_,_,_=>by cases h
 | x::l,i,h,hle,hp,hq=>by
  have hmono:l.countP q<=l.countP p:=List.countP_mono_left fun j _=>hle j
  simp only [List.countP_cons];by_cases hx:x=i
  ·subst hx;simp only [hp,hq,if_true];simp;omega
  have hm:i∈l:=by cases h with | head=>exact absurd rfl hx | tail _ h=>exact h
  have:=Yd1 l i hm hle hp hq;by_cases h1:q x=true
  ·simp only [h1,hle x h1,if_true];omega
  rw [if_neg h1];split<;>omega
def calm (l:List Oper):Bool:=l.all fun o=>match o.op with
 | .alloc _ | .box _ _ | .buildSlice _ _ _ | .store _ _ _ | .mapUpdate _ _ _ _ | .makeMap _ _ | .makeSlice _ _ _=>false
 | .call {callee:=.builtin .append,..}=>false
 | _=>true
theorem Wp.draw {id:Nat} {l:List Oper} (_:calm l=true) (hm:P.follows .mixedOrders=true) (hB:YdM n l 0 []=true) (hG:Yhy l=true) (h:QL P cx l σ fz H Q 0 l [] σ):Wp P cx n (.region id l.toArray true) σ fz H Q:=by
 intro a w hs hi;obtain ⟨VE,τF,_,hq,hQ,hτ⟩:=QL.out l 0 [] σ (fun _ _=>rfl) h;simp only [Nat.zero_add] at hq hτ
 -- what holds at every point
 let A:Array Bool->Act->World->Prop:=fun listed a w=>Inv cx fz H w/\a.tmps.size=n/\a.defers=[]/\listed.size=l.length/\
  ((∀ s v,lk σ s=some v->(∀ (k:Nat) (o:Oper),l[k]?=some o->o.dst=some s->listed.getD k true=false)->a.tmps[s]?=some v)/\
   (∀ (k:Nat) (o:Oper),l[k]?=some o->listed.getD k true=true->∀ m,waits o m=true->listed.getD m true=true))/\
  (∀ (k:Nat) (o:Oper) (d:Nat) (v:Value),l[k]?=some o->o.dst=some d->listed.getD k true=true->lk VE k=some v->a.tmps[d]?=some v)
 have hedge:=YaO (n:=n) l 0 [] hB;have hdst:=Ybb (n:=n) l 0 [] hB;have hops:∀ k:Nat,(l.toArray)[k]?=l[k]?:=fun k=>by simp
 have hall:∀ (listed:Array Bool),listed.size=l.length->Region.ready .any l.toArray listed=[]->∀ k,k<l.length->listed.getD k true=true:=by
  intro listed hsz hr k
  induction k using Nat.strongRecOn with
  | _ k ih=>
   intro hk;cases hl:listed.getD k true with
   | true=>rfl
   | false=>
    exfalso;have hmem:k∈Region.ready .any l.toArray listed:=by
     unfold Region.ready;simp only [List.mem_filter,List.mem_range,List.size_toArray,hk,true_and,hl,Bool.not_false,Bool.true_and];rw [hops k,List.getElem?_eq_getElem hk];simp only [Option.map_some,Option.getD_some,Array.all_eq_true_iff_forall_mem];intro e he;cases hb:Region.binds .any e with
     | false=>rfl
     | true=>
      have h1:=hedge k l[k] (List.getElem?_eq_getElem hk) e he hb;have h2:=ih e.on Zi Zi;have h3:e.on<listed.size:=by omega
      simp only [Bool.not_true,Bool.false_or];simpa [Array.getD,h3] using h2
    rw [hr] at hmem;cases hmem
 have hfin:∀ listed a w,A listed a w->Region.ready .any l.toArray listed=[]->lift cx n Q .normal a w:=by
  intro listed a w ⟨a1,a2,a3,a4,⟨a5,_⟩,a6⟩ hr;refine ⟨τF,fz,H,⟨a2,a3,fun s v hsv=>?_⟩,a1,hQ⟩;rcases hτ s v hsv with ⟨k,o,hk,hd,hv⟩ | ⟨hv,hn⟩
  ·exact a6 k o s v hk hd (hall listed a4 hr k (Zg hk).1) hv
  exact a5 s v hv (fun k o hk hd=>absurd hd (hn k o hk))
 have main:∀ (fuel:Nat) (listed:Array Bool) (a:Act) (w:World),(List.range l.length).countP (fun i=>!listed.getD i true)<=fuel->A listed a w->wpAny P .any l.toArray (lift cx n Q) fuel listed a w:=by
  intro fuel
  induction fuel with
  | zero=>
   intro listed a w hc hA;have hr:Region.ready .any l.toArray listed=[]:=by
    unfold Region.ready;rw [List.filter_eq_nil_iff];intro k hk;have:(List.range l.length).countP (fun i=>!listed.getD i true)=0:=by omega
    rw [List.countP_eq_zero] at this;have:=this k (by simpa using hk);simp only [Bool.not_eq_true,Bool.not_eq_false'] at this;simp only [this];simp
   exact ⟨hr,hfin listed a w hA hr⟩
  | succ fuel ih=>
   intro listed a w hc hA;refine ⟨fun hr=>hfin listed a w hA hr,fun i hir=>?_⟩;obtain ⟨a1,a2,a3,a4,⟨a5,a7⟩,a6⟩:=hA;unfold Region.ready at hir;simp only [List.mem_filter,List.mem_range,List.size_toArray,Bool.and_eq_true,Bool.not_eq_true'] at hir;obtain ⟨hil,hun,hrdy⟩:=hir;have hio:l[i]?=some l[i]:=List.getElem?_eq_getElem hil;rw [hops i,hio] at hrdy;simp only [Option.map_some,Option.getD_some,Array.all_eq_true_iff_forall_mem] at hrdy;obtain ⟨v,hv,hqv⟩:=hq i l[i] hio;have hdone:∀ j,waits l[i] j=true->listed.getD j true=true/\j<l.length:=by
    intro j hj;unfold waits at hj;obtain ⟨e,he,hej⟩:=List.any_eq_true.1 hj;simp only [Bool.and_eq_true] at hej;have h1:=hrdy e (by simpa using he);rw [hej.2] at h1;have h2:e.on=j:=Nat.eq_of_beq_eq_true hej.1;have h3:=hedge i l[i] hio e (by simpa using he) hej.2;simp only [Bool.not_true,Bool.false_or] at h1;have h5:j<listed.size:=by omega
    subst h2;exact ⟨by simpa [Array.getD,h5] using h1,by omega⟩
   have hlate:∀ j t,YbC l t 0=some j->YeS l l[i] j=true->∀ (k:Nat) (o:Oper),l[k]?=some o->o.dst=some t->listed.getD k true=false:=by
    intro j t hw hlb k o hk hd;obtain ⟨kj,oj,hkj,hoj,hdj⟩:=WB l t 0 j hw;simp only [Nat.zero_add] at hkj;subst hkj;have hke:k=j:=(hdst j oj t hoj hdj).2.2 k o hk hd;subst hke;cases hls:listed.getD k true with
    | false=>rfl
    | true=>
     have:=YjS hio (fun a o d ha hd hi=>(hdst i _ d hio hi).2.2 a o ha hd) a7 hlb hls;rw [hun] at this;cases this
   have hreads:Reads (rdq l l[i] σ VE) a.eval:=by
    intro x u hx;cases x with
    | tmp t=>
     unfold rdq at hx;cases hw:YbC l t 0 with
     | none=>
      simp only [hw] at hx;have:=a5 t u hx (fun k o hk hd=>absurd hd (Yau l t 0 hw k o hk));simp [Act.eval,this]
     | some j=>
      simp only [hw] at hx;cases hwt:waits l[i] j with
      | false=>
       simp only [hwt] at hx;cases hlb:YeS l l[i] j with
       | false=>simp [hlb] at hx
       | true=>
        simp only [hlb] at hx;have:=a5 t u hx (hlate j t hw hlb);simp [Act.eval,this]
      | true=>
       simp only [hwt] at hx;obtain ⟨k,o,rfl,hk,hd⟩:=WB l t 0 j hw;simp only [Nat.zero_add] at*;have:=a6 k o t u hk hd (hdone k hwt).1 hx;simp [Act.eval,this]
    | const c=>injection hx
    | global g=>injection hx
    | func f=>injection hx
   have hnext:∀ w',Inv cx fz H w'->A (listed.setIfInBounds i true) (a.put l[i].dst v) w':=by
    intro w' hw';have hilt:i<listed.size:=by omega
    have hother:∀ k,k≠i->(listed.setIfInBounds i true).getD k true=listed.getD k true:=by
     intro k hk;simp only [Array.getD_eq_getD_getElem?];rw [Array.getElem?_setIfInBounds_ne Zi]
    have hsame:(listed.setIfInBounds i true).getD i true=true:=by simp [Array.getD,hilt]
    have hmono:∀ k,listed.getD k true=true->(listed.setIfInBounds i true).getD k true=true:=by
     intro k hk;by_cases he:k=i
     ·subst he;exact hsame
     rw [hother k he];exact hk
    refine ⟨hw',?_,?_,by simpa using a4,⟨fun s u hsu hn=>?_,fun k o hk hls m hm=>?_⟩,fun k o d u hk hd hls hu=>?_⟩
    ·cases hd:l[i].dst<;>simp [Act.put,a2]
    ·cases hd:l[i].dst<;>simp [Act.put,a3]
    ·have h0:=a5 s u hsu (fun k o hk hd=>by
      by_cases he:k=i
      ·subst he;have:=hn k o hk hd;rw [hsame] at this;cases this
      rw [<- hother k he];exact hn k o hk hd)
     cases hd:l[i].dst with
     | none=>exact h0
     | some d=>
      have hne:d≠s:=fun he=>by have:=hn i l[i] hio (he ▸ hd);rw [hsame] at this;cases this
      simp only [Act.put];rw [Array.getElem?_setIfInBounds_ne hne];exact h0
    ·by_cases he:k=i
     ·subst he;have:o=l[k]:=by rw [hio] at hk;injection hk with hk;exact hk.symm
      subst this;exact hmono m (hdone m hm).1
     rw [hother k he] at hls;exact hmono m (a7 k o hk hls m hm)
    by_cases hki:k=i
    ·subst hki;have:o=l[k]:=by rw [hio] at hk;injection hk with hk;exact hk.symm
     subst this;rw [hv] at hu;injection hu with hu
     subst hu;rw [hd];simp [Act.put,a2,(hdst k _ d hio hd).1]
    have h0:listed.getD k true=true:=by
     have hls':=hls;simp only [Array.getD_eq_getD_getElem?] at hls' ⊢;rw [Array.getElem?_setIfInBounds_ne Zi] at hls';exact hls'
    have h1:=a6 k o d u hk hd h0 hu;cases hd':l[i].dst with
    | none=>exact h1
    | some d'=>
     have hne:d'≠d:=fun he=>by subst he;exact hki ((hdst i _ d' hio hd').2.2 k o hk hd)
     simp only [Act.put];rw [Array.getElem?_setIfInBounds_ne hne];exact h1
   have hcount:(List.range l.length).countP (fun j=>!(listed.setIfInBounds i true).getD j true)<=fuel:=by
    have hi':i<listed.size:=by omega
    have:=Yd1 (p:=fun j=>!listed.getD j true) (q:=fun j=>!(listed.setIfInBounds i true).getD j true) (List.range l.length) i (by simpa using hil) (fun j hj=>by
     by_cases hji:i=j
     ·subst hji;simp [Array.getD,hi'] at hj
     simp only [Array.getD_eq_getD_getElem?] at hj ⊢;rw [Array.getElem?_setIfInBounds_ne hji] at hj;exact hj) (by simp only [hun,Bool.not_false]) (by simp [Array.getD,hi'])
    omega
   have hyield:∀ j b,l[i].guard=some (j,b)->waits l[i] j=true->∀ c,lk VE j=some c->yielded l.toArray a.tmps j=asB c:=by
    intro j b hg hwt c hc;obtain ⟨h1,h2⟩:=hdone j hwt;unfold yielded;rw [hops j,List.getElem?_eq_getElem h2];cases hd:l[j].dst with
    | none=>
     have h7:=List.all_eq_true.1 hG l[i] (List.getElem_mem hil);simp [hg,List.getElem?_eq_getElem h2,hd] at h7
    | some d=>
     have:=a6 j l[j] d _ (List.getElem?_eq_getElem h2) hd h1 hc;simp only [Option.bind_some,hd,this];cases c<;>rfl
   unfold wpOp;rw [hops i,hio];simp only;rcases hqv with ⟨hw1,hw2⟩ | ⟨hw1,hw2⟩
   ·have hwant:Region.wanted l[i] (yielded l.toArray a.tmps)=true:=by
     unfold Region.wanted;cases hg:l[i].guard with
     | none=>rfl
     | some jb=>
      obtain ⟨j,b⟩:=jb;simp only;unfold Ybr at hw1;simp only [hg] at hw1;cases hwt:waits l[i] j with
      | false=>simp [hwt] at hw1
      | true=>
       simp only [hwt] at hw1;split at hw1
       ·rename_i c hc;rw [hyield j b hg hwt c hc];have h9:=Option.some.inj hw1;simpa using h9
       cases hw1
    rw [if_pos hwant];exact .inl (W3.wp ((hw2 a.eval w hreads a1).mono fun v' w' ⟨he,hw'⟩=>by subst he;exact ih _ _ _ hcount (hnext w' (a1.quiet hw'))))
   have hwant:Region.wanted l[i] (yielded l.toArray a.tmps)=false:=by
    unfold Region.wanted;unfold Ybr at hw1;cases hg:l[i].guard with
    | none=>simp [hg] at hw1
    | some jb=>
     obtain ⟨j,b⟩:=jb;simp only;simp only [hg] at hw1;cases hwt:waits l[i] j with
     | false=>simp [hwt] at hw1
     | true=>
      simp only [hwt] at hw1;split at hw1
      ·rename_i c hc;rw [hyield j b hg hwt c hc];have h9:=Option.some.inj hw1;simpa using h9
      cases hw1
   rw [if_neg (by simp [hwant])];subst hw2;exact ih _ _ _ hcount (hnext w a1)
 refine wp_region_any hm (main _ _ _ _ ?_ ⟨hi.drew,hs.size,hs.defers,by simp,⟨fun s v hv _=>hs.slot s v hv,fun k o hk hls=>?_⟩,fun k o d v hk hd hls=>?_⟩)
 ·have:=List.countP_le_length (p:=fun i=>!(Array.replicate l.toArray.size false).getD i true) (l:=List.range l.length);simpa using this
 ·have:k<l.length:=(Zg hk).1;simp [Array.getD,this] at hls
 have:k<l.length:=(Zg hk).1;simp [Array.getD,this] at hls
def rdc (ops:List Oper) (o:Oper) (σ ve cv:Env):Operand->Option Value
 | .tmp t=>match YbC ops t 0 with
  | none=>lk σ t
  | some j=>match waits o j with
   | true=>match lk cv j with
    | some v=>some v
    | none=>lk ve j
   | false=>match YeS ops o j with
    | true=>lk σ t
    | false=>none
 | .const v=>some v
 | .func f=>some (.func (.func f) #[] #[])
 | .global g=>some (.pointer (some ⟨g,0,none⟩))
def inCh (ch:List (Nat × Oper)) (i:Nat):Bool:=ch.any fun p=>Nat.beq p.1 i
def allq (ops:List Oper) (ch:List (Nat × Oper)) (o:Oper):Bool:=(List.range ops.length).all fun i=>inCh ch i || waits o i
def Keep (fz:FZ) (Hq:HP) (fz':FZ) (H':HP):Prop:=Le fz fz'/\∀ p∈Hq,p∈H'
def Ch (P:Program) (cx:Cx) (ops:List Oper) (σ ve:Env) (fz0:FZ) (Hq:HP) (Q:QQ) (all:List (Nat × Oper)):List (Nat × Oper)->Bool->Env->Env->FZ->HP->Prop
 | [],_,_,τ,fz,H=>Q .normal τ fz H
 | (i,o)::rest,done,cv,τ,fz,H=>
  (Ybr o ve=some true/\Does P cx o (rdc ops o σ ve cv) fz H fun v fz' H'=>
   ((done || allq ops all o)=true\/Keep fz0 Hq fz' H')/\
   Ch P cx ops σ ve fz0 Hq Q all rest (done || allq ops all o) ((i,v)::cv) (match o.dst with | some d=>(d,v)::τ | none=>τ) fz' H')\/
  (Ybr o ve=some false/\Ch P cx ops σ ve fz0 Hq Q all rest (done || allq ops all o) ((i,undef)::cv) (match o.dst with | some d=>(d,undef)::τ | none=>τ) fz H)
def QK (P:Program) (cx:Cx) (ops:List Oper) (σ:Env) (fz:FZ) (Hq:HP) (K:Env->Env->List (Nat × Oper)->Prop):Nat->List Oper->Env->Env->List (Nat × Oper)->Prop
 | _,[],ve,τ,ch=>K ve τ ch
 | i,o::rest,ve,τ,ch=>
  (∃ v,QOk P cx ops o σ ve fz Hq v/\QK P cx ops σ fz Hq K (i+1) rest ((i,v)::ve) (match o.dst with | some d=>(d,v)::τ | none=>τ) ch)\/
  QK P cx ops σ fz Hq K (i+1) rest ve τ (ch++ [(i,o)])
def YaV:List (Nat × Oper)->Bool
 | []=>true
 | [(_,_)]=>true
 | (i,_)::(j,p)::r=>waits p i && Nat.blt i j && YaV ((j,p)::r)
theorem Yjg {x:Nat × Oper} {r:List (Nat × Oper)} (h:YaV (x::r)=true):YaV r=true:=by
 cases r with
 | nil=>rfl
 | cons y r=>
  obtain ⟨i,o⟩:=x;obtain ⟨j,p⟩:=y;simp only [YaV,Bool.and_eq_true] at h;exact h.2
theorem YgR {i:Nat} {o:Oper}:∀ {r:List (Nat × Oper)},YaV ((i,o)::r)=true->∀ p∈r,i<p.1
 | [],_,p,hp=>by cases hp
 | (j,q)::r,h,p,hp=>by
  simp only [YaV,Bool.and_eq_true,Nat.blt_eq] at h;cases hp with
  | head=>exact h.1.2
  | tail _ hp=>exact Nat.lt_trans h.1.2 (YgR h.2 p hp)
theorem Yd2 {i:Nat} {o:Oper}:∀ {r:List (Nat × Oper)},YaV ((i,o)::r)=true->∀ p∈r,∃ q∈((i,o)::r),waits p.2 q.1=true/\q.1<p.1
 | [],_,p,hp=>by cases hp
 | (j,q)::r,h,p,hp=>by
  have h':=h;simp only [YaV,Bool.and_eq_true,Nat.blt_eq] at h;cases hp with
  | head=>exact ⟨(i,o),by simp,h.1.1,h.1.2⟩
  | tail _ hp=>
   obtain ⟨x,hx,hw⟩:=Yd2 h.2 p hp;exact ⟨x,by rcases List.mem_cons.1 hx with h1 | h1<;>simp [h1],hw⟩
theorem QK.out {ops':List Oper} {Hq:HP} {K:Env->Env->List (Nat × Oper)->Prop}:∀ (l:List Oper) (i:Nat) (ve τ:Env) (ch:List (Nat × Oper)),(∀ j,i<=j->lk ve j=none)->QK P cx ops' σ fz Hq K i l ve τ ch->
 ∃ VE τF ch',VExt ve VE/\K VE τF (ch++ch')/\(∀ p∈ch',i<=p.1/\l[p.1 - i]?=some p.2)/\
  (∀ j,(j<i\/(∃ p∈ch',p.1=j))->lk VE j=lk ve j)/\
  (∀ (k:Nat) (o:Oper),l[k]?=some o->(∃ p∈ch',p.1=i+k)\/((∀ p∈ch',p.1≠i+k)/\∃ v,lk VE (i+k)=some v/\QOk P cx ops' o σ VE fz Hq v))/\
  (∀ s v,lk τF s=some v->(∃ (k:Nat) (o:Oper),l[k]?=some o/\o.dst=some s/\lk VE (i+k)=some v)\/(lk τ s=some v/\∀ (k:Nat) (o:Oper),l[k]?=some o->(∀ p∈ch',p.1≠i+k)->o.dst≠some s))
 | [],i,ve,τ,ch,_,h=>⟨ve,τ,[],fun _ _ h=>h,by simpa [QK] using h,by simp,by simp,by simp,fun s v hs=>.inr ⟨hs,by simp⟩⟩
 | o::l,i,ve,τ,ch,hve,h=>by
  rcases h with ⟨v,hq,hr⟩ | hr
  ·have hx:VExt ve ((i,v)::ve):=by
    intro j u hj;by_cases he:i=j
    ·subst he;rw [hve i (Zs _)] at hj;cases hj
    rw [YZ v ve he];exact hj
   obtain ⟨VE,τF,ch',h1,h2,h3,h3b,h4,h5⟩:=QK.out l (i+1) ((i,v)::ve) _ ch (fun j hj=>by rw [YZ v ve Zi];exact hve j Zi) hr;have hv:lk VE i=some v:=h1 i v (Xh i v ve);have hvx:VExt ve VE:=fun j u hj=>h1 j u (hx j u hj)
   refine ⟨VE,τF,ch',hvx,h2,fun p hp=>?_,fun j hj=>?_,fun k o' hk=>?_,fun s u hs=>?_⟩
   ·obtain ⟨g1,g2⟩:=h3 p hp;exact ⟨by omega,by rw [show p.1 - i=(p.1 - (i+1))+1 from by omega];simpa using g2⟩
   ·have hne:i≠j:=by
     rcases hj with hj | ⟨p,hp,hj⟩
     ·omega
     have:=(h3 p hp).1;omega
    rw [h3b j (by rcases hj with hj | hj;exact .inl Zi;exact .inr hj),YZ v ve hne]
   ·cases k with
    | zero=>
     simp at hk;subst hk;exact .inr ⟨fun p hp=>by have:=(h3 p hp).1;omega,v,hv,hq.ext hvx⟩
    | succ k=>
     rcases h4 k o' (by simpa using hk) with ⟨p,hp,he⟩ | ⟨hn,u,hu,hqu⟩
     ·exact .inl ⟨p,hp,by omega⟩
     exact .inr ⟨fun p hp=>by have:=hn p hp;omega,u,by rw [<- hu];congr 1;omega,hqu⟩
   rcases h5 s u hs with ⟨k,o',hk,hd,hl⟩ | ⟨hl,hn⟩
   ·exact .inl ⟨k+1,o',by simpa using hk,hd,by rw [<- hl];congr 1;omega⟩
   cases hd:o.dst with
   | none=>
    simp only [hd] at hl;refine .inr ⟨hl,fun k o' hk hp=>?_⟩;cases k with
    | zero=>simp at hk;subst hk;simp [hd]
    | succ k=>exact hn k o' (by simpa using hk) (fun p hp'=>by have:=hp p hp';omega)
   | some d=>
    simp only [hd] at hl;by_cases he:d=s
    ·subst he;rw [Xh] at hl;exact .inl ⟨0,o,by simp,hd,by simpa using hv.trans hl⟩
    rw [YZ v τ he] at hl;refine .inr ⟨hl,fun k o' hk hp=>?_⟩;cases k with
    | zero=>simp at hk;subst hk;rw [hd];simpa using he
    | succ k=>exact hn k o' (by simpa using hk) (fun p hp'=>by have:=hp p hp';omega)
  obtain ⟨VE,τF,ch',h1,h2,h3,h3b,h4,h5⟩:=QK.out l (i+1) ve τ (ch++ [(i,o)]) (fun j hj=>hve j Zi) hr;refine ⟨VE,τF,(i,o)::ch',h1,by simpa using h2,fun p hp=>?_,fun j hj=>?_,fun k o' hk=>?_,fun s u hs=>?_⟩
  ·cases hp with
   | head=>simp
   | tail _ hp=>
    obtain ⟨g1,g2⟩:=h3 p hp;exact ⟨by omega,by rw [show p.1 - i=(p.1 - (i+1))+1 from by omega];simpa using g2⟩
  ·rcases hj with hj | ⟨p,hp,hj⟩
   ·exact h3b j (.inl Zi)
   cases hp with
   | head=>exact h3b j (.inl (by simp at hj;omega))
   | tail _ hp=>exact h3b j (.inr ⟨p,hp,hj⟩)
  ·cases k with
   | zero=>exact .inl ⟨(i,o),by simp,by simp⟩
   | succ k=>
    rcases h4 k o' (by simpa using hk) with ⟨p,hp,he⟩ | ⟨hn,u,hu,hqu⟩
    ·exact .inl ⟨p,by simp [hp],by omega⟩
    refine .inr ⟨fun p hp=>?_,u,by rw [<- hu];congr 1;omega,hqu⟩;cases hp with
    | head=>simp
    | tail _ hp=>have:=hn p hp;omega
  rcases h5 s u hs with ⟨k,o',hk,hd,hl⟩ | ⟨hl,hn⟩
  ·exact .inl ⟨k+1,o',by simpa using hk,hd,by rw [<- hl];congr 1;omega⟩
  refine .inr ⟨hl,fun k o' hk hp=>?_⟩;cases k with
  | zero=>exact absurd rfl (hp (i,o) (by simp))
  | succ k=>exact hn k o' (by simpa using hk) (fun p hp'=>by have:=hp p (by simp [hp']);omega)
variable {fz':FZ}
theorem Inv.keep {Hq:HP} {H':HP} {w1:World} (h:Inv cx fz Hq w1) (h':Inv cx fz' H' w) (hk:Keep fz Hq fz' H'):Inv cx fz Hq w:=
 ⟨⟨fun b o hb=>h'.hp.keep b o (hk.1 b o hb),fun p hp=>⟨(h'.hp.own p (hk.2 p hp)).1,(h.hp.own p hp).2⟩,h.hp.nd⟩,h'.fr,h.nw⟩
theorem Wp.drawK {id:Nat} {l:List Oper} {Hq:HP} (hm:P.follows .mixedOrders=true) (hB:YdM n l 0 []=true) (hG:Yhy l=true) (hHq:Hq.Sublist H)
 (h:QK P cx l σ fz Hq (fun ve τ ch=>YaV ch=true/\Ch P cx l σ ve fz Hq Q ch ch false [] τ fz H) 0 l [] σ []):Wp P cx n (.region id l.toArray true) σ fz H Q:=by
 intro a w hs hi;obtain ⟨VE,τF,ch,_,hK,hch,hVEch,hq,hτ⟩:=QK.out l 0 [] σ [] (fun _ _=>rfl) h;simp only [Nat.zero_add,List.nil_append,Nat.sub_zero] at hq hτ hK hch;obtain ⟨hcok,hCh⟩:=hK;have hedge:=YaO (n:=n) l 0 [] hB;have hdst:=Ybb (n:=n) l 0 [] hB;simp only [Nat.zero_add] at hedge;have hops:∀ k:Nat,(l.toArray)[k]?=l[k]?:=fun k=>by simp
 have hi0:Inv cx fz Hq w:=hi.forget hHq
 -- a quiet operation's number
 let isQ:Nat->Prop:=fun k=>∀ p∈ch,p.1≠k
 -- what holds at every point: 'rest' of the chain is to come
 let A:Array Bool->Act->World->Prop:=fun listed a w=>∃ pre rest done cv τ fzs Hs,ch=pre++rest/\Ch P cx l σ VE fz Hq Q ch rest done cv τ fzs Hs/\Inv cx fzs Hs w/\
  a.tmps.size=n/\a.defers=[]/\listed.size=l.length/\
  ((∀ s v,lk σ s=some v->(∀ (k:Nat) (o:Oper),l[k]?=some o->o.dst=some s->listed.getD k true=false)->a.tmps[s]?=some v)/\
   (∀ (k:Nat) (o:Oper),l[k]?=some o->listed.getD k true=true->∀ m,waits o m=true->listed.getD m true=true))/\
  (∀ (k:Nat) (o:Oper) (d:Nat) (v:Value),l[k]?=some o->o.dst=some d->isQ k->listed.getD k true=true->lk VE k=some v->a.tmps[d]?=some v)/\
  (∀ p∈pre,listed.getD p.1 true=true/\∃ v,lk cv p.1=some v/\∀ d,p.2.dst=some d->a.tmps[d]?=some v)/\
  (∀ p∈rest,listed.getD p.1 true=false/\lk cv p.1=none)/\
  (∀ j v,lk cv j=some v->∃ p∈pre,p.1=j)/\
  (Keep fz Hq fzs Hs\/(∀ k,k<l.length->isQ k->listed.getD k true=true))/\
  (done=true->∀ k,k<l.length->isQ k->listed.getD k true=true)/\
  (∀ s v,lk τ s=some v->(∃ (k:Nat) (o:Oper),l[k]?=some o/\o.dst=some s/\isQ k/\lk VE k=some v)\/(∃ p∈pre,p.2.dst=some s/\lk cv p.1=some v)\/
   (lk σ s=some v/\(∀ (k:Nat) (o:Oper),l[k]?=some o->isQ k->o.dst≠some s)/\∀ p∈pre,p.2.dst≠some s))
 have hall:∀ (listed:Array Bool),listed.size=l.length->Region.ready .any l.toArray listed=[]->∀ k,k<l.length->listed.getD k true=true:=by
  intro listed hsz hr k
  induction k using Nat.strongRecOn with
  | _ k ih=>
   intro hk;cases hl:listed.getD k true with
   | true=>rfl
   | false=>
    exfalso;have hmem:k∈Region.ready .any l.toArray listed:=by
     unfold Region.ready;simp only [List.mem_filter,List.mem_range,List.size_toArray,hk,true_and,hl,Bool.not_false,Bool.true_and];rw [hops k,List.getElem?_eq_getElem hk];simp only [Option.map_some,Option.getD_some,Array.all_eq_true_iff_forall_mem];intro e he;cases hb:Region.binds .any e with
     | false=>rfl
     | true=>
      have h1:=hedge k l[k] (List.getElem?_eq_getElem hk) e he hb;have h2:=ih e.on Zi Zi;have h3:e.on<listed.size:=by omega
      simp only [Bool.not_true,Bool.false_or];simpa [Array.getD,h3] using h2
    rw [hr] at hmem;cases hmem
 have hfin:∀ listed a w,A listed a w->Region.ready .any l.toArray listed=[]->lift cx n Q .normal a w:=by
  rintro listed a w ⟨pre,rest,done,cv,τ,fzs,Hs,e0,hC,a1,a2,a3,a4,⟨a5,_⟩,a6,a7,a8,a9,a10,a11,a12⟩ hr;have hrest:rest=[]:=by
   cases rest with
   | nil=>rfl
   | cons p r=>
    have h1:=(a8 p (by simp)).1;have h2:=hch p (by rw [e0];simp);have h3:=hall listed a4 hr p.1 (Zg h2.2).1;rw [h1] at h3;cases h3
  subst hrest;refine ⟨τ,fzs,Hs,⟨a2,a3,fun s v hsv=>?_⟩,a1,hC⟩;rcases a12 s v hsv with ⟨k,o,hk,hd,hqk,hv⟩ | ⟨p,hp,hd,hv⟩ | ⟨hv,hn1,hn2⟩
  ·exact a6 k o s v hk hd hqk (hall listed a4 hr k (Zg hk).1) hv
  ·obtain ⟨_,u,hu,hdu⟩:=a7 p hp;rw [hv] at hu;injection hu with hu;subst hu
   exact hdu s hd
  refine a5 s v hv fun k o hk hd=>absurd hd (show o.dst≠some s from fun hd=>?_)
  by_cases hqk:∀ p∈ch,p.1≠k
  ·exact hn1 k o hk hqk hd
  simp only [Classical.not_forall,Classical.not_not] at hqk;obtain ⟨p,hp,he⟩:=hqk;have:=(hch p hp).2;rw [he,hk] at this;injection this with this
  subst this;rw [List.append_nil] at e0;exact hn2 p (by rw [<- e0];exact hp) hd
 have main:∀ (fuel:Nat) (listed:Array Bool) (a:Act) (w:World),(List.range l.length).countP (fun i=>!listed.getD i true)<=fuel->A listed a w->wpAny P .any l.toArray (lift cx n Q) fuel listed a w:=by
  intro fuel
  induction fuel with
  | zero=>
   intro listed a w hc hA;have hr:Region.ready .any l.toArray listed=[]:=by
    unfold Region.ready;rw [List.filter_eq_nil_iff];intro k hk;have:(List.range l.length).countP (fun i=>!listed.getD i true)=0:=by omega
    rw [List.countP_eq_zero] at this;have:=this k (by simpa using hk);simp only [Bool.not_eq_true,Bool.not_eq_false'] at this;simp only [this];simp
   exact ⟨hr,hfin listed a w hA hr⟩
  | succ fuel ih=>
   intro listed a w hc hA;refine ⟨fun hr=>hfin listed a w hA hr,fun i hir=>?_⟩;obtain ⟨pre,rest,done,cv,τ,fzs,Hs,e0,hC,a1,a2,a3,a4,⟨a5,a13⟩,a6,a7,a8,a9,a10,a11,a12⟩:=hA;unfold Region.ready at hir;simp only [List.mem_filter,List.mem_range,List.size_toArray,Bool.and_eq_true,Bool.not_eq_true'] at hir;obtain ⟨hil,hun,hrdy⟩:=hir;have hio:l[i]?=some l[i]:=List.getElem?_eq_getElem hil;rw [hops i,hio] at hrdy;simp only [Option.map_some,Option.getD_some,Array.all_eq_true_iff_forall_mem] at hrdy;have hilt:i<listed.size:=by omega
   have hdone:∀ j,waits l[i] j=true->listed.getD j true=true/\j<l.length:=by
    intro j hj;unfold waits at hj;obtain ⟨e,he,hej⟩:=List.any_eq_true.1 hj;simp only [Bool.and_eq_true] at hej;have h1:=hrdy e (by simpa using he);rw [hej.2] at h1;have h2:e.on=j:=Nat.eq_of_beq_eq_true hej.1;have h3:=hedge i l[i] hio e (by simpa using he) hej.2;simp only [Bool.not_true,Bool.false_or] at h1;have h5:j<listed.size:=by omega
    subst h2;exact ⟨by simpa [Array.getD,h5] using h1,by omega⟩
   have hother:∀ k,k≠i->(listed.setIfInBounds i true).getD k true=listed.getD k true:=by
    intro k hk;simp only [Array.getD_eq_getD_getElem?];rw [Array.getElem?_setIfInBounds_ne Zi]
   have hsame:(listed.setIfInBounds i true).getD i true=true:=by simp [Array.getD,hilt]
   have hmono:∀ k,listed.getD k true=true->(listed.setIfInBounds i true).getD k true=true:=by
    intro k hk;by_cases he:k=i
    ·subst he;exact hsame
    rw [hother k he];exact hk
   have hcount:(List.range l.length).countP (fun j=>!(listed.setIfInBounds i true).getD j true)<=fuel:=by
    have:=Yd1 (p:=fun j=>!listed.getD j true) (q:=fun j=>!(listed.setIfInBounds i true).getD j true) (List.range l.length) i (by simpa using hil) (fun j hj=>by
     by_cases hji:j=i
     ·subst hji;rw [hsame] at hj;cases hj
     rw [hother j hji] at hj;exact hj) (by simp only [hun,Bool.not_false]) (by rw [hsame];rfl)
    omega
   have putOther:∀ (v:Value) (s:Nat) (u:Value),a.tmps[s]?=some u->l[i].dst≠some s->(a.put l[i].dst v).tmps[s]?=some u:=by
    intro v s u hu hne;cases hd:l[i].dst with
    | none=>exact hu
    | some d=>
     have:d≠s:=fun he=>hne (by rw [hd,he])
     simp only [Act.put];rw [Array.getElem?_setIfInBounds_ne this];exact hu
   have putSame:∀ (v:Value) (s:Nat),l[i].dst=some s->(a.put l[i].dst v).tmps[s]?=some v:=by
    intro v s hd;rw [hd];simp [Act.put,a2,(hdst i _ s hio hd).1]
   have putSize:∀ v,(a.put l[i].dst v).tmps.size=n:=by intro v;cases hd:l[i].dst<;>simp [Act.put,a2]
   have putDef:∀ v,(a.put l[i].dst v).defers=[]:=by intro v;cases hd:l[i].dst<;>simp [Act.put,a3]
   have dstNe:∀ (k:Nat) (o:Oper) (d:Nat),l[k]?=some o->o.dst=some d->k≠i->l[i].dst≠some d:=fun k o d hk hd hki hc=>hki ((hdst i _ d hio hc).2.2 k o hk hd)
   have hlate:∀ j t,YbC l t 0=some j->YeS l l[i] j=true->∀ (k:Nat) (o:Oper),l[k]?=some o->o.dst=some t->listed.getD k true=false:=by
    intro j t hw hlb k o hk hd;obtain ⟨kj,oj,hkj,hoj,hdj⟩:=WB l t 0 j hw;simp only [Nat.zero_add] at hkj;subst hkj;have hke:k=j:=(hdst j oj t hoj hdj).2.2 k o hk hd;subst hke;cases hls:listed.getD k true with
    | false=>rfl
    | true=>
     have:=YjS hio (fun a o d ha hd hi=>(hdst i _ d hio hi).2.2 a o ha hd) a13 hlb hls;rw [hun] at this;cases this
   have a5n:∀ (v:Value) (s:Nat) (u:Value),lk σ s=some u->(∀ (k:Nat) (o:Oper),l[k]?=some o->o.dst=some s->(listed.setIfInBounds i true).getD k true=false)->(a.put l[i].dst v).tmps[s]?=some u:=by
    intro v s u hsu hn;refine putOther v s u (a5 s u hsu (fun k o hk hd=>?_)) (fun hd=>?_)
    ·by_cases he:k=i
     ·subst he;have:=hn k o hk hd;rw [hsame] at this;cases this
     rw [<- hother k he];exact hn k o hk hd
    have:=hn i l[i] hio hd;rw [hsame] at this;cases this
   have a13n:∀ (k:Nat) (o:Oper),l[k]?=some o->(listed.setIfInBounds i true).getD k true=true->∀ m,waits o m=true->(listed.setIfInBounds i true).getD m true=true:=by
    intro k o hk hls m hm;by_cases he:k=i
    ·subst he;have:o=l[k]:=by rw [hio] at hk;injection hk with hk;exact hk.symm
     subst this;exact hmono m (hdone m hm).1
    rw [hother k he] at hls;exact hmono m (a13 k o hk hls m hm)
   have hyield:∀ j b,l[i].guard=some (j,b)->waits l[i] j=true->∀ c,lk VE j=some c->yielded l.toArray a.tmps j=asB c:=by
    intro j b hg hwt c hc;obtain ⟨h1,h2⟩:=hdone j hwt;have hqj:isQ j:=fun p hp he=>by
     have:=hVEch j (.inr ⟨p,hp,he⟩);rw [hc] at this;cases this
    unfold yielded;rw [hops j,List.getElem?_eq_getElem h2];cases hd:l[j].dst with
    | none=>
     have h7:=List.all_eq_true.1 hG l[i] (List.getElem_mem hil);simp [hg,List.getElem?_eq_getElem h2,hd] at h7
    | some d=>
     have:=a6 j l[j] d _ (List.getElem?_eq_getElem h2) hd hqj h1 hc;simp only [Option.bind_some,hd,this];cases c<;>rfl
   have hwantB:∀ c,Ybr l[i] VE=some c->Region.wanted l[i] (yielded l.toArray a.tmps)=c:=by
    intro c hw1;unfold Region.wanted;unfold Ybr at hw1;cases hg:l[i].guard with
    | none=>simp only [hg] at hw1;injection hw1
    | some jb=>
     obtain ⟨j,b⟩:=jb;simp only;simp only [hg] at hw1;cases hwt:waits l[i] j with
     | false=>simp [hwt] at hw1
     | true=>
      simp only [hwt] at hw1;split at hw1
      ·rename_i c hc;rw [hyield j b hg hwt c hc];exact Option.some.inj hw1
      cases hw1
   unfold wpOp;rw [hops i,hio];simp only;by_cases hqi:∀ p∈ch,p.1≠i
   ·-- a quiet operation
    obtain ⟨v,hv,hqv⟩:∃ v,lk VE i=some v/\QOk P cx l l[i] σ VE fz Hq v:=by
     rcases hq i l[i] hio with ⟨p,hp,he⟩ | ⟨_,h1⟩
     ·exact absurd he (hqi p hp)
     exact h1
    have hkeep:Inv cx fz Hq w:=by
     rcases a10 with h1 | h1
     ·exact hi0.keep a1 h1
     have:=h1 i hil hqi;rw [hun] at this;cases this
    have hreads:Reads (rdq l l[i] σ VE) a.eval:=by
     intro x u hx;cases x with
     | tmp t=>
      unfold rdq at hx;cases hw:YbC l t 0 with
      | none=>
       simp only [hw] at hx;have:=a5 t u hx (fun k o hk hd=>absurd hd (Yau l t 0 hw k o hk));simp [Act.eval,this]
      | some j=>
       simp only [hw] at hx;cases hwt:waits l[i] j with
       | false=>
        simp only [hwt] at hx;cases hlb:YeS l l[i] j with
        | false=>simp [hlb] at hx
        | true=>
         simp only [hlb] at hx;have:=a5 t u hx (hlate j t hw hlb);simp [Act.eval,this]
       | true=>
        simp only [hwt] at hx;obtain ⟨k,o,rfl,hk,hd⟩:=WB l t 0 j hw;simp only [Nat.zero_add] at*;have hqk:isQ k:=fun p hp he=>by
         have:=hVEch k (.inr ⟨p,hp,he⟩);rw [hx] at this;cases this
        have:=a6 k o t u hk hd hqk (hdone k hwt).1 hx;simp [Act.eval,this]
     | const c=>injection hx
     | global g=>injection hx
     | func f=>injection hx
    have hnext:∀ w',Fr [] w w'->A (listed.setIfInBounds i true) (a.put l[i].dst v) w':=by
     intro w' hw';refine ⟨pre,rest,done,cv,τ,fzs,Hs,e0,hC,a1.quiet hw',putSize v,putDef v,by simpa using a4,⟨a5n v,a13n⟩,fun k o d u hk hd hqk hls hu=>?_,fun p hp=>?_,fun p hp=>?_,a9,?_,fun hd k hk hqk=>hmono k (a11 hd k hk hqk),a12⟩
     ·by_cases hki:k=i
      ·subst hki;have:o=l[k]:=by rw [hio] at hk;injection hk with hk;exact hk.symm
       subst this;rw [hv] at hu;injection hu with hu;subst hu
       exact putSame v d hd
      rw [hother k hki] at hls;exact putOther v d u (a6 k o d u hk hd hqk hls hu) (dstNe k o d hk hd hki)
     ·obtain ⟨h1,u,h2,h3⟩:=a7 p hp;have hpi:p.1≠i:=hqi p (by rw [e0];simp [hp]);exact ⟨hmono _ h1,u,h2,fun d hd=>putOther v d u (h3 d hd) (dstNe p.1 p.2 d (hch p (by rw [e0];simp [hp])).2 hd hpi)⟩
     ·have hpi:p.1≠i:=hqi p (by rw [e0];simp [hp]);obtain ⟨h1,h2⟩:=a8 p hp;exact ⟨by rw [hother _ hpi];exact h1,h2⟩
     rcases a10 with h1 | h1
     ·exact .inl h1
     exact .inr fun k hk hqk=>hmono k (h1 k hk hqk)
    rcases hqv with ⟨hw1,hw2⟩ | ⟨hw1,hw2⟩
    ·have hwant:Region.wanted l[i] (yielded l.toArray a.tmps)=true:=by
      unfold Region.wanted;cases hg:l[i].guard with
      | none=>rfl
      | some jb=>
       obtain ⟨j,b⟩:=jb;simp only;unfold Ybr at hw1;simp only [hg] at hw1;cases hwt:waits l[i] j with
       | false=>simp [hwt] at hw1
       | true=>
        simp only [hwt] at hw1;split at hw1
        ·rename_i c hc;rw [hyield j b hg hwt c hc];exact Option.some.inj hw1
        cases hw1
     rw [if_pos hwant];exact .inl (W3.wp ((hw2 a.eval w hreads hkeep).mono fun v' w' ⟨he,hw'⟩=>by subst he;exact ih _ _ _ hcount (hnext w' hw')))
    have hwant:Region.wanted l[i] (yielded l.toArray a.tmps)=false:=by
     unfold Region.wanted;unfold Ybr at hw1;cases hg:l[i].guard with
     | none=>simp [hg] at hw1
     | some jb=>
      obtain ⟨j,b⟩:=jb;simp only;simp only [hg] at hw1;cases hwt:waits l[i] j with
      | false=>simp [hwt] at hw1
      | true=>
       simp only [hwt] at hw1;split at hw1
       ·rename_i c hc;rw [hyield j b hg hwt c hc];exact Option.some.inj hw1
       cases hw1
    rw [if_neg (by simp [hwant])];subst hw2;exact ih _ _ _ hcount (hnext w (Fr.refl _ _))
   -- the chain's next operation
   simp only [Classical.not_forall,Classical.not_not] at hqi;obtain ⟨p,hp,hpi⟩:=hqi;have hpl:=(hch p hp).2;rw [hpi,hio] at hpl;injection hpl with hpl
   have hprest:p∈rest:=by
    rw [e0] at hp;rcases List.mem_append.1 hp with h1 | h1
    ·have:=(a7 p h1).1;rw [hpi,hun] at this;cases this
    exact h1
   cases rest with
   | nil=>cases hprest
   | cons q r=>
    have hcr:YaV (q::r)=true:=by
     clear hC a7 a8 a9 a12 hprest;have:∀ (pre:List (Nat × Oper)),YaV (pre++q::r)=true->YaV (q::r)=true:=by
      intro pre
      induction pre with
      | nil=>exact fun h=>h
      | cons x pre ihp=>exact fun h=>ihp (Yjg h)
     exact this pre (e0 ▸ hcok)
    obtain ⟨qi,qo⟩:=q;have hpq:p=(qi,qo):=by
     cases hprest with
     | head=>rfl
     | tail _ hpr=>
      obtain ⟨x,hx,hw,hlt⟩:=Yd2 hcr p hpr;rw [<- hpl] at hw;have h1:=(hdone x.1 hw).1;have h2:=(a8 x hx).1;rw [h2] at h1;cases h1
    subst hpq;simp only at hpi hpl;subst hpi;have hreads:Reads (rdc l l[qi] σ VE cv) a.eval:=by
     intro x u hx;cases x with
     | tmp t=>
      unfold rdc at hx;cases hw:YbC l t 0 with
      | none=>
       simp only [hw] at hx;have:=a5 t u hx (fun k o hk hd=>absurd hd (Yau l t 0 hw k o hk));simp [Act.eval,this]
      | some j=>
       simp only [hw] at hx;cases hwt:waits l[qi] j with
       | false=>
        simp only [hwt] at hx;cases hlb:YeS l l[qi] j with
        | false=>simp [hlb] at hx
        | true=>
         simp only [hlb] at hx;have:=a5 t u hx (hlate j t hw hlb);simp [Act.eval,this]
       | true=>
        simp only [hwt] at hx;obtain ⟨k,o,rfl,hk,hd⟩:=WB l t 0 j hw;simp only [Nat.zero_add] at*;cases hcv:lk cv k with
        | some u'=>
         simp only [hcv] at hx;injection hx with hx
         subst hx;obtain ⟨x,hx,hxk⟩:=a9 k u' hcv;obtain ⟨_,u2,hu2,hd2⟩:=a7 x hx;rw [hxk,hcv] at hu2;injection hu2 with hu2
         subst hu2;have hxl:=(hch x (by rw [e0];simp [hx])).2;rw [hxk,hk] at hxl;injection hxl with hxl
         have:=hd2 t (by rw [<- hxl];exact hd);simp [Act.eval,this]
        | none=>
         simp only [hcv] at hx;have hqk:isQ k:=fun p hp he=>by
          have:=hVEch k (.inr ⟨p,hp,he⟩);rw [hx] at this;cases this
         have:=a6 k o t u hk hd hqk (hdone k hwt).1 hx;simp [Act.eval,this]
     | const c=>injection hx
     | global g=>injection hx
     | func f=>injection hx
    have hstep:=hC;unfold Ch at hstep;rw [<- hpl] at hstep;have nextA:∀ (v:Value) (fz':FZ) (H':HP) (w':World),Inv cx fz' H' w'->((done || allq l ch l[qi])=true\/Keep fz Hq fz' H'\/(fz'=fzs/\H'=Hs))->
     Ch P cx l σ VE fz Hq Q ch r (done || allq l ch l[qi]) ((qi,v)::cv) (match l[qi].dst with | some d=>(d,v)::τ | none=>τ) fz' H'->A (listed.setIfInBounds qi true) (a.put l[qi].dst v) w':=by
     intro v fz' H' w' hinv hst hrest;refine ⟨pre++ [(qi,qo)],r,_,(qi,v)::cv,_,fz',H',by rw [e0];simp,hrest,hinv,putSize v,putDef v,by simpa using a4,⟨a5n v,a13n⟩,fun k o d u hk hd hqk hls hu=>?_,fun x hx=>?_,fun x hx=>?_,fun j u hj=>?_,?_,fun hd k hk hqk=>?_,fun s u hs=>?_⟩
     ·have hki:k≠qi:=fun he=>hqk (qi,qo) hp he.symm
      rw [hother k hki] at hls;exact putOther v d u (a6 k o d u hk hd hqk hls hu) (dstNe k o d hk hd hki)
     ·rcases List.mem_append.1 hx with hx | hx
      ·obtain ⟨h1,u,h2,h3⟩:=a7 x hx;have hne:x.1≠qi:=fun he=>by rw [he,hun] at h1;cases h1
       exact ⟨hmono _ h1,u,by rw [YZ v cv Zi];exact h2,fun d hd=>putOther v d u (h3 d hd) (dstNe x.1 x.2 d (hch x (by rw [e0];simp [hx])).2 hd hne)⟩
      simp only [List.mem_singleton] at hx;subst hx;exact ⟨hsame,v,Xh _ _ _,fun d hd=>putSame v d (by rw [hpl];exact hd)⟩
     ·obtain ⟨h1,h2⟩:=a8 x (by simp [hx]);have hne:x.1≠qi:=by have:=YgR hcr x hx;omega
      exact ⟨by rw [hother _ hne];exact h1,by rw [YZ v cv Zi];exact h2⟩
     ·by_cases he:qi=j
      ·exact ⟨(qi,qo),by simp,he⟩
      rw [YZ v cv he] at hj;obtain ⟨x,hx,hxj⟩:=a9 j u hj;exact ⟨x,by simp [hx],hxj⟩
     ·rcases hst with hst | hst
      ·right;intro k hk hqk;cases hdn:done with
       | true=>exact hmono k (a11 hdn k hk hqk)
       | false=>
        rw [hdn,Bool.false_or] at hst;unfold allq at hst;have:=List.all_eq_true.1 hst k (by simpa using hk);rw [Bool.or_eq_true] at this;rcases this with h1 | h1
        ·unfold inCh at h1;obtain ⟨x,hx,hxk⟩:=List.any_eq_true.1 h1;exact absurd (Nat.eq_of_beq_eq_true hxk) (hqk x hx)
        exact hmono k (hdone k h1).1
      rcases hst with hst | ⟨h1,h2⟩
      ·exact .inl hst
      subst h1 h2;rcases a10 with h3 | h3
      ·exact .inl h3
      exact .inr fun k hk hqk=>hmono k (h3 k hk hqk)
     ·rw [Bool.or_eq_true] at hd;rcases hd with hd | hd
      ·exact hmono k (a11 hd k hk hqk)
      unfold allq at hd;have:=List.all_eq_true.1 hd k (by simpa using hk);rw [Bool.or_eq_true] at this;rcases this with h1 | h1
      ·unfold inCh at h1;obtain ⟨x,hx,hxk⟩:=List.any_eq_true.1 h1;exact absurd (Nat.eq_of_beq_eq_true hxk) (hqk x hx)
      exact hmono k (hdone k h1).1
     have hcvx:∀ x∈pre,lk ((qi,v)::cv) x.1=lk cv x.1:=by
      intro x hx;have h1:=(a7 x hx).1;have hne:x.1≠qi:=fun he=>by rw [he,hun] at h1;cases h1
      exact YZ v cv Zi
     cases hd:l[qi].dst with
     | none=>
      simp only [hd] at hs;rcases a12 s u hs with h1 | ⟨x,hx,hxd,hxv⟩ | ⟨h1,h2,h3⟩
      ·exact .inl h1
      ·exact .inr (.inl ⟨x,by simp [hx],hxd,by rw [hcvx x hx];exact hxv⟩)
      refine .inr (.inr ⟨h1,h2,fun x hx=>?_⟩);rcases List.mem_append.1 hx with hx | hx
      ·exact h3 x hx
      simp only [List.mem_singleton] at hx;subst hx;simp only [<- hpl,hd];simp
     | some d=>
      simp only [hd] at hs;by_cases he:d=s
      ·subst he;rw [Xh] at hs;exact .inr (.inl ⟨(qi,qo),by simp,by rw [<- hpl];exact hd,by rw [Xh];exact hs⟩)
      rw [YZ v τ he] at hs;rcases a12 s u hs with h1 | ⟨x,hx,hxd,hxv⟩ | ⟨h1,h2,h3⟩
      ·exact .inl h1
      ·exact .inr (.inl ⟨x,by simp [hx],hxd,by rw [hcvx x hx];exact hxv⟩)
      refine .inr (.inr ⟨h1,h2,fun x hx=>?_⟩);rcases List.mem_append.1 hx with hx | hx
      ·exact h3 x hx
      simp only [List.mem_singleton] at hx;subst hx;simp only [<- hpl,hd];intro hc;injection hc with hc;exact he hc
    rcases hstep with ⟨hw1,hdo⟩ | ⟨hw1,hno⟩
    ·rw [if_pos (hwantB true hw1)];refine .inl (W3.wp ((hdo a.eval w hreads a1).mono fun v w' hh=>?_));obtain ⟨fz',H',hinv,hst,hrest⟩:=hh;exact ih _ _ _ hcount (nextA v fz' H' w' hinv (hst.imp (fun h=>h) .inl) hrest)
    rw [if_neg (by rw [hwantB false hw1];simp)];exact ih _ _ _ hcount (nextA undef fzs Hs w a1 (.inr (.inr ⟨rfl,rfl⟩)) hno)
 refine wp_region_any hm (main _ _ _ _ ?_ ⟨[],ch,false,[],τF,fz,H,by simp,hCh,hi.drew,hs.size,hs.defers,by simp,⟨fun s v hv _=>hs.slot s v hv,fun k o hk hls=>?_⟩,fun k o d v hk hd _ hls=>?_,by simp,fun p hp=>⟨?_,rfl⟩,(fun j v hj=>by cases hj),.inl ⟨Le.refl _,fun p hp=>hHq.subset hp⟩,(fun h=>by cases h),fun s v hsv=>?_⟩)
 ·have:=List.countP_le_length (p:=fun i=>!(Array.replicate l.toArray.size false).getD i true) (l:=List.range l.length);simpa using this
 ·have:k<l.length:=(Zg hk).1;simp [Array.getD,this] at hls
 ·have:k<l.length:=(Zg hk).1;simp [Array.getD,this] at hls
 ·have:p.1<l.length:=(Zg (hch p hp).2).1;simp [Array.getD,this]
 rcases hτ s v hsv with ⟨k,o,hk,hd,hl⟩ | ⟨hl,hn⟩
 ·refine .inl ⟨k,o,hk,hd,fun p hp he=>?_,hl⟩;have:=hVEch k (.inr ⟨p,hp,he⟩);rw [hl] at this;cases this
 exact .inr (.inr ⟨hl,fun k o hk hqk=>hn k o hk hqk,by simp⟩)
section
variable {Hq:HP} {K:Env->Env->List (Nat × Oper)->Prop} {σ' τ ve cv:Env} {l:List Oper} {ch all:List (Nat × Oper)} {i d:Nat} {op:Op} {ty:TypeId} {pos:String} {af:Array Edge} {dn:Bool} {fz0:FZ}
theorem Ykg (h:DoesQ P cx ⟨some d,op,ty,pos,af,none⟩ (rdq l ⟨some d,op,ty,pos,af,none⟩ σ' ve) fz Hq fun v=>QK P cx l σ' fz Hq K (i+1) rest ((i,v)::ve) ((d,v)::τ) ch):
 QK P cx l σ' fz Hq K i (⟨some d,op,ty,pos,af,none⟩::rest) ve τ ch:=by
 obtain ⟨v,h1,h2⟩:=h;exact .inl ⟨v,.inl ⟨rfl,h2⟩,h1⟩
theorem Yf {o:Oper} (h:QK P cx l σ' fz Hq K (i+1) rest ve τ (ch++ [(i,o)])):QK P cx l σ' fz Hq K i (o::rest) ve τ ch:=.inr h
theorem YM (h:K ve τ ch):QK P cx l σ' fz Hq K i [] ve τ ch:=h
theorem Ch.done (h:Q .normal τ fz H):Ch P cx l σ' ve fz0 Hq Q all [] dn cv τ fz H:=h
theorem Yt (h:Does P cx ⟨some d,op,ty,pos,af,none⟩ (rdc l ⟨some d,op,ty,pos,af,none⟩ σ' ve cv) fz H fun v fz' H'=>Keep fz0 Hq fz' H'/\Ch P cx l σ' ve fz0 Hq Q all ch (dn || allq l all ⟨some d,op,ty,pos,af,none⟩) ((i,v)::cv) ((d,v)::τ) fz' H'):
 Ch P cx l σ' ve fz0 Hq Q all ((i,⟨some d,op,ty,pos,af,none⟩)::ch) dn cv τ fz H:=by
 unfold Ch;refine .inl ⟨rfl,?_⟩;intro ρ w hr hi;exact (h ρ w hr hi).mono fun v w' ⟨fz',H',h1,h2,h3⟩=>⟨fz',H',h1,.inr h2,h3⟩
theorem Ch.hard (hd:(dn || allq l all ⟨some d,op,ty,pos,af,none⟩)=true) (h:Does P cx ⟨some d,op,ty,pos,af,none⟩ (rdc l ⟨some d,op,ty,pos,af,none⟩ σ' ve cv) fz H fun v fz' H'=>Ch P cx l σ' ve fz0 Hq Q all ch true ((i,v)::cv) ((d,v)::τ) fz' H'):
 Ch P cx l σ' ve fz0 Hq Q all ((i,⟨some d,op,ty,pos,af,none⟩)::ch) dn cv τ fz H:=by
 unfold Ch;refine .inl ⟨rfl,?_⟩;intro ρ w hr hi;exact (h ρ w hr hi).mono fun v w' ⟨fz',H',h1,h3⟩=>⟨fz',H',h1,.inl hd,by rw [hd];exact h3⟩
theorem Ch.hard0 (hd:(dn || allq l all ⟨none,op,ty,pos,af,none⟩)=true) (h:Does P cx ⟨none,op,ty,pos,af,none⟩ (rdc l ⟨none,op,ty,pos,af,none⟩ σ' ve cv) fz H fun v fz' H'=>Ch P cx l σ' ve fz0 Hq Q all ch true ((i,v)::cv) τ fz' H'):
 Ch P cx l σ' ve fz0 Hq Q all ((i,⟨none,op,ty,pos,af,none⟩)::ch) dn cv τ fz H:=by
 unfold Ch;refine .inl ⟨rfl,?_⟩;intro ρ w hr hi;exact (h ρ w hr hi).mono fun v w' ⟨fz',H',h1,h3⟩=>⟨fz',H',h1,.inl hd,by rw [hd];exact h3⟩
theorem Ch.q (h:DoesQ P cx ⟨some d,op,ty,pos,af,none⟩ (rdc l ⟨some d,op,ty,pos,af,none⟩ σ' ve cv) fz H fun v=>Keep fz0 Hq fz H/\Ch P cx l σ' ve fz0 Hq Q all ch (dn || allq l all ⟨some d,op,ty,pos,af,none⟩) ((i,v)::cv) ((d,v)::τ) fz H):
 Ch P cx l σ' ve fz0 Hq Q all ((i,⟨some d,op,ty,pos,af,none⟩)::ch) dn cv τ fz H:=Yt h.does
theorem QK.yes {g:Nat × Bool} (hw:Ybr ⟨some d,op,ty,pos,af,some g⟩ ve=some true) (h:DoesQ P cx ⟨some d,op,ty,pos,af,some g⟩ (rdq l ⟨some d,op,ty,pos,af,some g⟩ σ' ve) fz Hq fun v=>QK P cx l σ' fz Hq K (i+1) rest ((i,v)::ve) ((d,v)::τ) ch):
 QK P cx l σ' fz Hq K i (⟨some d,op,ty,pos,af,some g⟩::rest) ve τ ch:=by
 obtain ⟨v,h1,h2⟩:=h;exact .inl ⟨v,.inl ⟨hw,h2⟩,h1⟩
theorem QK.no {g:Nat × Bool} (hw:Ybr ⟨some d,op,ty,pos,af,some g⟩ ve=some false) (h:QK P cx l σ' fz Hq K (i+1) rest ((i,undef)::ve) ((d,undef)::τ) ch):
 QK P cx l σ' fz Hq K i (⟨some d,op,ty,pos,af,some g⟩::rest) ve τ ch:=.inl ⟨undef,.inr ⟨hw,rfl⟩,h⟩
end
theorem QL.done {σ':Env} {τ ve:Env} {l:List Oper} (h:Q .normal τ fz H):QL P cx l σ' fz H Q i [] ve τ:=h
theorem Ykf {σ' τ ve:Env} {l:List Oper} {d:Nat} {op:Op} {ty:TypeId} {pos:String} {af:Array Edge}
 (h:DoesQ P cx ⟨some d,op,ty,pos,af,none⟩ (rdq l ⟨some d,op,ty,pos,af,none⟩ σ' ve) fz H fun v=>QL P cx l σ' fz H Q (i+1) rest ((i,v)::ve) ((d,v)::τ)):
 QL P cx l σ' fz H Q i (⟨some d,op,ty,pos,af,none⟩::rest) ve τ:=by
 obtain ⟨v,h1,h2⟩:=h;exact ⟨v,.inl ⟨rfl,h2⟩,h1⟩
theorem QL.yes {σ' τ ve:Env} {l:List Oper} {d:Nat} {op:Op} {ty:TypeId} {pos:String} {af:Array Edge} {g:Nat × Bool} (hw:Ybr ⟨some d,op,ty,pos,af,some g⟩ ve=some true)
 (h:DoesQ P cx ⟨some d,op,ty,pos,af,some g⟩ (rdq l ⟨some d,op,ty,pos,af,some g⟩ σ' ve) fz H fun v=>QL P cx l σ' fz H Q (i+1) rest ((i,v)::ve) ((d,v)::τ)):
 QL P cx l σ' fz H Q i (⟨some d,op,ty,pos,af,some g⟩::rest) ve τ:=by
 obtain ⟨v,h1,h2⟩:=h;exact ⟨v,.inl ⟨hw,h2⟩,h1⟩
theorem QL.no {σ' τ ve:Env} {l:List Oper} {d:Nat} {op:Op} {ty:TypeId} {pos:String} {af:Array Edge} {g:Nat × Bool} (hw:Ybr ⟨some d,op,ty,pos,af,some g⟩ ve=some false)
 (h:QL P cx l σ' fz H Q (i+1) rest ((i,undef)::ve) ((d,undef)::τ)):
 QL P cx l σ' fz H Q i (⟨some d,op,ty,pos,af,some g⟩::rest) ve τ:=⟨undef,.inr ⟨hw,rfl⟩,h⟩
theorem Yb0 (h:Q .normal σ fz H):Seq P cx n ops [] σ fz H Q:=Seq.nil h
section
variable {y:Code} {id i m:Nat} {I:Nat->Env->FZ->HP->Prop}
theorem YdD (h:Wp P cx n y σ fz H Q):andThen P cx n y Q .normal σ fz H:=h
theorem Ymc (h:Q (.exit i) σ fz H):andThen P cx n y Q (.exit i) σ fz H:=h
theorem Ymd (h:Q .ret σ fz H):andThen P cx n y Q .ret σ fz H:=h
theorem blkN (h:Q .normal σ fz H):blkQ id Q .normal σ fz H:=h
theorem blkR (h:Q .ret σ fz H):blkQ id Q .ret σ fz H:=h
theorem blkX (hi:Nat.beq i id=true) (h:Q .normal σ fz H):blkQ id Q (.exit i) σ fz H:=by simp only [blkQ,hi];exact h
theorem blkY (hi:Nat.beq i id=false) (h:Q (.exit i) σ fz H):blkQ id Q (.exit i) σ fz H:=by simp only [blkQ,hi];exact h
theorem Yna (h:Q (.exit i) σ fz H):loopQ I m Q (.exit i) σ fz H:=h
theorem Ynb (h:Q .ret σ fz H):loopQ I m Q .ret σ fz H:=h
theorem WO {m':Nat} {σ':Env} {H':HP} (hI:I m' σ' fz H') (hlt:m'<m) (hs:Sub σ' σ) (hh:H'.Sublist H):loopQ I m Q .normal σ fz H:=⟨m',σ',H',hlt,hs,hh,hI⟩
theorem loopNz {m':Nat} {σ':Env} {H':HP} (_:m'=m') (_:σ'=σ') (_:H'=H') (hI:I m' σ' fz H') (hlt:m'<m) (hs:Sub σ' σ) (hh:H'.Sublist H):loopQ I m Q .normal σ fz H:=WO hI hlt hs hh
end
end
structure Ty where
 desc:TypeDesc
 size:Nat
 bytes:Nat
 zero:Value
def fld (t o:Nat):Field:={name:= "",type:=t,offset:=o,embedded:=false,tag:= "",pkgPath:= "",byteOffset:=0}
def strip (f:Field):Field:=fld f.type f.offset
def blank:TypeDesc->TypeDesc
 | .struct fs=>.struct (fs.map strip)
 | .interface _=>.interface #[]
 | .func _ _ _=>.func #[] #[] false
 | d=>d
structure TyOk (P:Program) (t:TypeId) (x:Ty):Prop where
 und:∃ d,P.underlying t=some d/\blank d=x.desc
 info:∃ i,P.info? t=some i/\i.size=x.size/\i.bytes=x.bytes/\i.zero=some x.zero
variable {t:TypeId}
theorem TyOk.mk' {P:Program} {x:Ty} (h:(P.underlying t).map blank=some x.desc) (h2:(P.info? t).map (fun i=>(i.size,i.bytes,i.zero))=some (x.size,x.bytes,some x.zero)):TyOk P t x:=by
 refine ⟨?_,?_⟩
 ·cases hu:P.underlying t with
  | none=>simp [hu] at h
  | some d=>simp [hu] at h;exact ⟨d,rfl,h⟩
 cases hi:P.info? t with
 | none=>simp [hi] at h2
 | some i=>simp [hi] at h2;exact ⟨i,rfl,h2.1,h2.2.1,h2.2.2⟩
def lkT:List (Nat × Ty)->Nat->Option Ty
 | [],_=>none
 | (j,v)::r,i=>match Nat.beq j i with
  | true=>some v
  | false=>lkT r i
def AllTy (P:Program):List (Nat × Ty)->Prop
 | []=>True
 | (t,x)::r=>TyOk P t x/\AllTy P r
structure Tab (P:Program) where
 l:List (Nat × Ty)
 ok:AllTy P l
 mixed:P.follows .mixedOrders=true
def Tab.inf {P:Program} (T:Tab P) (t:Nat):Option Ty:=lkT T.l t
theorem lkT_ok {P:Program}:∀ (l:List (Nat × Ty)),AllTy P l->∀ t x,lkT l t=some x->TyOk P t x
 | [],_,_,_,h=>by cases h
 | (j,v)::r,hl,t,x,h=>by
  unfold lkT at h;cases hb:Nat.beq j t with
  | true=>simp only [hb] at h;injection h with h;subst h;rw [<- Nat.eq_of_beq_eq_true hb];exact hl.1
  | false=>simp only [hb] at h;exact lkT_ok r hl.2 t x h
theorem Tab.ok_ {P:Program} (T:Tab P) {t:Nat} {x:Ty} (h:T.inf t=some x):TyOk P t x:=lkT_ok T.l T.ok t x h
section
variable {P:Program} {cx:Cx} {r:Operand->Option Value} {fz:FZ} {H:HP} {V:Value->Prop} {dst:Option Nat} {ty:TypeId} {pos:String} {af:Array Edge} {gd:Option (Nat × Bool)}
theorem run_sizeOf (T:Tab P) {t:Nat} {x:Ty} (h:T.inf t=some x) (w:World):(sizeOf t).run P w=.ok x.size w:=by
 obtain ⟨i,hi,h1,_,_⟩:=(T.ok_ h).info;simp [sizeOf,typeInfo,hi,h1]
def plainD:TypeDesc->Bool
 | .struct _=>false
 | .interface _=>false
 | .func _ _ _=>false
 | _=>true
theorem und_plain (T:Tab P) {t:Nat} {x:Ty} (h:T.inf t=some x) {d:TypeDesc} (hd:x.desc=d) (hp:plainD d=true):P.underlying t=some d:=by
 obtain ⟨d',h1,h2⟩:=(T.ok_ h).und;rw [h1];rw [hd] at h2;cases d'<;>simp only [blank] at h2<;>subst h2<;>first | rfl | (simp [plainD] at hp)
theorem Ygs (T:Tab P) {t:Nat} {x:Ty} (h:T.inf t=some x) {fs:Array Field} (hd:x.desc=.struct fs):∃ fs',P.underlying t=some (.struct fs')/\fs'.map strip=fs:=by
 obtain ⟨d',h1,h2⟩:=(T.ok_ h).und;rw [hd] at h2;cases d'<;>simp only [blank] at h2<;>simp_all
theorem YaY (T:Tab P) {t:Nat} {x:Ty} (h:T.inf t=some x) {ms:Array (String × TypeId)} (hd:x.desc=.interface ms):P.underlying t=some (.interface (P.methodsAt t)):=by
 obtain ⟨d',h1,h2⟩:=(T.ok_ h).und;rw [hd] at h2;cases d'<;>simp only [blank] at h2<;>simp_all [Program.methodsAt]
def W2:TypeDesc->Bool
 | .struct _=>true
 | .array _ _=>true
 | _=>false
def Ye5:TypeDesc->Bool
 | .interface _=>true
 | _=>false
theorem run_isAgg (T:Tab P) {t:Nat} {x:Ty} (h:T.inf t=some x) (w:World):(isAgg t).run P w=.ok (W2 x.desc) w:=by
 obtain ⟨d',h1,h2⟩:=(T.ok_ h).und;simp only [isAgg,Sem.run_bind,run_underlying h1,Result.andThen_ok];rw [<- h2];cases d'<;>simp [blank,W2]
theorem Yl5 (T:Tab P) {t:Nat} {x:Ty} (h:T.inf t=some x):∃ d,P.underlying t=some d/\Ye5 d=Ye5 x.desc:=by
 obtain ⟨d',h1,h2⟩:=(T.ok_ h).und;refine ⟨d',h1,?_⟩;rw [<- h2];cases d'<;>rfl
theorem YcZ (T:Tab P) {t:Nat} {x:Ty} (h:T.inf t=some x) (w:World):(zeroValue t).run P w=.ok x.zero w:=by
 obtain ⟨i,hi,_,_,h3⟩:=(T.ok_ h).info;simp [zeroValue,typeInfo,hi,h3]
variable {v:Value}
theorem YJ {op:Op} (h:∀ ρ w,Reads r ρ->(execOp ρ ⟨dst,op,ty,pos,af,gd⟩).run P w=.ok (.value v) w) (hV:V v):DoesQ P cx ⟨dst,op,ty,pos,af,gd⟩ r fz H V:=
 ⟨v,hV,fun ρ w hr _=>by rw [h ρ w hr];exact ⟨rfl,Fr.refl _ _⟩⟩
variable {x:Operand}
theorem WH (hx:r x=some v) (h:V v):DoesQ P cx ⟨dst,.move x,ty,pos,af,gd⟩ r fz H V:=
 YJ (fun ρ w hr=>by simp [execOp,hr _ _ hx]) h
theorem YY (hx:r x=some v) (h:V v):DoesQ P cx ⟨dst,.assign x,ty,pos,af,gd⟩ r fz H V:=
 YJ (fun ρ w hr=>by simp [execOp,hr _ _ hx]) h
variable {y:Operand}
theorem YjG {c:Operand} (hc:r c=some (.bool true)) (hx:r x=some v) (h:V v):DoesQ P cx ⟨dst,.pick c x y,ty,pos,af,gd⟩ r fz H V:=
 YJ (fun ρ w hr=>by simp [execOp,hr _ _ hc,hr _ _ hx,asBool]) h
theorem Yir {c:Operand} (hc:r c=some (.bool false)) (hy:r y=some v) (h:V v):DoesQ P cx ⟨dst,.pick c x y,ty,pos,af,gd⟩ r fz H V:=
 YJ (fun ρ w hr=>by simp [execOp,hr _ _ hc,hr _ _ hy,asBool]) h
section bin
variable {t t':TypeId} {x y:Operand} {k:IntKind} {a b:Int}
theorem q_lss (hx:r x=some (.int k a)) (hy:r y=some (.int k b)) (h:V (.bool (decide (a<b)))):DoesQ P cx ⟨dst,.binOp .lss t x y t',ty,pos,af,gd⟩ r fz H V:=
 YJ (fun ρ w hr=>by simp [execOp,hr _ _ hx,hr _ _ hy,go_sem]) h
theorem q_leq (hx:r x=some (.int k a)) (hy:r y=some (.int k b)) (h:V (.bool (decide (a<=b)))):DoesQ P cx ⟨dst,.binOp .leq t x y t',ty,pos,af,gd⟩ r fz H V:=
 YJ (fun ρ w hr=>by simp [execOp,hr _ _ hx,hr _ _ hy,go_sem]) h
theorem q_gtr (hx:r x=some (.int k a)) (hy:r y=some (.int k b)) (h:V (.bool (decide (b<a)))):DoesQ P cx ⟨dst,.binOp .gtr t x y t',ty,pos,af,gd⟩ r fz H V:=
 YJ (fun ρ w hr=>by simp [execOp,hr _ _ hx,hr _ _ hy,go_sem]) h
theorem q_geq (hx:r x=some (.int k a)) (hy:r y=some (.int k b)) (h:V (.bool (decide (b<=a)))):DoesQ P cx ⟨dst,.binOp .geq t x y t',ty,pos,af,gd⟩ r fz H V:=
 YJ (fun ρ w hr=>by simp [execOp,hr _ _ hx,hr _ _ hy,go_sem]) h
theorem Yix (hx:r x=some (.int k a)) (hy:r y=some (.int k b)) (h:V (.bool (decide (a=b)))):DoesQ P cx ⟨dst,.binOp .eql t x y t',ty,pos,af,gd⟩ r fz H V:=
 YJ (fun ρ w hr=>by
  have:(a==b)=decide (a=b):=by rw [Bool.eq_iff_iff];simp
  simp [execOp,hr _ _ hx,hr _ _ hy,go_sem,this]) h
theorem q_neq (hx:r x=some (.int k a)) (hy:r y=some (.int k b)) (h:V (.bool (decide (a≠b)))):DoesQ P cx ⟨dst,.binOp .neq t x y t',ty,pos,af,gd⟩ r fz H V:=
 YJ (fun ρ w hr=>by
  have:(a !=b)=!decide (a=b):=by rw [Bool.eq_iff_iff];simp
  simp [execOp,hr _ _ hx,hr _ _ hy,go_sem,this]) h
theorem Yaz {c:Int} (hx:r x=some (.int k a)) (hy:r y=some (.int k b)) (hw:k.wrap (a+b)=c) (h:V (.int k c)):DoesQ P cx ⟨dst,.binOp .add t x y t',ty,pos,af,gd⟩ r fz H V:=
 YJ (fun ρ w hr=>by simp [execOp,hr _ _ hx,hr _ _ hy,eqGuard_add,binOp_add,Op.intArith,hw]) h
theorem q_sub {c:Int} (hx:r x=some (.int k a)) (hy:r y=some (.int k b)) (hw:k.wrap (a - b)=c) (h:V (.int k c)):DoesQ P cx ⟨dst,.binOp .sub t x y t',ty,pos,af,gd⟩ r fz H V:=
 YJ (fun ρ w hr=>by simp [execOp,hr _ _ hx,hr _ _ hy,eqGuard_sub,binOp_sub,Op.intArith,hw]) h
theorem q_mul {c:Int} (hx:r x=some (.int k a)) (hy:r y=some (.int k b)) (hw:k.wrap (a*b)=c) (h:V (.int k c)):DoesQ P cx ⟨dst,.binOp .mul t x y t',ty,pos,af,gd⟩ r fz H V:=
 YJ (fun ρ w hr=>by simp [execOp,hr _ _ hx,hr _ _ hy,eqGuard_mul,binOp_mul,Op.intArith,hw]) h
theorem XD {n:Int} (h: -9223372036854775808<=n/\n<=9223372036854775807):IntKind.i64.wrap n=n:=IntWalk.i64_in n h
end bin
theorem q_not {b:Bool} (hx:r x=some (.bool b)) (h:V (.bool (!b))):DoesQ P cx ⟨dst,.unOp .not t x,ty,pos,af,gd⟩ r fz H V:=
 YJ (fun ρ w hr=>by simp [execOp,hr _ _ hx,Op.unary]) h
variable {A:Option Addr} {X:Ty} {c:Nat}
theorem YQ (T:Tab P) {e:TypeId} (hT:T.inf t=some X) (hd:X.desc=.slice e) (hx:r x=some (.slice A n c)) (h:V (Zk n)):
 DoesQ P cx ⟨dst,.call {callee:=.builtin .len,args:=#[x],argTypes:=#[t]},ty,pos,af,gd⟩ r fz H V:=
 YJ (fun ρ w hr=>by
  have hu:=run_underlying (und_plain T hT hd rfl) w;simp [execOp,resolve,invoke,builtin,hr _ _ hx,Builtin.len_,hu,goInt]) h
theorem Yiu (T:Tab P) {s:Bs} (hT:T.inf t=some X) (hd:X.desc=.string) (hx:r x=some (.string s)) (h:V (Zk s.size)):
 DoesQ P cx ⟨dst,.call {callee:=.builtin .len,args:=#[x],argTypes:=#[t]},ty,pos,af,gd⟩ r fz H V:=
 YJ (fun ρ w hr=>by
  have hu:=run_underlying (und_plain T hT hd rfl) w;simp [execOp,resolve,invoke,builtin,hr _ _ hx,Builtin.len_,hu,goInt]) h
theorem Xr (T:Tab P) {i:Operand} {s:Bs} {k:IntKind} {j:Int} {b:UInt8} (hT:T.inf t=some X) (hd:X.desc=.string) (hx:r x=some (.string s)) (hi:r i=some (.int k j))
 (h0:0<=j) (hb:s[j.toNat]?=some b) (h:V (.int .u8 b.toNat)):DoesQ P cx ⟨dst,.index t x i,ty,pos,af,gd⟩ r fz H V:=
 YJ (fun ρ w hr=>by
  have hu:=run_underlying (und_plain T hT hd rfl) w;simp [execOp,hr _ _ hx,hr _ _ hi,Instr.index,asIntOf,hu,h0,hb]) h
variable {Y:Ty}
theorem YT (T:Tab P) {fs:Array Field} {f:Field} {p:Addr} (hT:T.inf t=some X) (hd:X.desc=.struct fs) (hf:fs[i]?=some f) (hY:T.inf f.type=some Y) (hz:Nat.beq Y.size 0=false)
 (hx:r x=some (.pointer (some p))) (h:V (.pointer (some (p.add f.offset)))):DoesQ P cx ⟨dst,.fieldAddr t x i,ty,pos,af,gd⟩ r fz H V:=
 YJ (fun ρ w hr=>by
  obtain ⟨fs',hu',hs'⟩:=Ygs T hT hd;have hu:=run_underlying hu' w;subst hs';rw [Array.getElem?_map] at hf;cases hf':fs'[i]? with
  | none=>simp [hf'] at hf
  | some f'=>
   simp only [hf',Option.map_some] at hf;injection hf with hf
   subst hf;have hs:=run_sizeOf T hY w;have hz':¬Y.size=0:=fun he=>by rw [he] at hz;cases hz
   simp only [strip,fld] at hs;simp [execOp,hr _ _ hx,Instr.fieldAt,hu,hf',Instr.sureAddr,fieldPlace,hs,hz',strip,fld]) h
theorem Ydj (T:Tab P) {e:TypeId} {i:Operand} {a:Addr} {k:IntKind} {j:Int} (hT:T.inf t=some X) (hd:X.desc=.slice e) (hY:T.inf e=some Y)
 (hx:r x=some (.slice (some a) n c)) (hi:r i=some (.int k j)) (h0:0<=j) (hn:j<n) (h:V (.pointer (some (a.add (j.toNat*Y.size))))):DoesQ P cx ⟨dst,.indexAddr t x i,ty,pos,af,gd⟩ r fz H V:=
 YJ (fun ρ w hr=>by
  have hu:=run_underlying (und_plain T hT hd rfl) w;have hs:=run_sizeOf T hY w;simp [execOp,hr _ _ hx,hr _ _ hi,Instr.indexAt,asIntOf,hu,hs,h0,hn]) h
theorem Wh {vs:Array Value} (hx:r x=some (.tuple vs)) (hv:vs[i]?=some v) (h:V v):DoesQ P cx ⟨dst,.extract x i,ty,pos,af,gd⟩ r fz H V:=
 YJ (fun ρ w hr=>by simp [execOp,hr _ _ hx,Instr.extract,hv]) h
theorem Yfo (T:Tab P) (hT:T.inf t=some X) (hd:Ye5 X.desc=false) (hx:r x=some v) (h:V (.iface t v)):DoesQ P cx ⟨dst,.makeInterface t x,ty,pos,af,gd⟩ r fz H V:=
 YJ (fun ρ w hr=>by
  obtain ⟨d,hu,hi⟩:=Yl5 T hT;rw [hd] at hi;simp only [execOp,hr _ _ hx,Instr.makeInterface,Sem.run_bind,run_underlying hu,Result.andThen_ok];cases d<;>simp_all [Ye5]) h
theorem Yhh (T:Tab P) {t':TypeId} {X':Ty} {k k':IntKind} {a b:Int} (hT:T.inf t=some X) (hT':T.inf t'=some X') (hd:X'.desc=.int k') (hx:r x=some (.int k a)) (hw:k'.wrap a=b) (h:V (.int k' b)):
 DoesQ P cx ⟨dst,.convert t t' x,ty,pos,af,gd⟩ r fz H V:=
 YJ (fun ρ w hr=>by
  obtain ⟨d,hu,_⟩:=Yl5 T hT;have hu':=run_underlying (und_plain T hT' hd rfl) w;simp [execOp,hr _ _ hx,convert,run_underlying hu,hu',Conv.intToInt,hw]) h
def wrL:List Value->Nat->List Value->Option (List Value)
 | cs,0,[]=>some cs
 | [],_,_=>none
 | _::cs,0,v::vs=>match wrL cs 0 vs with
  | some l=>some (v::l)
  | none=>none
 | c::cs,j+1,vs=>match wrL cs j vs with
  | some l=>some (c::l)
  | none=>none
theorem Ykm:∀ (cs:List Value) (j:Nat) (vs cs':List Value),wrL cs j vs=some cs'->j+vs.length<=cs.length/\cs'=cs.take j++vs++cs.drop (j+vs.length)
 | cs,0,[],cs',h=>by simp only [wrL] at h;injection h with h;simp [h]
 | [],0,v::vs,cs',h=>by simp [wrL] at h
 | [],j+1,vs,cs',h=>by simp [wrL] at h
 | c::cs,0,v::vs,cs',h=>by
  simp only [wrL] at h;cases hw:wrL cs 0 vs with
  | none=>simp [hw] at h
  | some l=>
   simp only [hw] at h;injection h with h
   obtain ⟨h1,h2⟩:=Ykm cs 0 vs l hw;subst h h2;simp at h1 ⊢;exact h1
 | c::cs,j+1,vs,cs',h=>by
  simp only [wrL] at h;cases hw:wrL cs j vs with
  | none=>simp [hw] at h
  | some l=>
   simp only [hw] at h;injection h with h
   obtain ⟨h1,h2⟩:=Ykm cs j vs l hw;subst h h2;refine ⟨by simp;omega,?_⟩;rw [show j+1+vs.length=(j+vs.length)+1 from by omega];simp
def YnC (place:Nat->Option (Nat × Nat)):List Value->List (Nat × Value)->Option (List Value)
 | cells,[]=>some cells
 | cells,(i,v)::rest=>match place i with
  | none=>none
  | some (off,size)=>match Nat.beq v.cells.toList.length size with
   | false=>none
   | true=>match wrL cells off v.cells.toList with
    | none=>none
    | some cs=>YnC place cs rest
theorem Yk4 (off:Nat):∀ (vs:List Value) (k:Nat) (cs:List Value),off+k+vs.length<=cs.length->
 (vs.zipIdx k).foldl (fun (cs:Array Value) (p:Value × Nat)=>cs.setIfInBounds (off+p.2) p.1) cs.toArray=(cs.take (off+k)++vs++cs.drop (off+k+vs.length)).toArray
 | [],k,cs,_=>by simp
 | v::vs,k,cs,h=>by
  simp only [List.zipIdx_cons,List.foldl_cons,List.setIfInBounds_toArray];simp only [List.length_cons] at h;rw [Yk4 off vs (k+1) (cs.set (off+k) v) (by simp;omega)];have h1:(cs.set (off+k) v).take (off+(k+1))=cs.take (off+k)++ [v]:=by
   rw [show off+(k+1)=(off+k)+1 from by omega,List.take_add_one,List.take_set,List.getElem?_set_self Zi];simp only [Option.toList];rw [List.set_eq_of_length_le (by simp;omega)]
  have h2:(cs.set (off+k) v).drop (off+(k+1)+vs.length)=cs.drop (off+k+(vs.length+1)):=by
   rw [List.drop_set_of_lt Zi]
   congr 1;omega
  rw [h1,h2];simp
theorem Yj2 {place:Nat->Option (Nat × Nat)}:∀ (parts:List (Nat × Value)) (cells cs:List Value),YnC place cells parts=some cs->Instr.fill place cells.toArray parts=some cs.toArray
 | [],cells,cs,h=>by injection h with h;subst h;rfl
 | (i,v)::rest,cells,cs,h=>by
  unfold YnC at h;cases hp:place i with
  | none=>simp [hp] at h
  | some os=>
   obtain ⟨off,size⟩:=os;simp only [hp] at h;cases hb:Nat.beq v.cells.toList.length size with
   | false=>rw [hb] at h;cases h
   | true=>
    simp only [hb] at h;cases hw:wrL cells off v.cells.toList with
    | none=>simp [hw] at h
    | some cs1=>
     simp only [hw] at h;obtain ⟨h1,h2⟩:=Ykm _ _ _ _ hw;have h3:=Nat.eq_of_beq_eq_true hb;have h4:=Yk4 off v.cells.toList 0 cells Zi;simp only [Nat.add_zero] at h4;rw [<- h2] at h4;have h5:v.cells.zipIdx.foldl (fun (cs:Array Value) (p:Value × Nat)=>cs.setIfInBounds (off+p.2) p.1) cells.toArray=cs1.toArray:=by
      rw [<- h4,<- Array.foldl_toList,Array.toList_zipIdx]
     unfold Instr.fill;simp only [hp];have hc1:v.cells.size=size:=by simpa using h3
     have hc2:¬off+v.cells.size>cells.length:=by simp at h1;omega
     rw [if_neg (by simp [hc1];simp [hc1] at hc2;omega)];exact (congrArg (fun a=>Instr.fill place a rest) h5).trans (Yj2 rest cs1 cs h)
def repZ (z:List Value):Nat->List Value
 | 0=>[]
 | n+1=>z++repZ z n
theorem YkE (z:List Value):∀ (n i:Nat),i<n*z.length->(repZ z n)[i]?=z[i % z.length]?
 | 0,i,h=>by omega
 | n+1,i,h=>by
  unfold repZ;by_cases hi:i<z.length
  ·rw [List.getElem?_append_left hi,Nat.mod_eq_of_lt hi]
  rw [List.getElem?_append_right Zi,YkE z n _ (by rw [Nat.add_mul] at h;omega),Nat.mod_eq_sub_mod (by omega:i>=z.length)]
theorem YkD (z:List Value):∀ n:Nat,(repZ z n).length=n*z.length
 | 0=>by simp [repZ]
 | n+1=>by simp [repZ,YkD z n,Nat.add_mul,Nat.add_comm]
theorem Ymz (z:Array Value) (n size:Nat) (hs:z.size=size):(Array.range (n*size)).map (z[· % z.size]!)=(repZ z.toList n).toArray:=by
 subst hs;apply Array.ext_getElem?;intro i;rw [Array.getElem?_map];by_cases hi:i<n*z.size
 ·have h1:(Array.range (n*z.size))[i]?=some i:=by simp [hi]
  have h2:(repZ z.toList n).toArray[i]?=z.toList[i % z.toList.length]?:=by
   rw [List.getElem?_toArray];exact YkE z.toList n i (by simpa using hi)
  have hlt:i % z.size<z.size:=Nat.mod_lt _ (by
   rcases Nat.eq_zero_or_pos z.size with h0 | h0
   ·rw [h0] at hi;omega
   exact h0)
  rw [h1,h2];simp [hlt]
 have h1:(Array.range (n*z.size))[i]?=none:=by simp [hi]
 have h2:(repZ z.toList n).toArray[i]?=none:=by
  rw [List.getElem?_toArray,List.getElem?_eq_none (by rw [YkD];simpa using hi)]
 rw [h1,h2];rfl
def places (T:Tab P):List Field->Option (List (Nat × Nat))
 | []=>some []
 | f::r=>match T.inf f.type with
  | none=>none
  | some Y=>match places T r with
   | none=>none
   | some l=>some ((f.offset,Y.size)::l)
theorem YeF (T:Tab P):∀ fs:List Field,places T (fs.map strip)=places T fs
 | []=>rfl
 | f::r=>by
  simp only [List.map_cons,places,YeF T r];rfl
theorem run_places (T:Tab P):∀ (fs:List Field) (l:List (Nat × Nat)),places T fs=some l->∀ w,(fs.mapM (fun f=>do pure (f.offset,<- sizeOf f.type):Field->Sem (Nat × Nat))).run P w=.ok l w
 | [],l,h,w=>by injection h with h;subst h;simp
 | f::r,l,h,w=>by
  unfold places at h;cases hY:T.inf f.type with
  | none=>simp [hY] at h
  | some Y=>
   cases hl:places T r with
   | none=>simp [hY,hl] at h
   | some l'=>
    simp [hY,hl] at h;subst h;simp only [List.mapM_cons,Sem.run_bind,run_sizeOf T hY,Result.andThen_ok,Sem.run_pure,run_places T r l' hl]
theorem Ydi {ρ:Operand->Value} (hr:Reads r ρ):∀ (ps:List (Nat × Operand)) (vs:List Value),rds r (ps.map (·.2))=some vs->ps.map (fun p=>(p.1,ρ p.2))=(ps.map (·.1)).zip vs
 | [],vs,h=>by injection h with h;subst h;rfl
 | (i,x)::ps,vs,h=>by
  simp only [List.map_cons,rds] at h;cases hx:r x with
  | none=>simp [hx] at h
  | some v=>
   cases hxs:rds r (ps.map (·.2)) with
   | none=>simp [hx,hxs] at h
   | some us=>
    simp [hx,hxs] at h;subst h;simp [hr x v hx,Ydi hr ps us hxs]
variable {cs:List Value}
theorem Yee (T:Tab P) {ps:List (Nat × Operand)} {fs:Array Field} {pl:List (Nat × Nat)} {vs:List Value} (hT:T.inf t=some X) (hd:X.desc=.struct fs) (hp:places T fs.toList=some pl)
 (hv:rds r (ps.map (·.2))=some vs) (hc:YnC (fun i=>pl[i]?) X.zero.cells.toList ((ps.map (·.1)).zip vs)=some cs) (h:V (.agg cs.toArray)):DoesQ P cx ⟨dst,.build t ps.toArray,ty,pos,af,gd⟩ r fz H V:=
 YJ (fun ρ w hr=>by
  obtain ⟨fs',hu',hs'⟩:=Ygs T hT hd;have hu:=run_underlying hu' w;subst hs';have hz:=YcZ T hT w;have hpl:(fs'.mapM (fun f=>do pure (f.offset,<- sizeOf f.type):Field->Sem (Nat × Nat))).run P w=.ok pl.toArray w:=by
   rw [<- Array.toArray_toList (xs:=fs'),List.mapM_toArray];have:=run_places T fs'.toList pl (by rw [<- YeF];simpa using hp) w;simp only [Sem.run_map,this,Result.andThen_ok]
  have hps:(ps.map fun p=>(p.1,ρ p.2))=(ps.map (·.1)).zip vs:=Ydi hr ps vs hv;have hps':(ps.toArray.map fun x=>match x with | (i,x)=>(i,ρ x)).toList=(ps.map (·.1)).zip vs:=by
   rw [<- hps];simp
  have hc':Instr.fill (fun i=>pl.toArray[i]?) X.zero.cells ((ps.map (·.1)).zip vs)=some cs.toArray:=by
   have:=Yj2 _ _ _ hc;simpa using this
  simp only [execOp,Instr.build,Sem.run_bind,hz,Result.andThen_ok,hu,hpl,hps',hc',Sem.run_pure]) h
section
variable (T:Tab P) {t t':TypeId} {x:Operand} {X:Ty} {ms:Array (String × TypeId)} {u:TypeId} {v:Value}
theorem Ylv (hT:T.inf t=some X) (hd:X.desc=.interface ms) (hx:r x=some (.iface u v)) (hy:r (.const .nilIface)=some .nilIface) (h:V (.bool false)):
 DoesQ P cx ⟨dst,.binOp .eql t x (.const .nilIface) t',ty,pos,af,gd⟩ r fz H V:=
 YJ (fun ρ w hr=>by
  have hu:=YaY T hT hd;simp only [execOp,hr _ _ hx,hr _ _ hy,Sem.run_bind,eqGuard_at_iface,Sem.run_pure,Result.andThen_ok,run_eql_held_nil w t u v hu]) h
theorem YmH (hT:T.inf t=some X) (hd:X.desc=.interface ms) (hx:r x=some .nilIface) (hy:r (.const .nilIface)=some .nilIface) (h:V (.bool true)):
 DoesQ P cx ⟨dst,.binOp .eql t x (.const .nilIface) t',ty,pos,af,gd⟩ r fz H V:=
 YJ (fun ρ w hr=>by
  have hu:=YaY T hT hd;simp only [execOp,hr _ _ hx,hr _ _ hy,Sem.run_bind,eqGuard_nil_constR,Sem.run_pure,Result.andThen_ok,run_eql_nil_nil w t hu]) h
theorem Yls (hT:T.inf t=some X) (hd:X.desc=.interface ms) (hx:r x=some (.iface u v)) (hy:r (.const .nilIface)=some .nilIface) (h:V (.bool true)):
 DoesQ P cx ⟨dst,.binOp .neq t x (.const .nilIface) t',ty,pos,af,gd⟩ r fz H V:=
 YJ (fun ρ w hr=>by
  have hu:=YaY T hT hd;simp only [execOp,hr _ _ hx,hr _ _ hy,Sem.run_bind,eqGuard_at_iface,Sem.run_pure,Result.andThen_ok,run_neq_held_nil w t u v hu]) h
theorem YmE (hT:T.inf t=some X) (hd:X.desc=.interface ms) (hx:r x=some .nilIface) (hy:r (.const .nilIface)=some .nilIface) (h:V (.bool false)):
 DoesQ P cx ⟨dst,.binOp .neq t x (.const .nilIface) t',ty,pos,af,gd⟩ r fz H V:=
 YJ (fun ρ w hr=>by
  have hu:=YaY T hT hd;simp only [execOp,hr _ _ hx,hr _ _ hy,Sem.run_bind,eqGuard_nil_constR,Sem.run_pure,Result.andThen_ok,run_neq_nil_nil w t hu]) h
end
theorem Yjx (a b:Bs):(a.toList==b.toList)=decide (a=b):=by
 rw [Bool.eq_iff_iff,beq_iff_eq,decide_eq_true_iff,ByteArray.toList_eq,ByteArray.toList_eq];constructor
 ·intro h;exact ByteArray.ext (Array.toList_inj.1 h)
 rintro rfl;rfl
theorem Yiv {t':TypeId} {a b:Bs} (hx:r x=some (.string a)) (hy:r y=some (.string b)) (h:V (.bool (decide (a=b)))):
 DoesQ P cx ⟨dst,.binOp .eql t x y t',ty,pos,af,gd⟩ r fz H V:=
 YJ (fun ρ w hr=>by
  simp [execOp,hr _ _ hx,hr _ _ hy,eqGuard_at_string,binOp,Op.stringOp,Yjx]) h
theorem Yis {t':TypeId} {a b:Bs} (hx:r x=some (.string a)) (hy:r y=some (.string b)) (h:V (.bool (decide (a≠b)))):
 DoesQ P cx ⟨dst,.binOp .neq t x y t',ty,pos,af,gd⟩ r fz H V:=
 YJ (fun ρ w hr=>by
  simp [execOp,hr _ _ hx,hr _ _ hy,eqGuard_at_string,binOp,Op.stringOp,Yjx]) h
theorem YgZ {p:Prop} [Decidable p] (ht:p->V (.bool true)) (hf:¬p->V (.bool false)):V (.bool (decide p)):=by
 by_cases h:p
 ·rw [decide_eq_true h];exact ht h
 rw [decide_eq_false h];exact hf h
theorem v_bool {b:Bool} (ht:b=true->V (.bool true)) (hf:b=false->V (.bool false)):V (.bool b):=by
 cases b
 ·exact hf rfl
 exact ht rfl
section
variable {t t':TypeId} {x y:Operand} {k:IntKind} {a b:Int}
theorem q_lssD (hx:r x=some (.int k a)) (hy:r y=some (.int k b)) (ht:a<b->V (.bool true)) (hf:¬(a<b)->V (.bool false)):DoesQ P cx ⟨dst,.binOp .lss t x y t',ty,pos,af,gd⟩ r fz H V:=
 q_lss hx hy (YgZ ht hf)
theorem q_leqD (hx:r x=some (.int k a)) (hy:r y=some (.int k b)) (ht:a<=b->V (.bool true)) (hf:¬(a<=b)->V (.bool false)):DoesQ P cx ⟨dst,.binOp .leq t x y t',ty,pos,af,gd⟩ r fz H V:=
 q_leq hx hy (YgZ ht hf)
theorem q_gtrD (hx:r x=some (.int k a)) (hy:r y=some (.int k b)) (ht:b<a->V (.bool true)) (hf:¬(b<a)->V (.bool false)):DoesQ P cx ⟨dst,.binOp .gtr t x y t',ty,pos,af,gd⟩ r fz H V:=
 q_gtr hx hy (YgZ ht hf)
theorem q_geqD (hx:r x=some (.int k a)) (hy:r y=some (.int k b)) (ht:b<=a->V (.bool true)) (hf:¬(b<=a)->V (.bool false)):DoesQ P cx ⟨dst,.binOp .geq t x y t',ty,pos,af,gd⟩ r fz H V:=
 q_geq hx hy (YgZ ht hf)
theorem YmI (hx:r x=some (.int k a)) (hy:r y=some (.int k b)) (ht:a=b->V (.bool true)) (hf:¬(a=b)->V (.bool false)):DoesQ P cx ⟨dst,.binOp .eql t x y t',ty,pos,af,gd⟩ r fz H V:=
 Yix hx hy (YgZ ht hf)
theorem q_neqD (hx:r x=some (.int k a)) (hy:r y=some (.int k b)) (ht:a≠b->V (.bool true)) (hf:a=b->V (.bool false)):DoesQ P cx ⟨dst,.binOp .neq t x y t',ty,pos,af,gd⟩ r fz H V:=
 q_neq hx hy (YgZ ht (fun h=>hf (Classical.not_not.1 h)))
theorem Yed {u v:Bs} (hx:r x=some (.string u)) (hy:r y=some (.string v)) (ht:u=v->V (.bool true)) (hf:¬u=v->V (.bool false)):DoesQ P cx ⟨dst,.binOp .eql t x y t',ty,pos,af,gd⟩ r fz H V:=
 Yiv hx hy (YgZ ht hf)
theorem Ygy {u v:Bs} (hx:r x=some (.string u)) (hy:r y=some (.string v)) (ht:u≠v->V (.bool true)) (hf:u=v->V (.bool false)):DoesQ P cx ⟨dst,.binOp .neq t x y t',ty,pos,af,gd⟩ r fz H V:=
 Yis hx hy (YgZ ht (fun h=>hf (Classical.not_not.1 h)))
end
theorem q_max {ats:Array TypeId} {k:IntKind} {a b:Int} (hx:r x=some (.int k a)) (hy:r y=some (.int k b)) (h:V (.int k (max a b))):
 DoesQ P cx ⟨dst,.call {callee:=.builtin .max,args:=#[x,y],argTypes:=ats},ty,pos,af,gd⟩ r fz H V:=
 YJ (fun ρ w hr=>by
  have:(if b>a then b else a)=max a b:=by omega
  simp [execOp,resolve,invoke,builtin,hr _ _ hx,hr _ _ hy,Builtin.max_,Builtin.max2,this]) h
theorem Inv.cellOwn (h:Inv cx fz H w) {cs:Array Value} {f:Nat × Nat} (hi:H[i]?=some (g,.cells cs t f)) (j:Nat):w.cell? ⟨g,j,none⟩=cs[j]?:=
 cell_of_row w g j cs t f (h.hp.own (g,.cells cs t f) (Zm hi)).1
theorem Yim (T:Tab P) {a:Addr} (hT:T.inf t=some X) (hd:W2 X.desc=false) (hc:w.cell? a=some v):(loadVar t a).run P w=.ok v w:=by
 have ha:=run_isAgg T hT w;rw [hd] at ha;simp [loadVar,ha,hc]
theorem Ycy (T:Tab P) {a:Addr} (hT:T.inf t=some X) (hd:W2 X.desc=true) (hs:X.size=cs.length)
 (hc:∀ j v,cs[j]?=some v->w.cell? (a.add j)=some v):(loadVar t a).run P w=.ok (.agg cs.toArray) w:=by
 have hz:=run_sizeOf T hT w;rw [hs] at hz;have ha:=run_isAgg T hT w;rw [hd] at ha;simp [loadVar,ha,hz,run_loadCells_list (P:=P) w a cs hc]
variable {j:Nat}
theorem Y0 (T:Tab P) {t':TypeId} {f:Nat × Nat} (i:Nat) (hT:T.inf t=some X) (hd:W2 X.desc=false)
 (hx:r x=some (.pointer (some ⟨g,j,none⟩))) (hi:H[i]?=some (g,.cells cs.toArray t' f)) (hv:cs[j]?=some v) (h:V v):DoesQ P cx ⟨dst,.load t x,ty,pos,af,gd⟩ r fz H V:=
 ⟨v,h,fun ρ w hr hw=>by
  have hc:w.cell? ⟨g,j,none⟩=some v:=by rw [hw.cellOwn hi];simpa using hv
  simp only [execOp,hr _ _ hx,Instr.loadAt,Instr.sureAddr,Sem.run_bind,Sem.run_pure,Result.andThen_ok,Yim T hT hd hc];exact ⟨rfl,Fr.refl _ _⟩⟩
theorem X5 (T:Tab P) {t':TypeId} {f:Nat × Nat} (i:Nat) (hT:T.inf t=some X) (hd:W2 X.desc=true)
 (hx:r x=some (Zp g)) (hi:H[i]?=some (g,.cells cs.toArray t' f)) (hs:X.size=cs.length) (h:V (.agg cs.toArray)):DoesQ P cx ⟨dst,.load t x,ty,pos,af,gd⟩ r fz H V:=
 ⟨_,h,fun ρ w hr hw=>by
  have hc:∀ j v,cs[j]?=some v->w.cell? ((⟨g,0,none⟩:Addr).add j)=some v:=fun j v hv=>by
   have hadd:(⟨g,0,none⟩:Addr).add j=⟨g,j,none⟩:=by unfold Addr.add;split<;>simp_all
   rw [hadd,hw.cellOwn hi];simpa using hv
  simp only [execOp,hr _ _ hx,Instr.loadAt,Instr.sureAddr,Sem.run_bind,Sem.run_pure,Result.andThen_ok,Ycy T hT hd hs hc];exact ⟨rfl,Fr.refl _ _⟩⟩
def YcR (fz:FZ) (a:Addr):Option Value:=match fz a.block with
 | some (.cells c _ _)=>if a.spot.isSome then none else c[a.off]?
 | _=>none
theorem Hp.cell (h:Hp fz H w) {a:Addr} (ha:YcR fz a=some v):w.cell? a=some v:=by
 unfold YcR at ha;unfold World.cell?;split at ha
 ·rename_i hq;rw [h.keep _ _ hq];exact ha
 cases ha
variable {fz':FZ}
theorem YgS {fz:FZ} (h:Le fz fz') {a:Addr} (ha:YcR fz a=some v):YcR fz' a=some v:=by
 unfold YcR at*;split at ha
 ·rename_i hq;rw [h _ _ hq];exact ha
 cases ha
def Row (fz:FZ) (a:Addr) (cs:List Value):Prop:=∀ j v,cs[j]?=some v->YcR fz (a.add j)=some v
theorem Row.mono {fz:FZ} (h:Le fz fz') {a:Addr} (hr:Row fz a cs):Row fz' a cs:=fun j v hv=>YgS h (hr j v hv)
theorem YgA (T:Tab P) {a:Addr} (hT:T.inf t=some X) (hd:W2 X.desc=true)
 (hx:r x=some (.pointer (some a))) (hc:Row fz a cs) (hs:X.size=cs.length) (h:V (.agg cs.toArray)):DoesQ P cx ⟨dst,.load t x,ty,pos,af,gd⟩ r fz H V:=
 ⟨_,h,fun ρ w hr hw=>by
  simp only [execOp,hr _ _ hx,Instr.loadAt,Instr.sureAddr,Sem.run_bind,Sem.run_pure,Result.andThen_ok,Ycy T hT hd hs (fun j v hv=>hw.hp.cell (hc j v hv))];exact ⟨rfl,Fr.refl _ _⟩⟩
theorem Yb8 (T:Tab P) {a:Addr} (hT:T.inf t=some X) (hd:W2 X.desc=false)
 (hx:r x=some (.pointer (some a))) (hc:YcR fz a=some v) (h:V v):DoesQ P cx ⟨dst,.load t x,ty,pos,af,gd⟩ r fz H V:=
 ⟨_,h,fun ρ w hr hw=>by
  simp only [execOp,hr _ _ hx,Instr.loadAt,Instr.sureAddr,Sem.run_bind,Sem.run_pure,Result.andThen_ok,Yim T hT hd (hw.hp.cell hc)];exact ⟨rfl,Fr.refl _ _⟩⟩
theorem YmF (T:Tab P) {t':TypeId} {f:Nat × Nat} (hT:T.inf t=some X) (hd:W2 X.desc=false)
 (hx:r x=some (.pointer (some ⟨g,j,none⟩))) (hg:fz g=some (.cells cs.toArray t' f)) (hv:cs[j]?=some v) (h:V v):DoesQ P cx ⟨dst,.load t x,ty,pos,af,gd⟩ r fz H V:=
 Yb8 T hT hd hx (by simp [YcR,hg,hv]) h
theorem Y6 (T:Tab P) {K:Value->FZ->HP->Prop} (hT:T.inf t=some X) (hz:X.zero.cells=cs.toArray)
 (h:∀ g,K (Zp g) fz ((g,.cells cs.toArray t (0,0))::H)):Does P cx ⟨dst,.alloc t,ty,pos,af,gd⟩ r fz H K:=by
 intro ρ w hr hw;have hzr:=YcZ T hT w;have:(execOp ρ ⟨dst,.alloc t,ty,pos,af,gd⟩).run P w=.ok (.value (.pointer (some ⟨w.heap.size,0,none⟩))) (w.alloc (.cells cs.toArray t (0,0))):=by
  simp [execOp,Instr.alloc,hzr,newVar,newRow,newObj,Sem.run,hz]
 rw [this];exact ⟨fz,_,hw.alloc _,h _⟩
theorem Xb (t:TypeId) {K:Value->FZ->HP->Prop} (hx:r x=some v) (hz:v.cells=cs.toArray)
 (h:∀ g,K (Zp g) fz ((g,.cells cs.toArray t (0,0))::H)):Does P cx ⟨dst,.box t x,ty,pos,af,gd⟩ r fz H K:=by
 intro ρ w hr hw;have:(execOp ρ ⟨dst,.box t x,ty,pos,af,gd⟩).run P w=.ok (.value (.pointer (some ⟨w.heap.size,0,none⟩))) (w.alloc (.cells cs.toArray t (0,0))):=by
  simp [execOp,Instr.box,hr _ _ hx,newVar,newRow,newObj,Sem.run,hz]
 rw [this];exact ⟨fz,_,hw.alloc _,h _⟩
theorem XZ (T:Tab P) {t':TypeId} {pre post:HP} {cs':List Value} {K:Value->FZ->HP->Prop} (hT:T.inf t=some X)
 (hx:r x=some (.pointer (some ⟨g,j,none⟩))) (hy:r y=some v) (hH:H=pre++(g,.cells cs.toArray t' (0,0))::post) (hs:X.size=v.cells.toList.length) (h1:v.cells.toList.all (·.oneCell')=true) (hc:wrL cs j v.cells.toList=some cs')
 (h:K undef fz (pre++(g,.cells cs'.toArray t' (0,0))::post)):Does P cx ⟨dst,.store t x y,ty,pos,af,gd⟩ r fz H K:=by
 intro ρ w hr hw;subst hH;have hb:=(hw.hp.own (g,.cells cs.toArray t' (0,0)) (by simp)).1;obtain ⟨hle,he⟩:=Ykm cs j _ cs' hc;have hst:=run_storeCells_at (P:=P) g j t' v.cells.toList 0 cs.toArray w hb (by simpa using hle) (fun u hu=>List.all_eq_true.1 h1 u hu);simp only [Nat.add_zero] at hst;rw [<- he] at hst;have hz:=run_sizeOf T hT w;rw [hs] at hz;have:(execOp ρ ⟨dst,.store t x y,ty,pos,af,gd⟩).run P w=.ok .skip (w.setRow g cs'.toArray):=by
  simp only [execOp,hr _ _ hx,hr _ _ hy,Instr.storeAt,Instr.sureAddr,Sem.run_bind,Sem.run_pure,Result.andThen_ok,storeVar,hz];simp [hst]
 rw [this];refine ⟨fz,_,hw.write (o':=.cells cs'.toArray t' (0,0)) rfl rfl rfl (by simp) ?_ (fun k hk=>?_),h⟩
 ·simp [World.setRow,Array.getElem?_modify,hb]
 simp only [World.setRow,Array.getElem?_modify];rw [if_neg Zi]
section
variable (T:Tab P) {t t':TypeId} {x y:Operand} {X:Ty} {H':HP} {g j:Nat} {v:Value} {cs cs':List Value} {K:Value->FZ->HP->Prop} {a0 a1 a2 a3:Nat × Obj}
theorem YV (hT:T.inf t=some X) (hx:r x=some (.pointer (some ⟨g,j,none⟩))) (hy:r y=some v) (hs:X.size=v.cells.toList.length) (h1:v.cells.toList.all (·.oneCell')=true) (hc:wrL cs j v.cells.toList=some cs')
 (h:K undef fz ((g,.cells cs'.toArray t' (0,0))::H')):Does P cx ⟨dst,.store t x y,ty,pos,af,gd⟩ r fz ((g,.cells cs.toArray t' (0,0))::H') K:=
 XZ T (pre:=[]) hT hx hy rfl hs h1 hc h
theorem YU (hT:T.inf t=some X) (hx:r x=some (.pointer (some ⟨g,j,none⟩))) (hy:r y=some v) (hs:X.size=v.cells.toList.length) (h1:v.cells.toList.all (·.oneCell')=true) (hc:wrL cs j v.cells.toList=some cs')
 (h:K undef fz (a0::(g,.cells cs'.toArray t' (0,0))::H')):Does P cx ⟨dst,.store t x y,ty,pos,af,gd⟩ r fz (a0::(g,.cells cs.toArray t' (0,0))::H') K:=
 XZ T (pre:=[a0]) hT hx hy rfl hs h1 hc h
theorem Wk (hT:T.inf t=some X) (hx:r x=some (.pointer (some ⟨g,j,none⟩))) (hy:r y=some v) (hs:X.size=v.cells.toList.length) (h1:v.cells.toList.all (·.oneCell')=true) (hc:wrL cs j v.cells.toList=some cs')
 (h:K undef fz (a0::a1::(g,.cells cs'.toArray t' (0,0))::H')):Does P cx ⟨dst,.store t x y,ty,pos,af,gd⟩ r fz (a0::a1::(g,.cells cs.toArray t' (0,0))::H') K:=
 XZ T (pre:=[a0,a1]) hT hx hy rfl hs h1 hc h
theorem Wz (hT:T.inf t=some X) (hx:r x=some (.pointer (some ⟨g,j,none⟩))) (hy:r y=some v) (hs:X.size=v.cells.toList.length) (h1:v.cells.toList.all (·.oneCell')=true) (hc:wrL cs j v.cells.toList=some cs')
 (h:K undef fz (a0::a1::a2::(g,.cells cs'.toArray t' (0,0))::H')):Does P cx ⟨dst,.store t x y,ty,pos,af,gd⟩ r fz (a0::a1::a2::(g,.cells cs.toArray t' (0,0))::H') K:=
 XZ T (pre:=[a0,a1,a2]) hT hx hy rfl hs h1 hc h
end
theorem Ych (T:Tab P) {t':TypeId} {pre post:HP} {K:Value->FZ->HP->Prop} (hT:T.inf t=some X)
 (hx:r x=some (.pointer (some ⟨g,j,none⟩))) (hy:r y=some v) (hH:H=pre++(g,.cells cs.toArray t' (0,0))::post) (hs:X.size=1) (hv:v.cells=#[v]) (h1:v.oneCell'=true) (hj:j<cs.length)
 (h:K undef fz (pre++(g,.cells (cs.set j v).toArray t' (0,0))::post)):Does P cx ⟨dst,.store t x y,ty,pos,af,gd⟩ r fz H K:=by
 have hw:wrL cs j [v]=some (cs.set j v):=by
  clear hH hx h
  induction cs generalizing j with
  | nil=>simp at hj
  | cons c cs ih=>
   cases j with
   | zero=>cases cs<;>simp [wrL]
   | succ j=>simp only [wrL,ih (by simpa using hj)];rfl
 exact XZ T hT hx hy hH (by simp [hv,hs]) (by simp [hv,h1]) (by rw [hv];exact hw) h
theorem Yb (T:Tab P) {e:TypeId} {len:Nat} {ps:List (Nat × Operand)} {vs:List Value} {K:Value->FZ->HP->Prop} (hT:T.inf t=some X) (hd:X.desc=.slice e) (hY:T.inf e=some Y) (hn:Nat.beq (len*Y.size) 0=false) (hl:Nat.ble (len*Y.size) 16777216=true)
 (hzs:Nat.beq Y.zero.cells.toList.length Y.size=true) (hv:rds r (ps.map (·.2))=some vs) (hc:YnC (fun i=>some (i*Y.size,Y.size)) (repZ Y.zero.cells.toList len) ((ps.map (·.1)).zip vs)=some cs)
 (h:∀ g,K (Zv g len len) fz ((g,.cells cs.toArray e (0,0))::H)):Does P cx ⟨dst,.buildSlice t len ps.toArray,ty,pos,af,gd⟩ r fz H K:=by
 intro ρ w hr hw;have hu:=run_underlying (und_plain T hT hd rfl) w;have hsz:=run_sizeOf T hY w;have hz:=YcZ T hY w;have hn':¬len*Y.size=0:=fun he=>by rw [he] at hn;cases hn
 have hl':¬len*Y.size>2 ^ 24:=by have:=Nat.le_of_ble_eq_true hl;omega
 have hps':(ps.toArray.map fun x=>match x with | (i,x)=>(i,ρ x)).toList=(ps.map (·.1)).zip vs:=by
  rw [<- Ydi hr ps vs hv];simp
 have:(execOp ρ ⟨dst,.buildSlice t len ps.toArray,ty,pos,af,gd⟩).run P w=.ok (.value (.slice (some ⟨w.heap.size,0,none⟩) len len)) (w.alloc (.cells cs.toArray e (0,0))):=by
  have hc':Instr.fill (fun i=>some (i*Y.size,Y.size)) ((Array.range (len*Y.size)).map (Y.zero.cells[· % Y.zero.cells.size]!)) ((ps.map (·.1)).zip vs)=some cs.toArray:=by
   rw [Ymz Y.zero.cells len Y.size (by simpa using Nat.eq_of_beq_eq_true hzs)];exact Yj2 _ _ _ hc
  simp only [execOp,Instr.buildSlice,Sem.run_bind,hu,Result.andThen_ok,hsz,if_neg hl',if_neg hn',Sem.run_pure,hz,hps',hc',newRow,newObj,Sem.run];rfl
 rw [this];exact ⟨fz,_,hw.alloc _,h _⟩
def Yc7 (P:Program) (f:FuncId):Prop:=∃ fn,P.funcs[f]?=some fn∧(fn.name== "runtime.NumGoroutine")=false∧fn.body.isNone=false
theorem Yc7.run {f:FuncId} (h:Yc7 P f) (args:Array Value) (w:World):(callFunc f args).run P w=.ok (.enter f args) w:=by
 obtain ⟨fn,h1,h2,h3⟩:=h;have h2':¬fn.name= "runtime.NumGoroutine":=by simpa using h2
 have h3':¬fn.body=none:=fun h=>by rw [h] at h3;cases h3
 simp [callFunc,program,Sem.run,h1,h2',h3']
def QFn (P:Program) (f:FuncId) (args:List Value) (fz:FZ) (v:Value):Prop:=
 Yc7 P f/\∀ w,Hp fz [] w->Calls P f args.toArray w fun e w'=>e=.returned v/\Fr [] w w'
def GFn (P:Program) (f:FuncId) (args:List Value) (fz:FZ) (H:HP) (R:Value->FZ->HP->Prop):Prop:=
 Yc7 P f/\∀ w,Hp fz H w->Calls P f args.toArray w fun e w'=>∃ v fz' H',e=.returned v/\R v fz' H'/\Hp fz' H' w'/\Fr (H.map Prod.fst) w w'/\New w.heap.size (H.map Prod.fst) fz fz' H'
variable {Hr:HP}
theorem Inv.called {Hf H':HP} (h:Inv cx fz (Hf++Hr) w) (h1:Hp fz' H' w') (h2:Fr (Hf.map Prod.fst) w w') (h3:New w.heap.size (Hf.map Prod.fst) fz fz' H'):Inv cx fz' (H'++Hr) w':=by
 obtain ⟨⟨a,b,c⟩,d,e⟩:=h;have hnd:∀ p∈Hr,p.1 ∉ Hf.map Prod.fst:=by
  intro p hp hm;rw [List.map_append,List.nodup_append] at c;exact c.2.2 p.1 hm p.1 (List.mem_map.2 ⟨p,hp,rfl⟩) rfl
 have hSub:∀ x∈Hf.map Prod.fst,x∈cx.S\/cx.w0.heap.size<=x:=by
  intro x hx;obtain ⟨p,hp,rfl⟩:=List.mem_map.1 hx;exact e.own p (by simp [hp])
 refine ⟨⟨h1.keep,fun p hp=>?_,?_⟩,d.trans h2 hSub,⟨fun x o hx=>h3.le x o (e.le x o hx),fun x hx hn=>?_,fun p hp=>?_⟩⟩
 ·rcases List.mem_append.1 hp with hp | hp
  ·exact h1.own p hp
  have h4:=b p (by simp [hp]);have h5:=lt_of_heap h4.1;exact ⟨by rw [h2.block _ h5 (hnd p hp)];exact h4.1,by rw [h3.old _ h5 (hnd p hp)];exact h4.2⟩
 ·rw [List.map_append,List.nodup_append];refine ⟨h1.nd,?_,fun x hx y hy hxy=>?_⟩
  ·rw [List.map_append,List.nodup_append] at c;exact c.2.1
  obtain ⟨p,hp,rfl⟩:=List.mem_map.1 hx;obtain ⟨q,hq,rfl⟩:=List.mem_map.1 hy;have h5:=lt_of_heap (b q (by simp [hq])).1;rcases h3.own p hp with h6 | h6
  ·exact hnd q hq (hxy ▸ h6)
  omega
 ·rw [h3.old x (by have:=d.size;omega) (fun hc=>by rcases hSub x hc with h6 | h6;exact hn h6;omega)];exact e.old x hx hn
 rcases List.mem_append.1 hp with hp | hp
 ·rcases h3.own p hp with h6 | h6
  ·exact hSub _ h6
  have:=d.size;exact .inr Zi
 exact e.own p (by simp [hp])
theorem YdF {ρ:Operand->Value} {f:FuncId} (hr:Reads r ρ) {ff:Operand} {xs:List Operand} {ats:Array TypeId} {us vs:List Value} {first capt:List Value} (hf:r ff=some (.func (.func f) first.toArray capt.toArray)) (hx:rds r xs=some us) (hv:first++us++capt=vs) (hc:Yc7 P f) (w:World):
 (execOp ρ ⟨dst,.call {callee:=.value ff,args:=xs.toArray,argTypes:=ats},ty,pos,af,gd⟩).run P w=.ok (.enter f vs.toArray) w:=by
 subst hv;simp [execOp,resolve,Deferred.ofValue,invoke,hr _ _ hf,hr.all xs us hx,hc.run]
theorem Yv {f:FuncId} {xs:List Operand} {ats:Array TypeId} {vs:List Value} (hx:rds r xs=some vs) (hf:r (.func f)=some (.func (.func f) #[] #[])) (hq:QFn P f vs fz v) (h:V v):
 DoesQ P cx ⟨dst,.call {callee:=.value (.func f),args:=xs.toArray,argTypes:=ats},ty,pos,af,gd⟩ r fz H V:=
 ⟨v,h,fun ρ w hr hw=>by
  rw [YdF hr (first:=[]) (capt:=[]) hf hx (vs:=vs) (by simp) hq.1];exact (hq.2 w ⟨hw.hp.keep,by simp,by simp⟩).mono fun e w' ⟨he,hfr⟩=>⟨v,he,rfl,hfr⟩⟩
theorem We {f:FuncId} {xs:List Operand} {ats:Array TypeId} {vs:List Value} {b:Bool} (hx:rds r xs=some vs) (hf:r (.func f)=some (.func (.func f) #[] #[])) (hq:QFn P f vs fz (.bool b)) (h1:b=true->V (.bool true)) (h2:b=false->V (.bool false)):
 DoesQ P cx ⟨dst,.call {callee:=.value (.func f),args:=xs.toArray,argTypes:=ats},ty,pos,af,gd⟩ r fz H V:=
 Yv hx hf hq (v_bool h1 h2)
theorem Ycz {f:FuncId} {ff:Operand} {xs:List Operand} {ats:Array TypeId} {us vs first capt:List Value} (hf:r ff=some (.func (.func f) first.toArray capt.toArray)) (hx:rds r xs=some us) (hv:first++us++capt=vs) (hq:QFn P f vs fz v) (h:V v):
 DoesQ P cx ⟨dst,.call {callee:=.value ff,args:=xs.toArray,argTypes:=ats},ty,pos,af,gd⟩ r fz H V:=
 ⟨v,h,fun ρ w hr hw=>by
  rw [YdF hr hf hx hv hq.1];exact (hq.2 w ⟨hw.hp.keep,by simp,by simp⟩).mono fun e w' ⟨he,hfr⟩=>⟨v,he,rfl,hfr⟩⟩
theorem Yx {f:FuncId} {xs:List Operand} {ats:Array TypeId} {vs:List Value} {R:Value->FZ->HP->Prop} {K:Value->FZ->HP->Prop} (Hf Hr:HP) (hH:H=Hf++Hr) (hx:rds r xs=some vs) (hf:r (.func f)=some (.func (.func f) #[] #[])) (hq:GFn P f vs fz Hf R)
 (h:∀ v fz' H',Le fz fz'->R v fz' H'->K v fz' (H'++Hr)):
 Does P cx ⟨dst,.call {callee:=.value (.func f),args:=xs.toArray,argTypes:=ats},ty,pos,af,gd⟩ r fz H K:=by
 subst hH;intro ρ w hr hw;rw [YdF hr (first:=[]) (capt:=[]) hf hx (vs:=vs) (by simp) hq.1];refine (hq.2 w ⟨hw.hp.keep,fun p hp=>hw.hp.own p (by simp [hp]),?_⟩).mono fun e w' ⟨v,fz',H',he,hR,h1,h2,h3⟩=>⟨v,he,fz',_,hw.called h1 h2 h3,h v fz' H' h3.le hR⟩
 have:=hw.hp.nd;rw [List.map_append,List.nodup_append] at this;exact this.1
def retQ (P:Program) (cx:Cx) (n:Nat) (fn:Func) (R:Value->FZ->HP->Prop):QQ
 | .normal,σ,fz,H=>∃ v,(∀ a w,Sat n σ a->Inv cx fz H w->(results fn a.tmps).run P w=.ok v w)/\∀ w,Inv cx fz H w->∃ fz' H',Inv cx fz' H' w/\R v fz' H'
 | .ret,σ,fz,H=>∃ v,(∀ a w,Sat n σ a->Inv cx fz H w->(results fn a.tmps).run P w=.ok v w)/\∀ w,Inv cx fz H w->∃ fz' H',Inv cx fz' H' w/\R v fz' H'
 | _,_,_,_=>False
def envOf:List Value->Nat->Env
 | [],_=>[]
 | v::r,i=>(i,v)::envOf r (i+1)
theorem YkU:∀ (vs:List Value) (k i:Nat) (v:Value),lk (envOf vs k) i=some v->k<=i/\vs[i - k]?=some v
 | [],_,_,_,h=>by cases h
 | u::r,k,i,v,h=>by
  unfold envOf at h;by_cases he:k=i
  ·subst he;rw [Xh] at h;injection h with h;subst h;simp
  rw [YZ _ _ he] at h;obtain ⟨h1,h2⟩:=YkU r (k+1) i v h;refine ⟨by omega,?_⟩;rw [show i - k=(i - (k+1))+1 from by omega];simpa using h2
theorem GFn.of_wp {f:FuncId} {fn:Func} {c:Code} {args:List Value} {R:Value→FZ→HP→Prop} (hf:P.funcs[f]?=some fn) (hb:fn.body=some c) (hn:fn.ntmps=n) (ha:Nat.ble args.length n=true) (hname:(fn.name== "runtime.NumGoroutine")=false)
 (h:∀ w0,Wp P ⟨w0,H.map Prod.fst,fz⟩ n c (envOf args 0) fz H (retQ P ⟨w0,H.map Prod.fst,fz⟩ n fn R)):GFn P f args fz H R:=by
 refine ⟨⟨fn,hf,hname,by simp [hb]⟩,fun w hw=>calls_of_wp hf hb ?_⟩;have ha':=Nat.le_of_ble_eq_true ha;refine wp_mono (h w _ w ⟨by simp [hn];omega,rfl,fun i v hv=>?_⟩ ⟨hw,Fr.refl _ _,⟨fun _ _ h=>h,fun _ _ _=>rfl,fun p hp=>.inl (List.mem_map.2 ⟨p,hp,rfl⟩)⟩⟩) fun e a w' hh=>?_
 ·have h1:=(YkU args 0 i v hv).2;simp only [Nat.sub_zero] at h1;have h2:i<args.length:=(Zg h1).1;rw [Array.getElem?_append_left (by simpa using h2)];simpa using h1
 obtain ⟨σ,fz',H1,h1,h2,h3⟩:=hh;cases e with
 | normal=>
  obtain ⟨v,h4,h5⟩:=h3;obtain ⟨fz2,H2,h7,h8⟩:=h5 w' h2;exact ⟨h1.defers,v,h4 a w' h1 h2,v,fz2,H2,rfl,h8,h7.hp,h7.fr,h7.nw⟩
 | ret=>
  obtain ⟨v,h4,h5⟩:=h3;obtain ⟨fz2,H2,h7,h8⟩:=h5 w' h2;exact ⟨h1.defers,v,h4 a w' h1 h2,v,fz2,H2,rfl,h8,h7.hp,h7.fr,h7.nw⟩
 | _=>exact h3.elim
theorem GFn.quiet {f:FuncId} {args:List Value} (h:GFn P f args fz [] fun u _ _=>u=v):QFn P f args fz v:=
 ⟨h.1,fun w hw=>(h.2 w hw).mono fun e w' ⟨u,fz',H',he,hu,_,h2,_⟩=>by subst hu;exact ⟨he,h2⟩⟩
theorem GFn.mono {f:FuncId} {args:List Value} {R R':Value->FZ->HP->Prop} (h:GFn P f args fz H R) (hr:∀ v fz' H',R v fz' H'->R' v fz' H'):GFn P f args fz H R':=
 ⟨h.1,fun w hw=>(h.2 w hw).mono fun _ _ ⟨u,fz',H',he,hu,h1⟩=>⟨u,fz',H',he,hr _ _ _ hu,h1⟩⟩
theorem WK {w:World}:∀ (H2:HP) (fz:FZ) (H1:HP),Inv cx fz (H1++H2) w->∃ fz',Le fz fz'/\(∀ p∈H2,fz' p.1=some p.2)/\Inv cx fz' H1 w
 | [],fz,H1,h=>⟨fz,Le.refl _,by simp,by simpa using h⟩
 | (g,o)::r,fz,H1,h=>by
  have h1:Inv cx fz ((g,o)::(H1++r)) w:=h.perm (List.perm_middle.symm);obtain ⟨h2,h3⟩:=h1.freeze;obtain ⟨fz',h4,h5,h6⟩:=WK r (upd fz g o) H1 h2;refine ⟨fz',h3.trans h4,fun p hp=>?_,h6⟩;cases hp with
  | head=>exact h4 g o (by simp [upd])
  | tail _ hp=>exact h5 p hp
section
variable {n:Nat} {fn:Func} {R:Value->FZ->HP->Prop} {σ:Env} {H':HP}
theorem ret_of (h:∀ a w,Sat n σ a->Inv cx fz H w->(results fn a.tmps).run P w=.ok v w) (hR:∀ w,Inv cx fz H w->∃ fz' H',Inv cx fz' H' w/\R v fz' H'):retQ P cx n fn R .ret σ fz H:=⟨v,h,hR⟩
theorem Ygx (hH:H'.Sublist H) (h:R v fz H'):∀ w,Inv cx fz H w->∃ fz' H',Inv cx fz' H' w/\R v fz' H':=fun _ hi=>⟨fz,H',hi.forget hH,h⟩
theorem Yhe (h:∀ fz',Le fz fz'->(∀ p∈H,fz' p.1=some p.2)->R v fz' []):∀ w,Inv cx fz H w->∃ fz' H',Inv cx fz' H' w/\R v fz' H':=fun _ hi=>by
 obtain ⟨fz',h1,h2,h3⟩:=WK H fz [] (by simpa using hi);exact ⟨fz',[],h3,h fz' h1 h2⟩
theorem rOwn {H2:HP} (hp:(H'++H2).Perm H) (h:∀ fz',Le fz fz'->(∀ p∈H2,fz' p.1=some p.2)->R v fz' H'):∀ w,Inv cx fz H w->∃ fz' H',Inv cx fz' H' w/\R v fz' H':=fun _ hi=>by
 obtain ⟨fz',h1,h2,h3⟩:=WK H2 fz H' (hi.perm hp);exact ⟨fz',H',h3,h fz' h1 h2⟩
theorem ret1' {t:Nat} (hres:fn.results=#[.tmp t]) (hv:lk σ t=some v) (h:∀ w,Inv cx fz H w->∃ fz' H',Inv cx fz' H' w/\R v fz' H'):retQ P cx n fn R .ret σ fz H:=
 ⟨v,fun a w hs _=>by rw [results_tmp hres];simp [hs.slot t v hv],h⟩
theorem ret2' {t u:Nat} {x:Value} (hres:fn.results=#[.tmp t,.tmp u]) (hv:lk σ t=some v) (hx:lk σ u=some x) (h:∀ w,Inv cx fz H w->∃ fz' H',Inv cx fz' H' w/\R (.tuple #[v,x]) fz' H'):retQ P cx n fn R .ret σ fz H:=
 ⟨_,fun a w hs _=>by rw [results_tmp2 hres];simp [hs.slot t v hv,hs.slot u x hx],h⟩
theorem WT (T:Tab P) {p:Nat} {t':TypeId} {f:Nat × Nat} (hres:fn.results=#[.cell p t]) (hT:T.inf t=some X) (hd:W2 X.desc=true) (hv:lk σ p=some (Zp g))
 (hi:H[i]?=some (g,.cells cs.toArray t' f)) (hsz:X.size=cs.length) (h:∀ w,Inv cx fz H w->∃ fz' H',Inv cx fz' H' w/\R (.agg cs.toArray) fz' H'):retQ P cx n fn R .ret σ fz H:=
 ⟨_,fun a w hs hw=>by
  have hc:∀ j v,cs[j]?=some v->w.cell? ((⟨g,0,none⟩:Addr).add j)=some v:=fun j v hv=>by
   have hadd:(⟨g,0,none⟩:Addr).add j=⟨g,j,none⟩:=by unfold Addr.add;split<;>simp_all
   rw [hadd,hw.cellOwn hi];simpa using hv
  simp [results,hres,hs.slot p _ hv,asAddr,Ycy T hT hd hsz hc],h⟩
theorem ret1F {t:Nat} (hres:fn.results=#[.tmp t]) (hv:lk σ t=some v) (h:∀ fz',Le fz fz'->(∀ p∈H,fz' p.1=some p.2)->R v fz' []):retQ P cx n fn R .ret σ fz H:=ret1' hres hv (Yhe h)
theorem YjC {t u:Nat} {x:Value} (hres:fn.results=#[.tmp t,.tmp u]) (hv:lk σ t=some v) (hx:lk σ u=some x) (h:∀ fz',Le fz fz'->(∀ p∈H,fz' p.1=some p.2)->R (.tuple #[v,x]) fz' []):retQ P cx n fn R .ret σ fz H:=ret2' hres hv hx (Yhe h)
theorem Wg (T:Tab P) {p:Nat} {t':TypeId} {f:Nat × Nat} (hres:fn.results=#[.cell p t]) (hT:T.inf t=some X) (hd:W2 X.desc=true) (hv:lk σ p=some (Zp g))
 (hi:H[i]?=some (g,.cells cs.toArray t' f)) (hsz:X.size=cs.length) (h:∀ fz',Le fz fz'->(∀ p∈H,fz' p.1=some p.2)->R (.agg cs.toArray) fz' []):retQ P cx n fn R .ret σ fz H:=WT T hres hT hd hv hi hsz (Yhe h)
theorem YjD {t:Nat} {H2:HP} (hres:fn.results=#[.tmp t]) (hv:lk σ t=some v) (hp:(H'++H2).Perm H) (h:∀ fz',Le fz fz'->(∀ p∈H2,fz' p.1=some p.2)->R v fz' H'):retQ P cx n fn R .ret σ fz H:=ret1' hres hv (rOwn hp h)
theorem ret1 {t:Nat} (hres:fn.results=#[.tmp t]) (hv:lk σ t=some v) (hH:H'.Sublist H) (h:R v fz H'):retQ P cx n fn R .ret σ fz H:=ret1' hres hv (Ygx hH h)
theorem ret2 {t u:Nat} {x:Value} (hres:fn.results=#[.tmp t,.tmp u]) (hv:lk σ t=some v) (hx:lk σ u=some x) (hH:H'.Sublist H) (h:R (.tuple #[v,x]) fz H'):retQ P cx n fn R .ret σ fz H:=ret2' hres hv hx (Ygx hH h)
theorem ret1z (_:H'=H') {t:Nat} (hres:fn.results=#[.tmp t]) (hv:lk σ t=some v) (hH:H'.Sublist H) (h:R v fz H'):retQ P cx n fn R .ret σ fz H:=ret1 hres hv hH h
theorem ret2z (_:H'=H') {t u:Nat} {x:Value} (hres:fn.results=#[.tmp t,.tmp u]) (hv:lk σ t=some v) (hx:lk σ u=some x) (hH:H'.Sublist H) (h:R (.tuple #[v,x]) fz H'):retQ P cx n fn R .ret σ fz H:=ret2 hres hv hx hH h
end
end
theorem Does.of {P:Program} {cx:Cx} {o:Oper} {r:Operand->Option Value} {K:Value->FZ->HP->Prop} (h:∀ ρ w,Reads r ρ->Inv cx fz H w->W3 P (fun v w'=>∃ fz' H',Inv cx fz' H' w'/\K v fz' H') ((execOp ρ o).run P w)):Does P cx o r fz H K:=h
theorem Does.run {P:Program} {cx:Cx} {o:Oper} {r:Operand->Option Value} {K:Value->FZ->HP->Prop} (h:Does P cx o r fz H K):∀ ρ w,Reads r ρ->Inv cx fz H w->W3 P (fun v w'=>∃ fz' H',Inv cx fz' H' w'/\K v fz' H') ((execOp ρ o).run P w):=h
variable {v:Value}
theorem DoesQ.of {P:Program} {cx:Cx} {o:Oper} {r:Operand->Option Value} {V:Value->Prop} (hv:V v) (h:∀ ρ w,Reads r ρ->Inv cx fz H w->W3 P (fun v' w'=>v'=v/\Fr [] w w') ((execOp ρ o).run P w)):DoesQ P cx o r fz H V:=⟨v,hv,h⟩
theorem Wp.of {P:Program} {cx:Cx} {c:Code} {σ:Env} {Q:QQ} (h:∀ a w,Sat n σ a->Inv cx fz H w->c.wp P (lift cx n Q) a w):Wp P cx n c σ fz H Q:=h
theorem Wp.run {P:Program} {cx:Cx} {c:Code} {σ:Env} {Q:QQ} (h:Wp P cx n c σ fz H Q):∀ a w,Sat n σ a->Inv cx fz H w->c.wp P (lift cx n Q) a w:=h
theorem Seq.of {P:Program} {cx:Cx} {ops:Array Oper} {l:List Oper} {σ:Env} {Q:QQ} (h:∀ a w,Sat n σ a->Inv cx fz H w->wpList P ops (lift cx n Q) l a w):Seq P cx n ops l σ fz H Q:=h
theorem Seq.run {P:Program} {cx:Cx} {ops:Array Oper} {l:List Oper} {σ:Env} {Q:QQ} (h:Seq P cx n ops l σ fz H Q):∀ a w,Sat n σ a->Inv cx fz H w->wpList P ops (lift cx n Q) l a w:=h
theorem GFn.of {P:Program} {f:FuncId} {args:List Value} {R:Value->FZ->HP->Prop} (hc:Yc7 P f) (h:∀ w,Hp fz H w->Calls P f args.toArray w fun e w'=>∃ v fz' H',e=.returned v/\R v fz' H'/\Hp fz' H' w'/\Fr (H.map Prod.fst) w w'/\New w.heap.size (H.map Prod.fst) fz fz' H'):GFn P f args fz H R:=⟨hc,h⟩
theorem GFn.out {P:Program} {f:FuncId} {args:List Value} {R:Value->FZ->HP->Prop} (h:GFn P f args fz H R):∀ w,Hp fz H w->Calls P f args.toArray w fun e w'=>∃ v fz' H',e=.returned v/\R v fz' H'/\Hp fz' H' w'/\Fr (H.map Prod.fst) w w'/\New w.heap.size (H.map Prod.fst) fz fz' H':=h.2
theorem QFn.out {P:Program} {f:FuncId} {args:List Value} (h:QFn P f args fz v):∀ w,Hp fz [] w->Calls P f args.toArray w fun e w'=>e=.returned v/\Fr [] w w':=h.2
attribute [irreducible] DoesQ Does Wp Seq QL QK Ch GFn QFn andThen blkQ loopQ retQ
end Go.Lx
