/- The texts Base, laid together. Conditions: none. -/
import Derived.Test.YtiligkgjcmokbaaGreatDoorKSA
import Derived.WalkKit
import Derived.Orders
import GoSem.ClaimData
import Derived.WideLaws
set_option linter.all false
namespace Go.Lx
open Go.RowKit
variable {i n g:Nat} {w w':World} {o:Oper} {t:TypeId} {v:Value}
abbrev FZ:=Nat->Option Obj
abbrev HP:=List (Nat × Obj)
abbrev Env:=List (Nat × Value)
abbrev Zn:Value:=.slice none 0 0
abbrev Ze:Value:=.string ⟨#[]⟩
abbrev Zk (x:Int):Value:=.int .i64 x
abbrev Zp (g:Nat):Value:=.pointer (some ⟨g,0,none⟩)
abbrev Zv (g n c:Nat):Value:=.slice (some ⟨g,0,none⟩) n c
abbrev Zc (A:Option Addr) (n c:Nat):Value:=.slice A n c
abbrev Zy (s:ByteArray):Value:=.string s
abbrev Zo (b:Bool):Value:=.bool b
abbrev Zu (a:Array Value) (t:TypeId):Obj:=.cells a t (0,0)
theorem mulB {p:Prop} (h:p:=by first | (show _*72<=_;omega) | (show _*24<=_;omega) | (show _*16<=_;omega) | (show _*48<=_;omega) | (show _*1<=_;omega) | (show _*8<=_;omega) | (show _*32<=_;omega) | (show _*128<=_;omega) | (show _*40<=_;omega) | (show _*288<=_;omega) | (show _*88<=_;omega) | (show _*632<=_;omega) | (show _*56<=_;omega) | (show _*200<=_;omega) | (show _*480<=_;omega)):p:=h
def lk:Env->Nat->Option Value
 | [],_=>none
 | (j,v)::r,i=>match Nat.beq j i with
  | true=>some v
  | false=>lk r i
theorem Wy (d:Nat) (v:Value) (σ:Env):lk ((d,v)::σ) d=some v:=by
 simp only [lk,Nat.beq_refl]
theorem XR {d:Nat} (v:Value) (σ:Env) (h:d≠i):lk ((d,v)::σ) i=lk σ i:=by
 have:Nat.beq d i=false:=by
  cases hb:Nat.beq d i
  ·rfl
  exact absurd (Nat.eq_of_beq_eq_true hb) h
 simp only [lk,this]
def rd (σ:Env):Operand->Option Value
 | .tmp t=>lk σ t
 | .const v=>some v
 | .func f=>some (.func (.func f) #[] #[])
 | .global g=>some (.pointer (some ⟨g,0,none⟩))
def rds (r:Operand->Option Value):List Operand->Option (List Value)
 | []=>some []
 | x::xs=>match r x with
  | none=>none
  | some v=>match rds r xs with
   | none=>none
   | some vs=>some (v::vs)
structure Sat (n:Nat) (σ:Env) (a:Act):Prop where
 size:a.tmps.size=n
 defers:a.defers=[]
 slot:∀ i v,lk σ i=some v->a.tmps[i]?=some v
theorem Sat.put {σ:Env} {a:Act} (h:Sat n σ a) (d:Nat) (hd:d<n) (v:Value):Sat n ((d,v)::σ) (a.put (some d) v):=by
 refine ⟨by simp [Act.put,h.size],by simp [Act.put,h.defers],fun i u hu=>?_⟩;by_cases hi:d=i
 ·subst hi;rw [Wy] at hu;injection hu with hu
  subst hu;simp [Act.put,h.size,hd]
 rw [XR v σ hi] at hu;have:=h.slot i u hu;simp only [Act.put];rw [Array.getElem?_setIfInBounds_ne hi];exact this
def Sub:Env->Env->Prop
 | [],_=>True
 | (i,v)::r,σ=>lk σ i=some v/\Sub r σ
theorem Sub.lk_ {ρ σ:Env} (h:Sub ρ σ):∀ i v,lk ρ i=some v->lk σ i=some v:=by
 induction ρ with
 | nil=>intro i v hv;cases hv
 | cons p r ih=>
  obtain ⟨j,u⟩:=p;intro i v hv;by_cases hji:j=i
  ·subst hji;rw [Wy] at hv;injection hv with hv
   subst hv;exact h.1
  rw [XR u r hji] at hv;exact ih h.2 i v hv
theorem Sat.sub {ρ σ:Env} {a:Act} (h:Sat n σ a) (hs:Sub ρ σ):Sat n ρ a:=
 ⟨h.size,h.defers,fun i v hv=>h.slot i v (hs.lk_ i v hv)⟩
def Reads (r:Operand->Option Value) (ρ:Operand->Value):Prop:=∀ x v,r x=some v->ρ x=v
theorem Sat.reads {σ:Env} {a:Act} (h:Sat n σ a):Reads (rd σ) a.eval:=by
 intro x v hv;cases x with
 | tmp t=>have:=h.slot t v hv;simp [Act.eval,this]
 | const u=>injection hv
 | global g=>injection hv
 | func f=>injection hv
theorem Reads.all {r:Operand->Option Value} {ρ:Operand->Value} (h:Reads r ρ):∀ (xs:List Operand) (vs:List Value),rds r xs=some vs->xs.map ρ=vs
 | [],vs,hv=>by injection hv
 | x::xs,vs,hv=>by
  unfold rds at hv;cases hx:r x with
  | none=>simp [hx] at hv
  | some v=>
   cases hxs:rds r xs with
   | none=>simp [hx,hxs] at hv
   | some us=>
    simp [hx,hxs] at hv;subst hv;simp [h x v hx,h.all xs us hxs]
structure Hp (fz:FZ) (H:HP) (w:World):Prop where
 keep:∀ b o,fz b=some o->w.heap[b]?=some o
 own:∀ p∈H,w.heap[p.1]?=some p.2/\fz p.1=none
 nd:(H.map Prod.fst).Nodup
class Dr where
 d:Prop
instance (priority:=low) drF:Dr:=⟨False⟩
variable [Dr]
set_option linter.unusedSectionVars false
structure Fr (S:List Nat) (w w':World):Prop where
 os:w'.os=w.os
 tape:w'.tape=w.tape
 output:w'.output=w.output
 size:w.heap.size<=w'.heap.size
 block:∀ b,b<w.heap.size->b ∉ S->w'.heap[b]?=w.heap[b]?
 dr:Dr.d->w.drawn<=w'.drawn
structure New (n0:Nat) (S:List Nat) (fz fz':FZ) (H':HP):Prop where
 le:∀ b o,fz b=some o->fz' b=some o
 old:∀ b,b<n0->b ∉ S->fz' b=fz b
 own:∀ p∈H',p.1∈S\/n0<=p.1
structure Cx where
 w0:World
 S:List Nat
 fz0:FZ
structure Inv (cx:Cx) (fz:FZ) (H:HP) (w:World):Prop where
 hp:Hp fz H w
 fr:Fr cx.S cx.w0 w
 nw:New cx.w0.heap.size cx.S cx.fz0 fz H
def Le (fz fz':FZ):Prop:=∀ b o,fz b=some o->fz' b=some o
theorem Le.refl (fz:FZ):Le fz fz:=fun _ _ h=>h
variable {fz:FZ}
theorem Zd:Le fz fz:=Le.refl fz
theorem Le.trans {a b c:FZ} (h:Le a b) (k:Le b c):Le a c:=fun i o hi=>k i o (h i o hi)
theorem lt_of_heap {b:Nat} {o:Obj} (h:w.heap[b]?=some o):b<w.heap.size:=by
 rcases Nat.lt_or_ge b w.heap.size with hl | hl
 ·exact hl
 rw [Array.getElem?_eq_none hl] at h;cases h
theorem Fr.refl (S:List Nat) (w:World):Fr S w w:=⟨rfl,rfl,rfl,Zs _,fun _ _ _=>rfl,fun _=>Zs _⟩
theorem Fr.trans {S S':List Nat} {a b c:World} (h:Fr S a b) (k:Fr S' b c) (hs:∀ x∈S',x∈S\/a.heap.size<=x):Fr S a c:=
 ⟨k.os.trans h.os,k.tape.trans h.tape,k.output.trans h.output,Nat.le_trans h.size k.size,fun i hi hn=>
  (k.block i (Nat.lt_of_lt_of_le hi h.size) (fun hc=>by rcases hs i hc with h1 | h1;exact hn h1;omega)).trans (h.block i hi hn),fun hd=>Nat.le_trans (h.dr hd) (k.dr hd)⟩
variable {H:HP}
theorem Inv.world {cx:Cx} (h:Inv cx fz H w) (h1:w'.os=w.os) (h2:w'.tape=w.tape) (h3:w'.output=w.output) (h4:w'.heap=w.heap) (h5:Dr.d->w.drawn<=w'.drawn:=by first | exact fun h=>False.elim h | exact fun _=>Zs _ | exact fun _=>Nat.le_succ _ | (intro _;simp;done)):Inv cx fz H w':=by
 obtain ⟨⟨a,b,c⟩,⟨d,e,f,g,i,ii⟩,k⟩:=h;exact ⟨⟨by rw [h4];exact a,by rw [h4];exact b,c⟩,⟨h1.trans d,h2.trans e,h3.trans f,by rw [h4];exact g,by rw [h4];exact i,fun hd=>Nat.le_trans (ii hd) (h5 hd)⟩,k⟩
theorem Inv.drew {cx:Cx} (h:Inv cx fz H w):Inv cx fz H {w with drawn:=w.drawn+1}:=h.world rfl rfl rfl rfl
theorem Inv.alloc {cx:Cx} (h:Inv cx fz H w) (o:Obj):Inv cx fz ((w.heap.size,o)::H) (w.alloc o):=by
 obtain ⟨⟨a,b,c⟩,⟨d,e,f,g,i,ii⟩,⟨j,k,l⟩⟩:=h;have hold:∀ x,x<w.heap.size->(w.alloc o).heap[x]?=w.heap[x]?:=fun x hx=>Below.heap_alloc w o x hx
 have hnew:fz w.heap.size=none:=by
  cases hq:fz w.heap.size with
  | none=>rfl
  | some q=>have:=lt_of_heap (a _ _ hq);omega
 refine ⟨⟨fun x q hx=>?_,fun p hp=>?_,?_⟩,⟨d,e,f,?_,fun x hx hn=>?_,fun hd=>by simpa using ii hd⟩,⟨j,k,fun p hp=>?_⟩⟩
 ·have:=a x q hx;rw [hold x (lt_of_heap this)];exact this
 ·cases hp with
  | head=>exact ⟨heap_alloc_new w o,hnew⟩
  | tail _ hp=>have:=b p hp;exact ⟨by rw [hold _ (lt_of_heap this.1)];exact this.1,this.2⟩
 ·simp only [List.map_cons,List.nodup_cons];refine ⟨fun hm=>?_,c⟩;obtain ⟨p,hp,he⟩:=List.mem_map.1 hm;have:=lt_of_heap (b p hp).1;omega
 ·simp;omega
 ·rw [hold x Zi];exact i x hx hn
 cases hp with
 | head=>exact .inr g
 | tail _ hp=>exact l p hp
theorem Inv.forget {cx:Cx} {H':HP} (h:Inv cx fz H w) (hs:H'.Sublist H):Inv cx fz H' w:=
 ⟨⟨h.hp.keep,fun p hp=>h.hp.own p (hs.subset hp),h.hp.nd.sublist (hs.map _)⟩,h.fr,⟨h.nw.le,h.nw.old,fun p hp=>h.nw.own p (hs.subset hp)⟩⟩
theorem Inv.perm {cx:Cx} {H':HP} (h:Inv cx fz H w) (hs:H'.Perm H):Inv cx fz H' w:=
 ⟨⟨h.hp.keep,fun p hp=>h.hp.own p (hs.subset hp),(hs.map _).symm.nodup h.hp.nd⟩,h.fr,⟨h.nw.le,h.nw.old,fun p hp=>h.nw.own p (hs.subset hp)⟩⟩
theorem Inv.write {cx:Cx} {pre post:HP} {o o':Obj} (h:Inv cx fz (pre++(g,o)::post) w)
 (h1:w'.os=w.os) (h2:w'.tape=w.tape) (h3:w'.output=w.output) (h4:w'.heap.size=w.heap.size) (h5:w'.heap[g]?=some o') (h6:∀ k,k≠g->w'.heap[k]?=w.heap[k]?) (h7:Dr.d->w.drawn<=w'.drawn:=by first | exact fun h=>False.elim h | exact fun _=>Zs _ | (intro _;simp;done)):
 Inv cx fz (pre++(g,o')::post) w':=by
 obtain ⟨⟨a,b,c⟩,⟨d,e,f,gg,i,ii⟩,⟨j,k,l⟩⟩:=h;have hg:=b (g,o) (by simp);have hnd:(pre++(g,o')::post).map Prod.fst=(pre++(g,o)::post).map Prod.fst:=by simp
 have hgS:g∈cx.S\/cx.w0.heap.size<=g:=l (g,o) (by simp);have hne:∀ p:Nat × Obj,(p∈pre\/p∈post)->p.1≠g:=by
  intro p hp he;simp only [List.map_append,List.map_cons,List.nodup_append,List.nodup_cons] at c;rcases hp with hp | hp
  ·exact c.2.2 p.1 (List.mem_map.2 ⟨p,hp,rfl⟩) g (by simp) he
  exact c.2.1.1 (he ▸ List.mem_map.2 ⟨p,hp,rfl⟩)
 refine ⟨⟨fun x q hx=>?_,fun p hp=>?_,by rw [hnd];exact c⟩,⟨h1.trans d,h2.trans e,h3.trans f,by omega,fun x hx hn=>?_,fun hd=>Nat.le_trans (ii hd) (h7 hd)⟩,⟨j,k,fun p hp=>?_⟩⟩
 ·rw [h6 x (fun hc=>by subst hc;rw [hg.2] at hx;cases hx)];exact a x q hx
 ·simp only [List.mem_append,List.mem_cons] at hp;rcases hp with hp | rfl | hp
  ·rw [h6 _ (hne p (.inl hp))];exact b p (by simp [hp])
  ·exact ⟨h5,hg.2⟩
  rw [h6 _ (hne p (.inr hp))];exact b p (by simp [hp])
 ·rw [h6 x (fun hc=>by subst hc;rcases hgS with h7 | h7;exact hn h7;omega)];exact i x hx hn
 simp only [List.mem_append,List.mem_cons] at hp;rcases hp with hp | rfl | hp
 ·exact l p (by simp [hp])
 ·exact hgS
 exact l p (by simp [hp])
def upd (fz:FZ) (g:Nat) (o:Obj):FZ:=fun b=>if b=g then some o else fz b
theorem Inv.freeze {cx:Cx} {o:Obj} (h:Inv cx fz ((g,o)::H) w):Inv cx (upd fz g o) H w/\Le fz (upd fz g o):=by
 obtain ⟨⟨a,b,c⟩,fr,⟨j,k,l⟩⟩:=h;have hg:=b (g,o) (by simp);have hgS:g∈cx.S\/cx.w0.heap.size<=g:=l (g,o) (by simp);have hle:Le fz (upd fz g o):=by
  intro x q hx;unfold upd;by_cases he:x=g
  ·subst he;rw [hg.2] at hx;cases hx
  rw [if_neg he];exact hx
 simp only [List.map_cons,List.nodup_cons] at c;refine ⟨⟨⟨fun x q hx=>?_,fun p hp=>⟨(b p (by simp [hp])).1,?_⟩,c.2⟩,fr,⟨fun x q hx=>hle x q (j x q hx),fun x hx hn=>?_,fun p hp=>l p (by simp [hp])⟩⟩,hle⟩
 ·unfold upd at hx;by_cases he:x=g
  ·subst he;rw [if_pos rfl] at hx;injection hx with hx;subst hx;exact hg.1
  rw [if_neg he] at hx;exact a x q hx
 ·unfold upd;rw [if_neg (fun he=>c.1 (List.mem_map.2 ⟨p,hp,he⟩))];exact (b p (by simp [hp])).2
 unfold upd;rw [if_neg (fun he=>by subst he;rcases hgS with h7 | h7;exact hn h7;omega)];exact k x hx hn
theorem Inv.quiet {cx:Cx} (h:Inv cx fz H w) (k:Fr [] w w'):Inv cx fz H w':=by
 obtain ⟨⟨a,b,c⟩,d,e⟩:=h;refine ⟨⟨fun x o hx=>?_,fun p hp=>?_,c⟩,d.trans k (by simp),e⟩
 ·have:=a x o hx;rw [k.block x (lt_of_heap this) (by simp)];exact this
 have:=b p hp;exact ⟨by rw [k.block _ (lt_of_heap this.1) (by simp)];exact this.1,this.2⟩
def Yay (P:Program) (R:Value->World->Prop):Result Next->Prop
 | .ok (.value v) w'=>R v w'
 | .ok .skip w'=>R undef w'
 | .ok (.enter f args) w'=>Calls P f args w' fun e w''=>∃ v,e=.returned v/\R v w''
 | _=>False
theorem Yay.mono {P:Program} {R R':Value->World->Prop} (h:∀ v w,R v w->R' v w) {r:Result Next} (hr:Yay P R r):Yay P R' r:=by
 unfold Yay at*;split at hr
 ·exact h _ _ hr
 ·exact h _ _ hr
 ·exact hr.mono fun e w'' ⟨v,he,hv⟩=>⟨v,he,h _ _ hv⟩
 exact hr.elim
theorem Yay.wp {P:Program} {a:Act} {next:Act->World->Prop} {Q:Exit->Act->World->Prop}
 (h:Yay P (fun v w'=>next (a.put o.dst v) w') ((execOp a.eval o).run P w)):o.wp P a w next Q:=by
 unfold Oper.wp;unfold Yay at h;split at h
 ·rename_i hr;rw [hr];exact h
 ·rename_i hr;rw [hr];exact h
 ·rename_i hr;rw [hr];exact h.mono fun e w'' ⟨v,he,hv⟩=>by subst he;exact hv
 exact h.elim
def DoesQ (P:Program) (cx:Cx) (o:Oper) (r:Operand->Option Value) (fz:FZ) (H:HP) (V:Value->Prop):Prop:=
 ∃ v,V v/\∀ ρ w,Reads r ρ->Inv cx fz H w->Yay P (fun v' w'=>v'=v/\Fr [] w w') ((execOp ρ o).run P w)
def Does (P:Program) (cx:Cx) (o:Oper) (r:Operand->Option Value) (fz:FZ) (H:HP) (K:Value->FZ->HP->Prop):Prop:=
 ∀ ρ w,Reads r ρ->Inv cx fz H w->Yay P (fun v w'=>∃ fz' H',Inv cx fz' H' w'/\K v fz' H') ((execOp ρ o).run P w)
theorem DoesQ.does {P:Program} {cx:Cx} {r:Operand->Option Value} {K:Value->FZ->HP->Prop} (h:DoesQ P cx o r fz H fun v=>K v fz H):Does P cx o r fz H K:=by
 obtain ⟨v,hv,hh⟩:=h;intro ρ w hr hi;exact (hh ρ w hr hi).mono fun v' w' ⟨he,hw⟩=>⟨fz,H,hi.quiet hw,by subst he;exact hv⟩
theorem DoesQ.mono {P:Program} {cx:Cx} {r:Operand->Option Value} {V V':Value->Prop} (h:DoesQ P cx o r fz H V) (hv:∀ v,V v->V' v):DoesQ P cx o r fz H V':=by
 obtain ⟨v,h1,h2⟩:=h;exact ⟨v,hv v h1,h2⟩
abbrev QQ:=Exit->Env->FZ->HP->Prop
def lift (cx:Cx) (n:Nat) (Q:QQ):Exit->Act->World->Prop:=fun e a w=>∃ σ fz H,Sat n σ a/\Inv cx fz H w/\Q e σ fz H
def Wp (P:Program) (cx:Cx) (n:Nat) (c:Code) (σ:Env) (fz:FZ) (H:HP) (Q:QQ):Prop:=
 ∀ a w,Sat n σ a->Inv cx fz H w->c.wp P (lift cx n Q) a w
def Seq (P:Program) (cx:Cx) (n:Nat) (ops:Array Oper) (l:List Oper) (σ:Env) (fz:FZ) (H:HP) (Q:QQ):Prop:=
 ∀ a w,Sat n σ a->Inv cx fz H w->wpList P ops (lift cx n Q) l a w
section
variable {P:Program} {cx:Cx} {n:Nat} {σ:Env} {fz:FZ} {H:HP} {Q:QQ} {ops:Array Oper} {rest:List Oper}
def andThen (P:Program) (cx:Cx) (n:Nat) (y:Code) (Q:QQ):QQ
 | .normal,σ,fz,H=>Wp P cx n y σ fz H Q
 | e,σ,fz,H=>Q e σ fz H
theorem Wp.mono {c:Code} {Q':QQ} (h:Wp P cx n c σ fz H Q) (hq:∀ e σ fz H,Q e σ fz H->Q' e σ fz H):Wp P cx n c σ fz H Q':=
 fun a w hs hi=>wp_mono (h a w hs hi) fun _ _ _ ⟨σ,fz,H,h1,h2,h3⟩=>⟨σ,fz,H,h1,h2,hq _ _ _ _ h3⟩
theorem Yr {x y:Code} (h:Wp P cx n x σ fz H (andThen P cx n y Q)):Wp P cx n (.seq x y) σ fz H Q:=by
 intro a w hs hi;refine wp_seq (wp_mono (h a w hs hi) fun e a w hh=>?_);obtain ⟨σ',fz',H',h1,h2,h3⟩:=hh;cases e with
 | normal=>exact h3 a w h1 h2
 | _=>exact ⟨σ',fz',H',h1,h2,h3⟩
theorem Ycj (h:Q .normal σ fz H):Wp P cx n .skip σ fz H Q:=fun _ _ hs hi=>wp_skip ⟨σ,fz,H,hs,hi,h⟩
theorem YhH (h:Q .ret σ fz H):Wp P cx n .ret σ fz H Q:=fun _ _ hs hi=>wp_ret ⟨σ,fz,H,hs,hi,h⟩
theorem Ye9 {id:Nat} (h:Q (.exit id) σ fz H):Wp P cx n (.exit id) σ fz H Q:=fun _ _ hs hi=>wp_exit ⟨σ,fz,H,hs,hi,h⟩
def blkQ (id:Nat) (Q:QQ):QQ
 | .exit i,σ,fz,H=>match Nat.beq i id with
  | true=>Q .normal σ fz H
  | false=>Q (.exit i) σ fz H
 | e,σ,fz,H=>Q e σ fz H
theorem YdR {id:Nat} {c:Code} (h:Wp P cx n c σ fz H (blkQ id Q)):Wp P cx n (.block id c) σ fz H Q:=by
 intro a w hs hi;refine wp_block (wp_mono (h a w hs hi) fun e a w hh=>?_);obtain ⟨σ',fz',H',h1,h2,h3⟩:=hh;cases e with
 | exit i=>
  unfold Exit.inBlock;unfold blkQ at h3;by_cases he:i=id
  ·subst he;simp only [Nat.beq_refl] at h3;simp only [if_true];exact ⟨σ',fz',H',h1,h2,h3⟩
  have:Nat.beq i id=false:=by
   cases hb:Nat.beq i id
   ·rfl
   exact absurd (Nat.eq_of_beq_eq_true hb) he
  simp only [this] at h3;simp only [he,if_false];exact ⟨σ',fz',H',h1,h2,h3⟩
 | _=>exact ⟨σ',fz',H',h1,h2,h3⟩
theorem Wp.cond {c:Operand} {x y:Code} {t:Bool} (hc:rd σ c=some (.bool t)) (ht:t=true->Wp P cx n x σ fz H Q) (hf:t=false->Wp P cx n y σ fz H Q):Wp P cx n (.cond c x y) σ fz H Q:=by
 intro a w hs hi;exact wp_cond_split (hs.reads _ _ hc) (fun h=>ht h a w hs hi) (fun h=>hf h a w hs hi)
theorem WD {c:Operand} {x y:Code} (ht:Wp P cx n x σ fz H Q) (hc:rd σ c=some (.bool true):=by exact rfl):Wp P cx n (.cond c x y) σ fz H Q:=Wp.cond hc (fun _=>ht) (fun h=>by cases h)
theorem WE {c:Operand} {x y:Code} (hf:Wp P cx n y σ fz H Q) (hc:rd σ c=some (.bool false):=by exact rfl):Wp P cx n (.cond c x y) σ fz H Q:=Wp.cond hc (fun h=>by cases h) (fun _=>hf)
theorem Wp.weaken {c:Code} {σ':Env} {H':HP} (hs:Sub σ' σ) (hh:H'.Sublist H) (h:Wp P cx n c σ' fz H' Q):Wp P cx n c σ fz H Q:=
 fun a w h1 h2=>h a w (h1.sub hs) (h2.forget hh)
theorem Wp.freeze {c:Code} {o:Obj} {H':HP} (hH:H=(g,o)::H') (h:∀ fz',Le fz fz'->fz' g=some o->Wp P cx n c σ fz' H' Q):Wp P cx n c σ fz H Q:=by
 subst hH;intro a w h1 h2;obtain ⟨h3,h4⟩:=h2.freeze;exact h _ h4 (by simp [upd]) a w h1 h3
def loopQ (I:Nat->Env->FZ->HP->Prop) (m:Nat) (Q:QQ):QQ
 | .normal,σ,fz,H=>∃ m' σ' H',m'<m/\Sub σ' σ/\H'.Sublist H/\I m' σ' fz H'
 | e,σ,fz,H=>Q e σ fz H
theorem Yi {c:Code} (I:Nat->Env->FZ->HP->Prop) {m0:Nat} {σ0:Env} {H0:HP} (k3:I m0 σ0 fz H0) (k1:Sub σ0 σ) (k2:H0.Sublist H)
 (round:∀ m σ fz H,I m σ fz H->Wp P cx n c σ fz H (loopQ I m Q)):Wp P cx n (.loop c) σ fz H Q:=by
 intro a w hs hi b k cs;have key:∀ (m:Nat) (σ:Env) (fz:FZ) (H:HP),I m σ fz H->∀ a w,Sat n σ a->Inv cx fz H w->
  ∃ e a' w',lift cx n Q e a' w'/\Arrives P (lone (b.at a (.code c:: .inLoop c::k)) cs w) b k cs e a' w':=by
  intro m
  induction m using Nat.strongRecOn with
  | _ m ih=>
   intro σ fz H hI a w hs hi;obtain ⟨e,a1,w1,hq,harr⟩:=round m σ fz H hI a w hs hi b (.inLoop c::k) cs;obtain ⟨σ1,fz1,H1,s1,i1,q1⟩:=hq;cases e with
   | normal=>
    obtain ⟨m',σ',H',hlt,g1,g2,g3⟩:=q1;obtain ⟨e2,a2,w2,hq2,harr2⟩:=ih m' hlt σ' fz1 H' g3 a1 w1 (s1.sub g1) (i1.forget g2);exact ⟨e2,a2,w2,hq2,.of_steps (Steps.trans harr (.one step_inLoop)) harr2⟩
   | exit id=>exact ⟨_,a1,w1,⟨σ1,fz1,H1,s1,i1,q1⟩,.pass (x:=.inLoop c) rfl (fun _ _=>.inl (by simp)) harr⟩
   | goto l=>exact ⟨_,a1,w1,⟨σ1,fz1,H1,s1,i1,q1⟩,.pass (x:=.inLoop c) rfl (fun _ _=>.inl (by simp)) harr⟩
   | ret=>exact ⟨_,a1,w1,⟨σ1,fz1,H1,s1,i1,q1⟩,.pass (x:=.inLoop c) rfl (fun _ _=>.inl (by simp)) harr⟩
   | panic ch=>exact ⟨_,a1,w1,⟨σ1,fz1,H1,s1,i1,q1⟩,.pass (x:=.inLoop c) rfl (fun _ _=>.inl (by simp)) harr⟩
   | outgrown=>exact ⟨_,a1,w1,⟨σ1,fz1,H1,s1,i1,q1⟩,.pass (x:=.inLoop c) rfl (fun _ _=>.inl (by simp)) harr⟩
 obtain ⟨e,a',w',hq,harr⟩:=key m0 σ0 fz H0 k3 a w (hs.sub k1) (hi.forget k2);exact ⟨e,a',w',hq,.of_steps (.one step_loop) harr⟩
theorem W3 {id:Nat} {l:List Oper} (h:Seq P cx n l.toArray l σ fz H Q):Wp P cx n (.region id l.toArray false) σ fz H Q:=
 fun a w hs hi=>wp_region_lit (h a w hs hi)
theorem Seq.nil (h:Q .normal σ fz H):Seq P cx n ops [] σ fz H Q:=fun _ _ hs hi=>wpList_nil ⟨σ,fz,H,hs,hi,h⟩
theorem YcK {y:Code} (h:Wp P cx n y σ fz H Q):Seq P cx n ops [] σ fz H (andThen P cx n y Q):=Seq.nil h
theorem Ya {d:Nat} {op:Op} {ty:TypeId} {pos:String} {af:Array Edge}
 (h:Does P cx ⟨some d,op,ty,pos,af,none⟩ (rd σ) fz H fun v fz' H'=>Seq P cx n ops rest ((d,v)::σ) fz' H' Q) (hd:Nat.blt d n=true:=by exact rfl):
 Seq P cx n ops (⟨some d,op,ty,pos,af,none⟩::rest) σ fz H Q:=by
 intro a w hs hi;unfold wpList;rw [if_pos (by simp [Region.wanted])];refine .inl (Yay.wp ((h a.eval w hs.reads hi).mono fun v w' hh=>?_));obtain ⟨fz',H',h1,h2⟩:=hh;exact h2 _ _ (hs.put d (by simpa [Nat.blt_eq] using hd) v) h1
theorem Yz {op:Op} {ty:TypeId} {pos:String} {af:Array Edge}
 (h:Does P cx ⟨none,op,ty,pos,af,none⟩ (rd σ) fz H fun _ fz' H'=>Seq P cx n ops rest σ fz' H' Q):
 Seq P cx n ops (⟨none,op,ty,pos,af,none⟩::rest) σ fz H Q:=by
 intro a w hs hi;unfold wpList;rw [if_pos (by simp [Region.wanted])];refine .inl (Yay.wp ((h a.eval w hs.reads hi).mono fun v w' hh=>?_));obtain ⟨fz',H',h1,h2⟩:=hh;exact h2 _ _ hs h1
theorem Seq.q {d:Nat} {op:Op} {ty:TypeId} {pos:String} {af:Array Edge} (hd:Nat.blt d n=true)
 (h:DoesQ P cx ⟨some d,op,ty,pos,af,none⟩ (rd σ) fz H fun v=>Seq P cx n ops rest ((d,v)::σ) fz H Q):
 Seq P cx n ops (⟨some d,op,ty,pos,af,none⟩::rest) σ fz H Q:=Ya h.does (hd:=hd)
theorem Seq.freeze {l:List Oper} {o:Obj} {H':HP} (hH:H=(g,o)::H') (h:∀ fz',Le fz fz'->fz' g=some o->Seq P cx n ops l σ fz' H' Q):Seq P cx n ops l σ fz H Q:=by
 subst hH;intro a w h1 h2;obtain ⟨h3,h4⟩:=h2.freeze;exact h _ h4 (by simp [upd]) a w h1 h3
theorem Seq.perm {l:List Oper} {H':HP} (hH:H'.Perm H) (h:Seq P cx n ops l σ fz H' Q):Seq P cx n ops l σ fz H Q:=fun a w h1 h2=>h a w h1 (h2.perm hH)
theorem Wp.perm {c:Code} {H':HP} (hH:H'.Perm H) (h:Wp P cx n c σ fz H' Q):Wp P cx n c σ fz H Q:=fun a w h1 h2=>h a w h1 (h2.perm hH)
variable {j:Nat}
theorem Yfe {a:Act} {σ:Env} {n:Nat} (hs:Sat n σ a) {ops:Array Oper} {s:Nat} {c:Bool} (hj:(ops[j]?).bind (·.dst)=some s) (hv:lk σ s=some (.bool c)):yielded ops a.tmps j=some c:=by
 unfold yielded;rw [hj];simp [hs.slot s _ hv]
theorem W9 {d:Nat} {op:Op} {ty:TypeId} {pos:String} {af:Array Edge} {s:Nat} {c:Bool} (hd:Nat.blt d n=true) (hj:(ops[j]?).bind (·.dst)=some s) (hv:lk σ s=some (.bool c))
 (h:DoesQ P cx ⟨some d,op,ty,pos,af,some (j,c)⟩ (rd σ) fz H fun v=>Seq P cx n ops rest ((d,v)::σ) fz H Q):
 Seq P cx n ops (⟨some d,op,ty,pos,af,some (j,c)⟩::rest) σ fz H Q:=by
 intro a w hs hi;unfold wpList;rw [if_pos (by simp [Region.wanted,Yfe hs hj hv])];refine .inl (Yay.wp ((h.does (K:=fun v fz' H'=>Seq P cx n ops rest ((d,v)::σ) fz' H' Q) a.eval w hs.reads hi).mono fun v w' hh=>?_));obtain ⟨fz',H',h1,h2⟩:=hh;exact h2 _ _ (hs.put d (by simpa [Nat.blt_eq] using hd) v) h1
theorem Yax {d:Nat} {op:Op} {ty:TypeId} {pos:String} {af:Array Edge} {j s:Nat} {b:Bool}
 (h:Seq P cx n ops rest ((d,undef)::σ) fz H Q) (hd:Nat.blt d n=true:=by exact rfl) (hj:(ops[j]?).bind (·.dst)=some s:=by exact rfl) (hv:lk σ s=some undef:=by exact rfl):
 Seq P cx n ops (⟨some d,op,ty,pos,af,some (j,b)⟩::rest) σ fz H Q:=by
 intro a w hs hi;unfold wpList;have hy:yielded ops a.tmps j=none:=by
  unfold yielded;rw [hj];simp [hs.slot s _ hv,undef]
 rw [if_neg (by simp [Region.wanted,hy])];exact h _ _ (hs.put d (by simpa [Nat.blt_eq] using hd) undef) hi
theorem YaV {d:Nat} {op:Op} {ty:TypeId} {pos:String} {af:Array Edge} {j s:Nat} {b c:Bool}
 (h:Seq P cx n ops rest ((d,undef)::σ) fz H Q) (hd:Nat.blt d n=true:=by exact rfl) (hj:(ops[j]?).bind (·.dst)=some s:=by exact rfl) (hv:lk σ s=some (.bool c):=by exact rfl) (hb:b=!c:=by exact rfl):
 Seq P cx n ops (⟨some d,op,ty,pos,af,some (j,b)⟩::rest) σ fz H Q:=by
 intro a w hs hi;unfold wpList;rw [if_neg (by simp [Region.wanted,Yfe hs hj hv,hb])];exact h _ _ (hs.put d (by simpa [Nat.blt_eq] using hd) undef) hi
def waits (o:Oper) (j:Nat):Bool:=o.after.toList.any fun e=>Nat.beq e.on j && Region.binds .any e
def YeD:List Oper->Nat->Nat->Option Nat
 | [],_,_=>none
 | p::r,t,i=>match p.dst with
  | some d=>match Nat.beq d t with
   | true=>some i
   | false=>YeD r t (i+1)
  | none=>YeD r t (i+1)
def nthO:List Oper->Nat->Option Oper
 | [],_=>none
 | p::_,0=>some p
 | _::r,j+1=>nthO r j
theorem YlW:∀ (l:List Oper) (j:Nat),nthO l j=l[j]?
 | [],_=>by simp [nthO]
 | _::_,0=>rfl
 | _::r,j+1=>by simpa [nthO] using YlW r j
def YjN (q:Oper) (j:Nat):Nat->Bool
 | 0=>true
 | k+1=>match (Nat.beq k j || waits q k) with
  | true=>YjN q j k
  | false=>false
theorem Ylk {q:Oper} {j:Nat}:∀ {n:Nat},YjN q j n=true->∀ k,k<n->k=j\/waits q k=true
 | 0,_,k,hk=>absurd hk Zi
 | n+1,h,k,hk=>by
  unfold YjN at h;cases hb:(Nat.beq n j || waits q n) with
  | false=>simp [hb] at h
  | true=>
   simp only [hb] at h;by_cases he:k=n
   ·subst he;rcases Bool.or_eq_true _ _ ▸ hb with h1 | h1
    ·exact .inl (Nat.eq_of_beq_eq_true h1)
    exact .inr h1
   exact Ylk h k Zi
def lastB (ops:List Oper) (j:Nat):Bool:=match nthO ops j with
 | some q=>YjN q j ops.length
 | none=>false
theorem lastB_s {ops:List Oper} (h:lastB ops j=true):∃ q,ops[j]?=some q/\∀ k,k<ops.length->k=j\/waits q k=true:=by
 unfold lastB at h;rw [YlW] at h;cases hq:ops[j]? with
 | none=>simp [hq] at h
 | some q=>simp only [hq] at h;exact ⟨q,rfl,Ylk h⟩
def befB (ops:List Oper) (i:Nat):Nat->Nat->Bool
 | 0,j=>Nat.beq j i
 | f+1,j=>match Nat.beq j i with
  | true=>true
  | false=>match nthO ops j with
   | some q=>q.after.toList.any fun e=>match Region.binds .any e with
    | true=>befB ops i f e.on
    | false=>false
   | none=>false
def Yl1 (ops:List Oper) (o:Oper) (j:Nat):Bool:=match lastB ops j with
 | true=>true
 | false=>match o.dst with
  | some d=>match YeD ops d 0 with
   | some i=>befB ops i 3 j
   | none=>false
  | none=>false
theorem befB_s {l:List Oper} {i:Nat} {listed:Array Bool} (hcl:∀ (k:Nat) (o:Oper),l[k]?=some o->listed.getD k true=true->∀ m,waits o m=true->listed.getD m true=true):∀ (f j:Nat),befB l i f j=true->listed.getD j true=true->listed.getD i true=true
 | 0,j,h,hj=>by
  unfold befB at h;rw [Nat.eq_of_beq_eq_true h] at hj;exact hj
 | f+1,j,h,hj=>by
  unfold befB at h;cases hb:Nat.beq j i with
  | true=>rw [Nat.eq_of_beq_eq_true hb] at hj;exact hj
  | false=>
   simp only [hb,YlW] at h;cases hq:l[j]? with
   | none=>simp [hq] at h
   | some q=>
    simp only [hq] at h;obtain ⟨e,he,h1⟩:=List.any_eq_true.1 h;cases hbe:Region.binds .any e with
    | false=>simp [hbe] at h1
    | true=>
     simp only [hbe] at h1;have hw:waits q e.on=true:=List.any_eq_true.2 ⟨e,he,by simp [hbe]⟩;exact befB_s hcl f e.on h1 (hcl j q hq hj e.on hw)
def rdq (ops:List Oper) (o:Oper) (σ ve:Env):Operand->Option Value
 | .tmp t=>match YeD ops t 0 with
  | none=>lk σ t
  | some j=>match waits o j with
   | true=>lk ve j
   | false=>match Yl1 ops o j with
    | true=>lk σ t
    | false=>none
 | .const v=>some v
 | .func f=>some (.func (.func f) #[] #[])
 | .global g=>some (.pointer (some ⟨g,0,none⟩))
def asB:Value->Option Bool
 | .bool b=>some b
 | _=>none
def Ydq (o:Oper) (ve:Env):Option Bool:=match o.guard with
 | none=>some true
 | some (j,b)=>match waits o j with
  | false=>none
  | true=>match lk ve j with
   | some v=>some (asB v==some b)
   | none=>none
def Quiet (P:Program) (cx:Cx) (o:Oper) (r:Operand->Option Value) (fz:FZ) (H:HP) (v:Value):Prop:=
 ∀ ρ w,Reads r ρ->Inv cx fz H w->Yay P (fun v' w'=>v'=v/\Fr [] w w') ((execOp ρ o).run P w)
def QOk (P:Program) (cx:Cx) (ops:List Oper) (o:Oper) (σ ve:Env) (fz:FZ) (H:HP) (v:Value):Prop:=
 (Ydq o ve=some true/\Quiet P cx o (rdq ops o σ ve) fz H v)\/(Ydq o ve=some false/\v=undef)
def QL (P:Program) (cx:Cx) (ops:List Oper) (σ:Env) (fz:FZ) (H:HP) (Q:QQ):Nat->List Oper->Env->Env->Prop
 | _,[],_,τ=>Q .normal τ fz H
 | i,o::rest,ve,τ=>∃ v,QOk P cx ops o σ ve fz H v/\QL P cx ops σ fz H Q (i+1) rest ((i,v)::ve) (match o.dst with | some d=>(d,v)::τ | none=>τ)
def YdE (n:Nat):List Oper->Nat->List Nat->Bool
 | [],_,_=>true
 | o::r,i,ds=>(o.after.toList.all fun e=>!Region.binds .any e || Nat.blt e.on i) && (match o.dst with
  | some d=>Nat.blt d n && !ds.any (Nat.beq d) && YdE n r (i+1) (d::ds)
  | none=>YdE n r (i+1) ds)
def YeZ (l:List Oper):Bool:=l.all fun o=>match o.guard with
 | none=>true
 | some (j,_)=>((l[j]?).bind (·.dst)).isSome
def VExt (a b:Env):Prop:=∀ i v,lk a i=some v->lk b i=some v
theorem Yj0 {a b:Env} (h:VExt a b) {c:Bool} (hw:Ydq o a=some c):Ydq o b=some c:=by
 unfold Ydq at*;split
 ·rename_i hg;simp only [hg] at hw;exact hw
 rename_i j bb hg;simp only [hg] at hw;cases hwt:waits o j with
 | false=>simp [hwt] at hw
 | true=>
  simp only [hwt] at hw ⊢;cases hl:lk a j with
  | none=>simp [hl] at hw
  | some v=>rw [h j v hl];simpa [hl] using hw
theorem rdq_ext {ops:List Oper} {σ a b:Env} (h:VExt a b):∀ x v,rdq ops o σ a x=some v->rdq ops o σ b x=some v:=by
 intro x v hx;cases x with
 | tmp t=>
  unfold rdq at*;cases hw:YeD ops t 0 with
  | none=>simpa [hw] using hx
  | some j=>
   simp only [hw] at hx ⊢;cases hwt:waits o j with
   | false=>simpa only [hwt] using hx
   | true=>simp only [hwt] at hx ⊢;exact h j v hx
 | const u=>exact hx
 | global g=>exact hx
 | func f=>exact hx
variable {v:Value}
theorem QOk.ext {ops':List Oper} {a b:Env} (h:VExt a b) (hq:QOk P cx ops' o σ a fz H v):QOk P cx ops' o σ b fz H v:=by
 rcases hq with ⟨h1,h2⟩ | ⟨h1,h2⟩
 ·exact .inl ⟨Yj0 h h1,fun ρ w hr hi=>h2 ρ w (fun x v hx=>hr x v (rdq_ext h x v hx)) hi⟩
 exact .inr ⟨Yj0 h h1,h2⟩
theorem YdD:∀ (l:List Oper) (i:Nat) (ds:List Nat),YdE n l i ds=true->∀ (k:Nat) (o:Oper),l[k]?=some o->∀ e∈o.after,Region.binds .any e=true->e.on<i+k
 | [],_,_,_,k,o,hk=>by simp at hk
 | p::r,i,ds,h,k,o,hk=>by
  simp only [YdE,Bool.and_eq_true] at h;cases k with
  | zero=>
   simp at hk;subst hk;intro e he hb;have:=List.all_eq_true.1 h.1 e (by simpa using he);simp only [hb,Bool.not_true,Bool.false_or,Nat.blt_eq] at this;simpa using this
  | succ k=>
   intro e he hb;have h2:=h.2;cases hd:p.dst with
   | none=>
    simp only [hd] at h2;have:=YdD r (i+1) ds h2 k o (by simpa using hk) e he hb;omega
   | some d=>
    simp only [hd,Bool.and_eq_true] at h2;have:=YdD r (i+1) (d::ds) h2.2 k o (by simpa using hk) e he hb;omega
theorem YdZ:∀ (l:List Oper) (i:Nat) (ds:List Nat),YdE n l i ds=true->∀ (k:Nat) (o:Oper) (d:Nat),l[k]?=some o->o.dst=some d->d<n/\d ∉ ds/\∀ (k':Nat) (o':Oper),l[k']?=some o'->o'.dst=some d->k'=k
 | [],_,_,_,k,o,d,hk=>by simp at hk
 | p::r,i,ds,h,k,o,d,hk=>by
  intro hod;simp only [YdE,Bool.and_eq_true] at h;have h2:=h.2;cases hd:p.dst with
  | none=>
   simp only [hd] at h2;cases k with
   | zero=>simp at hk;subst hk;rw [hd] at hod;cases hod
   | succ k=>
    obtain ⟨a,b,c⟩:=YdZ r (i+1) ds h2 k o d (by simpa using hk) hod;refine ⟨a,b,fun k' o' hk' ho'=>?_⟩;cases k' with
    | zero=>simp at hk';subst hk';rw [hd] at ho';cases ho'
    | succ k'=>rw [c k' o' (by simpa using hk') ho']
  | some d0=>
   simp only [hd,Bool.and_eq_true,Nat.blt_eq,Bool.not_eq_true'] at h2;have hnot:d0 ∉ ds:=by
    intro hm;have:ds.any (Nat.beq d0)=true:=List.any_eq_true.2 ⟨d0,hm,Nat.beq_refl d0⟩;rw [this] at h2;exact absurd h2.1.2 (by simp)
   cases k with
   | zero=>
    simp at hk;subst hk;rw [hd] at hod;injection hod with hod
    subst hod;refine ⟨h2.1.1,hnot,fun k' o' hk' ho'=>?_⟩;cases k' with
    | zero=>rfl
    | succ k'=>
     have:=(YdZ r (i+1) (d0::ds) h2.2 k' o' d0 (by simpa using hk') ho').2.1;simp at this
   | succ k=>
    obtain ⟨a,b,c⟩:=YdZ r (i+1) (d0::ds) h2.2 k o d (by simpa using hk) hod;simp only [List.mem_cons,not_or] at b;refine ⟨a,b.2,fun k' o' hk' ho'=>?_⟩;cases k' with
    | zero=>simp at hk';subst hk';rw [hd] at ho';injection ho' with ho';exact absurd ho'.symm b.1
    | succ k'=>rw [c k' o' (by simpa using hk') ho']
theorem YdT:∀ (l:List Oper) (t i:Nat),YeD l t i=none->∀ (k:Nat) (o:Oper),l[k]?=some o->o.dst≠some t
 | [],_,_,_,k,o,hk=>by simp at hk
 | p::r,t,i,h,k,o,hk=>by
  unfold YeD at h;cases hd:p.dst with
  | none=>
   simp only [hd] at h;cases k with
   | zero=>simp at hk;subst hk;simp [hd]
   | succ k=>exact YdT r t (i+1) h k o (by simpa using hk)
  | some d=>
   simp only [hd] at h;cases hb:Nat.beq d t with
   | true=>simp [hb] at h
   | false=>
    simp only [hb] at h;cases k with
    | zero=>
     simp at hk;subst hk;rw [hd];intro he;injection he with he;subst he;rw [Nat.beq_refl] at hb;cases hb
    | succ k=>exact YdT r t (i+1) h k o (by simpa using hk)
theorem YbL:∀ (l:List Oper) (t i j:Nat),YeD l t i=some j->∃ (k:Nat) (o:Oper),j=i+k/\l[k]?=some o/\o.dst=some t
 | [],_,_,_,h=>by cases h
 | p::r,t,i,j,h=>by
  unfold YeD at h;cases hd:p.dst with
  | none=>
   simp only [hd] at h;obtain ⟨k,o,h1,h2,h3⟩:=YbL r t (i+1) j h;exact ⟨k+1,o,by omega,by simpa using h2,h3⟩
  | some d=>
   simp only [hd] at h;cases hb:Nat.beq d t with
   | true=>simp [hb] at h;subst h;exact ⟨0,p,rfl,rfl,by rw [hd,Nat.eq_of_beq_eq_true hb]⟩
   | false=>
    simp only [hb] at h;obtain ⟨k,o,h1,h2,h3⟩:=YbL r t (i+1) j h;exact ⟨k+1,o,by omega,by simpa using h2,h3⟩
variable {k:Nat}
theorem lateB_s {l:List Oper} {o1:Oper} {listed:Array Bool} (hil:l[i]?=some o1) (huniq:∀ (a:Nat) (o:Oper) (d:Nat),l[a]?=some o->o.dst=some d->o1.dst=some d->a=i) (hcl:∀ (k:Nat) (o:Oper),l[k]?=some o->listed.getD k true=true->∀ m,waits o m=true->listed.getD m true=true)
 (hb:Yl1 l o1 k=true) (hls:listed.getD k true=true):listed.getD i true=true:=by
 unfold Yl1 at hb;cases hlb:lastB l k with
 | true=>
  obtain ⟨q,hq1,hq2⟩:=lastB_s hlb;rcases hq2 i (Zg hil).1 with h1 | h1
  ·subst h1;exact hls
  exact hcl k q hq1 hls i h1
 | false=>
  simp only [hlb] at hb;cases hd:o1.dst with
  | none=>simp [hd] at hb
  | some d=>
   simp only [hd] at hb;cases hw:YeD l d 0 with
   | none=>simp [hw] at hb
   | some a=>
    simp only [hw] at hb;obtain ⟨a',o,rfl,ho,hod⟩:=YbL l d 0 a hw;simp only [Nat.zero_add] at*;have:=huniq a' o d ho hod hd;subst this;exact befB_s hcl 3 k hb hls
theorem Yld {p q:Nat->Bool}:∀ (l:List Nat) (i:Nat),i∈l->(∀ j,q j=true->p j=true)->p i=true->q i=false->l.countP q<l.countP p
 | [],_,h,_,_,_=>by cases h
 | x::l,i,h,hle,hp,hq=>by
  have hmono:l.countP q<=l.countP p:=List.countP_mono_left fun j _=>hle j
  simp only [List.countP_cons];by_cases hx:x=i
  ·subst hx;simp only [hp,hq,if_true];simp;omega
  have hm:i∈l:=by cases h with | head=>exact absurd rfl hx | tail _ h=>exact h
  have:=Yld l i hm hle hp hq;by_cases h1:q x=true
  ·simp only [h1,hle x h1,if_true];omega
  rw [if_neg h1];split<;>omega
def rdc (ops:List Oper) (o:Oper) (σ ve cv:Env):Operand->Option Value
 | .tmp t=>match YeD ops t 0 with
  | none=>lk σ t
  | some j=>match waits o j with
   | true=>match lk cv j with
    | some v=>some v
    | none=>lk ve j
   | false=>match Yl1 ops o j with
    | true=>lk σ t
    | false=>none
 | .const v=>some v
 | .func f=>some (.func (.func f) #[] #[])
 | .global g=>some (.pointer (some ⟨g,0,none⟩))
def inCh (ch:List (Nat × Oper)) (i:Nat):Bool:=ch.any fun p=>Nat.beq p.1 i
def Keep (fz:FZ) (Hq:HP) (fz':FZ) (H':HP):Prop:=Le fz fz'/\∀ p∈Hq,p∈H'
variable {fz':FZ}
theorem Inv.keep {Hq:HP} {H':HP} {w1:World} (h:Inv cx fz Hq w1) (h':Inv cx fz' H' w) (hk:Keep fz Hq fz' H'):Inv cx fz Hq w:=
 ⟨⟨fun b o hb=>h'.hp.keep b o (hk.1 b o hb),fun p hp=>⟨(h'.hp.own p (hk.2 p hp)).1,(h.hp.own p hp).2⟩,h.hp.nd⟩,h'.fr,h.nw⟩
def inPu (pu:List Nat) (i:Nat):Bool:=pu.any fun j=>Nat.beq j i
def QOkP (P:Program) (cx:Cx) (ops:List Oper) (pu:List Nat) (i:Nat) (o:Oper) (σ ve:Env) (fz:FZ) (H:HP) (v:Value):Prop:=match inPu pu i with
 | true=>∀ fz',QOk P cx ops o σ ve fz' [] v
 | false=>QOk P cx ops o σ ve fz H v
theorem QOkP.ext {ops':List Oper} {pu:List Nat} {a b:Env} (h:VExt a b) (hq:QOkP P cx ops' pu i o σ a fz H v):QOkP P cx ops' pu i o σ b fz H v:=by
 unfold QOkP at*;cases hp:inPu pu i with
 | true=>rw [hp] at hq;exact fun fz'=>(hq fz').ext h
 | false=>rw [hp] at hq;exact hq.ext h
def PK (P:Program) (cx:Cx) (ops:List Oper) (pu:List Nat) (σ:Env) (fz:FZ) (Hq:HP) (K:Env->Env->List (Nat × Oper)->Prop):Nat->List Oper->Env->Env->List (Nat × Oper)->Prop
 | _,[],ve,τ,ch=>K ve τ ch
 | i,o::rest,ve,τ,ch=>
  (∃ v,QOkP P cx ops pu i o σ ve fz Hq v/\PK P cx ops pu σ fz Hq K (i+1) rest ((i,v)::ve) (match o.dst with | some d=>(d,v)::τ | none=>τ) ch)\/
  PK P cx ops pu σ fz Hq K (i+1) rest ve τ (ch++ [(i,o)])
def Yhx (o:Oper):List Nat:=(o.after.toList.filter fun e=>Region.binds .any e).map (·.on)
def Yhz (ops:List Oper):Nat->List Nat->List Nat
 | 0,L=>L
 | j+1,L=>Yhz ops j (if inPu L j then (match ops[j]? with
  | some p=>Yhx p++L
  | none=>L) else L)
theorem Yna (h:inPu (Yhx o) i=true):waits o i=true:=by
 unfold inPu Yhx at h;obtain ⟨x,hx,e⟩:=List.any_eq_true.1 h;obtain ⟨d,hd,rfl⟩:=List.mem_map.1 hx;unfold waits;refine List.any_eq_true.2 ⟨d,(List.mem_filter.1 hd).1,?_⟩;rw [e,Bool.true_and];exact (List.mem_filter.1 hd).2
theorem Yha {a b:List Nat}:inPu (a++b) i=(inPu a i || inPu b i):=by unfold inPu;rw [List.any_append]
theorem Yf8 {ops:List Oper} {D:Nat->Prop} (hD:∀ k o,ops[k]?=some o->D k->∀ m,waits o m=true->D m):∀ (n:Nat) (L:List Nat),(∀ i,inPu L i=true->D i)->∀ i,inPu (Yhz ops n L) i=true->D i
 | 0,_,h,i,hi=>h i hi
 | n+1,L,h,i,hi=>by
  rw [Yhz] at hi;refine Yf8 hD n _ (fun k hk=>?_) i hi;by_cases hn:inPu L n=true
  ·rw [if_pos hn] at hk;cases ho:ops[n]? with
   | none=>rw [ho] at hk;exact h k hk
   | some p=>
    rw [ho] at hk;rw [Yha,Bool.or_eq_true] at hk;rcases hk with hk | hk
    ·exact hD n p ho (h n hn) k (Yna hk)
    exact h k hk
  rw [if_neg hn] at hk;exact h k hk
def allp (ops:List Oper) (ch:List (Nat × Oper)) (pu:List Nat) (o:Oper):Bool:=(List.range ops.length).all fun i=>inCh ch i || inPu pu i || inPu (Yhz ops ops.length (Yhx o)) i
theorem PK.out {ops':List Oper} {pu:List Nat} {Hq:HP} {K:Env->Env->List (Nat × Oper)->Prop}:∀ (l:List Oper) (i:Nat) (ve τ:Env) (ch:List (Nat × Oper)),(∀ j,i<=j->lk ve j=none)->PK P cx ops' pu σ fz Hq K i l ve τ ch->
 ∃ VE τF ch',VExt ve VE/\K VE τF (ch++ch')/\(∀ p∈ch',i<=p.1/\l[p.1 - i]?=some p.2)/\
  (∀ j,(j<i\/(∃ p∈ch',p.1=j))->lk VE j=lk ve j)/\
  (∀ (k:Nat) (o:Oper),l[k]?=some o->(∃ p∈ch',p.1=i+k)\/((∀ p∈ch',p.1≠i+k)/\∃ v,lk VE (i+k)=some v/\QOkP P cx ops' pu (i+k) o σ VE fz Hq v))/\
  (∀ s v,lk τF s=some v->(∃ (k:Nat) (o:Oper),l[k]?=some o/\o.dst=some s/\lk VE (i+k)=some v)\/(lk τ s=some v/\∀ (k:Nat) (o:Oper),l[k]?=some o->(∀ p∈ch',p.1≠i+k)->o.dst≠some s))
 | [],i,ve,τ,ch,_,h=>⟨ve,τ,[],fun _ _ h=>h,by simpa [PK] using h,by simp,by simp,by simp,fun s v hs=>.inr ⟨hs,by simp⟩⟩
 | o::l,i,ve,τ,ch,hve,h=>by
  rcases h with ⟨v,hq,hr⟩ | hr
  ·have hx:VExt ve ((i,v)::ve):=by
    intro j u hj;by_cases he:i=j
    ·subst he;rw [hve i (Zs _)] at hj;cases hj
    rw [XR v ve he];exact hj
   obtain ⟨VE,τF,ch',h1,h2,h3,h3b,h4,h5⟩:=PK.out l (i+1) ((i,v)::ve) _ ch (fun j hj=>by rw [XR v ve Zi];exact hve j Zi) hr;have hv:lk VE i=some v:=h1 i v (Wy i v ve);have hvx:VExt ve VE:=fun j u hj=>h1 j u (hx j u hj)
   refine ⟨VE,τF,ch',hvx,h2,fun p hp=>?_,fun j hj=>?_,fun k o' hk=>?_,fun s u hs=>?_⟩
   ·obtain ⟨g1,g2⟩:=h3 p hp;exact ⟨by omega,by rw [show p.1 - i=(p.1 - (i+1))+1 from by omega];simpa using g2⟩
   ·have hne:i≠j:=by
     rcases hj with hj | ⟨p,hp,hj⟩
     ·omega
     have:=(h3 p hp).1;omega
    rw [h3b j (by rcases hj with hj | hj;exact .inl Zi;exact .inr hj),XR v ve hne]
   ·cases k with
    | zero=>
     simp at hk;subst hk;exact .inr ⟨fun p hp=>by have:=(h3 p hp).1;omega,v,hv,hq.ext hvx⟩
    | succ k=>
     rcases h4 k o' (by simpa using hk) with ⟨p,hp,he⟩ | ⟨hn,u,hu,hqu⟩
     ·exact .inl ⟨p,hp,by omega⟩
     exact .inr ⟨fun p hp=>by have:=hn p hp;omega,u,by rw [<- hu];congr 1;omega,by rw [show i+(k+1)=i+1+k from by omega];exact hqu⟩
   rcases h5 s u hs with ⟨k,o',hk,hd,hl⟩ | ⟨hl,hn⟩
   ·exact .inl ⟨k+1,o',by simpa using hk,hd,by rw [<- hl];congr 1;omega⟩
   cases hd:o.dst with
   | none=>
    simp only [hd] at hl;refine .inr ⟨hl,fun k o' hk hp=>?_⟩;cases k with
    | zero=>simp at hk;subst hk;simp [hd]
    | succ k=>exact hn k o' (by simpa using hk) (fun p hp'=>by have:=hp p hp';omega)
   | some d=>
    simp only [hd] at hl;by_cases he:d=s
    ·subst he;rw [Wy] at hl;exact .inl ⟨0,o,by simp,hd,by simpa using hv.trans hl⟩
    rw [XR v τ he] at hl;refine .inr ⟨hl,fun k o' hk hp=>?_⟩;cases k with
    | zero=>simp at hk;subst hk;rw [hd];simpa using he
    | succ k=>exact hn k o' (by simpa using hk) (fun p hp'=>by have:=hp p hp';omega)
  obtain ⟨VE,τF,ch',h1,h2,h3,h3b,h4,h5⟩:=PK.out l (i+1) ve τ (ch++ [(i,o)]) (fun j hj=>hve j Zi) hr;refine ⟨VE,τF,(i,o)::ch',h1,by simpa using h2,fun p hp=>?_,fun j hj=>?_,fun k o' hk=>?_,fun s u hs=>?_⟩
  ·cases hp with
   | head=>simp
   | tail _ hp=>
    obtain ⟨g1,g2⟩:=h3 p hp;exact ⟨by omega,by rw [show p.1 - i=(p.1 - (i+1))+1 from by omega];simpa using g2⟩
  ·rcases hj with hj | ⟨p,hp,hj⟩
   ·exact h3b j (.inl Zi)
   cases hp with
   | head=>exact h3b j (.inl (by simp at hj;omega))
   | tail _ hp=>exact h3b j (.inr ⟨p,hp,hj⟩)
  ·cases k with
   | zero=>exact .inl ⟨(i,o),by simp,by simp⟩
   | succ k=>
    rcases h4 k o' (by simpa using hk) with ⟨p,hp,he⟩ | ⟨hn,u,hu,hqu⟩
    ·exact .inl ⟨p,by simp [hp],by omega⟩
    refine .inr ⟨fun p hp=>?_,u,by rw [<- hu];congr 1;omega,by rw [show i+(k+1)=i+1+k from by omega];exact hqu⟩;cases hp with
    | head=>simp
    | tail _ hp=>have:=hn p hp;omega
  rcases h5 s u hs with ⟨k,o',hk,hd,hl⟩ | ⟨hl,hn⟩
  ·exact .inl ⟨k+1,o',by simpa using hk,hd,by rw [<- hl];congr 1;omega⟩
  refine .inr ⟨hl,fun k o' hk hp=>?_⟩;cases k with
  | zero=>exact absurd rfl (hp (i,o) (by simp))
  | succ k=>exact hn k o' (by simpa using hk) (fun p hp'=>by have:=hp p (by simp [hp']);omega)
def YhM (o:Oper) (ve cv:Env):Option Bool:=match o.guard with
 | none=>some true
 | some (j,b)=>match waits o j with
  | false=>none
  | true=>match lk cv j with
   | some v=>some (asB v==some b)
   | none=>match lk ve j with
    | some v=>some (asB v==some b)
    | none=>none
def Po (P:Program) (cx:Cx) (ops:List Oper) (pu:List Nat) (σ ve:Env) (fz0:FZ) (Hq:HP) (Q:QQ) (all:List (Nat × Oper)):Nat->List (Nat × Oper)->Bool->Env->Env->FZ->HP->Prop
 | 0,_,_,_,τ,fz,H=>Q .normal τ fz H
 | m+1,rest,done,cv,τ,fz,H=>∀ p∈rest,(rest.all fun q=>!waits p.2 q.1)=true->
  (YhM p.2 ve cv=some true/\Does P cx p.2 (rdc ops p.2 σ ve cv) fz H fun v fz' H'=>
   ((done || allp ops all pu p.2)=true\/Keep fz0 Hq fz' H')/\
   Po P cx ops pu σ ve fz0 Hq Q all m (rest.filter fun q=>!Nat.beq q.1 p.1) (done || allp ops all pu p.2) ((p.1,v)::cv) (match p.2.dst with | some d=>(d,v)::τ | none=>τ) fz' H')\/
  (YhM p.2 ve cv=some false/\Po P cx ops pu σ ve fz0 Hq Q all m (rest.filter fun q=>!Nat.beq q.1 p.1) (done || allp ops all pu p.2) ((p.1,undef)::cv) (match p.2.dst with | some d=>(d,undef)::τ | none=>τ) fz H)
def Yce:List (Nat × Oper)->Bool
 | []=>true
 | p::r=>(r.all fun q=>!Nat.beq q.1 p.1) && Yce r
theorem YqT {a b:Nat} (h:(!Nat.beq a b)=true):a≠b:=by
 intro he;subst he;simp at h
theorem Ym9 {a b:Nat} (h:a≠b):(!Nat.beq a b)=true:=by
 cases hb:Nat.beq a b with
 | true=>exact absurd (Nat.eq_of_beq_eq_true hb) h
 | false=>rfl
theorem Yiq {p:Nat × Oper}:∀ {l:List (Nat × Oper)},Yce l=true->p∈l->(l.filter fun q=>!Nat.beq q.1 p.1).length+1=l.length
 | [],_,h=>by cases h
 | x::r,hn,h=>by
  simp only [Yce,Bool.and_eq_true] at hn;rcases List.mem_cons.1 h with rfl | h
  ·have:r.filter (fun q=>!Nat.beq q.1 p.1)=r:=List.filter_eq_self.2 (fun q hq=>List.all_eq_true.1 hn.1 q hq);simp [this]
  have ih:=Yiq hn.2 h;have hx:(!Nat.beq x.1 p.1)=true:=Ym9 (fun he=>YqT (List.all_eq_true.1 hn.1 p h) he.symm);rw [List.filter_cons,if_pos hx,List.length_cons,List.length_cons,ih]
theorem YdF {f:Nat × Oper->Bool}:∀ {l:List (Nat × Oper)},Yce l=true->Yce (l.filter f)=true
 | [],_=>rfl
 | x::r,hn=>by
  simp only [Yce,Bool.and_eq_true] at hn;rw [List.filter_cons];split
  ·simp only [Yce,Bool.and_eq_true];exact ⟨List.all_eq_true.2 (fun q hq=>List.all_eq_true.1 hn.1 q (List.mem_filter.1 hq).1),YdF hn.2⟩
  exact YdF hn.2
theorem YlS {p:Nat × Oper} {pre:List (Nat × Oper)}:∀ {l:List (Nat × Oper)},Yce l=true->p∈l->((pre++ [p])++l.filter fun q=>!Nat.beq q.1 p.1).Perm (pre++l):=by
 intro l hn hp;rw [List.append_assoc];refine List.Perm.append_left pre ?_
 induction l with
 | nil=>cases hp
 | cons x r ih=>
  simp only [Yce,Bool.and_eq_true] at hn;rcases List.mem_cons.1 hp with rfl | h
  ·have:r.filter (fun q=>!Nat.beq q.1 p.1)=r:=List.filter_eq_self.2 (fun q hq=>List.all_eq_true.1 hn.1 q hq);simp [this]
  have hx:(!Nat.beq x.1 p.1)=true:=Ym9 (fun he=>YqT (List.all_eq_true.1 hn.1 p h) he.symm);rw [List.filter_cons,if_pos hx];exact (List.Perm.swap x p _).trans (List.Perm.cons x (ih hn.2 h))
theorem YjO (pu:List Nat) {id:Nat} {l:List Oper} {Hq:HP} (hm:P.follows .mixedOrders=true) (hB:YdE n l 0 []=true) (hG:YeZ l=true) (hHq:Hq.Sublist H)
 (h:PK P cx l pu σ fz Hq (fun ve τ ch=>Yce ch=true/\Po P cx l pu σ ve fz Hq Q ch ch.length ch false [] τ fz H) 0 l [] σ []):Wp P cx n (.region id l.toArray true) σ fz H Q:=by
 intro a w hs hi;obtain ⟨VE,τF,ch,_,hK,hch,hVEch,hq,hτ⟩:=PK.out l 0 [] σ [] (fun _ _=>rfl) h;simp only [Nat.zero_add,List.nil_append,Nat.sub_zero] at hq hτ hK hch;obtain ⟨hcok,hCh⟩:=hK;have hedge:=YdD (n:=n) l 0 [] hB;have hdst:=YdZ (n:=n) l 0 [] hB;simp only [Nat.zero_add] at hedge;have hops:∀ k:Nat,(l.toArray)[k]?=l[k]?:=fun k=>by simp
 have hi0:Inv cx fz Hq w:=hi.forget hHq
 -- a quiet operation's number
 let isQ:Nat->Prop:=fun k=>∀ p∈ch,p.1≠k
 -- what holds at every point: 'rest' of the chain is to come
 let A:Array Bool->Act->World->Prop:=fun listed a w=>∃ pre rest done cv τ fzs Hs,(pre++rest).Perm ch/\Yce rest=true/\Po P cx l pu σ VE fz Hq Q ch rest.length rest done cv τ fzs Hs/\Inv cx fzs Hs w/\
  a.tmps.size=n/\a.defers=[]/\listed.size=l.length/\
  ((∀ s v,lk σ s=some v->(∀ (k:Nat) (o:Oper),l[k]?=some o->o.dst=some s->listed.getD k true=false)->a.tmps[s]?=some v)/\
   (∀ (k:Nat) (o:Oper),l[k]?=some o->listed.getD k true=true->∀ m,waits o m=true->listed.getD m true=true))/\
  (∀ (k:Nat) (o:Oper) (d:Nat) (v:Value),l[k]?=some o->o.dst=some d->isQ k->listed.getD k true=true->lk VE k=some v->a.tmps[d]?=some v)/\
  (∀ p∈pre,listed.getD p.1 true=true/\∃ v,lk cv p.1=some v/\∀ d,p.2.dst=some d->a.tmps[d]?=some v)/\
  (∀ p∈rest,listed.getD p.1 true=false/\lk cv p.1=none)/\
  (∀ j v,lk cv j=some v->∃ p∈pre,p.1=j)/\
  (Keep fz Hq fzs Hs\/(∀ k,k<l.length->isQ k->inPu pu k=false->listed.getD k true=true))/\
  (done=true->∀ k,k<l.length->isQ k->inPu pu k=false->listed.getD k true=true)/\
  (∀ s v,lk τ s=some v->(∃ (k:Nat) (o:Oper),l[k]?=some o/\o.dst=some s/\isQ k/\lk VE k=some v)\/(∃ p∈pre,p.2.dst=some s/\lk cv p.1=some v)\/
   (lk σ s=some v/\(∀ (k:Nat) (o:Oper),l[k]?=some o->isQ k->o.dst≠some s)/\∀ p∈pre,p.2.dst≠some s))
 have hall:∀ (listed:Array Bool),listed.size=l.length->Region.ready .any l.toArray listed=[]->∀ k,k<l.length->listed.getD k true=true:=by
  intro listed hsz hr k
  induction k using Nat.strongRecOn with
  | _ k ih=>
   intro hk;cases hl:listed.getD k true with
   | true=>rfl
   | false=>
    exfalso;have hmem:k∈Region.ready .any l.toArray listed:=by
     unfold Region.ready;simp only [List.mem_filter,List.mem_range,List.size_toArray,hk,true_and,hl,Bool.not_false,Bool.true_and];rw [hops k,List.getElem?_eq_getElem hk];simp only [Option.map_some,Option.getD_some,Array.all_eq_true_iff_forall_mem];intro e he;cases hb:Region.binds .any e with
     | false=>rfl
     | true=>
      have h1:=hedge k l[k] (List.getElem?_eq_getElem hk) e he hb;have h2:=ih e.on Zi Zi;have h3:e.on<listed.size:=by omega
      simp only [Bool.not_true,Bool.false_or];simpa [Array.getD,h3] using h2
    rw [hr] at hmem;cases hmem
 have hfin:∀ listed a w,A listed a w->Region.ready .any l.toArray listed=[]->lift cx n Q .normal a w:=by
  rintro listed a w ⟨pre,rest,done,cv,τ,fzs,Hs,e0,hnd,hC,a1,a2,a3,a4,⟨a5,_⟩,a6,a7,a8,a9,a10,a11,a12⟩ hr;have hrest:rest=[]:=by
   cases rest with
   | nil=>rfl
   | cons p r=>
    have h1:=(a8 p (by simp)).1;have h2:=hch p (e0.mem_iff.1 (by simp));have h3:=hall listed a4 hr p.1 (Zg h2.2).1;rw [h1] at h3;cases h3
  subst hrest;refine ⟨τ,fzs,Hs,⟨a2,a3,fun s v hsv=>?_⟩,a1,hC⟩;rcases a12 s v hsv with ⟨k,o,hk,hd,hqk,hv⟩ | ⟨p,hp,hd,hv⟩ | ⟨hv,hn1,hn2⟩
  ·exact a6 k o s v hk hd hqk (hall listed a4 hr k (Zg hk).1) hv
  ·obtain ⟨_,u,hu,hdu⟩:=a7 p hp;rw [hv] at hu;injection hu with hu;subst hu
   exact hdu s hd
  refine a5 s v hv fun k o hk hd=>absurd hd (show o.dst≠some s from fun hd=>?_)
  by_cases hqk:∀ p∈ch,p.1≠k
  ·exact hn1 k o hk hqk hd
  simp only [Classical.not_forall,Classical.not_not] at hqk;obtain ⟨p,hp,he⟩:=hqk;have:=(hch p hp).2;rw [he,hk] at this;injection this with this
  subst this;rw [List.append_nil] at e0;exact hn2 p (e0.mem_iff.2 hp) hd
 have main:∀ (fuel:Nat) (listed:Array Bool) (a:Act) (w:World),(List.range l.length).countP (fun i=>!listed.getD i true)<=fuel->A listed a w->wpAny P .any l.toArray (lift cx n Q) fuel listed a w:=by
  intro fuel
  induction fuel with
  | zero=>
   intro listed a w hc hA;have hr:Region.ready .any l.toArray listed=[]:=by
    unfold Region.ready;rw [List.filter_eq_nil_iff];intro k hk;have:(List.range l.length).countP (fun i=>!listed.getD i true)=0:=by omega
    rw [List.countP_eq_zero] at this;have:=this k (by simpa using hk);simp only [Bool.not_eq_true,Bool.not_eq_false'] at this;simp only [this];simp
   exact ⟨hr,hfin listed a w hA hr⟩
  | succ fuel ih=>
   intro listed a w hc hA;refine ⟨fun hr=>hfin listed a w hA hr,fun i hir=>?_⟩;obtain ⟨pre,rest,done,cv,τ,fzs,Hs,e0,hnd,hC,a1,a2,a3,a4,⟨a5,a13⟩,a6,a7,a8,a9,a10,a11,a12⟩:=hA;unfold Region.ready at hir;simp only [List.mem_filter,List.mem_range,List.size_toArray,Bool.and_eq_true,Bool.not_eq_true'] at hir;obtain ⟨hil,hun,hrdy⟩:=hir;have hio:l[i]?=some l[i]:=List.getElem?_eq_getElem hil;rw [hops i,hio] at hrdy;simp only [Option.map_some,Option.getD_some,Array.all_eq_true_iff_forall_mem] at hrdy;have hilt:i<listed.size:=by omega
   have hdone:∀ j,waits l[i] j=true->listed.getD j true=true/\j<l.length:=by
    intro j hj;unfold waits at hj;obtain ⟨e,he,hej⟩:=List.any_eq_true.1 hj;simp only [Bool.and_eq_true] at hej;have h1:=hrdy e (by simpa using he);rw [hej.2] at h1;have h2:e.on=j:=Nat.eq_of_beq_eq_true hej.1;have h3:=hedge i l[i] hio e (by simpa using he) hej.2;simp only [Bool.not_true,Bool.false_or] at h1;have h5:j<listed.size:=by omega
    subst h2;exact ⟨by simpa [Array.getD,h5] using h1,by omega⟩
   have hother:∀ k,k≠i->(listed.setIfInBounds i true).getD k true=listed.getD k true:=by
    intro k hk;simp only [Array.getD_eq_getD_getElem?];rw [Array.getElem?_setIfInBounds_ne Zi]
   have hsame:(listed.setIfInBounds i true).getD i true=true:=by simp [Array.getD,hilt]
   have hmono:∀ k,listed.getD k true=true->(listed.setIfInBounds i true).getD k true=true:=by
    intro k hk;by_cases he:k=i
    ·subst he;exact hsame
    rw [hother k he];exact hk
   have hcount:(List.range l.length).countP (fun j=>!(listed.setIfInBounds i true).getD j true)<=fuel:=by
    have:=Yld (p:=fun j=>!listed.getD j true) (q:=fun j=>!(listed.setIfInBounds i true).getD j true) (List.range l.length) i (by simpa using hil) (fun j hj=>by
     by_cases hji:j=i
     ·subst hji;rw [hsame] at hj;cases hj
     rw [hother j hji] at hj;exact hj) (by simp only [hun,Bool.not_false]) (by rw [hsame];rfl)
    omega
   have putOther:∀ (v:Value) (s:Nat) (u:Value),a.tmps[s]?=some u->l[i].dst≠some s->(a.put l[i].dst v).tmps[s]?=some u:=by
    intro v s u hu hne;cases hd:l[i].dst with
    | none=>exact hu
    | some d=>
     have:d≠s:=fun he=>hne (by rw [hd,he])
     simp only [Act.put];rw [Array.getElem?_setIfInBounds_ne this];exact hu
   have putSame:∀ (v:Value) (s:Nat),l[i].dst=some s->(a.put l[i].dst v).tmps[s]?=some v:=by
    intro v s hd;rw [hd];simp [Act.put,a2,(hdst i _ s hio hd).1]
   have putSize:∀ v,(a.put l[i].dst v).tmps.size=n:=by intro v;cases hd:l[i].dst<;>simp [Act.put,a2]
   have putDef:∀ v,(a.put l[i].dst v).defers=[]:=by intro v;cases hd:l[i].dst<;>simp [Act.put,a3]
   have dstNe:∀ (k:Nat) (o:Oper) (d:Nat),l[k]?=some o->o.dst=some d->k≠i->l[i].dst≠some d:=fun k o d hk hd hki hc=>hki ((hdst i _ d hio hc).2.2 k o hk hd)
   have hlate:∀ j t,YeD l t 0=some j->Yl1 l l[i] j=true->∀ (k:Nat) (o:Oper),l[k]?=some o->o.dst=some t->listed.getD k true=false:=by
    intro j t hw hlb k o hk hd;obtain ⟨kj,oj,hkj,hoj,hdj⟩:=YbL l t 0 j hw;simp only [Nat.zero_add] at hkj;subst hkj;have hke:k=j:=(hdst j oj t hoj hdj).2.2 k o hk hd;subst hke;cases hls:listed.getD k true with
    | false=>rfl
    | true=>
     have:=lateB_s hio (fun a o d ha hd hi=>(hdst i _ d hio hi).2.2 a o ha hd) a13 hlb hls;rw [hun] at this;cases this
   have a5n:∀ (v:Value) (s:Nat) (u:Value),lk σ s=some u->(∀ (k:Nat) (o:Oper),l[k]?=some o->o.dst=some s->(listed.setIfInBounds i true).getD k true=false)->(a.put l[i].dst v).tmps[s]?=some u:=by
    intro v s u hsu hn;refine putOther v s u (a5 s u hsu (fun k o hk hd=>?_)) (fun hd=>?_)
    ·by_cases he:k=i
     ·subst he;have:=hn k o hk hd;rw [hsame] at this;cases this
     rw [<- hother k he];exact hn k o hk hd
    have:=hn i l[i] hio hd;rw [hsame] at this;cases this
   have a13n:∀ (k:Nat) (o:Oper),l[k]?=some o->(listed.setIfInBounds i true).getD k true=true->∀ m,waits o m=true->(listed.setIfInBounds i true).getD m true=true:=by
    intro k o hk hls m hm;by_cases he:k=i
    ·subst he;have:o=l[k]:=by rw [hio] at hk;injection hk with hk;exact hk.symm
     subst this;exact hmono m (hdone m hm).1
    rw [hother k he] at hls;exact hmono m (a13 k o hk hls m hm)
   have hyield:∀ j b,l[i].guard=some (j,b)->waits l[i] j=true->∀ c,lk VE j=some c->yielded l.toArray a.tmps j=asB c:=by
    intro j b hg hwt c hc;obtain ⟨h1,h2⟩:=hdone j hwt;have hqj:isQ j:=fun p hp he=>by
     have:=hVEch j (.inr ⟨p,hp,he⟩);rw [hc] at this;cases this
    unfold yielded;rw [hops j,List.getElem?_eq_getElem h2];cases hd:l[j].dst with
    | none=>
     have h7:=List.all_eq_true.1 hG l[i] (List.getElem_mem hil);simp [hg,List.getElem?_eq_getElem h2,hd] at h7
    | some d=>
     have:=a6 j l[j] d _ (List.getElem?_eq_getElem h2) hd hqj h1 hc;simp only [Option.bind_some,hd,this];cases c<;>rfl
   have hwantB:∀ c,Ydq l[i] VE=some c->Region.wanted l[i] (yielded l.toArray a.tmps)=c:=by
    intro c hw1;unfold Region.wanted;unfold Ydq at hw1;cases hg:l[i].guard with
    | none=>simp only [hg] at hw1;injection hw1
    | some jb=>
     obtain ⟨j,b⟩:=jb;simp only;simp only [hg] at hw1;cases hwt:waits l[i] j with
     | false=>simp [hwt] at hw1
     | true=>
      simp only [hwt] at hw1;split at hw1
      ·rename_i c hc;rw [hyield j b hg hwt c hc];exact Option.some.inj hw1
      cases hw1
   unfold wpOp;rw [hops i,hio];simp only;by_cases hqi:∀ p∈ch,p.1≠i
   ·-- a quiet operation
    obtain ⟨v,hv,hqv⟩:∃ v,lk VE i=some v/\QOkP P cx l pu i l[i] σ VE fz Hq v:=by
     rcases hq i l[i] hio with ⟨p,hp,he⟩ | ⟨_,h1⟩
     ·exact absurd he (hqi p hp)
     exact h1
    obtain ⟨fzq,Hqq,hkeep,hqv⟩:∃ fzq Hqq,Inv cx fzq Hqq w/\QOk P cx l l[i] σ VE fzq Hqq v:=by
     unfold QOkP at hqv;cases hpi:inPu pu i with
     | true=>rw [hpi] at hqv;exact ⟨fzs,[],a1.forget (List.nil_sublist _),hqv fzs⟩
     | false=>
      rw [hpi] at hqv;refine ⟨fz,Hq,?_,hqv⟩;rcases a10 with h1 | h1
      ·exact hi0.keep a1 h1
      have:=h1 i hil hqi hpi;rw [hun] at this;cases this
    have hreads:Reads (rdq l l[i] σ VE) a.eval:=by
     intro x u hx;cases x with
     | tmp t=>
      unfold rdq at hx;cases hw:YeD l t 0 with
      | none=>
       simp only [hw] at hx;have:=a5 t u hx (fun k o hk hd=>absurd hd (YdT l t 0 hw k o hk));simp [Act.eval,this]
      | some j=>
       simp only [hw] at hx;cases hwt:waits l[i] j with
       | false=>
        simp only [hwt] at hx;cases hlb:Yl1 l l[i] j with
        | false=>simp [hlb] at hx
        | true=>
         simp only [hlb] at hx;have:=a5 t u hx (hlate j t hw hlb);simp [Act.eval,this]
       | true=>
        simp only [hwt] at hx;obtain ⟨k,o,rfl,hk,hd⟩:=YbL l t 0 j hw;simp only [Nat.zero_add] at*;have hqk:isQ k:=fun p hp he=>by
         have:=hVEch k (.inr ⟨p,hp,he⟩);rw [hx] at this;cases this
        have:=a6 k o t u hk hd hqk (hdone k hwt).1 hx;simp [Act.eval,this]
     | const c=>injection hx
     | global g=>injection hx
     | func f=>injection hx
    have hnext:∀ w',Fr [] w w'->A (listed.setIfInBounds i true) (a.put l[i].dst v) w':=by
     intro w' hw';refine ⟨pre,rest,done,cv,τ,fzs,Hs,e0,hnd,hC,a1.quiet hw',putSize v,putDef v,by simpa using a4,⟨a5n v,a13n⟩,fun k o d u hk hd hqk hls hu=>?_,fun p hp=>?_,fun p hp=>?_,a9,?_,fun hd k hk hqk hpk=>hmono k (a11 hd k hk hqk hpk),a12⟩
     ·by_cases hki:k=i
      ·subst hki;have:o=l[k]:=by rw [hio] at hk;injection hk with hk;exact hk.symm
       subst this;rw [hv] at hu;injection hu with hu;subst hu
       exact putSame v d hd
      rw [hother k hki] at hls;exact putOther v d u (a6 k o d u hk hd hqk hls hu) (dstNe k o d hk hd hki)
     ·obtain ⟨h1,u,h2,h3⟩:=a7 p hp;have hpi:p.1≠i:=hqi p (e0.mem_iff.1 (by simp [hp]));exact ⟨hmono _ h1,u,h2,fun d hd=>putOther v d u (h3 d hd) (dstNe p.1 p.2 d (hch p (e0.mem_iff.1 (by simp [hp]))).2 hd hpi)⟩
     ·have hpi:p.1≠i:=hqi p (e0.mem_iff.1 (by simp [hp]));obtain ⟨h1,h2⟩:=a8 p hp;exact ⟨by rw [hother _ hpi];exact h1,h2⟩
     rcases a10 with h1 | h1
     ·exact .inl h1
     exact .inr fun k hk hqk hpk=>hmono k (h1 k hk hqk hpk)
    rcases hqv with ⟨hw1,hw2⟩ | ⟨hw1,hw2⟩
    ·have hwant:Region.wanted l[i] (yielded l.toArray a.tmps)=true:=by
      unfold Region.wanted;cases hg:l[i].guard with
      | none=>rfl
      | some jb=>
       obtain ⟨j,b⟩:=jb;simp only;unfold Ydq at hw1;simp only [hg] at hw1;cases hwt:waits l[i] j with
       | false=>simp [hwt] at hw1
       | true=>
        simp only [hwt] at hw1;split at hw1
        ·rename_i c hc;rw [hyield j b hg hwt c hc];exact Option.some.inj hw1
        cases hw1
     rw [if_pos hwant];exact .inl (Yay.wp ((hw2 a.eval w hreads hkeep).mono fun v' w' ⟨he,hw'⟩=>by subst he;exact ih _ _ _ hcount (hnext w' hw')))
    have hwant:Region.wanted l[i] (yielded l.toArray a.tmps)=false:=by
     unfold Region.wanted;unfold Ydq at hw1;cases hg:l[i].guard with
     | none=>simp [hg] at hw1
     | some jb=>
      obtain ⟨j,b⟩:=jb;simp only;simp only [hg] at hw1;cases hwt:waits l[i] j with
      | false=>simp [hwt] at hw1
      | true=>
       simp only [hwt] at hw1;split at hw1
       ·rename_i c hc;rw [hyield j b hg hwt c hc];exact Option.some.inj hw1
       cases hw1
    rw [if_neg (by simp [hwant])];subst hw2;exact ih _ _ _ hcount (hnext w (Fr.refl _ _))
   -- the chain's next operation
   simp only [Classical.not_forall,Classical.not_not] at hqi;obtain ⟨p,hp,hpi⟩:=hqi;have hpl:=(hch p hp).2;rw [hpi,hio] at hpl;injection hpl with hpl
   have hprest:p∈rest:=by
    rcases List.mem_append.1 (e0.mem_iff.2 hp) with h1 | h1
    ·have:=(a7 p h1).1;rw [hpi,hun] at this;cases this
    exact h1
   obtain ⟨m,hm0⟩:∃ m,rest.length=m+1:=by
    cases rest with
    | nil=>cases hprest
    | cons q r=>exact ⟨r.length,rfl⟩
   have hlen:=Yiq hnd hprest;have hlm:(rest.filter fun q=>!Nat.beq q.1 p.1).length=m:=by omega
   have hfree:(rest.all fun q=>!waits p.2 q.1)=true:=by
    refine List.all_eq_true.2 (fun q hq=>?_);cases hw:waits p.2 q.1 with
    | false=>rfl
    | true=>
     rw [<- hpl] at hw;have h1:=(hdone q.1 hw).1;have h2:=(a8 q hq).1;rw [h2] at h1;cases h1
   rw [hm0] at hC;unfold Po at hC;have hC0:=hC p hprest hfree;obtain ⟨qi,qo⟩:=p;simp only at hpi hpl;subst hpi;generalize hrr:(rest.filter fun q=>!Nat.beq q.1 qi)=r at*;have hrsub:∀ x∈r,x∈rest/\x.1≠qi:=fun x hx=>by
    rw [<- hrr] at hx;exact ⟨(List.mem_filter.1 hx).1,YqT (List.mem_filter.1 hx).2⟩
   have hreads:Reads (rdc l l[qi] σ VE cv) a.eval:=by
    intro x u hx;cases x with
    | tmp t=>
     unfold rdc at hx;cases hw:YeD l t 0 with
     | none=>
      simp only [hw] at hx;have:=a5 t u hx (fun k o hk hd=>absurd hd (YdT l t 0 hw k o hk));simp [Act.eval,this]
     | some j=>
      simp only [hw] at hx;cases hwt:waits l[qi] j with
      | false=>
       simp only [hwt] at hx;cases hlb:Yl1 l l[qi] j with
       | false=>simp [hlb] at hx
       | true=>
        simp only [hlb] at hx;have:=a5 t u hx (hlate j t hw hlb);simp [Act.eval,this]
      | true=>
       simp only [hwt] at hx;obtain ⟨k,o,rfl,hk,hd⟩:=YbL l t 0 j hw;simp only [Nat.zero_add] at*;cases hcv:lk cv k with
       | some u'=>
        simp only [hcv] at hx;injection hx with hx
        subst hx;obtain ⟨x,hx,hxk⟩:=a9 k u' hcv;obtain ⟨_,u2,hu2,hd2⟩:=a7 x hx;rw [hxk,hcv] at hu2;injection hu2 with hu2
        subst hu2;have hxl:=(hch x (e0.mem_iff.1 (by simp [hx]))).2;rw [hxk,hk] at hxl;injection hxl with hxl
        have:=hd2 t (by rw [<- hxl];exact hd);simp [Act.eval,this]
       | none=>
        simp only [hcv] at hx;have hqk:isQ k:=fun p hp he=>by
         have:=hVEch k (.inr ⟨p,hp,he⟩);rw [hx] at this;cases this
        have:=a6 k o t u hk hd hqk (hdone k hwt).1 hx;simp [Act.eval,this]
    | const c=>injection hx
    | global g=>injection hx
    | func f=>injection hx
   have hstep:=hC0;simp only at hstep;rw [<- hpl] at hstep;have hdoneT:∀ j,inPu (Yhz l l.length (Yhx l[qi])) j=true->listed.getD j true=true:=Yf8 (fun k o hk hl m hm=>a13 k o hk hl m hm) _ _ (fun j hj=>(hdone j (Yna hj)).1);have nextA:∀ (v:Value) (fz':FZ) (H':HP) (w':World),Inv cx fz' H' w'->((done || allp l ch pu l[qi])=true\/Keep fz Hq fz' H'\/(fz'=fzs/\H'=Hs))->
    Po P cx l pu σ VE fz Hq Q ch m r (done || allp l ch pu l[qi]) ((qi,v)::cv) (match l[qi].dst with | some d=>(d,v)::τ | none=>τ) fz' H'->A (listed.setIfInBounds qi true) (a.put l[qi].dst v) w':=by
    intro v fz' H' w' hinv hst hrest;refine ⟨pre++ [(qi,qo)],r,_,(qi,v)::cv,_,fz',H',by rw [<- hrr];exact (YlS hnd hprest).trans e0,by rw [<- hrr];exact YdF hnd,by rw [hlm];exact hrest,hinv,putSize v,putDef v,by simpa using a4,⟨a5n v,a13n⟩,fun k o d u hk hd hqk hls hu=>?_,fun x hx=>?_,fun x hx=>?_,fun j u hj=>?_,?_,fun hd k hk hqk hpk=>?_,fun s u hs=>?_⟩
    ·have hki:k≠qi:=fun he=>hqk (qi,qo) hp he.symm
     rw [hother k hki] at hls;exact putOther v d u (a6 k o d u hk hd hqk hls hu) (dstNe k o d hk hd hki)
    ·rcases List.mem_append.1 hx with hx | hx
     ·obtain ⟨h1,u,h2,h3⟩:=a7 x hx;have hne:x.1≠qi:=fun he=>by rw [he,hun] at h1;cases h1
      exact ⟨hmono _ h1,u,by rw [XR v cv Zi];exact h2,fun d hd=>putOther v d u (h3 d hd) (dstNe x.1 x.2 d (hch x (e0.mem_iff.1 (by simp [hx]))).2 hd hne)⟩
     simp only [List.mem_singleton] at hx;subst hx;exact ⟨hsame,v,Wy _ _ _,fun d hd=>putSame v d (by rw [hpl];exact hd)⟩
    ·obtain ⟨h1,h2⟩:=a8 x (hrsub x hx).1;have hne:x.1≠qi:=(hrsub x hx).2;exact ⟨by rw [hother _ hne];exact h1,by rw [XR v cv Zi];exact h2⟩
    ·by_cases he:qi=j
     ·exact ⟨(qi,qo),by simp,he⟩
     rw [XR v cv he] at hj;obtain ⟨x,hx,hxj⟩:=a9 j u hj;exact ⟨x,by simp [hx],hxj⟩
    ·rcases hst with hst | hst
     ·right;intro k hk hqk hpk;cases hdn:done with
      | true=>exact hmono k (a11 hdn k hk hqk hpk)
      | false=>
       rw [hdn,Bool.false_or] at hst;unfold allp at hst;have:=List.all_eq_true.1 hst k (by simpa using hk);rw [hpk,Bool.or_false,Bool.or_eq_true] at this;rcases this with h1 | h1
       ·unfold inCh at h1;obtain ⟨x,hx,hxk⟩:=List.any_eq_true.1 h1;exact absurd (Nat.eq_of_beq_eq_true hxk) (hqk x hx)
       exact hmono k (hdoneT k h1)
     rcases hst with hst | ⟨h1,h2⟩
     ·exact .inl hst
     subst h1 h2;rcases a10 with h3 | h3
     ·exact .inl h3
     exact .inr fun k hk hqk hpk=>hmono k (h3 k hk hqk hpk)
    ·rw [Bool.or_eq_true] at hd;rcases hd with hd | hd
     ·exact hmono k (a11 hd k hk hqk hpk)
     unfold allp at hd;have:=List.all_eq_true.1 hd k (by simpa using hk);rw [hpk,Bool.or_false,Bool.or_eq_true] at this;rcases this with h1 | h1
     ·unfold inCh at h1;obtain ⟨x,hx,hxk⟩:=List.any_eq_true.1 h1;exact absurd (Nat.eq_of_beq_eq_true hxk) (hqk x hx)
     exact hmono k (hdoneT k h1)
    have hcvx:∀ x∈pre,lk ((qi,v)::cv) x.1=lk cv x.1:=by
     intro x hx;have h1:=(a7 x hx).1;have hne:x.1≠qi:=fun he=>by rw [he,hun] at h1;cases h1
     exact XR v cv Zi
    cases hd:l[qi].dst with
    | none=>
     simp only [hd] at hs;rcases a12 s u hs with h1 | ⟨x,hx,hxd,hxv⟩ | ⟨h1,h2,h3⟩
     ·exact .inl h1
     ·exact .inr (.inl ⟨x,by simp [hx],hxd,by rw [hcvx x hx];exact hxv⟩)
     refine .inr (.inr ⟨h1,h2,fun x hx=>?_⟩);rcases List.mem_append.1 hx with hx | hx
     ·exact h3 x hx
     simp only [List.mem_singleton] at hx;subst hx;simp only [<- hpl,hd];simp
    | some d=>
     simp only [hd] at hs;by_cases he:d=s
     ·subst he;rw [Wy] at hs;exact .inr (.inl ⟨(qi,qo),by simp,by rw [<- hpl];exact hd,by rw [Wy];exact hs⟩)
     rw [XR v τ he] at hs;rcases a12 s u hs with h1 | ⟨x,hx,hxd,hxv⟩ | ⟨h1,h2,h3⟩
     ·exact .inl h1
     ·exact .inr (.inl ⟨x,by simp [hx],hxd,by rw [hcvx x hx];exact hxv⟩)
     refine .inr (.inr ⟨h1,h2,fun x hx=>?_⟩);rcases List.mem_append.1 hx with hx | hx
     ·exact h3 x hx
     simp only [List.mem_singleton] at hx;subst hx;simp only [<- hpl,hd];intro hc;injection hc with hc;exact he hc
   have hwantC:∀ c,YhM l[qi] VE cv=some c->Region.wanted l[qi] (yielded l.toArray a.tmps)=c:=by
    intro c hw1;unfold Region.wanted;unfold YhM at hw1;cases hg:l[qi].guard with
    | none=>simp only [hg] at hw1;injection hw1
    | some jb=>
     obtain ⟨j,b⟩:=jb;simp only;simp only [hg] at hw1;cases hwt:waits l[qi] j with
     | false=>simp [hwt] at hw1
     | true=>
      simp only [hwt] at hw1;cases hcj:lk cv j with
      | some u=>
       simp only [hcj] at hw1;obtain ⟨x,hx,hxj⟩:=a9 j u hcj;obtain ⟨_,u',hu',hdu⟩:=a7 x hx;rw [hxj,hcj] at hu';injection hu' with hu'
       subst hu';have hxl:=(hch x (e0.mem_iff.1 (by simp [hx]))).2;obtain ⟨h1,h2⟩:=hdone j hwt;rw [hxj,List.getElem?_eq_getElem h2] at hxl;injection hxl with hxl
       have hy:yielded l.toArray a.tmps j=asB u:=by
        unfold yielded;rw [hops j,List.getElem?_eq_getElem h2];cases hd:l[j].dst with
        | none=>
         have h7:=List.all_eq_true.1 hG l[qi] (List.getElem_mem hil);simp [hg,List.getElem?_eq_getElem h2,hd] at h7
        | some d=>
         have:=hdu d (by rw [<- hxl];exact hd);simp only [Option.bind_some,hd,this];cases u<;>rfl
       rw [hy];exact Option.some.inj hw1
      | none=>
       simp only [hcj] at hw1;split at hw1
       ·rename_i c hc;rw [hyield j b hg hwt c hc];exact Option.some.inj hw1
       cases hw1
   rcases hstep with ⟨hw1,hdo⟩ | ⟨hw1,hno⟩
   ·rw [if_pos (hwantC true hw1)];refine .inl (Yay.wp ((hdo a.eval w hreads a1).mono fun v w' hh=>?_));obtain ⟨fz',H',hinv,hst,hrest⟩:=hh;exact ih _ _ _ hcount (nextA v fz' H' w' hinv (hst.imp (fun h=>h) .inl) hrest)
   rw [if_neg (by rw [hwantC false hw1];simp)];exact ih _ _ _ hcount (nextA undef fzs Hs w a1 (.inr (.inr ⟨rfl,rfl⟩)) hno)
 refine wp_region_any hm (main _ _ _ _ ?_ ⟨[],ch,false,[],τF,fz,H,by simp,hcok,hCh,hi.drew,hs.size,hs.defers,by simp,⟨fun s v hv _=>hs.slot s v hv,fun k o hk hls=>?_⟩,fun k o d v hk hd _ hls=>?_,by simp,fun p hp=>⟨?_,rfl⟩,(fun j v hj=>by cases hj),.inl ⟨Le.refl _,fun p hp=>hHq.subset hp⟩,(fun h=>by cases h),fun s v hsv=>?_⟩)
 ·have:=List.countP_le_length (p:=fun i=>!(Array.replicate l.toArray.size false).getD i true) (l:=List.range l.length);simpa using this
 ·have:k<l.length:=(Zg hk).1;simp [Array.getD,this] at hls
 ·have:k<l.length:=(Zg hk).1;simp [Array.getD,this] at hls
 ·have:p.1<l.length:=(Zg (hch p hp).2).1;simp [Array.getD,this]
 rcases hτ s v hsv with ⟨k,o,hk,hd,hl⟩ | ⟨hl,hn⟩
 ·refine .inl ⟨k,o,hk,hd,fun p hp he=>?_,hl⟩;have:=hVEch k (.inr ⟨p,hp,he⟩);rw [hl] at this;cases this
 exact .inr (.inr ⟨hl,fun k o hk hqk=>hn k o hk hqk,by simp⟩)
def calm (l:List Oper):Bool:=l.all fun o=>match o.op with
 | .alloc _ | .box _ _ | .buildSlice _ _ _ | .store _ _ _ | .mapUpdate _ _ _ _ | .makeMap _ _ | .makeSlice _ _ _=>false
 | .call {callee:=.builtin .append,..}=>false
 | _=>true
theorem QL.toPK {ops':List Oper} {K:Env->Env->List (Nat × Oper)->Prop} (hK:∀ ve τ,Q .normal τ fz H->K ve τ []):∀ (l:List Oper) (i:Nat) (ve τ:Env),QL P cx ops' σ fz H Q i l ve τ->PK P cx ops' [] σ fz H K i l ve τ []
 | [],_,_,_,h=>hK _ _ h
 | _::l,i,ve,τ,h=>by
  obtain ⟨v,hq,hr⟩:=h;exact .inl ⟨v,hq,QL.toPK hK l (i+1) _ _ hr⟩
theorem Wp.draw {id:Nat} {l:List Oper} (_:calm l=true) (hm:P.follows .mixedOrders=true) (h:QL P cx l σ fz H Q 0 l [] σ) (hB:YdE n l 0 []=true:=by kernel_rfl) (hG:YeZ l=true:=by kernel_rfl):Wp P cx n (.region id l.toArray true) σ fz H Q:=
 YjO [] hm hB hG (List.Sublist.refl H) (QL.toPK (fun _ _ h=>⟨rfl,h⟩) l 0 [] σ h)
def allq (ops:List Oper) (ch:List (Nat × Oper)) (o:Oper):Bool:=(List.range ops.length).all fun i=>inCh ch i || waits o i
def Ch (P:Program) (cx:Cx) (ops:List Oper) (σ ve:Env) (fz0:FZ) (Hq:HP) (Q:QQ) (all:List (Nat × Oper)):List (Nat × Oper)->Bool->Env->Env->FZ->HP->Prop
 | [],_,_,τ,fz,H=>Q .normal τ fz H
 | (i,o)::rest,done,cv,τ,fz,H=>
  (Ydq o ve=some true/\Does P cx o (rdc ops o σ ve cv) fz H fun v fz' H'=>
   ((done || allq ops all o)=true\/Keep fz0 Hq fz' H')/\
   Ch P cx ops σ ve fz0 Hq Q all rest (done || allq ops all o) ((i,v)::cv) (match o.dst with | some d=>(d,v)::τ | none=>τ) fz' H')\/
  (Ydq o ve=some false/\Ch P cx ops σ ve fz0 Hq Q all rest (done || allq ops all o) ((i,undef)::cv) (match o.dst with | some d=>(d,undef)::τ | none=>τ) fz H)
def QK (P:Program) (cx:Cx) (ops:List Oper) (σ:Env) (fz:FZ) (Hq:HP) (K:Env->Env->List (Nat × Oper)->Prop):Nat->List Oper->Env->Env->List (Nat × Oper)->Prop
 | _,[],ve,τ,ch=>K ve τ ch
 | i,o::rest,ve,τ,ch=>
  (∃ v,QOk P cx ops o σ ve fz Hq v/\QK P cx ops σ fz Hq K (i+1) rest ((i,v)::ve) (match o.dst with | some d=>(d,v)::τ | none=>τ) ch)\/
  QK P cx ops σ fz Hq K (i+1) rest ve τ (ch++ [(i,o)])
def Ybw:List (Nat × Oper)->Bool
 | []=>true
 | [(_,_)]=>true
 | (i,_)::(j,p)::r=>waits p i && Nat.blt i j && Ybw ((j,p)::r)
theorem YdQ {x:Nat × Oper} {r:List (Nat × Oper)} (h:Ybw (x::r)=true):Ybw r=true:=by
 cases r with
 | nil=>rfl
 | cons y r=>
  obtain ⟨i,o⟩:=x;obtain ⟨j,p⟩:=y;simp only [Ybw,Bool.and_eq_true] at h;exact h.2
theorem YfS {i:Nat} {o:Oper}:∀ {r:List (Nat × Oper)},Ybw ((i,o)::r)=true->∀ p∈r,i<p.1
 | [],_,p,hp=>by cases hp
 | (j,q)::r,h,p,hp=>by
  simp only [Ybw,Bool.and_eq_true,Nat.blt_eq] at h;cases hp with
  | head=>exact h.1.2
  | tail _ hp=>exact Nat.lt_trans h.1.2 (YfS h.2 p hp)
theorem Ye7 {i:Nat} {o:Oper}:∀ {r:List (Nat × Oper)},Ybw ((i,o)::r)=true->∀ p∈r,∃ q∈((i,o)::r),waits p.2 q.1=true/\q.1<p.1
 | [],_,p,hp=>by cases hp
 | (j,q)::r,h,p,hp=>by
  have h':=h;simp only [Ybw,Bool.and_eq_true,Nat.blt_eq] at h;cases hp with
  | head=>exact ⟨(i,o),by simp,h.1.1,h.1.2⟩
  | tail _ hp=>
   obtain ⟨x,hx,hw⟩:=Ye7 h.2 p hp;exact ⟨x,by rcases List.mem_cons.1 hx with h1 | h1<;>simp [h1],hw⟩
theorem YhB:∀ {r:List (Nat × Oper)},Ybw r=true->Yce r=true
 | [],_=>rfl
 | (i,o)::r,h=>by
  simp only [Yce,Bool.and_eq_true];exact ⟨List.all_eq_true.2 fun q hq=>Ym9 (by have:=YfS h q hq;show q.1≠i;omega),YhB (YdQ h)⟩
theorem deps_mem (h:waits o i=true):inPu (Yhx o) i=true:=by
 unfold waits at h;obtain ⟨e,he,h1⟩:=List.any_eq_true.1 h;simp only [Bool.and_eq_true] at h1;unfold inPu Yhx;exact List.any_eq_true.2 ⟨e.on,List.mem_map.2 ⟨e,List.mem_filter.2 ⟨he,h1.2⟩,rfl⟩,h1.1⟩
theorem Ylh {ops:List Oper} {i:Nat}:∀ (n:Nat) (L:List Nat),inPu L i=true->inPu (Yhz ops n L) i=true
 | 0,_,h=>h
 | n+1,L,h=>by
  rw [Yhz];refine Ylh n _ ?_;split
  ·split
   ·rw [Yha,h,Bool.or_true]
   exact h
  exact h
theorem allq_p {ops:List Oper} {ch:List (Nat × Oper)} (h:allq ops ch o=true):allp ops ch [] o=true:=by
 unfold allq at h;unfold allp;refine List.all_eq_true.2 fun i hi=>?_
 have:=List.all_eq_true.1 h i hi;cases hc:inCh ch i with
 | true=>rfl
 | false=>
  rw [hc,Bool.false_or] at this;rw [Ylh _ _ (deps_mem this),Bool.or_true]
theorem Ymy {ops:List Oper} {ve:Env} {fz0:FZ} {Hq:HP} {all:List (Nat × Oper)}:∀ {rest:List (Nat × Oper)} {done dp:Bool} {cv τ:Env} {fz:FZ} {H:HP},(done=true->dp=true)->Ybw rest=true->(∀ j,(∃ p∈all,p.1=j)->lk ve j=none)->(∀ p∈rest,p∈all)->(∀ j v,lk cv j=some v->∃ p∈all,p.1=j)->Ch P cx ops σ ve fz0 Hq Q all rest done cv τ fz H->Po P cx ops [] σ ve fz0 Hq Q all rest.length rest dp cv τ fz H
 | [],_,_,_,_,_,_,_,_,_,_,_,h=>h
 | (i,o)::rest,done,dp,cv,τ,fz,H,hd,hc,hv,hin,hcv,h=>by
  intro p hp hf;have hpe:p=(i,o):=by
   rcases List.mem_cons.1 hp with h1 | h1
   ·exact h1
   obtain ⟨q,hq,hw,_⟩:=Ye7 hc p h1;have:=List.all_eq_true.1 hf q hq;rw [hw] at this;cases this
  subst hpe;have hfil:((i,o)::rest).filter (fun q=>!Nat.beq q.1 i)=rest:=by
   rw [List.filter_cons,if_neg (by simp)];exact List.filter_eq_self.2 fun q hq=>Ym9 (by have:=YfS hc q hq;omega)
  have hw:∀ b,Ydq o ve=some b->YhM o ve cv=some b:=by
   intro b hb;unfold Ydq at hb;unfold YhM;split
   ·rename_i hg;simpa only [hg] using hb
   rename_i j b' hg;simp only [hg] at hb;cases hwt:waits o j with
   | false=>simp [hwt] at hb
   | true=>
    simp only [hwt] at hb ⊢;cases hl:lk ve j with
    | none=>simp [hl] at hb
    | some v=>
     have:lk cv j=none:=by
      cases hx:lk cv j with
      | none=>rfl
      | some u=>rw [hv j (hcv j u hx)] at hl;cases hl
     simp only [this];simpa only [hl] using hb
  have hdn:(done || allq ops all o)=true->(dp || allp ops all [] o)=true:=by
   intro h1;rcases Bool.or_eq_true _ _ ▸ h1 with h2 | h2
   ·rw [hd h2];rfl
   rw [allq_p h2,Bool.or_true]
  have hcv':∀ u:Value,∀ j v,lk ((i,u)::cv) j=some v->∃ p∈all,p.1=j:=by
   intro u j v hj;by_cases he:i=j
   ·subst he;exact ⟨_,hin _ (.head _),rfl⟩
   rw [XR u cv he] at hj;exact hcv j v hj
  rw [hfil];rcases h with ⟨h1,h2⟩ | ⟨h1,h2⟩
  ·refine .inl ⟨hw _ h1,fun ρ w hr hi=>(h2 ρ w hr hi).mono ?_⟩;rintro v w' ⟨fz',H',a1,a2,a3⟩;exact ⟨fz',H',a1,a2.imp hdn id,Ymy hdn (YdQ hc) hv (fun p hp=>hin p (.tail _ hp)) (hcv' v) a3⟩
  exact .inr ⟨hw _ h1,Ymy hdn (YdQ hc) hv (fun p hp=>hin p (.tail _ hp)) (hcv' _) h2⟩
theorem QK.toPK {ops':List Oper} {Hq:HP} {K K':Env->Env->List (Nat × Oper)->Prop} (hK:∀ ve τ ch,(∀ j,(∃ p∈ch,p.1=j)->lk ve j=none)->K ve τ ch->K' ve τ ch):∀ (l:List Oper) (i:Nat) (ve τ:Env) (ch:List (Nat × Oper)),(∀ j,i<=j->lk ve j=none)->(∀ p∈ch,p.1<i/\lk ve p.1=none)->QK P cx ops' σ fz Hq K i l ve τ ch->PK P cx ops' [] σ fz Hq K' i l ve τ ch
 | [],_,_,_,_,_,hch,h=>hK _ _ _ (fun j ⟨p,hp,e⟩=>e ▸ (hch p hp).2) h
 | o::l,i,ve,τ,ch,hve,hch,h=>by
  rcases h with ⟨v,hq,hr⟩ | hr
  ·exact .inl ⟨v,hq,QK.toPK hK l (i+1) _ _ ch (fun j hj=>by rw [XR v ve Zi];exact hve j Zi) (fun p hp=>⟨by have:=(hch p hp).1;omega,by rw [XR v ve (by have:=(hch p hp).1;omega)];exact (hch p hp).2⟩) hr⟩
  refine .inr (QK.toPK hK l (i+1) _ _ (ch++ [(i,o)]) (fun j hj=>hve j Zi) (fun p hp=>?_) hr);rcases List.mem_append.1 hp with hp | hp
  ·exact ⟨by have:=(hch p hp).1;omega,(hch p hp).2⟩
  rw [List.mem_singleton] at hp;subst hp;exact ⟨by show i<i+1;omega,hve i (Zs _)⟩
theorem YnI {id:Nat} {l:List Oper} {Hq:HP} (hm:P.follows .mixedOrders=true) (hB:YdE n l 0 []=true) (hG:YeZ l=true) (hHq:Hq.Sublist H)
 (h:QK P cx l σ fz Hq (fun ve τ ch=>Ybw ch=true/\Ch P cx l σ ve fz Hq Q ch ch false [] τ fz H) 0 l [] σ []):Wp P cx n (.region id l.toArray true) σ fz H Q:=
 YjO [] hm hB hG hHq (QK.toPK (fun ve τ ch hv ⟨h1,h2⟩=>⟨YhB h1,Ymy (fun h=>h) h1 hv (fun _ h=>h) (fun j v hj=>by cases hj) h2⟩) l 0 [] σ [] (fun _ _=>rfl) (by simp) h)
theorem WP (pu:List Nat) (Hq:HP) {id:Nat} {l:List Oper} (h:PK P cx l pu σ fz Hq (fun ve τ ch=>Yce ch=true/\Po P cx l pu σ ve fz Hq Q ch ch.length ch false [] τ fz H) 0 l [] σ []) (hm:P.follows .mixedOrders=true:=by exact T.mixed) (hB:YdE n l 0 []=true:=by kernel_rfl) (hG:YeZ l=true:=by kernel_rfl) (hHq:Hq.Sublist H:=by repeat (first | exact List.Sublist.refl _ | exact List.nil_sublist _ | refine List.Sublist.cons_cons _ ?_ | refine List.Sublist.cons _ ?_)):Wp P cx n (.region id l.toArray true) σ fz H Q:=YjO pu hm hB hG hHq h
theorem XF (Hq:HP) {id:Nat} {l:List Oper} (h:QK P cx l σ fz Hq (fun ve τ ch=>Ybw ch=true/\Ch P cx l σ ve fz Hq Q ch ch false [] τ fz H) 0 l [] σ []) (hm:P.follows .mixedOrders=true:=by exact T.mixed) (hB:YdE n l 0 []=true:=by kernel_rfl) (hG:YeZ l=true:=by kernel_rfl) (hHq:Hq.Sublist H:=by repeat (first | exact List.Sublist.refl _ | exact List.nil_sublist _ | refine List.Sublist.cons_cons _ ?_ | refine List.Sublist.cons _ ?_)):Wp P cx n (.region id l.toArray true) σ fz H Q:=YnI hm hB hG hHq h
section
variable {Hq:HP} {K:Env->Env->List (Nat × Oper)->Prop} {σ' τ ve cv:Env} {l:List Oper} {ch all:List (Nat × Oper)} {i d:Nat} {op:Op} {ty:TypeId} {pos:String} {af:Array Edge} {dn:Bool} {fz0:FZ}
theorem Ymx (h:DoesQ P cx ⟨some d,op,ty,pos,af,none⟩ (rdq l ⟨some d,op,ty,pos,af,none⟩ σ' ve) fz Hq fun v=>QK P cx l σ' fz Hq K (i+1) rest ((i,v)::ve) ((d,v)::τ) ch):
 QK P cx l σ' fz Hq K i (⟨some d,op,ty,pos,af,none⟩::rest) ve τ ch:=by
 obtain ⟨v,h1,h2⟩:=h;exact .inl ⟨v,.inl ⟨rfl,h2⟩,h1⟩
theorem Yk (h:QK P cx l σ' fz Hq K (i+1) rest ve τ (ch++ [(i,o)])):QK P cx l σ' fz Hq K i (o::rest) ve τ ch:=.inr h
theorem YjR (h:K ve τ ch):QK P cx l σ' fz Hq K i [] ve τ ch:=h
theorem QK.dz {K1:Env->Env->List (Nat × Oper)->Bool} {K2:Env->Env->List (Nat × Oper)->Prop} (h:K2 ve τ ch) (h1:K1 ve τ ch=true:=by kernel_rfl):QK P cx l σ' fz Hq (fun ve τ ch=>K1 ve τ ch=true/\K2 ve τ ch) i [] ve τ ch:=YjR ⟨h1,h⟩
theorem Ch.done (h:Q .normal τ fz H):Ch P cx l σ' ve fz0 Hq Q all [] dn cv τ fz H:=h
theorem Yj (h:Does P cx ⟨some d,op,ty,pos,af,none⟩ (rdc l ⟨some d,op,ty,pos,af,none⟩ σ' ve cv) fz H fun v fz' H'=>Keep fz0 Hq fz' H'/\Ch P cx l σ' ve fz0 Hq Q all ch (dn || allq l all ⟨some d,op,ty,pos,af,none⟩) ((i,v)::cv) ((d,v)::τ) fz' H'):
 Ch P cx l σ' ve fz0 Hq Q all ((i,⟨some d,op,ty,pos,af,none⟩)::ch) dn cv τ fz H:=by
 unfold Ch;refine .inl ⟨rfl,?_⟩;intro ρ w hr hi;exact (h ρ w hr hi).mono fun v w' ⟨fz',H',h1,h2,h3⟩=>⟨fz',H',h1,.inr h2,h3⟩
theorem Ch.hard (hd:(dn || allq l all ⟨some d,op,ty,pos,af,none⟩)=true) (h:Does P cx ⟨some d,op,ty,pos,af,none⟩ (rdc l ⟨some d,op,ty,pos,af,none⟩ σ' ve cv) fz H fun v fz' H'=>Ch P cx l σ' ve fz0 Hq Q all ch true ((i,v)::cv) ((d,v)::τ) fz' H'):
 Ch P cx l σ' ve fz0 Hq Q all ((i,⟨some d,op,ty,pos,af,none⟩)::ch) dn cv τ fz H:=by
 unfold Ch;refine .inl ⟨rfl,?_⟩;intro ρ w hr hi;exact (h ρ w hr hi).mono fun v w' ⟨fz',H',h1,h3⟩=>⟨fz',H',h1,.inl hd,by rw [hd];exact h3⟩
theorem Ch.hard0 (h:Does P cx ⟨none,op,ty,pos,af,none⟩ (rdc l ⟨none,op,ty,pos,af,none⟩ σ' ve cv) fz H fun v fz' H'=>Ch P cx l σ' ve fz0 Hq Q all ch true ((i,v)::cv) τ fz' H') (hd:(dn || allq l all ⟨none,op,ty,pos,af,none⟩)=true:=by kernel_rfl):
 Ch P cx l σ' ve fz0 Hq Q all ((i,⟨none,op,ty,pos,af,none⟩)::ch) dn cv τ fz H:=by
 unfold Ch;refine .inl ⟨rfl,?_⟩;intro ρ w hr hi;exact (h ρ w hr hi).mono fun v w' ⟨fz',H',h1,h3⟩=>⟨fz',H',h1,.inl hd,by rw [hd];exact h3⟩
theorem Ch.q (h:DoesQ P cx ⟨some d,op,ty,pos,af,none⟩ (rdc l ⟨some d,op,ty,pos,af,none⟩ σ' ve cv) fz H fun v=>Keep fz0 Hq fz H/\Ch P cx l σ' ve fz0 Hq Q all ch (dn || allq l all ⟨some d,op,ty,pos,af,none⟩) ((i,v)::cv) ((d,v)::τ) fz H):
 Ch P cx l σ' ve fz0 Hq Q all ((i,⟨some d,op,ty,pos,af,none⟩)::ch) dn cv τ fz H:=Yj h.does
end
theorem QL.done {σ':Env} {τ ve:Env} {l:List Oper} (h:Q .normal τ fz H):QL P cx l σ' fz H Q i [] ve τ:=h
theorem Ymw {σ' τ ve:Env} {l:List Oper} {d:Nat} {op:Op} {ty:TypeId} {pos:String} {af:Array Edge}
 (h:DoesQ P cx ⟨some d,op,ty,pos,af,none⟩ (rdq l ⟨some d,op,ty,pos,af,none⟩ σ' ve) fz H fun v=>QL P cx l σ' fz H Q (i+1) rest ((i,v)::ve) ((d,v)::τ)):
 QL P cx l σ' fz H Q i (⟨some d,op,ty,pos,af,none⟩::rest) ve τ:=by
 obtain ⟨v,h1,h2⟩:=h;exact ⟨v,.inl ⟨rfl,h2⟩,h1⟩
theorem QL.yes {σ' τ ve:Env} {l:List Oper} {d:Nat} {op:Op} {ty:TypeId} {pos:String} {af:Array Edge} {g:Nat × Bool} (hw:Ydq ⟨some d,op,ty,pos,af,some g⟩ ve=some true)
 (h:DoesQ P cx ⟨some d,op,ty,pos,af,some g⟩ (rdq l ⟨some d,op,ty,pos,af,some g⟩ σ' ve) fz H fun v=>QL P cx l σ' fz H Q (i+1) rest ((i,v)::ve) ((d,v)::τ)):
 QL P cx l σ' fz H Q i (⟨some d,op,ty,pos,af,some g⟩::rest) ve τ:=by
 obtain ⟨v,h1,h2⟩:=h;exact ⟨v,.inl ⟨hw,h2⟩,h1⟩
theorem QL.no {σ' τ ve:Env} {l:List Oper} {d:Nat} {op:Op} {ty:TypeId} {pos:String} {af:Array Edge} {g:Nat × Bool} (hw:Ydq ⟨some d,op,ty,pos,af,some g⟩ ve=some false)
 (h:QL P cx l σ' fz H Q (i+1) rest ((i,undef)::ve) ((d,undef)::τ)):
 QL P cx l σ' fz H Q i (⟨some d,op,ty,pos,af,some g⟩::rest) ve τ:=⟨undef,.inr ⟨hw,rfl⟩,h⟩
theorem YcJ (h:Q .normal σ fz H):Seq P cx n ops [] σ fz H Q:=Seq.nil h
section
variable {y:Code} {id i m:Nat} {I:Nat->Env->FZ->HP->Prop}
theorem Yds (h:Wp P cx n y σ fz H Q):andThen P cx n y Q .normal σ fz H:=h
theorem YoL (h:Q (.exit i) σ fz H):andThen P cx n y Q (.exit i) σ fz H:=h
theorem YoM (h:Q .ret σ fz H):andThen P cx n y Q .ret σ fz H:=h
theorem blkN (h:Q .normal σ fz H):blkQ id Q .normal σ fz H:=h
theorem blkR (h:Q .ret σ fz H):blkQ id Q .ret σ fz H:=h
theorem blkX (h:Q .normal σ fz H) (hi:Nat.beq i id=true:=by exact rfl):blkQ id Q (.exit i) σ fz H:=by simp only [blkQ,hi];exact h
theorem blkY (hi:Nat.beq i id=false) (h:Q (.exit i) σ fz H):blkQ id Q (.exit i) σ fz H:=by simp only [blkQ,hi];exact h
theorem YpK (h:Q (.exit i) σ fz H):loopQ I m Q (.exit i) σ fz H:=h
theorem YpL (h:Q .ret σ fz H):loopQ I m Q .ret σ fz H:=h
theorem Wj {m':Nat} {σ':Env} {H':HP} (hI:I m' σ' fz H') (hlt:m'<m) (hs:Sub σ' σ) (hh:H'.Sublist H):loopQ I m Q .normal σ fz H:=⟨m',σ',H',hlt,hs,hh,hI⟩
theorem Ynd {m':Nat} {σ':Env} {H':HP} (_:m'=m') (_:σ'=σ') (_:H'=H') (hI:I m' σ' fz H') (hlt:m'<m) (hs:Sub σ' σ) (hh:H'.Sublist H):loopQ I m Q .normal σ fz H:=Wj hI hlt hs hh
end
end
structure Ty where
 desc:TypeDesc
 size:Nat
 bytes:Nat
 zero:Value
def fld (t o:Nat):Field:={name:= "",type:=t,offset:=o,embedded:=false,tag:= "",pkgPath:= "",byteOffset:=0}
def strip (f:Field):Field:=fld f.type f.offset
def blank:TypeDesc->TypeDesc
 | .struct fs=>.struct (fs.map strip)
 | .interface _=>.interface #[]
 | .func _ _ _=>.func #[] #[] false
 | d=>d
structure TyOk (P:Program) (t:TypeId) (x:Ty):Prop where
 und:∃ d,P.underlying t=some d/\blank d=x.desc
 info:∃ i,P.info? t=some i/\i.size=x.size/\i.bytes=x.bytes/\i.zero=some x.zero
theorem TyOk.mk' {P:Program} {x:Ty} (h:(P.underlying t).map blank=some x.desc) (h2:(P.info? t).map (fun i=>(i.size,i.bytes,i.zero))=some (x.size,x.bytes,some x.zero)):TyOk P t x:=by
 refine ⟨?_,?_⟩
 ·cases hu:P.underlying t with
  | none=>simp [hu] at h
  | some d=>simp [hu] at h;exact ⟨d,rfl,h⟩
 cases hi:P.info? t with
 | none=>simp [hi] at h2
 | some i=>simp [hi] at h2;exact ⟨i,rfl,h2.1,h2.2.1,h2.2.2⟩
def lkT:List (Nat × Ty)->Nat->Option Ty
 | [],_=>none
 | (j,v)::r,i=>match Nat.beq j i with
  | true=>some v
  | false=>lkT r i
def AllTy (P:Program):List (Nat × Ty)->Prop
 | []=>True
 | (t,x)::r=>TyOk P t x/\AllTy P r
structure Tab (P:Program) where
 l:List (Nat × Ty)
 ok:AllTy P l
 mixed:P.follows .mixedOrders=true
def Tab.inf {P:Program} (T:Tab P) (t:Nat):Option Ty:=lkT T.l t
theorem lkT_ok {P:Program}:∀ (l:List (Nat × Ty)),AllTy P l->∀ t x,lkT l t=some x->TyOk P t x
 | [],_,_,_,h=>by cases h
 | (j,v)::r,hl,t,x,h=>by
  unfold lkT at h;cases hb:Nat.beq j t with
  | true=>simp only [hb] at h;injection h with h;subst h;rw [<- Nat.eq_of_beq_eq_true hb];exact hl.1
  | false=>simp only [hb] at h;exact lkT_ok r hl.2 t x h
theorem Tab.ok_ {P:Program} (T:Tab P) {t:Nat} {x:Ty} (h:T.inf t=some x):TyOk P t x:=lkT_ok T.l T.ok t x h
section
variable {P:Program} {cx:Cx} {r:Operand->Option Value} {fz:FZ} {H:HP} {V:Value->Prop} {dst:Option Nat} {ty:TypeId} {pos:String} {af:Array Edge} {gd:Option (Nat × Bool)}
theorem run_sizeOf (T:Tab P) {t:Nat} {x:Ty} (h:T.inf t=some x) (w:World):(sizeOf t).run P w=.ok x.size w:=by
 obtain ⟨i,hi,h1,_,_⟩:=(T.ok_ h).info;simp [sizeOf,typeInfo,hi,h1]
def plainD:TypeDesc->Bool
 | .struct _=>false
 | .interface _=>false
 | .func _ _ _=>false
 | _=>true
theorem und_plain (T:Tab P) {t:Nat} {x:Ty} (h:T.inf t=some x) {d:TypeDesc} (hd:x.desc=d) (hp:plainD d=true):P.underlying t=some d:=by
 obtain ⟨d',h1,h2⟩:=(T.ok_ h).und;rw [h1];rw [hd] at h2;cases d'<;>simp only [blank] at h2<;>subst h2<;>first | rfl | (simp [plainD] at hp)
theorem Yfg (T:Tab P) {t:Nat} {x:Ty} (h:T.inf t=some x) {fs:Array Field} (hd:x.desc=.struct fs):∃ fs',P.underlying t=some (.struct fs')/\fs'.map strip=fs:=by
 obtain ⟨d',h1,h2⟩:=(T.ok_ h).und;rw [hd] at h2;cases d'<;>simp only [blank] at h2<;>simp_all
theorem YbD (T:Tab P) {t:Nat} {x:Ty} (h:T.inf t=some x) {ms:Array (String × TypeId)} (hd:x.desc=.interface ms):P.underlying t=some (.interface (P.methodsAt t)):=by
 obtain ⟨d',h1,h2⟩:=(T.ok_ h).und;rw [hd] at h2;cases d'<;>simp only [blank] at h2<;>simp_all [Program.methodsAt]
def W5:TypeDesc->Bool
 | .struct _=>true
 | .array _ _=>true
 | _=>false
def Yd3:TypeDesc->Bool
 | .interface _=>true
 | _=>false
theorem run_isAgg (T:Tab P) {t:Nat} {x:Ty} (h:T.inf t=some x) (w:World):(isAgg t).run P w=.ok (W5 x.desc) w:=by
 obtain ⟨d',h1,h2⟩:=(T.ok_ h).und;simp only [isAgg,Sem.run_bind,run_underlying h1,Result.andThen_ok];rw [<- h2];cases d'<;>simp [blank,W5]
theorem Ylv (T:Tab P) {t:Nat} {x:Ty} (h:T.inf t=some x):∃ d,P.underlying t=some d/\Yd3 d=Yd3 x.desc:=by
 obtain ⟨d',h1,h2⟩:=(T.ok_ h).und;refine ⟨d',h1,?_⟩;rw [<- h2];cases d'<;>rfl
theorem YcR (T:Tab P) {t:Nat} {x:Ty} (h:T.inf t=some x) (w:World):(zeroValue t).run P w=.ok x.zero w:=by
 obtain ⟨i,hi,_,_,h3⟩:=(T.ok_ h).info;simp [zeroValue,typeInfo,hi,h3]
variable {v:Value}
theorem YC {op:Op} (h:∀ ρ w,Reads r ρ->(execOp ρ ⟨dst,op,ty,pos,af,gd⟩).run P w=.ok (.value v) w) (hV:V v):DoesQ P cx ⟨dst,op,ty,pos,af,gd⟩ r fz H V:=
 ⟨v,hV,fun ρ w hr _=>by rw [h ρ w hr];exact ⟨rfl,Fr.refl _ _⟩⟩
variable {x:Operand}
theorem XC (h:V v) (hx:r x=some v:=by exact rfl):DoesQ P cx ⟨dst,.move x,ty,pos,af,gd⟩ r fz H V:=
 YC (fun ρ w hr=>by simp [execOp,hr _ _ hx]) h
theorem YV (h:V v) (hx:r x=some v:=by exact rfl):DoesQ P cx ⟨dst,.assign x,ty,pos,af,gd⟩ r fz H V:=
 YC (fun ρ w hr=>by simp [execOp,hr _ _ hx]) h
theorem YbV {c x y:Operand} {v:Value} (h:V v) (hc:r c=some (.bool true):=by exact rfl) (hx:r x=some v:=by exact rfl):DoesQ P cx ⟨dst,.pick c x y,ty,pos,af,gd⟩ r fz H V:=
 YC (fun ρ w hr=>by simp [execOp,hr _ _ hc,hr _ _ hx,asBool]) h
variable {y:Operand}
theorem Ydw {c:Operand} (hc:r c=some (.bool false)) (hy:r y=some v) (h:V v):DoesQ P cx ⟨dst,.pick c x y,ty,pos,af,gd⟩ r fz H V:=
 YC (fun ρ w hr=>by simp [execOp,hr _ _ hc,hr _ _ hy,asBool]) h
section bin
variable {t t':TypeId} {x y:Operand} {k:IntKind} {a b:Int}
theorem q_lss (hx:r x=some (.int k a)) (hy:r y=some (.int k b)) (h:V (.bool (decide (a<b)))):DoesQ P cx ⟨dst,.binOp .lss t x y t',ty,pos,af,gd⟩ r fz H V:=
 YC (fun ρ w hr=>by simp [execOp,hr _ _ hx,hr _ _ hy,go_sem]) h
theorem q_leq (hx:r x=some (.int k a)) (hy:r y=some (.int k b)) (h:V (.bool (decide (a<=b)))):DoesQ P cx ⟨dst,.binOp .leq t x y t',ty,pos,af,gd⟩ r fz H V:=
 YC (fun ρ w hr=>by simp [execOp,hr _ _ hx,hr _ _ hy,go_sem]) h
theorem q_gtr (hx:r x=some (.int k a)) (hy:r y=some (.int k b)) (h:V (.bool (decide (b<a)))):DoesQ P cx ⟨dst,.binOp .gtr t x y t',ty,pos,af,gd⟩ r fz H V:=
 YC (fun ρ w hr=>by simp [execOp,hr _ _ hx,hr _ _ hy,go_sem]) h
theorem q_geq (hx:r x=some (.int k a)) (hy:r y=some (.int k b)) (h:V (.bool (decide (b<=a)))):DoesQ P cx ⟨dst,.binOp .geq t x y t',ty,pos,af,gd⟩ r fz H V:=
 YC (fun ρ w hr=>by simp [execOp,hr _ _ hx,hr _ _ hy,go_sem]) h
theorem Ykp (h:V (.bool (decide (a=b)))) (hx:r x=some (.int k a):=by exact rfl) (hy:r y=some (.int k b):=by exact rfl):DoesQ P cx ⟨dst,.binOp .eql t x y t',ty,pos,af,gd⟩ r fz H V:=
 YC (fun ρ w hr=>by
  have:(a==b)=decide (a=b):=by rw [Bool.eq_iff_iff];simp
  simp [execOp,hr _ _ hx,hr _ _ hy,go_sem,this]) h
theorem q_neq (hx:r x=some (.int k a)) (hy:r y=some (.int k b)) (h:V (.bool (decide (a≠b)))):DoesQ P cx ⟨dst,.binOp .neq t x y t',ty,pos,af,gd⟩ r fz H V:=
 YC (fun ρ w hr=>by
  have:(a !=b)=!decide (a=b):=by rw [Bool.eq_iff_iff];simp
  simp [execOp,hr _ _ hx,hr _ _ hy,go_sem,this]) h
theorem W4 {c:Int} (hx:r x=some (.int k a)) (hy:r y=some (.int k b)) (hw:k.wrap (a+b)=c) (h:V (.int k c)):DoesQ P cx ⟨dst,.binOp .add t x y t',ty,pos,af,gd⟩ r fz H V:=
 YC (fun ρ w hr=>by simp [execOp,hr _ _ hx,hr _ _ hy,eqGuard_add,binOp_add,Op.intArith,hw]) h
theorem YlH {c:Int} (hx:r x=some (.int k a)) (hy:r y=some (.int k b)) (hw:k.wrap (a - b)=c) (h:V (.int k c)):DoesQ P cx ⟨dst,.binOp .sub t x y t',ty,pos,af,gd⟩ r fz H V:=
 YC (fun ρ w hr=>by simp [execOp,hr _ _ hx,hr _ _ hy,eqGuard_sub,binOp_sub,Op.intArith,hw]) h
theorem Ype {c:Int} (hx:r x=some (.int k a)) (hy:r y=some (.int k b)) (hw:k.wrap (a*b)=c) (h:V (.int k c)):DoesQ P cx ⟨dst,.binOp .mul t x y t',ty,pos,af,gd⟩ r fz H V:=
 YC (fun ρ w hr=>by simp [execOp,hr _ _ hx,hr _ _ hy,eqGuard_mul,binOp_mul,Op.intArith,hw]) h
theorem YQ {n:Int} (h: -9223372036854775808<=n/\n<=9223372036854775807):IntKind.i64.wrap n=n:=IntWalk.i64_in n h
end bin
variable {b:Bool}
theorem q_not (hx:r x=some (.bool b)) (h:V (.bool (!b))):DoesQ P cx ⟨dst,.unOp .not t x,ty,pos,af,gd⟩ r fz H V:=
 YC (fun ρ w hr=>by simp [execOp,hr _ _ hx,Op.unary]) h
theorem Yw {t:TypeId} {x:Operand} {e:TypeId} {X:Ty} {A:Option Addr} {n c:Nat} (h:V (Zk n)) (T:Tab P:=by exact T) (hT:T.inf t=some X:=by exact rfl) (hd:X.desc=.slice e:=by exact rfl) (hx:r x=some (.slice A n c):=by exact rfl):
 DoesQ P cx ⟨dst,.call {callee:=.builtin .len,args:=#[x],argTypes:=#[t]},ty,pos,af,gd⟩ r fz H V:=
 YC (fun ρ w hr=>by
  have hu:=run_underlying (und_plain T hT hd rfl) w;simp [execOp,resolve,invoke,builtin,hr _ _ hx,Builtin.len_,hu,goInt]) h
variable {X:Ty} {s:Bs}
theorem Ydy (T:Tab P) (hT:T.inf t=some X) (hd:X.desc=.string) (hx:r x=some (.string s)) (h:V (Zk s.size)):
 DoesQ P cx ⟨dst,.call {callee:=.builtin .len,args:=#[x],argTypes:=#[t]},ty,pos,af,gd⟩ r fz H V:=
 YC (fun ρ w hr=>by
  have hu:=run_underlying (und_plain T hT hd rfl) w;simp [execOp,resolve,invoke,builtin,hr _ _ hx,Builtin.len_,hu,goInt]) h
theorem Xq {t:TypeId} {x i:Operand} {X:Ty} {s:Bs} {k:IntKind} {j:Int} {b:UInt8}
 (h:V (.int .u8 b.toNat)) (T:Tab P:=by exact T) (hT:T.inf t=some X:=by exact rfl) (hd:X.desc=.string:=by exact rfl) (hx:r x=some (.string s):=by exact rfl) (hi:r i=some (.int k j):=by exact rfl) (h0:0<=j:=by omega) (hb:s[j.toNat]?=some b):DoesQ P cx ⟨dst,.index t x i,ty,pos,af,gd⟩ r fz H V:=
  YC (fun ρ w hr=>by
   have hu:=run_underlying (und_plain T hT hd rfl) w;simp [execOp,hr _ _ hx,hr _ _ hi,Instr.index,asIntOf,hu,h0,hb]) h
theorem Yt {t:TypeId} {x:Operand} {i:Nat} {X Y:Ty} {fs:Array Field} {f:Field} {p:Addr}
 (h:V (.pointer (some (p.add f.offset)))) (T:Tab P:=by exact T) (hT:T.inf t=some X:=by exact rfl) (hd:X.desc=.struct fs:=by exact rfl) (hf:fs[i]?=some f:=by exact rfl) (hY:T.inf f.type=some Y:=by exact rfl) (hz:Nat.beq Y.size 0=false:=by exact rfl) (hx:r x=some (.pointer (some p)):=by exact rfl):DoesQ P cx ⟨dst,.fieldAddr t x i,ty,pos,af,gd⟩ r fz H V:=
  YC (fun ρ w hr=>by
   obtain ⟨fs',hu',hs'⟩:=Yfg T hT hd;have hu:=run_underlying hu' w;subst hs';rw [Array.getElem?_map] at hf;cases hf':fs'[i]? with
   | none=>simp [hf'] at hf
   | some f'=>
    simp only [hf',Option.map_some] at hf;injection hf with hf
    subst hf;have hs:=run_sizeOf T hY w;have hz':¬Y.size=0:=fun he=>by rw [he] at hz;cases hz
    simp only [strip,fld] at hs;simp [execOp,hr _ _ hx,Instr.fieldAt,hu,hf',Instr.sureAddr,fieldPlace,hs,hz',strip,fld]) h
variable {Y:Ty}
theorem YlL (T:Tab P) {fs:Array Field} {f:Field} {cs:Array Value} (hT:T.inf t=some X) (hd:X.desc=.struct fs) (hf:fs[i]?=some f) (hY:T.inf f.type=some Y)
 (hx:r x=some (.agg cs)) (hv:(match W5 Y.desc with | true=>some (.agg (cs.extract f.offset (f.offset+Y.size))) | false=>cs[f.offset]?)=some v) (h:V v):DoesQ P cx ⟨dst,.field t x i,ty,pos,af,gd⟩ r fz H V:=
 YC (fun ρ w hr=>by
  obtain ⟨fs',hu',hs'⟩:=Yfg T hT hd;have hu:=run_underlying hu' w;subst hs';rw [Array.getElem?_map] at hf;cases hf':fs'[i]? with
  | none=>simp [hf'] at hf
  | some f'=>
   simp only [hf',Option.map_some] at hf;injection hf with hf
   subst hf;have hs:=run_sizeOf T hY w;have hv2:=run_isAgg T hY w;simp only [strip,fld] at hs hv2 hv;simp only [execOp,hr _ _ hx,Instr.field,hu,hf',part,Sem.run_bind,Result.andThen_ok,asAgg,Sem.run_pure,hv2];cases hde:W5 Y.desc<;>simp only [hde] at hv<;>simp_all) h
variable {c:Nat} {e:TypeId}
theorem YcV (T:Tab P) {i:Operand} {a:Addr} {k:IntKind} {j:Int} (hT:T.inf t=some X) (hd:X.desc=.slice e) (hY:T.inf e=some Y)
 (hx:r x=some (.slice (some a) n c)) (hi:r i=some (.int k j)) (h0:0<=j) (hn:j<n) (h:V (.pointer (some (a.add (j.toNat*Y.size))))):DoesQ P cx ⟨dst,.indexAddr t x i,ty,pos,af,gd⟩ r fz H V:=
 YC (fun ρ w hr=>by
  have hu:=run_underlying (und_plain T hT hd rfl) w;have hs:=run_sizeOf T hY w;simp [execOp,hr _ _ hx,hr _ _ hi,Instr.indexAt,asIntOf,hu,hs,h0,hn]) h
theorem Wl {x:Operand} {i:Nat} {vs:Array Value} {v:Value} (h:V v) (hx:r x=some (.tuple vs):=by exact rfl) (hv:vs[i]?=some v:=by exact rfl):DoesQ P cx ⟨dst,.extract x i,ty,pos,af,gd⟩ r fz H V:=
 YC (fun ρ w hr=>by simp [execOp,hr _ _ hx,Instr.extract,hv]) h
theorem YbW (T:Tab P) (hT:T.inf t=some X) (hd:Yd3 X.desc=false) (hx:r x=some v) (h:V (.iface t v)):DoesQ P cx ⟨dst,.makeInterface t x,ty,pos,af,gd⟩ r fz H V:=
 YC (fun ρ w hr=>by
  obtain ⟨d,hu,hi⟩:=Ylv T hT;rw [hd] at hi;simp only [execOp,hr _ _ hx,Instr.makeInterface,Sem.run_bind,run_underlying hu,Result.andThen_ok];cases d<;>simp_all [Yd3]) h
theorem Wm {t t':TypeId} {x:Operand} {X X':Ty} {k k':IntKind} {a b:Int} (h:V (.int k' b)) (T:Tab P:=by exact T) (hT:T.inf t=some X:=by exact rfl) (hT':T.inf t'=some X':=by exact rfl) (hd:X'.desc=.int k':=by exact rfl) (hx:r x=some (.int k a):=by exact rfl) (hw:k'.wrap a=b):
 DoesQ P cx ⟨dst,.convert t t' x,ty,pos,af,gd⟩ r fz H V:=
 YC (fun ρ w hr=>by
  obtain ⟨d,hu,_⟩:=Ylv T hT;have hu':=run_underlying (und_plain T hT' hd rfl) w;simp [execOp,hr _ _ hx,convert,run_underlying hu,hu',Conv.intToInt,hw]) h
def wrL:List Value->Nat->List Value->Option (List Value)
 | cs,0,[]=>some cs
 | [],_,_=>none
 | _::cs,0,v::vs=>match wrL cs 0 vs with
  | some l=>some (v::l)
  | none=>none
 | c::cs,j+1,vs=>match wrL cs j vs with
  | some l=>some (c::l)
  | none=>none
theorem YmF:∀ (cs:List Value) (j:Nat) (vs cs':List Value),wrL cs j vs=some cs'->j+vs.length<=cs.length/\cs'=cs.take j++vs++cs.drop (j+vs.length)
 | cs,0,[],cs',h=>by simp only [wrL] at h;injection h with h;simp [h]
 | [],0,v::vs,cs',h=>by simp [wrL] at h
 | [],j+1,vs,cs',h=>by simp [wrL] at h
 | c::cs,0,v::vs,cs',h=>by
  simp only [wrL] at h;cases hw:wrL cs 0 vs with
  | none=>simp [hw] at h
  | some l=>
   simp only [hw] at h;injection h with h
   obtain ⟨h1,h2⟩:=YmF cs 0 vs l hw;subst h h2;simp at h1 ⊢;exact h1
 | c::cs,j+1,vs,cs',h=>by
  simp only [wrL] at h;cases hw:wrL cs j vs with
  | none=>simp [hw] at h
  | some l=>
   simp only [hw] at h;injection h with h
   obtain ⟨h1,h2⟩:=YmF cs j vs l hw;subst h h2;refine ⟨by simp;omega,?_⟩;rw [show j+1+vs.length=(j+vs.length)+1 from by omega];simp
def Yqc (place:Nat->Option (Nat × Nat)):List Value->List (Nat × Value)->Option (List Value)
 | cells,[]=>some cells
 | cells,(i,v)::rest=>match place i with
  | none=>none
  | some (off,size)=>match Nat.beq v.cells.toList.length size with
   | false=>none
   | true=>match wrL cells off v.cells.toList with
    | none=>none
    | some cs=>Yqc place cs rest
theorem Ynp (off:Nat):∀ (vs:List Value) (k:Nat) (cs:List Value),off+k+vs.length<=cs.length->
 (vs.zipIdx k).foldl (fun (cs:Array Value) (p:Value × Nat)=>cs.setIfInBounds (off+p.2) p.1) cs.toArray=(cs.take (off+k)++vs++cs.drop (off+k+vs.length)).toArray
 | [],k,cs,_=>by simp
 | v::vs,k,cs,h=>by
  simp only [List.zipIdx_cons,List.foldl_cons,List.setIfInBounds_toArray];simp only [List.length_cons] at h;rw [Ynp off vs (k+1) (cs.set (off+k) v) (by simp;omega)];have h1:(cs.set (off+k) v).take (off+(k+1))=cs.take (off+k)++ [v]:=by
   rw [show off+(k+1)=(off+k)+1 from by omega,List.take_add_one,List.take_set,List.getElem?_set_self Zi];simp only [Option.toList];rw [List.set_eq_of_length_le (by simp;omega)]
  have h2:(cs.set (off+k) v).drop (off+(k+1)+vs.length)=cs.drop (off+k+(vs.length+1)):=by
   rw [List.drop_set_of_lt Zi]
   congr 1;omega
  rw [h1,h2];simp
theorem Yl8 {place:Nat->Option (Nat × Nat)}:∀ (parts:List (Nat × Value)) (cells cs:List Value),Yqc place cells parts=some cs->Instr.fill place cells.toArray parts=some cs.toArray
 | [],cells,cs,h=>by injection h with h;subst h;rfl
 | (i,v)::rest,cells,cs,h=>by
  unfold Yqc at h;cases hp:place i with
  | none=>simp [hp] at h
  | some os=>
   obtain ⟨off,size⟩:=os;simp only [hp] at h;cases hb:Nat.beq v.cells.toList.length size with
   | false=>rw [hb] at h;cases h
   | true=>
    simp only [hb] at h;cases hw:wrL cells off v.cells.toList with
    | none=>simp [hw] at h
    | some cs1=>
     simp only [hw] at h;obtain ⟨h1,h2⟩:=YmF _ _ _ _ hw;have h3:=Nat.eq_of_beq_eq_true hb;have h4:=Ynp off v.cells.toList 0 cells Zi;simp only [Nat.add_zero] at h4;rw [<- h2] at h4;have h5:v.cells.zipIdx.foldl (fun (cs:Array Value) (p:Value × Nat)=>cs.setIfInBounds (off+p.2) p.1) cells.toArray=cs1.toArray:=by
      rw [<- h4,<- Array.foldl_toList,Array.toList_zipIdx]
     unfold Instr.fill;simp only [hp];have hc1:v.cells.size=size:=by simpa using h3
     have hc2:¬off+v.cells.size>cells.length:=by simp at h1;omega
     rw [if_neg (by simp [hc1];simp [hc1] at hc2;omega)];exact (congrArg (fun a=>Instr.fill place a rest) h5).trans (Yl8 rest cs1 cs h)
def repZ (z:List Value):Nat->List Value
 | 0=>[]
 | n+1=>z++repZ z n
theorem YmS (z:List Value):∀ (n i:Nat),i<n*z.length->(repZ z n)[i]?=z[i % z.length]?
 | 0,i,h=>by omega
 | n+1,i,h=>by
  unfold repZ;by_cases hi:i<z.length
  ·rw [List.getElem?_append_left hi,Nat.mod_eq_of_lt hi]
  rw [List.getElem?_append_right Zi,YmS z n _ (by rw [Nat.add_mul] at h;omega),Nat.mod_eq_sub_mod (by omega:i>=z.length)]
theorem YmR (z:List Value):∀ n:Nat,(repZ z n).length=n*z.length
 | 0=>by simp [repZ]
 | n+1=>by simp [repZ,YmR z n,Nat.add_mul,Nat.add_comm]
theorem Ypa (z:Array Value) (n size:Nat) (hs:z.size=size):(Array.range (n*size)).map (z[· % z.size]!)=(repZ z.toList n).toArray:=by
 subst hs;apply Array.ext_getElem?;intro i;rw [Array.getElem?_map];by_cases hi:i<n*z.size
 ·have h1:(Array.range (n*z.size))[i]?=some i:=by simp [hi]
  have h2:(repZ z.toList n).toArray[i]?=z.toList[i % z.toList.length]?:=by
   rw [List.getElem?_toArray];exact YmS z.toList n i (by simpa using hi)
  have hlt:i % z.size<z.size:=Nat.mod_lt _ (by
   rcases Nat.eq_zero_or_pos z.size with h0 | h0
   ·rw [h0] at hi;omega
   exact h0)
  rw [h1,h2];simp [hlt]
 have h1:(Array.range (n*z.size))[i]?=none:=by simp [hi]
 have h2:(repZ z.toList n).toArray[i]?=none:=by
  rw [List.getElem?_toArray,List.getElem?_eq_none (by rw [YmR];simpa using hi)]
 rw [h1,h2];rfl
def places (T:Tab P):List Field->Option (List (Nat × Nat))
 | []=>some []
 | f::r=>match T.inf f.type with
  | none=>none
  | some Y=>match places T r with
   | none=>none
   | some l=>some ((f.offset,Y.size)::l)
theorem Yf0 (T:Tab P):∀ fs:List Field,places T (fs.map strip)=places T fs
 | []=>rfl
 | f::r=>by
  simp only [List.map_cons,places,Yf0 T r];rfl
theorem run_places (T:Tab P):∀ (fs:List Field) (l:List (Nat × Nat)),places T fs=some l->∀ w,(fs.mapM (fun f=>do pure (f.offset,<- sizeOf f.type):Field->Sem (Nat × Nat))).run P w=.ok l w
 | [],l,h,w=>by injection h with h;subst h;simp
 | f::r,l,h,w=>by
  unfold places at h;cases hY:T.inf f.type with
  | none=>simp [hY] at h
  | some Y=>
   cases hl:places T r with
   | none=>simp [hY,hl] at h
   | some l'=>
    simp [hY,hl] at h;subst h;simp only [List.mapM_cons,Sem.run_bind,run_sizeOf T hY,Result.andThen_ok,Sem.run_pure,run_places T r l' hl]
theorem Yem {ρ:Operand->Value} (hr:Reads r ρ):∀ (ps:List (Nat × Operand)) (vs:List Value),rds r (ps.map (·.2))=some vs->ps.map (fun p=>(p.1,ρ p.2))=(ps.map (·.1)).zip vs
 | [],vs,h=>by injection h with h;subst h;rfl
 | (i,x)::ps,vs,h=>by
  simp only [List.map_cons,rds] at h;cases hx:r x with
  | none=>simp [hx] at h
  | some v=>
   cases hxs:rds r (ps.map (·.2)) with
   | none=>simp [hx,hxs] at h
   | some us=>
    simp [hx,hxs] at h;subst h;simp [hr x v hx,Yem hr ps us hxs]
theorem YaY {t:TypeId} {ps:List (Nat × Operand)} {X:Ty} {fs:Array Field} {pl:List (Nat × Nat)} {vs cs:List Value}
 (h:V (.agg cs.toArray)) (T:Tab P:=by exact T) (hT:T.inf t=some X:=by exact rfl) (hd:X.desc=.struct fs:=by exact rfl) (hp:places T fs.toList=some pl:=by exact rfl) (hv:rds r (ps.map (·.2))=some vs:=by exact rfl) (hc:Yqc (fun i=>pl[i]?) X.zero.cells.toList ((ps.map (·.1)).zip vs)=some cs:=by exact rfl):DoesQ P cx ⟨dst,.build t ps.toArray,ty,pos,af,gd⟩ r fz H V:=
  YC (fun ρ w hr=>by
   obtain ⟨fs',hu',hs'⟩:=Yfg T hT hd;have hu:=run_underlying hu' w;subst hs';have hz:=YcR T hT w;have hpl:(fs'.mapM (fun f=>do pure (f.offset,<- sizeOf f.type):Field->Sem (Nat × Nat))).run P w=.ok pl.toArray w:=by
    rw [<- Array.toArray_toList (xs:=fs'),List.mapM_toArray];have:=run_places T fs'.toList pl (by rw [<- Yf0];simpa using hp) w;simp only [Sem.run_map,this,Result.andThen_ok]
   have hps:(ps.map fun p=>(p.1,ρ p.2))=(ps.map (·.1)).zip vs:=Yem hr ps vs hv;have hps':(ps.toArray.map fun x=>match x with | (i,x)=>(i,ρ x)).toList=(ps.map (·.1)).zip vs:=by
    rw [<- hps];simp
   have hc':Instr.fill (fun i=>pl.toArray[i]?) X.zero.cells ((ps.map (·.1)).zip vs)=some cs.toArray:=by
    have:=Yl8 _ _ _ hc;simpa using this
   simp only [execOp,Instr.build,Sem.run_bind,hz,Result.andThen_ok,hu,hpl,hps',hc',Sem.run_pure]) h
section
variable (T:Tab P) {t t':TypeId} {x:Operand} {X:Ty} {ms:Array (String × TypeId)} {u:TypeId} {v:Value}
theorem Yft (hT:T.inf t=some X) (hd:X.desc=.interface ms) (hx:r x=some (.iface u v)) (hy:r (.const .nilIface)=some .nilIface) (h:V (.bool false)):
 DoesQ P cx ⟨dst,.binOp .eql t x (.const .nilIface) t',ty,pos,af,gd⟩ r fz H V:=
 YC (fun ρ w hr=>by
  have hu:=YbD T hT hd;simp only [execOp,hr _ _ hx,hr _ _ hy,Sem.run_bind,eqGuard_at_iface,Sem.run_pure,Result.andThen_ok,run_eql_held_nil w t u v hu]) h
theorem YgR (hT:T.inf t=some X) (hd:X.desc=.interface ms) (hx:r x=some .nilIface) (hy:r (.const .nilIface)=some .nilIface) (h:V (.bool true)):
 DoesQ P cx ⟨dst,.binOp .eql t x (.const .nilIface) t',ty,pos,af,gd⟩ r fz H V:=
 YC (fun ρ w hr=>by
  have hu:=YbD T hT hd;simp only [execOp,hr _ _ hx,hr _ _ hy,Sem.run_bind,eqGuard_nil_constR,Sem.run_pure,Result.andThen_ok,run_eql_nil_nil w t hu]) h
theorem Yfp (hT:T.inf t=some X) (hd:X.desc=.interface ms) (hx:r x=some (.iface u v)) (hy:r (.const .nilIface)=some .nilIface) (h:V (.bool true)):
 DoesQ P cx ⟨dst,.binOp .neq t x (.const .nilIface) t',ty,pos,af,gd⟩ r fz H V:=
 YC (fun ρ w hr=>by
  have hu:=YbD T hT hd;simp only [execOp,hr _ _ hx,hr _ _ hy,Sem.run_bind,eqGuard_at_iface,Sem.run_pure,Result.andThen_ok,run_neq_held_nil w t u v hu]) h
theorem YgO (hT:T.inf t=some X) (hd:X.desc=.interface ms) (hx:r x=some .nilIface) (hy:r (.const .nilIface)=some .nilIface) (h:V (.bool false)):
 DoesQ P cx ⟨dst,.binOp .neq t x (.const .nilIface) t',ty,pos,af,gd⟩ r fz H V:=
 YC (fun ρ w hr=>by
  have hu:=YbD T hT hd;simp only [execOp,hr _ _ hx,hr _ _ hy,Sem.run_bind,eqGuard_nil_constR,Sem.run_pure,Result.andThen_ok,run_neq_nil_nil w t hu]) h
end
theorem run_eql_bool (T:Tab P) {a:Bool} (hT:T.inf t=some X) (hd:X.desc=.bool) (w:World):(Op.equal t (.bool a) (.bool b)).run P w=.ok (a==b) w:=by
 have hu:=run_underlying (und_plain T hT hd rfl) w;have:∀ d:Nat,(Op.equalIn (d+1) t (.bool a) (.bool b)).run P w=.ok (a==b) w:=fun d=>by
  unfold Op.equalIn;simp only [Sem.run_bind,hu,Result.andThen_ok,Sem.run_pure]
 exact this 9999
theorem YnZ {t t':TypeId} {x y:Operand} {X:Ty} {a b:Bool} (h:V (.bool (a==b))) (T:Tab P:=by exact T) (hT:T.inf t=some X:=by exact rfl) (hd:X.desc=.bool:=by exact rfl) (hx:r x=some (.bool a):=by exact rfl) (hy:r y=some (.bool b):=by exact rfl):
 DoesQ P cx ⟨dst,.binOp .eql t x y t',ty,pos,af,gd⟩ r fz H V:=
 YC (fun ρ w hr=>by
  simp only [execOp,hr _ _ hx,hr _ _ hy,Sem.run_bind,eqGuard_at_bool,Sem.run_pure,Result.andThen_ok,binOp,run_eql_bool T hT hd]) h
theorem YlD (a b:Bs):(a.toList==b.toList)=decide (a=b):=by
 rw [Bool.eq_iff_iff,beq_iff_eq,decide_eq_true_iff,ByteArray.toList_eq,ByteArray.toList_eq];constructor
 ·intro h;exact ByteArray.ext (Array.toList_inj.1 h)
 rintro rfl;rfl
variable {t':TypeId}
theorem Ykn {a b:Bs} (hx:r x=some (.string a)) (hy:r y=some (.string b)) (h:V (.bool (decide (a=b)))):
 DoesQ P cx ⟨dst,.binOp .eql t x y t',ty,pos,af,gd⟩ r fz H V:=
 YC (fun ρ w hr=>by
  simp [execOp,hr _ _ hx,hr _ _ hy,eqGuard_at_string,binOp,Op.stringOp,YlD]) h
theorem Ykl {a b:Bs} (hx:r x=some (.string a)) (hy:r y=some (.string b)) (h:V (.bool (decide (a≠b)))):
 DoesQ P cx ⟨dst,.binOp .neq t x y t',ty,pos,af,gd⟩ r fz H V:=
 YC (fun ρ w hr=>by
  simp [execOp,hr _ _ hx,hr _ _ hy,eqGuard_at_string,binOp,Op.stringOp,YlD]) h
theorem YdA (T:Tab P) (hT:T.inf t'=some X) (hd:Yd3 X.desc=false) (hx:r x=some (.iface t' v)) (h:V (.tuple #[v,.bool true])):
 DoesQ P cx ⟨dst,.typeAssert x t t' true,ty,pos,af,gd⟩ r fz H V:=
 YC (fun ρ w hr=>by
  obtain ⟨d,hu,hi⟩:=Ylv T hT;rw [hd] at hi;simp only [execOp,hr _ _ hx,Instr.typeAssert,Sem.run_bind,run_underlying hu,Result.andThen_ok];cases d<;>simp_all [Yd3]) h
theorem YiD {p:Prop} [Decidable p] (ht:p->V (.bool true)) (hf:¬p->V (.bool false)):V (.bool (decide p)):=by
 by_cases h:p
 ·rw [decide_eq_true h];exact ht h
 rw [decide_eq_false h];exact hf h
theorem v_bool (ht:b=true->V (.bool true)) (hf:b=false->V (.bool false)):V (.bool b):=by
 cases b
 ·exact hf rfl
 exact ht rfl
section
variable {t t':TypeId} {x y:Operand} {k:IntKind} {a b:Int}
theorem q_lssD (hx:r x=some (.int k a)) (hy:r y=some (.int k b)) (ht:a<b->V (.bool true)) (hf:¬(a<b)->V (.bool false)):DoesQ P cx ⟨dst,.binOp .lss t x y t',ty,pos,af,gd⟩ r fz H V:=
 q_lss hx hy (YiD ht hf)
theorem q_leqD (hx:r x=some (.int k a)) (hy:r y=some (.int k b)) (ht:a<=b->V (.bool true)) (hf:¬(a<=b)->V (.bool false)):DoesQ P cx ⟨dst,.binOp .leq t x y t',ty,pos,af,gd⟩ r fz H V:=
 q_leq hx hy (YiD ht hf)
theorem q_gtrD (hx:r x=some (.int k a)) (hy:r y=some (.int k b)) (ht:b<a->V (.bool true)) (hf:¬(b<a)->V (.bool false)):DoesQ P cx ⟨dst,.binOp .gtr t x y t',ty,pos,af,gd⟩ r fz H V:=
 q_gtr hx hy (YiD ht hf)
theorem q_geqD (hx:r x=some (.int k a)) (hy:r y=some (.int k b)) (ht:b<=a->V (.bool true)) (hf:¬(b<=a)->V (.bool false)):DoesQ P cx ⟨dst,.binOp .geq t x y t',ty,pos,af,gd⟩ r fz H V:=
 q_geq hx hy (YiD ht hf)
theorem Ypg (hx:r x=some (.int k a)) (hy:r y=some (.int k b)) (ht:a=b->V (.bool true)) (hf:¬(a=b)->V (.bool false)):DoesQ P cx ⟨dst,.binOp .eql t x y t',ty,pos,af,gd⟩ r fz H V:=
 Ykp (YiD ht hf) (hx:=hx) (hy:=hy)
theorem q_neqD (hx:r x=some (.int k a)) (hy:r y=some (.int k b)) (ht:a≠b->V (.bool true)) (hf:a=b->V (.bool false)):DoesQ P cx ⟨dst,.binOp .neq t x y t',ty,pos,af,gd⟩ r fz H V:=
 q_neq hx hy (YiD ht (fun h=>hf (Classical.not_not.1 h)))
theorem Yfs {u v:Bs} (hx:r x=some (.string u)) (hy:r y=some (.string v)) (ht:u=v->V (.bool true)) (hf:¬u=v->V (.bool false)):DoesQ P cx ⟨dst,.binOp .eql t x y t',ty,pos,af,gd⟩ r fz H V:=
 Ykn hx hy (YiD ht hf)
theorem Yic {u v:Bs} (hx:r x=some (.string u)) (hy:r y=some (.string v)) (ht:u≠v->V (.bool true)) (hf:u=v->V (.bool false)):DoesQ P cx ⟨dst,.binOp .neq t x y t',ty,pos,af,gd⟩ r fz H V:=
 Ykl hx hy (YiD ht (fun h=>hf (Classical.not_not.1 h)))
end
theorem q_max {ats:Array TypeId} {k:IntKind} {a b:Int} (hx:r x=some (.int k a)) (hy:r y=some (.int k b)) (h:V (.int k (max a b))):
 DoesQ P cx ⟨dst,.call {callee:=.builtin .max,args:=#[x,y],argTypes:=ats},ty,pos,af,gd⟩ r fz H V:=
 YC (fun ρ w hr=>by
  have:(if b>a then b else a)=max a b:=by omega
  simp [execOp,resolve,invoke,builtin,hr _ _ hx,hr _ _ hy,Builtin.max_,Builtin.max2,this]) h
theorem Inv.cellOwn (h:Inv cx fz H w) {cs:Array Value} {f:Nat × Nat} (hi:H[i]?=some (g,.cells cs t f)) (j:Nat):w.cell? ⟨g,j,none⟩=cs[j]?:=
 cell_of_row w g j cs t f (h.hp.own (g,.cells cs t f) (Zm hi)).1
theorem Ykg (T:Tab P) {a:Addr} (hT:T.inf t=some X) (hd:W5 X.desc=false) (hc:w.cell? a=some v):(loadVar t a).run P w=.ok v w:=by
 have ha:=run_isAgg T hT w;rw [hd] at ha;simp [loadVar,ha,hc]
variable {cs:List Value}
theorem Ycx (T:Tab P) {a:Addr} (hT:T.inf t=some X) (hd:W5 X.desc=true) (hs:X.size=cs.length)
 (hc:∀ j v,cs[j]?=some v->w.cell? (a.add j)=some v):(loadVar t a).run P w=.ok (.agg cs.toArray) w:=by
 have hz:=run_sizeOf T hT w;rw [hs] at hz;have ha:=run_isAgg T hT w;rw [hd] at ha;simp [loadVar,ha,hz,run_loadCells_list (P:=P) w a cs hc]
theorem Yx {t t':TypeId} {x:Operand} {X:Ty} {g j:Nat} {cs:List Value} {f:Nat × Nat} {v:Value} (i:Nat)
 (h:V v) (T:Tab P:=by exact T) (hT:T.inf t=some X:=by exact rfl) (hd:W5 X.desc=false:=by exact rfl) (hx:r x=some (.pointer (some ⟨g,j,none⟩)):=by exact rfl) (hi:H[i]?=some (g,.cells cs.toArray t' f):=by exact rfl) (hv:cs[j]?=some v):DoesQ P cx ⟨dst,.load t x,ty,pos,af,gd⟩ r fz H V:=
  ⟨v,h,fun ρ w hr hw=>by
   have hc:w.cell? ⟨g,j,none⟩=some v:=by rw [hw.cellOwn hi];simpa using hv
   simp only [execOp,hr _ _ hx,Instr.loadAt,Instr.sureAddr,Sem.run_bind,Sem.run_pure,Result.andThen_ok,Ykg T hT hd hc];exact ⟨rfl,Fr.refl _ _⟩⟩
theorem Yy {t t':TypeId} {x:Operand} {X:Ty} {g:Nat} {cs:List Value} {f:Nat × Nat} (i:Nat)
 (h:V (.agg cs.toArray)) (T:Tab P:=by exact T) (hT:T.inf t=some X:=by exact rfl) (hd:W5 X.desc=true:=by exact rfl) (hx:r x=some (Zp g):=by exact rfl) (hi:H[i]?=some (g,.cells cs.toArray t' f):=by exact rfl) (hs:X.size=cs.length:=by exact rfl):DoesQ P cx ⟨dst,.load t x,ty,pos,af,gd⟩ r fz H V:=
  ⟨_,h,fun ρ w hr hw=>by
   have hc:∀ j v,cs[j]?=some v->w.cell? ((⟨g,0,none⟩:Addr).add j)=some v:=fun j v hv=>by
    have hadd:(⟨g,0,none⟩:Addr).add j=⟨g,j,none⟩:=by unfold Addr.add;split<;>simp_all
    rw [hadd,hw.cellOwn hi];simpa using hv
   simp only [execOp,hr _ _ hx,Instr.loadAt,Instr.sureAddr,Sem.run_bind,Sem.run_pure,Result.andThen_ok,Ycx T hT hd hs hc];exact ⟨rfl,Fr.refl _ _⟩⟩
def YcG (fz:FZ) (a:Addr):Option Value:=match fz a.block with
 | some (.cells c _ _)=>if a.spot.isSome then none else c[a.off]?
 | _=>none
theorem Hp.cell (h:Hp fz H w) {a:Addr} (ha:YcG fz a=some v):w.cell? a=some v:=by
 unfold YcG at ha;unfold World.cell?;split at ha
 ·rename_i hq;rw [h.keep _ _ hq];exact ha
 cases ha
variable {fz':FZ}
theorem Yiv {fz:FZ} (h:Le fz fz') {a:Addr} (ha:YcG fz a=some v):YcG fz' a=some v:=by
 unfold YcG at*;split at ha
 ·rename_i hq;rw [h _ _ hq];exact ha
 cases ha
def Row (fz:FZ) (a:Addr) (cs:List Value):Prop:=∀ j v,cs[j]?=some v->YcG fz (a.add j)=some v
theorem Row.mono {fz:FZ} (h:Le fz fz') {a:Addr} (hr:Row fz a cs):Row fz' a cs:=fun j v hv=>Yiv h (hr j v hv)
theorem Yfr (T:Tab P) {a:Addr} (hT:T.inf t=some X) (hd:W5 X.desc=true)
 (hx:r x=some (.pointer (some a))) (hc:Row fz a cs) (hs:X.size=cs.length) (h:V (.agg cs.toArray)):DoesQ P cx ⟨dst,.load t x,ty,pos,af,gd⟩ r fz H V:=
 ⟨_,h,fun ρ w hr hw=>by
  simp only [execOp,hr _ _ hx,Instr.loadAt,Instr.sureAddr,Sem.run_bind,Sem.run_pure,Result.andThen_ok,Ycx T hT hd hs (fun j v hv=>hw.hp.cell (hc j v hv))];exact ⟨rfl,Fr.refl _ _⟩⟩
theorem YcU (T:Tab P) {a:Addr} (hT:T.inf t=some X) (hd:W5 X.desc=false)
 (hx:r x=some (.pointer (some a))) (hc:YcG fz a=some v) (h:V v):DoesQ P cx ⟨dst,.load t x,ty,pos,af,gd⟩ r fz H V:=
 ⟨_,h,fun ρ w hr hw=>by
  simp only [execOp,hr _ _ hx,Instr.loadAt,Instr.sureAddr,Sem.run_bind,Sem.run_pure,Result.andThen_ok,Ykg T hT hd (hw.hp.cell hc)];exact ⟨rfl,Fr.refl _ _⟩⟩
variable {j:Nat}
theorem YgQ (T:Tab P) {f:Nat × Nat} (hT:T.inf t=some X) (hd:W5 X.desc=false)
 (hx:r x=some (.pointer (some ⟨g,j,none⟩))) (hg:fz g=some (.cells cs.toArray t' f)) (hv:cs[j]?=some v) (h:V v):DoesQ P cx ⟨dst,.load t x,ty,pos,af,gd⟩ r fz H V:=
 YcU T hT hd hx (by simp [YcG,hg,hv]) h
theorem YcT (T:Tab P) {f:Nat × Nat} (hT:T.inf t=some X) (hd:W5 X.desc=true)
 (hx:r x=some (Zp g)) (hg:fz g=some (.cells cs.toArray t' f)) (hs:X.size=cs.length) (h:V (.agg cs.toArray)):DoesQ P cx ⟨dst,.load t x,ty,pos,af,gd⟩ r fz H V:=
 Yfr T hT hd hx (fun j v hv=>by
  have hadd:(⟨g,0,none⟩:Addr).add j=⟨g,j,none⟩:=by unfold Addr.add;split<;>simp_all
  rw [hadd];simp [YcG,hg,hv]) hs h
theorem Y7 {t:TypeId} {X:Ty} {cs:List Value} {K:Value->FZ->HP->Prop}
 (h:∀ g,K (Zp g) fz ((g,.cells cs.toArray t (0,0))::H)) (T:Tab P:=by exact T) (hT:T.inf t=some X:=by exact rfl) (hz:X.zero.cells=cs.toArray:=by exact rfl):Does P cx ⟨dst,.alloc t,ty,pos,af,gd⟩ r fz H K:=by
 intro ρ w hr hw;have hzr:=YcR T hT w;have:(execOp ρ ⟨dst,.alloc t,ty,pos,af,gd⟩).run P w=.ok (.value (.pointer (some ⟨w.heap.size,0,none⟩))) (w.alloc (.cells cs.toArray t (0,0))):=by
  simp [execOp,Instr.alloc,hzr,newVar,newRow,newObj,Sem.run,hz]
 rw [this];exact ⟨fz,_,hw.alloc _,h _⟩
theorem YhX (t:TypeId) {K:Value->FZ->HP->Prop}
 (h:∀ g,K (Zp g) fz ((g,.cells cs.toArray t (0,0))::H)) (hx:r x=some v:=by exact rfl) (hz:v.cells=cs.toArray:=by exact rfl):Does P cx ⟨dst,.box t x,ty,pos,af,gd⟩ r fz H K:=by
 intro ρ w hr hw;have:(execOp ρ ⟨dst,.box t x,ty,pos,af,gd⟩).run P w=.ok (.value (.pointer (some ⟨w.heap.size,0,none⟩))) (w.alloc (.cells cs.toArray t (0,0))):=by
  simp [execOp,Instr.box,hr _ _ hx,newVar,newRow,newObj,Sem.run,hz]
 rw [this];exact ⟨fz,_,hw.alloc _,h _⟩
theorem Yaz {t t':TypeId} {x y:Operand} {X:Ty} {pre post:HP} {g j:Nat} {v:Value} {cs cs':List Value} {K:Value->FZ->HP->Prop}
 (hH:H=pre++(g,.cells cs.toArray t' (0,0))::post)
  (h:K undef fz (pre++(g,.cells cs'.toArray t' (0,0))::post)) (T:Tab P:=by exact T) (hT:T.inf t=some X:=by exact rfl) (hx:r x=some (.pointer (some ⟨g,j,none⟩)):=by exact rfl) (hy:r y=some v:=by exact rfl) (hs:X.size=v.cells.toList.length:=by exact rfl) (h1:v.cells.toList.all (·.oneCell')=true:=by exact rfl) (hc:wrL cs j v.cells.toList=some cs':=by exact rfl):Does P cx ⟨dst,.store t x y,ty,pos,af,gd⟩ r fz H K:=by
  intro ρ w hr hw;subst hH;have hb:=(hw.hp.own (g,.cells cs.toArray t' (0,0)) (by simp)).1;obtain ⟨hle,he⟩:=YmF cs j _ cs' hc;have hst:=run_storeCells_at (P:=P) g j t' v.cells.toList 0 cs.toArray w hb (by simpa using hle) (fun u hu=>List.all_eq_true.1 h1 u hu);simp only [Nat.add_zero] at hst;rw [<- he] at hst;have hz:=run_sizeOf T hT w;rw [hs] at hz;have:(execOp ρ ⟨dst,.store t x y,ty,pos,af,gd⟩).run P w=.ok .skip (w.setRow g cs'.toArray):=by
   simp only [execOp,hr _ _ hx,hr _ _ hy,Instr.storeAt,Instr.sureAddr,Sem.run_bind,Sem.run_pure,Result.andThen_ok,storeVar,hz];simp [hst]
  rw [this];refine ⟨fz,_,hw.write (o':=.cells cs'.toArray t' (0,0)) rfl rfl rfl (by simp) ?_ (fun k hk=>?_),h⟩
  ·simp [World.setRow,Array.getElem?_modify,hb]
  simp only [World.setRow,Array.getElem?_modify];rw [if_neg Zi]
section
variable (T:Tab P) {t t':TypeId} {x y:Operand} {X:Ty} {H':HP} {g j:Nat} {v:Value} {cs cs':List Value} {K:Value->FZ->HP->Prop} {a0 a1 a2 a3:Nat × Obj}
theorem YG (h:K undef fz ((g,.cells cs'.toArray t' (0,0))::H')) (T:Tab P:=by exact T) (hT:T.inf t=some X:=by exact rfl) (hx:r x=some (.pointer (some ⟨g,j,none⟩)):=by exact rfl) (hy:r y=some v:=by exact rfl) (hs:X.size=v.cells.toList.length:=by exact rfl) (h1:v.cells.toList.all (·.oneCell')=true:=by exact rfl) (hc:wrL cs j v.cells.toList=some cs':=by exact rfl):Does P cx ⟨dst,.store t x y,ty,pos,af,gd⟩ r fz ((g,.cells cs.toArray t' (0,0))::H') K:=
 Yaz (pre:=[]) rfl h (T:=T) (hT:=hT) (hx:=hx) (hy:=hy) (hs:=hs) (h1:=h1) (hc:=hc)
theorem Y9 (h:K undef fz (a0::(g,.cells cs'.toArray t' (0,0))::H')) (T:Tab P:=by exact T) (hT:T.inf t=some X:=by exact rfl) (hx:r x=some (.pointer (some ⟨g,j,none⟩)):=by exact rfl) (hy:r y=some v:=by exact rfl) (hs:X.size=v.cells.toList.length:=by exact rfl) (h1:v.cells.toList.all (·.oneCell')=true:=by exact rfl) (hc:wrL cs j v.cells.toList=some cs':=by exact rfl):Does P cx ⟨dst,.store t x y,ty,pos,af,gd⟩ r fz (a0::(g,.cells cs.toArray t' (0,0))::H') K:=
 Yaz (pre:=[a0]) rfl h (T:=T) (hT:=hT) (hx:=hx) (hy:=hy) (hs:=hs) (h1:=h1) (hc:=hc)
theorem WT (h:K undef fz (a0::a1::(g,.cells cs'.toArray t' (0,0))::H')) (T:Tab P:=by exact T) (hT:T.inf t=some X:=by exact rfl) (hx:r x=some (.pointer (some ⟨g,j,none⟩)):=by exact rfl) (hy:r y=some v:=by exact rfl) (hs:X.size=v.cells.toList.length:=by exact rfl) (h1:v.cells.toList.all (·.oneCell')=true:=by exact rfl) (hc:wrL cs j v.cells.toList=some cs':=by exact rfl):Does P cx ⟨dst,.store t x y,ty,pos,af,gd⟩ r fz (a0::a1::(g,.cells cs.toArray t' (0,0))::H') K:=
 Yaz (pre:=[a0,a1]) rfl h (T:=T) (hT:=hT) (hx:=hx) (hy:=hy) (hs:=hs) (h1:=h1) (hc:=hc)
theorem WS (h:K undef fz (a0::a1::a2::(g,.cells cs'.toArray t' (0,0))::H')) (T:Tab P:=by exact T) (hT:T.inf t=some X:=by exact rfl) (hx:r x=some (.pointer (some ⟨g,j,none⟩)):=by exact rfl) (hy:r y=some v:=by exact rfl) (hs:X.size=v.cells.toList.length:=by exact rfl) (h1:v.cells.toList.all (·.oneCell')=true:=by exact rfl) (hc:wrL cs j v.cells.toList=some cs':=by exact rfl):Does P cx ⟨dst,.store t x y,ty,pos,af,gd⟩ r fz (a0::a1::a2::(g,.cells cs.toArray t' (0,0))::H') K:=
 Yaz (pre:=[a0,a1,a2]) rfl h (T:=T) (hT:=hT) (hx:=hx) (hy:=hy) (hs:=hs) (h1:=h1) (hc:=hc)
end
theorem Yc6 {t t':TypeId} {x y:Operand} {X:Ty} {pre post:HP} {g j:Nat} {v:Value} {cs:List Value} {K:Value->FZ->HP->Prop}

 (h:K undef fz (pre++(g,.cells (cs.set j v).toArray t' (0,0))::post)) (T:Tab P:=by exact T) (hT:T.inf t=some X:=by exact rfl) (hx:r x=some (.pointer (some ⟨g,j,none⟩)):=by exact rfl) (hy:r y=some v:=by exact rfl) (hH:H=pre++(g,.cells cs.toArray t' (0,0))::post) (hs:X.size=1:=by exact rfl) (hv:v.cells=#[v]:=by exact rfl) (h1:v.oneCell'=true:=by exact rfl) (hj:j<cs.length):Does P cx ⟨dst,.store t x y,ty,pos,af,gd⟩ r fz H K:=by
 have hw:wrL cs j [v]=some (cs.set j v):=by
  clear hH hx h
  induction cs generalizing j with
  | nil=>simp at hj
  | cons c cs ih=>
   cases j with
   | zero=>cases cs<;>simp [wrL]
   | succ j=>simp only [wrL,ih (by simpa using hj)];rfl
 exact Yaz hH h (hT:=hT) (hx:=hx) (hy:=hy) (hs:=by simp [hv,hs]) (h1:=by simp [hv,h1]) (hc:=by rw [hv];exact hw)
theorem Yb {t e:TypeId} {len:Nat} {ps:List (Nat × Operand)} {X Y:Ty} {vs cs:List Value} {K:Value->FZ->HP->Prop}

 (h:∀ g,K (Zv g len len) fz ((g,.cells cs.toArray e (0,0))::H)) (T:Tab P:=by exact T) (hT:T.inf t=some X:=by exact rfl) (hd:X.desc=.slice e:=by exact rfl) (hY:T.inf e=some Y:=by exact rfl) (hn:Nat.beq (len*Y.size) 0=false:=by exact rfl) (hl:Nat.ble (len*Y.size) 16777216=true:=by exact rfl) (hzs:Nat.beq Y.zero.cells.toList.length Y.size=true:=by exact rfl) (hv:rds r (ps.map (·.2))=some vs:=by exact rfl) (hc:Yqc (fun i=>some (i*Y.size,Y.size)) (repZ Y.zero.cells.toList len) ((ps.map (·.1)).zip vs)=some cs:=by exact rfl):Does P cx ⟨dst,.buildSlice t len ps.toArray,ty,pos,af,gd⟩ r fz H K:=by
 intro ρ w hr hw;have hu:=run_underlying (und_plain T hT hd rfl) w;have hsz:=run_sizeOf T hY w;have hz:=YcR T hY w;have hn':¬len*Y.size=0:=fun he=>by rw [he] at hn;cases hn
 have hl':¬len*Y.size>2 ^ 24:=by have:=Nat.le_of_ble_eq_true hl;omega
 have hps':(ps.toArray.map fun x=>match x with | (i,x)=>(i,ρ x)).toList=(ps.map (·.1)).zip vs:=by
  rw [<- Yem hr ps vs hv];simp
 have:(execOp ρ ⟨dst,.buildSlice t len ps.toArray,ty,pos,af,gd⟩).run P w=.ok (.value (.slice (some ⟨w.heap.size,0,none⟩) len len)) (w.alloc (.cells cs.toArray e (0,0))):=by
  have hc':Instr.fill (fun i=>some (i*Y.size,Y.size)) ((Array.range (len*Y.size)).map (Y.zero.cells[· % Y.zero.cells.size]!)) ((ps.map (·.1)).zip vs)=some cs.toArray:=by
   rw [Ypa Y.zero.cells len Y.size (by simpa using Nat.eq_of_beq_eq_true hzs)];exact Yl8 _ _ _ hc
  simp only [execOp,Instr.buildSlice,Sem.run_bind,hu,Result.andThen_ok,hsz,if_neg hl',if_neg hn',Sem.run_pure,hz,hps',hc',newRow,newObj,Sem.run];rfl
 rw [this];exact ⟨fz,_,hw.alloc _,h _⟩
def Ya4 (P:Program) (f:FuncId):Prop:=∃ fn,P.funcs[f]?=some fn∧(fn.name== "runtime.NumGoroutine")=false∧fn.body.isNone=false
theorem Ya4.run {f:FuncId} (h:Ya4 P f) (args:Array Value) (w:World):(callFunc f args).run P w=.ok (.enter f args) w:=by
 obtain ⟨fn,h1,h2,h3⟩:=h;have h2':¬fn.name= "runtime.NumGoroutine":=by simpa using h2
 have h3':¬fn.body=none:=fun h=>by rw [h] at h3;cases h3
 simp [callFunc,program,Sem.run,h1,h2',h3']
def QFn (P:Program) (f:FuncId) (args:List Value) (fz:FZ) (v:Value):Prop:=
 Ya4 P f/\∀ w,Hp fz [] w->Calls P f args.toArray w fun e w'=>e=.returned v/\Fr [] w w'
def GFn (P:Program) (f:FuncId) (args:List Value) (fz:FZ) (H:HP) (R:Value->FZ->HP->Prop):Prop:=
 Ya4 P f/\∀ w,Hp fz H w->Calls P f args.toArray w fun e w'=>∃ v fz' H',e=.returned v/\R v fz' H'/\Hp fz' H' w'/\Fr (H.map Prod.fst) w w'/\New w.heap.size (H.map Prod.fst) fz fz' H'
variable {Hr:HP}
theorem Inv.called {Hf H':HP} (h:Inv cx fz (Hf++Hr) w) (h1:Hp fz' H' w') (h2:Fr (Hf.map Prod.fst) w w') (h3:New w.heap.size (Hf.map Prod.fst) fz fz' H'):Inv cx fz' (H'++Hr) w':=by
 obtain ⟨⟨a,b,c⟩,d,e⟩:=h;have hnd:∀ p∈Hr,p.1 ∉ Hf.map Prod.fst:=by
  intro p hp hm;rw [List.map_append,List.nodup_append] at c;exact c.2.2 p.1 hm p.1 (List.mem_map.2 ⟨p,hp,rfl⟩) rfl
 have hSub:∀ x∈Hf.map Prod.fst,x∈cx.S\/cx.w0.heap.size<=x:=by
  intro x hx;obtain ⟨p,hp,rfl⟩:=List.mem_map.1 hx;exact e.own p (by simp [hp])
 refine ⟨⟨h1.keep,fun p hp=>?_,?_⟩,d.trans h2 hSub,⟨fun x o hx=>h3.le x o (e.le x o hx),fun x hx hn=>?_,fun p hp=>?_⟩⟩
 ·rcases List.mem_append.1 hp with hp | hp
  ·exact h1.own p hp
  have h4:=b p (by simp [hp]);have h5:=lt_of_heap h4.1;exact ⟨by rw [h2.block _ h5 (hnd p hp)];exact h4.1,by rw [h3.old _ h5 (hnd p hp)];exact h4.2⟩
 ·rw [List.map_append,List.nodup_append];refine ⟨h1.nd,?_,fun x hx y hy hxy=>?_⟩
  ·rw [List.map_append,List.nodup_append] at c;exact c.2.1
  obtain ⟨p,hp,rfl⟩:=List.mem_map.1 hx;obtain ⟨q,hq,rfl⟩:=List.mem_map.1 hy;have h5:=lt_of_heap (b q (by simp [hq])).1;rcases h3.own p hp with h6 | h6
  ·exact hnd q hq (hxy ▸ h6)
  omega
 ·rw [h3.old x (by have:=d.size;omega) (fun hc=>by rcases hSub x hc with h6 | h6;exact hn h6;omega)];exact e.old x hx hn
 rcases List.mem_append.1 hp with hp | hp
 ·rcases h3.own p hp with h6 | h6
  ·exact hSub _ h6
  have:=d.size;exact .inr Zi
 exact e.own p (by simp [hp])
theorem YeL {ρ:Operand->Value} {f:FuncId} (hr:Reads r ρ) {ff:Operand} {xs:List Operand} {ats:Array TypeId} {us vs:List Value} {first capt:List Value} (hf:r ff=some (.func (.func f) first.toArray capt.toArray)) (hx:rds r xs=some us) (hv:first++us++capt=vs) (hc:Ya4 P f) (w:World):
 (execOp ρ ⟨dst,.call {callee:=.value ff,args:=xs.toArray,argTypes:=ats},ty,pos,af,gd⟩).run P w=.ok (.enter f vs.toArray) w:=by
 subst hv;simp [execOp,resolve,Deferred.ofValue,invoke,hr _ _ hf,hr.all xs us hx,hc.run]
theorem YF {f:FuncId} {xs:List Operand} {ats:Array TypeId} {vs:List Value} (hq:QFn P f vs fz v) (h:V v) (hx:rds r xs=some vs:=by exact rfl) (hf:r (.func f)=some (.func (.func f) #[] #[]):=by exact rfl):
 DoesQ P cx ⟨dst,.call {callee:=.value (.func f),args:=xs.toArray,argTypes:=ats},ty,pos,af,gd⟩ r fz H V:=
 ⟨v,h,fun ρ w hr hw=>by
  rw [YeL hr (first:=[]) (capt:=[]) hf hx (vs:=vs) (by simp) hq.1];exact (hq.2 w ⟨hw.hp.keep,by simp,by simp⟩).mono fun e w' ⟨he,hfr⟩=>⟨v,he,rfl,hfr⟩⟩
theorem WJ {f:FuncId} {xs:List Operand} {ats:Array TypeId} {vs:List Value} (hq:QFn P f vs fz (.bool b)) (h1:b=true->V (.bool true)) (h2:b=false->V (.bool false)) (hx:rds r xs=some vs:=by exact rfl) (hf:r (.func f)=some (.func (.func f) #[] #[]):=by exact rfl):
 DoesQ P cx ⟨dst,.call {callee:=.value (.func f),args:=xs.toArray,argTypes:=ats},ty,pos,af,gd⟩ r fz H V:=
 YF hq (v_bool h1 h2) (hx:=hx) (hf:=hf)
theorem Ybu {f:FuncId} {ff:Operand} {xs:List Operand} {ats:Array TypeId} {us vs first capt:List Value} (hq:QFn P f vs fz v) (h:V v) (hf:r ff=some (.func (.func f) first.toArray capt.toArray):=by exact rfl) (hx:rds r xs=some us:=by exact rfl) (hv:first++us++capt=vs:=by exact rfl):
 DoesQ P cx ⟨dst,.call {callee:=.value ff,args:=xs.toArray,argTypes:=ats},ty,pos,af,gd⟩ r fz H V:=
 ⟨v,h,fun ρ w hr hw=>by
  rw [YeL hr hf hx hv hq.1];exact (hq.2 w ⟨hw.hp.keep,by simp,by simp⟩).mono fun e w' ⟨he,hfr⟩=>⟨v,he,rfl,hfr⟩⟩
theorem Ym {f:FuncId} {xs:List Operand} {ats:Array TypeId} {vs:List Value} {R:Value->FZ->HP->Prop} {K:Value->FZ->HP->Prop} (Hf Hr:HP) (hH:H=Hf++Hr) (hq:GFn P f vs fz Hf R)
 (h:∀ v fz' H',Le fz fz'->R v fz' H'->K v fz' (H'++Hr)) (hx:rds r xs=some vs:=by exact rfl) (hf:r (.func f)=some (.func (.func f) #[] #[]):=by exact rfl):
 Does P cx ⟨dst,.call {callee:=.value (.func f),args:=xs.toArray,argTypes:=ats},ty,pos,af,gd⟩ r fz H K:=by
 subst hH;intro ρ w hr hw;rw [YeL hr (first:=[]) (capt:=[]) hf hx (vs:=vs) (by simp) hq.1];refine (hq.2 w ⟨hw.hp.keep,fun p hp=>hw.hp.own p (by simp [hp]),?_⟩).mono fun e w' ⟨v,fz',H',he,hR,h1,h2,h3⟩=>⟨v,he,fz',_,hw.called h1 h2 h3,h v fz' H' h3.le hR⟩
 have:=hw.hp.nd;rw [List.map_append,List.nodup_append] at this;exact this.1
def retQ (P:Program) (cx:Cx) (n:Nat) (fn:Func) (R:Value->FZ->HP->Prop):QQ
 | .normal,σ,fz,H=>∃ v,(∀ a w,Sat n σ a->Inv cx fz H w->(results fn a.tmps).run P w=.ok v w)/\∀ w,Inv cx fz H w->∃ fz' H',Inv cx fz' H' w/\R v fz' H'
 | .ret,σ,fz,H=>∃ v,(∀ a w,Sat n σ a->Inv cx fz H w->(results fn a.tmps).run P w=.ok v w)/\∀ w,Inv cx fz H w->∃ fz' H',Inv cx fz' H' w/\R v fz' H'
 | _,_,_,_=>False
def Yod:List Value->Nat->Env
 | [],_=>[]
 | v::r,i=>(i,v)::Yod r (i+1)
theorem Yjd:∀ (vs:List Value) (k i:Nat) (v:Value),lk (Yod vs k) i=some v->k<=i/\vs[i - k]?=some v
 | [],_,_,_,h=>by cases h
 | u::r,k,i,v,h=>by
  unfold Yod at h;by_cases he:k=i
  ·subst he;rw [Wy] at h;injection h with h;subst h;simp
  rw [XR _ _ he] at h;obtain ⟨h1,h2⟩:=Yjd r (k+1) i v h;refine ⟨by omega,?_⟩;rw [show i - k=(i - (k+1))+1 from by omega];simpa using h2
theorem Ylq {f:FuncId} {fn:Func} {c:Code} {args:List Value} {R:Value→FZ→HP→Prop} (hf:P.funcs[f]?=some fn) (hb:fn.body=some c) (hn:fn.ntmps=n) (ha:Nat.ble args.length n=true) (hname:(fn.name== "runtime.NumGoroutine")=false)
 (h:∀ w0,Wp P ⟨w0,H.map Prod.fst,fz⟩ n c (Yod args 0) fz H (retQ P ⟨w0,H.map Prod.fst,fz⟩ n fn R)):GFn P f args fz H R:=by
 refine ⟨⟨fn,hf,hname,by simp [hb]⟩,fun w hw=>calls_of_wp hf hb ?_⟩;have ha':=Nat.le_of_ble_eq_true ha;refine wp_mono (h w _ w ⟨by simp [hn];omega,rfl,fun i v hv=>?_⟩ ⟨hw,Fr.refl _ _,⟨fun _ _ h=>h,fun _ _ _=>rfl,fun p hp=>.inl (List.mem_map.2 ⟨p,hp,rfl⟩)⟩⟩) fun e a w' hh=>?_
 ·have h1:=(Yjd args 0 i v hv).2;simp only [Nat.sub_zero] at h1;have h2:i<args.length:=(Zg h1).1;rw [Array.getElem?_append_left (by simpa using h2)];simpa using h1
 obtain ⟨σ,fz',H1,h1,h2,h3⟩:=hh;cases e with
 | normal=>
  obtain ⟨v,h4,h5⟩:=h3;obtain ⟨fz2,H2,h7,h8⟩:=h5 w' h2;exact ⟨h1.defers,v,h4 a w' h1 h2,v,fz2,H2,rfl,h8,h7.hp,h7.fr,h7.nw⟩
 | ret=>
  obtain ⟨v,h4,h5⟩:=h3;obtain ⟨fz2,H2,h7,h8⟩:=h5 w' h2;exact ⟨h1.defers,v,h4 a w' h1 h2,v,fz2,H2,rfl,h8,h7.hp,h7.fr,h7.nw⟩
 | _=>exact h3.elim
theorem GFn.quiet {f:FuncId} {args:List Value} (h:GFn P f args fz [] fun u _ _=>u=v):QFn P f args fz v:=
 ⟨h.1,fun w hw=>(h.2 w hw).mono fun e w' ⟨u,fz',H',he,hu,_,h2,_⟩=>by subst hu;exact ⟨he,h2⟩⟩
theorem GFn.mono {f:FuncId} {args:List Value} {R R':Value->FZ->HP->Prop} (h:GFn P f args fz H R) (hr:∀ v fz' H',R v fz' H'->R' v fz' H'):GFn P f args fz H R':=
 ⟨h.1,fun w hw=>(h.2 w hw).mono fun _ _ ⟨u,fz',H',he,hu,h1⟩=>⟨u,fz',H',he,hr _ _ _ hu,h1⟩⟩
theorem WA {w:World}:∀ (H2:HP) (fz:FZ) (H1:HP),Inv cx fz (H1++H2) w->∃ fz',Le fz fz'/\(∀ p∈H2,fz' p.1=some p.2)/\Inv cx fz' H1 w
 | [],fz,H1,h=>⟨fz,Le.refl _,by simp,by simpa using h⟩
 | (g,o)::r,fz,H1,h=>by
  have h1:Inv cx fz ((g,o)::(H1++r)) w:=h.perm (List.perm_middle.symm);obtain ⟨h2,h3⟩:=h1.freeze;obtain ⟨fz',h4,h5,h6⟩:=WA r (upd fz g o) H1 h2;refine ⟨fz',h3.trans h4,fun p hp=>?_,h6⟩;cases hp with
  | head=>exact h4 g o (by simp [upd])
  | tail _ hp=>exact h5 p hp
section
variable {n:Nat} {fn:Func} {R:Value->FZ->HP->Prop} {σ:Env} {H':HP}
theorem ret_of (h:∀ a w,Sat n σ a->Inv cx fz H w->(results fn a.tmps).run P w=.ok v w) (hR:∀ w,Inv cx fz H w->∃ fz' H',Inv cx fz' H' w/\R v fz' H'):retQ P cx n fn R .ret σ fz H:=⟨v,h,hR⟩
theorem YgM (hH:H'.Sublist H) (h:R v fz H'):∀ w,Inv cx fz H w->∃ fz' H',Inv cx fz' H' w/\R v fz' H':=fun _ hi=>⟨fz,H',hi.forget hH,h⟩
theorem YiV (h:∀ fz',Le fz fz'->(∀ p∈H,fz' p.1=some p.2)->R v fz' []):∀ w,Inv cx fz H w->∃ fz' H',Inv cx fz' H' w/\R v fz' H':=fun _ hi=>by
 obtain ⟨fz',h1,h2,h3⟩:=WA H fz [] (by simpa using hi);exact ⟨fz',[],h3,h fz' h1 h2⟩
theorem rOwn {H2:HP} (hp:(H'++H2).Perm H) (h:∀ fz',Le fz fz'->(∀ p∈H2,fz' p.1=some p.2)->R v fz' H'):∀ w,Inv cx fz H w->∃ fz' H',Inv cx fz' H' w/\R v fz' H':=fun _ hi=>by
 obtain ⟨fz',h1,h2,h3⟩:=WA H2 fz H' (hi.perm hp);exact ⟨fz',H',h3,h fz' h1 h2⟩
theorem ret1' {t:Nat} (hres:fn.results=#[.tmp t]) (hv:lk σ t=some v) (h:∀ w,Inv cx fz H w->∃ fz' H',Inv cx fz' H' w/\R v fz' H'):retQ P cx n fn R .ret σ fz H:=
 ⟨v,fun a w hs _=>by rw [results_tmp hres];simp [hs.slot t v hv],h⟩
theorem ret2' {t u:Nat} {x:Value} (hres:fn.results=#[.tmp t,.tmp u]) (hv:lk σ t=some v) (hx:lk σ u=some x) (h:∀ w,Inv cx fz H w->∃ fz' H',Inv cx fz' H' w/\R (.tuple #[v,x]) fz' H'):retQ P cx n fn R .ret σ fz H:=
 ⟨_,fun a w hs _=>by rw [results_tmp2 hres];simp [hs.slot t v hv,hs.slot u x hx],h⟩
theorem Yan {p:Nat} {t t':TypeId} {X:Ty} {g i:Nat} {cs:List Value} {f:Nat × Nat} (hres:fn.results=#[.cell p t])
 (h:∀ w,Inv cx fz H w->∃ fz' H',Inv cx fz' H' w/\R (.agg cs.toArray) fz' H') (T:Tab P:=by exact T) (hT:T.inf t=some X:=by exact rfl) (hd:W5 X.desc=true:=by exact rfl) (hv:lk σ p=some (Zp g):=by exact rfl) (hi:H[i]?=some (g,.cells cs.toArray t' f):=by exact rfl) (hsz:X.size=cs.length:=by exact rfl):retQ P cx n fn R .ret σ fz H:=
  ⟨_,fun a w hs hw=>by
   have hc:∀ j v,cs[j]?=some v->w.cell? ((⟨g,0,none⟩:Addr).add j)=some v:=fun j v hv=>by
    have hadd:(⟨g,0,none⟩:Addr).add j=⟨g,j,none⟩:=by unfold Addr.add;split<;>simp_all
    rw [hadd,hw.cellOwn hi];simpa using hv
   simp [results,hres,hs.slot p _ hv,asAddr,Ycx T hT hd hsz hc],h⟩
theorem YnW {t:Nat} (hres:fn.results=#[.tmp t]) (hv:lk σ t=some v) (h:∀ fz',Le fz fz'->(∀ p∈H,fz' p.1=some p.2)->R v fz' []):retQ P cx n fn R .ret σ fz H:=ret1' hres hv (YiV h)
theorem YlG {t u:Nat} {x:Value} (hres:fn.results=#[.tmp t,.tmp u]) (hv:lk σ t=some v) (hx:lk σ u=some x) (h:∀ fz',Le fz fz'->(∀ p∈H,fz' p.1=some p.2)->R (.tuple #[v,x]) fz' []):retQ P cx n fn R .ret σ fz H:=ret2' hres hv hx (YiV h)
theorem XJ {p:Nat} {t t':TypeId} {X:Ty} {g i:Nat} {cs:List Value} {f:Nat × Nat} (hres:fn.results=#[.cell p t])
 (h:∀ fz',Le fz fz'->(∀ p∈H,fz' p.1=some p.2)->R (.agg cs.toArray) fz' []) (T:Tab P:=by exact T) (hT:T.inf t=some X:=by exact rfl) (hd:W5 X.desc=true:=by exact rfl) (hv:lk σ p=some (Zp g):=by exact rfl) (hi:H[i]?=some (g,.cells cs.toArray t' f):=by exact rfl) (hsz:X.size=cs.length:=by exact rfl):retQ P cx n fn R .ret σ fz H:=Yan hres (YiV h) (hT:=hT) (hd:=hd) (hv:=hv) (hi:=hi) (hsz:=hsz)
theorem Yel {t:Nat} {H2:HP} (hres:fn.results=#[.tmp t]) (hv:lk σ t=some v) (hp:(H'++H2).Perm H) (h:∀ fz',Le fz fz'->(∀ p∈H2,fz' p.1=some p.2)->R v fz' H'):retQ P cx n fn R .ret σ fz H:=ret1' hres hv (rOwn hp h)
theorem ret1 {t:Nat} (hres:fn.results=#[.tmp t]) (hv:lk σ t=some v) (hH:H'.Sublist H) (h:R v fz H'):retQ P cx n fn R .ret σ fz H:=ret1' hres hv (YgM hH h)
theorem ret2 {t u:Nat} {x:Value} (hres:fn.results=#[.tmp t,.tmp u]) (hv:lk σ t=some v) (hx:lk σ u=some x) (hH:H'.Sublist H) (h:R (.tuple #[v,x]) fz H'):retQ P cx n fn R .ret σ fz H:=ret2' hres hv hx (YgM hH h)
theorem ret1z (_:H'=H') {t:Nat} (hres:fn.results=#[.tmp t]) (hv:lk σ t=some v) (hH:H'.Sublist H) (h:R v fz H'):retQ P cx n fn R .ret σ fz H:=ret1 hres hv hH h
theorem ret2z (_:H'=H') {t u:Nat} {x:Value} (hres:fn.results=#[.tmp t,.tmp u]) (hv:lk σ t=some v) (hx:lk σ u=some x) (hH:H'.Sublist H) (h:R (.tuple #[v,x]) fz H'):retQ P cx n fn R .ret σ fz H:=ret2 hres hv hx hH h
end
end
theorem Does.of {P:Program} {cx:Cx} {r:Operand->Option Value} {K:Value->FZ->HP->Prop} (h:∀ ρ w,Reads r ρ->Inv cx fz H w->Yay P (fun v w'=>∃ fz' H',Inv cx fz' H' w'/\K v fz' H') ((execOp ρ o).run P w)):Does P cx o r fz H K:=h
theorem Does.run {P:Program} {cx:Cx} {r:Operand->Option Value} {K:Value->FZ->HP->Prop} (h:Does P cx o r fz H K):∀ ρ w,Reads r ρ->Inv cx fz H w->Yay P (fun v w'=>∃ fz' H',Inv cx fz' H' w'/\K v fz' H') ((execOp ρ o).run P w):=h
theorem DoesQ.of {P:Program} {cx:Cx} {r:Operand->Option Value} {V:Value->Prop} (hv:V v) (h:∀ ρ w,Reads r ρ->Inv cx fz H w->Yay P (fun v' w'=>v'=v/\Fr [] w w') ((execOp ρ o).run P w)):DoesQ P cx o r fz H V:=⟨v,hv,h⟩
theorem Wp.of {P:Program} {cx:Cx} {c:Code} {σ:Env} {Q:QQ} (h:∀ a w,Sat n σ a->Inv cx fz H w->c.wp P (lift cx n Q) a w):Wp P cx n c σ fz H Q:=h
theorem Wp.run {P:Program} {cx:Cx} {c:Code} {σ:Env} {Q:QQ} (h:Wp P cx n c σ fz H Q):∀ a w,Sat n σ a->Inv cx fz H w->c.wp P (lift cx n Q) a w:=h
theorem Seq.of {P:Program} {cx:Cx} {ops:Array Oper} {l:List Oper} {σ:Env} {Q:QQ} (h:∀ a w,Sat n σ a->Inv cx fz H w->wpList P ops (lift cx n Q) l a w):Seq P cx n ops l σ fz H Q:=h
theorem Seq.run {P:Program} {cx:Cx} {ops:Array Oper} {l:List Oper} {σ:Env} {Q:QQ} (h:Seq P cx n ops l σ fz H Q):∀ a w,Sat n σ a->Inv cx fz H w->wpList P ops (lift cx n Q) l a w:=h
theorem GFn.of {P:Program} {f:FuncId} {args:List Value} {R:Value->FZ->HP->Prop} (hc:Ya4 P f) (h:∀ w,Hp fz H w->Calls P f args.toArray w fun e w'=>∃ v fz' H',e=.returned v/\R v fz' H'/\Hp fz' H' w'/\Fr (H.map Prod.fst) w w'/\New w.heap.size (H.map Prod.fst) fz fz' H'):GFn P f args fz H R:=⟨hc,h⟩
theorem GFn.out {P:Program} {f:FuncId} {args:List Value} {fz:FZ} {H:HP} {R:Value->FZ->HP->Prop} (h:GFn P f args fz H R):∀ w,Hp fz H w->Calls P f args.toArray w fun e w'=>∃ v fz' H',e=.returned v/\R v fz' H'/\Hp fz' H' w'/\Fr (H.map Prod.fst) w w'/\New w.heap.size (H.map Prod.fst) fz fz' H':=h.2
theorem QFn.out {P:Program} {f:FuncId} {args:List Value} (h:QFn P f args fz v):∀ w,Hp fz [] w->Calls P f args.toArray w fun e w'=>e=.returned v/\Fr [] w w':=h.2
attribute [irreducible] DoesQ Does Wp Seq QL QK Ch PK Po GFn QFn andThen blkQ loopQ retQ
end Go.Lx
