/- The texts Data, Own, Map, SMap, GData, PData, laid together. Conditions: none. -/
import Derived.Test.YtfjopfinkdhmaaaGreatDoorRZC
import Derived.Maps.AppendAt
set_option linter.all false
namespace Go.Lx
open Go.RowKit
variable [Dr]
set_option linter.unusedSectionVars false
structure Lay (α:Type) where
 size:Nat
 rep:FZ->α->List Value->Prop
 len:∀ {fz d cs},rep fz d cs->cs.length=size
 mono:∀ {fz fz' d cs},Le fz fz'->rep fz d cs->rep fz' d cs
def At {α:Type} (L:Lay α) (fz:FZ) (p:Addr) (d:α):Prop:=∃ cs,L.rep fz d cs/\Row fz p cs
variable {fz fz':FZ}
theorem At.mono {α:Type} {L:Lay α} (h:Le fz fz') {p:Addr} {d:α} (ha:At L fz p d):At L fz' p d:=by
 obtain ⟨cs,h1,h2⟩:=ha;exact ⟨cs,L.mono h h1,h2.mono h⟩
structure Sl {α:Type} (L:Lay α) (fz:FZ) (A:Option Addr) (n c:Nat) (xs:List α):Prop where
 len:xs.length=n
 cap:n<=c
 max:c<=9223372036854775807
 short:n<=140737488355328
 elem:n=0\/∃ ad,A=some ad/\∀ i d,xs[i]?=some d->At L fz (ad.add (i*L.size)) d
variable {A:Option Addr} {c:Nat}
theorem Sl.mono {α:Type} {L:Lay α} (h:Le fz fz') {n:Nat} {xs:List α} (hs:Sl L fz A n c xs):Sl L fz' A n c xs:=
 ⟨hs.len,hs.cap,hs.max,hs.short,hs.elem.imp id fun ⟨ad,h1,h2⟩=>⟨ad,h1,fun i d hd=>(h2 i d hd).mono h⟩⟩
theorem Sl.nil {α:Type} {L:Lay α} (hc:c<=9223372036854775807):Sl L fz A 0 c ([]:List α):=⟨rfl,Z0 _,hc,Z0 _,.inl rfl⟩
def I64 (n:Int):Prop:= -9223372036854775808<=n/\n<=9223372036854775807
def intL:Lay Int where
 size:=1
 rep:=fun _ n cs=>cs=[Zk n]/\I64 n
 len:=fun h=>by simp [h.1]
 mono:=fun _ h=>h
def strL:Lay Bs where
 size:=1
 rep:=fun _ s cs=>cs=[.string s]/\s.size<=9223372036854775807
 len:=fun h=>by simp [h.1]
 mono:=fun _ h=>h
def slL {α:Type} (L:Lay α):Lay (List α) where
 size:=1
 rep:=fun fz xs cs=>∃ A n c,cs=[.slice A n c]/\Sl L fz A n c xs
 len:=fun ⟨_,_,_,h,_⟩=>by simp [h]
 mono:=fun hle ⟨A,n,c,h,hs⟩=>⟨A,n,c,h,hs.mono hle⟩
section
variable {P:Program} {cx:Cx} {r:Operand->Option Value} {fz:FZ} {H:HP} {V:Value->Prop} {dst:Option Nat} {ty:TypeId} {pos:String} {af:Array Edge} {gd:Option (Nat × Bool)} {α:Type} {L:Lay α}
variable {X Y:Ty} {t:TypeId} {x:Operand}
theorem YaU (T:Tab P) {e:TypeId} {i:Operand} {n:Nat} {k:IntKind} {j:Int} {xs:List α} {d:α} (m:Nat) (hT:T.inf t=some X) (hd:X.desc=.slice e) (hY:T.inf e=some Y) (hL:Y.size=L.size)
 (hx:r x=some (.slice A n c)) (hi:r i=some (.int k j)) (h:Sl L fz A n c xs) (hj:j=m) (hm:xs[m]?=some d) (hV:∀ p,At L fz p d->V (.pointer (some p))):DoesQ P cx ⟨dst,.indexAddr t x i,ty,pos,af,gd⟩ r fz H V:=by
 have hlt:m<xs.length:=(Zg hm).1;have h1:=h.len;rcases h.elem with h2 | ⟨ad,rfl,h2⟩
 ·omega
 subst hj;refine Ydj T hT hd hY hx hi Zi Zi (hV _ ?_);rw [hL];simpa using h2 m d hm
theorem YmG (T:Tab P) {p:Addr} {d:α} (hT:T.inf t=some X) (hd:W2 X.desc=true) (hx:r x=some (.pointer (some p))) (h:At L fz p d) (hs:X.size=L.size)
 (hV:∀ cs,L.rep fz d cs->V (.agg cs.toArray)):DoesQ P cx ⟨dst,.load t x,ty,pos,af,gd⟩ r fz H V:=by
 obtain ⟨cs,h1,h2⟩:=h;exact YgA T hT hd hx h2 (hs.trans (L.len h1).symm) (hV cs h1)
theorem At.cell {p:Addr} {d:α} (h:At L fz p d) (hs:L.size=1):∃ v,L.rep fz d [v]/\YcR fz p=some v:=by
 obtain ⟨cs,h1,h2⟩:=h;have:=L.len h1;rw [hs] at this
 match cs,this with
 | [v],_=>
  refine ⟨v,h1,?_⟩;have:=h2 0 v rfl;simpa [Addr.add] using this
theorem XG (T:Tab P) {p:Addr} {d:Int} (hT:T.inf t=some X) (hd:W2 X.desc=false) (hx:r x=some (.pointer (some p))) (h:At intL fz p d) (hV:I64 d->V (Zk d)):DoesQ P cx ⟨dst,.load t x,ty,pos,af,gd⟩ r fz H V:=by
 obtain ⟨v,h1,h2⟩:=h.cell rfl;obtain ⟨he,hi⟩:=h1;injection he with he
 subst he;exact Yb8 T hT hd hx h2 (hV hi)
theorem Ylt (T:Tab P) {p:Addr} {d:Bs} (hT:T.inf t=some X) (hd:W2 X.desc=false) (hx:r x=some (.pointer (some p))) (h:At strL fz p d) (hV:d.size<=9223372036854775807->V (.string d)):DoesQ P cx ⟨dst,.load t x,ty,pos,af,gd⟩ r fz H V:=by
 obtain ⟨v,h1,h2⟩:=h.cell rfl;obtain ⟨he,hi⟩:=h1;injection he with he
 subst he;exact Yb8 T hT hd hx h2 (hV hi)
theorem Ybh (T:Tab P) {p:Addr} {d:List α} (hT:T.inf t=some X) (hd:W2 X.desc=false) (hx:r x=some (.pointer (some p))) (h:At (slL L) fz p d) (hV:∀ A n c,Sl L fz A n c d->V (.slice A n c)):DoesQ P cx ⟨dst,.load t x,ty,pos,af,gd⟩ r fz H V:=by
 obtain ⟨v,h1,h2⟩:=h.cell rfl;obtain ⟨A,n,c,he,hs⟩:=h1;injection he with he
 subst he;exact Yb8 T hT hd hx h2 (hV A n c hs)
end
theorem At.part {α β:Type} {L:Lay α} {L':Lay β} {p:Addr} {d:α} {d':β} (h:At L fz p d) (i:Nat) (hr:∀ cs,L.rep fz d cs->∃ v,cs[i]?=some v/\L'.rep fz d' [v]):At L' fz (p.add i) d':=by
 obtain ⟨cs,h1,h2⟩:=h;obtain ⟨v,h3,h4⟩:=hr cs h1;refine ⟨[v],h4,fun j u hj=>?_⟩;cases j with
 | zero=>
  simp at hj;subst hj;have:(p.add i).add 0=p.add i:=by simp [Addr.add]
  rw [this];exact h2 i v h3
 | succ j=>simp at hj
structure Fact where
 var:Int
 val:Int
def factL:Lay Fact where
 size:=2
 rep:=fun _ f cs=>cs=[Zk f.var,Zk f.val]/\I64 f.var/\I64 f.val
 len:=fun h=>by simp [h.1]
 mono:=fun _ h=>h
theorem At.var {p:Addr} {f:Fact} (h:At factL fz p f):At intL fz (p.add 0) f.var:=h.part 0 fun _ h=>⟨_,by rw [h.1];rfl,rfl,h.2.1⟩
theorem At.val {p:Addr} {f:Fact} (h:At factL fz p f):At intL fz (p.add 1) f.val:=h.part 1 fun _ h=>⟨_,by rw [h.1];rfl,rfl,h.2.2⟩
structure Job where
 name:Bs
 dur:Int
 start:List Fact
 over:List Fact
 fin:List Fact
 atStart:List Fact
 atEnd:List Fact
structure JobR (fz:FZ) (j:Job) (A1:Option Addr) (n1 c1:Nat) (A2:Option Addr) (n2 c2:Nat) (A3:Option Addr) (n3 c3:Nat) (A4:Option Addr) (n4 c4:Nat) (A5:Option Addr) (n5 c5:Nat):Prop where
 name:j.name.size<=9223372036854775807
 dur:I64 j.dur
 start:Sl factL fz A1 n1 c1 j.start
 over:Sl factL fz A2 n2 c2 j.over
 fin:Sl factL fz A3 n3 c3 j.fin
 atStart:Sl factL fz A4 n4 c4 j.atStart
 atEnd:Sl factL fz A5 n5 c5 j.atEnd
def jobL:Lay Job where
 size:=7
 rep:=fun fz j cs=>∃ A1 n1 c1 A2 n2 c2 A3 n3 c3 A4 n4 c4 A5 n5 c5,cs=[.string j.name,Zk j.dur,.slice A1 n1 c1,.slice A2 n2 c2,.slice A3 n3 c3,.slice A4 n4 c4,.slice A5 n5 c5]/\JobR fz j A1 n1 c1 A2 n2 c2 A3 n3 c3 A4 n4 c4 A5 n5 c5
 len:=fun ⟨_,_,_,_,_,_,_,_,_,_,_,_,_,_,_,h,_⟩=>by simp [h]
 mono:=fun hle ⟨A1,n1,c1,A2,n2,c2,A3,n3,c3,A4,n4,c4,A5,n5,c5,h,hj⟩=>⟨A1,n1,c1,A2,n2,c2,A3,n3,c3,A4,n4,c4,A5,n5,c5,h,⟨hj.name,hj.dur,hj.start.mono hle,hj.over.mono hle,hj.fin.mono hle,hj.atStart.mono hle,hj.atEnd.mono hle⟩⟩
section
variable {fz:FZ} {p:Addr} {j:Job}
theorem At.name (h:At jobL fz p j):At strL fz (p.add 0) j.name:=h.part 0 fun _ ⟨_,_,_,_,_,_,_,_,_,_,_,_,_,_,_,h,hj⟩=>⟨_,by rw [h];rfl,rfl,hj.name⟩
theorem At.dur (h:At jobL fz p j):At intL fz (p.add 1) j.dur:=h.part 1 fun _ ⟨_,_,_,_,_,_,_,_,_,_,_,_,_,_,_,h,hj⟩=>⟨_,by rw [h];rfl,rfl,hj.dur⟩
theorem At.start (h:At jobL fz p j):At (slL factL) fz (p.add 2) j.start:=h.part 2 fun _ ⟨_,_,_,_,_,_,_,_,_,_,_,_,_,_,_,h,hj⟩=>⟨_,by rw [h];rfl,_,_,_,rfl,hj.start⟩
theorem At.over (h:At jobL fz p j):At (slL factL) fz (p.add 3) j.over:=h.part 3 fun _ ⟨_,_,_,_,_,_,_,_,_,_,_,_,_,_,_,h,hj⟩=>⟨_,by rw [h];rfl,_,_,_,rfl,hj.over⟩
theorem At.fin (h:At jobL fz p j):At (slL factL) fz (p.add 4) j.fin:=h.part 4 fun _ ⟨_,_,_,_,_,_,_,_,_,_,_,_,_,_,_,h,hj⟩=>⟨_,by rw [h];rfl,_,_,_,rfl,hj.fin⟩
theorem At.atStart (h:At jobL fz p j):At (slL factL) fz (p.add 5) j.atStart:=h.part 5 fun _ ⟨_,_,_,_,_,_,_,_,_,_,_,_,_,_,_,h,hj⟩=>⟨_,by rw [h];rfl,_,_,_,rfl,hj.atStart⟩
theorem At.atEnd (h:At jobL fz p j):At (slL factL) fz (p.add 6) j.atEnd:=h.part 6 fun _ ⟨_,_,_,_,_,_,_,_,_,_,_,_,_,_,_,h,hj⟩=>⟨_,by rw [h];rfl,_,_,_,rfl,hj.atEnd⟩
end
structure Temporal where
 vars:List Int
 init:List Int
 goal:List Fact
 jobs:List Job
structure TempR (fz:FZ) (t:Temporal) (A1:Option Addr) (n1 c1:Nat) (A2:Option Addr) (n2 c2:Nat) (A3:Option Addr) (n3 c3:Nat) (A4:Option Addr) (n4 c4:Nat):Prop where
 vars:Sl intL fz A1 n1 c1 t.vars
 init:Sl intL fz A2 n2 c2 t.init
 goal:Sl factL fz A3 n3 c3 t.goal
 jobs:Sl jobL fz A4 n4 c4 t.jobs
theorem TempR.mono (hle:Le fz fz') {t:Temporal} {A1:Option Addr} {n1 c1:Nat} {A2:Option Addr} {n2 c2:Nat} {A3:Option Addr} {n3 c3:Nat} {A4:Option Addr} {n4 c4:Nat} (h:TempR fz t A1 n1 c1 A2 n2 c2 A3 n3 c3 A4 n4 c4):TempR fz' t A1 n1 c1 A2 n2 c2 A3 n3 c3 A4 n4 c4:=
 ⟨h.vars.mono hle,h.init.mono hle,h.goal.mono hle,h.jobs.mono hle⟩
end Go.Lx
namespace Go.Lx
open Go.RowKit
set_option linter.unusedSectionVars false
def OwnS (e size:Nat) (v:Value) (n:Nat) (xs:List Value) (Hs:HP):Prop:=
 xs.length=n*size/\((v=Zn/\n=0/\Hs=[])\/
  ∃ g cap cur,v=Zv g n cap/\Hs=[(g,.cells cur e (0,0))]/\n<=cap/\cap<=maxLen/\cur.size=cap*size/\cur.toList.take (n*size)=xs)
theorem OwnS.nil (e size:Nat):OwnS e size Zn 0 [] []:=⟨by simp,.inl ⟨rfl,rfl,rfl⟩⟩
variable {Hs:HP} {v:Value}
theorem OwnS.form {e size n:Nat} {xs:List Value} (h:OwnS e size v n xs Hs):∃ A c,v=.slice A n c/\n<=c/\c<=9223372036854775807:=by
 rcases h.2 with ⟨h1,h2,_⟩ | ⟨g,cap,cur,h1,_,h3,h4,_⟩
 ·subst h2;exact ⟨none,0,h1,Zs _,by omega⟩
 exact ⟨_,cap,h1,h3,by simpa [maxLen] using h4⟩
variable {cs:List Value} {g:Nat}
theorem OwnS.of_block {e size n:Nat} (hl:cs.length=n*size) (hn:n<=maxLen):OwnS e size (Zv g n n) n cs [(g,.cells cs.toArray e (0,0))]:=
 ⟨hl,.inr ⟨g,n,cs.toArray,rfl,rfl,Zs _,hn,by simpa using hl,by simp [<- hl]⟩⟩
section
variable {P:Program} {cx:Cx} {r:Operand->Option Value} {fz:FZ} {H:HP} {dst:Option Nat} {ty:TypeId} {pos:String} {af:Array Edge} {gd:Option (Nat × Bool)}
section
variable [Dr]
theorem Does.perm {o:Oper} {H':HP} {K:Value->FZ->HP->Prop} (hp:H'.Perm H) (h:Does P cx o r fz H' K):Does P cx o r fz H K:=
 Does.of fun ρ w hr hi=>h.run ρ w hr (hi.perm hp)
end
variable {Hr:HP} {w w':World}
theorem Inv.appended {Hs':HP} {e size n m:Nat} {v':Value} {xs ys:List Value} (h:Inv cx fz (Hr++Hs) w) (ho:OwnS e size v n xs Hs) (hg:w.grownBy w' v.ownBlock)
 (ho':OwnS e size v' m ys Hs') (hw':∀ p∈Hs',w'.heap[p.1]?=some p.2) (hb:v'.ownBlock=v.ownBlock\/v'.ownBlock=some w.heap.size):Inv cx fz (Hr++Hs') w':=by
 obtain ⟨⟨a,b,c⟩,⟨d,ee,f,gg,i⟩,⟨j,k,l⟩⟩:=h;rw [List.map_append,List.nodup_append] at c
 -- the row that may have been written
 have hrow:∀ g,v.ownBlock=some g->∃ o,Hs=[(g,o)]:=by
  intro g hgv;rcases ho.2 with ⟨h1,_,_⟩ | ⟨g',cap,cur,h1,h2,_⟩
  ·subst h1;simp [Value.ownBlock] at hgv
  subst h1;simp [Value.ownBlock] at hgv;subst hgv;exact ⟨_,h2⟩
 have hsame:∀ x,x<w.heap.size->(∀ o,Hs≠ [(x,o)])->w'.heap[x]?=w.heap[x]?:=fun x hx hn=>hg.block x hx (fun he=>by
  obtain ⟨o,ho⟩:=hrow x he.symm;exact hn o ho)
 have hnotfz:∀ x q,fz x=some q->∀ o,Hs≠ [(x,o)]:=fun x q hx o he=>by
  have:=(b (x,o) (by rw [he];simp)).2;rw [hx] at this;cases this
 have hnotr:∀ p∈Hr,∀ o,Hs≠ [(p.1,o)]:=fun p hp o he=>c.2.2 p.1 (List.mem_map.2 ⟨p,hp,rfl⟩) p.1 (by rw [he];simp) rfl
 -- the new row's block
 have hform:Hs'=[]\/∃ g o,Hs'=[(g,o)]/\((∃ o',Hs=[(g,o')])\/g=w.heap.size):=by
  rcases ho'.2 with ⟨_,_,h3⟩ | ⟨g,cap,cur,h1,h2,_⟩
  ·exact .inl h3
  refine .inr ⟨g,_,h2,?_⟩;subst h1;rcases hb with hb | hb
  ·exact .inl (hrow g (by rw [<- hb];rfl))
  right;simpa [Value.ownBlock] using hb
 have hnew:fz w.heap.size=none:=by
  cases hq:fz w.heap.size with
  | none=>rfl
  | some q=>have:=lt_of_heap (a _ _ hq);omega
 refine ⟨⟨fun x q hx=>?_,fun p hp=>?_,?_⟩,⟨hg.os.trans d,hg.tape.trans ee,hg.output.trans f,by have:=hg.size;omega,fun x hx hn=>?_,fun h=>h.elim⟩,⟨j,k,fun p hp=>?_⟩⟩
 ·have:=a x q hx;rw [hsame x (lt_of_heap this) (hnotfz x q hx)];exact this
 ·rcases List.mem_append.1 hp with hp | hp
  ·have:=b p (by simp [hp]);exact ⟨by rw [hsame p.1 (lt_of_heap this.1) (hnotr p hp)];exact this.1,this.2⟩
  refine ⟨hw' p hp,?_⟩;rcases hform with h1 | ⟨g,o,h1,h2⟩
  ·rw [h1] at hp;cases hp
  rw [h1] at hp;simp at hp;subst hp;rcases h2 with ⟨o',h2⟩ | h2
  ·exact (b (g,o') (by rw [h2];simp)).2
  subst h2;exact hnew
 ·rw [List.map_append,List.nodup_append];rcases hform with h1 | ⟨g,o,h1,h2⟩
  ·rw [h1];simp;exact c.1
  rw [h1];refine ⟨c.1,by simp,fun x hx y hy hxy=>?_⟩;simp at hy;subst hy;subst hxy;obtain ⟨q,hq,rfl⟩:=List.mem_map.1 hx;rcases h2 with ⟨o',h2⟩ | h2
  ·exact hnotr q hq o' h2
  have:=lt_of_heap (b q (by simp [hq])).1;omega
 ·rw [hsame x Zi (fun o he=>by
   have:=l (x,o) (by rw [he];simp);rcases this with h1 | h1
   ·exact hn h1
   have h2:cx.w0.heap.size<=x:=h1;omega)]
  exact i x hx hn
 rcases List.mem_append.1 hp with hp | hp
 ·exact l p (by simp [hp])
 rcases hform with h1 | ⟨g,o,h1,h2⟩
 ·rw [h1] at hp;cases hp
 rw [h1] at hp;simp at hp;subst hp;rcases h2 with ⟨o',h2⟩ | h2
 ·exact l (g,o') (by rw [h2];simp)
 exact .inr Zi
theorem OwnS.owns {e size n:Nat} {xs:List Value} (h:OwnS e size v n xs Hs) (hi:Inv cx fz (Hr++Hs) w):w.ownsRow 0 e size v n xs:=by
 refine ⟨h.1,?_⟩;rcases h.2 with ⟨h1,h2,_⟩ | ⟨g,cap,cur,h1,h2,h3,h4,h5,h6⟩
 ·exact .inl ⟨h1,h2⟩
 exact .inr ⟨g,cap,cur,h1,Z0 _,(hi.hp.own (g,.cells cur e (0,0)) (by rw [h2];simp)).1,h3,h4,h5,h6⟩
theorem OwnS.of_owns {e size n:Nat} {xs:List Value} (h:w.ownsRow 0 e size v n xs):∃ Hs,OwnS e size v n xs Hs/\∀ p∈Hs,w.heap[p.1]?=some p.2:=by
 obtain ⟨h1,h2⟩:=h;rcases h2 with ⟨h2,h3⟩ | ⟨g,cap,cur,h2,_,h4,h5,h6,h7,h8⟩
 ·exact ⟨[],⟨h1,.inl ⟨h2,h3,rfl⟩⟩,by simp⟩
 exact ⟨[(g,.cells cur e (0,0))],⟨h1,.inr ⟨g,cap,cur,h2,rfl,h5,h6,h7,h8⟩⟩,by simpa using h4⟩
variable {B:Option Addr} {X Y:Ty} {c:Nat} {t:TypeId} {x y:Operand}
theorem Ye4 (T:Tab P) {e:TypeId} {n m:Nat} {xs news:List Value} {K:Value->FZ->HP->Prop} (hT:T.inf t=some X) (hd:X.desc=.slice e) (hY:T.inf e=some Y) (hz:Y.zero.cells.size=Y.size) (hsz:Nat.blt 0 Y.size=true)
 (hx:r x=some v) (hy:r y=some (.slice B m c)) (hp:H.Perm (Hr++Hs)) (ho:OwnS e Y.size v n xs Hs)
 (hl:news.length=m*Y.size) (hs:m=0\/∃ ad,B=some ad/\∀ w,Inv cx fz H w->∀ j u,news[j]?=some u->w.cell? (ad.add j)=some u) (h1:∀ u∈news,u.oneCell'=true) (hb:(n+m)*Y.bytes<=140737488355328) (hm:n+m<=9223372036854775807)
 (h:∀ v' Hs',OwnS e Y.size v' (n+m) (xs++news) Hs'->K v' fz (Hr++Hs')):
 Does P cx ⟨dst,.call {callee:=.builtin .append,args:=#[x,y],argTypes:=#[t,t]},ty,pos,af,gd⟩ r fz H K:=by
 refine Does.of fun ρ w hr hi=>?_
 have hi':=hi.perm hp.symm;obtain ⟨i,hinf,g1,g2,g3⟩:=(T.ok_ hY).info;have hown:=ho.owns hi';have hund:=und_plain T hT hd rfl;have hexec:∀ res,(Builtin.append_ #[t,t] ty #[v,.slice B m c]).run P w=res->(execOp ρ ⟨dst,.call {callee:=.builtin .append,args:=#[x,y],argTypes:=#[t,t]},ty,pos,af,gd⟩).run P w=res.andThen fun u w'=>.ok (.value u) w':=by
  intro res hres;simp only [execOp,resolve,invoke,builtin,Sem.run_bind,Sem.run_pure,Result.andThen_ok,List.map_toArray,List.map_cons,List.map_nil,hr _ _ hx,hr _ _ hy,hres]
 by_cases hB:B=none
 ·-- a nil source
  subst hB;have hm0:m=0:=by
   rcases hs with h0 | ⟨ad,he,_⟩
   ·exact h0
   cases he
  subst hm0;have hn:news=[]:=List.eq_nil_of_length_eq_zero (by simpa using hl);subst hn;have hrun:(Builtin.append_ #[t,t] ty #[v,.slice none 0 c]).run P w=.ok v w:=by
   rcases hown.2 with ⟨rfl,rfl⟩ | ⟨g,cap,cur,rfl,_,_,hnc,_⟩
   ·simp [Builtin.append_,run_underlying hund,sizeOf,typeInfo,hinf,Builtin.lenOf,Builtin.firstCells]
   simp [Builtin.append_,run_underlying hund,sizeOf,typeInfo,hinf,Builtin.lenOf,Builtin.firstCells,hnc,storeCells]
  rw [hexec _ hrun];exact ⟨fz,_,hi',h v Hs (by simpa using ho)⟩
 obtain ⟨ad,rfl⟩:∃ ad,B=some ad:=by cases B with | none=>exact absurd rfl hB | some ad=>exact ⟨ad,rfl⟩
 have hcells:∀ j u,news[j]?=some u->w.cell? (ad.add j)=some u:=by
  intro j u hu;rcases hs with h0 | ⟨ad',he,hc⟩
  ·subst h0;have hn:news=[]:=List.eq_nil_of_length_eq_zero (by simpa using hl);subst hn;simp at hu
  injection he with he
  subst he;exact hc w hi j u hu
 have hsz':0<Y.size:=by simpa [Nat.blt_eq] using hsz
 obtain ⟨v',w',hrun,h2,h3,_,h5⟩:=run_append_own_at (P:=P) w 0 t ty e i Y.zero Y.size Y.bytes hund hinf g3 g1 g2 hz hsz' v n xs hown ad m c news hl hcells h1 (by simpa [maxLen] using hm) hb (Z0 _);obtain ⟨Hs',h6,h7⟩:=OwnS.of_owns h2;rw [hexec _ hrun];exact ⟨fz,_,hi'.appended ho h3 h6 h7 h5,h v' Hs' h6⟩
theorem src_row {m:Nat} {news:List Value} (h:m=0\/∃ ad,B=some ad/\Row fz ad news):m=0\/∃ ad,B=some ad/\∀ w,Inv cx fz H w->∀ j u,news[j]?=some u->w.cell? (ad.add j)=some u:=
 h.imp id fun ⟨ad,h1,h2⟩=>⟨ad,h1,fun _ hi j u hu=>hi.hp.cell (h2 j u hu)⟩
theorem Yjy {m:Nat} {news:List Value} (hp:(g,Obj.cells news.toArray t (0,0))∈H):m=0\/∃ ad,(some (⟨g,0,none⟩:Addr))=some ad/\∀ w,Inv cx fz H w->∀ j u,news[j]?=some u->w.cell? (ad.add j)=some u:=
 .inr ⟨_,rfl,fun w hi j u hu=>by
  have hadd:(⟨g,0,none⟩:Addr).add j=⟨g,j,none⟩:=by unfold Addr.add;split<;>simp_all
  rw [hadd,cell_of_row w g j news.toArray t (0,0) (hi.hp.own _ hp).1];simpa using hu⟩
variable [Dr]
theorem Yci (T:Tab P) {e:TypeId} {K:Value->FZ->HP->Prop} (hT:T.inf t=some X) (hd:X.desc=.slice e) (hY:T.inf e=some Y)
 (h:∀ g,K (Zv g 0 0) fz ((g,.cells #[] e (0,0))::H)):Does P cx ⟨dst,.buildSlice t 0 #[],ty,pos,af,gd⟩ r fz H K:=by
 refine Does.of fun ρ w hr hw=>?_
 have hu:=run_underlying (und_plain T hT hd rfl) w;have hsz:=run_sizeOf T hY w;have:(execOp ρ ⟨dst,.buildSlice t 0 #[],ty,pos,af,gd⟩).run P w=.ok (.value (.slice (some ⟨w.heap.size,0,none⟩) 0 0)) (w.alloc (.cells #[] e (0,0))):=by
  simp [execOp,Instr.buildSlice,hu,hsz,Instr.fill,newRow,newObj,Sem.run,Array.range_zero']
 rw [this];exact ⟨fz,_,hw.alloc _,h _⟩
variable {A:Option Addr}
theorem YbD (T:Tab P) {t':TypeId} {e:TypeId} {n:Nat} {V:Value->Prop} (hT:T.inf t=some X) (hd:X.desc=.slice e) (hx:r x=some (.slice A n c)) (hy:r (.const Zn)=some Zn) (h1:A=none->V (.bool true)) (h2:A≠none->V (.bool false)):
 DoesQ P cx ⟨dst,.binOp .eql t x (.const Zn) t',ty,pos,af,gd⟩ r fz H V:=by
 have hu:=fun w=>run_underlying (und_plain T hT hd rfl) w
 have hrun:∀ w,(Op.equal t (.slice A n c) Zn).run P w=.ok A.isNone w:=fun w=>by
  have:∀ d:Nat,(Op.equalIn (d+1) t (.slice A n c) Zn).run P w=.ok A.isNone w:=fun d=>by
   unfold Op.equalIn;cases A<;>simp only [Sem.run_bind,hu,Result.andThen_ok,Sem.run_pure,Option.isNone_none,Option.isNone_some]
  exact this 9999
 cases A with
 | none=>exact YJ (fun ρ w hr=>by simp only [execOp,hr _ _ hx,hr _ _ hy,Sem.run_bind,eqGuard_at_slice,Sem.run_pure,Result.andThen_ok,binOp,hrun,Option.isNone_none]) (h1 rfl)
 | some ad=>exact YJ (fun ρ w hr=>by simp only [execOp,hr _ _ hx,hr _ _ hy,Sem.run_bind,eqGuard_at_slice,Sem.run_pure,Result.andThen_ok,binOp,hrun,Option.isNone_some]) (h2 (by simp))
def RowS (fz:FZ) (A:Option Addr) (n:Nat) (xs:List Value):Prop:=n=0\/∃ ad,A=some ad/\Row fz ad xs
theorem Wp.freezeAll {n:Nat} {c:Code} {σ:Env} {Q:QQ} {H1 H2:HP} (hp:H.Perm (H1++H2)) (h:∀ fz',Le fz fz'->(∀ p∈H2,fz' p.1=some p.2)->Wp P cx n c σ fz' H1 Q):Wp P cx n c σ fz H Q:=
 Wp.of fun a w hs hi=>by
  obtain ⟨fz',h1,h2,h3⟩:=WK H2 fz H1 (hi.perm hp.symm);exact (h fz' h1 h2).run a w hs h3
theorem Seq.freezeAll {n:Nat} {ops:Array Oper} {l:List Oper} {σ:Env} {Q:QQ} {H1 H2:HP} (hp:H.Perm (H1++H2)) (h:∀ fz',Le fz fz'->(∀ p∈H2,fz' p.1=some p.2)->Seq P cx n ops l σ fz' H1 Q):Seq P cx n ops l σ fz H Q:=
 Seq.of fun a w hs hi=>by
  obtain ⟨fz',h1,h2,h3⟩:=WK H2 fz H1 (hi.perm hp.symm);exact (h fz' h1 h2).run a w hs h3
variable {fz':FZ}
theorem OwnS.row {e size n:Nat} {xs:List Value} (h:OwnS e size v n xs Hs) (hf:∀ p∈Hs,fz' p.1=some p.2):∃ A c,v=.slice A n c/\n<=c/\c<=9223372036854775807/\RowS fz' A n xs:=by
 rcases h.2 with ⟨h1,h2,_⟩ | ⟨g,cap,cur,h1,h2,h3,h4,h5,h6⟩
 ·subst h2;exact ⟨none,0,h1,Zs _,by omega,.inl rfl⟩
 refine ⟨_,cap,h1,h3,by simpa [maxLen] using h4,.inr ⟨_,rfl,fun j u hu=>?_⟩⟩;have hadd:(⟨g,0,none⟩:Addr).add j=⟨g,j,none⟩:=by unfold Addr.add;split<;>simp_all
 have hg:=hf (g,.cells cur e (0,0)) (by rw [h2];simp);rw [hadd];simp only [YcR,hg];have h7:(cur.toList.take (n*size))[j]?=some u:=by rw [h6];exact hu
 rw [List.getElem?_take] at h7;split at h7
 ·simpa using h7
 cases h7
theorem RowS.sl {α:Type} {L:Lay α} {fz:FZ} {n:Nat} {xs:List Value} {ds:List α} (h:RowS fz A n xs) (hn:n<=c) (hc:c<=9223372036854775807) (hs:n<=140737488355328) (hl:ds.length=n)
 (hr:∀ i d,ds[i]?=some d->∃ cs,L.rep fz d cs/\∀ j u,cs[j]?=some u->xs[i*L.size+j]?=some u):Sl L fz A n c ds:=by
 refine ⟨hl,hn,hc,hs,?_⟩;rcases h with h | ⟨ad,h1,h2⟩
 ·exact .inl h
 refine .inr ⟨ad,h1,fun i d hd=>?_⟩;obtain ⟨cs,h3,h4⟩:=hr i d hd;refine ⟨cs,h3,fun j u hu=>?_⟩;have:=h2 _ u (h4 j u hu);have e:(ad.add (i*L.size)).add j=ad.add (i*L.size+j):=by
  unfold Addr.add;by_cases h5:i*L.size=0<;>by_cases h6:j=0<;>simp [h5,h6,Nat.add_assoc]
 rw [e];exact this
end
end Go.Lx
namespace Go.Lx
open Go.RowKit
def YnJ:List (Int × Value)->Nat->List MapEntry
 | [],_=>[]
 | (k,v)::r,i=>⟨.int .i64 k,v,i⟩::YnJ r (i+1)
def mapB (m:List (Int × Value)):Obj:=.map (YnJ m 0).toArray m.length
section
variable {P:Program} {cx:Cx} {r:Operand->Option Value} {fz:FZ} {H:HP} {dst:Option Nat} {ty:TypeId} {pos:String} {af:Array Edge} {gd:Option (Nat × Bool)} {V:Value->Prop}
variable {t:TypeId}
theorem YaP {K:Value->FZ->HP->Prop} (h:∀ g,K (.map (some g)) fz ((g,mapB [])::H)):Does P cx ⟨dst,.makeMap t none,ty,pos,af,gd⟩ r fz H K:=
 Does.of fun ρ w hr hw=>by
  have:(execOp ρ ⟨dst,.makeMap t none,ty,pos,af,gd⟩).run P w=.ok (.value (.map (some w.heap.size))) (w.alloc (mapB [])):=by
   simp [execOp,Instr.makeMap,newObj,Sem.run,mapB,YnJ]
  rw [this];exact ⟨fz,_,hw.alloc _,h _⟩
variable {g:Nat} {w:World}
theorem Inv.setObj {pre post:HP} {o o':Obj} (h:Inv cx fz (pre++(g,o)::post) w):Inv cx fz (pre++(g,o')::post) {w with heap:=w.heap.setIfInBounds g o'}:=by
 have hg:=(h.hp.own (g,o) (by simp)).1;have hlt:=lt_of_heap hg;exact h.write rfl rfl rfl (by simp) (by simp [hlt]) (fun k hk=>by simp only;rw [Array.getElem?_setIfInBounds_ne Zi])
end
def Wv:List (Bs × Value)->Nat->List MapEntry
 | [],_=>[]
 | (k,v)::r,i=>⟨.string k,v,i⟩::Wv r (i+1)
def mapS (m:List (Bs × Value)):Obj:=.map (Wv m 0).toArray m.length
theorem YfW:∀ (m:List (Bs × Value)) (i:Nat),(Wv m i).length=m.length
 | [],_=>rfl
 | (k,v)::r,i=>by simp [Wv,YfW r]
theorem YfX:∀ (m:List (Bs × Value)) (i j:Nat),(Wv m i)[j]?=(m[j]?).map fun p=>⟨.string p.1,p.2,i+j⟩
 | [],_,_=>by simp [Wv]
 | (k,v)::r,i,0=>by simp [Wv]
 | (k,v)::r,i,j+1=>by
  simp only [Wv,List.getElem?_cons_succ,YfX r (i+1) j];rw [show i+1+j=i+(j+1) from by omega]
theorem Ydf:∀ (m:List (Bs × Value)) (k:Bs) (v:Value) (i:Nat),Wv (m++ [(k,v)]) i=Wv m i++ [⟨.string k,v,i+m.length⟩]
 | [],k,v,i=>by simp [Wv]
 | (a,b)::r,k,v,i=>by
  simp only [List.cons_append,Wv,Ydf r k v (i+1),List.length_cons];rw [show i+1+r.length=i+(r.length+1) from by omega]
def fndS:List (Bs × Value)->Bs->Nat->Option (Nat × Value)
 | [],_,_=>none
 | (k,v)::r,x,i=>if x=k then some (i,v) else fndS r x (i+1)
theorem YfN:∀ (m:List (Bs × Value)) (x:Bs) (i j:Nat) (v:Value),fndS m x i=some (j,v)->i<=j/\m[j - i]?=some (x,v)
 | [],_,_,_,_,h=>by cases h
 | (k,u)::r,x,i,j,v,h=>by
  unfold fndS at h;split at h
  ·rename_i hk;injection h with h;injection h with h1 h2;subst h1 h2 hk;simp
  obtain ⟨h1,h2⟩:=YfN r x (i+1) j v h;exact ⟨by omega,by rw [show j - i=(j - (i+1))+1 from by omega];simpa using h2⟩
theorem bytes_beq (a b:Bs):(a==b)=decide (a=b):=by
 have h1:(a==b)=(a.data==b.data):=rfl;rw [h1,Bool.eq_iff_iff,beq_iff_eq,decide_eq_true_iff];exact ⟨fun h=>by cases a;cases b;simp at h;rw [h],fun h=>by rw [h]⟩
theorem YfR:∀ (m:List (Bs × Value)) (x:Bs) (i j:Nat),Instr.findNow .string (.string x) (Wv m j) i=some (fndS m x i)
 | [],_,_,_=>rfl
 | (k,v)::r,x,i,j=>by
  simp only [Wv,Instr.findNow,Instr.sameNow,fndS];by_cases h:x=k
  ·subst h;simp [bytes_beq]
  have:(x==k)=false:=by rw [bytes_beq];simpa using h
  simp only [this,if_neg h];exact YfR r x (i+1) (j+1)
def updS (m:List (Bs × Value)) (x:Bs) (v:Value):List (Bs × Value):=match fndS m x 0 with
 | some (i,_)=>m.set i (x,v)
 | none=>m++ [(x,v)]
theorem YfV:∀ (m:List (Bs × Value)) (i j:Nat) (x:Bs) (v:Value),Wv (m.set i (x,v)) j=(Wv m j).modify i fun e=>{e with key:=.string x,val:=v}
 | [],i,j,x,v=>by simp [Wv]
 | (a,b)::r,0,j,x,v=>by simp [Wv]
 | (a,b)::r,i+1,j,x,v=>by simp [Wv,YfV r i (j+1) x v]
def valS (m:List (Bs × Value)) (x:Bs):Option Value:=(fndS m x 0).map (·.2)
theorem YgL:∀ (m:List (Bs × Value)) (x:Bs) (i j:Nat),(fndS m x i).map (·.2)=(fndS m x j).map (·.2)
 | [],_,_,_=>rfl
 | (k,v)::r,x,i,j=>by
  unfold fndS;split
  ·rfl
  exact YgL r x (i+1) (j+1)
theorem valS_nil (x:Bs):valS [] x=none:=rfl
theorem YaI (k:Bs) (v:Value) (r:List (Bs × Value)) (x:Bs):valS ((k,v)::r) x=if x=k then some v else valS r x:=by
 unfold valS;rw [fndS];split
 ·rfl
 exact YgL r x 1 0
theorem Yjs (m:List (Bs × Value)) (k:Bs) (v:Value) (x:Bs) (h:valS m k=none):valS (m++ [(k,v)]) x=if x=k then some v else valS m x:=by
 induction m with
 | nil=>rw [List.nil_append,YaI]
 | cons p r ih=>
  obtain ⟨a,u⟩:=p;rw [YaI] at h;split at h
  ·cases h
  rename_i hk;rw [List.cons_append,YaI,YaI,ih h];split
  ·rename_i hx;rw [if_neg (fun h0=>hk (by rw [<- h0,hx]))]
  rfl
theorem valS_set (m:List (Bs × Value)) (i:Nat) (k:Bs) (v u:Value) (x:Bs) (h:fndS m k 0=some (i,u)):valS (m.set i (k,v)) x=if x=k then some v else valS m x:=by
 have key:∀ (m:List (Bs × Value)) (i j:Nat),fndS m k j=some (i+j,u)->valS (m.set i (k,v)) x=if x=k then some v else valS m x:=by
  intro m
  induction m with
  | nil=>intro i j h;cases h
  | cons p r ih=>
   obtain ⟨a,w⟩:=p;intro i j h;unfold fndS at h;split at h
   ·rename_i hk;injection h with h;injection h with h1 h2
    have:i=0:=by omega
    subst this hk;rw [List.set_cons_zero,YaI,YaI];split<;>rfl
   rename_i hk;have h3:=YfN r k (j+1) (i+j) u h;obtain ⟨i',rfl⟩:∃ i',i=i'+1:=⟨i - 1,by omega⟩;rw [List.set_cons_succ,YaI,YaI,ih i' (j+1) (by rw [h];congr 2;omega)];split
   ·rename_i hx;rw [if_neg (fun h0=>hk (by rw [<- h0,hx]))]
   rfl
 exact key m i 0 (by simpa using h)
theorem YeW (m:List (Bs × Value)) (k:Bs) (v:Value) (x:Bs):valS (updS m k v) x=if x=k then some v else valS m x:=by
 unfold updS;cases h:fndS m k 0 with
 | none=>exact Yjs m k v x (by unfold valS;rw [h];rfl)
 | some p=>obtain ⟨i,u⟩:=p;exact valS_set m i k v u x h
theorem Yj4 (m:List (Bs × Value)) (x:Bs) (z:Value):(fndS m x 0).elim z (·.2)=(valS m x).getD z:=by unfold valS;cases fndS m x 0<;>rfl
theorem YfE (m:List (Bs × Value)) (x:Bs):(fndS m x 0).isSome=(valS m x).isSome:=by unfold valS;cases fndS m x 0<;>rfl
section
variable {P:Program} {cx:Cx} {r:Operand->Option Value} {fz:FZ} {H:HP} {dst:Option Nat} {ty:TypeId} {pos:String} {af:Array Edge} {gd:Option (Nat × Bool)} {V:Value->Prop}
variable {g:Nat} {w:World}
theorem Yb7 {m:List (Bs × Value)} (h:w.heap[g]?=some (mapS m)):(getObj g).run P w=.ok (mapS m) w:=by
 simp [getObj,Sem.run,h,mapS]
theorem YaT (T:Tab P) {k:TypeId} {K:Ty} (hK:T.inf k=some K) (hd:K.desc=.string) (b:Bool) (x:Bs) (w:World):(Instr.checkKey b 10000 k (.string x)).run P w=.ok () w:=by
 have hu:=run_underlying (und_plain T hK hd rfl) w;have:∀ n:Nat,(Instr.checkKey b (n+1) k (.string x)).run P w=.ok () w:=fun n=>by
  unfold Instr.checkKey;simp only [Sem.run_bind,hu,Result.andThen_ok,Sem.run_pure]
 exact this 9999
theorem Ybf (T:Tab P) {k:TypeId} {K:Ty} (hK:T.inf k=some K) (hd:K.desc=.string) (x:Bs) (m:List (Bs × Value)) (w:World):(Instr.findKey k (.string x) (Wv m 0)).run P w=.ok (fndS m x 0) w:=by
 have hu:=run_underlying (und_plain T hK hd rfl) w;simp only [Instr.findKey,Sem.run_bind,hu,Result.andThen_ok,YfR,Sem.run_pure]
variable {X:Ty} {t:TypeId}
theorem Yfm (T:Tab P) {k e:TypeId} {K E:Ty} {m:List (Bs × Value)} {x:Bs} (hT:T.inf t=some X) (hd:X.desc=.map k e) (hK:T.inf k=some K) (hkd:K.desc=.string) (hE:T.inf e=some E)
 (hg:w.heap[g]?=some (mapS m)):(Instr.lookup t (.map (some g)) (.string x) false).run P w=.ok ((fndS m x 0).elim E.zero (·.2)) w:=by
 have hu:=run_underlying (und_plain T hT hd rfl) w;have hz:=YcZ T hE w;simp only [Instr.lookup,Sem.run_bind,hu,Result.andThen_ok,Yb7 hg,mapS,Sem.run_pure,YaT T hK hkd,Ybf T hK hkd];cases hf:fndS m x 0 with
 | none=>simp [hz]
 | some p=>simp
variable {y:Operand}
theorem Yhf (T:Tab P) {k e:TypeId} {z:Operand} {K E:Ty} {m:List (Bs × Value)} {x:Bs} (i:Nat) (hT:T.inf t=some X) (hd:X.desc=.map k e) (hK:T.inf k=some K) (hkd:K.desc=.string) (hE:T.inf e=some E)
 (hy:r y=some (.map (some g))) (hz:r z=some (.string x)) (hH:H[i]?=some (g,mapS m)) (h:V ((fndS m x 0).elim E.zero (·.2))):DoesQ P cx ⟨dst,.lookup t y z false,ty,pos,af,gd⟩ r fz H V:=
 DoesQ.of h fun ρ w hr hi=>by
  have hg:=(hi.hp.own _ (Zm hH)).1;simp only [execOp,hr _ _ hy,hr _ _ hz,Sem.run_bind,Yfm T hT hd hK hkd hE hg,Result.andThen_ok,Sem.run_pure];exact ⟨rfl,Fr.refl _ _⟩
theorem Yit (T:Tab P) {k e:TypeId} {z:Operand} {K E:Ty} {m:List (Bs × Value)} {x:Bs} (hT:T.inf t=some X) (hd:X.desc=.map k e) (hK:T.inf k=some K) (hkd:K.desc=.string) (hE:T.inf e=some E)
 (hy:r y=some (.map (some g))) (hz:r z=some (.string x)) (hH:fz g=some (mapS m)) (h:V ((fndS m x 0).elim E.zero (·.2))):DoesQ P cx ⟨dst,.lookup t y z false,ty,pos,af,gd⟩ r fz H V:=
 DoesQ.of h fun ρ w hr hi=>by
  have hg:=hi.hp.keep _ _ hH;simp only [execOp,hr _ _ hy,hr _ _ hz,Sem.run_bind,Yfm T hT hd hK hkd hE hg,Result.andThen_ok,Sem.run_pure];exact ⟨rfl,Fr.refl _ _⟩
theorem YdE (T:Tab P) {k e:TypeId} {K E:Ty} {m:List (Bs × Value)} {x:Bs} (hT:T.inf t=some X) (hd:X.desc=.map k e) (hK:T.inf k=some K) (hkd:K.desc=.string) (hE:T.inf e=some E)
 (hg:w.heap[g]?=some (mapS m)):(Instr.lookup t (.map (some g)) (.string x) true).run P w=.ok (.tuple #[(fndS m x 0).elim E.zero (·.2),.bool (fndS m x 0).isSome]) w:=by
 have hu:=run_underlying (und_plain T hT hd rfl) w;have hz:=YcZ T hE w;simp only [Instr.lookup,Sem.run_bind,hu,Result.andThen_ok,Yb7 hg,mapS,Sem.run_pure,YaT T hK hkd,Ybf T hK hkd];cases hf:fndS m x 0 with
 | none=>simp [hz]
 | some p=>simp
theorem Yfp (T:Tab P) {k e:TypeId} {z:Operand} {K E:Ty} {m:List (Bs × Value)} {x:Bs} (i:Nat) (hT:T.inf t=some X) (hd:X.desc=.map k e) (hK:T.inf k=some K) (hkd:K.desc=.string) (hE:T.inf e=some E)
 (hy:r y=some (.map (some g))) (hz:r z=some (.string x)) (hH:H[i]?=some (g,mapS m)) (h:V (.tuple #[(fndS m x 0).elim E.zero (·.2),.bool (fndS m x 0).isSome])):DoesQ P cx ⟨dst,.lookup t y z true,ty,pos,af,gd⟩ r fz H V:=
 DoesQ.of h fun ρ w hr hi=>by
  have hg:=(hi.hp.own _ (Zm hH)).1;simp only [execOp,hr _ _ hy,hr _ _ hz,Sem.run_bind,YdE T hT hd hK hkd hE hg,Result.andThen_ok,Sem.run_pure];exact ⟨rfl,Fr.refl _ _⟩
theorem Yge (T:Tab P) {k e:TypeId} {z:Operand} {K E:Ty} {m:List (Bs × Value)} {x:Bs} (hT:T.inf t=some X) (hd:X.desc=.map k e) (hK:T.inf k=some K) (hkd:K.desc=.string) (hE:T.inf e=some E)
 (hy:r y=some (.map (some g))) (hz:r z=some (.string x)) (hH:fz g=some (mapS m)) (h:V (.tuple #[(fndS m x 0).elim E.zero (·.2),.bool (fndS m x 0).isSome])):DoesQ P cx ⟨dst,.lookup t y z true,ty,pos,af,gd⟩ r fz H V:=
 DoesQ.of h fun ρ w hr hi=>by
  have hg:=hi.hp.keep _ _ hH;simp only [execOp,hr _ _ hy,hr _ _ hz,Sem.run_bind,YdE T hT hd hK hkd hE hg,Result.andThen_ok,Sem.run_pure];exact ⟨rfl,Fr.refl _ _⟩
variable {v:Value}
theorem YaD (T:Tab P) {k e:TypeId} {z:Operand} {K E:Ty} {m:List (Bs × Value)} {x:Bs} (i:Nat) (hT:T.inf t=some X) (hd:X.desc=.map k e) (hK:T.inf k=some K) (hkd:K.desc=.string) (hE:T.inf e=some E)
 (hy:r y=some (.map (some g))) (hz:r z=some (.string x)) (hH:H[i]?=some (g,mapS m)) (hv:(fndS m x 0).elim E.zero (·.2)=v) (h:V v):DoesQ P cx ⟨dst,.lookup t y z false,ty,pos,af,gd⟩ r fz H V:=
 Yhf T i hT hd hK hkd hE hy hz hH (by rw [hv];exact h)
theorem YaZ (T:Tab P) {k e:TypeId} {z:Operand} {K E:Ty} {m:List (Bs × Value)} {x:Bs} (hT:T.inf t=some X) (hd:X.desc=.map k e) (hK:T.inf k=some K) (hkd:K.desc=.string) (hE:T.inf e=some E)
 (hy:r y=some (.map (some g))) (hz:r z=some (.string x)) (hH:fz g=some (mapS m)) (hv:(fndS m x 0).elim E.zero (·.2)=v) (h:V v):DoesQ P cx ⟨dst,.lookup t y z false,ty,pos,af,gd⟩ r fz H V:=
 Yit T hT hd hK hkd hE hy hz hH (by rw [hv];exact h)
theorem YeN (T:Tab P) {k e:TypeId} {z:Operand} {K E:Ty} {m:List (Bs × Value)} {x:Bs} (i:Nat) (hT:T.inf t=some X) (hd:X.desc=.map k e) (hK:T.inf k=some K) (hkd:K.desc=.string) (hE:T.inf e=some E)
 (hy:r y=some (.map (some g))) (hz:r z=some (.string x)) (hH:H[i]?=some (g,mapS m)) {b:Bool} (hv:(fndS m x 0).elim E.zero (·.2)=v) (hb:(fndS m x 0).isSome=b) (h:V (.tuple #[v,.bool b])):DoesQ P cx ⟨dst,.lookup t y z true,ty,pos,af,gd⟩ r fz H V:=
 Yfp T i hT hd hK hkd hE hy hz hH (by rw [hv,hb];exact h)
theorem WC (T:Tab P) {k e:TypeId} {z:Operand} {K E:Ty} {m:List (Bs × Value)} {x:Bs} (hT:T.inf t=some X) (hd:X.desc=.map k e) (hK:T.inf k=some K) (hkd:K.desc=.string) (hE:T.inf e=some E)
 (hy:r y=some (.map (some g))) (hz:r z=some (.string x)) (hH:fz g=some (mapS m)) {b:Bool} (hv:(fndS m x 0).elim E.zero (·.2)=v) (hb:(fndS m x 0).isSome=b) (h:V (.tuple #[v,.bool b])):DoesQ P cx ⟨dst,.lookup t y z true,ty,pos,af,gd⟩ r fz H V:=
 Yge T hT hd hK hkd hE hy hz hH (by rw [hv,hb];exact h)
theorem Wl (T:Tab P) {k e:TypeId} {z u:Operand} {K:Ty} {m:List (Bs × Value)} {x:Bs} {pre post:HP} {KK:Value->FZ->HP->Prop} (hT:T.inf t=some X) (hd:X.desc=.map k e) (hK:T.inf k=some K) (hkd:K.desc=.string)
 (hy:r y=some (.map (some g))) (hz:r z=some (.string x)) (hu:r u=some v) (hp:H.Perm (pre++(g,mapS m)::post)) (h:KK undef fz (pre++(g,mapS (updS m x v))::post)):Does P cx ⟨dst,.mapUpdate t y z u,ty,pos,af,gd⟩ r fz H KK:=
 Does.of fun ρ w hr hi=>by
  have hi':=hi.perm hp.symm;have hg:=(hi'.hp.own (g,mapS m) (by simp)).1;have hund:=run_underlying (und_plain T hT hd rfl) w;have hset:∀ o',(Go.setObj g o').run P w=.ok () {w with heap:=w.heap.setIfInBounds g o'}:=fun o'=>by
   simp [Go.setObj,Sem.run,hg,mapS]
  have:(execOp ρ ⟨dst,.mapUpdate t y z u,ty,pos,af,gd⟩).run P w=.ok .skip {w with heap:=w.heap.setIfInBounds g (mapS (updS m x v))}:=by
   simp only [execOp,hr _ _ hy,hr _ _ hz,hr _ _ hu,Sem.run_bind,Instr.mapUpdate,hund,Result.andThen_ok,Yb7 hg,mapS,YaT T hK hkd,Ybf T hK hkd];cases hf:fndS m x 0 with
   | none=>
    have hupd:updS m x v=m++ [(x,v)]:=by simp [updS,hf]
    simp only [hset,hupd,Ydf,Nat.zero_add,Result.andThen_ok,Sem.run_pure,List.length_append,List.length_cons,List.length_nil,List.push_toArray]
   | some p=>
    obtain ⟨i,u'⟩:=p;have hupd:updS m x v=m.set i (x,v):=by simp [updS,hf]
    have hfs:=YfN m x 0 i u' hf;have hkey:(((Wv m 0).toArray[i]?).map (·.key)).getD (.string x)=.string x:=by
     have:=YfX m 0 i;simp only [Nat.sub_zero] at hfs;rw [hfs.2] at this;simp [this]
    have hstay:(Instr.keyThatStays (.string x) (.string x)).run P w=.ok (.string x) w:=by
     simp [Instr.keyThatStays,Instr.sameBits,bytes_beq]
    simp only [hkey,hstay,Sem.run_bind,Result.andThen_ok,hset,hupd,YfV,Sem.run_pure,List.length_set,List.modify_toArray]
  rw [this];exact ⟨fz,_,hi'.setObj,h⟩
variable {x:Operand}
theorem Yhg (T:Tab P) {k e:TypeId} {m:List (Bs × Value)} (hT:T.inf t=some X) (hd:X.desc=.map k e) (hx:r x=some (.map (some g))) (hH:fz g=some (mapS m)) (h:V (Zk m.length)):
 DoesQ P cx ⟨dst,.call {callee:=.builtin .len,args:=#[x],argTypes:=#[t]},ty,pos,af,gd⟩ r fz H V:=
 DoesQ.of h fun ρ w hr hi=>by
  have hg:=hi.hp.keep _ _ hH;have hu:=run_underlying (und_plain T hT hd rfl) w;have:(execOp ρ ⟨dst,.call {callee:=.builtin .len,args:=#[x],argTypes:=#[t]},ty,pos,af,gd⟩).run P w=.ok (.value (Zk m.length)) w:=by
   simp [execOp,resolve,invoke,builtin,hr _ _ hx,Builtin.len_,hu,goInt,Yb7 hg,mapS,YfW]
  rw [this];exact ⟨rfl,Fr.refl _ _⟩
end
variable [Dr]
set_option linter.unusedSectionVars false
def IsSl {α:Type} (L:Lay α) (fz:FZ) (v:Value) (xs:List α):Prop:=∃ A n c,v=.slice A n c/\Sl L fz A n c xs
variable {fz fz':FZ} {v:Value}
theorem IsSl.mono {α:Type} {L:Lay α} (h:Le fz fz') {xs:List α} (hs:IsSl L fz v xs):IsSl L fz' v xs:=by
 obtain ⟨A,n,c,e,k⟩:=hs;exact ⟨A,n,c,e,k.mono h⟩
variable {A:Option Addr} {c:Nat}
theorem Sl.is {α:Type} {L:Lay α} {n:Nat} {xs:List α} (h:Sl L fz A n c xs):IsSl L fz (.slice A n c) xs:=⟨A,n,c,rfl,h⟩
theorem IsSl.nil {α:Type} {L:Lay α}:IsSl L fz Zn ([]:List α):=⟨none,0,0,rfl,Sl.nil Zi⟩
def Short (s:Bs):Prop:=s.size<=9223372036854775807
theorem At.parts {α β:Type} {L:Lay α} {L':Lay β} {p:Addr} {d:α} {d':β} (h:At L fz p d) (i:Nat) (hr:∀ cs,L.rep fz d cs->∃ cs',L'.rep fz d' cs'/\∀ j v,cs'[j]?=some v->cs[i+j]?=some v):At L' fz (p.add i) d':=by
 obtain ⟨cs,h1,h2⟩:=h;obtain ⟨cs',h3,h4⟩:=hr cs h1;refine ⟨cs',h3,fun j v hv=>?_⟩;have:(p.add i).add j=p.add (i+j):=by
  unfold Addr.add;by_cases h5:i=0<;>by_cases h6:j=0<;>simp [h5,h6,Nat.add_assoc]
 rw [this];exact h2 (i+j) v (h4 j v hv)
theorem At.imp {α:Type} {L L':Lay α} (h:∀ d cs,L.rep fz d cs->L'.rep fz d cs) {p:Addr} {d:α} (ha:At L fz p d):At L' fz p d:=by
 obtain ⟨cs,h1,h2⟩:=ha;exact ⟨cs,h d cs h1,h2⟩
theorem Sl.imp {α:Type} {L L':Lay α} (hz:L.size=L'.size) (h:∀ d cs,L.rep fz d cs->L'.rep fz d cs) {n:Nat} {xs:List α} (hs:Sl L fz A n c xs):Sl L' fz A n c xs:=
 ⟨hs.len,hs.cap,hs.max,hs.short,hs.elem.imp id fun ⟨ad,h1,h2⟩=>⟨ad,h1,fun i d hd=>by rw [<- hz];exact (h2 i d hd).imp h⟩⟩
theorem IsSl.imp {α:Type} {L L':Lay α} (hz:L.size=L'.size) (h:∀ d cs,L.rep fz d cs->L'.rep fz d cs) {xs:List α} (hs:IsSl L fz v xs):IsSl L' fz v xs:=by
 obtain ⟨A,n,c,e,k⟩:=hs;exact ⟨A,n,c,e,k.imp hz h⟩
def limL {α:Type} (D:Nat->Lay α) (z:Nat) (hz:∀ d,(D d).size=z):Lay α where
 size:=z
 rep:=fun fz x cs=>∃ d,(D d).rep fz x cs
 len:=fun ⟨d,h⟩=>((D d).len h).trans (hz d)
 mono:=fun hle ⟨d,h⟩=>⟨d,(D d).mono hle h⟩
theorem Ykx {α:Type} {P:Nat->Nat->α->Prop} (hm:∀ d e i x,d<=e->P d i x->P e i x):∀ (xs:List α) (k:Nat),(∀ i x,xs[i]?=some x->∃ d,P d (k+i) x)->∃ d,∀ i x,xs[i]?=some x->P d (k+i) x
 | [],_,_=>⟨0,fun i x h=>by simp at h⟩
 | y::ys,k,h=>by
  obtain ⟨d,hd⟩:=Ykx hm ys (k+1) (fun i x hx=>by have:=h (i+1) x (by simpa using hx);simpa [Nat.add_assoc,Nat.add_comm 1 i] using this);obtain ⟨e,he⟩:=h 0 y rfl;refine ⟨max d e,fun i x hx=>?_⟩;cases i with
  | zero=>simp at hx;subst hx;exact hm _ _ _ _ (Nat.le_max_right d e) he
  | succ i=>have:=hd i x (by simpa using hx);have:=hm _ _ _ _ (Nat.le_max_left d e) this;simpa [Nat.add_assoc,Nat.add_comm 1 i] using this
theorem Sl.sup {α:Type} {D:Nat->Lay α} {z:Nat} {hz:∀ d,(D d).size=z} (hm:∀ d e fz x cs,d<=e->(D d).rep fz x cs->(D e).rep fz x cs) {n:Nat} {xs:List α} (hs:Sl (limL D z hz) fz A n c xs):∃ d,Sl (D d) fz A n c xs:=by
 rcases hs.elem with h | ⟨ad,h1,h2⟩
 ·exact ⟨0,hs.len,hs.cap,hs.max,hs.short,.inl h⟩
 obtain ⟨d,hd⟩:=Ykx (P:=fun d i x=>At (D d) fz (ad.add (i*z)) x) (fun d e i x hde h=>h.imp fun _ _ hr=>hm d e _ _ _ hde hr) xs 0 (fun i x hx=>by
  obtain ⟨cs,⟨d,hr⟩,hrow⟩:=h2 i x hx;exact ⟨d,cs,hr,by simpa [limL] using hrow⟩)
 exact ⟨d,hs.len,hs.cap,hs.max,hs.short,.inr ⟨ad,h1,fun i x hx=>by have:=hd i x hx;rw [hz d];simpa using this⟩⟩
theorem IsSl.sup {α:Type} {D:Nat->Lay α} {z:Nat} {hz:∀ d,(D d).size=z} (hm:∀ d e fz x cs,d<=e->(D d).rep fz x cs->(D e).rep fz x cs) {xs:List α} (hs:IsSl (limL D z hz) fz v xs):∃ d,IsSl (D d) fz v xs:=by
 obtain ⟨A,n,c,e,k⟩:=hs;obtain ⟨d,hd⟩:=k.sup hm;exact ⟨d,A,n,c,e,hd⟩
structure Atom where
 name:Bs
 args:List Bs
structure AtomR (fz:FZ) (x:Atom) (vargs:Value):Prop where
 name:Short x.name
 args:IsSl strL fz vargs x.args
theorem AtomR.mono (hle:Le fz fz') {x:Atom} {vargs:Value} (h:AtomR fz x vargs):AtomR fz' x vargs:=⟨h.name,h.args.mono hle⟩
def atomL:Lay Atom where
 size:=2
 rep:=fun fz x cs=>∃ vargs,cs=[.string x.name,vargs]/\AtomR fz x vargs
 len:=fun h=>by obtain ⟨vargs,rfl,_⟩:=h;rfl
 mono:=fun hle h=>by obtain ⟨vargs,e,h⟩:=h;exact ⟨vargs,e,h.mono hle⟩
variable {cs:List Value}
theorem WF {x:Atom} (h:atomL.rep fz x cs):∃ vargs,cs=[.string x.name,vargs]/\AtomR fz x vargs:=h
theorem Yez {x:Atom} {vargs:Value} (h:AtomR fz x vargs):atomL.rep fz x [.string x.name,vargs]:=⟨vargs,rfl,h⟩
inductive GExpr where
 | mk (op:Bs) (n:Int) (kids:List GExpr)
def GExpr.op:GExpr->Bs | .mk x _ _=>x
def GExpr.n:GExpr->Int | .mk _ x _=>x
def GExpr.kids:GExpr->List GExpr | .mk _ _ x=>x
theorem GExpr.kids_lt {x k:GExpr} (h:k∈x.kids):SizeOf.sizeOf k<SizeOf.sizeOf x:=by
 cases x;have:=List.sizeOf_lt_of_mem h;simp only [GExpr.kids] at this;simp only [GExpr.mk.sizeOf_spec];omega
structure GExprQ (L:Lay GExpr) (fz:FZ) (x:GExpr) (vkids:Value):Prop where
 op:Short x.op
 n:I64 x.n
 kids:IsSl L fz vkids x.kids
theorem GExprQ.mono {L:Lay GExpr} (hle:Le fz fz') {x:GExpr} {vkids:Value} (h:GExprQ L fz x vkids):GExprQ L fz' x vkids:=⟨h.op,h.n,h.kids.mono hle⟩
def gExprF (L:Lay GExpr):Lay GExpr where
 size:=3
 rep:=fun fz x cs=>∃ vkids,cs=[.string x.op,Zk x.n,vkids]/\GExprQ L fz x vkids
 len:=fun h=>by obtain ⟨vkids,rfl,_⟩:=h;rfl
 mono:=fun hle h=>by obtain ⟨vkids,e,h⟩:=h;exact ⟨vkids,e,h.mono hle⟩
def Yns:Nat->Lay GExpr
 | 0=>⟨3,fun _ _ _=>False,fun h=>h.elim,fun _ h=>h.elim⟩
 | d+1=>gExprF (Yns d)
theorem Yj0:∀ d,(Yns d).size=3
 | 0=>rfl
 | _+1=>rfl
def gExprL:Lay GExpr:=limL Yns 3 Yj0
abbrev GExprR (fz:FZ) (x:GExpr) (vkids:Value):Prop:=GExprQ gExprL fz x vkids
theorem GExprR.mono (hle:Le fz fz') {x:GExpr} {vkids:Value} (h:GExprR fz x vkids):GExprR fz' x vkids:=GExprQ.mono hle h
structure GTest where
 op:Bs
 a:GExpr
 b:GExpr
structure GTestR (fz:FZ) (x:GTest) (va_kids vb_kids:Value):Prop where
 op:Short x.op
 a:GExprR fz x.a va_kids
 b:GExprR fz x.b vb_kids
theorem GTestR.mono (hle:Le fz fz') {x:GTest} {va_kids vb_kids:Value} (h:GTestR fz x va_kids vb_kids):GTestR fz' x va_kids vb_kids:=⟨h.op,h.a.mono hle,h.b.mono hle⟩
def gTestL:Lay GTest where
 size:=7
 rep:=fun fz x cs=>∃ va_kids vb_kids,cs=[.string x.op,.string x.a.op,Zk x.a.n,va_kids,.string x.b.op,Zk x.b.n,vb_kids]/\GTestR fz x va_kids vb_kids
 len:=fun h=>by obtain ⟨va_kids,vb_kids,rfl,_⟩:=h;rfl
 mono:=fun hle h=>by obtain ⟨va_kids,vb_kids,e,h⟩:=h;exact ⟨va_kids,vb_kids,e,h.mono hle⟩
structure Cond where
 pos:List Int
 neg:List Int
 tests:List GTest
structure CondR (fz:FZ) (x:Cond) (vpos vneg vtests:Value):Prop where
 pos:IsSl intL fz vpos x.pos
 neg:IsSl intL fz vneg x.neg
 tests:IsSl gTestL fz vtests x.tests
theorem CondR.mono (hle:Le fz fz') {x:Cond} {vpos vneg vtests:Value} (h:CondR fz x vpos vneg vtests):CondR fz' x vpos vneg vtests:=⟨h.pos.mono hle,h.neg.mono hle,h.tests.mono hle⟩
def condL:Lay Cond where
 size:=3
 rep:=fun fz x cs=>∃ vpos vneg vtests,cs=[vpos,vneg,vtests]/\CondR fz x vpos vneg vtests
 len:=fun h=>by obtain ⟨vpos,vneg,vtests,rfl,_⟩:=h;rfl
 mono:=fun hle h=>by obtain ⟨vpos,vneg,vtests,e,h⟩:=h;exact ⟨vpos,vneg,vtests,e,h.mono hle⟩
structure GChange where
 when_:Cond
 atom:Int
 add:Bool
structure GChangeR (fz:FZ) (x:GChange) (vwhen__pos vwhen__neg vwhen__tests:Value):Prop where
 when_:CondR fz x.when_ vwhen__pos vwhen__neg vwhen__tests
 atom:I64 x.atom
 add:True
theorem GChangeR.mono (hle:Le fz fz') {x:GChange} {vwhen__pos vwhen__neg vwhen__tests:Value} (h:GChangeR fz x vwhen__pos vwhen__neg vwhen__tests):GChangeR fz' x vwhen__pos vwhen__neg vwhen__tests:=⟨h.when_.mono hle,h.atom,trivial⟩
def gChangeL:Lay GChange where
 size:=5
 rep:=fun fz x cs=>∃ vwhen__pos vwhen__neg vwhen__tests,cs=[vwhen__pos,vwhen__neg,vwhen__tests,Zk x.atom,.bool x.add]/\GChangeR fz x vwhen__pos vwhen__neg vwhen__tests
 len:=fun h=>by obtain ⟨vwhen__pos,vwhen__neg,vwhen__tests,rfl,_⟩:=h;rfl
 mono:=fun hle h=>by obtain ⟨vwhen__pos,vwhen__neg,vwhen__tests,e,h⟩:=h;exact ⟨vwhen__pos,vwhen__neg,vwhen__tests,e,h.mono hle⟩
structure GAssign where
 fluent:Int
 value:GExpr
structure GAssignR (fz:FZ) (x:GAssign) (vvalue_kids:Value):Prop where
 fluent:I64 x.fluent
 value:GExprR fz x.value vvalue_kids
theorem GAssignR.mono (hle:Le fz fz') {x:GAssign} {vvalue_kids:Value} (h:GAssignR fz x vvalue_kids):GAssignR fz' x vvalue_kids:=⟨h.fluent,h.value.mono hle⟩
def gAssignL:Lay GAssign where
 size:=4
 rep:=fun fz x cs=>∃ vvalue_kids,cs=[Zk x.fluent,.string x.value.op,Zk x.value.n,vvalue_kids]/\GAssignR fz x vvalue_kids
 len:=fun h=>by obtain ⟨vvalue_kids,rfl,_⟩:=h;rfl
 mono:=fun hle h=>by obtain ⟨vvalue_kids,e,h⟩:=h;exact ⟨vvalue_kids,e,h.mono hle⟩
structure GOp where
 name:Bs
 cost:Int
 pre:Cond
 changes:List GChange
 assigns:List GAssign
structure GOpR (fz:FZ) (x:GOp) (vpre_pos vpre_neg vpre_tests vchanges vassigns:Value):Prop where
 name:Short x.name
 cost:I64 x.cost
 pre:CondR fz x.pre vpre_pos vpre_neg vpre_tests
 changes:IsSl gChangeL fz vchanges x.changes
 assigns:IsSl gAssignL fz vassigns x.assigns
theorem GOpR.mono (hle:Le fz fz') {x:GOp} {vpre_pos vpre_neg vpre_tests vchanges vassigns:Value} (h:GOpR fz x vpre_pos vpre_neg vpre_tests vchanges vassigns):GOpR fz' x vpre_pos vpre_neg vpre_tests vchanges vassigns:=⟨h.name,h.cost,h.pre.mono hle,h.changes.mono hle,h.assigns.mono hle⟩
def gOpL:Lay GOp where
 size:=7
 rep:=fun fz x cs=>∃ vpre_pos vpre_neg vpre_tests vchanges vassigns,cs=[.string x.name,Zk x.cost,vpre_pos,vpre_neg,vpre_tests,vchanges,vassigns]/\GOpR fz x vpre_pos vpre_neg vpre_tests vchanges vassigns
 len:=fun h=>by obtain ⟨vpre_pos,vpre_neg,vpre_tests,vchanges,vassigns,rfl,_⟩:=h;rfl
 mono:=fun hle h=>by obtain ⟨vpre_pos,vpre_neg,vpre_tests,vchanges,vassigns,e,h⟩:=h;exact ⟨vpre_pos,vpre_neg,vpre_tests,vchanges,vassigns,e,h.mono hle⟩
structure GFluent where
 fluent:Atom
 lo:Int
 hi:Int
 init:Int
structure GFluentR (fz:FZ) (x:GFluent) (vfluent_args:Value):Prop where
 fluent:AtomR fz x.fluent vfluent_args
 lo:I64 x.lo
 hi:I64 x.hi
 init:I64 x.init
theorem GFluentR.mono (hle:Le fz fz') {x:GFluent} {vfluent_args:Value} (h:GFluentR fz x vfluent_args):GFluentR fz' x vfluent_args:=⟨h.fluent.mono hle,h.lo,h.hi,h.init⟩
def gFluentL:Lay GFluent where
 size:=5
 rep:=fun fz x cs=>∃ vfluent_args,cs=[.string x.fluent.name,vfluent_args,Zk x.lo,Zk x.hi,Zk x.init]/\GFluentR fz x vfluent_args
 len:=fun h=>by obtain ⟨vfluent_args,rfl,_⟩:=h;rfl
 mono:=fun hle h=>by obtain ⟨vfluent_args,e,h⟩:=h;exact ⟨vfluent_args,e,h.mono hle⟩
structure GTask where
 atoms:List Atom
 fluents:List GFluent
 init:List Int
 goal:List Cond
 ops:List GOp
structure GTaskR (fz:FZ) (x:GTask) (vatoms vfluents vinit vgoal vops:Value):Prop where
 atoms:IsSl atomL fz vatoms x.atoms
 fluents:IsSl gFluentL fz vfluents x.fluents
 init:IsSl intL fz vinit x.init
 goal:IsSl condL fz vgoal x.goal
 ops:IsSl gOpL fz vops x.ops
theorem GTaskR.mono (hle:Le fz fz') {x:GTask} {vatoms vfluents vinit vgoal vops:Value} (h:GTaskR fz x vatoms vfluents vinit vgoal vops):GTaskR fz' x vatoms vfluents vinit vgoal vops:=⟨h.atoms.mono hle,h.fluents.mono hle,h.init.mono hle,h.goal.mono hle,h.ops.mono hle⟩
structure GState where
 tru:List Int
 values:List Int
structure GStateR (fz:FZ) (x:GState) (vtru vvalues:Value):Prop where
 tru:IsSl intL fz vtru x.tru
 values:IsSl intL fz vvalues x.values
theorem GStateR.mono (hle:Le fz fz') {x:GState} {vtru vvalues:Value} (h:GStateR fz x vtru vvalues):GStateR fz' x vtru vvalues:=⟨h.tru.mono hle,h.values.mono hle⟩
end Go.Lx
namespace Go.Lx
open Go.RowKit
structure Param where
 name:Bs
 typ:Bs
structure ParamR (fz:FZ) (x:Param):Prop where
 name:Short x.name
 typ:Short x.typ
variable {fz fz':FZ}
theorem ParamR.mono (_hle:Le fz fz') {x:Param} (h:ParamR fz x):ParamR fz' x:=⟨h.name,h.typ⟩
def paramL:Lay Param where
 size:=2
 rep:=fun fz x cs=>cs=[.string x.name,.string x.typ]/\ParamR fz x
 len:=fun h=>by obtain ⟨rfl,_⟩:=h;rfl
 mono:=fun hle h=>by obtain ⟨e,h⟩:=h;exact ⟨e,h.mono hle⟩
variable {cs:List Value}
theorem YR {x:Param} (h:paramL.rep fz x cs):cs=[.string x.name,.string x.typ]/\ParamR fz x:=h
theorem Yca {x:Param} (h:ParamR fz x):paramL.rep fz x [.string x.name,.string x.typ]:=⟨rfl,h⟩
theorem At.Param_name {p:Addr} {x:Param} (h:At paramL fz p x):At strL fz (p.add 0) x.name:=h.part 0 fun cs hr=>by
 obtain ⟨rfl,h⟩:=YR hr;exact ⟨_,rfl,rfl,h.name⟩
theorem At.Param_typ {p:Addr} {x:Param} (h:At paramL fz p x):At strL fz (p.add 1) x.typ:=h.part 1 fun cs hr=>by
 obtain ⟨rfl,h⟩:=YR hr;exact ⟨_,rfl,rfl,h.typ⟩
structure Value_ where
 fluent:Atom
 n:Int
structure Value_R (fz:FZ) (x:Value_) (vfluent_args:Value):Prop where
 fluent:AtomR fz x.fluent vfluent_args
 n:I64 x.n
theorem Value_R.mono (hle:Le fz fz') {x:Value_} {vfluent_args:Value} (h:Value_R fz x vfluent_args):Value_R fz' x vfluent_args:=⟨h.fluent.mono hle,h.n⟩
def valueL:Lay Value_ where
 size:=3
 rep:=fun fz x cs=>∃ vfluent_args,cs=[.string x.fluent.name,vfluent_args,Zk x.n]/\Value_R fz x vfluent_args
 len:=fun h=>by obtain ⟨vfluent_args,rfl,_⟩:=h;rfl
 mono:=fun hle h=>by obtain ⟨vfluent_args,e,h⟩:=h;exact ⟨vfluent_args,e,h.mono hle⟩
theorem Yav {x:Value_} (h:valueL.rep fz x cs):∃ vfluent_args,cs=[.string x.fluent.name,vfluent_args,Zk x.n]/\Value_R fz x vfluent_args:=h
theorem Yjr {x:Value_} {vfluent_args:Value} (h:Value_R fz x vfluent_args):valueL.rep fz x [.string x.fluent.name,vfluent_args,Zk x.n]:=⟨vfluent_args,rfl,h⟩
theorem At.Value__fluent {p:Addr} {x:Value_} (h:At valueL fz p x):At atomL fz (p.add 0) x.fluent:=h.parts 0 fun cs hr=>by
 obtain ⟨vfluent_args,rfl,h⟩:=Yav hr;refine ⟨_,Yez h.fluent,fun j v hv=>?_⟩
 match j,hv with
 | 0,hv=>exact hv
 | 1,hv=>exact hv
 | j+2,hv=>simp at hv
theorem At.Value__n {p:Addr} {x:Value_} (h:At valueL fz p x):At intL fz (p.add 2) x.n:=h.part 2 fun cs hr=>by
 obtain ⟨vfluent_args,rfl,h⟩:=Yav hr;exact ⟨_,rfl,rfl,h.n⟩
inductive Sexpr where
 | mk (kind:Int) (value:Int) (line:Int) (column:Int) (text:Bs) (kids:List Sexpr)
def Sexpr.kind:Sexpr->Int | .mk x _ _ _ _ _=>x
def Sexpr.value:Sexpr->Int | .mk _ x _ _ _ _=>x
def Sexpr.line:Sexpr->Int | .mk _ _ x _ _ _=>x
def Sexpr.column:Sexpr->Int | .mk _ _ _ x _ _=>x
def Sexpr.text:Sexpr->Bs | .mk _ _ _ _ x _=>x
def Sexpr.kids:Sexpr->List Sexpr | .mk _ _ _ _ _ x=>x
theorem Sexpr.kids_lt {x k:Sexpr} (h:k∈x.kids):SizeOf.sizeOf k<SizeOf.sizeOf x:=by
 cases x;have:=List.sizeOf_lt_of_mem h;simp only [Sexpr.kids] at this;simp only [Sexpr.mk.sizeOf_spec];omega
structure SexprQ (L:Lay Sexpr) (fz:FZ) (x:Sexpr) (vkids:Value):Prop where
 kind:I64 x.kind
 value:I64 x.value
 line:I64 x.line
 column:I64 x.column
 text:Short x.text
 kids:IsSl L fz vkids x.kids
theorem SexprQ.mono {L:Lay Sexpr} (hle:Le fz fz') {x:Sexpr} {vkids:Value} (h:SexprQ L fz x vkids):SexprQ L fz' x vkids:=⟨h.kind,h.value,h.line,h.column,h.text,h.kids.mono hle⟩
def Ymq (L:Lay Sexpr):Lay Sexpr where
 size:=6
 rep:=fun fz x cs=>∃ vkids,cs=[Zk x.kind,Zk x.value,Zk x.line,Zk x.column,.string x.text,vkids]/\SexprQ L fz x vkids
 len:=fun h=>by obtain ⟨vkids,rfl,_⟩:=h;rfl
 mono:=fun hle h=>by obtain ⟨vkids,e,h⟩:=h;exact ⟨vkids,e,h.mono hle⟩
def Yii:Nat->Lay Sexpr
 | 0=>⟨6,fun _ _ _=>False,fun h=>h.elim,fun _ h=>h.elim⟩
 | d+1=>Ymq (Yii d)
theorem Yb5:∀ d,(Yii d).size=6
 | 0=>rfl
 | _+1=>rfl
theorem Ylq {L L':Lay Sexpr} (hz:L.size=L'.size) (hi:∀ d cs,L.rep fz d cs->L'.rep fz d cs) {x:Sexpr} (h:(Ymq L).rep fz x cs):(Ymq L').rep fz x cs:=by
 obtain ⟨vkids,e,h⟩:=h;exact ⟨vkids,e,{h with kids:=h.kids.imp hz hi}⟩
theorem Yih:∀ d e fz x cs,d<=e->(Yii d).rep fz x cs->(Yii e).rep fz x cs
 | 0,_,_,_,_,_,h=>h.elim
 | d+1,0,_,_,_,hle,_=>absurd hle Zi
 | d+1,e+1,fz,x,cs,hle,h=>Ylq ((Yb5 d).trans (Yb5 e).symm) (fun y cs' hy=>Yih d e fz y cs' Zi hy) h
def Yz:Lay Sexpr:=limL Yii 6 Yb5
abbrev YS (fz:FZ) (x:Sexpr) (vkids:Value):Prop:=SexprQ Yz fz x vkids
theorem YS.mono (hle:Le fz fz') {x:Sexpr} {vkids:Value} (h:YS fz x vkids):YS fz' x vkids:=SexprQ.mono hle h
theorem Yi {x:Sexpr} (h:Yz.rep fz x cs):∃ vkids,cs=[Zk x.kind,Zk x.value,Zk x.line,Zk x.column,.string x.text,vkids]/\YS fz x vkids:=by
 obtain ⟨d,h⟩:=h;cases d with
 | zero=>exact h.elim
 | succ d=>
  obtain ⟨vkids,e,h⟩:=h;exact ⟨vkids,e,{h with kids:=h.kids.imp (L':=Yz) (Yb5 d) (fun _ _ hy=>⟨d,hy⟩)}⟩
theorem Yh {x:Sexpr} {vkids:Value} (h:YS fz x vkids):Yz.rep fz x [Zk x.kind,Zk x.value,Zk x.line,Zk x.column,.string x.text,vkids]:=by
 obtain ⟨d,hd⟩:=h.kids.sup Yih;exact ⟨d+1,vkids, rfl,{h with kids:=hd}⟩
theorem At.Sexpr_kind {p:Addr} {x:Sexpr} (h:At Yz fz p x):At intL fz (p.add 0) x.kind:=h.part 0 fun cs hr=>by
 obtain ⟨vkids,rfl,h⟩:=Yi hr;exact ⟨_,rfl,rfl,h.kind⟩
theorem At.Sexpr_value {p:Addr} {x:Sexpr} (h:At Yz fz p x):At intL fz (p.add 1) x.value:=h.part 1 fun cs hr=>by
 obtain ⟨vkids,rfl,h⟩:=Yi hr;exact ⟨_,rfl,rfl,h.value⟩
theorem At.Sexpr_text {p:Addr} {x:Sexpr} (h:At Yz fz p x):At strL fz (p.add 4) x.text:=h.part 4 fun cs hr=>by
 obtain ⟨vkids,rfl,h⟩:=Yi hr;exact ⟨_,rfl,rfl,h.text⟩
theorem At.Sexpr_kids {p:Addr} {x:Sexpr} (h:At Yz fz p x):At (slL Yz) fz (p.add 5) x.kids:=h.part 5 fun cs hr=>by
 obtain ⟨vkids,rfl,h⟩:=Yi hr;obtain ⟨A,n,c,e,hs⟩:=h.kids;exact ⟨_,rfl,A,n,c,by rw [e],hs⟩
inductive Expr where
 | mk (op:Bs) (name:Bs) (n:Int) (args:List Bs) (kids:List Expr)
def Expr.op:Expr->Bs | .mk x _ _ _ _=>x
def Expr.name:Expr->Bs | .mk _ x _ _ _=>x
def Expr.n:Expr->Int | .mk _ _ x _ _=>x
def Expr.args:Expr->List Bs | .mk _ _ _ x _=>x
def Expr.kids:Expr->List Expr | .mk _ _ _ _ x=>x
theorem Expr.kids_lt {x k:Expr} (h:k∈x.kids):SizeOf.sizeOf k<SizeOf.sizeOf x:=by
 cases x;have:=List.sizeOf_lt_of_mem h;simp only [Expr.kids] at this;simp only [Expr.mk.sizeOf_spec];omega
structure ExprQ (L:Lay Expr) (fz:FZ) (x:Expr) (vargs vkids:Value):Prop where
 op:Short x.op
 name:Short x.name
 n:I64 x.n
 args:IsSl strL fz vargs x.args
 kids:IsSl L fz vkids x.kids
theorem ExprQ.mono {L:Lay Expr} (hle:Le fz fz') {x:Expr} {vargs vkids:Value} (h:ExprQ L fz x vargs vkids):ExprQ L fz' x vargs vkids:=⟨h.op,h.name,h.n,h.args.mono hle,h.kids.mono hle⟩
def exprF (L:Lay Expr):Lay Expr where
 size:=5
 rep:=fun fz x cs=>∃ vargs vkids,cs=[.string x.op,.string x.name,Zk x.n,vargs,vkids]/\ExprQ L fz x vargs vkids
 len:=fun h=>by obtain ⟨vargs,vkids,rfl,_⟩:=h;rfl
 mono:=fun hle h=>by obtain ⟨vargs,vkids,e,h⟩:=h;exact ⟨vargs,vkids,e,h.mono hle⟩
def YnG:Nat->Lay Expr
 | 0=>⟨5,fun _ _ _=>False,fun h=>h.elim,fun _ h=>h.elim⟩
 | d+1=>exprF (YnG d)
theorem Yc5:∀ d,(YnG d).size=5
 | 0=>rfl
 | _+1=>rfl
theorem YnF {L L':Lay Expr} (hz:L.size=L'.size) (hi:∀ d cs,L.rep fz d cs->L'.rep fz d cs) {x:Expr} (h:(exprF L).rep fz x cs):(exprF L').rep fz x cs:=by
 obtain ⟨vargs,vkids,e,h⟩:=h;exact ⟨vargs,vkids,e,{h with kids:=h.kids.imp hz hi}⟩
theorem Ylb:∀ d e fz x cs,d<=e->(YnG d).rep fz x cs->(YnG e).rep fz x cs
 | 0,_,_,_,_,_,h=>h.elim
 | d+1,0,_,_,_,hle,_=>absurd hle Zi
 | d+1,e+1,fz,x,cs,hle,h=>YnF ((Yc5 d).trans (Yc5 e).symm) (fun y cs' hy=>Ylb d e fz y cs' Zi hy) h
def exprL:Lay Expr:=limL YnG 5 Yc5
abbrev ExprR (fz:FZ) (x:Expr) (vargs vkids:Value):Prop:=ExprQ exprL fz x vargs vkids
theorem ExprR.mono (hle:Le fz fz') {x:Expr} {vargs vkids:Value} (h:ExprR fz x vargs vkids):ExprR fz' x vargs vkids:=ExprQ.mono hle h
theorem YK {x:Expr} (h:exprL.rep fz x cs):∃ vargs vkids,cs=[.string x.op,.string x.name,Zk x.n,vargs,vkids]/\ExprR fz x vargs vkids:=by
 obtain ⟨d,h⟩:=h;cases d with
 | zero=>exact h.elim
 | succ d=>
  obtain ⟨vargs,vkids,e,h⟩:=h;exact ⟨vargs,vkids,e,{h with kids:=h.kids.imp (L':=exprL) (Yc5 d) (fun _ _ hy=>⟨d,hy⟩)}⟩
theorem YbV {x:Expr} {vargs vkids:Value} (h:ExprR fz x vargs vkids):exprL.rep fz x [.string x.op,.string x.name,Zk x.n,vargs,vkids]:=by
 obtain ⟨d,hd⟩:=h.kids.sup Ylb;exact ⟨d+1,vargs,vkids, rfl,{h with kids:=hd}⟩
inductive Formula where
 | mk (op:Bs) (name:Bs) (args:List Bs) (params:List Param) (exprs:List Expr) (kids:List Formula)
def Formula.op:Formula->Bs | .mk x _ _ _ _ _=>x
def Formula.name:Formula->Bs | .mk _ x _ _ _ _=>x
def Formula.args:Formula->List Bs | .mk _ _ x _ _ _=>x
def Formula.params:Formula->List Param | .mk _ _ _ x _ _=>x
def Formula.exprs:Formula->List Expr | .mk _ _ _ _ x _=>x
def Formula.kids:Formula->List Formula | .mk _ _ _ _ _ x=>x
theorem Formula.kids_lt {x k:Formula} (h:k∈x.kids):SizeOf.sizeOf k<SizeOf.sizeOf x:=by
 cases x;have:=List.sizeOf_lt_of_mem h;simp only [Formula.kids] at this;simp only [Formula.mk.sizeOf_spec];omega
structure FormulaQ (L:Lay Formula) (fz:FZ) (x:Formula) (vargs vparams vexprs vkids:Value):Prop where
 op:Short x.op
 name:Short x.name
 args:IsSl strL fz vargs x.args
 params:IsSl paramL fz vparams x.params
 exprs:IsSl exprL fz vexprs x.exprs
 kids:IsSl L fz vkids x.kids
theorem FormulaQ.mono {L:Lay Formula} (hle:Le fz fz') {x:Formula} {vargs vparams vexprs vkids:Value} (h:FormulaQ L fz x vargs vparams vexprs vkids):FormulaQ L fz' x vargs vparams vexprs vkids:=⟨h.op,h.name,h.args.mono hle,h.params.mono hle,h.exprs.mono hle,h.kids.mono hle⟩
def YhC (L:Lay Formula):Lay Formula where
 size:=6
 rep:=fun fz x cs=>∃ vargs vparams vexprs vkids,cs=[.string x.op,.string x.name,vargs,vparams,vexprs,vkids]/\FormulaQ L fz x vargs vparams vexprs vkids
 len:=fun h=>by obtain ⟨vargs,vparams,vexprs,vkids,rfl,_⟩:=h;rfl
 mono:=fun hle h=>by obtain ⟨vargs,vparams,vexprs,vkids,e,h⟩:=h;exact ⟨vargs,vparams,vexprs,vkids,e,h.mono hle⟩
def YdS:Nat->Lay Formula
 | 0=>⟨6,fun _ _ _=>False,fun h=>h.elim,fun _ h=>h.elim⟩
 | d+1=>YhC (YdS d)
theorem Ya3:∀ d,(YdS d).size=6
 | 0=>rfl
 | _+1=>rfl
theorem YiV {L L':Lay Formula} (hz:L.size=L'.size) (hi:∀ d cs,L.rep fz d cs->L'.rep fz d cs) {x:Formula} (h:(YhC L).rep fz x cs):(YhC L').rep fz x cs:=by
 obtain ⟨vargs,vparams,vexprs,vkids,e,h⟩:=h;exact ⟨vargs,vparams,vexprs,vkids,e,{h with kids:=h.kids.imp hz hi}⟩
theorem YfL:∀ d e fz x cs,d<=e->(YdS d).rep fz x cs->(YdS e).rep fz x cs
 | 0,_,_,_,_,_,h=>h.elim
 | d+1,0,_,_,_,hle,_=>absurd hle Zi
 | d+1,e+1,fz,x,cs,hle,h=>YiV ((Ya3 d).trans (Ya3 e).symm) (fun y cs' hy=>YfL d e fz y cs' Zi hy) h
def YW:Lay Formula:=limL YdS 6 Ya3
abbrev FormulaR (fz:FZ) (x:Formula) (vargs vparams vexprs vkids:Value):Prop:=FormulaQ YW fz x vargs vparams vexprs vkids
theorem FormulaR.mono (hle:Le fz fz') {x:Formula} {vargs vparams vexprs vkids:Value} (h:FormulaR fz x vargs vparams vexprs vkids):FormulaR fz' x vargs vparams vexprs vkids:=FormulaQ.mono hle h
theorem YA {x:Formula} (h:YW.rep fz x cs):∃ vargs vparams vexprs vkids,cs=[.string x.op,.string x.name,vargs,vparams,vexprs,vkids]/\FormulaR fz x vargs vparams vexprs vkids:=by
 obtain ⟨d,h⟩:=h;cases d with
 | zero=>exact h.elim
 | succ d=>
  obtain ⟨vargs,vparams,vexprs,vkids,e,h⟩:=h;exact ⟨vargs,vparams,vexprs,vkids,e,{h with kids:=h.kids.imp (L':=YW) (Ya3 d) (fun _ _ hy=>⟨d,hy⟩)}⟩
theorem WL {x:Formula} {vargs vparams vexprs vkids:Value} (h:FormulaR fz x vargs vparams vexprs vkids):YW.rep fz x [.string x.op,.string x.name,vargs,vparams,vexprs,vkids]:=by
 obtain ⟨d,hd⟩:=h.kids.sup YfL;exact ⟨d+1,vargs,vparams,vexprs,vkids, rfl,{h with kids:=hd}⟩
structure Change where
 kind:Int
 params:List Param
 when_:Formula
 name:Bs
 args:List Bs
 value:Expr
structure ChangeR (fz:FZ) (x:Change) (vparams vwhen__args vwhen__params vwhen__exprs vwhen__kids vargs vvalue_args vvalue_kids:Value):Prop where
 kind:I64 x.kind
 params:IsSl paramL fz vparams x.params
 when_:FormulaR fz x.when_ vwhen__args vwhen__params vwhen__exprs vwhen__kids
 name:Short x.name
 args:IsSl strL fz vargs x.args
 value:ExprR fz x.value vvalue_args vvalue_kids
theorem ChangeR.mono (hle:Le fz fz') {x:Change} {vparams vwhen__args vwhen__params vwhen__exprs vwhen__kids vargs vvalue_args vvalue_kids:Value} (h:ChangeR fz x vparams vwhen__args vwhen__params vwhen__exprs vwhen__kids vargs vvalue_args vvalue_kids):ChangeR fz' x vparams vwhen__args vwhen__params vwhen__exprs vwhen__kids vargs vvalue_args vvalue_kids:=⟨h.kind,h.params.mono hle,h.when_.mono hle,h.name,h.args.mono hle,h.value.mono hle⟩
def changeL:Lay Change where
 size:=15
 rep:=fun fz x cs=>∃ vparams vwhen__args vwhen__params vwhen__exprs vwhen__kids vargs vvalue_args vvalue_kids,cs=[Zk x.kind,vparams,.string x.when_.op,.string x.when_.name,vwhen__args,vwhen__params,vwhen__exprs,vwhen__kids,.string x.name,vargs,.string x.value.op,.string x.value.name,Zk x.value.n,vvalue_args,vvalue_kids]/\ChangeR fz x vparams vwhen__args vwhen__params vwhen__exprs vwhen__kids vargs vvalue_args vvalue_kids
 len:=fun h=>by obtain ⟨vparams,vwhen__args,vwhen__params,vwhen__exprs,vwhen__kids,vargs,vvalue_args,vvalue_kids,rfl,_⟩:=h;rfl
 mono:=fun hle h=>by obtain ⟨vparams,vwhen__args,vwhen__params,vwhen__exprs,vwhen__kids,vargs,vvalue_args,vvalue_kids,e,h⟩:=h;exact ⟨vparams,vwhen__args,vwhen__params,vwhen__exprs,vwhen__kids,vargs,vvalue_args,vvalue_kids,e,h.mono hle⟩
theorem Xj {x:Change} (h:changeL.rep fz x cs):∃ vparams vwhen__args vwhen__params vwhen__exprs vwhen__kids vargs vvalue_args vvalue_kids,cs=[Zk x.kind,vparams,.string x.when_.op,.string x.when_.name,vwhen__args,vwhen__params,vwhen__exprs,vwhen__kids,.string x.name,vargs,.string x.value.op,.string x.value.name,Zk x.value.n,vvalue_args,vvalue_kids]/\ChangeR fz x vparams vwhen__args vwhen__params vwhen__exprs vwhen__kids vargs vvalue_args vvalue_kids:=h
theorem Yjf {x:Change} {vparams vwhen__args vwhen__params vwhen__exprs vwhen__kids vargs vvalue_args vvalue_kids:Value} (h:ChangeR fz x vparams vwhen__args vwhen__params vwhen__exprs vwhen__kids vargs vvalue_args vvalue_kids):changeL.rep fz x [Zk x.kind,vparams,.string x.when_.op,.string x.when_.name,vwhen__args,vwhen__params,vwhen__exprs,vwhen__kids,.string x.name,vargs,.string x.value.op,.string x.value.name,Zk x.value.n,vvalue_args,vvalue_kids]:=⟨vparams,vwhen__args,vwhen__params,vwhen__exprs,vwhen__kids,vargs,vvalue_args,vvalue_kids,rfl,h⟩
theorem At.Change_params {p:Addr} {x:Change} (h:At changeL fz p x):At (slL paramL) fz (p.add 1) x.params:=h.part 1 fun cs hr=>by
 obtain ⟨vparams,vwhen__args,vwhen__params,vwhen__exprs,vwhen__kids,vargs,vvalue_args,vvalue_kids,rfl,h⟩:=Xj hr;obtain ⟨A,n,c,e,hs⟩:=h.params;exact ⟨_,rfl,A,n,c,by rw [e],hs⟩
theorem At.Change_when_ {p:Addr} {x:Change} (h:At changeL fz p x):At YW fz (p.add 2) x.when_:=h.parts 2 fun cs hr=>by
 obtain ⟨vparams,vwhen__args,vwhen__params,vwhen__exprs,vwhen__kids,vargs,vvalue_args,vvalue_kids,rfl,h⟩:=Xj hr;refine ⟨_,WL h.when_,fun j v hv=>?_⟩
 match j,hv with
 | 0,hv=>exact hv
 | 1,hv=>exact hv
 | 2,hv=>exact hv
 | 3,hv=>exact hv
 | 4,hv=>exact hv
 | 5,hv=>exact hv
 | j+6,hv=>simp at hv
theorem At.Change_args {p:Addr} {x:Change} (h:At changeL fz p x):At (slL strL) fz (p.add 9) x.args:=h.part 9 fun cs hr=>by
 obtain ⟨vparams,vwhen__args,vwhen__params,vwhen__exprs,vwhen__kids,vargs,vvalue_args,vvalue_kids,rfl,h⟩:=Xj hr;obtain ⟨A,n,c,e,hs⟩:=h.args;exact ⟨_,rfl,A,n,c,by rw [e],hs⟩
theorem At.Change_value {p:Addr} {x:Change} (h:At changeL fz p x):At exprL fz (p.add 10) x.value:=h.parts 10 fun cs hr=>by
 obtain ⟨vparams,vwhen__args,vwhen__params,vwhen__exprs,vwhen__kids,vargs,vvalue_args,vvalue_kids,rfl,h⟩:=Xj hr;refine ⟨_,YbV h.value,fun j v hv=>?_⟩
 match j,hv with
 | 0,hv=>exact hv
 | 1,hv=>exact hv
 | 2,hv=>exact hv
 | 3,hv=>exact hv
 | 4,hv=>exact hv
 | j+5,hv=>simp at hv
structure Predicate where
 name:Bs
 params:List Param
structure PredicateR (fz:FZ) (x:Predicate) (vparams:Value):Prop where
 name:Short x.name
 params:IsSl paramL fz vparams x.params
theorem PredicateR.mono (hle:Le fz fz') {x:Predicate} {vparams:Value} (h:PredicateR fz x vparams):PredicateR fz' x vparams:=⟨h.name,h.params.mono hle⟩
def predicateL:Lay Predicate where
 size:=2
 rep:=fun fz x cs=>∃ vparams,cs=[.string x.name,vparams]/\PredicateR fz x vparams
 len:=fun h=>by obtain ⟨vparams,rfl,_⟩:=h;rfl
 mono:=fun hle h=>by obtain ⟨vparams,e,h⟩:=h;exact ⟨vparams,e,h.mono hle⟩
theorem XK {x:Predicate} (h:predicateL.rep fz x cs):∃ vparams,cs=[.string x.name,vparams]/\PredicateR fz x vparams:=h
theorem Ybi {x:Predicate} {vparams:Value} (h:PredicateR fz x vparams):predicateL.rep fz x [.string x.name,vparams]:=⟨vparams,rfl,h⟩
theorem At.Predicate_name {p:Addr} {x:Predicate} (h:At predicateL fz p x):At strL fz (p.add 0) x.name:=h.part 0 fun cs hr=>by
 obtain ⟨vparams,rfl,h⟩:=XK hr;exact ⟨_,rfl,rfl,h.name⟩
theorem At.Predicate_params {p:Addr} {x:Predicate} (h:At predicateL fz p x):At (slL paramL) fz (p.add 1) x.params:=h.part 1 fun cs hr=>by
 obtain ⟨vparams,rfl,h⟩:=XK hr;obtain ⟨A,n,c,e,hs⟩:=h.params;exact ⟨_,rfl,A,n,c,by rw [e],hs⟩
structure Function where
 name:Bs
 params:List Param
 lo:Int
 hi:Int
structure FunctionR (fz:FZ) (x:Function) (vparams:Value):Prop where
 name:Short x.name
 params:IsSl paramL fz vparams x.params
 lo:I64 x.lo
 hi:I64 x.hi
theorem FunctionR.mono (hle:Le fz fz') {x:Function} {vparams:Value} (h:FunctionR fz x vparams):FunctionR fz' x vparams:=⟨h.name,h.params.mono hle,h.lo,h.hi⟩
def functionL:Lay Function where
 size:=4
 rep:=fun fz x cs=>∃ vparams,cs=[.string x.name,vparams,Zk x.lo,Zk x.hi]/\FunctionR fz x vparams
 len:=fun h=>by obtain ⟨vparams,rfl,_⟩:=h;rfl
 mono:=fun hle h=>by obtain ⟨vparams,e,h⟩:=h;exact ⟨vparams,e,h.mono hle⟩
theorem Y9 {x:Function} (h:functionL.rep fz x cs):∃ vparams,cs=[.string x.name,vparams,Zk x.lo,Zk x.hi]/\FunctionR fz x vparams:=h
theorem YbF {x:Function} {vparams:Value} (h:FunctionR fz x vparams):functionL.rep fz x [.string x.name,vparams,Zk x.lo,Zk x.hi]:=⟨vparams,rfl,h⟩
theorem At.Function_name {p:Addr} {x:Function} (h:At functionL fz p x):At strL fz (p.add 0) x.name:=h.part 0 fun cs hr=>by
 obtain ⟨vparams,rfl,h⟩:=Y9 hr;exact ⟨_,rfl,rfl,h.name⟩
structure Action where
 name:Bs
 params:List Param
 cost:Int
 pre:Formula
 changes:List Change
structure ActionR (fz:FZ) (x:Action) (vparams vpre_args vpre_params vpre_exprs vpre_kids vchanges:Value):Prop where
 name:Short x.name
 params:IsSl paramL fz vparams x.params
 cost:I64 x.cost
 pre:FormulaR fz x.pre vpre_args vpre_params vpre_exprs vpre_kids
 changes:IsSl changeL fz vchanges x.changes
theorem ActionR.mono (hle:Le fz fz') {x:Action} {vparams vpre_args vpre_params vpre_exprs vpre_kids vchanges:Value} (h:ActionR fz x vparams vpre_args vpre_params vpre_exprs vpre_kids vchanges):ActionR fz' x vparams vpre_args vpre_params vpre_exprs vpre_kids vchanges:=⟨h.name,h.params.mono hle,h.cost,h.pre.mono hle,h.changes.mono hle⟩
def actionL:Lay Action where
 size:=10
 rep:=fun fz x cs=>∃ vparams vpre_args vpre_params vpre_exprs vpre_kids vchanges,cs=[.string x.name,vparams,Zk x.cost,.string x.pre.op,.string x.pre.name,vpre_args,vpre_params,vpre_exprs,vpre_kids,vchanges]/\ActionR fz x vparams vpre_args vpre_params vpre_exprs vpre_kids vchanges
 len:=fun h=>by obtain ⟨vparams,vpre_args,vpre_params,vpre_exprs,vpre_kids,vchanges,rfl,_⟩:=h;rfl
 mono:=fun hle h=>by obtain ⟨vparams,vpre_args,vpre_params,vpre_exprs,vpre_kids,vchanges,e,h⟩:=h;exact ⟨vparams,vpre_args,vpre_params,vpre_exprs,vpre_kids,vchanges,e,h.mono hle⟩
theorem Xq {x:Action} (h:actionL.rep fz x cs):∃ vparams vpre_args vpre_params vpre_exprs vpre_kids vchanges,cs=[.string x.name,vparams,Zk x.cost,.string x.pre.op,.string x.pre.name,vpre_args,vpre_params,vpre_exprs,vpre_kids,vchanges]/\ActionR fz x vparams vpre_args vpre_params vpre_exprs vpre_kids vchanges:=h
theorem X6 {x:Action} {vparams vpre_args vpre_params vpre_exprs vpre_kids vchanges:Value} (h:ActionR fz x vparams vpre_args vpre_params vpre_exprs vpre_kids vchanges):actionL.rep fz x [.string x.name,vparams,Zk x.cost,.string x.pre.op,.string x.pre.name,vpre_args,vpre_params,vpre_exprs,vpre_kids,vchanges]:=⟨vparams,vpre_args,vpre_params,vpre_exprs,vpre_kids,vchanges,rfl,h⟩
theorem At.Action_name {p:Addr} {x:Action} (h:At actionL fz p x):At strL fz (p.add 0) x.name:=h.part 0 fun cs hr=>by
 obtain ⟨vparams,vpre_args,vpre_params,vpre_exprs,vpre_kids,vchanges,rfl,h⟩:=Xq hr;exact ⟨_,rfl,rfl,h.name⟩
theorem At.Action_pre {p:Addr} {x:Action} (h:At actionL fz p x):At YW fz (p.add 3) x.pre:=h.parts 3 fun cs hr=>by
 obtain ⟨vparams,vpre_args,vpre_params,vpre_exprs,vpre_kids,vchanges,rfl,h⟩:=Xq hr;refine ⟨_,WL h.pre,fun j v hv=>?_⟩
 match j,hv with
 | 0,hv=>exact hv
 | 1,hv=>exact hv
 | 2,hv=>exact hv
 | 3,hv=>exact hv
 | 4,hv=>exact hv
 | 5,hv=>exact hv
 | j+6,hv=>simp at hv
theorem At.Action_changes {p:Addr} {x:Action} (h:At actionL fz p x):At (slL changeL) fz (p.add 9) x.changes:=h.part 9 fun cs hr=>by
 obtain ⟨vparams,vpre_args,vpre_params,vpre_exprs,vpre_kids,vchanges,rfl,h⟩:=Xq hr;obtain ⟨A,n,c,e,hs⟩:=h.changes;exact ⟨_,rfl,A,n,c,by rw [e],hs⟩
structure Durative where
 name:Bs
 params:List Param
 duration:Int
 start:Formula
 over:Formula
 fin:Formula
 atStart:List Change
 atEnd:List Change
structure DurativeR (fz:FZ) (x:Durative) (vparams vstart_args vstart_params vstart_exprs vstart_kids vover_args vover_params vover_exprs vover_kids vfin_args vfin_params vfin_exprs vfin_kids vatStart vatEnd:Value):Prop where
 name:Short x.name
 params:IsSl paramL fz vparams x.params
 duration:I64 x.duration
 start:FormulaR fz x.start vstart_args vstart_params vstart_exprs vstart_kids
 over:FormulaR fz x.over vover_args vover_params vover_exprs vover_kids
 fin:FormulaR fz x.fin vfin_args vfin_params vfin_exprs vfin_kids
 atStart:IsSl changeL fz vatStart x.atStart
 atEnd:IsSl changeL fz vatEnd x.atEnd
theorem DurativeR.mono (hle:Le fz fz') {x:Durative} {vparams vstart_args vstart_params vstart_exprs vstart_kids vover_args vover_params vover_exprs vover_kids vfin_args vfin_params vfin_exprs vfin_kids vatStart vatEnd:Value} (h:DurativeR fz x vparams vstart_args vstart_params vstart_exprs vstart_kids vover_args vover_params vover_exprs vover_kids vfin_args vfin_params vfin_exprs vfin_kids vatStart vatEnd):DurativeR fz' x vparams vstart_args vstart_params vstart_exprs vstart_kids vover_args vover_params vover_exprs vover_kids vfin_args vfin_params vfin_exprs vfin_kids vatStart vatEnd:=⟨h.name,h.params.mono hle,h.duration,h.start.mono hle,h.over.mono hle,h.fin.mono hle,h.atStart.mono hle,h.atEnd.mono hle⟩
def durativeL:Lay Durative where
 size:=23
 rep:=fun fz x cs=>∃ vparams vstart_args vstart_params vstart_exprs vstart_kids vover_args vover_params vover_exprs vover_kids vfin_args vfin_params vfin_exprs vfin_kids vatStart vatEnd,cs=[.string x.name,vparams,Zk x.duration,.string x.start.op,.string x.start.name,vstart_args,vstart_params,vstart_exprs,vstart_kids,.string x.over.op,.string x.over.name,vover_args,vover_params,vover_exprs,vover_kids,.string x.fin.op,.string x.fin.name,vfin_args,vfin_params,vfin_exprs,vfin_kids,vatStart,vatEnd]/\DurativeR fz x vparams vstart_args vstart_params vstart_exprs vstart_kids vover_args vover_params vover_exprs vover_kids vfin_args vfin_params vfin_exprs vfin_kids vatStart vatEnd
 len:=fun h=>by obtain ⟨vparams,vstart_args,vstart_params,vstart_exprs,vstart_kids,vover_args,vover_params,vover_exprs,vover_kids,vfin_args,vfin_params,vfin_exprs,vfin_kids,vatStart,vatEnd,rfl,_⟩:=h;rfl
 mono:=fun hle h=>by obtain ⟨vparams,vstart_args,vstart_params,vstart_exprs,vstart_kids,vover_args,vover_params,vover_exprs,vover_kids,vfin_args,vfin_params,vfin_exprs,vfin_kids,vatStart,vatEnd,e,h⟩:=h;exact ⟨vparams,vstart_args,vstart_params,vstart_exprs,vstart_kids,vover_args,vover_params,vover_exprs,vover_kids,vfin_args,vfin_params,vfin_exprs,vfin_kids,vatStart,vatEnd,e,h.mono hle⟩
theorem Xg {x:Durative} (h:durativeL.rep fz x cs):∃ vparams vstart_args vstart_params vstart_exprs vstart_kids vover_args vover_params vover_exprs vover_kids vfin_args vfin_params vfin_exprs vfin_kids vatStart vatEnd,cs=[.string x.name,vparams,Zk x.duration,.string x.start.op,.string x.start.name,vstart_args,vstart_params,vstart_exprs,vstart_kids,.string x.over.op,.string x.over.name,vover_args,vover_params,vover_exprs,vover_kids,.string x.fin.op,.string x.fin.name,vfin_args,vfin_params,vfin_exprs,vfin_kids,vatStart,vatEnd]/\DurativeR fz x vparams vstart_args vstart_params vstart_exprs vstart_kids vover_args vover_params vover_exprs vover_kids vfin_args vfin_params vfin_exprs vfin_kids vatStart vatEnd:=h
theorem Y3 {x:Durative} {vparams vstart_args vstart_params vstart_exprs vstart_kids vover_args vover_params vover_exprs vover_kids vfin_args vfin_params vfin_exprs vfin_kids vatStart vatEnd:Value} (h:DurativeR fz x vparams vstart_args vstart_params vstart_exprs vstart_kids vover_args vover_params vover_exprs vover_kids vfin_args vfin_params vfin_exprs vfin_kids vatStart vatEnd):durativeL.rep fz x [.string x.name,vparams,Zk x.duration,.string x.start.op,.string x.start.name,vstart_args,vstart_params,vstart_exprs,vstart_kids,.string x.over.op,.string x.over.name,vover_args,vover_params,vover_exprs,vover_kids,.string x.fin.op,.string x.fin.name,vfin_args,vfin_params,vfin_exprs,vfin_kids,vatStart,vatEnd]:=⟨vparams,vstart_args,vstart_params,vstart_exprs,vstart_kids,vover_args,vover_params,vover_exprs,vover_kids,vfin_args,vfin_params,vfin_exprs,vfin_kids,vatStart,vatEnd,rfl,h⟩
structure Domain where
 name:Bs
 types:List Param
 constants:List Param
 predicates:List Predicate
 functions:List Function
 actions:List Action
 duratives:List Durative
structure DomainR (fz:FZ) (x:Domain) (vtypes vconstants vpredicates vfunctions vactions vduratives:Value):Prop where
 name:Short x.name
 types:IsSl paramL fz vtypes x.types
 constants:IsSl paramL fz vconstants x.constants
 predicates:IsSl predicateL fz vpredicates x.predicates
 functions:IsSl functionL fz vfunctions x.functions
 actions:IsSl actionL fz vactions x.actions
 duratives:IsSl durativeL fz vduratives x.duratives
theorem DomainR.mono (hle:Le fz fz') {x:Domain} {vtypes vconstants vpredicates vfunctions vactions vduratives:Value} (h:DomainR fz x vtypes vconstants vpredicates vfunctions vactions vduratives):DomainR fz' x vtypes vconstants vpredicates vfunctions vactions vduratives:=⟨h.name,h.types.mono hle,h.constants.mono hle,h.predicates.mono hle,h.functions.mono hle,h.actions.mono hle,h.duratives.mono hle⟩
def Yev:Lay Domain where
 size:=7
 rep:=fun fz x cs=>∃ vtypes vconstants vpredicates vfunctions vactions vduratives,cs=[.string x.name,vtypes,vconstants,vpredicates,vfunctions,vactions,vduratives]/\DomainR fz x vtypes vconstants vpredicates vfunctions vactions vduratives
 len:=fun h=>by obtain ⟨vtypes,vconstants,vpredicates,vfunctions,vactions,vduratives,rfl,_⟩:=h;rfl
 mono:=fun hle h=>by obtain ⟨vtypes,vconstants,vpredicates,vfunctions,vactions,vduratives,e,h⟩:=h;exact ⟨vtypes,vconstants,vpredicates,vfunctions,vactions,vduratives,e,h.mono hle⟩
theorem YcQ {x:Domain} (h:Yev.rep fz x cs):∃ vtypes vconstants vpredicates vfunctions vactions vduratives,cs=[.string x.name,vtypes,vconstants,vpredicates,vfunctions,vactions,vduratives]/\DomainR fz x vtypes vconstants vpredicates vfunctions vactions vduratives:=h
theorem YcP {x:Domain} {vtypes vconstants vpredicates vfunctions vactions vduratives:Value} (h:DomainR fz x vtypes vconstants vpredicates vfunctions vactions vduratives):Yev.rep fz x [.string x.name,vtypes,vconstants,vpredicates,vfunctions,vactions,vduratives]:=⟨vtypes,vconstants,vpredicates,vfunctions,vactions,vduratives,rfl,h⟩
structure Problem where
 name:Bs
 domain:Bs
 objects:List Param
 init:List Atom
 values:List Value_
 goal:Formula
structure ProblemR (fz:FZ) (x:Problem) (vobjects vinit vvalues vgoal_args vgoal_params vgoal_exprs vgoal_kids:Value):Prop where
 name:Short x.name
 domain:Short x.domain
 objects:IsSl paramL fz vobjects x.objects
 init:IsSl atomL fz vinit x.init
 values:IsSl valueL fz vvalues x.values
 goal:FormulaR fz x.goal vgoal_args vgoal_params vgoal_exprs vgoal_kids
theorem ProblemR.mono (hle:Le fz fz') {x:Problem} {vobjects vinit vvalues vgoal_args vgoal_params vgoal_exprs vgoal_kids:Value} (h:ProblemR fz x vobjects vinit vvalues vgoal_args vgoal_params vgoal_exprs vgoal_kids):ProblemR fz' x vobjects vinit vvalues vgoal_args vgoal_params vgoal_exprs vgoal_kids:=⟨h.name,h.domain,h.objects.mono hle,h.init.mono hle,h.values.mono hle,h.goal.mono hle⟩
def YaE:Lay Problem where
 size:=11
 rep:=fun fz x cs=>∃ vobjects vinit vvalues vgoal_args vgoal_params vgoal_exprs vgoal_kids,cs=[.string x.name,.string x.domain,vobjects,vinit,vvalues,.string x.goal.op,.string x.goal.name,vgoal_args,vgoal_params,vgoal_exprs,vgoal_kids]/\ProblemR fz x vobjects vinit vvalues vgoal_args vgoal_params vgoal_exprs vgoal_kids
 len:=fun h=>by obtain ⟨vobjects,vinit,vvalues,vgoal_args,vgoal_params,vgoal_exprs,vgoal_kids,rfl,_⟩:=h;rfl
 mono:=fun hle h=>by obtain ⟨vobjects,vinit,vvalues,vgoal_args,vgoal_params,vgoal_exprs,vgoal_kids,e,h⟩:=h;exact ⟨vobjects,vinit,vvalues,vgoal_args,vgoal_params,vgoal_exprs,vgoal_kids,e,h.mono hle⟩
theorem Ya1 {x:Problem} (h:YaE.rep fz x cs):∃ vobjects vinit vvalues vgoal_args vgoal_params vgoal_exprs vgoal_kids,cs=[.string x.name,.string x.domain,vobjects,vinit,vvalues,.string x.goal.op,.string x.goal.name,vgoal_args,vgoal_params,vgoal_exprs,vgoal_kids]/\ProblemR fz x vobjects vinit vvalues vgoal_args vgoal_params vgoal_exprs vgoal_kids:=h
theorem Wi {x:Problem} {vobjects vinit vvalues vgoal_args vgoal_params vgoal_exprs vgoal_kids:Value} (h:ProblemR fz x vobjects vinit vvalues vgoal_args vgoal_params vgoal_exprs vgoal_kids):YaE.rep fz x [.string x.name,.string x.domain,vobjects,vinit,vvalues,.string x.goal.op,.string x.goal.name,vgoal_args,vgoal_params,vgoal_exprs,vgoal_kids]:=⟨vobjects,vinit,vvalues,vgoal_args,vgoal_params,vgoal_exprs,vgoal_kids,rfl,h⟩
end Go.Lx
