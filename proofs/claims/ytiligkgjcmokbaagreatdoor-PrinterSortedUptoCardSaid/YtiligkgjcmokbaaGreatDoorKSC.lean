/- The texts Data, Own, GData, PData, Map, GBase, GRet, PBase, laid together. Conditions: none. -/
import Derived.Test.YtiligkgjcmokbaaGreatDoorKSB
import Derived.Maps.AppendAt
set_option linter.all false
namespace Go.Lx
open Go.RowKit
variable {α β:Type} {fz fz':FZ} {A:Option Addr} {c:Nat}
variable [Dr]
set_option linter.unusedSectionVars false
structure Lay (α:Type) where
 size:Nat
 rep:FZ->α->List Value->Prop
 len:∀ {fz d cs},rep fz d cs->cs.length=size
 mono:∀ {fz fz' d cs},Le fz fz'->rep fz d cs->rep fz' d cs
def At {α:Type} (L:Lay α) (fz:FZ) (p:Addr) (d:α):Prop:=∃ cs,L.rep fz d cs/\Row fz p cs
variable {L:Lay α}
theorem At.mono (h:Le fz fz') {p:Addr} {d:α} (ha:At L fz p d):At L fz' p d:=by
 obtain ⟨cs,h1,h2⟩:=ha;exact ⟨cs,L.mono h h1,h2.mono h⟩
structure Sl {α:Type} (L:Lay α) (fz:FZ) (A:Option Addr) (n c:Nat) (xs:List α):Prop where
 len:xs.length=n
 cap:n<=c
 max:c<=9223372036854775807
 short:n<=140737488355328
 elem:n=0\/∃ ad,A=some ad/\∀ i d,xs[i]?=some d->At L fz (ad.add (i*L.size)) d
theorem Sl.mono (h:Le fz fz') {n:Nat} {xs:List α} (hs:Sl L fz A n c xs):Sl L fz' A n c xs:=
 ⟨hs.len,hs.cap,hs.max,hs.short,hs.elem.imp id fun ⟨ad,h1,h2⟩=>⟨ad,h1,fun i d hd=>(h2 i d hd).mono h⟩⟩
theorem Sl.nil {α:Type} {L:Lay α} {fz:FZ} {A:Option Addr} {c:Nat} (hc:c<=9223372036854775807:=by omega):Sl L fz A 0 c ([]:List α):=⟨rfl,Z0 _,hc,Z0 _,.inl rfl⟩
def I64 (n:Int):Prop:= -9223372036854775808<=n/\n<=9223372036854775807
def intL:Lay Int where
 size:=1
 rep:=fun _ n cs=>cs=[Zk n]/\I64 n
 len:=fun h=>by simp [h.1]
 mono:=fun _ h=>h
def strL:Lay Bs where
 size:=1
 rep:=fun _ s cs=>cs=[.string s]/\s.size<=9223372036854775807
 len:=fun h=>by simp [h.1]
 mono:=fun _ h=>h
def slL {α:Type} (L:Lay α):Lay (List α) where
 size:=1
 rep:=fun fz xs cs=>∃ A n c,cs=[.slice A n c]/\Sl L fz A n c xs
 len:=fun ⟨_,_,_,h,_⟩=>by simp [h]
 mono:=fun hle ⟨A,n,c,h,hs⟩=>⟨A,n,c,h,hs.mono hle⟩
section
variable {P:Program} {cx:Cx} {r:Operand->Option Value} {fz:FZ} {H:HP} {V:Value->Prop} {dst:Option Nat} {ty:TypeId} {pos:String} {af:Array Edge} {gd:Option (Nat × Bool)} {α:Type} {L:Lay α}
variable {X Y:Ty} {e t:TypeId} {x:Operand}
theorem Ybt (T:Tab P) {i:Operand} {n:Nat} {k:IntKind} {j:Int} {xs:List α} {d:α} (m:Nat) (hT:T.inf t=some X) (hd:X.desc=.slice e) (hY:T.inf e=some Y) (hL:Y.size=L.size)
 (hx:r x=some (.slice A n c)) (hi:r i=some (.int k j)) (h:Sl L fz A n c xs) (hj:j=m) (hm:xs[m]?=some d) (hV:∀ p,At L fz p d->V (.pointer (some p))):DoesQ P cx ⟨dst,.indexAddr t x i,ty,pos,af,gd⟩ r fz H V:=by
 have hlt:m<xs.length:=(Zg hm).1;have h1:=h.len;rcases h.elem with h2 | ⟨ad,rfl,h2⟩
 ·omega
 subst hj;refine YcV T hT hd hY hx hi Zi Zi (hV _ ?_);rw [hL];simpa using h2 m d hm
theorem Ypf (T:Tab P) {p:Addr} {d:α} (hT:T.inf t=some X) (hd:W5 X.desc=true) (hx:r x=some (.pointer (some p))) (h:At L fz p d) (hs:X.size=L.size)
 (hV:∀ cs,L.rep fz d cs->V (.agg cs.toArray)):DoesQ P cx ⟨dst,.load t x,ty,pos,af,gd⟩ r fz H V:=by
 obtain ⟨cs,h1,h2⟩:=h;exact Yfr T hT hd hx h2 (hs.trans (L.len h1).symm) (hV cs h1)
theorem At.cell {p:Addr} {d:α} (h:At L fz p d) (hs:L.size=1):∃ v,L.rep fz d [v]/\YcG fz p=some v:=by
 obtain ⟨cs,h1,h2⟩:=h;have:=L.len h1;rw [hs] at this
 match cs,this with
 | [v],_=>
  refine ⟨v,h1,?_⟩;have:=h2 0 v rfl;simpa [Addr.add] using this
theorem Xz (T:Tab P) {p:Addr} {d:Int} (hT:T.inf t=some X) (hd:W5 X.desc=false) (hx:r x=some (.pointer (some p))) (h:At intL fz p d) (hV:I64 d->V (Zk d)):DoesQ P cx ⟨dst,.load t x,ty,pos,af,gd⟩ r fz H V:=by
 obtain ⟨v,h1,h2⟩:=h.cell rfl;obtain ⟨he,hi⟩:=h1;injection he with he
 subst he;exact YcU T hT hd hx h2 (hV hi)
theorem YnY (T:Tab P) {p:Addr} {d:Bs} (hT:T.inf t=some X) (hd:W5 X.desc=false) (hx:r x=some (.pointer (some p))) (h:At strL fz p d) (hV:d.size<=9223372036854775807->V (.string d)):DoesQ P cx ⟨dst,.load t x,ty,pos,af,gd⟩ r fz H V:=by
 obtain ⟨v,h1,h2⟩:=h.cell rfl;obtain ⟨he,hi⟩:=h1;injection he with he
 subst he;exact YcU T hT hd hx h2 (hV hi)
theorem YbX {t:TypeId} {x:Operand} {X:Ty} {p:Addr} {d:List α} (h:At (slL L) fz p d) (hV:∀ A n c,Sl L fz A n c d->V (.slice A n c)) (T:Tab P:=by exact T) (hT:T.inf t=some X:=by exact rfl) (hd:W5 X.desc=false:=by exact rfl) (hx:r x=some (.pointer (some p)):=by exact rfl):DoesQ P cx ⟨dst,.load t x,ty,pos,af,gd⟩ r fz H V:=by
 obtain ⟨v,h1,h2⟩:=h.cell rfl;obtain ⟨A,n,c,he,hs⟩:=h1;injection he with he
 subst he;exact YcU T hT hd hx h2 (hV A n c hs)
end
theorem At.part {L':Lay β} {p:Addr} {d:α} {d':β} (h:At L fz p d) (i:Nat) (hr:∀ cs,L.rep fz d cs->∃ v,cs[i]?=some v/\L'.rep fz d' [v]):At L' fz (p.add i) d':=by
 obtain ⟨cs,h1,h2⟩:=h;obtain ⟨v,h3,h4⟩:=hr cs h1;refine ⟨[v],h4,fun j u hj=>?_⟩;cases j with
 | zero=>
  simp at hj;subst hj;have:(p.add i).add 0=p.add i:=by simp [Addr.add]
  rw [this];exact h2 i v h3
 | succ j=>simp at hj
end Go.Lx
namespace Go.Lx
open Go.RowKit
set_option linter.unusedSectionVars false
variable {Hs:HP} {v:Value}
def OwnS (e size:Nat) (v:Value) (n:Nat) (xs:List Value) (Hs:HP):Prop:=
 xs.length=n*size/\((v=Zn/\n=0/\Hs=[])\/
  ∃ g cap cur,v=Zv g n cap/\Hs=[(g,.cells cur e (0,0))]/\n<=cap/\cap<=maxLen/\cur.size=cap*size/\cur.toList.take (n*size)=xs)
theorem OwnS.nil (e size:Nat):OwnS e size Zn 0 [] []:=⟨by simp,.inl ⟨rfl,rfl,rfl⟩⟩
theorem OwnS.form {e size n:Nat} {xs:List Value} (h:OwnS e size v n xs Hs):∃ A c,v=.slice A n c/\n<=c/\c<=9223372036854775807:=by
 rcases h.2 with ⟨h1,h2,_⟩ | ⟨g,cap,cur,h1,_,h3,h4,_⟩
 ·subst h2;exact ⟨none,0,h1,Zs _,by omega⟩
 exact ⟨_,cap,h1,h3,by simpa [maxLen] using h4⟩
theorem OwnS.of_block {e size g n:Nat} {cs:List Value} (hl:cs.length=n*size) (hn:n<=maxLen:=by decide):OwnS e size (Zv g n n) n cs [(g,.cells cs.toArray e (0,0))]:=
 ⟨hl,.inr ⟨g,n,cs.toArray,rfl,rfl,Zs _,hn,by simpa using hl,by simp [<- hl]⟩⟩
section
variable {P:Program} {cx:Cx} {r:Operand->Option Value} {fz:FZ} {H:HP} {dst:Option Nat} {ty:TypeId} {pos:String} {af:Array Edge} {gd:Option (Nat × Bool)}
section
variable [Dr]
variable {o:Oper}
theorem Does.perm {H':HP} {K:Value->FZ->HP->Prop} (hp:H'.Perm H) (h:Does P cx o r fz H' K):Does P cx o r fz H K:=
 Does.of fun ρ w hr hi=>h.run ρ w hr (hi.perm hp)
end
variable {Hr:HP} {w w':World}
theorem Inv.appended {Hs':HP} {e size n m:Nat} {v':Value} {xs ys:List Value} (h:Inv cx fz (Hr++Hs) w) (ho:OwnS e size v n xs Hs) (hg:w.grownBy w' v.ownBlock)
 (ho':OwnS e size v' m ys Hs') (hw':∀ p∈Hs',w'.heap[p.1]?=some p.2) (hb:v'.ownBlock=v.ownBlock\/v'.ownBlock=some w.heap.size):Inv cx fz (Hr++Hs') w':=by
 obtain ⟨⟨a,b,c⟩,⟨d,ee,f,gg,i⟩,⟨j,k,l⟩⟩:=h;rw [List.map_append,List.nodup_append] at c
 -- the row that may have been written
 have hrow:∀ g,v.ownBlock=some g->∃ o,Hs=[(g,o)]:=by
  intro g hgv;rcases ho.2 with ⟨h1,_,_⟩ | ⟨g',cap,cur,h1,h2,_⟩
  ·subst h1;simp [Value.ownBlock] at hgv
  subst h1;simp [Value.ownBlock] at hgv;subst hgv;exact ⟨_,h2⟩
 have hsame:∀ x,x<w.heap.size->(∀ o,Hs≠ [(x,o)])->w'.heap[x]?=w.heap[x]?:=fun x hx hn=>hg.block x hx (fun he=>by
  obtain ⟨o,ho⟩:=hrow x he.symm;exact hn o ho)
 have hnotfz:∀ x q,fz x=some q->∀ o,Hs≠ [(x,o)]:=fun x q hx o he=>by
  have:=(b (x,o) (by rw [he];simp)).2;rw [hx] at this;cases this
 have hnotr:∀ p∈Hr,∀ o,Hs≠ [(p.1,o)]:=fun p hp o he=>c.2.2 p.1 (List.mem_map.2 ⟨p,hp,rfl⟩) p.1 (by rw [he];simp) rfl
 -- the new row's block
 have hform:Hs'=[]\/∃ g o,Hs'=[(g,o)]/\((∃ o',Hs=[(g,o')])\/g=w.heap.size):=by
  rcases ho'.2 with ⟨_,_,h3⟩ | ⟨g,cap,cur,h1,h2,_⟩
  ·exact .inl h3
  refine .inr ⟨g,_,h2,?_⟩;subst h1;rcases hb with hb | hb
  ·exact .inl (hrow g (by rw [<- hb];rfl))
  right;simpa [Value.ownBlock] using hb
 have hnew:fz w.heap.size=none:=by
  cases hq:fz w.heap.size with
  | none=>rfl
  | some q=>have:=lt_of_heap (a _ _ hq);omega
 refine ⟨⟨fun x q hx=>?_,fun p hp=>?_,?_⟩,⟨hg.os.trans d,hg.tape.trans ee,hg.output.trans f,by have:=hg.size;omega,fun x hx hn=>?_,fun h=>h.elim⟩,⟨j,k,fun p hp=>?_⟩⟩
 ·have:=a x q hx;rw [hsame x (lt_of_heap this) (hnotfz x q hx)];exact this
 ·rcases List.mem_append.1 hp with hp | hp
  ·have:=b p (by simp [hp]);exact ⟨by rw [hsame p.1 (lt_of_heap this.1) (hnotr p hp)];exact this.1,this.2⟩
  refine ⟨hw' p hp,?_⟩;rcases hform with h1 | ⟨g,o,h1,h2⟩
  ·rw [h1] at hp;cases hp
  rw [h1] at hp;simp at hp;subst hp;rcases h2 with ⟨o',h2⟩ | h2
  ·exact (b (g,o') (by rw [h2];simp)).2
  subst h2;exact hnew
 ·rw [List.map_append,List.nodup_append];rcases hform with h1 | ⟨g,o,h1,h2⟩
  ·rw [h1];simp;exact c.1
  rw [h1];refine ⟨c.1,by simp,fun x hx y hy hxy=>?_⟩;simp at hy;subst hy;subst hxy;obtain ⟨q,hq,rfl⟩:=List.mem_map.1 hx;rcases h2 with ⟨o',h2⟩ | h2
  ·exact hnotr q hq o' h2
  have:=lt_of_heap (b q (by simp [hq])).1;omega
 ·rw [hsame x Zi (fun o he=>by
   have:=l (x,o) (by rw [he];simp);rcases this with h1 | h1
   ·exact hn h1
   have h2:cx.w0.heap.size<=x:=h1;omega)]
  exact i x hx hn
 rcases List.mem_append.1 hp with hp | hp
 ·exact l p (by simp [hp])
 rcases hform with h1 | ⟨g,o,h1,h2⟩
 ·rw [h1] at hp;cases hp
 rw [h1] at hp;simp at hp;subst hp;rcases h2 with ⟨o',h2⟩ | h2
 ·exact l (g,o') (by rw [h2];simp)
 exact .inr Zi
theorem OwnS.owns {e size n:Nat} {xs:List Value} (h:OwnS e size v n xs Hs) (hi:Inv cx fz (Hr++Hs) w):w.ownsRow 0 e size v n xs:=by
 refine ⟨h.1,?_⟩;rcases h.2 with ⟨h1,h2,_⟩ | ⟨g,cap,cur,h1,h2,h3,h4,h5,h6⟩
 ·exact .inl ⟨h1,h2⟩
 exact .inr ⟨g,cap,cur,h1,Z0 _,(hi.hp.own (g,.cells cur e (0,0)) (by rw [h2];simp)).1,h3,h4,h5,h6⟩
theorem Yga {e size n:Nat} {xs:List Value} (h:w.ownsRow 0 e size v n xs):∃ Hs,OwnS e size v n xs Hs/\∀ p∈Hs,w.heap[p.1]?=some p.2:=by
 obtain ⟨h1,h2⟩:=h;rcases h2 with ⟨h2,h3⟩ | ⟨g,cap,cur,h2,_,h4,h5,h6,h7,h8⟩
 ·exact ⟨[],⟨h1,.inl ⟨h2,h3,rfl⟩⟩,by simp⟩
 exact ⟨[(g,.cells cur e (0,0))],⟨h1,.inr ⟨g,cap,cur,h2,rfl,h5,h6,h7,h8⟩⟩,by simpa using h4⟩
theorem Ygx {t e:TypeId} {x y:Operand} {X Y:Ty} {v:Value} {n m c:Nat} {B:Option Addr} {xs news:List Value} {Hr Hs:HP} {K:Value->FZ->HP->Prop}
 (hp:H.Perm (Hr++Hs))
 (hs:m=0\/∃ ad,B=some ad/\∀ w,Inv cx fz H w->∀ j u,news[j]?=some u->w.cell? (ad.add j)=some u)
  (h:∀ v' Hs',OwnS e Y.size v' (n+m) (xs++news) Hs'->K v' fz (Hr++Hs')) (T:Tab P:=by exact T) (hT:T.inf t=some X:=by exact rfl) (hd:X.desc=.slice e:=by exact rfl) (hY:T.inf e=some Y:=by exact rfl) (hz:Y.zero.cells.size=Y.size:=by exact rfl) (hsz:Nat.blt 0 Y.size=true:=by exact rfl) (hx:r x=some v:=by exact rfl) (hy:r y=some (.slice B m c):=by exact rfl) (ho:OwnS e Y.size v n xs Hs) (hl:news.length=m*Y.size) (h1:∀ u∈news,u.oneCell'=true) (hb:(n+m)*Y.bytes<=140737488355328:=by exact mulB) (hm:n+m<=9223372036854775807:=by omega):
  Does P cx ⟨dst,.call {callee:=.builtin .append,args:=#[x,y],argTypes:=#[t,t]},ty,pos,af,gd⟩ r fz H K:=by
  refine Does.of fun ρ w hr hi=>?_
  have hi':=hi.perm hp.symm;obtain ⟨i,hinf,g1,g2,g3⟩:=(T.ok_ hY).info;have hown:=ho.owns hi';have hund:=und_plain T hT hd rfl;have hexec:∀ res,(Builtin.append_ #[t,t] ty #[v,.slice B m c]).run P w=res->(execOp ρ ⟨dst,.call {callee:=.builtin .append,args:=#[x,y],argTypes:=#[t,t]},ty,pos,af,gd⟩).run P w=res.andThen fun u w'=>.ok (.value u) w':=by
   intro res hres;simp only [execOp,resolve,invoke,builtin,Sem.run_bind,Sem.run_pure,Result.andThen_ok,List.map_toArray,List.map_cons,List.map_nil,hr _ _ hx,hr _ _ hy,hres]
  by_cases hB:B=none
  ·-- a nil source
   subst hB;have hm0:m=0:=by
    rcases hs with h0 | ⟨ad,he,_⟩
    ·exact h0
    cases he
   subst hm0;have hn:news=[]:=List.eq_nil_of_length_eq_zero (by simpa using hl);subst hn;have hrun:(Builtin.append_ #[t,t] ty #[v,.slice none 0 c]).run P w=.ok v w:=by
    rcases hown.2 with ⟨rfl,rfl⟩ | ⟨g,cap,cur,rfl,_,_,hnc,_⟩
    ·simp [Builtin.append_,run_underlying hund,sizeOf,typeInfo,hinf,Builtin.lenOf,Builtin.firstCells]
    simp [Builtin.append_,run_underlying hund,sizeOf,typeInfo,hinf,Builtin.lenOf,Builtin.firstCells,hnc,storeCells]
   rw [hexec _ hrun];exact ⟨fz,_,hi',h v Hs (by simpa using ho)⟩
  obtain ⟨ad,rfl⟩:∃ ad,B=some ad:=by cases B with | none=>exact absurd rfl hB | some ad=>exact ⟨ad,rfl⟩
  have hcells:∀ j u,news[j]?=some u->w.cell? (ad.add j)=some u:=by
   intro j u hu;rcases hs with h0 | ⟨ad',he,hc⟩
   ·subst h0;have hn:news=[]:=List.eq_nil_of_length_eq_zero (by simpa using hl);subst hn;simp at hu
   injection he with he
   subst he;exact hc w hi j u hu
  have hsz':0<Y.size:=by simpa [Nat.blt_eq] using hsz
  obtain ⟨v',w',hrun,h2,h3,_,h5⟩:=run_append_own_at (P:=P) w 0 t ty e i Y.zero Y.size Y.bytes hund hinf g3 g1 g2 hz hsz' v n xs hown ad m c news hl hcells h1 (by simpa [maxLen] using hm) hb (Z0 _);obtain ⟨Hs',h6,h7⟩:=Yga h2;rw [hexec _ hrun];exact ⟨fz,_,hi'.appended ho h3 h6 h7 h5,h v' Hs' h6⟩
variable {B:Option Addr}
theorem src_row {m:Nat} {news:List Value} (h:m=0\/∃ ad,B=some ad/\Row fz ad news):m=0\/∃ ad,B=some ad/\∀ w,Inv cx fz H w->∀ j u,news[j]?=some u->w.cell? (ad.add j)=some u:=
 h.imp id fun ⟨ad,h1,h2⟩=>⟨ad,h1,fun _ hi j u hu=>hi.hp.cell (h2 j u hu)⟩
variable {g:Nat} {t:TypeId}
theorem YlE {m:Nat} {news:List Value} (hp:(g,Obj.cells news.toArray t (0,0))∈H):m=0\/∃ ad,(some (⟨g,0,none⟩:Addr))=some ad/\∀ w,Inv cx fz H w->∀ j u,news[j]?=some u->w.cell? (ad.add j)=some u:=
 .inr ⟨_,rfl,fun w hi j u hu=>by
  have hadd:(⟨g,0,none⟩:Addr).add j=⟨g,j,none⟩:=by unfold Addr.add;split<;>simp_all
  rw [hadd,cell_of_row w g j news.toArray t (0,0) (hi.hp.own _ hp).1];simpa using hu⟩
variable [Dr]
theorem W7 {t e:TypeId} {X Y:Ty} {K:Value->FZ->HP->Prop}
 (h:∀ g,K (Zv g 0 0) fz ((g,.cells #[] e (0,0))::H)) (T:Tab P:=by exact T) (hT:T.inf t=some X:=by exact rfl) (hd:X.desc=.slice e:=by exact rfl) (hY:T.inf e=some Y:=by exact rfl):Does P cx ⟨dst,.buildSlice t 0 #[],ty,pos,af,gd⟩ r fz H K:=by
 refine Does.of fun ρ w hr hw=>?_
 have hu:=run_underlying (und_plain T hT hd rfl) w;have hsz:=run_sizeOf T hY w;have:(execOp ρ ⟨dst,.buildSlice t 0 #[],ty,pos,af,gd⟩).run P w=.ok (.value (.slice (some ⟨w.heap.size,0,none⟩) 0 0)) (w.alloc (.cells #[] e (0,0))):=by
  simp [execOp,Instr.buildSlice,hu,hsz,Instr.fill,newRow,newObj,Sem.run,Array.range_zero']
 rw [this];exact ⟨fz,_,hw.alloc _,h _⟩
theorem WI {t t':TypeId} {x:Operand} {X:Ty} {e:TypeId} {A:Option Addr} {n c:Nat} {V:Value->Prop} (h1:A=none->V (.bool true)) (h2:A≠none->V (.bool false)) (T:Tab P:=by exact T) (hT:T.inf t=some X:=by exact rfl) (hd:X.desc=.slice e:=by exact rfl) (hx:r x=some (.slice A n c):=by exact rfl) (hy:r (.const Zn)=some Zn:=by exact rfl):
 DoesQ P cx ⟨dst,.binOp .eql t x (.const Zn) t',ty,pos,af,gd⟩ r fz H V:=by
 have hu:=fun w=>run_underlying (und_plain T hT hd rfl) w
 have hrun:∀ w,(Op.equal t (.slice A n c) Zn).run P w=.ok A.isNone w:=fun w=>by
  have:∀ d:Nat,(Op.equalIn (d+1) t (.slice A n c) Zn).run P w=.ok A.isNone w:=fun d=>by
   unfold Op.equalIn;cases A<;>simp only [Sem.run_bind,hu,Result.andThen_ok,Sem.run_pure,Option.isNone_none,Option.isNone_some]
  exact this 9999
 cases A with
 | none=>exact YC (fun ρ w hr=>by simp only [execOp,hr _ _ hx,hr _ _ hy,Sem.run_bind,eqGuard_at_slice,Sem.run_pure,Result.andThen_ok,binOp,hrun,Option.isNone_none]) (h1 rfl)
 | some ad=>exact YC (fun ρ w hr=>by simp only [execOp,hr _ _ hx,hr _ _ hy,Sem.run_bind,eqGuard_at_slice,Sem.run_pure,Result.andThen_ok,binOp,hrun,Option.isNone_some]) (h2 (by simp))
def RowS (fz:FZ) (A:Option Addr) (n:Nat) (xs:List Value):Prop:=n=0\/∃ ad,A=some ad/\Row fz ad xs
theorem Wp.freezeAll {n:Nat} {c:Code} {σ:Env} {Q:QQ} {H1 H2:HP} (hp:H.Perm (H1++H2)) (h:∀ fz',Le fz fz'->(∀ p∈H2,fz' p.1=some p.2)->Wp P cx n c σ fz' H1 Q):Wp P cx n c σ fz H Q:=
 Wp.of fun a w hs hi=>by
  obtain ⟨fz',h1,h2,h3⟩:=WA H2 fz H1 (hi.perm hp.symm);exact (h fz' h1 h2).run a w hs h3
theorem Seq.freezeAll {n:Nat} {ops:Array Oper} {l:List Oper} {σ:Env} {Q:QQ} {H1 H2:HP} (hp:H.Perm (H1++H2)) (h:∀ fz',Le fz fz'->(∀ p∈H2,fz' p.1=some p.2)->Seq P cx n ops l σ fz' H1 Q):Seq P cx n ops l σ fz H Q:=
 Seq.of fun a w hs hi=>by
  obtain ⟨fz',h1,h2,h3⟩:=WA H2 fz H1 (hi.perm hp.symm);exact (h fz' h1 h2).run a w hs h3
variable {fz':FZ}
theorem OwnS.row {e size n:Nat} {xs:List Value} (h:OwnS e size v n xs Hs) (hf:∀ p∈Hs,fz' p.1=some p.2):∃ A c,v=.slice A n c/\n<=c/\c<=9223372036854775807/\RowS fz' A n xs:=by
 rcases h.2 with ⟨h1,h2,_⟩ | ⟨g,cap,cur,h1,h2,h3,h4,h5,h6⟩
 ·subst h2;exact ⟨none,0,h1,Zs _,by omega,.inl rfl⟩
 refine ⟨_,cap,h1,h3,by simpa [maxLen] using h4,.inr ⟨_,rfl,fun j u hu=>?_⟩⟩;have hadd:(⟨g,0,none⟩:Addr).add j=⟨g,j,none⟩:=by unfold Addr.add;split<;>simp_all
 have hg:=hf (g,.cells cur e (0,0)) (by rw [h2];simp);rw [hadd];simp only [YcG,hg];have h7:(cur.toList.take (n*size))[j]?=some u:=by rw [h6];exact hu
 rw [List.getElem?_take] at h7;split at h7
 ·simpa using h7
 cases h7
variable {α:Type} {A:Option Addr} {c:Nat} {L:Lay α}
theorem RowS.sl {fz:FZ} {n:Nat} {xs:List Value} {ds:List α} (h:RowS fz A n xs) (hn:n<=c) (hc:c<=9223372036854775807) (hs:n<=140737488355328) (hl:ds.length=n)
 (hr:∀ i d,ds[i]?=some d->∃ cs,L.rep fz d cs/\∀ j u,cs[j]?=some u->xs[i*L.size+j]?=some u):Sl L fz A n c ds:=by
 refine ⟨hl,hn,hc,hs,?_⟩;rcases h with h | ⟨ad,h1,h2⟩
 ·exact .inl h
 refine .inr ⟨ad,h1,fun i d hd=>?_⟩;obtain ⟨cs,h3,h4⟩:=hr i d hd;refine ⟨cs,h3,fun j u hu=>?_⟩;have:=h2 _ u (h4 j u hu);have e:(ad.add (i*L.size)).add j=ad.add (i*L.size+j):=by
  unfold Addr.add;by_cases h5:i*L.size=0<;>by_cases h6:j=0<;>simp [h5,h6,Nat.add_assoc]
 rw [e];exact this
end
end Go.Lx
namespace Go.Lx
open Go.RowKit
variable {α β:Type} {fz fz':FZ} {v:Value} {A:Option Addr} {c:Nat} {cs:List Value} {L:Lay α}
variable [Dr]
set_option linter.unusedSectionVars false
def IsSl {α:Type} (L:Lay α) (fz:FZ) (v:Value) (xs:List α):Prop:=∃ A n c,v=.slice A n c/\Sl L fz A n c xs
theorem IsSl.mono (h:Le fz fz') {xs:List α} (hs:IsSl L fz v xs):IsSl L fz' v xs:=by
 obtain ⟨A,n,c,e,k⟩:=hs;exact ⟨A,n,c,e,k.mono h⟩
theorem Sl.is {n:Nat} {xs:List α} (h:Sl L fz A n c xs):IsSl L fz (.slice A n c) xs:=⟨A,n,c,rfl,h⟩
theorem IsSl.nil:IsSl L fz Zn ([]:List α):=⟨none,0,0,rfl,Sl.nil⟩
def Short (s:Bs):Prop:=s.size<=9223372036854775807
theorem At.parts {L':Lay β} {p:Addr} {d:α} {d':β} (h:At L fz p d) (i:Nat) (hr:∀ cs,L.rep fz d cs->∃ cs',L'.rep fz d' cs'/\∀ j v,cs'[j]?=some v->cs[i+j]?=some v):At L' fz (p.add i) d':=by
 obtain ⟨cs,h1,h2⟩:=h;obtain ⟨cs',h3,h4⟩:=hr cs h1;refine ⟨cs',h3,fun j v hv=>?_⟩;have:(p.add i).add j=p.add (i+j):=by
  unfold Addr.add;by_cases h5:i=0<;>by_cases h6:j=0<;>simp [h5,h6,Nat.add_assoc]
 rw [this];exact h2 (i+j) v (h4 j v hv)
theorem At.imp {L':Lay α} (h:∀ d cs,L.rep fz d cs->L'.rep fz d cs) {p:Addr} {d:α} (ha:At L fz p d):At L' fz p d:=by
 obtain ⟨cs,h1,h2⟩:=ha;exact ⟨cs,h d cs h1,h2⟩
theorem Sl.imp {L':Lay α} (hz:L.size=L'.size) (h:∀ d cs,L.rep fz d cs->L'.rep fz d cs) {n:Nat} {xs:List α} (hs:Sl L fz A n c xs):Sl L' fz A n c xs:=
 ⟨hs.len,hs.cap,hs.max,hs.short,hs.elem.imp id fun ⟨ad,h1,h2⟩=>⟨ad,h1,fun i d hd=>by rw [<- hz];exact (h2 i d hd).imp h⟩⟩
theorem IsSl.imp {L':Lay α} (hz:L.size=L'.size) (h:∀ d cs,L.rep fz d cs->L'.rep fz d cs) {xs:List α} (hs:IsSl L fz v xs):IsSl L' fz v xs:=by
 obtain ⟨A,n,c,e,k⟩:=hs;exact ⟨A,n,c,e,k.imp hz h⟩
def limL {α:Type} (D:Nat->Lay α) (z:Nat) (hz:∀ d,(D d).size=z):Lay α where
 size:=z
 rep:=fun fz x cs=>∃ d,(D d).rep fz x cs
 len:=fun ⟨d,h⟩=>((D d).len h).trans (hz d)
 mono:=fun hle ⟨d,h⟩=>⟨d,(D d).mono hle h⟩
theorem YmM {α:Type} {P:Nat->Nat->α->Prop} (hm:∀ d e i x,d<=e->P d i x->P e i x):∀ (xs:List α) (k:Nat),(∀ i x,xs[i]?=some x->∃ d,P d (k+i) x)->∃ d,∀ i x,xs[i]?=some x->P d (k+i) x
 | [],_,_=>⟨0,fun i x h=>by simp at h⟩
 | y::ys,k,h=>by
  obtain ⟨d,hd⟩:=YmM hm ys (k+1) (fun i x hx=>by have:=h (i+1) x (by simpa using hx);simpa [Nat.add_assoc,Nat.add_comm 1 i] using this);obtain ⟨e,he⟩:=h 0 y rfl;refine ⟨max d e,fun i x hx=>?_⟩;cases i with
  | zero=>simp at hx;subst hx;exact hm _ _ _ _ (Nat.le_max_right d e) he
  | succ i=>have:=hd i x (by simpa using hx);have:=hm _ _ _ _ (Nat.le_max_left d e) this;simpa [Nat.add_assoc,Nat.add_comm 1 i] using this
theorem Sl.sup {D:Nat->Lay α} {z:Nat} {hz:∀ d,(D d).size=z} (hm:∀ d e fz x cs,d<=e->(D d).rep fz x cs->(D e).rep fz x cs) {n:Nat} {xs:List α} (hs:Sl (limL D z hz) fz A n c xs):∃ d,Sl (D d) fz A n c xs:=by
 rcases hs.elem with h | ⟨ad,h1,h2⟩
 ·exact ⟨0,hs.len,hs.cap,hs.max,hs.short,.inl h⟩
 obtain ⟨d,hd⟩:=YmM (P:=fun d i x=>At (D d) fz (ad.add (i*z)) x) (fun d e i x hde h=>h.imp fun _ _ hr=>hm d e _ _ _ hde hr) xs 0 (fun i x hx=>by
  obtain ⟨cs,⟨d,hr⟩,hrow⟩:=h2 i x hx;exact ⟨d,cs,hr,by simpa [limL] using hrow⟩)
 exact ⟨d,hs.len,hs.cap,hs.max,hs.short,.inr ⟨ad,h1,fun i x hx=>by have:=hd i x hx;rw [hz d];simpa using this⟩⟩
theorem IsSl.sup {D:Nat->Lay α} {z:Nat} {hz:∀ d,(D d).size=z} (hm:∀ d e fz x cs,d<=e->(D d).rep fz x cs->(D e).rep fz x cs) {xs:List α} (hs:IsSl (limL D z hz) fz v xs):∃ d,IsSl (D d) fz v xs:=by
 obtain ⟨A,n,c,e,k⟩:=hs;obtain ⟨d,hd⟩:=k.sup hm;exact ⟨d,A,n,c,e,hd⟩
structure Atom where
 name:Bs
 args:List Bs
structure AtomR (fz:FZ) (x:Atom) (vargs:Value):Prop where
 name:Short x.name
 args:IsSl strL fz vargs x.args
theorem AtomR.mono (hle:Le fz fz') {x:Atom} {vargs:Value} (h:AtomR fz x vargs):AtomR fz' x vargs:=⟨h.name,h.args.mono hle⟩
def atomL:Lay Atom where
 size:=2
 rep:=fun fz x cs=>∃ vargs,cs=[.string x.name,vargs]/\AtomR fz x vargs
 len:=fun h=>by obtain ⟨vargs,rfl,_⟩:=h;rfl
 mono:=fun hle h=>by obtain ⟨vargs,e,h⟩:=h;exact ⟨vargs,e,h.mono hle⟩
theorem XA {x:Atom} (h:atomL.rep fz x cs):∃ vargs,cs=[.string x.name,vargs]/\AtomR fz x vargs:=h
theorem YbQ {x:Atom} {vargs:Value} (h:AtomR fz x vargs):atomL.rep fz x [.string x.name,vargs]:=⟨vargs,rfl,h⟩
end Go.Lx
namespace Go.Lx
open Go.RowKit
variable {α:Type} {fz fz':FZ} {cs:List Value} {k j:Nat} {H:HP} {l:List α}
structure Param where
 name:Bs
 typ:Bs
structure ParamR (fz:FZ) (x:Param):Prop where
 name:Short x.name
 typ:Short x.typ
theorem ParamR.mono (_hle:Le fz fz') {x:Param} (h:ParamR fz x):ParamR fz' x:=⟨h.name,h.typ⟩
def paramL:Lay Param where
 size:=2
 rep:=fun fz x cs=>cs=[.string x.name,.string x.typ]/\ParamR fz x
 len:=fun h=>by obtain ⟨rfl,_⟩:=h;rfl
 mono:=fun hle h=>by obtain ⟨e,h⟩:=h;exact ⟨e,h.mono hle⟩
theorem YJ {x:Param} (h:paramL.rep fz x cs):cs=[.string x.name,.string x.typ]/\ParamR fz x:=h
theorem YcY {x:Param} (h:ParamR fz x):paramL.rep fz x [.string x.name,.string x.typ]:=⟨rfl,h⟩
theorem At.Param_name {p:Addr} {x:Param} (h:At paramL fz p x):At strL fz (p.add 0) x.name:=h.part 0 fun cs hr=>by
 obtain ⟨rfl,h⟩:=YJ hr;exact ⟨_,rfl,rfl,h.name⟩
theorem At.Param_typ {p:Addr} {x:Param} (h:At paramL fz p x):At strL fz (p.add 1) x.typ:=h.part 1 fun cs hr=>by
 obtain ⟨rfl,h⟩:=YJ hr;exact ⟨_,rfl,rfl,h.typ⟩
structure Value_ where
 fluent:Atom
 n:Int
structure Value_R (fz:FZ) (x:Value_) (vfluent_args:Value):Prop where
 fluent:AtomR fz x.fluent vfluent_args
 n:I64 x.n
theorem Value_R.mono (hle:Le fz fz') {x:Value_} {vfluent_args:Value} (h:Value_R fz x vfluent_args):Value_R fz' x vfluent_args:=⟨h.fluent.mono hle,h.n⟩
def valueL:Lay Value_ where
 size:=3
 rep:=fun fz x cs=>∃ vfluent_args,cs=[.string x.fluent.name,vfluent_args,Zk x.n]/\Value_R fz x vfluent_args
 len:=fun h=>by obtain ⟨vfluent_args,rfl,_⟩:=h;rfl
 mono:=fun hle h=>by obtain ⟨vfluent_args,e,h⟩:=h;exact ⟨vfluent_args,e,h.mono hle⟩
theorem Yam {x:Value_} (h:valueL.rep fz x cs):∃ vfluent_args,cs=[.string x.fluent.name,vfluent_args,Zk x.n]/\Value_R fz x vfluent_args:=h
theorem YgE {x:Value_} {vfluent_args:Value} (h:Value_R fz x vfluent_args):valueL.rep fz x [.string x.fluent.name,vfluent_args,Zk x.n]:=⟨vfluent_args,rfl,h⟩
theorem At.Value__fluent {p:Addr} {x:Value_} (h:At valueL fz p x):At atomL fz (p.add 0) x.fluent:=h.parts 0 fun cs hr=>by
 obtain ⟨vfluent_args,rfl,h⟩:=Yam hr;refine ⟨_,YbQ h.fluent,fun j v hv=>?_⟩
 match j,hv with
 | 0,hv=>exact hv
 | 1,hv=>exact hv
 | j+2,hv=>simp at hv
theorem At.Value__n {p:Addr} {x:Value_} (h:At valueL fz p x):At intL fz (p.add 2) x.n:=h.part 2 fun cs hr=>by
 obtain ⟨vfluent_args,rfl,h⟩:=Yam hr;exact ⟨_,rfl,rfl,h.n⟩
inductive Sexpr where
 | mk (kind:Int) (value:Int) (line:Int) (column:Int) (text:Bs) (kids:List Sexpr)
def Sexpr.kind:Sexpr->Int | .mk x _ _ _ _ _=>x
def Sexpr.value:Sexpr->Int | .mk _ x _ _ _ _=>x
def Sexpr.line:Sexpr->Int | .mk _ _ x _ _ _=>x
def Sexpr.column:Sexpr->Int | .mk _ _ _ x _ _=>x
def Sexpr.text:Sexpr->Bs | .mk _ _ _ _ x _=>x
def Sexpr.kids:Sexpr->List Sexpr | .mk _ _ _ _ _ x=>x
theorem Sexpr.kids_lt {x k:Sexpr} (h:k∈x.kids):SizeOf.sizeOf k<SizeOf.sizeOf x:=by
 cases x;have:=List.sizeOf_lt_of_mem h;simp only [Sexpr.kids] at this;simp only [Sexpr.mk.sizeOf_spec];omega
structure SexprQ (L:Lay Sexpr) (fz:FZ) (x:Sexpr) (vkids:Value):Prop where
 kind:I64 x.kind
 value:I64 x.value
 line:I64 x.line
 column:I64 x.column
 text:Short x.text
 kids:IsSl L fz vkids x.kids
theorem SexprQ.mono {L:Lay Sexpr} (hle:Le fz fz') {x:Sexpr} {vkids:Value} (h:SexprQ L fz x vkids):SexprQ L fz' x vkids:=⟨h.kind,h.value,h.line,h.column,h.text,h.kids.mono hle⟩
def Yo2 (L:Lay Sexpr):Lay Sexpr where
 size:=6
 rep:=fun fz x cs=>∃ vkids,cs=[Zk x.kind,Zk x.value,Zk x.line,Zk x.column,.string x.text,vkids]/\SexprQ L fz x vkids
 len:=fun h=>by obtain ⟨vkids,rfl,_⟩:=h;rfl
 mono:=fun hle h=>by obtain ⟨vkids,e,h⟩:=h;exact ⟨vkids,e,h.mono hle⟩
def Ykc:Nat->Lay Sexpr
 | 0=>⟨6,fun _ _ _=>False,fun h=>h.elim,fun _ h=>h.elim⟩
 | d+1=>Yo2 (Ykc d)
theorem YcP:∀ d,(Ykc d).size=6
 | 0=>rfl
 | _+1=>rfl
theorem YnV {L L':Lay Sexpr} (hz:L.size=L'.size) (hi:∀ d cs,L.rep fz d cs->L'.rep fz d cs) {x:Sexpr} (h:(Yo2 L).rep fz x cs):(Yo2 L').rep fz x cs:=by
 obtain ⟨vkids,e,h⟩:=h;exact ⟨vkids,e,{h with kids:=h.kids.imp hz hi}⟩
theorem Ykb:∀ d e fz x cs,d<=e->(Ykc d).rep fz x cs->(Ykc e).rep fz x cs
 | 0,_,_,_,_,_,h=>h.elim
 | d+1,0,_,_,_,hle,_=>absurd hle Zi
 | d+1,e+1,fz,x,cs,hle,h=>YnV ((YcP d).trans (YcP e).symm) (fun y cs' hy=>Ykb d e fz y cs' Zi hy) h
def YE:Lay Sexpr:=limL Ykc 6 YcP
abbrev YT (fz:FZ) (x:Sexpr) (vkids:Value):Prop:=SexprQ YE fz x vkids
theorem YT.mono (hle:Le fz fz') {x:Sexpr} {vkids:Value} (h:YT fz x vkids):YT fz' x vkids:=SexprQ.mono hle h
theorem Yf {x:Sexpr} (h:YE.rep fz x cs):∃ vkids,cs=[Zk x.kind,Zk x.value,Zk x.line,Zk x.column,.string x.text,vkids]/\YT fz x vkids:=by
 obtain ⟨d,h⟩:=h;cases d with
 | zero=>exact h.elim
 | succ d=>
  obtain ⟨vkids,e,h⟩:=h;exact ⟨vkids,e,{h with kids:=h.kids.imp (L':=YE) (YcP d) (fun _ _ hy=>⟨d,hy⟩)}⟩
theorem Ys {x:Sexpr} {vkids:Value} (h:YT fz x vkids):YE.rep fz x [Zk x.kind,Zk x.value,Zk x.line,Zk x.column,.string x.text,vkids]:=by
 obtain ⟨d,hd⟩:=h.kids.sup Ykb;exact ⟨d+1,vkids, rfl,{h with kids:=hd}⟩
theorem At.Sexpr_kind {p:Addr} {x:Sexpr} (h:At YE fz p x):At intL fz (p.add 0) x.kind:=h.part 0 fun cs hr=>by
 obtain ⟨vkids,rfl,h⟩:=Yf hr;exact ⟨_,rfl,rfl,h.kind⟩
theorem At.Sexpr_value {p:Addr} {x:Sexpr} (h:At YE fz p x):At intL fz (p.add 1) x.value:=h.part 1 fun cs hr=>by
 obtain ⟨vkids,rfl,h⟩:=Yf hr;exact ⟨_,rfl,rfl,h.value⟩
theorem At.Sexpr_text {p:Addr} {x:Sexpr} (h:At YE fz p x):At strL fz (p.add 4) x.text:=h.part 4 fun cs hr=>by
 obtain ⟨vkids,rfl,h⟩:=Yf hr;exact ⟨_,rfl,rfl,h.text⟩
theorem At.Sexpr_kids {p:Addr} {x:Sexpr} (h:At YE fz p x):At (slL YE) fz (p.add 5) x.kids:=h.part 5 fun cs hr=>by
 obtain ⟨vkids,rfl,h⟩:=Yf hr;obtain ⟨A,n,c,e,hs⟩:=h.kids;exact ⟨_,rfl,A,n,c,by rw [e],hs⟩
inductive Expr where
 | mk (op:Bs) (name:Bs) (n:Int) (args:List Bs) (kids:List Expr)
def Expr.op:Expr->Bs | .mk x _ _ _ _=>x
def Expr.name:Expr->Bs | .mk _ x _ _ _=>x
def Expr.n:Expr->Int | .mk _ _ x _ _=>x
def Expr.args:Expr->List Bs | .mk _ _ _ x _=>x
def Expr.kids:Expr->List Expr | .mk _ _ _ _ x=>x
theorem Expr.kids_lt {x k:Expr} (h:k∈x.kids):SizeOf.sizeOf k<SizeOf.sizeOf x:=by
 cases x;have:=List.sizeOf_lt_of_mem h;simp only [Expr.kids] at this;simp only [Expr.mk.sizeOf_spec];omega
structure ExprQ (L:Lay Expr) (fz:FZ) (x:Expr) (vargs vkids:Value):Prop where
 op:Short x.op
 name:Short x.name
 n:I64 x.n
 args:IsSl strL fz vargs x.args
 kids:IsSl L fz vkids x.kids
theorem ExprQ.mono {L:Lay Expr} (hle:Le fz fz') {x:Expr} {vargs vkids:Value} (h:ExprQ L fz x vargs vkids):ExprQ L fz' x vargs vkids:=⟨h.op,h.name,h.n,h.args.mono hle,h.kids.mono hle⟩
def exprF (L:Lay Expr):Lay Expr where
 size:=5
 rep:=fun fz x cs=>∃ vargs vkids,cs=[.string x.op,.string x.name,Zk x.n,vargs,vkids]/\ExprQ L fz x vargs vkids
 len:=fun h=>by obtain ⟨vargs,vkids,rfl,_⟩:=h;rfl
 mono:=fun hle h=>by obtain ⟨vargs,vkids,e,h⟩:=h;exact ⟨vargs,vkids,e,h.mono hle⟩
def Yqg:Nat->Lay Expr
 | 0=>⟨5,fun _ _ _=>False,fun h=>h.elim,fun _ h=>h.elim⟩
 | d+1=>exprF (Yqg d)
theorem Yd6:∀ d,(Yqg d).size=5
 | 0=>rfl
 | _+1=>rfl
theorem Yqf {L L':Lay Expr} (hz:L.size=L'.size) (hi:∀ d cs,L.rep fz d cs->L'.rep fz d cs) {x:Expr} (h:(exprF L).rep fz x cs):(exprF L').rep fz x cs:=by
 obtain ⟨vargs,vkids,e,h⟩:=h;exact ⟨vargs,vkids,e,{h with kids:=h.kids.imp hz hi}⟩
theorem Ynw:∀ d e fz x cs,d<=e->(Yqg d).rep fz x cs->(Yqg e).rep fz x cs
 | 0,_,_,_,_,_,h=>h.elim
 | d+1,0,_,_,_,hle,_=>absurd hle Zi
 | d+1,e+1,fz,x,cs,hle,h=>Yqf ((Yd6 d).trans (Yd6 e).symm) (fun y cs' hy=>Ynw d e fz y cs' Zi hy) h
def exprL:Lay Expr:=limL Yqg 5 Yd6
abbrev ExprR (fz:FZ) (x:Expr) (vargs vkids:Value):Prop:=ExprQ exprL fz x vargs vkids
theorem ExprR.mono (hle:Le fz fz') {x:Expr} {vargs vkids:Value} (h:ExprR fz x vargs vkids):ExprR fz' x vargs vkids:=ExprQ.mono hle h
theorem YD {x:Expr} (h:exprL.rep fz x cs):∃ vargs vkids,cs=[.string x.op,.string x.name,Zk x.n,vargs,vkids]/\ExprR fz x vargs vkids:=by
 obtain ⟨d,h⟩:=h;cases d with
 | zero=>exact h.elim
 | succ d=>
  obtain ⟨vargs,vkids,e,h⟩:=h;exact ⟨vargs,vkids,e,{h with kids:=h.kids.imp (L':=exprL) (Yd6 d) (fun _ _ hy=>⟨d,hy⟩)}⟩
theorem Ya8 {x:Expr} {vargs vkids:Value} (h:ExprR fz x vargs vkids):exprL.rep fz x [.string x.op,.string x.name,Zk x.n,vargs,vkids]:=by
 obtain ⟨d,hd⟩:=h.kids.sup Ynw;exact ⟨d+1,vargs,vkids, rfl,{h with kids:=hd}⟩
inductive Formula where
 | mk (op:Bs) (name:Bs) (args:List Bs) (params:List Param) (exprs:List Expr) (kids:List Formula)
def Formula.op:Formula->Bs | .mk x _ _ _ _ _=>x
def Formula.name:Formula->Bs | .mk _ x _ _ _ _=>x
def Formula.args:Formula->List Bs | .mk _ _ x _ _ _=>x
def Formula.params:Formula->List Param | .mk _ _ _ x _ _=>x
def Formula.exprs:Formula->List Expr | .mk _ _ _ _ x _=>x
def Formula.kids:Formula->List Formula | .mk _ _ _ _ _ x=>x
theorem Formula.kids_lt {x k:Formula} (h:k∈x.kids):SizeOf.sizeOf k<SizeOf.sizeOf x:=by
 cases x;have:=List.sizeOf_lt_of_mem h;simp only [Formula.kids] at this;simp only [Formula.mk.sizeOf_spec];omega
structure FormulaQ (L:Lay Formula) (fz:FZ) (x:Formula) (vargs vparams vexprs vkids:Value):Prop where
 op:Short x.op
 name:Short x.name
 args:IsSl strL fz vargs x.args
 params:IsSl paramL fz vparams x.params
 exprs:IsSl exprL fz vexprs x.exprs
 kids:IsSl L fz vkids x.kids
theorem FormulaQ.mono {L:Lay Formula} (hle:Le fz fz') {x:Formula} {vargs vparams vexprs vkids:Value} (h:FormulaQ L fz x vargs vparams vexprs vkids):FormulaQ L fz' x vargs vparams vexprs vkids:=⟨h.op,h.name,h.args.mono hle,h.params.mono hle,h.exprs.mono hle,h.kids.mono hle⟩
def Yjj (L:Lay Formula):Lay Formula where
 size:=6
 rep:=fun fz x cs=>∃ vargs vparams vexprs vkids,cs=[.string x.op,.string x.name,vargs,vparams,vexprs,vkids]/\FormulaQ L fz x vargs vparams vexprs vkids
 len:=fun h=>by obtain ⟨vargs,vparams,vexprs,vkids,rfl,_⟩:=h;rfl
 mono:=fun hle h=>by obtain ⟨vargs,vparams,vexprs,vkids,e,h⟩:=h;exact ⟨vargs,vparams,vexprs,vkids,e,h.mono hle⟩
def Ye0:Nat->Lay Formula
 | 0=>⟨6,fun _ _ _=>False,fun h=>h.elim,fun _ h=>h.elim⟩
 | d+1=>Yjj (Ye0 d)
theorem YbH:∀ d,(Ye0 d).size=6
 | 0=>rfl
 | _+1=>rfl
theorem YkW {L L':Lay Formula} (hz:L.size=L'.size) (hi:∀ d cs,L.rep fz d cs->L'.rep fz d cs) {x:Formula} (h:(Yjj L).rep fz x cs):(Yjj L').rep fz x cs:=by
 obtain ⟨vargs,vparams,vexprs,vkids,e,h⟩:=h;exact ⟨vargs,vparams,vexprs,vkids,e,{h with kids:=h.kids.imp hz hi}⟩
theorem Yhe:∀ d e fz x cs,d<=e->(Ye0 d).rep fz x cs->(Ye0 e).rep fz x cs
 | 0,_,_,_,_,_,h=>h.elim
 | d+1,0,_,_,_,hle,_=>absurd hle Zi
 | d+1,e+1,fz,x,cs,hle,h=>YkW ((YbH d).trans (YbH e).symm) (fun y cs' hy=>Yhe d e fz y cs' Zi hy) h
def YK:Lay Formula:=limL Ye0 6 YbH
abbrev FormulaR (fz:FZ) (x:Formula) (vargs vparams vexprs vkids:Value):Prop:=FormulaQ YK fz x vargs vparams vexprs vkids
theorem FormulaR.mono (hle:Le fz fz') {x:Formula} {vargs vparams vexprs vkids:Value} (h:FormulaR fz x vargs vparams vexprs vkids):FormulaR fz' x vargs vparams vexprs vkids:=FormulaQ.mono hle h
theorem Yv {x:Formula} (h:YK.rep fz x cs):∃ vargs vparams vexprs vkids,cs=[.string x.op,.string x.name,vargs,vparams,vexprs,vkids]/\FormulaR fz x vargs vparams vexprs vkids:=by
 obtain ⟨d,h⟩:=h;cases d with
 | zero=>exact h.elim
 | succ d=>
  obtain ⟨vargs,vparams,vexprs,vkids,e,h⟩:=h;exact ⟨vargs,vparams,vexprs,vkids,e,{h with kids:=h.kids.imp (L':=YK) (YbH d) (fun _ _ hy=>⟨d,hy⟩)}⟩
theorem WB {x:Formula} {vargs vparams vexprs vkids:Value} (h:FormulaR fz x vargs vparams vexprs vkids):YK.rep fz x [.string x.op,.string x.name,vargs,vparams,vexprs,vkids]:=by
 obtain ⟨d,hd⟩:=h.kids.sup Yhe;exact ⟨d+1,vargs,vparams,vexprs,vkids, rfl,{h with kids:=hd}⟩
structure Change where
 kind:Int
 params:List Param
 when_:Formula
 name:Bs
 args:List Bs
 value:Expr
structure ChangeR (fz:FZ) (x:Change) (vparams vwhen__args vwhen__params vwhen__exprs vwhen__kids vargs vvalue_args vvalue_kids:Value):Prop where
 kind:I64 x.kind
 params:IsSl paramL fz vparams x.params
 when_:FormulaR fz x.when_ vwhen__args vwhen__params vwhen__exprs vwhen__kids
 name:Short x.name
 args:IsSl strL fz vargs x.args
 value:ExprR fz x.value vvalue_args vvalue_kids
theorem ChangeR.mono (hle:Le fz fz') {x:Change} {vparams vwhen__args vwhen__params vwhen__exprs vwhen__kids vargs vvalue_args vvalue_kids:Value} (h:ChangeR fz x vparams vwhen__args vwhen__params vwhen__exprs vwhen__kids vargs vvalue_args vvalue_kids):ChangeR fz' x vparams vwhen__args vwhen__params vwhen__exprs vwhen__kids vargs vvalue_args vvalue_kids:=⟨h.kind,h.params.mono hle,h.when_.mono hle,h.name,h.args.mono hle,h.value.mono hle⟩
def changeL:Lay Change where
 size:=15
 rep:=fun fz x cs=>∃ vparams vwhen__args vwhen__params vwhen__exprs vwhen__kids vargs vvalue_args vvalue_kids,cs=[Zk x.kind,vparams,.string x.when_.op,.string x.when_.name,vwhen__args,vwhen__params,vwhen__exprs,vwhen__kids,.string x.name,vargs,.string x.value.op,.string x.value.name,Zk x.value.n,vvalue_args,vvalue_kids]/\ChangeR fz x vparams vwhen__args vwhen__params vwhen__exprs vwhen__kids vargs vvalue_args vvalue_kids
 len:=fun h=>by obtain ⟨vparams,vwhen__args,vwhen__params,vwhen__exprs,vwhen__kids,vargs,vvalue_args,vvalue_kids,rfl,_⟩:=h;rfl
 mono:=fun hle h=>by obtain ⟨vparams,vwhen__args,vwhen__params,vwhen__exprs,vwhen__kids,vargs,vvalue_args,vvalue_kids,e,h⟩:=h;exact ⟨vparams,vwhen__args,vwhen__params,vwhen__exprs,vwhen__kids,vargs,vvalue_args,vvalue_kids,e,h.mono hle⟩
theorem Y8 {x:Change} (h:changeL.rep fz x cs):∃ vparams vwhen__args vwhen__params vwhen__exprs vwhen__kids vargs vvalue_args vvalue_kids,cs=[Zk x.kind,vparams,.string x.when_.op,.string x.when_.name,vwhen__args,vwhen__params,vwhen__exprs,vwhen__kids,.string x.name,vargs,.string x.value.op,.string x.value.name,Zk x.value.n,vvalue_args,vvalue_kids]/\ChangeR fz x vparams vwhen__args vwhen__params vwhen__exprs vwhen__kids vargs vvalue_args vvalue_kids:=h
theorem Yf9 {x:Change} {vparams vwhen__args vwhen__params vwhen__exprs vwhen__kids vargs vvalue_args vvalue_kids:Value} (h:ChangeR fz x vparams vwhen__args vwhen__params vwhen__exprs vwhen__kids vargs vvalue_args vvalue_kids):changeL.rep fz x [Zk x.kind,vparams,.string x.when_.op,.string x.when_.name,vwhen__args,vwhen__params,vwhen__exprs,vwhen__kids,.string x.name,vargs,.string x.value.op,.string x.value.name,Zk x.value.n,vvalue_args,vvalue_kids]:=⟨vparams,vwhen__args,vwhen__params,vwhen__exprs,vwhen__kids,vargs,vvalue_args,vvalue_kids,rfl,h⟩
theorem At.Change_params {p:Addr} {x:Change} (h:At changeL fz p x):At (slL paramL) fz (p.add 1) x.params:=h.part 1 fun cs hr=>by
 obtain ⟨vparams,vwhen__args,vwhen__params,vwhen__exprs,vwhen__kids,vargs,vvalue_args,vvalue_kids,rfl,h⟩:=Y8 hr;obtain ⟨A,n,c,e,hs⟩:=h.params;exact ⟨_,rfl,A,n,c,by rw [e],hs⟩
theorem At.Change_when_ {p:Addr} {x:Change} (h:At changeL fz p x):At YK fz (p.add 2) x.when_:=h.parts 2 fun cs hr=>by
 obtain ⟨vparams,vwhen__args,vwhen__params,vwhen__exprs,vwhen__kids,vargs,vvalue_args,vvalue_kids,rfl,h⟩:=Y8 hr;refine ⟨_,WB h.when_,fun j v hv=>?_⟩
 match j,hv with
 | 0,hv=>exact hv
 | 1,hv=>exact hv
 | 2,hv=>exact hv
 | 3,hv=>exact hv
 | 4,hv=>exact hv
 | 5,hv=>exact hv
 | j+6,hv=>simp at hv
theorem At.Change_args {p:Addr} {x:Change} (h:At changeL fz p x):At (slL strL) fz (p.add 9) x.args:=h.part 9 fun cs hr=>by
 obtain ⟨vparams,vwhen__args,vwhen__params,vwhen__exprs,vwhen__kids,vargs,vvalue_args,vvalue_kids,rfl,h⟩:=Y8 hr;obtain ⟨A,n,c,e,hs⟩:=h.args;exact ⟨_,rfl,A,n,c,by rw [e],hs⟩
theorem At.Change_value {p:Addr} {x:Change} (h:At changeL fz p x):At exprL fz (p.add 10) x.value:=h.parts 10 fun cs hr=>by
 obtain ⟨vparams,vwhen__args,vwhen__params,vwhen__exprs,vwhen__kids,vargs,vvalue_args,vvalue_kids,rfl,h⟩:=Y8 hr;refine ⟨_,Ya8 h.value,fun j v hv=>?_⟩
 match j,hv with
 | 0,hv=>exact hv
 | 1,hv=>exact hv
 | 2,hv=>exact hv
 | 3,hv=>exact hv
 | 4,hv=>exact hv
 | j+5,hv=>simp at hv
structure Predicate where
 name:Bs
 params:List Param
structure PredicateR (fz:FZ) (x:Predicate) (vparams:Value):Prop where
 name:Short x.name
 params:IsSl paramL fz vparams x.params
theorem PredicateR.mono (hle:Le fz fz') {x:Predicate} {vparams:Value} (h:PredicateR fz x vparams):PredicateR fz' x vparams:=⟨h.name,h.params.mono hle⟩
def predicateL:Lay Predicate where
 size:=2
 rep:=fun fz x cs=>∃ vparams,cs=[.string x.name,vparams]/\PredicateR fz x vparams
 len:=fun h=>by obtain ⟨vparams,rfl,_⟩:=h;rfl
 mono:=fun hle h=>by obtain ⟨vparams,e,h⟩:=h;exact ⟨vparams,e,h.mono hle⟩
theorem Xo {x:Predicate} (h:predicateL.rep fz x cs):∃ vparams,cs=[.string x.name,vparams]/\PredicateR fz x vparams:=h
theorem YaZ {x:Predicate} {vparams:Value} (h:PredicateR fz x vparams):predicateL.rep fz x [.string x.name,vparams]:=⟨vparams,rfl,h⟩
theorem At.Predicate_name {p:Addr} {x:Predicate} (h:At predicateL fz p x):At strL fz (p.add 0) x.name:=h.part 0 fun cs hr=>by
 obtain ⟨vparams,rfl,h⟩:=Xo hr;exact ⟨_,rfl,rfl,h.name⟩
theorem At.Predicate_params {p:Addr} {x:Predicate} (h:At predicateL fz p x):At (slL paramL) fz (p.add 1) x.params:=h.part 1 fun cs hr=>by
 obtain ⟨vparams,rfl,h⟩:=Xo hr;obtain ⟨A,n,c,e,hs⟩:=h.params;exact ⟨_,rfl,A,n,c,by rw [e],hs⟩
structure Function where
 name:Bs
 params:List Param
 lo:Int
 hi:Int
structure FunctionR (fz:FZ) (x:Function) (vparams:Value):Prop where
 name:Short x.name
 params:IsSl paramL fz vparams x.params
 lo:I64 x.lo
 hi:I64 x.hi
theorem FunctionR.mono (hle:Le fz fz') {x:Function} {vparams:Value} (h:FunctionR fz x vparams):FunctionR fz' x vparams:=⟨h.name,h.params.mono hle,h.lo,h.hi⟩
def functionL:Lay Function where
 size:=4
 rep:=fun fz x cs=>∃ vparams,cs=[.string x.name,vparams,Zk x.lo,Zk x.hi]/\FunctionR fz x vparams
 len:=fun h=>by obtain ⟨vparams,rfl,_⟩:=h;rfl
 mono:=fun hle h=>by obtain ⟨vparams,e,h⟩:=h;exact ⟨vparams,e,h.mono hle⟩
theorem YW {x:Function} (h:functionL.rep fz x cs):∃ vparams,cs=[.string x.name,vparams,Zk x.lo,Zk x.hi]/\FunctionR fz x vparams:=h
theorem Ybg {x:Function} {vparams:Value} (h:FunctionR fz x vparams):functionL.rep fz x [.string x.name,vparams,Zk x.lo,Zk x.hi]:=⟨vparams,rfl,h⟩
theorem At.Function_name {p:Addr} {x:Function} (h:At functionL fz p x):At strL fz (p.add 0) x.name:=h.part 0 fun cs hr=>by
 obtain ⟨vparams,rfl,h⟩:=YW hr;exact ⟨_,rfl,rfl,h.name⟩
structure Action where
 name:Bs
 params:List Param
 cost:Int
 pre:Formula
 changes:List Change
structure ActionR (fz:FZ) (x:Action) (vparams vpre_args vpre_params vpre_exprs vpre_kids vchanges:Value):Prop where
 name:Short x.name
 params:IsSl paramL fz vparams x.params
 cost:I64 x.cost
 pre:FormulaR fz x.pre vpre_args vpre_params vpre_exprs vpre_kids
 changes:IsSl changeL fz vchanges x.changes
theorem ActionR.mono (hle:Le fz fz') {x:Action} {vparams vpre_args vpre_params vpre_exprs vpre_kids vchanges:Value} (h:ActionR fz x vparams vpre_args vpre_params vpre_exprs vpre_kids vchanges):ActionR fz' x vparams vpre_args vpre_params vpre_exprs vpre_kids vchanges:=⟨h.name,h.params.mono hle,h.cost,h.pre.mono hle,h.changes.mono hle⟩
def actionL:Lay Action where
 size:=10
 rep:=fun fz x cs=>∃ vparams vpre_args vpre_params vpre_exprs vpre_kids vchanges,cs=[.string x.name,vparams,Zk x.cost,.string x.pre.op,.string x.pre.name,vpre_args,vpre_params,vpre_exprs,vpre_kids,vchanges]/\ActionR fz x vparams vpre_args vpre_params vpre_exprs vpre_kids vchanges
 len:=fun h=>by obtain ⟨vparams,vpre_args,vpre_params,vpre_exprs,vpre_kids,vchanges,rfl,_⟩:=h;rfl
 mono:=fun hle h=>by obtain ⟨vparams,vpre_args,vpre_params,vpre_exprs,vpre_kids,vchanges,e,h⟩:=h;exact ⟨vparams,vpre_args,vpre_params,vpre_exprs,vpre_kids,vchanges,e,h.mono hle⟩
theorem Xh {x:Action} (h:actionL.rep fz x cs):∃ vparams vpre_args vpre_params vpre_exprs vpre_kids vchanges,cs=[.string x.name,vparams,Zk x.cost,.string x.pre.op,.string x.pre.name,vpre_args,vpre_params,vpre_exprs,vpre_kids,vchanges]/\ActionR fz x vparams vpre_args vpre_params vpre_exprs vpre_kids vchanges:=h
theorem We {x:Action} {vparams vpre_args vpre_params vpre_exprs vpre_kids vchanges:Value} (h:ActionR fz x vparams vpre_args vpre_params vpre_exprs vpre_kids vchanges):actionL.rep fz x [.string x.name,vparams,Zk x.cost,.string x.pre.op,.string x.pre.name,vpre_args,vpre_params,vpre_exprs,vpre_kids,vchanges]:=⟨vparams,vpre_args,vpre_params,vpre_exprs,vpre_kids,vchanges,rfl,h⟩
theorem At.Action_name {p:Addr} {x:Action} (h:At actionL fz p x):At strL fz (p.add 0) x.name:=h.part 0 fun cs hr=>by
 obtain ⟨vparams,vpre_args,vpre_params,vpre_exprs,vpre_kids,vchanges,rfl,h⟩:=Xh hr;exact ⟨_,rfl,rfl,h.name⟩
theorem At.Action_pre {p:Addr} {x:Action} (h:At actionL fz p x):At YK fz (p.add 3) x.pre:=h.parts 3 fun cs hr=>by
 obtain ⟨vparams,vpre_args,vpre_params,vpre_exprs,vpre_kids,vchanges,rfl,h⟩:=Xh hr;refine ⟨_,WB h.pre,fun j v hv=>?_⟩
 match j,hv with
 | 0,hv=>exact hv
 | 1,hv=>exact hv
 | 2,hv=>exact hv
 | 3,hv=>exact hv
 | 4,hv=>exact hv
 | 5,hv=>exact hv
 | j+6,hv=>simp at hv
theorem At.Action_changes {p:Addr} {x:Action} (h:At actionL fz p x):At (slL changeL) fz (p.add 9) x.changes:=h.part 9 fun cs hr=>by
 obtain ⟨vparams,vpre_args,vpre_params,vpre_exprs,vpre_kids,vchanges,rfl,h⟩:=Xh hr;obtain ⟨A,n,c,e,hs⟩:=h.changes;exact ⟨_,rfl,A,n,c,by rw [e],hs⟩
structure Durative where
 name:Bs
 params:List Param
 duration:Int
 start:Formula
 over:Formula
 fin:Formula
 atStart:List Change
 atEnd:List Change
structure DurativeR (fz:FZ) (x:Durative) (vparams vstart_args vstart_params vstart_exprs vstart_kids vover_args vover_params vover_exprs vover_kids vfin_args vfin_params vfin_exprs vfin_kids vatStart vatEnd:Value):Prop where
 name:Short x.name
 params:IsSl paramL fz vparams x.params
 duration:I64 x.duration
 start:FormulaR fz x.start vstart_args vstart_params vstart_exprs vstart_kids
 over:FormulaR fz x.over vover_args vover_params vover_exprs vover_kids
 fin:FormulaR fz x.fin vfin_args vfin_params vfin_exprs vfin_kids
 atStart:IsSl changeL fz vatStart x.atStart
 atEnd:IsSl changeL fz vatEnd x.atEnd
theorem DurativeR.mono (hle:Le fz fz') {x:Durative} {vparams vstart_args vstart_params vstart_exprs vstart_kids vover_args vover_params vover_exprs vover_kids vfin_args vfin_params vfin_exprs vfin_kids vatStart vatEnd:Value} (h:DurativeR fz x vparams vstart_args vstart_params vstart_exprs vstart_kids vover_args vover_params vover_exprs vover_kids vfin_args vfin_params vfin_exprs vfin_kids vatStart vatEnd):DurativeR fz' x vparams vstart_args vstart_params vstart_exprs vstart_kids vover_args vover_params vover_exprs vover_kids vfin_args vfin_params vfin_exprs vfin_kids vatStart vatEnd:=⟨h.name,h.params.mono hle,h.duration,h.start.mono hle,h.over.mono hle,h.fin.mono hle,h.atStart.mono hle,h.atEnd.mono hle⟩
def durativeL:Lay Durative where
 size:=23
 rep:=fun fz x cs=>∃ vparams vstart_args vstart_params vstart_exprs vstart_kids vover_args vover_params vover_exprs vover_kids vfin_args vfin_params vfin_exprs vfin_kids vatStart vatEnd,cs=[.string x.name,vparams,Zk x.duration,.string x.start.op,.string x.start.name,vstart_args,vstart_params,vstart_exprs,vstart_kids,.string x.over.op,.string x.over.name,vover_args,vover_params,vover_exprs,vover_kids,.string x.fin.op,.string x.fin.name,vfin_args,vfin_params,vfin_exprs,vfin_kids,vatStart,vatEnd]/\DurativeR fz x vparams vstart_args vstart_params vstart_exprs vstart_kids vover_args vover_params vover_exprs vover_kids vfin_args vfin_params vfin_exprs vfin_kids vatStart vatEnd
 len:=fun h=>by obtain ⟨vparams,vstart_args,vstart_params,vstart_exprs,vstart_kids,vover_args,vover_params,vover_exprs,vover_kids,vfin_args,vfin_params,vfin_exprs,vfin_kids,vatStart,vatEnd,rfl,_⟩:=h;rfl
 mono:=fun hle h=>by obtain ⟨vparams,vstart_args,vstart_params,vstart_exprs,vstart_kids,vover_args,vover_params,vover_exprs,vover_kids,vfin_args,vfin_params,vfin_exprs,vfin_kids,vatStart,vatEnd,e,h⟩:=h;exact ⟨vparams,vstart_args,vstart_params,vstart_exprs,vstart_kids,vover_args,vover_params,vover_exprs,vover_kids,vfin_args,vfin_params,vfin_exprs,vfin_kids,vatStart,vatEnd,e,h.mono hle⟩
theorem YZ {x:Durative} (h:durativeL.rep fz x cs):∃ vparams vstart_args vstart_params vstart_exprs vstart_kids vover_args vover_params vover_exprs vover_kids vfin_args vfin_params vfin_exprs vfin_kids vatStart vatEnd,cs=[.string x.name,vparams,Zk x.duration,.string x.start.op,.string x.start.name,vstart_args,vstart_params,vstart_exprs,vstart_kids,.string x.over.op,.string x.over.name,vover_args,vover_params,vover_exprs,vover_kids,.string x.fin.op,.string x.fin.name,vfin_args,vfin_params,vfin_exprs,vfin_kids,vatStart,vatEnd]/\DurativeR fz x vparams vstart_args vstart_params vstart_exprs vstart_kids vover_args vover_params vover_exprs vover_kids vfin_args vfin_params vfin_exprs vfin_kids vatStart vatEnd:=h
theorem YX {x:Durative} {vparams vstart_args vstart_params vstart_exprs vstart_kids vover_args vover_params vover_exprs vover_kids vfin_args vfin_params vfin_exprs vfin_kids vatStart vatEnd:Value} (h:DurativeR fz x vparams vstart_args vstart_params vstart_exprs vstart_kids vover_args vover_params vover_exprs vover_kids vfin_args vfin_params vfin_exprs vfin_kids vatStart vatEnd):durativeL.rep fz x [.string x.name,vparams,Zk x.duration,.string x.start.op,.string x.start.name,vstart_args,vstart_params,vstart_exprs,vstart_kids,.string x.over.op,.string x.over.name,vover_args,vover_params,vover_exprs,vover_kids,.string x.fin.op,.string x.fin.name,vfin_args,vfin_params,vfin_exprs,vfin_kids,vatStart,vatEnd]:=⟨vparams,vstart_args,vstart_params,vstart_exprs,vstart_kids,vover_args,vover_params,vover_exprs,vover_kids,vfin_args,vfin_params,vfin_exprs,vfin_kids,vatStart,vatEnd,rfl,h⟩
structure Domain where
 name:Bs
 types:List Param
 constants:List Param
 predicates:List Predicate
 functions:List Function
 actions:List Action
 duratives:List Durative
structure DomainR (fz:FZ) (x:Domain) (vtypes vconstants vpredicates vfunctions vactions vduratives:Value):Prop where
 name:Short x.name
 types:IsSl paramL fz vtypes x.types
 constants:IsSl paramL fz vconstants x.constants
 predicates:IsSl predicateL fz vpredicates x.predicates
 functions:IsSl functionL fz vfunctions x.functions
 actions:IsSl actionL fz vactions x.actions
 duratives:IsSl durativeL fz vduratives x.duratives
theorem DomainR.mono (hle:Le fz fz') {x:Domain} {vtypes vconstants vpredicates vfunctions vactions vduratives:Value} (h:DomainR fz x vtypes vconstants vpredicates vfunctions vactions vduratives):DomainR fz' x vtypes vconstants vpredicates vfunctions vactions vduratives:=⟨h.name,h.types.mono hle,h.constants.mono hle,h.predicates.mono hle,h.functions.mono hle,h.actions.mono hle,h.duratives.mono hle⟩
def YfO:Lay Domain where
 size:=7
 rep:=fun fz x cs=>∃ vtypes vconstants vpredicates vfunctions vactions vduratives,cs=[.string x.name,vtypes,vconstants,vpredicates,vfunctions,vactions,vduratives]/\DomainR fz x vtypes vconstants vpredicates vfunctions vactions vduratives
 len:=fun h=>by obtain ⟨vtypes,vconstants,vpredicates,vfunctions,vactions,vduratives,rfl,_⟩:=h;rfl
 mono:=fun hle h=>by obtain ⟨vtypes,vconstants,vpredicates,vfunctions,vactions,vduratives,e,h⟩:=h;exact ⟨vtypes,vconstants,vpredicates,vfunctions,vactions,vduratives,e,h.mono hle⟩
theorem Yf7 {x:Domain} (h:YfO.rep fz x cs):∃ vtypes vconstants vpredicates vfunctions vactions vduratives,cs=[.string x.name,vtypes,vconstants,vpredicates,vfunctions,vactions,vduratives]/\DomainR fz x vtypes vconstants vpredicates vfunctions vactions vduratives:=h
theorem YdP {x:Domain} {vtypes vconstants vpredicates vfunctions vactions vduratives:Value} (h:DomainR fz x vtypes vconstants vpredicates vfunctions vactions vduratives):YfO.rep fz x [.string x.name,vtypes,vconstants,vpredicates,vfunctions,vactions,vduratives]:=⟨vtypes,vconstants,vpredicates,vfunctions,vactions,vduratives,rfl,h⟩
structure Problem where
 name:Bs
 domain:Bs
 objects:List Param
 init:List Atom
 values:List Value_
 goal:Formula
structure ProblemR (fz:FZ) (x:Problem) (vobjects vinit vvalues vgoal_args vgoal_params vgoal_exprs vgoal_kids:Value):Prop where
 name:Short x.name
 domain:Short x.domain
 objects:IsSl paramL fz vobjects x.objects
 init:IsSl atomL fz vinit x.init
 values:IsSl valueL fz vvalues x.values
 goal:FormulaR fz x.goal vgoal_args vgoal_params vgoal_exprs vgoal_kids
theorem ProblemR.mono (hle:Le fz fz') {x:Problem} {vobjects vinit vvalues vgoal_args vgoal_params vgoal_exprs vgoal_kids:Value} (h:ProblemR fz x vobjects vinit vvalues vgoal_args vgoal_params vgoal_exprs vgoal_kids):ProblemR fz' x vobjects vinit vvalues vgoal_args vgoal_params vgoal_exprs vgoal_kids:=⟨h.name,h.domain,h.objects.mono hle,h.init.mono hle,h.values.mono hle,h.goal.mono hle⟩
def Ybf:Lay Problem where
 size:=11
 rep:=fun fz x cs=>∃ vobjects vinit vvalues vgoal_args vgoal_params vgoal_exprs vgoal_kids,cs=[.string x.name,.string x.domain,vobjects,vinit,vvalues,.string x.goal.op,.string x.goal.name,vgoal_args,vgoal_params,vgoal_exprs,vgoal_kids]/\ProblemR fz x vobjects vinit vvalues vgoal_args vgoal_params vgoal_exprs vgoal_kids
 len:=fun h=>by obtain ⟨vobjects,vinit,vvalues,vgoal_args,vgoal_params,vgoal_exprs,vgoal_kids,rfl,_⟩:=h;rfl
 mono:=fun hle h=>by obtain ⟨vobjects,vinit,vvalues,vgoal_args,vgoal_params,vgoal_exprs,vgoal_kids,e,h⟩:=h;exact ⟨vobjects,vinit,vvalues,vgoal_args,vgoal_params,vgoal_exprs,vgoal_kids,e,h.mono hle⟩
theorem YcX {x:Problem} (h:Ybf.rep fz x cs):∃ vobjects vinit vvalues vgoal_args vgoal_params vgoal_exprs vgoal_kids,cs=[.string x.name,.string x.domain,vobjects,vinit,vvalues,.string x.goal.op,.string x.goal.name,vgoal_args,vgoal_params,vgoal_exprs,vgoal_kids]/\ProblemR fz x vobjects vinit vvalues vgoal_args vgoal_params vgoal_exprs vgoal_kids:=h
theorem Wx {x:Problem} {vobjects vinit vvalues vgoal_args vgoal_params vgoal_exprs vgoal_kids:Value} (h:ProblemR fz x vobjects vinit vvalues vgoal_args vgoal_params vgoal_exprs vgoal_kids):Ybf.rep fz x [.string x.name,.string x.domain,vobjects,vinit,vvalues,.string x.goal.op,.string x.goal.name,vgoal_args,vgoal_params,vgoal_exprs,vgoal_kids]:=⟨vobjects,vinit,vvalues,vgoal_args,vgoal_params,vgoal_exprs,vgoal_kids,rfl,h⟩
abbrev ZD (d:Domain) (a b c e f g:Value):Value:=.agg #[.string d.name,a,b,c,e,f,g]
abbrev ZP (p:Problem) (a b c d e f g:Value):Value:=.agg #[.string p.name,.string p.domain,a,b,c,.string p.goal.op,.string p.goal.name,d,e,f,g]
variable {f:Formula}
theorem FormulaR.sls {a b c d:Value} (h:FormulaR fz f a b c d):IsSl strL fz a f.args/\IsSl paramL fz b f.params/\IsSl exprL fz c f.exprs/\IsSl YK fz d f.kids:=⟨h.args,h.params,h.exprs,h.kids⟩
theorem ExprR.sls {f:Expr} {a b:Value} (h:ExprR fz f a b):IsSl strL fz a f.args/\IsSl exprL fz b f.kids:=⟨h.args,h.kids⟩
theorem DomainR.sls {x:Domain} {a b c d e f:Value} (h:DomainR fz x a b c d e f):IsSl paramL fz a x.types/\IsSl paramL fz b x.constants/\IsSl predicateL fz c x.predicates/\IsSl functionL fz d x.functions/\IsSl actionL fz e x.actions/\IsSl durativeL fz f x.duratives:=⟨h.types,h.constants,h.predicates,h.functions,h.actions,h.duratives⟩
theorem ProblemR.sls {x:Problem} {a b c d e f g:Value} (h:ProblemR fz x a b c d e f g):IsSl paramL fz a x.objects/\IsSl atomL fz b x.init/\IsSl valueL fz c x.values:=⟨h.objects,h.init,h.values⟩
def Yqk:List (Int × Value)->Nat->List MapEntry
 | [],_=>[]
 | (k,v)::r,i=>⟨.int .i64 k,v,i⟩::Yqk r (i+1)
def mapB (m:List (Int × Value)):Obj:=.map (Yqk m 0).toArray m.length
section
variable {P:Program} {cx:Cx} {r:Operand->Option Value} {fz:FZ} {H:HP} {dst:Option Nat} {ty:TypeId} {pos:String} {af:Array Edge} {gd:Option (Nat × Bool)} {V:Value->Prop}
variable {t:TypeId}
theorem Ybp {K:Value->FZ->HP->Prop} (h:∀ g,K (.map (some g)) fz ((g,mapB [])::H)):Does P cx ⟨dst,.makeMap t none,ty,pos,af,gd⟩ r fz H K:=
 Does.of fun ρ w hr hw=>by
  have:(execOp ρ ⟨dst,.makeMap t none,ty,pos,af,gd⟩).run P w=.ok (.value (.map (some w.heap.size))) (w.alloc (mapB [])):=by
   simp [execOp,Instr.makeMap,newObj,Sem.run,mapB,Yqk]
  rw [this];exact ⟨fz,_,hw.alloc _,h _⟩
variable {g:Nat} {w:World}
theorem Inv.setObj {pre post:HP} {o o':Obj} (h:Inv cx fz (pre++(g,o)::post) w):Inv cx fz (pre++(g,o')::post) {w with heap:=w.heap.setIfInBounds g o'}:=by
 have hg:=(h.hp.own (g,o) (by simp)).1;have hlt:=lt_of_heap hg;exact h.write rfl rfl rfl (by simp) (by simp [hlt]) (fun k hk=>by simp only;rw [Array.getElem?_setIfInBounds_ne Zi])
end
section
variable {P:Program} {cx:Cx} {r:Operand->Option Value} {fz:FZ} {H:HP} {V:Value->Prop} {dst:Option Nat} {ty:TypeId} {pos:String} {af:Array Edge} {gd:Option (Nat × Bool)} {t t':TypeId} {x y:Operand} {k:IntKind} {a b:Int}
theorem YmW {k':IntKind} {c:Int} (hx:r x=some (.int k a)) (hy:r y=some (.int k' b)) (hb:¬b<0) (hw:a.fdiv (2 ^ (min b.toNat k.bits))=c) (h:V (.int k c)):DoesQ P cx ⟨dst,.binOp .shr t x y t',ty,pos,af,gd⟩ r fz H V:=
 YC (fun ρ w hr=>by simp [execOp,hr _ _ hx,hr _ _ hy,eqGuard,binOp,Op.shift,hb,hw]) h
theorem Yao {f:Fn} {us cs:List Operand} {vs ws:List Value} (h:V (.func f vs.toArray ws.toArray)) (hu:rds r us=some vs:=by exact rfl) (hc:rds r cs=some ws:=by exact rfl):DoesQ P cx ⟨dst,.makeFunc f us.toArray cs.toArray,ty,pos,af,gd⟩ r fz H V:=
 YC (fun ρ w hr=>by
  have e1:=hr.all us vs hu;have e2:=hr.all cs ws hc;simp [execOp,Instr.makeFunc,e1,e2]) h
variable {g i j:Nat}
theorem Ymu:(⟨g,j,none⟩:Addr).add i=⟨g,j+i,none⟩:=by
 unfold Addr.add;split
 ·rename_i h;subst h;rfl
 rfl
theorem Yc {t2:TypeId} {X:Ty} {g j:Nat} {cs vs:List Value} {f:Nat × Nat} (i:Nat)
 (h:V (.agg vs.toArray)) (T:Tab P:=by exact T) (hT:T.inf t=some X:=by exact rfl) (hd:W5 X.desc=true:=by exact rfl) (hx:r x=some (.pointer (some ⟨g,j,none⟩)):=by exact rfl) (hi:H[i]?=some (g,.cells cs.toArray t2 f):=by exact rfl) (hv:(cs.drop j).take X.size=vs:=by exact rfl) (hs:X.size=vs.length:=by exact rfl):DoesQ P cx ⟨dst,.load t x,ty,pos,af,gd⟩ r fz H V:=
  DoesQ.of h fun ρ w hr hw=>by
   have hc:∀ m v,vs[m]?=some v->w.cell? ((⟨g,j,none⟩:Addr).add m)=some v:=fun m v hm=>by
    rw [Ymu,hw.cellOwn hi];rw [<- hv,List.getElem?_take] at hm;split at hm
    ·rw [List.getElem?_drop] at hm;simpa using hm
    cases hm
   simp only [execOp,hr _ _ hx,Instr.loadAt,Instr.sureAddr,Sem.run_bind,Sem.run_pure,Result.andThen_ok,Ycx T hT hd hs hc];exact ⟨rfl,Fr.refl _ _⟩
theorem YbF {t2:TypeId} {X:Ty} {g j:Nat} {cs vs:List Value} {f:Nat × Nat}
 (hg:fz g=some (.cells cs.toArray t2 f)) (h:V (.agg vs.toArray)) (T:Tab P:=by exact T) (hT:T.inf t=some X:=by exact rfl) (hd:W5 X.desc=true:=by exact rfl) (hx:r x=some (.pointer (some ⟨g,j,none⟩)):=by exact rfl) (hv:(cs.drop j).take X.size=vs:=by exact rfl) (hs:X.size=vs.length:=by exact rfl):DoesQ P cx ⟨dst,.load t x,ty,pos,af,gd⟩ r fz H V:=
  Yfr T hT hd hx (fun m v hm=>by
   rw [Ymu];rw [<- hv,List.getElem?_take] at hm;split at hm
   ·rw [List.getElem?_drop] at hm;simp [YcG,hg];exact hm
   cases hm) hs h
end
theorem Ye {α:Type} {l:List α} {k:Nat} (h:k<l.length):∃ x,l[k]?=some x:=⟨_,List.getElem?_eq_getElem h⟩
theorem Yg5 {x:α} (h:l[k]?=some x):k<l.length:=(Zg h).1
theorem Yu {p:Prop} [Decidable p] (h:p):Value.bool true=Value.bool (decide p):=by rw [decide_eq_true h]
theorem Yl {p:Prop} [Decidable p] (h:¬p):Value.bool false=Value.bool (decide p):=by rw [decide_eq_false h]
theorem Xs {p:Nat->Prop} (h:∀ i,i<k->p i) (hk:p k):∀ i,i<k+1->p i:=by
 intro i hi;by_cases he:i=k
 ·subst he;exact hk
 exact h i Zi
theorem Xu {p:α->Prop} (h:∀ i,i<k->∀ x,l[i]?=some x->p x) (hk:l.length<=k):∀ x∈l,p x:=fun x hx=>by
 obtain ⟨i,hi⟩:=List.mem_iff_getElem?.1 hx;exact h i (by have:=Yg5 hi;omega) x hi
theorem YL {p:α->Prop} {x:α} (h:∀ i,i<k->∀ x,l[i]?=some x->p x) (hx:l[k]?=some x) (hp:p x):∀ i,i<k+1->∀ x,l[i]?=some x->p x:=
 Xs h (fun y hy=>by rw [hx] at hy;injection hy with hy;subst hy;exact hp)
section
variable {P:Program} {cx:Cx} {n:Nat} {σ:Env} {fz:FZ} {H H':HP} {fn:Func} {R:Value->FZ->HP->Prop}
def resI (T:Tab P) (σ:Env) (H:HP):List ResultVar->List Value->Prop
 | [],[]=>True
 | .tmp t::r,v::vs=>lk σ t=some v/\resI T σ H r vs
 | .cell p t::r,v::vs=>(∃ (X:Ty) (g i:Nat) (cs:List Value) (t':TypeId) (f:Nat × Nat),T.inf t=some X/\W5 X.desc=true/\lk σ p=some (.pointer (some ⟨g,0,none⟩))/\H[i]?=some (g,Obj.cells (List.toArray cs) t' f)/\X.size=cs.length/\v=.agg cs.toArray)/\resI T σ H r vs
 | _,_=>False
theorem YiR (T:Tab P) {a:Act} {w:World} (hs:Sat n σ a) (hw:Inv cx fz H w) {f:ResultVar->Sem Value} (hf1:∀ t,f (.tmp t)=pure (a.tmps.getD t undef)) (hf2:∀ x t,f (.cell x t)=(asAddr (a.tmps.getD x undef)>>=fun b=>loadVar t b)):∀ (l:List ResultVar) (vs:List Value),resI T σ H l vs->(l.mapM f).run P w=.ok vs w
 | [],[],_=>by simp [List.mapM_nil]
 | [],_::_,h=>h.elim
 | .tmp t::r,[],h=>h.elim
 | .cell p t::r,[],h=>h.elim
 | .tmp t::r,v::vs,⟨h1,h2⟩=>by
  have:=YiR T hs hw hf1 hf2 r vs h2;simp only [List.mapM_cons,hf1,Sem.run_bind,Sem.run_pure,Result.andThen_ok,this];simp [hs.slot t v h1]
 | .cell p t::r,v::vs,⟨⟨X,g,i,cs,t',ff,hT,hd,hv,hi,hsz,he⟩,h2⟩=>by
  have:=YiR T hs hw hf1 hf2 r vs h2;have hc:∀ j v,cs[j]?=some v->w.cell? ((⟨g,0,none⟩:Addr).add j)=some v:=fun j v hv=>by
   have hadd:(⟨g,0,none⟩:Addr).add j=⟨g,j,none⟩:=by unfold Addr.add;split<;>simp_all
   rw [hadd,hw.cellOwn hi];simpa using hv
  have ha:asAddr (a.tmps.getD p undef)=(pure ⟨g,0,none⟩:Sem Addr):=by simp [asAddr,hs.slot p _ hv]
  simp only [List.mapM_cons,hf2,Sem.run_bind,ha,Sem.run_pure,Result.andThen_ok,Ycx T hT hd hsz hc,this,he]
theorem retN' (T:Tab P) {vs:List Value} (hl:Nat.ble 2 vs.length=true) (hr:resI T σ H fn.results.toList vs) (h:∀ w,Inv cx fz H w->∃ fz' H',Inv cx fz' H' w/\R (.tuple vs.toArray) fz' H'):retQ P cx n fn R .ret σ fz H:=
 ret_of (fun a w hs hw=>by
  have h2:∀ (f:ResultVar->Sem Value) (w':World),(fn.results.mapM f).run P w'=((fn.results.toList.mapM f).run P w').andThen fun l w''=>.ok l.toArray w'':=fun f w'=>by
   rw [Array.mapM_eq_mapM_toList,map_eq_pure_bind,Sem.run_bind];simp only [Sem.run_pure]
  have hne:¬vs.toArray.size=1:=by
   have:=Nat.le_of_ble_eq_true hl;simp;omega
  unfold results;rw [Sem.run_bind,h2,YiR T hs hw (fun _=>rfl) (fun _ _=>rfl) _ _ hr];simp only [Result.andThen_ok,Sem.run_pure];rw [dif_neg hne]) h
theorem YS (T:Tab P) {vs:List Value} (hr:resI T σ H fn.results.toList vs) (h:∀ fz',Le fz fz'->(∀ p∈H,fz' p.1=some p.2)->R (.tuple vs.toArray) fz' []) (hl:Nat.ble 2 vs.length=true:=by exact rfl):retQ P cx n fn R .ret σ fz H:=retN' T hl hr (YiV h)
theorem retN (T:Tab P) {vs:List Value} (hr:resI T σ H fn.results.toList vs) (hH:H'.Sublist H) (h:R (.tuple vs.toArray) fz H') (hl:Nat.ble 2 vs.length=true:=by exact rfl):retQ P cx n fn R .ret σ fz H:=retN' T hl hr (YgM hH h)
variable {Q:QQ} {Hq:HP} {σ' τ ve cv:Env} {l:List Oper} {ch all:List (Nat × Oper)} {i d:Nat} {op:Op} {ty:TypeId} {pos:String} {af:Array Edge} {dn:Bool} {fz0:FZ}
theorem Ch.qk (hk:Keep fz0 Hq fz H) (h:DoesQ P cx ⟨some d,op,ty,pos,af,none⟩ (rdc l ⟨some d,op,ty,pos,af,none⟩ σ' ve cv) fz H fun v=>Ch P cx l σ' ve fz0 Hq Q all ch (dn || allq l all ⟨some d,op,ty,pos,af,none⟩) ((i,v)::cv) ((d,v)::τ) fz H):
 Ch P cx l σ' ve fz0 Hq Q all ((i,⟨some d,op,ty,pos,af,none⟩)::ch) dn cv τ fz H:=Ch.q (h.mono fun _ hv=>⟨hk,hv⟩)
variable {X Y:Ty} {c g:Nat} {e t:TypeId} {x:Operand}
theorem XK (T:Tab P) {i:Operand} {n:Nat} {k:IntKind} {j:Int} {V:Value->Prop} {r:Operand->Option Value} {dst:Option Nat} {gd:Option (Nat × Bool)} (hT:T.inf t=some X) (hd:X.desc=.slice e) (hY:T.inf e=some Y)
 (hx:r x=some (Zv g n c)) (hi:r i=some (.int k j)) (hs:Y.size=1) (h0:0<=j) (hn:j<n) (h:V (.pointer (some ⟨g,j.toNat,none⟩))):DoesQ P cx ⟨dst,.indexAddr t x i,ty,pos,af,gd⟩ r fz H V:=by
 refine YcV T hT hd hY hx hi h0 hn ?_;have hadd:(⟨g,0,none⟩:Addr).add (j.toNat*Y.size)=⟨g,j.toNat,none⟩:=by rw [hs];unfold Addr.add;split<;>simp_all
 rw [hadd];exact h
end
section
variable {P:Program} {cx:Cx} {r:Operand->Option Value} {fz:FZ} {H:HP} {V:Value->Prop} {dst:Option Nat} {ty:TypeId} {pos:String} {af:Array Edge} {gd:Option (Nat × Bool)}
theorem Yfo {t:TypeId} {x lo:Operand} {X:Ty} {s:Bs} {k:IntKind} {j:Int}
 (h:V (.string (s.extract j.toNat s.size))) (T:Tab P:=by exact T) (hT:T.inf t=some X:=by exact rfl) (hd:X.desc=.string:=by exact rfl) (hx:r x=some (.string s):=by exact rfl) (hl:r lo=some (.int k j):=by exact rfl) (h0:0<=j:=by omega) (h1:j<=s.size):DoesQ P cx ⟨dst,.slice t x (some lo) none none,ty,pos,af,gd⟩ r fz H V:=
  YC (fun ρ w hr=>by
   have hu:=run_underlying (und_plain T hT hd rfl) w;simp [execOp,hr _ _ hx,hr _ _ hl,Instr.sliceAt,Instr.slice,Instr.sliceBounds,Instr.sliceBound,asIntOf,hu,h0,h1]) h
variable {X:Ty} {s:Bs} {t:TypeId} {x:Operand}
theorem q_str_to (T:Tab P) {hi:Operand} {k:IntKind} {j:Int} (hT:T.inf t=some X) (hd:X.desc=.string) (hx:r x=some (.string s)) (hl:r hi=some (.int k j))
 (h0:0<=j) (h1:j<=s.size) (h:V (.string (s.extract 0 j.toNat))):DoesQ P cx ⟨dst,.slice t x none (some hi) none,ty,pos,af,gd⟩ r fz H V:=
 YC (fun ρ w hr=>by
  have hu:=run_underlying (und_plain T hT hd rfl) w;simp [execOp,hr _ _ hx,hr _ _ hl,Instr.sliceAt,Instr.slice,Instr.sliceBounds,Instr.sliceBound,asIntOf,hu,h0,h1]) h
end
open Classical in
noncomputable def W6 {α:Type} (p:α->Prop):List α->Int->Int
 | [],_=> -1
 | x::r,k=>if p x then k else W6 p r (k+1)
theorem Xt {α:Type} {p:α->Prop}:∀ {l:List α} {k:Int},0<=k->(0<=W6 p l k↔∃ x∈l,p x)
 | [],k,_=>by simp [W6]
 | x::r,k,hk=>by
  unfold W6;split
  ·rename_i h;exact ⟨fun _=>⟨x,by simp,h⟩,fun _=>hk⟩
  rename_i h;rw [Xt (l:=r) (k:=k+1) Zi];simp [h]
theorem YaG {α:Type} {p:α->Prop}:∀ {l:List α} {i:Nat} {k:Int} {x:α},(∀ j,j<i->∀ y,l[j]?=some y->¬p y)->l[i]?=some x->p x->W6 p l k=k+i
 | [],i,k,x,_,hx,_=>by simp at hx
 | y::r,0,k,x,_,hx,hp=>by
  simp at hx;subst hx;simp [W6,hp]
 | y::r,i+1,k,x,h,hx,hp=>by
  have h0:=h 0 Zi y rfl;have:=YaG (p:=p) (l:=r) (i:=i) (k:=k+1) (x:=x) (fun j hj z hz=>h (j+1) Zi z (by simpa using hz)) (by simpa using hx) hp;unfold W6;rw [if_neg h0,this];omega
theorem WL {α:Type} {p:α->Prop}:∀ {l:List α} {k:Int},(∀ x∈l,¬p x)->W6 p l k= -1
 | [],k,_=>rfl
 | y::r,k,h=>by
  unfold W6;rw [if_neg (h y (by simp)),WL (fun x hx=>h x (by simp [hx]))]
theorem Yab {P:Program} {cx:Cx} {n:Nat} {σ:Env} {Q:QQ} {ops:Array Oper} {rest:List Oper} {d:Nat} {op:Op} {ty:TypeId} {pos:String} {af:Array Edge} {s:Nat} {c:Bool}
 (h:Does P cx ⟨some d,op,ty,pos,af,some (j,c)⟩ (rd σ) fz H fun v fz' H'=>Seq P cx n ops rest ((d,v)::σ) fz' H' Q) (hd:Nat.blt d n=true:=by exact rfl) (hj:(ops[j]?).bind (·.dst)=some s:=by exact rfl) (hv:lk σ s=some (.bool c):=by exact rfl):
 Seq P cx n ops (⟨some d,op,ty,pos,af,some (j,c)⟩::rest) σ fz H Q:=by
 unfold Seq;intro a w hs hi;unfold wpList;rw [if_pos (by simp [Region.wanted,Yfe hs hj hv])];refine .inl (Yay.wp ((h.run a.eval w hs.reads hi).mono fun v w' hh=>?_));obtain ⟨fz',H',h1,h2⟩:=hh;unfold Seq at h2;exact h2 _ _ (hs.put d (by simpa [Nat.blt_eq] using hd) v) h1
end Go.Lx
