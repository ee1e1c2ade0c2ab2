/- The texts PCF, PCN, PFr, ShelfJ, PCO, QA, QB, QC, StrC, QD, ShelfS, PGrowB, QSo, QSp, UK, UB, UD, UE, UF, QE, QF, QG, UG, UL, UM, UA, UC, QH, QI, QJ, QK, QM, UH, UI, PCE, PCP, PCL, PCS, PCT, PCV, OpenA, PCQ, PCR, PVal, PGrd, PWalkK, PWalkL, PWalkM, PWalkN, PWalkO, PWalkP, PWalkQ, PWalkR, PWalkS, PWalkT, PGrp, PWalkW, PCX, QU, QN, laid together. Conditions: none. -/
import Derived.Test.YtaaanbkahfeknaaGreatDoorCNF
import Derived.Shelf.Strings.Search3
import Derived.ChangeSame
import Derived.Below
import Derived.ProofKit
import Derived.Sort.Walk0
import Derived.Shelf.SlSortCmp.NoneTotal
import Derived.Shelf.Strings.OnBuilder
set_option linter.all false
noncomputable section
set_option maxRecDepth 20000
open Go.Lx Go.RowKit
attribute [local instance 10] Classical.propDecidable
open Go.Proofs.Tryz (prog)
namespace Go.Proofs.YtaaanbkahfeknaaGreatDoor
end Go.Proofs.YtaaanbkahfeknaaGreatDoor
namespace Go.Proofs.YtaaanbkahfeknaaGreatDoor
variable {w':World}
theorem YhE {w:World} (h:Below w.heap.size w w'):Fr [] w w':=⟨h.os,h.tape,h.output,h.size,fun b hb _=>h.block b hb,fun h=>h.elim⟩
end Go.Proofs.YtaaanbkahfeknaaGreatDoor
namespace Go.Proofs
open Go.Shelf
def XX:Go.Shelf.Ren:=⟨fun | 156=>249 | 165=>253 | 166=>189 | 169=>191 | 240=>250 | 241=>293 | 276=>289 | 277=>324 | n=>n,fun | 31=>31 | 9=>9 | 3=>3 | 4=>4 | 0=>0 | 20=>20 | 72=>252 | 76=>253 | 70=>249 | 37=>250 | 75=>52 | 127=>310 | 164=>344 | 5=>5 | 80=>256 | n=>n,fun | n=>n⟩
theorem Yai:Go.Proofs.Lays.n156 Tryz.prog XX:={
 mixed:=by kernel_rfl
 f156:=Tryz.func249.trans (congrArg some (by kernel_rfl))
 f165:=Tryz.func253.trans (congrArg some (by kernel_rfl))
 f166:=Tryz.func189.trans (congrArg some (by kernel_rfl))
 f169:=Tryz.func191.trans (congrArg some (by kernel_rfl))
 f240:=Tryz.func250.trans (congrArg some (by kernel_rfl))
 f241:=Tryz.func293.trans (congrArg some (by kernel_rfl))
 f276:=Tryz.func289.trans (congrArg some (by kernel_rfl))
 f277:=Tryz.func324.trans (congrArg some (by kernel_rfl))
 t0:=Tryz.underlying0
 a0:=Tryz.isAgg0
 z0:=Tryz.sizeOf0
 v0:=Tryz.zeroValue0
 t3:=Tryz.underlying3
 a3:=Tryz.isAgg3
 z3:=Tryz.sizeOf3
 v3:=Tryz.zeroValue3
 t4:=Tryz.underlying4
 a4:=Tryz.isAgg4
 z4:=Tryz.sizeOf4
 v4:=Tryz.zeroValue4
 t9:=Tryz.underlying9
 a9:=Tryz.isAgg9
 z9:=Tryz.sizeOf9
 v9:=Tryz.zeroValue9
 t20:=Tryz.underlying20
 a20:=Tryz.isAgg20
 z20:=Tryz.sizeOf20
 v20:=Tryz.zeroValue20
 t31:=Tryz.underlying31
 a31:=Tryz.isAgg31
 z31:=Tryz.sizeOf31
 v31:=Tryz.zeroValue31
 t37:=Tryz.underlying250
 a37:=Tryz.isAgg250
 z37:=Tryz.sizeOf250
 v37:=Tryz.zeroValue250
 t70:=Tryz.underlying249
 a70:=Tryz.isAgg249
 z70:=Tryz.sizeOf249
 v70:=Tryz.zeroValue249
 t72:=Tryz.underlying252
 a72:=Tryz.isAgg252
 z72:=Tryz.sizeOf252
 v72:=Tryz.zeroValue252
 t75:=Tryz.underlying52
 a75:=Tryz.isAgg52
 z75:=Tryz.sizeOf52
 v75:=Tryz.zeroValue52
 t76:=Tryz.underlying253
 a76:=Tryz.isAgg253
 z76:=Tryz.sizeOf253
 v76:=Tryz.zeroValue253
 t127:=Tryz.underlying310
 a127:=Tryz.isAgg310
 z127:=Tryz.sizeOf310
 v127:=Tryz.zeroValue310
 t164:=Tryz.underlying344
 a164:=Tryz.isAgg344
 z164:=Tryz.sizeOf344
 v164:=Tryz.zeroValue344}
theorem Tryz.Builder_Extra_156:Builder.Extra Tryz.prog XX:={
 sizeBuilder:=by kernel_rfl
 liesBuilder:=by kernel_rfl
 t5:=Tryz.underlying5
 a5:=Tryz.isAgg5
 z5:=Tryz.sizeOf5
 v5:=Tryz.zeroValue5
 infoByte:=by kernel_rfl
 cellsByte:=by kernel_rfl
 sizeByte:=by kernel_rfl
 neB5:=by decide}
open Go.RowKit in
/-- No element: the empty string; the world is as1 it was. (Whatever the slice's address and capacity: a nil slice too.) (LAID: no walk: one application.) -/
theorem Tryz.strings_Join_none (a:Option Addr) (c:Nat) (sep:ByteArray) (w:World):
 Calls Tryz.prog 249 #[.slice a 0 c,.string sep] w fun e w'=>e=.returned (.string ⟨#[]⟩)/\w'=w:=Any.strings_Join_none Yai Tryz.Builder_Extra_156 a c sep w
open Go.RowKit in
/-- strings.Join: "Join concatenates the elements of its first argument to create a single string. The separator string sep is placed between elements in the resulting string.": HOWEVER MANY ELEMENTS. Below the heap's end the world is as1 it was. (LAID: no walk: one application.) -/
theorem Tryz.strings_Join (bk o c:Nat) (xs:List ByteArray) (sep:ByteArray) (w:World) (hcells:∀ (j:Nat) x,xs[j]?=some x->w.cell? ⟨bk,o+j,none⟩=some (.string x)) (hbk:bk<w.heap.size) (hN:xs.length<=140737488355328) (hcap:xs.length<=c) (hlen:(Lib.join (xs.map (·.data.toList)) sep.data.toList).length<=140737488355328):
 Calls Tryz.prog 249 #[.slice (some ⟨bk,o,none⟩) xs.length c,.string sep] w fun e w'=>e=.returned (.string ⟨(Lib.join (xs.map (·.data.toList)) sep.data.toList).toArray⟩)/\Below w.heap.size w w':=Any.strings_Join Yai Tryz.Builder_Extra_156 bk o c xs sep w hcells hbk hN hcap hlen
end Go.Proofs
namespace Go.Proofs.YtaaanbkahfeknaaGreatDoor
variable {m:List (Bs × Value)} {i:Nat} {fz fz':FZ} {v va:Value} {S:List Atom} {s:Bs} {a:Atom}
def YkT (a:Atom):Prop:=PlnS a.name/\a.args.length<=2000000/\∀ s∈a.args,PlnS s
def keyB (a:Atom):Bs:=a.args.foldl (fun o s=>o++YfC s) (YfC a.name)
def KeyN (m:List (Bs × Value)):Prop:=(m.map Prod.fst).Nodup
theorem KeyN.nil:KeyN []:=List.nodup_nil
theorem YgO {x:Bs}:(fndS m x 0).isSome=true↔x∈m.map Prod.fst:=by
 constructor
 ·intro h;obtain ⟨p,hp⟩:=Option.isSome_iff_exists.1 h;have:=(Yau m x 0 p.1 p.2 hp).2;exact List.mem_map.2 ⟨(x,p.2),Zm this,rfl⟩
 intro h;cases hf:fndS m x 0 with
 | some p=>rfl
 | none=>
  obtain ⟨p,hp,e⟩:=List.mem_map.1 h;exact absurd e (YdE m x 0 hf p hp)
theorem set_self {α:Type}:∀ {l:List α} {i:Nat} {x:α},l[i]?=some x->l.set i x=l
 | [],i,x,h=>by simp at h
 | y::l,0,x,h=>by simp at h;subst h;rfl
 | y::l,i+1,x,h=>by rw [List.set_cons_succ,set_self (by simpa using h)]
theorem KeyN.upd (h:KeyN m) (x:Bs) (v:Value):KeyN (updS m x v):=by
 unfold updS;cases hf:fndS m x 0 with
 | none=>
  show KeyN (m++ [(x,v)]);unfold KeyN;rw [List.map_append];refine List.nodup_append.2 ⟨h,by simp,fun a ha b hb e=>?_⟩;simp at hb;subst hb;subst e;have:=YgO.2 ha;rw [hf] at this;cases this
 | some p=>
  obtain ⟨i,u⟩:=p;have h1:=(Yau m x 0 i u hf).2;show KeyN (m.set i (x,v));unfold KeyN;have:(m.set i (x,v)).map Prod.fst=m.map Prod.fst:=by
   rw [List.map_set];have h2:(m.map Prod.fst)[i]?=some x:=by rw [List.getElem?_map];rw [Nat.sub_zero] at h1;rw [h1];rfl
   exact set_self h2
  rw [this];exact h
theorem val_at (h:KeyN m) {p:Bs × Value} (hi:m[i]?=some p):valS m p.1=some p.2:=by
 unfold valS;cases hf:fndS m p.1 0 with
 | none=>exact absurd rfl (YdE m p.1 0 hf p (Zm hi))
 | some q=>
  obtain ⟨j,u⟩:=q;have h1:=(Yau m p.1 0 j u hf).2;rw [Nat.sub_zero] at h1;have hij:i=j:=by
   have e1:(m.map Prod.fst)[i]?=some p.1:=by rw [List.getElem?_map,hi];rfl
   have e2:(m.map Prod.fst)[j]?=some p.1:=by rw [List.getElem?_map,h1];rfl
   obtain ⟨b1,e1⟩:=Zg e1;obtain ⟨b2,e2⟩:=Zg e2;rcases Nat.lt_trichotomy i j with hlt | heq | hlt
   ·exact absurd (e1.trans e2.symm) (List.pairwise_iff_getElem.1 h i j b1 b2 hlt)
   ·exact heq
   exact absurd (e2.trans e1.symm) (List.pairwise_iff_getElem.1 h j i b2 b1 hlt)
  subst hij;rw [hi] at h1;injection h1 with h1
  rw [h1];rfl
theorem val_none {x:Bs} (h:∀ (i:Nat) (p:Bs × Value),m[i]?=some p->p.1≠x):valS m x=none:=by
 unfold valS;cases hf:fndS m x 0 with
 | none=>rfl
 | some q=>
  obtain ⟨j,u⟩:=q;have h1:=(Yau m x 0 j u hf).2;rw [Nat.sub_zero] at h1;exact absurd rfl (h j _ h1)
abbrev EnvM:=Bs->Option Bs
def EnvR (fz:FZ) (v:Value) (E:EnvM):Prop:=(v=.map none/\∀ x,E x=none)\/∃ g m,v=.map (some g)/\fz g=some (mapS m)/\KeyN m/\∀ x,valS m x=(E x).map Value.string
variable {E:EnvM}
theorem EnvR.mono (h:EnvR fz v E) (hle:Le fz fz'):EnvR fz' v E:=
 h.imp id fun ⟨g,m,h1,h2,h3,h4⟩=>⟨g,m,h1,hle _ _ h2,h3,h4⟩
theorem EnvR.form (h:EnvR fz v E):∃ o,v=.map o:=by
 rcases h with ⟨h,_⟩ | ⟨g,_,h,_⟩
 ·exact ⟨_,h⟩
 exact ⟨_,h⟩
def setE (E:EnvM) (x a:Bs):EnvM:=fun y=>if y=x then some a else E y
def CopM (m m':List (Bs × Value)) (seen:List Nat):Prop:=KeyN m'/\∀ x,(∀ i∈seen,∀ p,m[i]?=some p->p.1≠x)/\valS m' x=none\/∃ i∈seen,∃ p,m[i]?=some p/\p.1=x/\valS m' x=some p.2
theorem CopM.nil:CopM m [] []:=⟨KeyN.nil,fun x=>.inl ⟨(by intro i hi;cases hi),rfl⟩⟩
theorem CopM.add {m':List (Bs × Value)} {seen:List Nat} (h:CopM m m' seen) {p:Bs × Value} (hp:m[i]?=some p):CopM m (updS m' p.1 p.2) (seen++ [i]):=by
 refine ⟨h.1.upd _ _,fun x=>?_⟩;rw [YbD];by_cases hx:x=p.1
 ·rw [if_pos hx];exact .inr ⟨i,by simp,p,hp,hx.symm,rfl⟩
 rw [if_neg hx];rcases h.2 x with ⟨h1,h2⟩ | ⟨j,hj,q,hq,h1,h2⟩
 ·refine .inl ⟨fun j hj q hq=>?_,h2⟩;rcases List.mem_append.1 hj with hj | hj
  ·exact h1 j hj q hq
  simp at hj;subst hj;rw [hp] at hq;injection hq with hq;subst hq;exact fun e=>hx e.symm
 exact .inr ⟨j,by simp [hj],q,hq,h1,h2⟩
theorem CopM.all {m':List (Bs × Value)} {seen:List Nat} (hn:KeyN m) (h:CopM m m' seen) (hall:∀ i,i<m.length->i∈seen) (x:Bs):valS m' x=valS m x:=by
 rcases h.2 x with ⟨h1,h2⟩ | ⟨j,hj,q,hq,h1,h2⟩
 ·rw [h2,val_none (fun i p hp=>h1 i (hall i (Zg hp).1) p hp)]
 rw [h2,<- h1,val_at hn hq]
def SetM (fz:FZ) (m:List (Bs × Value)) (S:List Atom):Prop:=KeyN m/\m.length=S.length/\∀ (i:Nat) (a:Atom),S[i]?=some a->YkT a/\∃ va:Value,m[i]?=some (keyB a,Value.agg #[Zy a.name,va])/\AtomR fz a va
theorem SetM.mono (h:SetM fz m S) (hle:Le fz fz'):SetM fz' m S:=
 ⟨h.1,h.2.1,fun i a ha=>by obtain ⟨h1,va,h2,h3⟩:=h.2.2 i a ha;exact ⟨h1,va,h2,h3.mono hle⟩⟩
theorem SetM.nil:SetM fz [] []:=⟨KeyN.nil,rfl,by intro i a h;simp at h⟩
theorem YiJ {s t X Y:List UInt8} (hs:(34:UInt8) ∉ s) (ht:(34:UInt8) ∉ t) (h:s++34::X=t++34::Y):s=t/\X=Y:=by
 induction s generalizing t with
 | nil=>
  cases t with
  | nil=>simp at h;exact ⟨rfl,h⟩
  | cons b t=>simp at h;exact absurd (by simp [h.1]) ht
 | cons a s ih=>
  cases t with
  | nil=>simp at h;exact absurd (by simp [h.1]) hs
  | cons b t=>
   simp only [List.cons_append,List.cons.injEq] at h;obtain ⟨h1,h2⟩:=ih (t:=t) (fun e=>hs (by simp [e])) (fun e=>ht (by simp [e])) h.2;exact ⟨by rw [h.1,h1],h2⟩
def WF (l:List Bs):List UInt8:=l.flatMap fun s=>Ydl s.data.toList
theorem Ydk:∀ {l l':List Bs},(∀ s∈l,(34:UInt8) ∉ s.data.toList)->(∀ s∈l',(34:UInt8) ∉ s.data.toList)->WF l=WF l'->l=l'
 | [],[],_,_,_=>rfl
 | [],s::r,_,_,h=>by simp [WF,Ydl] at h
 | s::r,[],_,_,h=>by simp [WF,Ydl] at h
 | s::r,t::r',h1,h2,h=>by
  have e:s.data.toList++34::WF r=t.data.toList++34::WF r':=by
   simpa [WF,Ydl] using h
  obtain ⟨e1,e2⟩:=YiJ (h1 s (by simp)) (h2 t (by simp)) e;rw [Ydk (fun x hx=>h1 x (by simp [hx])) (fun x hx=>h2 x (by simp [hx])) e2,bytes_ext e1]
where
 bytes_ext {s t:Bs} (h:s.data.toList=t.data.toList):s=t:=by
  have h1:s.data=s.data.toList.toArray:=by simp
  have h2:t.data=t.data.toList.toArray:=by simp
  exact ByteArray.ext (by rw [h1,h2,h])
theorem YfX:∀ (l:List Bs) (o:List UInt8),l.foldl (fun o s=>o++YfC s) (strOf o)=strOf (o++WF l)
 | [],o=>by simp [WF]
 | s::l,o=>by
  rw [List.foldl_cons,show YfC s=strOf (Ydl s.data.toList) from rfl,Ycs,YfX l];simp [WF]
theorem YjS (a:Atom):keyB a=strOf (WF (a.name::a.args)):=by
 unfold keyB;rw [show YfC a.name=strOf (Ydl a.name.data.toList) from rfl,YfX];simp [WF]
theorem Yhn (h:PlnS s):(34:UInt8) ∉ s.data.toList:=fun h0=>(h.2 34 h0).2.2.1 rfl
theorem keyB_inj {b:Atom} (ha:YkT a) (hb:YkT b) (h:keyB a=keyB b):a=b:=by
 rw [YjS,YjS] at h;have h1:=Ydk (l:=a.name::a.args) (l':=b.name::b.args) (fun s hs=>by
  rcases List.mem_cons.1 hs with rfl | hs
  ·exact Yhn ha.1
  ·exact Yhn (ha.2.2 s hs)) (fun s hs=>by
  rcases List.mem_cons.1 hs with rfl | hs
  ·exact Yhn hb.1
  exact Yhn (hb.2.2 s hs)) (YiV h)
 cases a;cases b;simp at h1;rw [h1.1,h1.2]
theorem SetM.has (h:SetM fz m S) (ha:YkT a):(fndS m (keyB a) 0).isSome=decide (a∈S):=by
 by_cases hm:a∈S
 ·rw [decide_eq_true hm];obtain ⟨i,hi⟩:=List.getElem?_of_mem hm;obtain ⟨_,va,h2,_⟩:=h.2.2 i a hi;exact YgO.2 (List.mem_map.2 ⟨_,Zm h2,rfl⟩)
 rw [decide_eq_false hm];cases hf:(fndS m (keyB a) 0).isSome with
 | false=>rfl
 | true=>
  obtain ⟨p,hp,e⟩:=List.mem_map.1 (YgO.1 hf);obtain ⟨i,hi⟩:=List.getElem?_of_mem hp;have hlt:i<S.length:=by have:=(Zg hi).1;rw [h.2.1] at this;exact this
  obtain ⟨b,hb⟩:=Yq hlt;obtain ⟨hbo,va,h2,_⟩:=h.2.2 i b hb;rw [hi] at h2;injection h2 with h2
  rw [h2] at e;rw [keyB_inj hbo ha e] at hb;exact absurd (Zm hb) hm
theorem SetM.push (h:SetM fz m S) (ha:YkT a) (hn:a ∉ S) (hR:AtomR fz a va):SetM fz (updS m (keyB a) (.agg #[Zy a.name,va])) (S++ [a]):=by
 have hf:=h.has ha;rw [decide_eq_false hn] at hf;have hu:updS m (keyB a) (.agg #[Zy a.name,va])=m++ [(keyB a,.agg #[Zy a.name,va])]:=by
  unfold updS;cases h0:fndS m (keyB a) 0 with
  | none=>rfl
  | some p=>rw [h0] at hf;cases hf
 refine ⟨h.1.upd _ _,by rw [hu,List.length_append,List.length_append,h.2.1];rfl,fun i b hb=>?_⟩;rw [hu];by_cases hi:i<S.length
 ·rw [List.getElem?_append_left hi] at hb;obtain ⟨h1,vb,h2,h3⟩:=h.2.2 i b hb;exact ⟨h1,vb,by rw [List.getElem?_append_left (by rw [h.2.1];exact hi)];exact h2,h3⟩
 rw [List.getElem?_append_right Zi] at hb;have hi2:i - S.length=0:=by
  have:=(Zg hb).1;simp at this;omega
 rw [hi2] at hb;simp at hb;subst hb;exact ⟨ha,va,by rw [List.getElem?_append_right (by rw [h.2.1];omega),h.2.1,hi2];rfl,hR⟩
def ltB (a b:Bs):Bool:=Op.bytesLess a.toList b.toList
section
set_option linter.unusedSectionVars false
variable [Dr]
section
variable {P:Program} {cx:Cx} {r:Operand->Option Value} {fz:FZ} {H:HP} {V:Value->Prop} {dst:Option Nat} {ty:TypeId} {pos:String} {af:Array Edge} {gd:Option (Nat × Bool)}
theorem Yb4 {t t':TypeId} {x y:Operand} {u v:Bs} (ht:ltB u v=true->V (.bool true)) (hf:ltB u v=false->V (.bool false)) (hx:r x=some (.string u):=by exact rfl) (hy:r y=some (.string v):=by exact rfl):DoesQ P cx ⟨dst,.binOp .lss t x y t',ty,pos,af,gd⟩ r fz H V:=
 Yo (v:=Zo (ltB u v)) (fun ρ w hr=>by
  simp [execOp,hr _ _ hx,hr _ _ hy,binOp,Op.stringOp,eqGuard,ltB]) (by
  cases h:ltB u v with
  | true=>exact ht h
  | false=>exact hf h)
theorem Yb5 {t t':TypeId} {x y:Operand} {u v:Bs} (ht:ltB u v=false->u≠v->V (.bool true)) (hf:ltB u v=true\/u=v->V (.bool false)) (hx:r x=some (.string u):=by exact rfl) (hy:r y=some (.string v):=by exact rfl):DoesQ P cx ⟨dst,.binOp .gtr t x y t',ty,pos,af,gd⟩ r fz H V:=
 Yo (v:=Zo (!(ltB u v || decide (u=v)))) (fun ρ w hr=>by
  simp [execOp,hr _ _ hx,hr _ _ hy,binOp,Op.stringOp,eqGuard,ltB,YeJ]) (by
  cases h:ltB u v with
  | true=>exact hf (.inl h)
  | false=>
   by_cases e:u=v
   ·rw [decide_eq_true e];exact hf (.inr e)
   rw [decide_eq_false e];exact ht h e)
end
end
end Go.Proofs.YtaaanbkahfeknaaGreatDoor
namespace Go.Proofs.YtaaanbkahfeknaaGreatDoor
variable {A:Option Addr} {c n:Nat} {fz:FZ}
section
set_option linter.unusedSectionVars false
variable [Dr]
def cmpS (a b:Bs):Int:=if ltB a b=true then -1 else if a=b then 0 else 1
def cmpL:List Bs->List Bs->Int
 | [],[]=>0
 | [],_::_=> -1
 | _::_,[]=>1
 | x::xs,y::ys=>if cmpS x y≠0 then cmpS x y else cmpL xs ys
def cmpA (a b:Atom):Int:=if cmpS a.name b.name≠0 then cmpS a.name b.name else cmpL a.args b.args
theorem YgT (a b:Bs):I64 (cmpS a b):=by
 unfold cmpS I64;split
 ·omega
 split<;>omega
theorem YgU:∀ (a b:List Bs),I64 (cmpL a b)
 | [],[]=>by unfold cmpL I64;omega
 | [],_::_=>by unfold cmpL I64;omega
 | _::_,[]=>by unfold cmpL I64;omega
 | x::xs,y::ys=>by
  unfold cmpL;split
  ·exact YgT x y
  exact YgU xs ys
variable {fz:FZ}
theorem nanS_q {a:Bs}:QFn prog 186 [Zy a] fz (Zo false):=by
 refine qF Tryz.func186 Tryz.ntmps186 (fun w0=>?_);refine zW ?_;intros;refine zC ?_ ?_<;>intro c1
 ·exact absurd rfl c1
 refine zW ?_;intros;exact zR (h:=rfl)
theorem cmpS_q {a b:Bs}:QFn prog 114 [Zy a,Zy b] fz (Zk (cmpS a b)):=by
 refine qF Tryz.func114 Tryz.ntmps114 (fun w0=>?_);refine zW ?_;intros;refine zc (nanS_q (a:=a)) ?_;refine zW ?_;intros;refine zc (nanS_q (a:=b)) ?_;refine zW ?_;intros;refine zG ?_;refine Yb4 (fun h1=>?_) (fun h1=>?_)
 ·refine zW ?_;intros;exact zR (h:=by rw [cmpS,if_pos h1])
 refine zW ?_;intros;refine zG ?_;refine Yb5 (fun h2 h3=>?_) (fun h2=>?_)
 ·refine zW ?_;intros;exact zR (h:=by rw [cmpS,if_neg (by rw [h1];decide),if_neg h3])
 refine zW ?_;intros
 (exact ret1 rfl rfl Zb (by
  have h3:a=b:=h2.resolve_left (by rw [h1];decide);rw [cmpS,if_neg (by rw [h1];decide),if_pos h3]))
theorem Yfb {l:List Bs}:cmpL [] l=if 0<l.length then -1 else 0:=by cases l<;>simp [cmpL]
variable {A B:Option Addr} {c n:Nat}
theorem cmpL_q {m b:Nat} {l l':List Bs} (ha:Sl strL fz A n c l) (hb:Sl strL fz B m b l'):QFn prog 75 [Zc A n c,Zc B m b] fz (Zk (cmpL l l')):=by
 have la:=ha.len;have lb:=hb.len;have sa:=ha.short;refine qF Tryz.func75 Tryz.ntmps75 (fun w0=>?_);refine zW ?_;intros;refine YjK n (fun k=>[(11,Zk k),(10,Zk n),(9,Zc A n c),(0,Zc A n c),(1,Zc B m b)]) [] (fun k=>k<=m/\cmpL (l.drop k) (l'.drop k)=cmpL l l') ⟨Z0 _,rfl⟩ ?_;intro k hk hh;obtain ⟨hkm,hcm⟩:=hh;refine zW ?_;intros;refine zC ?_ ?_<;>intro c1
 ·obtain ⟨x,hx⟩:=Yq (l:=l) (k:=k) Zi;have ex:l.drop k=x::l.drop (k+1):=by
   obtain ⟨h1,h2⟩:=Zg hx;rw [<- h2];exact List.drop_eq_getElem_cons h1
  refine zW ?_;intros;refine zI ha hx (fun p1 hp1=>?_);refine zH hp1 (fun hs1=>?_);refine zW ?_;intros;refine zC ?_ ?_<;>intro c2
  ·have ey:l'.drop k=[]:=List.drop_eq_nil_of_le Zi;rw [ex,ey] at hcm;refine zW ?_;intros;exact zR (h:=by rw [<- hcm];rfl)
  obtain ⟨y,hy⟩:=Yq (l:=l') (k:=k) Zi;have ey:l'.drop k=y::l'.drop (k+1):=by
   obtain ⟨h1,h2⟩:=Zg hy;rw [<- h2];exact List.drop_eq_getElem_cons h1
  rw [ex,ey] at hcm;refine zW ?_;intros;refine zI hb hy (fun p2 hp2=>?_);refine zH hp2 (fun hs2=>?_);refine zW ?_;intros;refine zc (cmpS_q (a:=x) (b:=y)) ?_;refine zW ?_;intros;refine zC ?_ ?_<;>intro c3
  ·refine zW ?_;intros;exact zR (h:=by rw [<- hcm,cmpL,if_pos c3])
  refine zW ?_;intros;refine YJ ⟨k+1,by omega,rfl,rfl,rfl,rfl,by omega,?_⟩ Zi Zw Zb;rw [<- hcm,cmpL,if_neg Zi]
 have hk2:k=n:=by omega
 subst hk2;rw [List.drop_eq_nil_of_le Zi,Yfb,List.length_drop] at hcm;refine zW ?_;intros;refine zC ?_ ?_<;>intro c2
 ·rw [if_pos Zi] at hcm;refine zW ?_;intros;exact zR (h:=by rw [<- hcm])
 rw [if_neg Zi] at hcm;refine zW ?_;intros;exact zR (h:=by rw [<- hcm])
variable {g:Nat} {t:TypeId}
theorem or_f {x y:Int} (hx:I64 x) (hy:I64 y) (hc:2<=c/\c<=9223372036854775807):
 GFn prog 74 [Zv g 2 c] fz [(g,Zu #[Zk x,Zk y] t)] (fun r fz' H'=>H'=[]/\r=Zk (if x≠0 then x else y)):=by
 refine zF Tryz.func74 Tryz.ntmps74 (fun w0=>?_);refine Wp.freezeAll (H1:=[]) (Zr _) (fun fz1 hle1 hf1=>?_);have h:Sl intL fz1 (some ⟨g,0,none⟩) 2 c [x,y]:=by
  refine ⟨rfl,hc.1,hc.2,by decide,.inr ⟨_,rfl,fun i d hd=>?_⟩⟩;have hg:=hf1 _ (List.mem_singleton.2 rfl)
  match i,hd with
  | 0,hd=>
   simp at hd;subst hd;exact ⟨_,⟨rfl,hx⟩,fun j v hv=>by
    match j,hv with
    | 0,hv=>simp at hv;subst hv;simp [Ybv,Addr.add,hg]
    | j+1,hv=>simp at hv⟩
  | 1,hd=>
   simp at hd;subst hd;exact ⟨_,⟨rfl,hy⟩,fun j v hv=>by
    match j,hv with
    | 0,hv=>simp at hv;subst hv;simp [Ybv,Addr.add,hg,intL]
    | j+1,hv=>simp at hv⟩
  | i+2,hd=>simp at hd
 refine zW ?_;intros;refine Yd (fun q σ fz2 H'=>∃ k:Nat,k<=2/\q=2 - k/\σ=[(8,Zk k),(7,Zk 2),(6,Zv g 2 c),(3,Zk 0)]/\fz1=fz2/\H'=[]/\(1<=k->x=0)/\(2<=k->y=0)) ⟨0,Z0 _,rfl,rfl,rfl,rfl,by omega,by omega⟩ Zw Zb ?_;rintro q σ fz' H' ⟨k,hk,rfl,rfl,rfl,rfl,h1,h2⟩;refine zW ?_;intros;refine zC ?_ ?_<;>intro c1
 ·obtain ⟨z,hz⟩:=Yq (l:=[x,y]) (k:=k) (by simp;omega);refine zW ?_;intros;refine zI h hz (fun p1 hp1=>?_)
  ((refine zG ?_);refine XL T Zz Zz Zz hp1 (fun hi1=>?_));refine zW ?_;intros;refine zC ?_ ?_<;>intro c2
  ·refine zW ?_;intros;refine ret1 rfl rfl Zb ⟨rfl,?_⟩
   match k,hz,h1 with
   | 0,hz,_=>simp at hz;subst hz;rw [if_pos c2]
   | 1,hz,h1=>simp at hz;subst hz;rw [if_neg (by rw [h1 (Zs _)];decide)]
   | k+2,hz,_=>simp at hz
  refine zW ?_;intros;refine YJ ⟨k+1,by omega,rfl,rfl,rfl,rfl,?_,?_⟩ Zi Zw Zb
  ·intro _
   match k,hz,h1 with
   | 0,hz,_=>simp at hz;omega
   | k+1,hz,h1=>exact h1 Zi
  intro hk3;have:k=1:=by omega
  subst this;simp at hz;omega
 refine zW ?_;intros;refine ret1 rfl rfl Zb ⟨rfl,?_⟩;rw [if_neg (by rw [h1 Zi];decide),h2 Zi]
end
theorem YbR {l:List Bs} (h:Sl strL fz A n c l) (hn:n<=1000000000):
 GFn prog 56 [Zc A n c] fz [] (fun v fz' H'=>Grow strL 9 fz' v n H' l):=by
 have l1:=h.len;refine zF Tryz.func56 Tryz.ntmps56 (fun w0=>?_);refine zV ?_;intros;refine zG ?_;refine XU (fun eA=>?_) (fun eA=>?_)
 ·subst eA;have hl:l=[]:=by
   rcases h.elem with h0 | ⟨_,h0,_⟩
   ·exact List.eq_nil_of_length_eq_zero Zi
   cases h0
  subst hl;simp at l1;subst l1;refine zV ?_;intros;refine Ydj (H':=[]) (H2:=[]) rfl rfl (Zr _) (fun fz3 hle3 _=>Grow.nil _ _ _)
 refine zV ?_;intros;refine Yc (Wm (fun gb=>?_));refine zV ?_;intros;refine Yc (W8 T (Hr:=[]) (n:=0) (l:=[]) Zz Zz Zz Zz Zz Zz Zz Zz (Zr _) (Grow.block (ys:=[]) rfl rfl (by intro p hp;cases hp) rfl) Yb0 h (by show _*16<=_;omega) Zi (fun v' Hs' hO'=>?_));obtain ⟨Av',cv',rfl,_,_⟩:=hO'.form;refine zV ?_;intros;refine Ydj (H':=Hs') (H2:=[]) rfl rfl (by simp) (fun fz3 hle3 _=>(hO'.mono hle3).of (by simp) Zi)
end Go.Proofs.YtaaanbkahfeknaaGreatDoor
namespace Go.Proofs
open Go.Shelf
def Yci:Go.Shelf.Ren:=⟨fun | 6=>69 | 15=>113 | 14=>112 | 28=>184 | 29=>185 | 20=>176 | 21=>177 | 22=>178 | 23=>179 | 24=>180 | 25=>181 | 26=>182 | 27=>183 | 46=>243 | 47=>244 | 48=>245 | 49=>246 | 50=>247 | 57=>288 | n=>n,fun | 22=>29 | 24=>83 | 25=>88 | 3=>3 | 39=>181 | 0=>0 | 53=>245 | 55=>247 | 4=>4 | 46=>238 | 45=>237 | 50=>242 | 5=>5 | 9=>9 | 66=>299 | 70=>193 | 76=>341 | 77=>342 | n=>n,fun | n=>n⟩
theorem YbV:Go.Proofs.SlLaysF0.n6 Tryz.prog Yci:={
 mixed:=by kernel_rfl
 f6:=⟨Tryz.f69.name,by decide,Tryz.func69.trans (congrArg some (by kernel_rfl))⟩
 f14:=⟨Tryz.f112.name,by decide,Tryz.func112.trans (congrArg some (by kernel_rfl))⟩
 f15:=Tryz.func113.trans (congrArg some (by kernel_rfl))
 f20:=⟨Tryz.f176.name,by decide,Tryz.func176.trans (congrArg some (by kernel_rfl))⟩
 f21:=⟨Tryz.f177.name,by decide,Tryz.func177.trans (congrArg some (by kernel_rfl))⟩
 f22:=⟨Tryz.f178.name,by decide,Tryz.func178.trans (congrArg some (by kernel_rfl))⟩
 f23:=⟨Tryz.f179.name,by decide,Tryz.func179.trans (congrArg some (by kernel_rfl))⟩
 f24:=⟨Tryz.f180.name,by decide,Tryz.func180.trans (congrArg some (by kernel_rfl))⟩
 f25:=⟨Tryz.f181.name,by decide,Tryz.func181.trans (congrArg some (by kernel_rfl))⟩
 f26:=⟨Tryz.f182.name,by decide,Tryz.func182.trans (congrArg some (by kernel_rfl))⟩
 f27:=⟨Tryz.f183.name,by decide,Tryz.func183.trans (congrArg some (by kernel_rfl))⟩
 f28:=Tryz.func184.trans (congrArg some (by kernel_rfl))
 f29:=Tryz.func185.trans (congrArg some (by kernel_rfl))
 f46:=⟨Tryz.f243.name,by decide,Tryz.func243.trans (congrArg some (by kernel_rfl))⟩
 f47:=Tryz.func244.trans (congrArg some (by kernel_rfl))
 f48:=Tryz.func245.trans (congrArg some (by kernel_rfl))
 f49:=⟨Tryz.f246.name,by decide,Tryz.func246.trans (congrArg some (by kernel_rfl))⟩
 f50:=⟨Tryz.f247.name,by decide,Tryz.func247.trans (congrArg some (by kernel_rfl))⟩
 f57:=⟨Tryz.f288.name,by decide,Tryz.func288.trans (congrArg some (by kernel_rfl))⟩
 t0:=Tryz.underlying0
 a0:=Tryz.isAgg0
 z0:=Tryz.sizeOf0
 v0:=Tryz.zeroValue0
 t3:=Tryz.underlying3
 a3:=Tryz.isAgg3
 z3:=Tryz.sizeOf3
 v3:=Tryz.zeroValue3
 t4:=Tryz.underlying4
 a4:=Tryz.isAgg4
 z4:=Tryz.sizeOf4
 v4:=Tryz.zeroValue4
 t5:=Tryz.underlying5
 a5:=Tryz.isAgg5
 z5:=Tryz.sizeOf5
 v5:=Tryz.zeroValue5
 t9:=Tryz.underlying9
 a9:=Tryz.isAgg9
 z9:=Tryz.sizeOf9
 v9:=Tryz.zeroValue9
 t22:=Tryz.underlying29
 a22:=Tryz.isAgg29
 z22:=Tryz.sizeOf29
 v22:=Tryz.zeroValue29
 t25:=Tryz.underlying88
 a25:=Tryz.isAgg88
 z25:=Tryz.sizeOf88
 v25:=Tryz.zeroValue88
 t39:=Tryz.underlying181
 a39:=Tryz.isAgg181
 z39:=Tryz.sizeOf181
 v39:=Tryz.zeroValue181
 t45:=Tryz.underlying237
 a45:=Tryz.isAgg237
 z45:=Tryz.sizeOf237
 v45:=Tryz.zeroValue237
 t46:=Tryz.underlying238
 a46:=Tryz.isAgg238
 z46:=Tryz.sizeOf238
 v46:=Tryz.zeroValue238
 t50:=Tryz.underlying242
 a50:=Tryz.isAgg242
 z50:=Tryz.sizeOf242
 v50:=Tryz.zeroValue242
 t53:=Tryz.underlying245
 a53:=Tryz.isAgg245
 z53:=Tryz.sizeOf245
 v53:=Tryz.zeroValue245
 t55:=Tryz.underlying247
 a55:=Tryz.isAgg247
 z55:=Tryz.sizeOf247
 v55:=Tryz.zeroValue247
 t66:=Tryz.underlying299
 a66:=Tryz.isAgg299
 z66:=Tryz.sizeOf299
 v66:=Tryz.zeroValue299
 t70:=Tryz.underlying193
 a70:=Tryz.isAgg193
 z70:=Tryz.sizeOf193
 v70:=Tryz.zeroValue193
 t76:=Tryz.underlying341
 a76:=Tryz.isAgg341
 z76:=Tryz.sizeOf341
 v76:=Tryz.zeroValue341
 t77:=Tryz.underlying342
 a77:=Tryz.isAgg342
 z77:=Tryz.sizeOf342
 v77:=Tryz.zeroValue342}
end Go.Proofs
namespace Go.Lx
open Go.RowKit
theorem YhG {α:Type} {z:Nat} {d:α × List Value} (hd:d.2.length=z):∀ {xs:List (α × List Value)} {i:Nat},(∀ p∈xs,p.2.length=z)->i<xs.length->
 (xs.flatMap Prod.snd).take (i*z)++d.2++(xs.flatMap Prod.snd).drop (i*z+z)=(xs.set i d).flatMap Prod.snd
 | [],i,_,hi=>by simp at hi
 | x::r,0,h,_=>by
  have hx:=h x (by simp);simp only [List.flatMap_cons,Nat.zero_mul,List.take_zero,List.nil_append,Nat.zero_add,List.set_cons_zero];rw [<- hx,List.drop_left]
 | x::r,i+1,h,hi=>by
  have hx:=h x (by simp);have ih:=YhG hd (xs:=r) (i:=i) (fun p hp=>h p (by simp [hp])) (by simpa using hi);simp only [List.flatMap_cons,List.set_cons_succ];rw [<- ih,Nat.succ_mul];have e1:i*z+z=x.2.length+i*z:=by omega
  have e2:i*z+z+z=x.2.length+(i*z+z):=by omega
  rw [e2,List.drop_append,e1,List.take_append];simp only [Zl (show x.2.length<=x.2.length+i*z by omega),Nat.add_sub_cancel_left,List.append_assoc];have e3:List.drop (x.2.length+(x.2.length+i*z)) x.2=[]:=List.drop_eq_nil_of_le Zi;simp [e3]
structure GrowB {α:Type} (L:Lay α) (e:Nat) (fz:FZ) (g n cap:Nat) (cur:List Value) (l:List α):Prop where
 pairs:∃ xs:List (α × List Value),xs.map Prod.fst=l/\(∀ p∈xs,L.rep fz p.1 p.2)/\cur.take (n*L.size)=xs.flatMap Prod.snd
 len:l.length=n
 capn:n<=cap
 max:cap<=maxLen
 size:cur.length=cap*L.size
theorem Grow.b {α:Type} {L:Lay α} {e:Nat} {fz:FZ} {v:Value} {n:Nat} {Hs:HP} {l:List α} (hg:Grow L e fz v n Hs l) (hn:0<n):∃ g cap cur,v=Zv g n cap/\Hs=[(g,.cells (List.toArray cur) e (0,0))]/\GrowB L e fz g n cap cur l:=by
 obtain ⟨xs,h1,h2,h3,h4⟩:=hg;rcases h4.2 with ⟨_,h0,_⟩ | ⟨g,cap,cur,h5,h6,h7,h8,h9,h10⟩
 ·omega
 exact ⟨g,cap,cur.toList,h5,by rw [h6],⟨xs,h1,h2,h10⟩,h3,h7,h8,by simpa using h9⟩
theorem GrowB.grow {α:Type} {L:Lay α} {e:Nat} {fz:FZ} {g n cap:Nat} {cur:List Value} {l:List α} (h:GrowB L e fz g n cap cur l):Grow L e fz (Zv g n cap) n [(g,.cells (List.toArray cur) e (0,0))] l:=by
 obtain ⟨xs,h1,h2,h3⟩:=h.pairs;have hl:xs.length=n:=by have:=h.len;rw [<- h1,List.length_map] at this;exact this
 exact ⟨xs,h1,h2,h.len,by rw [WS (fun p hp=>L.len (h2 p hp)),hl],.inr ⟨g,cap,cur.toArray,rfl,rfl,h.capn,h.max,by simpa using h.size,by simpa using h3⟩⟩
theorem GrowB.mono {α:Type} {L:Lay α} {e:Nat} {fz fz':FZ} (hle:Le fz fz') {g n cap:Nat} {cur:List Value} {l:List α} (h:GrowB L e fz g n cap cur l):GrowB L e fz' g n cap cur l:=by
 obtain ⟨xs,h1,h2,h3⟩:=h.pairs;exact ⟨⟨xs,h1,fun p hp=>L.mono hle (h2 p hp),h3⟩,h.len,h.capn,h.max,h.size⟩
section
variable {P:Program} {cx:Cx} {r:Operand->Option Value} {fz:FZ} {H:HP} {V:Value->Prop} {dst:Option Nat} {ty:TypeId} {pos:String} {af:Array Edge} {gd:Option (Nat × Bool)}
theorem Yb {t e:TypeId} {x i:Operand} {X Y:Ty} {g n c z:Nat} {k:IntKind} {j:Int}
 (hs:Y.size=z) (h:V (.pointer (some ⟨g,j.toNat*z,none⟩))) (T:Tab P:=by exact T) (hT:T.inf t=some X:=by exact rfl) (hd:X.desc=.slice e:=by exact rfl) (hY:T.inf e=some Y:=by exact rfl) (hx:r x=some (Zv g n c):=by exact rfl) (hi:r i=some (.int k j):=by exact rfl) (h0:0<=j:=by omega) (hn:j<n:=by omega):DoesQ P cx ⟨dst,.indexAddr t x i,ty,pos,af,gd⟩ r fz H V:=by
  refine W6 T hT hd hY hx hi h0 hn ?_;have hadd:(⟨g,0,none⟩:Addr).add (j.toNat*Y.size)=⟨g,j.toNat*z,none⟩:=by rw [hs];unfold Addr.add;split<;>simp_all
  rw [hadd];exact h
theorem Yk {t t':TypeId} {x y:Operand} {X:Ty} {pre post:HP} {g j n cap:Nat} {v:Value} {cs cur:List Value} {α:Type} {L:Lay α} {l:List α} {d:α} {K:Value->FZ->HP->Prop}
 (hH:H=pre++(g,.cells cur.toArray t' (0,0))::post) (hv:v.cells=cs.toArray) (h1:OneC L) (hr:L.rep fz d cs) (hb:GrowB L t' fz g n cap cur l)
  (h:∀ cur',GrowB L t' fz g n cap cur' (l.set j d)->K undef fz (pre++(g,.cells cur'.toArray t' (0,0))::post)) (T:Tab P:=by exact T) (hT:T.inf t=some X:=by exact rfl) (hx:r x=some (.pointer (some ⟨g,j*L.size,none⟩)):=by exact rfl) (hy:r y=some v:=by exact rfl) (hs:X.size=L.size:=by exact rfl) (hj:j<n:=by omega):Does P cx ⟨dst,.store t x y,ty,pos,af,gd⟩ r fz H K:=by
  refine Does.of fun ρ w hrd hw=>?_
  subst hH;have hcs:=L.len hr;have hgb:=(hw.hp.own (g,.cells cur.toArray t' (0,0)) (by simp)).1;obtain ⟨xs,e1,e2,e3⟩:=hb.pairs;have hxl:xs.length=n:=by have:=hb.len;rw [<- e1,List.length_map] at this;exact this
  have hsz:=hb.size;have hcap:=hb.capn;have hjn:j*L.size+L.size<=n*L.size:=by rw [<- Nat.succ_mul];exact Nat.mul_le_mul_right _ hj
  have hnc:n*L.size<=cap*L.size:=Nat.mul_le_mul_right _ hcap;have hle:j*L.size+0+cs.length<=cur.toArray.size:=by simp;omega
  have hst:=run_storeCells_at (P:=P) g (j*L.size) t' cs 0 cur.toArray w hgb hle (fun u hu=>h1 _ _ _ hr u hu);simp only [Nat.add_zero] at hst;have hz:=run_sizeOf T hT w;rw [hs,<- hcs] at hz;have hvl:v.cells.toList=cs:=by rw [hv]
  have:(execOp ρ ⟨dst,.store t x y,ty,pos,af,gd⟩).run P w=.ok .skip (w.setRow g (cur.take (j*L.size)++cs++cur.drop (j*L.size+cs.length)).toArray):=by
   simp only [execOp,hrd _ _ hx,hrd _ _ hy,Instr.storeAt,Instr.sureAddr,Sem.run_bind,Sem.run_pure,Result.andThen_ok,storeVar,hz,hvl];simp [hst,hv]
  rw [this];have hflat:(xs.flatMap Prod.snd).length=n*L.size:=by rw [WS (fun p hp=>L.len (e2 p hp)),hxl]
  have hcur:cur=xs.flatMap Prod.snd++cur.drop (n*L.size):=by rw [<- e3,List.take_append_drop]
  have hnew:(cur.take (j*L.size)++cs++cur.drop (j*L.size+cs.length)).take (n*L.size)=(xs.set j (d,cs)).flatMap Prod.snd:=by
   rw [<- YhG (z:=L.size) (d:=(d,cs)) hcs (fun p hp=>L.len (e2 p hp)) Zi,hcs];generalize hf:xs.flatMap Prod.snd=fl at*;generalize hT':cur.drop (n*L.size)=tl at*;subst hcur;have a1:(fl++tl).take (j*L.size)=fl.take (j*L.size):=List.take_append_of_le_length Zi;have a2:(fl++tl).drop (j*L.size+L.size)=fl.drop (j*L.size+L.size)++tl:=List.drop_append_of_le_length Zi;rw [a1,a2,<- List.append_assoc,List.take_append_of_le_length (by simp only [List.length_append,List.length_take,List.length_drop];omega),Zl (by simp only [List.length_append,List.length_take,List.length_drop];omega)]
  refine ⟨fz,_,hw.write (o':=.cells (cur.take (j*L.size)++cs++cur.drop (j*L.size+cs.length)).toArray t' (0,0)) rfl rfl rfl (by simp) ?_ (fun k hk=>?_),h _ ⟨⟨xs.set j (d,cs),?_,fun p hp=>?_,hnew⟩,by rw [List.length_set];exact hb.len,hcap,hb.max,?_⟩⟩
  ·simp [World.setRow,Array.getElem?_modify,hgb]
  ·simp only [World.setRow,Array.getElem?_modify];rw [if_neg Zi]
  ·rw [<- e1,List.map_set]
  ·rcases List.mem_or_eq_of_mem_set hp with hp | rfl
   ·exact e2 p hp
   exact hr
  simp only [List.length_append,List.length_take,List.length_drop];omega
end
end Go.Lx
namespace Go.Proofs.YtaaanbkahfeknaaGreatDoor
variable {α β:Type} {w':World} {g k i:Nat} {t:TypeId} {l:List α}
structure OrdC {α:Type} (C:α->α->Int):Prop where
 refl:∀ x,C x x=0
 anti:∀ x y,C x y<0↔0<C y x
 eq0:∀ x y,C x y=0->x=y
 trans:∀ x y z,C x y<0->C y z<0->C x z<0
theorem Yhx {a b:Bs} (h:a.toList=b.toList):a=b:=by
 rw [ByteArray.toList_eq,ByteArray.toList_eq] at h;have h1:a.data=a.data.toList.toArray:=by simp
 have h2:b.data=b.data.toList.toArray:=by simp
 exact ByteArray.ext (by rw [h1,h2,h])
theorem YaG (a b:Bs):ltB a b=true↔a.toList<b.toList:=by
 unfold ltB;rw [Go.Proofs.bytesLess_eq];exact decide_eq_true_iff
theorem ordS:OrdC cmpS where
 refl x:=by
  unfold cmpS;rw [if_neg (fun h=>List.lt_irrefl _ ((YaG x x).1 h)),if_pos rfl]
 anti x y:=by
  unfold cmpS;by_cases h1:ltB x y=true
  ·have h2:¬ltB y x=true:=fun h=>List.not_lt.2 (List.le_of_lt ((YaG _ _).1 h1)) ((YaG _ _).1 h)
   have h3:¬y=x:=fun e=>by subst e;exact h2 h1
   rw [if_pos h1,if_neg h2,if_neg h3];decide
  by_cases h2:ltB y x=true
  ·have h3:¬x=y:=fun e=>by subst e;exact h1 h2
   rw [if_neg h1,if_neg h3,if_pos h2];decide
  have h3:x=y:=Yhx (List.le_antisymm (List.not_lt.1 (fun h=>h2 ((YaG _ _).2 h))) (List.not_lt.1 (fun h=>h1 ((YaG _ _).2 h))));rw [if_neg h1,if_neg h2,if_pos h3,if_pos h3.symm];try decide
 eq0 x y h:=by
  unfold cmpS at h;split at h
  ·cases h
  split at h
  ·assumption
  cases h
 trans x y z h1 h2:=by
  have k:∀ a b,cmpS a b<0->ltB a b=true:=fun a b h=>by
   unfold cmpS at h;split at h
   ·assumption
   split at h
   ·exact absurd h Zh
   exact absurd h Zh
  unfold cmpS;rw [if_pos ((YaG _ _).2 (List.lt_trans ((YaG _ _).1 (k x y h1)) ((YaG _ _).1 (k y z h2))))];decide
theorem YfI:∀ x:List Bs,cmpL x x=0
 | []=>rfl
 | a::r=>by rw [cmpL,if_neg (by rw [ordS.refl];decide)];exact YfI r
theorem YfJ:∀ x y:List Bs,cmpL x y<0↔0<cmpL y x
 | [],[]=>by simp [cmpL]
 | [],_::_=>by simp [cmpL]
 | _::_,[]=>by simp [cmpL]
 | a::r,b::s=>by
  rw [cmpL,cmpL];by_cases h:cmpS a b=0
  ·have e:=ordS.eq0 a b h;subst e;rw [if_neg (by rw [h];decide),if_neg (by rw [h];decide)];exact YfJ r s
  have h2:cmpS b a≠0:=fun h2=>h (by rw [ordS.eq0 b a h2];exact ordS.refl a)
  rw [if_pos h,if_pos h2];exact ordS.anti a b
theorem Yhp:∀ x y:List Bs,cmpL x y=0->x=y
 | [],[],_=>rfl
 | [],_::_,h=>by simp [cmpL] at h
 | _::_,[],h=>by simp [cmpL] at h
 | a::r,b::s,h=>by
  rw [cmpL] at h;by_cases h0:cmpS a b=0
  ·rw [if_neg (by rw [h0];decide)] at h;rw [ordS.eq0 a b h0,Yhp r s h]
  rw [if_pos h0] at h;exact absurd h h0
theorem Yej:∀ x y z:List Bs,cmpL x y<0->cmpL y z<0->cmpL x z<0
 | [],_,[],h1,h2=>by
  rename_i y;cases y<;>simp [cmpL] at h1 h2
 | [],_,_::_,_,_=>by simp [cmpL]
 | _::_,[],_,h1,_=>by simp [cmpL] at h1
 | _::_,_::_,[],_,h2=>by simp [cmpL] at h2
 | a::r,b::s,c::t,h1,h2=>by
  rw [cmpL] at h1 h2 ⊢;by_cases e1:cmpS a b=0
  ·have:=ordS.eq0 a b e1;subst this;rw [if_neg (by rw [e1];decide)] at h1;by_cases e2:cmpS a c=0
   ·rw [if_neg (by rw [e2];decide)] at h2;rw [if_neg (by rw [e2];decide)];exact Yej r s t h1 h2
   rw [if_pos e2] at h2;rw [if_pos e2];exact h2
  rw [if_pos e1] at h1;by_cases e2:cmpS b c=0
  ·have:=ordS.eq0 b c e2;subst this;rw [if_pos e1];exact h1
  rw [if_pos e2] at h2;have h3:=ordS.trans a b c h1 h2;rw [if_pos Zi];exact h3
theorem ordA:OrdC cmpA where
 refl x:=by unfold cmpA;rw [if_neg (by rw [ordS.refl];decide)];exact YfI _
 anti x y:=by
  unfold cmpA;by_cases h:cmpS x.name y.name=0
  ·have h2:cmpS y.name x.name=0:=by rw [ordS.eq0 _ _ h];exact ordS.refl _
   rw [if_neg (by rw [h];decide),if_neg (by rw [h2];decide)];exact YfJ _ _
  have h2:cmpS y.name x.name≠0:=fun h2=>h (by rw [ordS.eq0 _ _ h2];exact ordS.refl _)
  rw [if_pos h,if_pos h2];exact ordS.anti _ _
 eq0 x y h:=by
  unfold cmpA at h;by_cases h0:cmpS x.name y.name=0
  ·rw [if_neg (by rw [h0];decide)] at h;have e1:=ordS.eq0 _ _ h0;have e2:=Yhp _ _ h;cases x;cases y;simp only at e1 e2;rw [e1,e2]
  rw [if_pos h0] at h;exact absurd h h0
 trans x y z h1 h2:=by
  unfold cmpA at h1 h2 ⊢;by_cases e1:cmpS x.name y.name=0
  ·rw [if_neg (by rw [e1];decide)] at h1;have e:=ordS.eq0 _ _ e1;rw [e];by_cases e2:cmpS y.name z.name=0
   ·rw [if_neg (by rw [e2];decide)] at h2;rw [if_neg (by rw [e2];decide)];exact Yej _ _ _ h1 h2
   rw [if_pos e2] at h2;rw [if_pos e2];exact h2
  rw [if_pos e1] at h1;by_cases e2:cmpS y.name z.name=0
  ·have e:=ordS.eq0 _ _ e2;rw [<- e,if_pos e1];exact h1
  rw [if_pos e2] at h2;have h3:=ordS.trans _ _ _ h1 h2;rw [if_pos Zi];exact h3
theorem OrdC.swo {C:α->α->Int} (h:OrdC C) (f:β->α):Go.Sort.SWO (ltOf fun x y=>C (f x) (f y)) where
 irrefl x:=by unfold ltOf;exact decide_eq_false (by show ¬C (f x) (f x)<0;rw [h.refl];decide)
 trans x y z h1 h2:=by
  unfold ltOf at h1 h2 ⊢;exact decide_eq_true (h.trans _ _ _ (Zt h1) (Zt h2))
 ntrans x y z h1 h2:=by
  unfold ltOf at h1 h2 ⊢;have k1:¬C (f x) (f y)<0:=Zf h1;have k2:¬C (f y) (f z)<0:=Zf h2;refine decide_eq_false fun k3=>?_
  have k3:C (f x) (f z)<0:=k3;have a1:=(h.anti (f x) (f z)).1 k3;by_cases e1:C (f x) (f y)=0
  ·rw [<- h.eq0 _ _ e1] at k2;exact k2 k3
  by_cases e2:C (f y) (f z)=0
  ·rw [h.eq0 _ _ e2] at k1;exact k1 k3
  have b1:C (f y) (f x)<0:=(h.anti _ _).2 Zi;have b2:C (f z) (f y)<0:=(h.anti _ _).2 Zi;have:=h.trans _ _ _ b2 b1;omega
@[reducible] def drT:Dr:=⟨True⟩
theorem YhZ {W:World} (h: @Fr drT [] W w'):∃ q os',w'=Go.Sort.grow (W.drewN q) os':=by
 refine ⟨w'.drawn - W.drawn,w'.heap.extract W.heap.size w'.heap.size,?_⟩;obtain ⟨h1,h2,h3,h4,h5,h6⟩:=h;obtain ⟨a1,a2,a3,a4,a5⟩:=w';obtain ⟨b1,b2,b3,b4,b5⟩:=W;replace h6:=h6 trivial;simp only at h1 h2 h3 h4 h5 h6;subst h1;subst h2;subst h3;unfold Go.Sort.grow World.drewN;simp only
 congr 1
 ·refine Array.ext_getElem? fun i=>?_
  by_cases hi:i<b1.size
  ·rw [Array.getElem?_append_left hi];exact h5 i hi (by simp)
  rw [Array.getElem?_append_right Zi];by_cases hj:i<a1.size
  ·rw [Array.getElem?_extract,if_pos Zi]
   congr 1;omega
  rw [Array.getElem?_eq_none Zi,Array.getElem?_eq_none (by simp;omega)]
 omega
theorem Ygi [Inhabited α] {enc:α->List Value} {w:World} {m b:Nat} {dk:Array α} {os:Array Obj} (hb:b<w.heap.size) (hg:b≠g):(sortWorldK enc k w g 0 m dk os).heap[b]?=w.heap[b]?:=by
 unfold sortWorldK Go.Sort.grow Go.Sort.putRowK Go.Sort.putRow Go.Sort.mapBlock Go.Sort.ahead;simp only;rw [Array.getElem?_append_left (by simpa using hb),Array.getElem?_modify,if_neg (fun h=>hg h.symm)]
def Yfl (l:List Atom):Prop:=∀ (i j:Nat) (a b:Atom),i<j->l[i]?=some a->l[j]?=some b->¬cmpA b a<0
theorem list_get! [Inhabited α] {x:α} (h:l[i]?=some x):l.toArray[i]! =x:=by
 obtain ⟨h1,h2⟩:=Zg h;rw [getElem!_pos l.toArray i (by simpa using h1)];simpa using h2
theorem YjN [Inhabited α] {x:α} (h:l[i]?=some x):l[i]! =x:=by
 obtain ⟨h1,h2⟩:=Zg h;rw [getElem!_pos l i h1];exact h2
theorem YhT:OneC atomL:=by
 intro fz d cs h u hu;obtain ⟨va,rfl,hR⟩:=YN h;obtain ⟨A,n,c,rfl,_⟩:=hR.args;rcases List.mem_cons.1 hu with rfl | hu
 ·rfl
 rw [List.mem_singleton] at hu;subst hu;rfl
theorem YiS [Inhabited α] {enc:α->List Value} {w:World} {m:Nat} {dk:Array α} {os:Array Obj} {cs:Array Value} (hg:w.heap[g]?=some (Zu cs t)):(sortWorldK enc k w g 0 m dk os).heap[g]?=some (Zu (Go.Sort.putCells id 0 (Go.Sort.flatK enc k dk) cs) t):=by
 unfold sortWorldK Go.Sort.grow Go.Sort.putRowK Go.Sort.putRow Go.Sort.mapBlock Go.Sort.ahead;simp only;rw [Array.getElem?_append_left (by simpa using lt_of_heap hg),Array.getElem?_modify,if_pos rfl,hg];rfl
end Go.Proofs.YtaaanbkahfeknaaGreatDoor
namespace Go.Proofs.YtaaanbkahfeknaaGreatDoor
variable {α:Type} {fz:FZ} {g n:Nat} {t:TypeId} {L:Lay α} {l:List α}
def Yfk {α:Type} (C:α->α->Int) (l:List α):Prop:=∀ (i j:Nat) (a b:α),i<j->l[i]?=some a->l[j]?=some b->¬C b a<0
theorem sortG {ρ:Go.Shelf.Ren} (Ly:Go.Proofs.SlLaysF0.n6 prog ρ) {f6:FuncId} (hf6:ρ.f 6=f6) (hca:XY prog f6) (hone:OneC L) {z:Nat} (hz:L.size=z) (hz0:0<z) (hag:∀ W,(isAgg (ρ.t 24)).run prog W=.ok true W) (hsi:∀ W,(Go.sizeOf (ρ.t 24)).run prog W=.ok z W)
 {C:α->α->Int} (hsw:∀ {β:Type} (f:β->α),Go.Sort.SWO (ltOf fun x y=>C (f x) (f y))) {fc:FuncId} (hen:∀ args w,(callFunc fc args).run prog w=.ok (.enter fc args) w)
 (hcf:∀ {fz:FZ} {a b:α} {ca cb:List Value},L.rep fz a ca->L.rep fz b cb->@GFn drT prog fc [.agg ca.toArray,.agg cb.toArray] fz [] (fun r fz' H'=>H'=[]/\r=Zk (C a b))) {cap:Nat} {cur:List Value} (hB:GrowB L t fz g n cap cur l) (hn:0<n) (hn2:n<=2000000):
 GFn prog f6 [Zv g n cap,.func (.func fc) #[] #[]] fz [(g,Zu cur.toArray t)]
  (fun r fz' H'=>r=.tuple #[]/\fz=fz'/\∃ cur' l',H'=[(g,Zu (List.toArray cur') t)]/\GrowB L t fz g n cap cur' l'/\l'.Perm l/\Yfk C l'):=by
 subst hf6;obtain ⟨xs,e1,e2,e3⟩:=hB.pairs;have hxl:xs.length=n:=by have:=hB.len;rw [<- e1,List.length_map] at this;exact this
 have hsz:=hB.size;have hcap:=hB.capn;rw [hz] at hsz e3;refine GFn.of hca (fun w hw=>?_);have hg:=hw.own (g,Zu cur.toArray t) (.head _);simp only at hg;have hgs:=lt_of_heap hg.1;obtain ⟨x0,hx0⟩:=Yq (l:=xs) (k:=0) Zi
 haveI:Inhabited {x:α × List Value // L.rep fz x.1 x.2}:=⟨⟨x0,e2 x0 (Zm hx0)⟩⟩
 generalize hds:(xs.attach.map fun p=>(⟨p.1,e2 p.1 p.2⟩:{x:α × List Value // L.rep fz x.1 x.2}))=ds;have hdm:ds.map (·.1)=xs:=by rw [<- hds,List.map_map];exact List.attach_map_subtype_val xs
 have hdl:ds.length=n:=by rw [<- hxl,<- hdm,List.length_map]
 have hk2:∀ x:{x:α × List Value // L.rep fz x.1 x.2},x.1.2.length=z:=fun x=>(L.len x.2).trans hz
 have h1c:∀ x:{x:α × List Value // L.rep fz x.1 x.2},∀ v∈x.1.2,v.oneCell'=true:=fun x v hv=>hone _ _ _ x.2 v hv
 have hpos:∀ (k:Nat) (cs:List Value) (ys:List {x:α × List Value // L.rep fz x.1 x.2}),True:=fun _ _ _=>trivial
 have hcell:∀ (ys:List {x:α × List Value // L.rep fz x.1 x.2}) (j:Nat),j<ys.length*z->∃ v,((ys.map (·.1)).flatMap Prod.snd)[j]?=some v/\(Go.Sort.flatK (fun x:{x:α × List Value // L.rep fz x.1 x.2}=>x.1.2) z ys.toArray)[j]! =v:=by
  intro ys j hj;obtain ⟨y,hy⟩:=Yq (l:=ys) (k:=j / z) ((Nat.div_lt_iff_lt_mul hz0).2 hj);obtain ⟨v,hv⟩:=Yq (l:=y.1.2) (k:=j % z) (by rw [hk2 y];exact Nat.mod_lt _ hz0);have hf:=YdF (z:=z) (l:=ys.map (·.1)) (i:=j / z) (j:=j % z) (x:=y.1) (u:=v) (fun p hp=>by
   obtain ⟨q,_,rfl⟩:=List.mem_map.1 hp;exact hk2 q) (by rw [List.getElem?_map,hy];rfl) hv
  rw [Nat.div_add_mod'] at hf;refine ⟨v,hf,?_⟩;rw [Go.Sort.get_flatK _ _ _ _ (by simpa using hj),list_get! hy];exact YjN hv
 have hcmp:CmpLays prog fc #[] (fun x:{x:α × List Value // L.rep fz x.1 x.2}=>x.1.2) z (fun x y=>C x.1.1 y.1.1) g 0 ds.toArray.size w:=by
  intro m os dk _ x y;have hD:=@GFn.out drT _ _ _ _ _ _ (hcf x.2 y.2) (sortWorldK (fun x:{x:α × List Value // L.rep fz x.1 x.2}=>x.1.2) z w g 0 m dk os) ⟨fun b o hbo=>by
   have h1:=hw.keep b o hbo;rw [Ygi (lt_of_heap h1) (fun e=>by subst e;rw [hg.2] at hbo;cases hbo)];exact h1,by simp,by simp⟩
  refine hD.mono fun e w' hh=>?_
  obtain ⟨v,fz',H',he,⟨_,rfl⟩,_,hfr,_⟩:=hh;exact ⟨he,YhZ hfr⟩
 have hH:Go.Sort.HoldsK (fun x:{x:α × List Value // L.rep fz x.1 x.2}=>x.1.2) z w g 0 ds.toArray:=by
  intro j hj;rw [Go.Sort.size_flatK] at hj;simp only [List.size_toArray] at hj;obtain ⟨v,h1,h2⟩:=hcell ds j hj;rw [hdm,<- e3] at h1;refine ⟨?_,?_⟩
  ·rw [h2];show w.cell? ⟨g,0+j,none⟩=some v;rw [List.getElem?_take_of_lt (by rw [<- hdl];exact hj)] at h1;simp [World.cell?,hg.1,h1]
  simp [World.frozen?,hg.1]
 have hcon:=AnyQ.slices_SortFunc Ly z hag hsi (fun x:{x:α × List Value // L.rep fz x.1 x.2}=>x.1.2) hk2 h1c (fun x y=>C x.1.1 y.1.1) (hsw (fun x:{x:α × List Value // L.rep fz x.1 x.2}=>x.1.1)) fc #[] g 0 cap ds.toArray w hen hcmp hH hgs (by simp;omega);simp only [List.size_toArray,hdl] at hcon;refine Calls.mono hcon fun e w' hh=>?_
 obtain ⟨he,d',m,os,hp,hs,rfl⟩:=hh;have hsd:d'.size=n:=by rw [hp.1];simp [hdl]
 obtain ⟨ys,rfl⟩:∃ ys:List {x:α × List Value // L.rep fz x.1 x.2},d'=ys.toArray:=⟨d'.toList,by simp⟩;simp only [List.size_toArray] at hsd;have hperm:ys.Perm ds:=by
  have h:=hp.2.2;rw [show (ys.toArray.extract 0 n)=ys.toArray from by rw [<- hsd];simp,show (ds.toArray.extract 0 n)=ds.toArray from by rw [<- hdl];simp] at h;simpa using h
 have hgw:=YiS (enc:=fun x:{x:α × List Value // L.rep fz x.1 x.2}=>x.1.2) (k:=z) (m:=m) (dk:=ys.toArray) (os:=os) hg.1;generalize hF:Go.Sort.flatK (fun x:{x:α × List Value // L.rep fz x.1 x.2}=>x.1.2) z ys.toArray=F at hgw;have hFs:F.size=n*z:=by rw [<- hF,Go.Sort.size_flatK];simp [hsd]
 have hFc:∀ j,j<n*z->∃ v,((ys.map (·.1)).flatMap Prod.snd)[j]?=some v/\F[j]! =v:=fun j hj=>by
  have:=hcell ys j (by rw [hsd];exact hj)
  rwa [hF] at this
 refine ⟨_,fz,[(g,Zu (List.toArray (Go.Sort.putCells id 0 F cur.toArray).toList) t)],he,⟨rfl,rfl,_,ys.map (·.1.1),rfl,⟨⟨ys.map (·.1),by rw [List.map_map];rfl,fun p hp=>?_,?_⟩,by rw [List.length_map];exact hsd,hcap,hB.max,?_⟩,?_,?_⟩,⟨fun b o hbo=>?_,fun p hp=>?_,by simp⟩,⟨rfl,rfl,rfl,?_,fun b hb hnb=>?_,fun h=>h.elim⟩,⟨fun _ _ h=>h,fun _ _ _=>rfl,fun p hp=>?_⟩⟩
 ·obtain ⟨q,_,rfl⟩:=List.mem_map.1 hp;exact q.2
 ·rw [hz];refine List.ext_getElem? fun j=>?_
  by_cases hj:j<n*z
  ·obtain ⟨v,h1,h2⟩:=hFc j hj;have hlt:j<cur.length:=by rw [hsz];exact Nat.lt_of_lt_of_le hj (Nat.mul_le_mul_right z hcap)
   rw [h1,List.getElem?_take_of_lt hj,Array.getElem?_toList];unfold Go.Sort.putCells;simp [hlt,hFs,hj];rw [<- h2];exact (getElem!_pos F j Zi).symm
  rw [List.getElem?_eq_none (by rw [List.length_take];omega),List.getElem?_eq_none];rw [WS (z:=z) (fun p hp=>by
   obtain ⟨q,_,rfl⟩:=List.mem_map.1 hp;exact hk2 q),List.length_map,hsd]
  omega
 ·unfold Go.Sort.putCells;simp [hsz,hz]
 ·have h1:=hperm.map (fun x:{x:α × List Value // L.rep fz x.1 x.2}=>x.1.1);have h2:ds.map (fun x:{x:α × List Value // L.rep fz x.1 x.2}=>x.1.1)=l:=by rw [<- e1,<- hdm,List.map_map];rfl
  rw [h2] at h1;exact h1
 ·intro i j a b hij ha hb;rw [List.getElem?_map] at ha hb;cases hya:ys[i]? with
  | none=>rw [hya] at ha;cases ha
  | some p=>
   cases hyb:ys[j]? with
   | none=>rw [hyb] at hb;cases hb
   | some q=>
    rw [hya] at ha;rw [hyb] at hb;injection ha with ha;injection hb with hb
    have h:=hs i j (Z0 _) hij (by have:=(Zg hyb).1;omega);rw [list_get! hya,list_get! hyb] at h;unfold ltOf at h;have h:=Zf h;rw [<- ha,<- hb];exact h
 ·have h1:=hw.keep b o hbo;rw [Ygi (lt_of_heap h1) (fun e=>by subst e;rw [hg.2] at hbo;cases hbo)];exact h1
 ·rw [List.mem_singleton] at hp;subst hp;exact ⟨by simpa using hgw,hg.2⟩
 ·unfold sortWorldK Go.Sort.grow Go.Sort.putRowK Go.Sort.putRow Go.Sort.mapBlock Go.Sort.ahead;simp
 ·exact Ygi hb (fun e=>hnb (by simp [e]))
 rw [List.mem_singleton] at hp;subst hp;exact .inl (by simp)
end Go.Proofs.YtaaanbkahfeknaaGreatDoor
namespace Go.Proofs.YtaaanbkahfeknaaGreatDoor
variable {a:Atom} {fz fz':FZ} {v:Value} {f:Formula}
theorem atom_eta {b:Atom} (h1:a.name=b.name) (h2:a.args=b.args):a=b:=by
 cases a;cases b;simp only at h1 h2;rw [h1,h2]
structure Wd where
 atoms:List Atom
 values:List Value_
def WdR (fz:FZ) (W:Wd) (v:Value):Prop:=∃ A n c B m d,v=.agg #[Zc A n c,Zc B m d]/\Sl atomL fz A n c W.atoms/\Sl valueL fz B m d W.values
variable {W:Wd}
theorem WdR.mono (h:WdR fz W v) (hle:Le fz fz'):WdR fz' W v:=by
 obtain ⟨A,n,c,B,m,d,e,h1,h2⟩:=h;exact ⟨A,n,c,B,m,d,e,h1.mono hle,h2.mono hle⟩
inductive VSh:Lx.Expr->Prop
 | mk {e:Lx.Expr} (h:e.op=kNumber\/e.op=kFluent\/2<=e.kids.length) (hk:∀ k∈e.kids,VSh k):VSh e
theorem VSh.two {e:Lx.Expr} (h:VSh e):e.op=kNumber\/e.op=kFluent\/2<=e.kids.length:=by cases h with | mk h _=>exact h
inductive ShN:Formula->Prop
 | mk {f:Formula} (h1:f.op=kSame->2<=f.args.length) (h2:f.op=kNot\/f.op=kForall\/f.op=kExists->f.kids≠ []) (h3:∀ k∈f.kids,ShN k):ShN f
theorem ShN.same (h:ShN f):f.op=kSame->2<=f.args.length:=by cases h with | mk h1 _ _=>exact h1
theorem ShN.head (h:ShN f):f.op=kNot\/f.op=kForall\/f.op=kExists->f.kids≠ []:=by cases h with | mk _ h2 _=>exact h2
end Go.Proofs.YtaaanbkahfeknaaGreatDoor
namespace Go.Proofs.YtaaanbkahfeknaaGreatDoor
variable {α:Type} {fz fz':FZ} {g j n c:Nat} {v:Value} {A:Option Addr} {L:Lay α} {l:List α}
theorem expr_one:OneC exprL:=by
 intro fz d cs h u hu;obtain ⟨va,vk,rfl,hR⟩:=Xe h;obtain ⟨⟨A,n,c,rfl,_⟩,⟨B,m,d,rfl,_⟩⟩:=hR.sls;simp at hu;rcases hu with rfl | rfl | rfl | rfl | rfl<;>rfl
theorem form_one:OneC formulaL:=by
 intro fz d cs h u hu;obtain ⟨va,vp,ve,vk,rfl,hR⟩:=YI h;obtain ⟨⟨A,n,c,rfl,_⟩,⟨B,m,d,rfl,_⟩,⟨C,q,e,rfl,_⟩,⟨D,o,f,rfl,_⟩⟩:=hR.sls;simp at hu;rcases hu with rfl | rfl | rfl | rfl | rfl | rfl<;>rfl
theorem YbQ {α:Type} {z:Nat}:∀ {xs:List (α × List Value)} {j:Nat} {p:α × List Value},(∀ p∈xs,p.2.length=z)->xs[j]?=some p->((xs.flatMap Prod.snd).drop (j*z)).take z=p.2
 | [],j,p,_,h=>by simp at h
 | x::r,0,p,h,hj=>by
  simp at hj;subst hj;have hx:=h x (by simp);rw [List.flatMap_cons,Nat.zero_mul,List.drop_zero,<- hx,List.take_left]
 | x::r,j+1,p,h,hj=>by
  have hx:=h x (by simp);have ih:=YbQ (xs:=r) (j:=j) (fun p hp=>h p (by simp [hp])) (by simpa using hj);have e:(j+1)*z=x.2.length+j*z:=by rw [Nat.succ_mul];omega
  rw [List.flatMap_cons,e,List.drop_append,List.drop_eq_nil_of_le Zi,List.nil_append,Nat.add_sub_cancel_left];exact ih
theorem Yl {e:Nat} {cap:Nat} {cur:List Value} (h:GrowB L e fz g n cap cur l) {d:α} (hj:l[j]?=some d):∃ cs,L.rep fz d cs/\(cur.drop (j*L.size)).take L.size=cs:=by
 obtain ⟨xs,h1,h2,h3⟩:=h.pairs;have hl:=h.len;have hjl:j<n:=by have:=(Zg hj).1;omega
 rw [<- h1,List.getElem?_map] at hj;cases hx:xs[j]? with
 | none=>rw [hx] at hj;cases hj
 | some p=>
  rw [hx] at hj;simp at hj;subst hj;refine ⟨p.2,h2 p (Zm hx),?_⟩;rw [<- YbQ (fun p hp=>L.len (h2 p hp)) hx,<- h3,List.drop_take,List.take_take];have:j*L.size+L.size<=n*L.size:=by rw [<- Nat.succ_mul];exact Nat.mul_le_mul_right _ hjl
  rw [Nat.min_eq_left Zi]
section
variable {P:Program} {cx:Cx} {r:Operand->Option Value} {fz:FZ} {H:HP} {dst:Option Nat} {ty:TypeId} {pos:String} {af:Array Edge} {gd:Option (Nat × Bool)} {V:Value->Prop}
variable {o:Oper}
theorem Does.perm {H':HP} {K:Value->FZ->HP->Prop} (hp:H'.Perm H) (h:Does P cx o r fz H' K):Does P cx o r fz H K:=Does.of fun ρ w hr hw=>h.run ρ w hr (hw.perm hp)
end
def ToE (fz:FZ) (v:Value):Prop:=v=.map none\/∃ g,v=.map (some g)/\fz g=some (mapS [])
theorem ToE.mono (h:ToE fz v) (hle:Le fz fz'):ToE fz' v:=h.imp id fun ⟨g,h1,h2⟩=>⟨g,h1,hle _ _ h2⟩
theorem YhP {l:List Lx.Expr} (h:Sl exprL fz A n c l) (hn:n<=1000000000):
 GFn prog 57 [Zc A n c] fz [] (fun v fz' H'=>Grow exprL 93 fz' v n H' l):=by
 have l1:=h.len;refine zF Tryz.func57 Tryz.ntmps57 (fun w0=>?_);refine zV ?_;intros;refine zG ?_;refine XU (fun eA=>?_) (fun eA=>?_)
 ·subst eA;have hl:l=[]:=by
   rcases h.elem with h0 | ⟨_,h0,_⟩
   ·exact List.eq_nil_of_length_eq_zero Zi
   cases h0
  subst hl;simp at l1;subst l1;refine zV ?_;intros;refine Ydj (H':=[]) (H2:=[]) rfl rfl (Zr _) (fun fz3 hle3 _=>Grow.nil _ _ _)
 refine zV ?_;intros;refine Yc (Wm (fun gb=>?_));refine zV ?_;intros;refine Yc (W8 T (Hr:=[]) (n:=0) (l:=[]) Zz Zz Zz Zz Zz Zz Zz Zz (Zr _) (Grow.block (ys:=[]) rfl rfl (by intro p hp;cases hp) rfl) expr_one h (by show _*88<=_;omega) Zi (fun v' Hs' hO'=>?_));obtain ⟨Av',cv',rfl,_,_⟩:=hO'.form;refine zV ?_;intros;refine Ydj (H':=Hs') (H2:=[]) rfl rfl (by simp) (fun fz3 hle3 _=>(hO'.mono hle3).of (by simp) Zi)
theorem cloneF_q {l:List Formula} (h:Sl formulaL fz A n c l) (hn:n<=1000000000):
 GFn prog 58 [Zc A n c] fz [] (fun v fz' H'=>Grow formulaL 35 fz' v n H' l):=by
 have l1:=h.len;refine zF Tryz.func58 Tryz.ntmps58 (fun w0=>?_);refine zV ?_;intros;refine zG ?_;refine XU (fun eA=>?_) (fun eA=>?_)
 ·subst eA;have hl:l=[]:=by
   rcases h.elem with h0 | ⟨_,h0,_⟩
   ·exact List.eq_nil_of_length_eq_zero Zi
   cases h0
  subst hl;simp at l1;subst l1;refine zV ?_;intros;refine Ydj (H':=[]) (H2:=[]) rfl rfl (Zr _) (fun fz3 hle3 _=>Grow.nil _ _ _)
 refine zV ?_;intros;refine Yc (Wm (fun gb=>?_));refine zV ?_;intros;refine Yc (W8 T (Hr:=[]) (n:=0) (l:=[]) Zz Zz Zz Zz Zz Zz Zz Zz (Zr _) (Grow.block (ys:=[]) rfl rfl (by intro p hp;cases hp) rfl) form_one h (by show _*128<=_;omega) Zi (fun v' Hs' hO'=>?_));obtain ⟨Av',cv',rfl,_,_⟩:=hO'.form;refine zV ?_;intros;refine Ydj (H':=Hs') (H2:=[]) rfl rfl (by simp) (fun fz3 hle3 _=>(hO'.mono hle3).of (by simp) Zi)
theorem YbF {α:Type}:∀ {l:List α} {k:Nat} {x:α},l[k]?=some x->l.set k x=l
 | [],k,x,h=>by simp at h
 | a::r,0,x,h=>by simp at h;subst h;rfl
 | a::r,k+1,x,h=>by rw [List.set_cons_succ,YbF (by simpa using h)]
def ExprV (fz:FZ) (e:Lx.Expr) (v:Value):Prop:=∃ wa wk,v=.agg #[Zy e.op,Zy e.name,Zk e.n,wa,wk]/\ExprR fz e wa wk
end Go.Proofs.YtaaanbkahfeknaaGreatDoor
namespace Go.Proofs.YtaaanbkahfeknaaGreatDoor
end Go.Proofs.YtaaanbkahfeknaaGreatDoor
namespace Go.Lx
open Go.RowKit
section
variable {P:Program} {cx:Cx} {r:Operand->Option Value} {fz:FZ} {H:HP} {V:Value->Prop} {dst:Option Nat} {ty:TypeId} {pos:String} {af:Array Edge} {gd:Option (Nat × Bool)}
variable {g j:Nat}
theorem addr_add {o:Nat}:(⟨g,o,none⟩:Addr).add j=⟨g,o+j,none⟩:=by unfold Addr.add;split<;>simp_all
theorem Ycu {t e:TypeId} {x i:Operand} {X Y:Ty} {g n c z:Nat} {j:Nat} (hz:Y.size=z)
 (h:V (.slice (some ⟨g,j*z,none⟩) (n - j) (c - j))) (T:Tab P:=by exact T) (hT:T.inf t=some X:=by exact rfl) (hd:X.desc=.slice e:=by exact rfl) (hY:T.inf e=some Y:=by exact rfl) (hx:r x=some (Zv g n c):=by exact rfl) (hi:r i=some (Zk j):=by exact rfl) (hj:j<=n:=by omega) (hc:j<c:=by omega):DoesQ P cx ⟨dst,.slice t x (some i) none none,ty,pos,af,gd⟩ r fz H V:=
  Yo (v:=Zc (some ⟨g,j*z,none⟩) (n - j) (c - j)) (fun ρ w hr=>by
   have hu:=run_underlying (und_plain T hT hd rfl) w;have hs:=Lx.run_sizeOf T hY w;have ha:(⟨g,0,none⟩:Addr).add (j*Y.size)=⟨g,j*z,none⟩:=by rw [hz,addr_add,Nat.zero_add]
   simp [execOp,hr _ _ hx,hr _ _ hi,Instr.sliceAt,Instr.slice,Instr.sliceBounds,Instr.sliceBound,asIntOf,hu,hs,hj,ha];omega) h
variable {A:Option Addr} {X Y:Ty} {c n:Nat} {e t:TypeId} {x:Operand}
theorem Yjl (T:Tab P) {i:Operand} (hT:T.inf t=some X) (hd:X.desc=.slice e) (hY:T.inf e=some Y)
 (hx:r x=some (.slice A n c)) (hi:r i=some (Zk j)) (hj:j<=c) (h:V (.slice A j c)):DoesQ P cx ⟨dst,.slice t x none (some i) none,ty,pos,af,gd⟩ r fz H V:=
 Yo (fun ρ w hr=>by
  have hu:=run_underlying (und_plain T hT hd rfl) w;have hs:=Lx.run_sizeOf T hY w;simp [execOp,hr _ _ hx,hr _ _ hi,Instr.sliceAt,Instr.slice,Instr.sliceBounds,Instr.sliceBound,asIntOf,hu,hs,hj];intro _;cases A<;>simp [Addr.add]) h
theorem Ya0 {t e:TypeId} {x i:Operand} {X Y:Ty} {g b n c z:Nat} {k:IntKind} {j:Int}
 (hs:Y.size=z) (h:V (.pointer (some ⟨g,(b+j.toNat)*z,none⟩))) (T:Tab P:=by exact T) (hT:T.inf t=some X:=by exact rfl) (hd:X.desc=.slice e:=by exact rfl) (hY:T.inf e=some Y:=by exact rfl) (hx:r x=some (.slice (some ⟨g,b*z,none⟩) n c):=by exact rfl) (hi:r i=some (.int k j):=by exact rfl) (h0:0<=j:=by omega) (hn:j<n:=by omega):DoesQ P cx ⟨dst,.indexAddr t x i,ty,pos,af,gd⟩ r fz H V:=by
  refine W6 T hT hd hY hx hi h0 hn ?_;rw [hs,addr_add,<- Nat.add_mul];exact h
variable {t':TypeId}
theorem k_clear (T:Tab P) {pre post:HP} {o z:Nat} {cur:List Value} {K:Value->FZ->HP->Prop} (hT:T.inf t=some X) (hd:X.desc=.slice e) (hY:T.inf e=some Y) (hz:Y.zero.cells.size=z) (h1:Y.zero.cells.toList.all (·.oneCell')=true) (hz0:0<z)
 (hx:r x=some (Zc (some ⟨g,o,none⟩) n c)) (hn:0<n) (hH:H=pre++(g,Zu cur.toArray t')::post) (hle:o+n*z<=cur.length)
 (h:∀ cur':List Value,cur'.length=cur.length->cur'.take o=cur.take o->K (.tuple #[]) fz (pre++(g,Zu cur'.toArray t')::post)):
 Does P cx ⟨dst,.call {callee:=.builtin .clear,args:=#[x],argTypes:=#[t]},ty,pos,af,gd⟩ r fz H K:=by
 refine Does.of fun ρ w hr hw=>?_
 subst hH;have hb:=(hw.hp.own (g,Zu cur.toArray t') (by simp)).1;obtain ⟨n,rfl⟩:∃ m,n=m+1:=⟨n - 1,by omega⟩;generalize hcs:(Builtin.zeroCells Y.zero.cells (n+1)).toList=cs;have hcl:cs.length=(n+1)*z:=by rw [<- hcs];simp [Builtin.zeroCells,hz]
 have hc1:∀ u∈cs,u.oneCell'=true:=by
  intro u hu;rw [<- hcs] at hu;simp only [Builtin.zeroCells,Array.toList_map,Array.toList_range,List.mem_map,List.mem_range] at hu;obtain ⟨i,hi,rfl⟩:=hu;have hlt:i % Y.zero.cells.size<Y.zero.cells.size:=Nat.mod_lt _ Zi;rw [getElem!_pos Y.zero.cells _ hlt];exact List.all_eq_true.1 h1 _ (Array.getElem_mem_toList hlt)
 have hst:=run_storeCells_at (P:=P) g o t' cs 0 cur.toArray w hb (by simp;omega) hc1;simp only [Nat.add_zero] at hst;have hu:=run_underlying (und_plain T hT hd rfl) w;have hze:=XJ T hY w;have hexec:(execOp ρ ⟨dst,.call {callee:=.builtin .clear,args:=#[x],argTypes:=#[t]},ty,pos,af,gd⟩).run P w=.ok (.value (.tuple #[])) (w.setRow g (cur.take o++cs++cur.drop (o+cs.length)).toArray):=by
  simp only [execOp,resolve,invoke,builtin,Sem.run_bind,Sem.run_pure,Result.andThen_ok,List.map_toArray,List.map_cons,List.map_nil,hr _ _ hx,Builtin.clear_];simp [hu,hze,hcs,hst]
 rw [hexec];refine ⟨fz,_,hw.write (o':=.cells (cur.take o++cs++cur.drop (o+cs.length)).toArray t' (0,0)) rfl rfl rfl (by simp) ?_ (fun k hk=>?_),h _ ?_ ?_⟩
 ·simp [World.setRow,Array.getElem?_modify,hb]
 ·simp only [World.setRow,Array.getElem?_modify];rw [if_neg Zi]
 ·simp;omega
 rw [List.append_assoc,List.take_append_of_le_length (by rw [List.length_take];omega),List.take_take,Nat.min_self]
end
end Go.Lx
namespace Go.Proofs.YtaaanbkahfeknaaGreatDoor
variable {i:Nat} {a:Atom} {fz:FZ}
def cpt (l:List Atom):Nat->List Atom
 | 0=>[]
 | i+1=>match l[i]? with
  | none=>cpt l i
  | some x=>if i≠0/\l[i - 1]?=some x then cpt l i else cpt l i++ [x]
theorem YhM {l:List Atom} {x:Atom} (h0:i≠0) (hx:l[i]?=some x) (hy:l[i - 1]?=some x):cpt l (i+1)=cpt l i:=by
 rw [cpt,hx];exact if_pos ⟨h0,hy⟩
theorem Yfa {l:List Atom} {x:Atom} (hx:l[i]?=some x) (h:i=0\/l[i - 1]?≠some x):cpt l (i+1)=cpt l i++ [x]:=by
 rw [cpt,hx];exact if_neg (fun hh=>h.elim hh.1 (fun h=>h hh.2))
theorem Yky (l:List Atom):∀ i,(cpt l i).length<=i
 | 0=>Zs _
 | i+1=>by
  have:=Yky l i;rw [cpt];split
  ·omega
  split
  ·omega
  rw [List.length_append];simp;omega
theorem YgP {l:List Atom} {a:Atom}:∀ i,a∈cpt l i↔a∈l.take i
 | 0=>by simp [cpt]
 | i+1=>by
  have ih:=YgP (l:=l) (a:=a) i;rw [cpt,List.take_add_one];split
  ·rename_i h;rw [h];simpa using ih
  rename_i x h;rw [h];split
  ·rename_i hc;rw [ih];constructor
   ·exact fun hh=>List.mem_append.2 (.inl hh)
   intro hh;rcases List.mem_append.1 hh with hh | hh
   ·exact hh
   simp at hh;subst hh;have:(l.take i)[i - 1]?=some a:=by rw [List.getElem?_take_of_lt Zi];exact hc.2
   exact Zm this
  simp [ih]
theorem Ykx (l:List Atom):∀ i,(cpt l i).Sublist (l.take i)
 | 0=>by simp [cpt]
 | i+1=>by
  have ih:=Ykx l i;rw [cpt,List.take_add_one];split
  ·rename_i h;rw [h];simpa using ih
  rename_i x h;rw [h];split
  ·exact ih.trans (List.sublist_append_left _ _)
  exact ih.append (List.Sublist.refl _)
def cptM (l:List Atom):List Atom:=cpt l l.length
theorem cptM_mem {l:List Atom}:a∈cptM l↔a∈l:=by unfold cptM;rw [YgP,List.take_length]
theorem Yiz {fv:Value}:QFn prog 71 [Zn,fv] fz Zn:=by
 refine qF Tryz.func71 Tryz.ntmps71 (fun w0=>?_);refine wC ?_ ?_<;>intro c1
 ·exact wR (h:=rfl)
 exact absurd c1 Zh
end Go.Proofs.YtaaanbkahfeknaaGreatDoor
namespace Go.Proofs.YtaaanbkahfeknaaGreatDoor
variable {α:Type} {fz fz':FZ} {g n k:Nat} {f:Formula} {v:Value} {E:EnvM} {m:List (Bs × Value)} {L:Lay α} {l:List α}
theorem _root_.Go.Lx.GrowB.cut {e:Nat} {m cap:Nat} {cur cur':List Value} {a b:List α} (h:GrowB L e fz g n cap cur (a++b)) (hm:a.length=m) (hl:cur'.length=cur.length) (ht:cur'.take (m*L.size)=cur.take (m*L.size)):GrowB L e fz g m cap cur' a:=by
 obtain ⟨xs,h1,h2,h3⟩:=h.pairs;obtain ⟨xs1,xs2,rfl,h4,h5⟩:=List.map_eq_append_iff.1 h1;have hn:=h.len;rw [List.length_append,hm] at hn;have hx:xs1.length=m:=by rw [<- hm,<- h4,List.length_map]
 have hmn:m*L.size<=n*L.size:=Nat.mul_le_mul_right _ Zi;have hf:(xs1.flatMap Prod.snd).length=m*L.size:=by rw [WS (fun p hp=>L.len (h2 p (List.mem_append.2 (.inl hp)))),hx]
 refine ⟨⟨xs1,h4,fun p hp=>h2 p (List.mem_append.2 (.inl hp)),?_⟩,hm,by have:=h.capn;omega,h.max,by rw [hl];exact h.size⟩;have e:(cur.take (n*L.size)).take (m*L.size)=xs1.flatMap Prod.snd:=by rw [h3,List.flatMap_append,List.take_left' hf]
 rw [List.take_take,Nat.min_eq_left hmn] at e;rw [ht,e]
def FormulaV (fz:FZ) (f:Formula) (v:Value):Prop:=∃ va vp ve vk,v=.agg #[Zy f.op,Zy f.name,va,vp,ve,vk]/\FormulaR fz f va vp ve vk
theorem FormulaV.mono (h:FormulaV fz f v) (hle:Le fz fz'):FormulaV fz' f v:=by
 obtain ⟨va,vp,ve,vk,h1,h2⟩:=h;exact ⟨va,vp,ve,vk,h1,h2.mono hle⟩
def cmpF (op:Bs) (a b:Lx.Expr):Formula:=.mk op ⟨#[]⟩ [] [] [a,b] []
def joinL (op:Bs) (ns:List Formula):List Formula:=ns.flatMap fun n=>if n.op=op then n.kids else [n]
def joinF (op:Bs) (ns:List Formula):Formula:=.mk op ⟨#[]⟩ [] [] [] (joinL op ns)
def zeroF:Formula:=.mk ⟨#[]⟩ ⟨#[]⟩ [] [] [] []
def zeroE:Lx.Expr:=.mk ⟨#[]⟩ ⟨#[]⟩ 0 [] []
def headN (l:List Formula):Formula:=l.headD zeroF
def secN (l:List Formula):Formula:=(l[1]?).getD zeroF
def exprAt (l:List Lx.Expr) (i:Nat):Lx.Expr:=(l[i]?).getD zeroE
def QuF (op:Bs):Prop:=op=kForall\/op=kExists
mutual
def normM:Bool->Formula->Formula
 | sg,.mk op name args params exprs kids=>
  if op=kNot then headN (normL (!sg) kids)
  else if op=kImply then joinF (if sg=true then kOr else kAnd) [headN (normL (!sg) kids),secN (normL sg kids)]
  else if op=kAnd then joinF (if sg=true then kAnd else kOr) (normL sg kids)
  else if op=kOr then joinF (if sg=true then kOr else kAnd) (normL sg kids)
  else if QuF op then .mk (if sg=true then op else if op=kForall then kExists else kForall) ⟨#[]⟩ [] params [] [headN (normL sg kids)]
  else if op=kLt then (if sg=true then cmpF kLt (exprAt exprs 0) (exprAt exprs 1) else cmpF kLe (exprAt exprs 1) (exprAt exprs 0))
  else if op=kLe then (if sg=true then cmpF kLe (exprAt exprs 0) (exprAt exprs 1) else cmpF kLt (exprAt exprs 1) (exprAt exprs 0))
  else if op=kEq then (if sg=true then cmpF kEq (exprAt exprs 0) (exprAt exprs 1) else .mk kOr ⟨#[]⟩ [] [] [] [cmpF kLt (exprAt exprs 0) (exprAt exprs 1),cmpF kLt (exprAt exprs 1) (exprAt exprs 0)])
  else if sg=true then .mk op name args params exprs kids
  else .mk kNot ⟨#[]⟩ [] [] [] [.mk op name args params exprs kids]
def normL:Bool->List Formula->List Formula
 | _,[]=>[]
 | sg,k::r=>normM sg k::normL sg r
end
inductive NSh:Formula->Prop
 | mk {f:Formula} (h1:f.op=kNot\/f.op=kForall\/f.op=kExists->f.kids≠ []) (h2:f.op=kImply->2<=f.kids.length) (h3:f.op=kLt\/f.op=kLe\/f.op=kEq->2<=f.exprs.length)
  (h4:f.op≠kOr->f.op≠kNot->fW f<=1000000000) (h5:∀ k∈f.kids,NSh k):NSh f
theorem NSh.head (h:NSh f):f.op=kNot\/f.op=kForall\/f.op=kExists->f.kids≠ []:=by cases h with | mk h1 _ _ _ _=>exact h1
theorem NSh.two (h:NSh f):f.op=kImply->2<=f.kids.length:=by cases h with | mk _ h1 _ _ _=>exact h1
theorem NSh.cmp (h:NSh f):f.op=kLt\/f.op=kLe\/f.op=kEq->2<=f.exprs.length:=by cases h with | mk _ _ h1 _ _=>exact h1
theorem NSh.w (h:NSh f):f.op≠kOr->f.op≠kNot->fW f<=1000000000:=by cases h with | mk _ _ _ h1 _=>exact h1
theorem FormulaV.open (h:FormulaV fz f v):∃ A n c B m d C o e D q g,v=.agg #[Zy f.op,Zy f.name,Zc A n c,Zc B m d,Zc C o e,Zc D q g]/\FormulaR fz f (Zc A n c) (Zc B m d) (Zc C o e) (Zc D q g):=by
 obtain ⟨va,vp,ve,vk,rfl,hR⟩:=h;obtain ⟨⟨A,n,c,rfl,_⟩,⟨B,m,d,rfl,_⟩,⟨C,o,e,rfl,_⟩,⟨D,q,g,rfl,_⟩⟩:=id hR.sls;exact ⟨A,n,c,B,m,d,C,o,e,D,q,g,rfl,hR⟩
section
variable {P:Program} {cx:Cx} {r:Operand->Option Value} {fz:FZ} {H:HP} {V:Value->Prop} {dst:Option Nat} {ty:TypeId} {pos:String} {af:Array Edge} {gd:Option (Nat × Bool)}
variable {o:Oper}
theorem Does.freeze {H1 H2:HP} {K:Value->FZ->HP->Prop} (hp:H.Perm (H1++H2)) (h:∀ fz',Le fz fz'->(∀ p∈H2,fz' p.1=some p.2)->Does P cx o r fz' H1 K):Does P cx o r fz H K:=
 Does.of fun ρ w hr hi=>by
  obtain ⟨fz',a,b,c⟩:=YX H2 fz H1 (hi.perm hp.symm);exact (h fz' a b).run ρ w hr c
end
def normV (f:Formula):Formula:=if FVal f then normM true f else zeroF
def andF (l:List Formula):Formula:=.mk kAnd ⟨#[]⟩ [] [] [] l
def normC (l:List Change):List Change:=(l.filter fun c=>decide (c.kind=1)).map fun c=>{c with when_:=normV c.when_}
def EnvP (E:EnvM):Prop:=∀ x y,E x=some y->PlnS y
theorem EnvP.set (h:EnvP E) {x a:Bs} (ha:PlnS a):EnvP (setE E x a):=by
 intro y z hz;unfold setE at hz;split at hz
 ·injection hz with hz;subst hz;exact ha
 exact h y z hz
inductive WSh:Formula->Prop
 | mk {f:Formula} (h1:f.op=kSame->2<=f.args.length) (h2:f.op=kNot\/QuF f.op->f.kids≠ []) (h3:f.op=kAtom\/f.op=kSame\/f.op=kNot\/f.op=kAnd\/f.op=kOr\/QuF f.op\/(2<=f.exprs.length/\∀ e∈f.exprs,VSh e)) (h6:∀ k∈f.kids,WSh k):WSh f
theorem WSh.same (h:WSh f):f.op=kSame->2<=f.args.length:=by cases h with | mk h1 _ _ _=>exact h1
theorem WSh.head (h:WSh f):f.op=kNot\/QuF f.op->f.kids≠ []:=by cases h with | mk _ h1 _ _=>exact h1
def Once {α:Type} (nm:α->Bs) (l:List α):Prop:=∀ (i j:Nat) (x y:α),i<j->l[i]?=some x->l[j]?=some y->nm x≠nm y
def MapH {α:Type} (nm:α->Bs) (V:α->Value->Prop) (m:List (Bs × Value)) (l:List α) (k:Nat):Prop:=∀ x,((∀ i y,i<k->l[i]?=some y->nm y≠x)->valS m x=none)/\∀ i y,i<k->l[i]?=some y->nm y=x->∃ v,valS m x=some v/\V y v
theorem MapH.zero {nm:α->Bs} {V:α->Value->Prop}:MapH nm V [] l 0:=fun x=>⟨fun _=>rfl,fun i y hi=>absurd hi Zi⟩
theorem MapH.add {nm:α->Bs} {V:α->Value->Prop} {y:α} (h:MapH nm V m l k) (ho:Once nm l) (hy:l[k]?=some y) (hv:V y v):MapH nm V (updS m (nm y) v) l (k+1):=fun x=>by
 constructor
 ·intro hn;have h1:nm y≠x:=hn k y Zi hy;rw [YbD,if_neg (fun e=>h1 e.symm)];exact (h x).1 (fun i z hi hz=>hn i z Zi hz)
 intro i z hi hz he;by_cases hik:i=k
 ·subst hik;rw [hy] at hz;injection hz with hz;subst hz
  exact ⟨v,by rw [YbD,if_pos he.symm],hv⟩
 have h2:=ho i k z y Zi hz hy;rw [YbD,if_neg (fun e=>h2 (by rw [he,e]))];exact (h x).2 i z Zi hz he
theorem MapH.mono {nm:α->Bs} {V V':α->Value->Prop} (h:MapH nm V m l k) (hV:∀ y v,V y v->V' y v):MapH nm V' m l k:=fun x=>⟨(h x).1,fun i y hi hy he=>by obtain ⟨v,h1,h2⟩:=(h x).2 i y hi hy he;exact ⟨v,h1,hV y v h2⟩⟩
end Go.Proofs.YtaaanbkahfeknaaGreatDoor
namespace Go.Lx
open Go.RowKit
variable {v:Value} {w':World} {fz:FZ}
def fzOf (w:World):FZ:=fun g=>w.heap[g]?
theorem cellF_of {w:World} {p:Addr} (h:w.cell? p=some v):Ybv (fzOf w) p=some v:=by
 unfold World.cell? at h;unfold Ybv fzOf;exact h
theorem hp_of (w:World):Hp (fzOf w) [] w:=⟨fun _ _ h=>h,by simp,by simp⟩
theorem below_of {w:World} (h:Fr [] w w'):Below w.heap.size w w':=⟨h.os,h.tape,h.output,h.size,fun k hk=>h.block k hk (by simp)⟩
theorem QFn.calls {P:Program} {f:FuncId} {args:List Value} (h:QFn P f args fz v) {w:World} (hw:Hp fz [] w):Calls P f args.toArray w fun e w'=>e=.returned v/\Fr [] w w':=by
 unfold QFn at h;exact h.2 w hw
end Go.Lx
namespace Go.Lx
open Go
end Go.Lx
namespace Go.Proofs.YtaaanbkahfeknaaGreatDoor
variable {fz fz':FZ} {f:Formula}
def MaxF (fz:FZ):Prop:=∃ m,Ybv fz ⟨0,0,none⟩=some (Zk m)
theorem MaxF.mono (hle:Le fz fz') (h:MaxF fz):MaxF fz':=by obtain ⟨m,hm⟩:=h;exact ⟨m,Yex hle hm⟩
def nilE:Lx.Expr:=.mk ⟨#[]⟩ ⟨#[]⟩ 0 [] []
def Num5 (k:Int):Prop:=k=3\/k=4\/k=5
def YdW (c:Change):Prop:=((c.kind=1\/c.kind=2)/\c.value=nilE)\/(Num5 c.kind/\EVal c.value)
inductive HSh:Formula->Prop
 | mk {f:Formula} (h1:f.op=kSame->2<=f.args.length) (h2:f.op=kNot\/QuF f.op->f.kids≠ []) (h3:f.op=kAtom->PlnS f.name/\f.args.length<=2000000/\∀ t∈f.args,PlnS t)
  (h4:f.op=kNot->∀ k∈f.kids,k.op=kAtom\/k.op=kSame) (h5:f.params.length<=2000000) (h6:∀ k∈f.kids,HSh k):HSh f
theorem HSh.same (h:HSh f):f.op=kSame->2<=f.args.length:=by cases h with | mk h1 _ _ _ _ _=>exact h1
theorem HSh.head (h:HSh f):f.op=kNot\/QuF f.op->f.kids≠ []:=by cases h with | mk _ h1 _ _ _ _=>exact h1
theorem HSh.atom (h:HSh f):f.op=kAtom->PlnS f.name/\f.args.length<=2000000/\∀ t∈f.args,PlnS t:=by cases h with | mk _ _ h1 _ _ _=>exact h1
theorem HSh.neg (h:HSh f):f.op=kNot->∀ k∈f.kids,k.op=kAtom\/k.op=kSame:=by cases h with | mk _ _ _ h1 _ _=>exact h1
end Go.Proofs.YtaaanbkahfeknaaGreatDoor
