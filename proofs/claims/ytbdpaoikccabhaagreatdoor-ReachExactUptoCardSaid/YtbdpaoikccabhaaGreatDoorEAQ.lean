/- The texts QSp, QN, PDag, PEag, QP, laid together. Conditions: none. -/
import Derived.Test.YtbdpaoikccabhaaGreatDoorEAP
set_option linter.all false
set_option maxHeartbeats 16000000
noncomputable section
set_option maxRecDepth 20000
open Go.Lx Go.RowKit
attribute [local instance 10] Classical.propDecidable
open Go.Proofs.Tryz (prog)
namespace Go.Proofs.YtbdpaoikccabhaaGreatDoor
variable {α:Type} {i g k n:Nat} {t:TypeId} {w:World} {fz:FZ} {E:EnvM} {K:Kn} {S:List Atom} {f:Formula} {b:Bool} {v va ve vk vp:Value} {l:List α}
theorem list_get! [Inhabited α] {x:α} (h:l[i]?=some x):l.toArray[i]! =x:=by
 obtain ⟨h1,h2⟩:=Zg h;rw [getElem!_pos l.toArray i (by simpa using h1)];simpa using h2
theorem Ykd [Inhabited α] {x:α} (h:l[i]?=some x):l[i]! =x:=by
 obtain ⟨h1,h2⟩:=Zg h;rw [getElem!_pos l i h1];exact h2
theorem YbK:OneC atomL:=by
 intro fz d cs h u hu;obtain ⟨va,rfl,hR⟩:=Xy h;obtain ⟨A,n,c,rfl,_⟩:=hR.args;rcases List.mem_cons.1 hu with rfl | hu
 ·rfl
 rw [List.mem_singleton] at hu;subst hu;rfl
theorem YjF [Inhabited α] {enc:α->List Value} {m:Nat} {dk:Array α} {os:Array Obj} {cs:Array Value} (hg:w.heap[g]?=some (Zu cs t)):(sortWorldK enc k w g 0 m dk os).heap[g]?=some (Zu (Go.Sort.putCells id 0 (Go.Sort.flatK enc k dk) cs) t):=by
 unfold sortWorldK Go.Sort.grow Go.Sort.putRowK Go.Sort.putRow Go.Sort.mapBlock Go.Sort.ahead;simp only;rw [Array.getElem?_append_left (by simpa using lt_of_heap hg),Array.getElem?_modify,if_pos rfl,hg];rfl
theorem sort_f {cap:Nat} {cur:List Value} {l:List Atom} (hB:GrowB atomL t fz g n cap cur l) (hn:0<n) (hn2:n<=2000000):
 GFn prog 40 [Zv g n cap,.func (.func 49) #[] #[]] fz [(g,Zu cur.toArray t)]
  (fun r fz' H'=>r=.tuple #[]/\fz=fz'/\∃ cur' l',H'=[(g,Zu (List.toArray cur') t)]/\GrowB atomL t fz g n cap cur' l'/\l'.Perm l/\Ydd l'):=by
 obtain ⟨xs,e1,e2,e3⟩:=hB.pairs;have hxl:xs.length=n:=by have:=hB.len;rw [<- e1,List.length_map] at this;exact this
 have hsz:=hB.size;have hcap:=hB.capn;have hz:atomL.size=2:=rfl;rw [hz] at hsz e3;refine GFn.of ⟨_,Tryz.func40,by decide,by decide⟩ (fun w hw=>?_);have hg:=hw.own (g,Zu cur.toArray t) (.head _);simp only at hg;have hgs:=lt_of_heap hg.1;obtain ⟨x0,hx0⟩:=Yf (l:=xs) (k:=0) Zi
 haveI:Inhabited {x:Atom × List Value // atomL.rep fz x.1 x.2}:=⟨⟨x0,e2 x0 (Zm hx0)⟩⟩
 generalize hds:(xs.attach.map fun p=>(⟨p.1,e2 p.1 p.2⟩:{x:Atom × List Value // atomL.rep fz x.1 x.2}))=ds;have hdm:ds.map (·.1)=xs:=by rw [<- hds,List.map_map];exact List.attach_map_subtype_val xs
 have hdl:ds.length=n:=by rw [<- hxl,<- hdm,List.length_map]
 have hk2:∀ x:{x:Atom × List Value // atomL.rep fz x.1 x.2},x.1.2.length=2:=fun x=>atomL.len x.2
 have h1c:∀ x:{x:Atom × List Value // atomL.rep fz x.1 x.2},∀ v∈x.1.2,v.oneCell'=true:=fun x v hv=>YbK _ _ _ x.2 v hv
 have hpos:∀ (k:Nat) (cs:List Value) (ys:List {x:Atom × List Value // atomL.rep fz x.1 x.2}),True:=fun _ _ _=>trivial
 have hcell:∀ (ys:List {x:Atom × List Value // atomL.rep fz x.1 x.2}) (j:Nat),j<ys.length*2->∃ v,((ys.map (·.1)).flatMap Prod.snd)[j]?=some v/\(Go.Sort.flatK (fun x:{x:Atom × List Value // atomL.rep fz x.1 x.2}=>x.1.2) 2 ys.toArray)[j]! =v:=by
  intro ys j hj;obtain ⟨y,hy⟩:=Yf (l:=ys) (k:=j / 2) Zi;obtain ⟨v,hv⟩:=Yf (l:=y.1.2) (k:=j % 2) (by rw [hk2 y];omega);have hf:=Yeo (z:=2) (l:=ys.map (·.1)) (i:=j / 2) (j:=j % 2) (x:=y.1) (u:=v) (fun p hp=>by
   obtain ⟨q,_,rfl⟩:=List.mem_map.1 hp;exact hk2 q) (by rw [List.getElem?_map,hy];rfl) hv
  rw [show j / 2*2+j % 2=j by omega] at hf;refine ⟨v,hf,?_⟩;rw [Go.Sort.get_flatK _ _ _ _ (by simpa using hj),list_get! hy];exact Ykd hv
 have hcmp:CmpLays prog 49 #[] (fun x:{x:Atom × List Value // atomL.rep fz x.1 x.2}=>x.1.2) 2 (fun x y=>cmpA x.1.1 y.1.1) g 0 ds.toArray.size w:=by
  intro m os dk _ x y;obtain ⟨⟨a,ca⟩,hx⟩:=x;obtain ⟨⟨b,cb⟩,hy⟩:=y;obtain ⟨va,hca,ha⟩:=Xy hx;obtain ⟨vb,hcb,hb⟩:=Xy hy;simp only at hca hcb ha hb;subst hca;subst hcb;have hD:=@GFn.out drT _ _ _ _ _ _ (@Yqf drT _ _ _ _ _ ha hb) (sortWorldK (fun x:{x:Atom × List Value // atomL.rep fz x.1 x.2}=>x.1.2) 2 w g 0 m dk os) ⟨fun b o hbo=>by
   have h1:=hw.keep b o hbo;rw [YeL (lt_of_heap h1) (fun e=>by subst e;rw [hg.2] at hbo;cases hbo)];exact h1,by simp,by simp⟩
  refine hD.mono fun e w' hh=>?_
  obtain ⟨v,fz',H',he,⟨_,rfl⟩,_,hfr,_⟩:=hh;exact ⟨he,Yhz hfr⟩
 have hH:Go.Sort.HoldsK (fun x:{x:Atom × List Value // atomL.rep fz x.1 x.2}=>x.1.2) 2 w g 0 ds.toArray:=by
  intro j hj;rw [Go.Sort.size_flatK] at hj;simp only [List.size_toArray] at hj;obtain ⟨v,h1,h2⟩:=hcell ds j hj;rw [hdm,<- e3] at h1;refine ⟨?_,?_⟩
  ·rw [h2];show w.cell? ⟨g,0+j,none⟩=some v;rw [List.getElem?_take_of_lt Zi] at h1;simp [World.cell?,hg.1,h1]
  simp [World.frozen?,hg.1]
 have hcon:=AnyQ.slices_SortFunc Ya9 2 (fun W=>(Go.Lx.run_isAgg T (t:=59) rfl W).trans rfl) (fun W=>(Go.Lx.run_sizeOf T (t:=59) rfl W).trans rfl)
  (fun x:{x:Atom × List Value // atomL.rep fz x.1 x.2}=>x.1.2) hk2 h1c (fun x y=>cmpA x.1.1 y.1.1) (ordA.swo (fun x:{x:Atom × List Value // atomL.rep fz x.1 x.2}=>x.1.1)) 49 #[] g 0 cap ds.toArray w
  (enters_of Tryz.func49 Zj rfl) hcmp hH hgs (by simp;omega)
 simp only [List.size_toArray,hdl] at hcon;refine Calls.mono hcon fun e w' hh=>?_
 obtain ⟨he,d',m,os,hp,hs,rfl⟩:=hh;have hsd:d'.size=n:=by rw [hp.1];simp [hdl]
 obtain ⟨ys,rfl⟩:∃ ys:List {x:Atom × List Value // atomL.rep fz x.1 x.2},d'=ys.toArray:=⟨d'.toList,by simp⟩;simp only [List.size_toArray] at hsd;have hperm:ys.Perm ds:=by
  have h:=hp.2.2;rw [show (ys.toArray.extract 0 n)=ys.toArray from by rw [<- hsd];simp,show (ds.toArray.extract 0 n)=ds.toArray from by rw [<- hdl];simp] at h;simpa using h
 have hgw:=YjF (enc:=fun x:{x:Atom × List Value // atomL.rep fz x.1 x.2}=>x.1.2) (k:=2) (m:=m) (dk:=ys.toArray) (os:=os) hg.1;generalize hF:Go.Sort.flatK (fun x:{x:Atom × List Value // atomL.rep fz x.1 x.2}=>x.1.2) 2 ys.toArray=F at hgw;have hFs:F.size=n*2:=by rw [<- hF,Go.Sort.size_flatK];simp [hsd]
 have hFc:∀ j,j<n*2->∃ v,((ys.map (·.1)).flatMap Prod.snd)[j]?=some v/\F[j]! =v:=fun j hj=>by
  have:=hcell ys j Zi
  rwa [hF] at this
 refine ⟨_,fz,[(g,Zu (List.toArray (Go.Sort.putCells id 0 F cur.toArray).toList) t)],he,⟨rfl,rfl,_,ys.map (·.1.1),rfl,⟨⟨ys.map (·.1),by rw [List.map_map];rfl,fun p hp=>?_,?_⟩,by rw [List.length_map];exact hsd,hcap,hB.max,?_⟩,?_,?_⟩,⟨fun b o hbo=>?_,fun p hp=>?_,by simp⟩,⟨rfl,rfl,rfl,?_,fun b hb hnb=>?_,fun h=>h.elim⟩,⟨fun _ _ h=>h,fun _ _ _=>rfl,fun p hp=>?_⟩⟩
 ·obtain ⟨q,_,rfl⟩:=List.mem_map.1 hp;exact q.2
 ·rw [hz];refine List.ext_getElem? fun j=>?_
  by_cases hj:j<n*2
  ·obtain ⟨v,h1,h2⟩:=hFc j hj;have hlt:j<cur.length:=by omega
   rw [h1,List.getElem?_take_of_lt hj,Array.getElem?_toList];unfold Go.Sort.putCells;simp [hlt,hFs,hj];rw [<- h2];exact (getElem!_pos F j Zi).symm
  rw [List.getElem?_eq_none (by rw [List.length_take];omega),List.getElem?_eq_none];rw [YaQ (z:=2) (fun p hp=>by
   obtain ⟨q,_,rfl⟩:=List.mem_map.1 hp;exact hk2 q),List.length_map,hsd]
  omega
 ·unfold Go.Sort.putCells;simp [hsz,hz]
 ·have h1:=hperm.map (fun x:{x:Atom × List Value // atomL.rep fz x.1 x.2}=>x.1.1);have h2:ds.map (fun x:{x:Atom × List Value // atomL.rep fz x.1 x.2}=>x.1.1)=l:=by rw [<- e1,<- hdm,List.map_map];rfl
  rw [h2] at h1;exact h1
 ·intro i j a b hij ha hb;rw [List.getElem?_map] at ha hb;cases hya:ys[i]? with
  | none=>rw [hya] at ha;cases ha
  | some p=>
   cases hyb:ys[j]? with
   | none=>rw [hyb] at hb;cases hb
   | some q=>
    rw [hya] at ha;rw [hyb] at hb;injection ha with ha;injection hb with hb
    have h:=hs i j (Z0 _) hij (by have:=(Zg hyb).1;omega);rw [list_get! hya,list_get! hyb] at h;unfold ltOf at h;have h:=Zf h;rw [<- ha,<- hb];exact h
 ·have h1:=hw.keep b o hbo;rw [YeL (lt_of_heap h1) (fun e=>by subst e;rw [hg.2] at hbo;cases hbo)];exact h1
 ·rw [List.mem_singleton] at hp;subst hp;exact ⟨by simpa using hgw,hg.2⟩
 ·unfold sortWorldK Go.Sort.grow Go.Sort.putRowK Go.Sort.putRow Go.Sort.mapBlock Go.Sort.ahead;simp
 ·exact YeL hb (fun e=>hnb (by simp [e]))
 rw [List.mem_singleton] at hp;subst hp;exact .inl (by simp)
mutual
def holdsM (K:Kn) (S:List Atom):EnvM->Formula->Bool
 | E,.mk op name args params _ kids=>
  if op=kAtom then decide (bndA E name args∈S)
  else if op=kSame then decide (valE E ((args[0]?).getD ⟨#[]⟩)=valE E ((args[1]?).getD ⟨#[]⟩))
  else if op=kNot then notH K S E kids
  else if op=kAnd then allH K S E kids
  else if op=kOr then anyH K S E kids
  else if QuF op then quantV K (decide (op=kForall)) (fun E'=>headH K S E' kids) params E
  else true
def notH (K:Kn) (S:List Atom):EnvM->List Formula->Bool
 | _,[]=>true
 | E,g::_=>if g.op=kSame then !holdsM K S E g else K.chg g.name || !decide (bndA E g.name g.args∈K.init)
def allH (K:Kn) (S:List Atom):EnvM->List Formula->Bool
 | _,[]=>true
 | E,g::r=>holdsM K S E g && allH K S E r
def anyH (K:Kn) (S:List Atom):EnvM->List Formula->Bool
 | _,[]=>false
 | E,g::r=>holdsM K S E g || anyH K S E r
def headH (K:Kn) (S:List Atom):EnvM->List Formula->Bool
 | _,[]=>true
 | E,g::_=>holdsM K S E g
end
theorem YS (f:Formula):holdsM K S E f=
 if f.op=kAtom then decide (bndA E f.name f.args∈S)
 else if f.op=kSame then decide (valE E ((f.args[0]?).getD ⟨#[]⟩)=valE E ((f.args[1]?).getD ⟨#[]⟩))
 else if f.op=kNot then notH K S E f.kids
 else if f.op=kAnd then allH K S E f.kids
 else if f.op=kOr then anyH K S E f.kids
 else if QuF f.op then quantV K (decide (f.op=kForall)) (fun E'=>headH K S E' f.kids) f.params E
 else true:=by cases f;rw [holdsM];rfl
theorem Yhg {K:Kn} {S:List Atom} {E:EnvM}:∀ l:List Formula,allH K S E l=!decide (∃ g∈l,¬holdsM K S E g=true)
 | []=>by rw [allH];simp
 | g::r=>by
  rw [allH,Yhg r];cases h:holdsM K S E g<;>simp [h]
theorem Yhf {K:Kn} {S:List Atom} {E:EnvM}:∀ l:List Formula,anyH K S E l=decide (∃ g∈l,holdsM K S E g=true)
 | []=>by rw [anyH];simp
 | g::r=>by
  rw [anyH,Yhf r];cases h:holdsM K S E g<;>simp [h]
inductive HSh:Formula->Prop
 | mk {f:Formula} (h1:f.op=kSame->2<=f.args.length) (h2:f.op=kNot\/QuF f.op->f.kids≠ []) (h3:f.op=kAtom->PlnS f.name/\f.args.length<=2000000/\∀ t∈f.args,PlnS t)
  (h4:f.op=kNot->∀ k∈f.kids,k.op=kAtom\/k.op=kSame) (h5:f.params.length<=2000000) (h6:∀ k∈f.kids,HSh k):HSh f
theorem HSh.same (h:HSh f):f.op=kSame->2<=f.args.length:=by cases h with | mk h1 _ _ _ _ _=>exact h1
theorem HSh.head (h:HSh f):f.op=kNot\/QuF f.op->f.kids≠ []:=by cases h with | mk _ h1 _ _ _ _=>exact h1
theorem HSh.atom (h:HSh f):f.op=kAtom->PlnS f.name/\f.args.length<=2000000/\∀ t∈f.args,PlnS t:=by cases h with | mk _ _ h1 _ _ _=>exact h1
theorem HSh.neg (h:HSh f):f.op=kNot->∀ k∈f.kids,k.op=kAtom\/k.op=kSame:=by cases h with | mk _ _ _ h1 _ _=>exact h1
theorem HSh.pars (h:HSh f):f.params.length<=2000000:=by cases h with | mk _ _ _ _ h1 _=>exact h1
theorem HSh.kid {k:Formula} (h:HSh f) (hk:k∈f.kids):HSh k:=by cases h with | mk _ _ _ _ _ h1=>exact h1 k hk
theorem valE_pln (hE:EnvP E) {t:Bs} (ht:PlnS t):PlnS (valE E t):=by
 unfold valE;cases h:E t with
 | none=>exact ht
 | some y=>exact hE t y h
theorem Yqq (hE:EnvP E) {name:Bs} {args:List Bs} (h:PlnS name/\args.length<=2000000/\∀ t∈args,PlnS t):AtmOk (bndA E name args):=by
 refine ⟨h.1,by show (args.map (valE E)).length<=_;rw [List.length_map];exact h.2.1,fun s hs=>?_⟩;obtain ⟨t,ht,rfl⟩:=List.mem_map.1 hs;exact valE_pln hE (h.2.2 t ht)
theorem holds1_q {vs vat:Value} {g4 g5 g7:Nat} {t4 t5 t7:TypeId} (hR:FormulaR fz f va vp ve vk) (hv:v.oneCell'=true) (h4:fz g4=some (.cells #[v] t4 (0,0))) (h5:fz g5=some (.cells #[vs] t5 (0,0))) (h7:fz g7=some (.cells #[vat] t7 (0,0)))
 (hh:QFn prog 91 [v,vs,.agg #[Zy f.op,Zy f.name,va,vp,ve,vk],vat] fz (Zo b)):
 QFn prog 180 [.agg #[Zy f.op,Zy f.name,va,vp,ve,vk],Zp g4,Zp g5,Zp g7] fz (Zo (!b)):=by
 obtain ⟨⟨B1,m1,d1,rfl,ia⟩,⟨B2,m2,d2,rfl,ip⟩,⟨B3,m3,d3,rfl,ie⟩,⟨B4,m4,d4,rfl,ik⟩⟩:=hR.sls;refine qF Tryz.func180 Tryz.ntmps180 (fun w0=>?_);refine pX (fun g9=>?_);refine wc hh ?_;exact wR (h:=rfl)
theorem holds2_q {vs vat:Value} {g4 g5 g7:Nat} {t4 t5 t7:TypeId} (hR:FormulaR fz f va vp ve vk) (hv:v.oneCell'=true) (h4:fz g4=some (.cells #[v] t4 (0,0))) (h5:fz g5=some (.cells #[vs] t5 (0,0))) (h7:fz g7=some (.cells #[vat] t7 (0,0)))
 (hh:QFn prog 91 [v,vs,.agg #[Zy f.op,Zy f.name,va,vp,ve,vk],vat] fz (Zo b)):
 QFn prog 181 [.agg #[Zy f.op,Zy f.name,va,vp,ve,vk],Zp g4,Zp g5,Zp g7] fz (Zo b):=by
 obtain ⟨⟨B1,m1,d1,rfl,ia⟩,⟨B2,m2,d2,rfl,ip⟩,⟨B3,m3,d3,rfl,ie⟩,⟨B4,m4,d4,rfl,ik⟩⟩:=hR.sls;refine qF Tryz.func181 Tryz.ntmps181 (fun w0=>?_);refine pX (fun g9=>?_);refine wc hh ?_;exact wR (h:=rfl)
end Go.Proofs.YtbdpaoikccabhaaGreatDoor
namespace Go.Lx
open Go.RowKit
variable {H:HP} {fz:FZ} {i j k:Nat} {o:Oper}
section
variable {P:Program} {cx:Cx} {σ:Env} {fz:FZ} {H:HP} {Q:QQ}
def inI (l:List Nat) (i:Nat):Bool:=l.any fun j=>Nat.beq j i
variable {o:Oper}
theorem rdc_sub {ops:List Oper} {ve cv cv':Env} (hx:Sub cv' cv) (h2:∀ j,lk cv j≠none->lk ve j=none):∀ x v,rdc ops o σ ve cv' x=some v->rdc ops o σ ve cv x=some v:=by
 intro x v h;cases x with
 | tmp t=>
  unfold rdc at h ⊢;cases hw:YcO ops t 0 with
  | none=>simp only [hw] at h ⊢;exact h
  | some j=>
   simp only [hw] at h ⊢;cases hq:waits o j with
   | false=>simp only [hq] at h ⊢;exact h
   | true=>
    simp only [hq] at h ⊢;cases h1:lk cv' j with
    | some u=>
     simp only [h1] at h;have:=hx.lk_ j u h1;simp only [this];exact h
    | none=>
     simp only [h1] at h;cases h3:lk cv j with
     | none=>exact h
     | some u=>have:=h2 j (by rw [h3];simp);rw [this] at h;cases h
 | const c=>exact h
 | func f=>exact h
 | global g=>exact h
theorem Does.cv {ops:List Oper} {ve cv cv':Env} {K:Value->FZ->HP->Prop} (hx:Sub cv' cv) (h2:∀ j,lk cv j≠none->lk ve j=none) (h:Does P cx o (rdc ops o σ ve cv') fz H K):Does P cx o (rdc ops o σ ve cv) fz H K:=
 Does.of fun ρ w hr hi=>h.run ρ w (fun x v hv=>hr x v (rdc_sub hx h2 x v hv)) hi
theorem Does.post {r:Operand->Option Value} {K:Value->FZ->HP->Prop} (h:Does P cx o r fz H fun v fz' H'=>∃ H1 H2,H'.Perm (H1++H2)/\∀ fz2,Le fz' fz2->(∀ p∈H2,fz2 p.1=some p.2)->K v fz2 H1):Does P cx o r fz H K:=
 Does.of fun ρ w hr hi=>(h.run ρ w hr hi).mono fun v w' hh=>by
  obtain ⟨fz',H',h1,H1,H2,hp,h2⟩:=hh;obtain ⟨fz2,h3,h4,h5⟩:=We H2 fz' H1 (h1.perm hp.symm);exact ⟨fz2,H1,h5,h2 fz2 h3 h4⟩
variable {i:Nat} {v:Value}
theorem YiU {ve cv:Env} (h:lk ve i=none) (h2:∀ j,lk cv j≠none->lk ve j=none):∀ j,lk ((i,v)::cv) j≠none->lk ve j=none:=fun j hj=>by
 by_cases he:i=j
 ·rw [<- he];exact h
 rw [YP v cv he] at hj;exact h2 j hj
theorem rdc_ext {ops:List Oper} {ve cv cv':Env} (hx:VExt cv' cv) (h2:∀ j,lk cv j≠none->lk ve j=none):∀ x v,rdc ops o σ ve cv' x=some v->rdc ops o σ ve cv x=some v:=by
 intro x v h;cases x with
 | tmp t=>
  unfold rdc at h ⊢;cases hw:YcO ops t 0 with
  | none=>simp only [hw] at h ⊢;exact h
  | some j=>
   simp only [hw] at h ⊢;cases hq:waits o j with
   | false=>simp only [hq] at h ⊢;exact h
   | true=>
    simp only [hq] at h ⊢;cases h1:lk cv' j with
    | some u=>
     simp only [h1] at h;have:=hx j u h1;simp only [this];exact h
    | none=>
     simp only [h1] at h;cases h3:lk cv j with
     | none=>exact h
     | some u=>have:=h2 j (by rw [h3];simp);rw [this] at h;cases h
 | const c=>exact h
 | func f=>exact h
 | global g=>exact h
variable {b:Bool}
theorem Yjz {ve cv cv':Env} (hx:VExt cv' cv) (h2:∀ j,lk cv j≠none->lk ve j=none) (h:YbY o ve cv'=some b):YbY o ve cv=some b:=by
 unfold YbY at h ⊢;split
 ·rename_i hg;simp only [hg] at h;exact h
 rename_i j c hg;simp only [hg] at h;cases hw:waits o j with
 | false=>simp only [hw] at h;cases h
 | true=>
  simp only [hw] at h ⊢;cases h1:lk cv' j with
  | some u=>
   simp only [h1] at h;have:=hx j u h1;simp only [this];exact h
  | none=>
   simp only [h1] at h;cases h3:lk cv j with
   | none=>simp only;exact h
   | some u=>have:=h2 j (by rw [h3];simp);simp only [this] at h;cases h
theorem Po.ext {ops:List Oper} {pu:List Nat} {ve:Env} {fz0:FZ} {Hq:HP} {all:List (Nat × Oper)}:∀ (m:Nat) {rest:List (Nat × Oper)} {dn:Bool} {cv cv' τ:Env} {fz:FZ} {H:HP},VExt cv' cv->(∀ j,lk cv j≠none->lk ve j=none)->(∀ p∈rest,lk ve p.1=none)->
 Po P cx ops pu σ ve fz0 Hq Q all m rest dn cv' τ fz H->Po P cx ops pu σ ve fz0 Hq Q all m rest dn cv τ fz H
 | 0,rest,dn,cv,cv',τ,fz,H,_,_,_,h=>by unfold Po at h ⊢;exact h
 | m+1,rest,dn,cv,cv',τ,fz,H,hx,h2,hr,h=>by
  unfold Po at h ⊢;intro p hp hf;have hx2:∀ u,VExt ((p.1,u)::cv') ((p.1,u)::cv):=fun u j w hj=>by
   by_cases he:p.1=j
   ·subst he;rw [Y2] at hj ⊢;exact hj
   rw [YP u _ he] at hj ⊢;exact hx j w hj
  have hr2:∀ q∈rest.filter fun q=>!Nat.beq q.1 p.1,lk ve q.1=none:=fun q hq=>hr q (List.mem_filter.1 hq).1
  rcases h p hp hf with ⟨hw,hd⟩ | ⟨hw,hn⟩
  ·exact .inl ⟨Yjz hx h2 hw,Does.of fun ρ w hrd hi=>(hd.run ρ w (fun x v hv=>hrd x v (rdc_ext hx h2 x v hv)) hi).mono fun v w' ⟨fz',H',h3,h4,h5⟩=>⟨fz',H',h3,h4,Po.ext m (hx2 v) (YiU (hr p hp) h2) hr2 h5⟩⟩
  exact .inr ⟨Yjz hx h2 hw,Po.ext m (hx2 undef) (YiU (hr p hp) h2) hr2 hn⟩
theorem Po.cv {ops:List Oper} {pu:List Nat} {ve:Env} {fz0:FZ} {Hq:HP} {all:List (Nat × Oper)} {m:Nat} {rest:List (Nat × Oper)} {dn:Bool} {cv τ:Env} (cv':Env) (hx:Sub cv' cv) (h2:∀ j,lk cv j≠none->lk ve j=none) (hr:(rest.all fun p=>(lk ve p.1).isNone)=true)
 (h:Po P cx ops pu σ ve fz0 Hq Q all m rest dn cv' τ fz H):Po P cx ops pu σ ve fz0 Hq Q all m rest dn cv τ fz H:=
 Po.ext m (fun j v hj=>hx.lk_ j v hj) h2 (fun p hp=>by
  have:=List.all_eq_true.1 hr p hp;cases h0:lk ve p.1 with
  | none=>rfl
  | some u=>rw [h0] at this;cases this) h
def upB (A B:List (Nat × Oper)) (t M:Nat):Bool:=
 (A.all fun a=>Nat.blt a.1 M && (Nat.beq a.1 t || A.any fun b=>Nat.blt a.1 b.1 && waits b.2 a.1)) && (B.all fun b=>waits b.2 t || B.any fun c=>waits b.2 c.1)
def DagOps (P:Program) (cx:Cx) (ops:List Oper) (σ ve:Env) (fz:FZ) (H:HP) (idx:List Nat) (V:Nat->Value->FZ->Prop) (A:List (Nat × Oper)):Prop:=
 ∀ p∈A,∀ cv fz1,Le fz fz1->(∀ j,lk cv j≠none->lk ve j=none)->(∀ j,waits p.2 j=true->inI idx j=true->∃ v,lk cv j=some v/\V j v fz1)->
  YbY p.2 ve cv=some true/\Does P cx p.2 (rdc ops p.2 σ ve cv) fz1 H fun v fz' H'=>H'=H/\Le fz1 fz'/\V p.1 v fz'
theorem DagOps.nil {ops:List Oper} {ve:Env} {idx:List Nat} {V:Nat->Value->FZ->Prop} {A:List (Nat × Oper)} (hA:A=[]):DagOps P cx ops σ ve fz H idx V A:=by
 subst hA;intro p hp;cases hp
theorem DagOps.step {ops:List Oper} {ve:Env} {idx:List Nat} {V:Nat->Value->FZ->Prop} {A r:List (Nat × Oper)} {d:Nat} {op:Op} {ty:TypeId} {pos:String} {af:Array Edge}
 (h:∀ cv fz1,Le fz fz1->(∀ j,lk cv j≠none->lk ve j=none)->(∀ j,waits ⟨some d,op,ty,pos,af,none⟩ j=true->inI idx j=true->∃ v,lk cv j=some v/\V j v fz1)->
  Does P cx ⟨some d,op,ty,pos,af,none⟩ (rdc ops ⟨some d,op,ty,pos,af,none⟩ σ ve cv) fz1 H fun v fz' H'=>H'=H/\Le fz1 fz'/\V i v fz') (hr:DagOps P cx ops σ ve fz H idx V r) (hA:A=(i,⟨some d,op,ty,pos,af,none⟩)::r:=by exact rfl):DagOps P cx ops σ ve fz H idx V A:=by
 subst hA;intro p hp cv fz1 hle h2 hd;rcases List.mem_cons.1 hp with rfl | hp
 ·exact ⟨rfl,h cv fz1 hle h2 hd⟩
 exact hr p hp cv fz1 hle h2 hd
theorem WI {l:List (Nat × Oper)}:inCh l i=true↔∃ p∈l,p.1=i:=by
 unfold inCh;rw [List.any_eq_true];exact ⟨fun ⟨p,hp,h⟩=>⟨p,hp,Nat.eq_of_beq_eq_true h⟩,fun ⟨p,hp,h⟩=>⟨p,hp,by rw [h,Nat.beq_refl]⟩⟩
theorem Yj7 {l:List (Nat × Oper)}:Yar l=true->∀ {p q},p∈l->q∈l->p.1=q.1->p=q:=by
 induction l with
 | nil=>intro _ p q hp;cases hp
 | cons x r ih=>
  intro hn p q hp hq he;simp only [Yar,Bool.and_eq_true] at hn;rcases List.mem_cons.1 hp with rfl | hp'
  ·rcases List.mem_cons.1 hq with rfl | hq'
   ·rfl
   exact absurd he.symm (YfE (List.all_eq_true.1 hn.1 q hq'))
  rcases List.mem_cons.1 hq with rfl | hq'
  ·exact absurd he (YfE (List.all_eq_true.1 hn.1 p hp'))
  exact ih hn.2 hp' hq' he
theorem Po.dag (idx:List Nat) (t M:Nat) (V:Nat->Value->FZ->Prop) {ops:List Oper} {pu:List Nat} {ve τ:Env} {fz0:FZ} {Hq:HP} {all all0 A B:List (Nat × Oper)} {dn0:Bool} (hA:all0.filter (fun q=>inI idx q.1)=A) (hB:all0.filter (fun q=>!inI idx q.1)=B)
 (hnd:Yar all0=true) (hup:upB A B t M=true) (hve:(A.all fun a=>(lk ve a.1).isNone)=true) (hidx:(idx.all fun j=>inCh A j)=true) (hV:∀ i v fz fz',Le fz fz'->V i v fz->V i v fz') (hk:Keep fz0 Hq fz H)
 (hop:DagOps P cx ops σ ve fz H idx V A)
 (hfin:∀ dn cv τ1 fz1,Le fz fz1->(∀ j,lk cv j≠none->lk ve j=none)->(∀ j,inCh A j=true->∃ v,lk cv j=some v/\V j v fz1)->(∀ s,(A.all fun a=>match a.2.dst with | some d=>!Nat.beq d s | none=>true)=true->lk τ1 s=lk τ s)->
  Po P cx ops pu σ ve fz0 Hq Q all B.length B dn cv τ1 fz1 H):
 Po P cx ops pu σ ve fz0 Hq Q all all0.length all0 dn0 [] τ fz H:=by
 have hAm:∀ a,a∈A↔a∈all0/\inI idx a.1=true:=fun a=>by rw [<- hA,List.mem_filter]
 have hAi:∀ j,inCh A j=true->inI idx j=true:=fun j hj=>by
  obtain ⟨p,hp,e⟩:=WI.1 hj;rw [<- e];exact ((hAm p).1 hp).2
 unfold upB at hup;rw [Bool.and_eq_true] at hup;obtain ⟨hu1,hu2⟩:=hup;have main:∀ (k:Nat) (rest:List (Nat × Oper)) (dn:Bool) (cv τ1:Env) (fz1:FZ),(rest.filter fun q=>inI idx q.1).length=k->Yar rest=true->(∀ q∈rest,q∈all0)->(rest.filter fun q=>!inI idx q.1)=B->Le fz fz1->
  (∀ j v,lk cv j=some v->inCh A j=true)->
  (∀ a∈A,inCh rest a.1=true\/((∃ v,lk cv a.1=some v/\V a.1 v fz1)/\∀ q∈rest,waits a.2 q.1=false))->
  (∀ s,(A.all fun a=>match a.2.dst with | some d=>!Nat.beq d s | none=>true)=true->lk τ1 s=lk τ s)->
  Po P cx ops pu σ ve fz0 Hq Q all rest.length rest dn cv τ1 fz1 H:=by
  intro k
  induction k with
  | zero=>
   intro rest dn cv τ1 fz1 hk0 hn hsub hBr hle hcv hst hτ;have hnil:(rest.filter fun q=>inI idx q.1)=[]:=List.length_eq_zero_iff.1 hk0;have hno:∀ q∈rest,inI idx q.1=false:=fun q hq=>by
    cases h:inI idx q.1 with
    | false=>rfl
    | true=>have:q∈rest.filter fun q=>inI idx q.1:=List.mem_filter.2 ⟨hq,h⟩;rw [hnil] at this;cases this
   have hrest:rest=B:=by rw [<- hBr];exact (List.filter_eq_self.2 (fun q hq=>by rw [hno q hq];rfl)).symm
   rw [hrest];refine hfin dn cv τ1 fz1 hle (fun j hj=>?_) (fun j hj=>?_) hτ
   ·cases hl:lk cv j with
    | none=>exact absurd hl hj
    | some v=>
     obtain ⟨p,hp,e⟩:=WI.1 (hcv j v hl);have:=List.all_eq_true.1 hve p hp;rw [e] at this;cases h0:lk ve j with
     | none=>rfl
     | some u=>rw [h0] at this;cases this
   obtain ⟨p,hp,e⟩:=WI.1 hj;rcases hst p hp with h | h
   ·obtain ⟨q,hq,e2⟩:=WI.1 h;have:=hno q hq;rw [e2,((hAm p).1 hp).2] at this;cases this
   rw [<- e];exact h.1
  | succ k ih=>
   intro rest dn cv τ1 fz1 hk0 hn hsub hBr hle hcv hst hτ;have h2:∀ j,lk cv j≠none->lk ve j=none:=fun j hj=>by
    cases hl:lk cv j with
    | none=>exact absurd hl hj
    | some v=>
     obtain ⟨p,hp,e⟩:=WI.1 (hcv j v hl);have:=List.all_eq_true.1 hve p hp;rw [e] at this;cases h0:lk ve j with
     | none=>rfl
     | some u=>rw [h0] at this;cases this
   -- the last of the free ones is still to come
   have htop:inCh rest t=true:=by
    have hup2:∀ (m:Nat) (a:Nat × Oper),M - a.1<=m->a∈A->inCh rest a.1=true->inCh rest t=true:=by
     intro m
     induction m with
     | zero=>
      intro a hm ha _;have h1:=List.all_eq_true.1 hu1 a ha;rw [Bool.and_eq_true] at h1;have:a.1<M:=Nat.le_of_ble_eq_true h1.1;omega
     | succ m ihm=>
      intro a hm ha hr;have h1:=List.all_eq_true.1 hu1 a ha;rw [Bool.and_eq_true,Bool.or_eq_true] at h1;rcases h1.2 with h3 | h3
      ·rw [<- Nat.eq_of_beq_eq_true h3];exact hr
      obtain ⟨b,hb,h4⟩:=List.any_eq_true.1 h3;rw [Bool.and_eq_true] at h4;have hlt:a.1<b.1:=Nat.le_of_ble_eq_true h4.1;have hM:a.1<M:=Nat.le_of_ble_eq_true h1.1;refine ihm b Zi hb ?_;rcases hst b hb with h5 | h5
      ·exact h5
      obtain ⟨q,hq,e⟩:=WI.1 hr;have:=h5.2 q hq;rw [e,h4.2] at this;cases this
    have hex:∃ q∈rest,inI idx q.1=true:=by
     cases hf:rest.filter fun q=>inI idx q.1 with
     | nil=>rw [hf] at hk0;simp at hk0
     | cons x r=>
      have:x∈rest.filter fun q=>inI idx q.1:=by rw [hf];simp
      exact ⟨x,(List.mem_filter.1 this).1,(List.mem_filter.1 this).2⟩
    obtain ⟨q,hq,hqi⟩:=hex;exact hup2 _ q (Zs _) ((hAm q).2 ⟨hsub q hq,hqi⟩) (WI.2 ⟨q,hq,rfl⟩)
   have hlen:∃ m,rest.length=m+1:=by
    cases rest with
    | nil=>simp at hk0
    | cons x r=>exact ⟨r.length,rfl⟩
   obtain ⟨m,hm⟩:=hlen;rw [hm];unfold Po;intro p hp hfree;have hpA:p∈A:=by
    refine (hAm p).2 ⟨hsub p hp,?_⟩;cases hpi:inI idx p.1 with
    | true=>rfl
    | false=>
     exfalso;have hpB:p∈B:=by rw [<- hBr];exact List.mem_filter.2 ⟨hp,by rw [hpi];rfl⟩
     have h1:=List.all_eq_true.1 hu2 p hpB;rw [Bool.or_eq_true] at h1;rcases h1 with h1 | h1
     ·obtain ⟨q,hq,e⟩:=WI.1 htop;have:=List.all_eq_true.1 hfree q hq;rw [e,h1] at this;cases this
     obtain ⟨c,hc,h3⟩:=List.any_eq_true.1 h1;rw [<- hBr] at hc;have:=List.all_eq_true.1 hfree c (List.mem_filter.1 hc).1;rw [h3] at this;cases this
   have hwt:∀ q∈rest,waits p.2 q.1=false:=fun q hq=>by
    have:=List.all_eq_true.1 hfree q hq;cases h:waits p.2 q.1 with
    | false=>rfl
    | true=>rw [h] at this;cases this
   have hidx':∀ j,inI idx j=true->inCh A j=true:=fun j hj=>by
    unfold inI at hj;obtain ⟨x,hx,e⟩:=List.any_eq_true.1 hj;rw [<- Nat.eq_of_beq_eq_true e];exact List.all_eq_true.1 hidx x hx
   have hdep:∀ j,waits p.2 j=true->inI idx j=true->∃ v,lk cv j=some v/\V j v fz1:=by
    intro j hj hji;obtain ⟨a,ha,rfl⟩:=WI.1 (hidx' j hji);rcases hst a ha with h | h
    ·obtain ⟨q,hq,e⟩:=WI.1 h;have:=hwt q hq;rw [e,hj] at this;cases this
    exact h.1
   obtain ⟨hw,hD⟩:=hop p hpA cv fz1 hle h2 hdep;have hlen2:=Ydo hn hp;have hlm:m=(rest.filter fun q=>!Nat.beq q.1 p.1).length:=by omega
   have hnot:inCh (rest.filter fun q=>!Nat.beq q.1 p.1) p.1=false:=by
    cases h:inCh (rest.filter fun q=>!Nat.beq q.1 p.1) p.1 with
    | false=>rfl
    | true=>
     obtain ⟨q,hq,e⟩:=WI.1 h;have:=(List.mem_filter.1 hq).2;exact absurd e (YfE this)
   have hpi:inI idx p.1=true:=((hAm p).1 hpA).2;refine .inl ⟨hw,Does.of fun ρ w hr hi=>(hD.run ρ w hr hi).mono fun v w' hh=>?_⟩;obtain ⟨fz',H',h1,rfl,hle2,hv⟩:=hh;have hHk:Keep fz0 Hq fz' H':=⟨hk.1.trans (hle.trans hle2),hk.2⟩;refine ⟨fz',H',h1,.inr hHk,?_⟩;rw [hlm];refine ih _ _ _ _ fz' ?_ (YaW hn) (fun q hq=>hsub q (List.mem_filter.1 hq).1) ?_ (hle.trans hle2) (fun j u hj=>?_) (fun a ha=>?_) (fun s hs=>?_)
   ·have e1:(rest.filter fun q=>!Nat.beq q.1 p.1).filter (fun q=>inI idx q.1)=(rest.filter fun q=>inI idx q.1).filter (fun q=>!Nat.beq q.1 p.1):=by
     rw [List.filter_filter,List.filter_filter]
     congr 1;funext q;exact Bool.and_comm _ _
    rw [e1];have:=Ydo (YaW (f:=fun q=>inI idx q.1) hn) (List.mem_filter.2 ⟨hp,hpi⟩);omega
   ·rw [<- hBr,List.filter_filter];refine List.filter_congr fun q hq=>?_
    by_cases he:q.1=p.1
    ·rw [he,hpi];rfl
    rw [Yfu he,Bool.and_true]
   ·by_cases he:p.1=j
    ·rw [<- he];exact WI.2 ⟨p,hpA,rfl⟩
    rw [YP v cv he] at hj;exact hcv j u hj
   ·by_cases he:p.1=a.1
    ·have:a=p:=Yj7 hnd ((hAm a).1 ha).1 (hsub p hp) he.symm;subst this;exact .inr ⟨⟨v,Y2 _ _ _,hv⟩,fun q hq=>hwt q (List.mem_filter.1 hq).1⟩
    rcases hst a ha with h | ⟨⟨u,hu,hVu⟩,h⟩
    ·obtain ⟨q,hq,e⟩:=WI.1 h;exact .inl (WI.2 ⟨q,List.mem_filter.2 ⟨hq,Yfu (fun h0=>he (h0.symm.trans e))⟩,e⟩)
    exact .inr ⟨⟨u,by rw [YP v cv he];exact hu,hV _ _ _ _ hle2 hVu⟩,fun q hq=>h q (List.mem_filter.1 hq).1⟩
   have hp1:=List.all_eq_true.1 hs p hpA;cases hd:p.2.dst with
   | none=>simp only;exact hτ s hs
   | some d=>
    simp only [hd] at hp1 ⊢;rw [YP v τ1 (YfE hp1)];exact hτ s hs
 refine main _ all0 dn0 [] τ fz rfl hnd (fun _ h=>h) hB Zd (fun j v h=>by cases h) (fun a ha=>.inl (WI.2 ⟨a,((hAm a).1 ha).1,rfl⟩)) (fun _ _=>rfl)
end
attribute [irreducible] DagOps
section
variable {P:Program} {cx:Cx} {σ:Env} {Q:QQ}
variable {i:Nat} {o:Oper} {v:Value}
theorem rdc_ne {ops:List Oper} {ve cv:Env} (h:waits o i=false):rdc ops o σ ve ((i,v)::cv)=rdc ops o σ ve cv:=by
 funext x
 cases x with
 | tmp t=>
  unfold rdc;cases hw:YcO ops t 0 with
  | none=>simp only [hw]
  | some j=>
   simp only [hw];cases hq:waits o j with
   | false=>simp only [hq]
   | true=>
    have hne:¬i=j:=fun e=>by subst e;rw [h] at hq;cases hq
    simp only [hq,YP v cv hne]
 | _=>rfl
theorem Yl2 {ve cv:Env} (h:waits o i=false):YbY o ve ((i,v)::cv)=YbY o ve cv:=by
 unfold YbY;cases hg:o.guard with
 | none=>simp only [hg]
 | some jb=>
  obtain ⟨j,b⟩:=jb;simp only [hg];cases hq:waits o j with
  | false=>simp only [hq]
  | true=>
   have hne:¬i=j:=fun e=>by subst e;rw [h] at hq;cases hq
   simp only [hq,YP v cv hne]
theorem YoD {a b:Env} (h:∀ s,lk a s=lk b s):∀ {ρ:Env},Sub ρ a->Sub ρ b
 | [],_=>trivial
 | (i,v)::_,hs=>⟨(h i) ▸ hs.1,YoD h hs.2⟩
theorem Ye2 {I:Env->FZ->HP->Prop} (τ1 τ2:Env) (fz:FZ) (H:HP) (h:∀ s,lk τ1 s=lk τ2 s) (hm:midQ I Q .normal τ1 fz H):midQ I Q .normal τ2 fz H:=by
 rcases hm with ⟨σ',H1,H',h1,h2⟩ | ⟨σ',H',H2,h1,h2⟩
 ·exact .inl ⟨σ',H1,H',YoD h h1,h2⟩
 exact .inr ⟨σ',H',H2,YoD h h1,h2⟩
variable {ops:List Oper} {pu:List Nat} {ve:Env} {fz0:FZ} {Hq:HP} {all:List (Nat × Oper)}
theorem YqG:∀ (m:Nat) {rest:List (Nat × Oper)} {dn:Bool} {cv τ:Env} {fz:FZ} {H:HP},Po P cx ops pu σ ve fz0 Hq Q all m rest dn cv τ fz H->Po P cx ops pu σ ve fz0 Hq Q all m rest true cv τ fz H
 | 0,_,_,_,_,_,_,h=>by unfold Po at h ⊢;exact h
 | m+1,_,_,_,_,_,_,h=>by
  unfold Po at h ⊢;intro p hp hf;rcases h p hp hf with ⟨hw,hd⟩ | ⟨hw,hn⟩
  ·exact .inl ⟨hw,Does.of fun ρ w hrd hi=>(hd.run ρ w hrd hi).mono fun v w' ⟨fz',H',h3,_,h5⟩=>⟨fz',H',h3,.inl rfl,YqG m h5⟩⟩
  exact .inr ⟨hw,YqG m hn⟩
theorem YnB {a b:Env} (h:∀ s,lk a s=lk b s) (d:Nat) (v:Value) (s:Nat):lk ((d,v)::a) s=lk ((d,v)::b) s:=by
 by_cases e:d=s
 ·subst e;rw [Y2,Y2]
 rw [YP v _ e,YP v _ e];exact h s
theorem YqF (hQ:∀ τ1 τ2 fz H,(∀ s,lk τ1 s=lk τ2 s)->Q .normal τ1 fz H->Q .normal τ2 fz H):∀ (m:Nat) {rest:List (Nat × Oper)} {dn:Bool} {cv τ τ':Env} {fz:FZ} {H:HP},(∀ s,lk τ s=lk τ' s)->Po P cx ops pu σ ve fz0 Hq Q all m rest dn cv τ fz H->Po P cx ops pu σ ve fz0 Hq Q all m rest dn cv τ' fz H
 | 0,_,_,_,_,_,_,_,ht,h=>by unfold Po at h ⊢;exact hQ _ _ _ _ ht h
 | m+1,_,_,_,_,_,_,_,ht,h=>by
  unfold Po at h ⊢;intro p hp hf;have key:∀ (v:Value) (s:Nat),lk (match p.2.dst with | some d=>(d,v)::_ | none=>_) s=lk (match p.2.dst with | some d=>(d,v)::_ | none=>_) s:=fun v s=>by
   cases p.2.dst with
   | none=>exact ht s
   | some d=>exact YnB ht d v s
  rcases h p hp hf with ⟨hw,hd⟩ | ⟨hw,hn⟩
  ·exact .inl ⟨hw,Does.of fun ρ w hrd hi=>(hd.run ρ w hrd hi).mono fun v w' ⟨fz',H',h3,h4,h5⟩=>⟨fz',H',h3,h4,YqF hQ m (key v) h5⟩⟩
  exact .inr ⟨hw,YqF hQ m (key undef) hn⟩
variable {j:Nat} {u:Value}
theorem Yoc {cv:Env} (h:¬i=j):VExt ((j,u)::(i,v)::cv) ((i,v)::(j,u)::cv):=fun k w hk=>by
 by_cases e1:j=k
 ·subst e1;rw [Y2] at hk;rw [YP v _ h,Y2];exact hk
 rw [YP u _ e1] at hk;by_cases e2:i=k
 ·subst e2;rw [Y2] at hk ⊢;exact hk
 rw [YP v _ e2] at hk;rw [YP v _ e2,YP u _ e1];exact hk
theorem tau_swap {d e:Nat} {τ:Env} (h:¬d=e) (s:Nat):lk ((e,u)::(d,v)::τ) s=lk ((d,v)::(e,u)::τ) s:=by
 by_cases e1:e=s
 ·subst e1;rw [Y2,YP v _ h,Y2]
 rw [YP u _ e1];by_cases e2:d=s
 ·subst e2;rw [Y2,Y2]
 rw [YP v _ e2,YP v _ e2,YP u _ e1]
variable {H:HP} {fz:FZ}
theorem Po.succ {m:Nat} {rest:List (Nat × Oper)} {dn:Bool} {cv τ:Env}:Po P cx ops pu σ ve fz0 Hq Q all (m+1) rest dn cv τ fz H↔∀ p∈rest,(rest.all fun q=>!waits p.2 q.1)=true->PoS P cx ops pu σ ve fz0 Hq Q all m (rest.filter fun q=>!Nat.beq q.1 p.1) dn cv τ fz H p.1 p.2:=by
 unfold Po PoS;exact Iff.rfl
variable {α:Type}
theorem mem_le1 {a b:α}:∀ {l:List α},l.length<=1->a∈l->b∈l->a=b
 | [],_,h,_=>by cases h
 | [x],_,h1,h2=>(List.mem_singleton.1 h1).trans (List.mem_singleton.1 h2).symm
 | _::_::_,h,_,_=>by simp at h
variable {b:Bool}
theorem orB {a:Bool} (h:a=true):(a || b)=true:=by rw [h];exact Bool.true_or _
theorem Po.now {d:Nat} {op:Op} {ty:TypeId} {pos:String} {af:Array Edge} {m:Nat} {r:List (Nat × Oper)} {dn:Bool} {cv τ:Env} (hk:dn=true\/Keep fz0 Hq fz H) (hq:∀ fz1 H1,DoesQ P cx ⟨some d,op,ty,pos,af,none⟩ (rdc ops ⟨some d,op,ty,pos,af,none⟩ σ ve cv) fz1 H1 fun u=>u=v)
 (h:Po P cx ops pu σ ve fz0 Hq Q all m r dn ((i,v)::cv) ((d,v)::τ) fz H):PoS P cx ops pu σ ve fz0 Hq Q all m r dn cv τ fz H i ⟨some d,op,ty,pos,af,none⟩:=by
 unfold PoS;refine .inl ⟨by unfold YbY;rfl,DoesQ.does ((hq fz H).mono fun u hu=>?_)⟩;subst hu;refine ⟨hk.imp orB id,?_⟩;generalize allp ops all pu ⟨some d,op,ty,pos,af,none⟩=al;cases al with
 | true=>rw [Bool.or_true];exact YqG _ h
 | false=>rw [Bool.or_false];exact h
theorem Po.eager (hQ:∀ τ1 τ2 fz H,(∀ s,lk τ1 s=lk τ2 s)->Q .normal τ1 fz H->Q .normal τ2 fz H) {d:Nat} {op:Op} {ty:TypeId} {pos:String} {af:Array Edge}:∀ (m:Nat) {rest:List (Nat × Oper)} {dn:Bool} {cv τ:Env} {fz:FZ} {H:HP},
 rest.length<=m+1->(i,⟨some d,op,ty,pos,af,none⟩)∈rest->(∀ p∈rest,p.1=i->p=(i,⟨some d,op,ty,pos,af,none⟩))->(∀ p∈rest,¬p.1=i->p.2.dst≠some d)->(∀ p∈rest,waits ⟨some d,op,ty,pos,af,none⟩ p.1=false)->(∀ p∈rest,lk cv p.1=none)->(∀ j,lk cv j≠none->lk ve j=none)->(∀ p∈rest,lk ve p.1=none)->
 (dn=true\/Keep fz0 Hq fz H)->(∀ fz1 H1,DoesQ P cx ⟨some d,op,ty,pos,af,none⟩ (rdc ops ⟨some d,op,ty,pos,af,none⟩ σ ve cv) fz1 H1 fun u=>u=v)->
 Po P cx ops pu σ ve fz0 Hq Q all m (rest.filter fun q=>!Nat.beq q.1 i) dn ((i,v)::cv) ((d,v)::τ) fz H->Po P cx ops pu σ ve fz0 Hq Q all (m+1) rest dn cv τ fz H:=by
 intro m
 induction m with
 | zero=>
  intro rest dn cv τ fz H hlen hmem huq hds hrd hcv h2 hr hk hq h;refine Po.succ.2 fun p hp hf=>?_
  have hpi:p.1=i:=by rw [mem_le1 hlen hp hmem]
  have:=huq p hp hpi;subst this;exact Po.now hk hq h
 | succ m ih=>
  intro rest dn cv τ fz H hlen hmem huq hds hrd hcv h2 hr hk hq h;refine Po.succ.2 fun p hp hf=>?_
  by_cases hpi:p.1=i
  ·have:=huq p hp hpi;subst this;exact Po.now hk hq h
  have hwp:waits p.2 i=false:=by
   have:=List.all_eq_true.1 hf _ hmem;simpa using this
  have hp2:p∈rest.filter fun q=>!Nat.beq q.1 i:=List.mem_filter.2 ⟨hp,Yfu hpi⟩
  have hf2:((rest.filter fun q=>!Nat.beq q.1 i).all fun q=>!waits p.2 q.1)=true:=List.all_eq_true.2 fun q hq=>List.all_eq_true.1 hf q (List.mem_filter.1 hq).1
  have h:=Po.succ.1 h;have hcomm:((rest.filter fun q=>!Nat.beq q.1 i).filter fun q=>!Nat.beq q.1 p.1)=((rest.filter fun q=>!Nat.beq q.1 p.1).filter fun q=>!Nat.beq q.1 i):=by
   simp only [List.filter_filter,Bool.and_comm]
  have hsub:∀ q∈rest.filter fun q=>!Nat.beq q.1 p.1,q∈rest/\¬q.1=p.1:=fun q hq=>⟨(List.mem_filter.1 hq).1,YfE (List.mem_filter.1 hq).2⟩
  have hlen2:(rest.filter fun q=>!Nat.beq q.1 p.1).length<=m+1:=by
   have:(rest.filter fun q=>!Nat.beq q.1 p.1).length<rest.length:=List.length_filter_lt_length_iff_exists.2 ⟨p,hp,by simp⟩;omega
  have go:∀ (u:Value) (fz':FZ) (H':HP) (dn':Bool) (τp τq:Env),(dn'=true\/Keep fz0 Hq fz' H')->(∀ s,lk τq s=lk ((d,v)::τp) s)->
   Po P cx ops pu σ ve fz0 Hq Q all m ((rest.filter fun q=>!Nat.beq q.1 i).filter fun q=>!Nat.beq q.1 p.1) dn' ((p.1,u)::(i,v)::cv) τq fz' H'->
   Po P cx ops pu σ ve fz0 Hq Q all (m+1) (rest.filter fun q=>!Nat.beq q.1 p.1) dn' ((p.1,u)::cv) τp fz' H':=by
   intro u fz' H' dn' τp τq hk' hτ hP;rw [hcomm] at hP;have h2p:∀ j,lk ((p.1,u)::cv) j≠none->lk ve j=none:=YiU (hr p hp) h2;refine ih hlen2 (List.mem_filter.2 ⟨hmem,Yfu (fun e=>hpi e.symm)⟩) (fun q hq=>huq q (hsub q hq).1) (fun q hq=>hds q (hsub q hq).1) (fun q hq=>hrd q (hsub q hq).1) (fun q hq=>?_) h2p (fun q hq=>hr q (hsub q hq).1) hk' (fun fz1 H1=>?_) ?_
   ·rw [YP u _ (fun e=>(hsub q hq).2 e.symm)];exact hcv q (hsub q hq).1
   ·rw [rdc_ne (hrd p hp)];exact hq fz1 H1
   exact YqF hQ m hτ (Po.ext m (Yoc (fun e=>hpi e.symm)) (YiU (hr _ hmem) h2p) (fun q hq=>hr q (hsub q (List.mem_filter.1 hq).1).1) hP)
  have tq:∀ (u:Value) (s:Nat),lk (match p.2.dst with | some e=>(e,u)::(d,v)::τ | none=>(d,v)::τ) s=lk ((d,v)::(match p.2.dst with | some e=>(e,u)::τ | none=>τ)) s:=fun u s=>by
   have hd:=hds p hp hpi;cases he:p.2.dst with
   | none=>rfl
   | some e=>exact tau_swap (fun h=>hd (by rw [he,h])) s
  have h9:=h p hp2 hf2;unfold PoS at h9 ⊢;rcases h9 with ⟨hw,hdo⟩ | ⟨hw,hn⟩
  ·rw [Yl2 hwp] at hw;rw [rdc_ne hwp] at hdo;exact .inl ⟨hw,Does.of fun ρ w hrd hi=>(hdo.run ρ w hrd hi).mono fun u w' ⟨fz',H',h3,h4,h5⟩=>⟨fz',H',h3,h4,go u fz' H' _ _ _ h4 (tq u) h5⟩⟩
  rw [Yl2 hwp] at hw;exact .inr ⟨hw,go undef fz H _ _ _ (hk.imp orB id) (tq undef) hn⟩
def eagB (rest:List (Nat × Oper)) (cv ve:Env) (i d:Nat) (o:Oper):Bool:=
 Yar rest && (rest.all fun q=>!waits o q.1 && ((lk cv q.1).isNone && ((lk ve q.1).isNone && (Nat.beq q.1 i || match q.2.dst with | some e=>!Nat.beq e d | none=>true)))) && (cv.all fun q=>(lk ve q.1).isNone)
theorem Yia (i:Nat) {m d:Nat} {op:Op} {ty:TypeId} {pos:String} {af:Array Edge} {rest r1:List (Nat × Oper)} {dn:Bool} {cv τ:Env} (hQ:∀ τ1 τ2 fz H,(∀ s,lk τ1 s=lk τ2 s)->Q .normal τ1 fz H->Q .normal τ2 fz H)
 (hk:Keep fz0 Hq fz H)
  (hq:∀ fz1 H1,DoesQ P cx ⟨some d,op,ty,pos,af,none⟩ (rdc ops ⟨some d,op,ty,pos,af,none⟩ σ ve cv) fz1 H1 fun u=>u=v) (h:Po P cx ops pu σ ve fz0 Hq Q all m r1 dn ((i,v)::cv) ((d,v)::τ) fz H) (hf:rest.find? (fun q=>Nat.beq q.1 i)=some (i,⟨some d,op,ty,pos,af,none⟩):=by exact rfl) (hr:(rest.filter fun q=>!Nat.beq q.1 i)=r1:=by exact rfl) (hc:eagB rest cv ve i d ⟨some d,op,ty,pos,af,none⟩=true:=by kernel_rfl) (hl:Nat.ble rest.length (m+1)=true:=by kernel_rfl):
  Po P cx ops pu σ ve fz0 Hq Q all (m+1) rest dn cv τ fz H:=by
  unfold eagB at hc;rw [Bool.and_eq_true,Bool.and_eq_true] at hc;obtain ⟨⟨h1,h2⟩,h3⟩:=hc;have hall:∀ q∈rest,waits ⟨some d,op,ty,pos,af,none⟩ q.1=false/\lk cv q.1=none/\lk ve q.1=none/\(¬q.1=i->q.2.dst≠some d):=fun q hq=>by
   have:=List.all_eq_true.1 h2 q hq;simp only [Bool.and_eq_true,Bool.not_eq_true',Option.isNone_iff_eq_none,Bool.or_eq_true] at this;obtain ⟨a,b,c,e⟩:=this;refine ⟨a,b,c,fun hne he=>?_⟩;rcases e with e | e
   ·exact hne (Nat.eq_of_beq_eq_true e)
   rw [he] at e;simp at e
  have hmem:(i,⟨some d,op,ty,pos,af,none⟩)∈rest:=List.mem_of_find?_eq_some hf;refine Po.eager hQ m (Nat.le_of_ble_eq_true hl) hmem (fun p hp e=>Yj7 h1 hp hmem e) (fun p hp=>(hall p hp).2.2.2) (fun p hp=>(hall p hp).1) (fun p hp=>(hall p hp).2.1) (fun j hj=>?_) (fun p hp=>(hall p hp).2.2.1) (.inr hk) hq (by rw [hr];exact h);have key:∀ (l:Env),(l.all fun q=>(lk ve q.1).isNone)=true->lk l j≠none->lk ve j=none:=by
   intro l
   induction l with
   | nil=>intro _ h;exact absurd rfl h
   | cons x r ih=>
    intro ha hj;rw [List.all_cons,Bool.and_eq_true] at ha;by_cases e:x.1=j
    ·rw [<- e];exact Option.isNone_iff_eq_none.1 ha.1
    obtain ⟨a,b⟩:=x;rw [YP b _ e] at hj;exact ih ha.2 hj
  exact key cv h3 hj
end
theorem Po.three {P:Program} {cx:Cx} {l:List Oper} {pu:List Nat} {σ' ve cv τ:Env} {fz0:FZ} {Hq:HP} {Q:QQ} {all rest r1 r2 r3:List (Nat × Oper)} {m:Nat} {dn:Bool} {o2 o3:Oper}
 (a:PoS P cx l pu σ' ve fz0 Hq Q all m r1 dn cv τ fz H i o) (b:PoS P cx l pu σ' ve fz0 Hq Q all m r2 dn cv τ fz H j o2) (c:PoS P cx l pu σ' ve fz0 Hq Q all m r3 dn cv τ fz H k o3) (hr:Yml rest=[(i,o),(j,o2),(k,o3)]:=by exact rfl) (h1:(rest.filter fun q=>!Nat.beq q.1 i)=r1:=by exact rfl) (h2:(rest.filter fun q=>!Nat.beq q.1 j)=r2:=by exact rfl) (h3:(rest.filter fun q=>!Nat.beq q.1 k)=r3:=by exact rfl):Po P cx l pu σ' ve fz0 Hq Q all (m+1) rest dn cv τ fz H:=by
 unfold PoS at a b c;unfold Po;intro p hp hfree;have:=Go.Lx.mem_ready hp hfree;rw [hr,List.mem_cons,List.mem_cons,List.mem_singleton] at this;rcases this with this | this | this
 ·subst this;rw [h1];exact a
 ·subst this;rw [h2];exact b
 subst this;rw [h3];exact c
end Go.Lx
namespace Go.Proofs.YtbdpaoikccabhaaGreatDoor
variable {S:List Atom} {a:Atom} {fz:FZ} {m:List (Bs × Value)}
theorem Yis (h:SetM fz m S) (ha:AtmOk a):∃ (y1:Bs) (y2:Option Addr) (y3 y4:Nat),(fndS m (keyB a) 0).elim (Value.agg #[Ze,Zn]) (·.2)=.agg #[Zy y1,Zc y2 y3 y4]/\(fndS m (keyB a) 0).isSome=decide (a∈S):=by
 have hb:=h.has ha;cases hf:fndS m (keyB a) 0 with
 | none=>exact ⟨_,_,_,_,rfl,by rw [<- hb,hf]⟩
 | some p=>
  have hpv:=(Yau m (keyB a) 0 p.1 p.2 hf).2;rw [Nat.sub_zero] at hpv;have hlt:p.1<S.length:=by have:=(Zg hpv).1;rw [h.2.1] at this;exact this
  obtain ⟨b,hb2⟩:=Yf hlt;obtain ⟨_,vb,h2,h3⟩:=h.2.2 p.1 b hb2;rw [hpv] at h2;injection h2 with h2
  injection h2 with h2 h4
  obtain ⟨B,nb,cb,rfl,_⟩:=h3.args;exact ⟨b.name,B,nb,cb,h4,by rw [<- hb,hf]⟩
theorem YdO:∀ (s:Nat) {fz:FZ} {v vat va vp ve vk:Value} {K:Kn} {gs:Nat} {m:List (Bs × Value)} {S:List Atom} {E:EnvM} {f:Formula},SizeOf.sizeOf f<=s->KnR fz v K->(∀ o∈K.os,PlnS o.name)->fz gs=some (mapS m)->SetM fz m S->FormulaR fz f va vp ve vk->HSh f->EnvR fz vat E->EnvP E->
 QFn prog 91 [v,.map (some gs),.agg #[Zy f.op,Zy f.name,va,vp,ve,vk],vat] fz (Zo (holdsM K S E f))
 | 0,_,_,_,_,_,_,_,_,_,_,_,_,f,hse,_,_,_,_,_,_,_,_=>by cases f;simp at hse
 | s+1,fz,v,vat,va,vp,ve,vk,K,gs,m,S,E,f,hse,hK,hOs,hgs,hSet,hR,hS,hE,hP=>by
  have hR0:=hR;obtain ⟨⟨B1,m1,d1,rfl,ia⟩,⟨B2,m2,d2,rfl,ip⟩,⟨B3,m3,d3,rfl,ie⟩,⟨B4,m4,d4,rfl,ik⟩⟩:=hR.sls;have l1:=ia.len;have l2:=ip.len;have l4:=ik.len;have hps:=hS.pars;have hK0:=hK;obtain ⟨⟨gk,a0,a1,a2,a3,a4,a5,a6,a7,a8,a9,a10,a11,a12,a13,a14,a15,a16,a17,vf,Ao,no,co,gc,gi,mc,mi,rfl,hg,hF,hO,h5,h6,h7,h8⟩,hw,hmany⟩:=hK;have hE0:=hE;obtain ⟨ge,me,rfl,hge,hne,hee⟩:=hE;have ihk:∀ {fz':FZ} {E':EnvM} {vat' wa wp we wk:Value} {x:Formula},x∈f.kids->Le fz fz'->EnvR fz' vat' E'->EnvP E'->FormulaR fz' x wa wp we wk->QFn prog 91 [Zp gk,.map (some gs),.agg #[Zy x.op,Zy x.name,wa,wp,we,wk],vat'] fz' (Zo (holdsM K S E' x)):=
   fun hx hle hE' hP' hRx=>YdO s (by have:=Formula.kids_lt hx;omega) (hK0.mono hle) hOs (hle _ _ hgs) (hSet.mono hle) hRx (hS.kid hx) hE' hP'
  refine qF Tryz.func91 Tryz.ntmps91 (fun w0=>?_);refine pX (fun g4=>?_);refine pY (fun g5=>?_);refine pY (fun g6=>?_);refine pY (fun g7=>?_);refine zWO ?_;by_cases w1:f.op=kAtom
  ·have hat:=hS.atom w1;have hok:=Yqq hP hat;obtain ⟨y1,y2,y3,y4,hlk1,hlk2⟩:=Yis hSet hok;refine zWN ?_;refine Yay [] [_,_,_,_] ?_;refine zW ?_;refine pT ?_;refine YB ?_ ?_
   ·refine Ye (Yk [] [_,_,_,_] Zz (Yhd hE0 (fun x y h=>(hP x y h).1) ia Zi (Nat.le_trans hat.1.1 Zh)) (fun v2 fz2 H2 hle2 hR2=>⟨⟨hle2,Zx⟩,?_⟩));obtain ⟨rfl,va2,rfl,hRa⟩:=hR2;obtain ⟨Aa,na,ca,rfl,_⟩:=id hRa.args;refine YB ?_ ?_
    ·refine PoS.qk ⟨hle2,Zx⟩ (Yt (Yki hRa hok) ?_);refine YB ?_ ?_
     ·refine PoS.qk ⟨hle2,Zx⟩ (YY (hle2 _ _ hgs) ?_ (hv:=hlk1) (hb:=hlk2));refine YB ?_ ?_
      ·refine PoS.qk ⟨hle2,Zx⟩ (Wo ?_);refine Po.three ?_ ?_ ?_
       ·refine PoS.qk ⟨hle2,Zx⟩ (Yq ?_);refine YB ?_ ?_
        ·refine PoS.qk ⟨hle2,Zx⟩ (Yq ?_);refine Yb ?_;refine Ye (YU (fun _=>⟨⟨hle2,Zx⟩,?_⟩));refine Yb ?_;refine PoS.hard0 (Yy ?_);refine pD ?_;exact wR (h:=by rw [YS f,if_pos w1];rfl)
        refine Ye (YU (fun _=>⟨⟨hle2,Zx⟩,?_⟩));refine YB ?_ ?_
        ·refine PoS.qk ⟨hle2,Zx⟩ (Yq ?_);refine Yb ?_;refine PoS.hard0 (Yy ?_);refine pD ?_;exact wR (h:=by rw [YS f,if_pos w1];rfl)
        refine PoS.hard0 (Yy ?_);refine Yb ?_;refine PoS.qk ⟨hle2,Zx⟩ (Yq ?_);refine pD ?_;exact wR (h:=by rw [YS f,if_pos w1];rfl)
       ·refine PoS.qk ⟨hle2,Zx⟩ (Yq ?_);refine YB ?_ ?_
        ·refine PoS.qk ⟨hle2,Zx⟩ (Yq ?_);refine Yb ?_;refine Ye (YU (fun _=>⟨⟨hle2,Zx⟩,?_⟩));refine Yb ?_;refine PoS.hard0 (Yy ?_);refine pD ?_;exact wR (h:=by rw [YS f,if_pos w1];rfl)
        refine Ye (YU (fun _=>⟨⟨hle2,Zx⟩,?_⟩));refine Yb ?_;refine PoS.qk ⟨hle2,Zx⟩ (Yq ?_);refine Yb ?_;refine PoS.hard0 (Yy ?_);refine pD ?_;exact wR (h:=by rw [YS f,if_pos w1];rfl)
       refine Ye (YU (fun _=>⟨⟨hle2,Zx⟩,?_⟩));refine YB ?_ ?_
       ·refine PoS.qk ⟨hle2,Zx⟩ (Yq ?_);refine YB ?_ ?_
        ·refine PoS.qk ⟨hle2,Zx⟩ (Yq ?_);refine Yb ?_;refine PoS.hard0 (Yy ?_);refine pD ?_;exact wR (h:=by rw [YS f,if_pos w1];rfl)
        refine PoS.hard0 (Yy ?_);refine Yb ?_;refine PoS.qk ⟨hle2,Zx⟩ (Yq ?_);refine pD ?_;exact wR (h:=by rw [YS f,if_pos w1];rfl)
       refine PoS.qk ⟨hle2,Zx⟩ (Yq ?_);refine Yb ?_;refine PoS.qk ⟨hle2,Zx⟩ (Yq ?_);refine Yb ?_;refine PoS.hard0 (Yy ?_);refine pD ?_;exact wR (h:=by rw [YS f,if_pos w1];rfl)
      refine Ye (YU (fun _=>⟨⟨hle2,Zx⟩,?_⟩));refine Yb ?_;refine PoS.qk ⟨hle2,Zx⟩ (Wo ?_);refine YB ?_ ?_
      ·refine PoS.qk ⟨hle2,Zx⟩ (Yq ?_);refine YB ?_ ?_
       ·refine PoS.qk ⟨hle2,Zx⟩ (Yq ?_);refine Yb ?_;refine PoS.hard0 (Yy ?_);refine pD ?_;exact wR (h:=by rw [YS f,if_pos w1];rfl)
       refine PoS.hard0 (Yy ?_);refine Yb ?_;refine PoS.qk ⟨hle2,Zx⟩ (Yq ?_);refine pD ?_;exact wR (h:=by rw [YS f,if_pos w1];rfl)
      refine PoS.qk ⟨hle2,Zx⟩ (Yq ?_);refine Yb ?_;refine PoS.qk ⟨hle2,Zx⟩ (Yq ?_);refine Yb ?_;refine PoS.hard0 (Yy ?_);refine pD ?_;exact wR (h:=by rw [YS f,if_pos w1];rfl)
     refine Ye (YU (fun _=>⟨⟨hle2,Zx⟩,?_⟩));refine Yb ?_;refine PoS.qk ⟨hle2,Zx⟩ (YY (hle2 _ _ hgs) ?_ (hv:=hlk1) (hb:=hlk2));refine Yb ?_;refine PoS.qk ⟨hle2,Zx⟩ (Wo ?_);refine YB ?_ ?_
     ·refine PoS.qk ⟨hle2,Zx⟩ (Yq ?_);refine YB ?_ ?_
      ·refine PoS.qk ⟨hle2,Zx⟩ (Yq ?_);refine Yb ?_;refine PoS.hard0 (Yy ?_);refine pD ?_;exact wR (h:=by rw [YS f,if_pos w1];rfl)
      refine PoS.hard0 (Yy ?_);refine Yb ?_;refine PoS.qk ⟨hle2,Zx⟩ (Yq ?_);refine pD ?_;exact wR (h:=by rw [YS f,if_pos w1];rfl)
     refine PoS.qk ⟨hle2,Zx⟩ (Yq ?_);refine Yb ?_;refine PoS.qk ⟨hle2,Zx⟩ (Yq ?_);refine Yb ?_;refine PoS.hard0 (Yy ?_);refine pD ?_;exact wR (h:=by rw [YS f,if_pos w1];rfl)
    refine Ye (YU (fun _=>⟨⟨hle2,Zx⟩,?_⟩));refine Yb ?_;refine PoS.qk ⟨hle2,Zx⟩ (Yt (Yki hRa hok) ?_);refine Yb ?_;refine PoS.qk ⟨hle2,Zx⟩ (YY (hle2 _ _ hgs) ?_ (hv:=hlk1) (hb:=hlk2));refine Yb ?_;refine PoS.qk ⟨hle2,Zx⟩ (Wo ?_);refine YB ?_ ?_
    ·refine PoS.qk ⟨hle2,Zx⟩ (Yq ?_);refine YB ?_ ?_
     ·refine PoS.qk ⟨hle2,Zx⟩ (Yq ?_);refine Yb ?_;refine PoS.hard0 (Yy ?_);refine pD ?_;exact wR (h:=by rw [YS f,if_pos w1];rfl)
     refine PoS.hard0 (Yy ?_);refine Yb ?_;refine PoS.qk ⟨hle2,Zx⟩ (Yq ?_);refine pD ?_;exact wR (h:=by rw [YS f,if_pos w1];rfl)
    refine PoS.qk ⟨hle2,Zx⟩ (Yq ?_);refine Yb ?_;refine PoS.qk ⟨hle2,Zx⟩ (Yq ?_);refine Yb ?_;refine PoS.hard0 (Yy ?_);refine pD ?_;exact wR (h:=by rw [YS f,if_pos w1];rfl)
   refine Ye (YU (fun _=>⟨⟨Zd,Zx⟩,?_⟩));refine Yb ?_;refine Ye (Yk [] [_,_,_,_,_] Zz (Yhd hE0 (fun x y h=>(hP x y h).1) ia Zi (Nat.le_trans hat.1.1 Zh)) (fun v2 fz2 H2 hle2 hR2=>⟨⟨hle2,Zx⟩,?_⟩));obtain ⟨rfl,va2,rfl,hRa⟩:=hR2;obtain ⟨Aa,na,ca,rfl,_⟩:=id hRa.args;refine Yb ?_;refine PoS.qk ⟨hle2,Zx⟩ (Yt (Yki hRa hok) ?_);refine Yb ?_;refine PoS.qk ⟨hle2,Zx⟩ (YY (hle2 _ _ hgs) ?_ (hv:=hlk1) (hb:=hlk2));refine Yb ?_;refine PoS.qk ⟨hle2,Zx⟩ (Wo ?_);refine YB ?_ ?_
   ·refine PoS.qk ⟨hle2,Zx⟩ (Yq ?_);refine YB ?_ ?_
    ·refine PoS.qk ⟨hle2,Zx⟩ (Yq ?_);refine Yb ?_;refine PoS.hard0 (Yy ?_);refine pD ?_;exact wR (h:=by rw [YS f,if_pos w1];rfl)
    refine PoS.hard0 (Yy ?_);refine Yb ?_;refine PoS.qk ⟨hle2,Zx⟩ (Yq ?_);refine pD ?_;exact wR (h:=by rw [YS f,if_pos w1];rfl)
   refine PoS.qk ⟨hle2,Zx⟩ (Yq ?_);refine Yb ?_;refine PoS.qk ⟨hle2,Zx⟩ (Yq ?_);refine Yb ?_;refine PoS.hard0 (Yy ?_);refine pD ?_;exact wR (h:=by rw [YS f,if_pos w1];rfl)
  by_cases w2:f.op=kSame
  ·have h2:=hS.same w2;obtain ⟨x0,hx0⟩:=Yf (l:=f.args) (k:=0) Zi;obtain ⟨x1,hx1⟩:=Yf (l:=f.args) (k:=1) Zi;have hl0:0<m1:=by omega
   have hl1:1<m1:=by omega
   refine wI ia hx0 (fun p1 hp1=>?_);refine zH hp1 (fun hs1=>?_);refine wc (Yk4 (t:=x0) hE0) ?_;refine wI ia hx1 (fun p2 hp2=>?_);refine zH hp2 (fun hs2=>?_);refine wc (Yk4 (t:=x1) hE0) ?_;refine wG ?_;refine Yfr Zz Zz ?_;exact wR (h:=by rw [YS f,if_neg w1,if_pos w2,hx0,hx1];rfl)
  by_cases w3:f.op=kNot
  ·obtain ⟨x,rest,hkd⟩:∃ x rest,f.kids=x::rest:=by
    cases hf:f.kids with
    | nil=>exact absurd hf (hS.head (.inl w3))
    | cons x rest=>exact ⟨x,rest,rfl⟩
   have hx:f.kids[0]?=some x:=by rw [hkd];rfl
   have hxm:=Zm hx;have hl0:0<m4:=by rw [<- l4,hkd];simp
   refine wI ik hx (fun p1 hp1=>?_);refine zL hp1 ?_;intro cs hcs;obtain ⟨wa,wp,we,wk,rfl,hRx⟩:=Yu hcs;obtain ⟨⟨E1,r1,q1,rfl,_⟩,⟨E2,r2,q2,rfl,_⟩,⟨E3,r3,q3,rfl,_⟩,⟨E4,r4,q4,rfl,_⟩⟩:=id hRx.sls;by_cases w4:x.op=kSame
   ·refine zW ?_;intros
    ((refine zG ?_);refine Yt (ihk hxm Zd hE0 hP hRx) ?_);exact wR (h:=by rw [YS f,if_neg w1,if_neg w2,if_pos w3,hkd,notH,if_pos w4])
   have w5:x.op=kAtom:=(hS.neg w3 x hxm).resolve_right w4;have hat:=(hS.kid hxm).atom w5;have hok:=Yqq hP hat;obtain ⟨y1,y2,y3,y4,hlk1,hlk2⟩:=Yis h8 hok;have iax:=hRx.args;obtain ⟨_,_,_,ex,iax⟩:=iax;injection ex with ex1 ex2 ex3
   subst ex1;subst ex2;subst ex3;have lax:=iax.len;refine zWN ?_;intros;rename_i g11
   first | refine Xe (fun σ fz' H'=>σ=[(13,Zo (decide (bndA E x.name x.args∈K.init))),(11,Zp g11),(4,Zp g4)]/\Le fz fz'/\H'=[(g11,Zu #[Zy x.op,Zy x.name,Zc E1 r1 q1,Zc E2 r2 q2,Zc E3 r3 q3,Zc E4 r4 q4] 35),(g4,Zu #[Zp gk] 72)]) ?_ ?_ | refine YN (Xe (fun σ fz' H'=>σ=[(13,Zo (decide (bndA E x.name x.args∈K.init))),(11,Zp g11),(4,Zp g4)]/\Le fz fz'/\H'=[(g11,Zu #[Zy x.op,Zy x.name,Zc E1 r1 q1,Zc E2 r2 q2,Zc E3 r3 q3,Zc E4 r4 q4] 35),(g4,Zu #[Zp gk] 72)]) ?_ ?_)
   ·refine zWN ?_;refine Yay [] [_,_,_,_,_] ?_;refine zW ?_;refine pT ?_;refine YB ?_ ?_
    ·refine Ye (Yk [] [_,_,_,_,_] Zz (Yhd hE0 (fun x y h=>(hP x y h).1) iax Zi (Nat.le_trans hat.1.1 Zh)) (fun v2 fz2 H2 hle2 hR2=>⟨⟨hle2,Zx⟩,?_⟩));obtain ⟨rfl,va2,rfl,hRa⟩:=hR2;obtain ⟨Aa,na,ca,rfl,_⟩:=id hRa.args;refine YB ?_ ?_
     ·refine PoS.qk ⟨hle2,Zx⟩ (Yt (Yki hRa hok) ?_);refine YB ?_ ?_
      ·refine PoS.qk ⟨hle2,Zx⟩ (YY (hle2 _ _ h7) ?_ (hv:=hlk1) (hb:=hlk2));refine YB ?_ ?_
       ·refine PoS.qk ⟨hle2,Zx⟩ (Wo ?_);refine Po.three ?_ ?_ ?_
        ·refine PoS.qk ⟨hle2,Zx⟩ (Yq ?_);refine YB ?_ ?_
         ·refine PoS.qk ⟨hle2,Zx⟩ (Yq ?_);refine Yb ?_;refine Ye (YU (fun _=>⟨⟨hle2,Zx⟩,?_⟩));refine Yb ?_;refine PoS.hard0 (Yy ?_);refine pD ?_;exact wN (h:=by exact ⟨rfl,hle2,rfl⟩)
         refine Ye (YU (fun _=>⟨⟨hle2,Zx⟩,?_⟩));refine YB ?_ ?_
         ·refine PoS.qk ⟨hle2,Zx⟩ (Yq ?_);refine Yb ?_;refine PoS.hard0 (Yy ?_);refine pD ?_;exact wN (h:=by exact ⟨rfl,hle2,rfl⟩)
         refine PoS.hard0 (Yy ?_);refine Yb ?_;refine PoS.qk ⟨hle2,Zx⟩ (Yq ?_);refine pD ?_;exact wN (h:=by exact ⟨rfl,hle2,rfl⟩)
        ·refine PoS.qk ⟨hle2,Zx⟩ (Yq ?_);refine YB ?_ ?_
         ·refine PoS.qk ⟨hle2,Zx⟩ (Yq ?_);refine Yb ?_;refine Ye (YU (fun _=>⟨⟨hle2,Zx⟩,?_⟩));refine Yb ?_;refine PoS.hard0 (Yy ?_);refine pD ?_;exact wN (h:=by exact ⟨rfl,hle2,rfl⟩)
         refine Ye (YU (fun _=>⟨⟨hle2,Zx⟩,?_⟩));refine Yb ?_;refine PoS.qk ⟨hle2,Zx⟩ (Yq ?_);refine Yb ?_;refine PoS.hard0 (Yy ?_);refine pD ?_;exact wN (h:=by exact ⟨rfl,hle2,rfl⟩)
        refine Ye (YU (fun _=>⟨⟨hle2,Zx⟩,?_⟩));refine YB ?_ ?_
        ·refine PoS.qk ⟨hle2,Zx⟩ (Yq ?_);refine YB ?_ ?_
         ·refine PoS.qk ⟨hle2,Zx⟩ (Yq ?_);refine Yb ?_;refine PoS.hard0 (Yy ?_);refine pD ?_;exact wN (h:=by exact ⟨rfl,hle2,rfl⟩)
         refine PoS.hard0 (Yy ?_);refine Yb ?_;refine PoS.qk ⟨hle2,Zx⟩ (Yq ?_);refine pD ?_;exact wN (h:=by exact ⟨rfl,hle2,rfl⟩)
        refine PoS.qk ⟨hle2,Zx⟩ (Yq ?_);refine Yb ?_;refine PoS.qk ⟨hle2,Zx⟩ (Yq ?_);refine Yb ?_;refine PoS.hard0 (Yy ?_);refine pD ?_;exact wN (h:=by exact ⟨rfl,hle2,rfl⟩)
       refine Ye (YU (fun _=>⟨⟨hle2,Zx⟩,?_⟩));refine Yb ?_;refine PoS.qk ⟨hle2,Zx⟩ (Wo ?_);refine YB ?_ ?_
       ·refine PoS.qk ⟨hle2,Zx⟩ (Yq ?_);refine YB ?_ ?_
        ·refine PoS.qk ⟨hle2,Zx⟩ (Yq ?_);refine Yb ?_;refine PoS.hard0 (Yy ?_);refine pD ?_;exact wN (h:=by exact ⟨rfl,hle2,rfl⟩)
        refine PoS.hard0 (Yy ?_);refine Yb ?_;refine PoS.qk ⟨hle2,Zx⟩ (Yq ?_);refine pD ?_;exact wN (h:=by exact ⟨rfl,hle2,rfl⟩)
       refine PoS.qk ⟨hle2,Zx⟩ (Yq ?_);refine Yb ?_;refine PoS.qk ⟨hle2,Zx⟩ (Yq ?_);refine Yb ?_;refine PoS.hard0 (Yy ?_);refine pD ?_;exact wN (h:=by exact ⟨rfl,hle2,rfl⟩)
      refine Ye (YU (fun _=>⟨⟨hle2,Zx⟩,?_⟩));refine Yb ?_;refine PoS.qk ⟨hle2,Zx⟩ (YY (hle2 _ _ h7) ?_ (hv:=hlk1) (hb:=hlk2));refine Yb ?_;refine PoS.qk ⟨hle2,Zx⟩ (Wo ?_);refine YB ?_ ?_
      ·refine PoS.qk ⟨hle2,Zx⟩ (Yq ?_);refine YB ?_ ?_
       ·refine PoS.qk ⟨hle2,Zx⟩ (Yq ?_);refine Yb ?_;refine PoS.hard0 (Yy ?_);refine pD ?_;exact wN (h:=by exact ⟨rfl,hle2,rfl⟩)
       refine PoS.hard0 (Yy ?_);refine Yb ?_;refine PoS.qk ⟨hle2,Zx⟩ (Yq ?_);refine pD ?_;exact wN (h:=by exact ⟨rfl,hle2,rfl⟩)
      refine PoS.qk ⟨hle2,Zx⟩ (Yq ?_);refine Yb ?_;refine PoS.qk ⟨hle2,Zx⟩ (Yq ?_);refine Yb ?_;refine PoS.hard0 (Yy ?_);refine pD ?_;exact wN (h:=by exact ⟨rfl,hle2,rfl⟩)
     refine Ye (YU (fun _=>⟨⟨hle2,Zx⟩,?_⟩));refine Yb ?_;refine PoS.qk ⟨hle2,Zx⟩ (Yt (Yki hRa hok) ?_);refine Yb ?_;refine PoS.qk ⟨hle2,Zx⟩ (YY (hle2 _ _ h7) ?_ (hv:=hlk1) (hb:=hlk2));refine Yb ?_;refine PoS.qk ⟨hle2,Zx⟩ (Wo ?_);refine YB ?_ ?_
     ·refine PoS.qk ⟨hle2,Zx⟩ (Yq ?_);refine YB ?_ ?_
      ·refine PoS.qk ⟨hle2,Zx⟩ (Yq ?_);refine Yb ?_;refine PoS.hard0 (Yy ?_);refine pD ?_;exact wN (h:=by exact ⟨rfl,hle2,rfl⟩)
      refine PoS.hard0 (Yy ?_);refine Yb ?_;refine PoS.qk ⟨hle2,Zx⟩ (Yq ?_);refine pD ?_;exact wN (h:=by exact ⟨rfl,hle2,rfl⟩)
     refine PoS.qk ⟨hle2,Zx⟩ (Yq ?_);refine Yb ?_;refine PoS.qk ⟨hle2,Zx⟩ (Yq ?_);refine Yb ?_;refine PoS.hard0 (Yy ?_);refine pD ?_;exact wN (h:=by exact ⟨rfl,hle2,rfl⟩)
    refine Ye (YU (fun _=>⟨⟨Zd,Zx⟩,?_⟩));refine Yb ?_;refine Ye (Yk [] [_,_,_,_,_,_] Zz (Yhd hE0 (fun x y h=>(hP x y h).1) iax Zi (Nat.le_trans hat.1.1 Zh)) (fun v2 fz2 H2 hle2 hR2=>⟨⟨hle2,Zx⟩,?_⟩));obtain ⟨rfl,va2,rfl,hRa⟩:=hR2;obtain ⟨Aa,na,ca,rfl,_⟩:=id hRa.args;refine Yb ?_;refine PoS.qk ⟨hle2,Zx⟩ (Yt (Yki hRa hok) ?_);refine Yb ?_;refine PoS.qk ⟨hle2,Zx⟩ (YY (hle2 _ _ h7) ?_ (hv:=hlk1) (hb:=hlk2));refine Yb ?_;refine PoS.qk ⟨hle2,Zx⟩ (Wo ?_);refine YB ?_ ?_
    ·refine PoS.qk ⟨hle2,Zx⟩ (Yq ?_);refine YB ?_ ?_
     ·refine PoS.qk ⟨hle2,Zx⟩ (Yq ?_);refine Yb ?_;refine PoS.hard0 (Yy ?_);refine pD ?_;exact wN (h:=by exact ⟨rfl,hle2,rfl⟩)
     refine PoS.hard0 (Yy ?_);refine Yb ?_;refine PoS.qk ⟨hle2,Zx⟩ (Yq ?_);refine pD ?_;exact wN (h:=by exact ⟨rfl,hle2,rfl⟩)
    refine PoS.qk ⟨hle2,Zx⟩ (Yq ?_);refine Yb ?_;refine PoS.qk ⟨hle2,Zx⟩ (Yq ?_);refine Yb ?_;refine PoS.hard0 (Yy ?_);refine pD ?_;exact wN (h:=by exact ⟨rfl,hle2,rfl⟩)
   rintro σ fz3 H' ⟨rfl,hle3,rfl⟩;have hg3:=hle3 _ _ hg;cases hc:K.chg x.name with
   | true=>
    refine wG ?_;refine WU (v:=Zo true) (hle3 _ _ h5) ?_ (hv:=by rw [Yht];exact (h6 _).trans (by rw [hc]));exact wR (h:=by rw [YS f,if_neg w1,if_neg w2,if_pos w3,hkd,notH,if_neg w4,hc];rfl)
   | false=>
    refine wG ?_;refine WU (v:=Zo false) (hle3 _ _ h5) ?_ (hv:=by rw [Yht];exact (h6 _).trans (by rw [hc]));exact wR (h:=by rw [YS f,if_neg w1,if_neg w2,if_pos w3,hkd,notH,if_neg w4,hc];rfl)
  by_cases w5:f.op=kAnd
  ·refine wG ?_;refine Y0 ?_
   (refine zG ?_);refine WF (fun fz' hle hf=>XL (p:=fun x=>¬holdsM K S E x=true) (ik.mono hle) (fun x hx cs hcs=>by
    obtain ⟨wa,wp,we,wk,rfl,hRx⟩:=Yu hcs;rw [show decide (¬holdsM K S E x=true)=!(holdsM K S E x) from by cases holdsM K S E x<;>simp];exact holds1_q hRx rfl (hf _ (.tail _ (.tail _ (.tail _ (.head _))))) (hf _ (.tail _ (.tail _ (.head _)))) (hf _ (.head _)) (ihk hx hle (hE0.mono hle) hP hRx))) ?_
   exact wR (h:=by rw [YS f,if_neg w1,if_neg w2,if_neg w3,if_pos w5,Yhg])
  by_cases w6:f.op=kOr
  ·refine wG ?_;refine Y0 ?_
   (refine zG ?_);refine WF (fun fz' hle hf=>XL (p:=fun x=>holdsM K S E x=true) (ik.mono hle) (fun x hx cs hcs=>by
    obtain ⟨wa,wp,we,wk,rfl,hRx⟩:=Yu hcs;rw [show decide (holdsM K S E x=true)=holdsM K S E x from by cases holdsM K S E x<;>simp];exact holds2_q hRx rfl (hf _ (.tail _ (.tail _ (.tail _ (.head _))))) (hf _ (.tail _ (.tail _ (.head _)))) (hf _ (.head _)) (ihk hx hle (hE0.mono hle) hP hRx))) ?_
   exact wR (h:=by rw [YS f,if_neg w1,if_neg w2,if_neg w3,if_neg w5,if_pos w6,Yhf])
  by_cases hq:QuF f.op
  ·obtain ⟨x,rest,hkd⟩:∃ x rest,f.kids=x::rest:=by
    cases hf:f.kids with
    | nil=>exact absurd hf (hS.head (.inr hq))
    | cons x rest=>exact ⟨x,rest,rfl⟩
   have hxm:x∈f.kids:=by rw [hkd];simp
   have hqq:=Ymm f.params (hb:=fun E'=>headH K S E' f.kids) hK0 hOs hR0 hkd ip Zi hE0 hP (fun hle hE' hP' hRx=>by rw [hkd,headH];exact ihk hxm hle hE' hP' hRx);have e1:holdsM K S E f=quantV K (decide (f.op=kForall)) (fun E'=>headH K S E' f.kids) f.params E:=by rw [YS f,if_neg w1,if_neg w2,if_neg w3,if_neg w5,if_neg w6,if_pos hq]
   rcases hq with w7 | w7
   ·refine wc hqq ?_;exact wR (h:=by rw [e1])
   have w8:¬f.op=kForall:=by rw [w7];decide+kernel
   refine wc hqq ?_;exact wR (h:=by rw [e1])
  have w7:¬f.op=kForall:=fun h=>hq (.inl h)
  have w8:¬f.op=kExists:=fun h=>hq (.inr h)
  exact wR (h:=by rw [YS f,if_neg w1,if_neg w2,if_neg w3,if_neg w5,if_neg w6,if_neg hq])
end Go.Proofs.YtbdpaoikccabhaaGreatDoor
