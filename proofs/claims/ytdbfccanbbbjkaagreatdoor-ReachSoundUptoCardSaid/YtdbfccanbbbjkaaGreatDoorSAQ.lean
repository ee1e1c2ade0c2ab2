/- The texts QSp, QN, PDag, PEag, QP, QT, QS, laid together. Conditions: none. -/
import Derived.Test.YtdbfccanbbbjkaaGreatDoorSAP
set_option linter.all false
set_option maxHeartbeats 16000000
noncomputable section
set_option maxRecDepth 20000
open Go.Lx Go.RowKit
attribute [local instance 10] Classical.propDecidable
open Go.Proofs.Tryz (prog)
namespace Go.Proofs.YtdbfccanbbbjkaaGreatDoor
variable {α:Type} {i g k n:Nat} {t:TypeId} {w:World} {fz:FZ} {E:EnvM} {K:Kn} {S:List Atom} {f:Formula} {b:Bool} {v va ve vk vp:Value} {l:List α}
theorem list_get! [Inhabited α] {x:α} (h:l[i]?=some x):l.toArray[i]! =x:=by
 obtain ⟨h1,h2⟩:=Zg h;rw [getElem!_pos l.toArray i (by simpa using h1)];simpa using h2
theorem Yj4 [Inhabited α] {x:α} (h:l[i]?=some x):l[i]! =x:=by
 obtain ⟨h1,h2⟩:=Zg h;rw [getElem!_pos l i h1];exact h2
theorem YbM:OneC atomL:=by
 intro fz d cs h u hu;obtain ⟨va,rfl,hR⟩:=Xu h;obtain ⟨A,n,c,rfl,_⟩:=hR.args;rcases List.mem_cons.1 hu with rfl | hu
 ·rfl
 rw [List.mem_singleton] at hu;subst hu;rfl
theorem Yjw [Inhabited α] {enc:α->List Value} {m:Nat} {dk:Array α} {os:Array Obj} {cs:Array Value} (hg:w.heap[g]?=some (Zu cs t)):(sortWorldK enc k w g 0 m dk os).heap[g]?=some (Zu (Go.Sort.putCells id 0 (Go.Sort.flatK enc k dk) cs) t):=by
 unfold sortWorldK Go.Sort.grow Go.Sort.putRowK Go.Sort.putRow Go.Sort.mapBlock Go.Sort.ahead;simp only;rw [Array.getElem?_append_left (by simpa using lt_of_heap hg),Array.getElem?_modify,if_pos rfl,hg];rfl
theorem sort_f {cap:Nat} {cur:List Value} {l:List Atom} (hB:GrowB atomL t fz g n cap cur l) (hn:0<n) (hn2:n<=2000000):
 GFn prog 36 [Zv g n cap,.func (.func 37) #[] #[]] fz [(g,Zu cur.toArray t)]
  (fun r fz' H'=>r=.tuple #[]/\fz=fz'/\∃ cur' l',H'=[(g,Zu (List.toArray cur') t)]/\GrowB atomL t fz g n cap cur' l'/\l'.Perm l/\Yjf l'):=by
 obtain ⟨xs,e1,e2,e3⟩:=hB.pairs;have hxl:xs.length=n:=by have:=hB.len;rw [<- e1,List.length_map] at this;exact this
 have hsz:=hB.size;have hcap:=hB.capn;have hz:atomL.size=2:=rfl;rw [hz] at hsz e3;refine GFn.of ⟨_,Tryz.func36,by decide,by decide⟩ (fun w hw=>?_);have hg:=hw.own (g,Zu cur.toArray t) (.head _);simp only at hg;have hgs:=lt_of_heap hg.1;obtain ⟨x0,hx0⟩:=Ye (l:=xs) (k:=0) Zi
 haveI:Inhabited {x:Atom × List Value // atomL.rep fz x.1 x.2}:=⟨⟨x0,e2 x0 (Zm hx0)⟩⟩
 generalize hds:(xs.attach.map fun p=>(⟨p.1,e2 p.1 p.2⟩:{x:Atom × List Value // atomL.rep fz x.1 x.2}))=ds;have hdm:ds.map (·.1)=xs:=by rw [<- hds,List.map_map];exact List.attach_map_subtype_val xs
 have hdl:ds.length=n:=by rw [<- hxl,<- hdm,List.length_map]
 have hk2:∀ x:{x:Atom × List Value // atomL.rep fz x.1 x.2},x.1.2.length=2:=fun x=>atomL.len x.2
 have h1c:∀ x:{x:Atom × List Value // atomL.rep fz x.1 x.2},∀ v∈x.1.2,v.oneCell'=true:=fun x v hv=>YbM _ _ _ x.2 v hv
 have hpos:∀ (k:Nat) (cs:List Value) (ys:List {x:Atom × List Value // atomL.rep fz x.1 x.2}),True:=fun _ _ _=>trivial
 have hcell:∀ (ys:List {x:Atom × List Value // atomL.rep fz x.1 x.2}) (j:Nat),j<ys.length*2->∃ v,((ys.map (·.1)).flatMap Prod.snd)[j]?=some v/\(Go.Sort.flatK (fun x:{x:Atom × List Value // atomL.rep fz x.1 x.2}=>x.1.2) 2 ys.toArray)[j]! =v:=by
  intro ys j hj;obtain ⟨y,hy⟩:=Ye (l:=ys) (k:=j / 2) Zi;obtain ⟨v,hv⟩:=Ye (l:=y.1.2) (k:=j % 2) (by rw [hk2 y];omega);have hf:=Yea (z:=2) (l:=ys.map (·.1)) (i:=j / 2) (j:=j % 2) (x:=y.1) (u:=v) (fun p hp=>by
   obtain ⟨q,_,rfl⟩:=List.mem_map.1 hp;exact hk2 q) (by rw [List.getElem?_map,hy];rfl) hv
  rw [show j / 2*2+j % 2=j by omega] at hf;refine ⟨v,hf,?_⟩;rw [Go.Sort.get_flatK _ _ _ _ (by simpa using hj),list_get! hy];exact Yj4 hv
 have hcmp:CmpLays prog 37 #[] (fun x:{x:Atom × List Value // atomL.rep fz x.1 x.2}=>x.1.2) 2 (fun x y=>cmpA x.1.1 y.1.1) g 0 ds.toArray.size w:=by
  intro m os dk _ x y;obtain ⟨⟨a,ca⟩,hx⟩:=x;obtain ⟨⟨b,cb⟩,hy⟩:=y;obtain ⟨va,hca,ha⟩:=Xu hx;obtain ⟨vb,hcb,hb⟩:=Xu hy;simp only at hca hcb ha hb;subst hca;subst hcb;have hD:=@GFn.out drT _ _ _ _ _ _ (@YpT drT _ _ _ _ _ ha hb) (sortWorldK (fun x:{x:Atom × List Value // atomL.rep fz x.1 x.2}=>x.1.2) 2 w g 0 m dk os) ⟨fun b o hbo=>by
   have h1:=hw.keep b o hbo;rw [Yez (lt_of_heap h1) (fun e=>by subst e;rw [hg.2] at hbo;cases hbo)];exact h1,by simp,by simp⟩
  refine hD.mono fun e w' hh=>?_
  obtain ⟨v,fz',H',he,⟨_,rfl⟩,_,hfr,_⟩:=hh;exact ⟨he,Yhr hfr⟩
 have hH:Go.Sort.HoldsK (fun x:{x:Atom × List Value // atomL.rep fz x.1 x.2}=>x.1.2) 2 w g 0 ds.toArray:=by
  intro j hj;rw [Go.Sort.size_flatK] at hj;simp only [List.size_toArray] at hj;obtain ⟨v,h1,h2⟩:=hcell ds j hj;rw [hdm,<- e3] at h1;refine ⟨?_,?_⟩
  ·rw [h2];show w.cell? ⟨g,0+j,none⟩=some v;rw [List.getElem?_take_of_lt Zi] at h1;simp [World.cell?,hg.1,h1]
  simp [World.frozen?,hg.1]
 have hcon:=AnyQ.slices_SortFunc Ya9 2 (fun W=>(Go.Lx.run_isAgg T (t:=55) rfl W).trans rfl) (fun W=>(Go.Lx.run_sizeOf T (t:=55) rfl W).trans rfl)
  (fun x:{x:Atom × List Value // atomL.rep fz x.1 x.2}=>x.1.2) hk2 h1c (fun x y=>cmpA x.1.1 y.1.1) (ordA.swo (fun x:{x:Atom × List Value // atomL.rep fz x.1 x.2}=>x.1.1)) 37 #[] g 0 cap ds.toArray w
  (enters_of Tryz.func37 Zj rfl) hcmp hH hgs (by simp;omega)
 simp only [List.size_toArray,hdl] at hcon;refine Calls.mono hcon fun e w' hh=>?_
 obtain ⟨he,d',m,os,hp,hs,rfl⟩:=hh;have hsd:d'.size=n:=by rw [hp.1];simp [hdl]
 obtain ⟨ys,rfl⟩:∃ ys:List {x:Atom × List Value // atomL.rep fz x.1 x.2},d'=ys.toArray:=⟨d'.toList,by simp⟩;simp only [List.size_toArray] at hsd;have hperm:ys.Perm ds:=by
  have h:=hp.2.2;rw [show (ys.toArray.extract 0 n)=ys.toArray from by rw [<- hsd];simp,show (ds.toArray.extract 0 n)=ds.toArray from by rw [<- hdl];simp] at h;simpa using h
 have hgw:=Yjw (enc:=fun x:{x:Atom × List Value // atomL.rep fz x.1 x.2}=>x.1.2) (k:=2) (m:=m) (dk:=ys.toArray) (os:=os) hg.1;generalize hF:Go.Sort.flatK (fun x:{x:Atom × List Value // atomL.rep fz x.1 x.2}=>x.1.2) 2 ys.toArray=F at hgw;have hFs:F.size=n*2:=by rw [<- hF,Go.Sort.size_flatK];simp [hsd]
 have hFc:∀ j,j<n*2->∃ v,((ys.map (·.1)).flatMap Prod.snd)[j]?=some v/\F[j]! =v:=fun j hj=>by
  have:=hcell ys j Zi
  rwa [hF] at this
 refine ⟨_,fz,[(g,Zu (List.toArray (Go.Sort.putCells id 0 F cur.toArray).toList) t)],he,⟨rfl,rfl,_,ys.map (·.1.1),rfl,⟨⟨ys.map (·.1),by rw [List.map_map];rfl,fun p hp=>?_,?_⟩,by rw [List.length_map];exact hsd,hcap,hB.max,?_⟩,?_,?_⟩,⟨fun b o hbo=>?_,fun p hp=>?_,by simp⟩,⟨rfl,rfl,rfl,?_,fun b hb hnb=>?_,fun h=>h.elim⟩,⟨fun _ _ h=>h,fun _ _ _=>rfl,fun p hp=>?_⟩⟩
 ·obtain ⟨q,_,rfl⟩:=List.mem_map.1 hp;exact q.2
 ·rw [hz];refine List.ext_getElem? fun j=>?_
  by_cases hj:j<n*2
  ·obtain ⟨v,h1,h2⟩:=hFc j hj;have hlt:j<cur.length:=by omega
   rw [h1,List.getElem?_take_of_lt hj,Array.getElem?_toList];unfold Go.Sort.putCells;simp [hlt,hFs,hj];rw [<- h2];exact (getElem!_pos F j Zi).symm
  rw [List.getElem?_eq_none (by rw [List.length_take];omega),List.getElem?_eq_none];rw [Yax (z:=2) (fun p hp=>by
   obtain ⟨q,_,rfl⟩:=List.mem_map.1 hp;exact hk2 q),List.length_map,hsd]
  omega
 ·unfold Go.Sort.putCells;simp [hsz,hz]
 ·have h1:=hperm.map (fun x:{x:Atom × List Value // atomL.rep fz x.1 x.2}=>x.1.1);have h2:ds.map (fun x:{x:Atom × List Value // atomL.rep fz x.1 x.2}=>x.1.1)=l:=by rw [<- e1,<- hdm,List.map_map];rfl
  rw [h2] at h1;exact h1
 ·intro i j a b hij ha hb;rw [List.getElem?_map] at ha hb;cases hya:ys[i]? with
  | none=>rw [hya] at ha;cases ha
  | some p=>
   cases hyb:ys[j]? with
   | none=>rw [hyb] at hb;cases hb
   | some q=>
    rw [hya] at ha;rw [hyb] at hb;injection ha with ha;injection hb with hb
    have h:=hs i j (Z0 _) hij (by have:=(Zg hyb).1;omega);rw [list_get! hya,list_get! hyb] at h;unfold ltOf at h;have h:=Zf h;rw [<- ha,<- hb];exact h
 ·have h1:=hw.keep b o hbo;rw [Yez (lt_of_heap h1) (fun e=>by subst e;rw [hg.2] at hbo;cases hbo)];exact h1
 ·rw [List.mem_singleton] at hp;subst hp;exact ⟨by simpa using hgw,hg.2⟩
 ·unfold sortWorldK Go.Sort.grow Go.Sort.putRowK Go.Sort.putRow Go.Sort.mapBlock Go.Sort.ahead;simp
 ·exact Yez hb (fun e=>hnb (by simp [e]))
 rw [List.mem_singleton] at hp;subst hp;exact .inl (by simp)
mutual
def holdsM (K:Kn) (S:List Atom):EnvM->Formula->Bool
 | E,.mk op name args params _ kids=>
  if op=kAtom then decide (bndA E name args∈S)
  else if op=kSame then decide (valE E ((args[0]?).getD ⟨#[]⟩)=valE E ((args[1]?).getD ⟨#[]⟩))
  else if op=kNot then notH K S E kids
  else if op=kAnd then allH K S E kids
  else if op=kOr then anyH K S E kids
  else if QuF op then quantV K (decide (op=kForall)) (fun E'=>headH K S E' kids) params E
  else true
def notH (K:Kn) (S:List Atom):EnvM->List Formula->Bool
 | _,[]=>true
 | E,g::_=>if g.op=kSame then !holdsM K S E g else K.chg g.name || !decide (bndA E g.name g.args∈K.init)
def allH (K:Kn) (S:List Atom):EnvM->List Formula->Bool
 | _,[]=>true
 | E,g::r=>holdsM K S E g && allH K S E r
def anyH (K:Kn) (S:List Atom):EnvM->List Formula->Bool
 | _,[]=>false
 | E,g::r=>holdsM K S E g || anyH K S E r
def headH (K:Kn) (S:List Atom):EnvM->List Formula->Bool
 | _,[]=>true
 | E,g::_=>holdsM K S E g
end
theorem YQ (f:Formula):holdsM K S E f=
 if f.op=kAtom then decide (bndA E f.name f.args∈S)
 else if f.op=kSame then decide (valE E ((f.args[0]?).getD ⟨#[]⟩)=valE E ((f.args[1]?).getD ⟨#[]⟩))
 else if f.op=kNot then notH K S E f.kids
 else if f.op=kAnd then allH K S E f.kids
 else if f.op=kOr then anyH K S E f.kids
 else if QuF f.op then quantV K (decide (f.op=kForall)) (fun E'=>headH K S E' f.kids) f.params E
 else true:=by cases f;rw [holdsM];rfl
theorem Yjc {K:Kn} {S:List Atom} {E:EnvM}:∀ l:List Formula,allH K S E l=!decide (∃ g∈l,¬holdsM K S E g=true)
 | []=>by rw [allH];simp
 | g::r=>by
  rw [allH,Yjc r];cases h:holdsM K S E g<;>simp [h]
theorem Yi9 {K:Kn} {S:List Atom} {E:EnvM}:∀ l:List Formula,anyH K S E l=decide (∃ g∈l,holdsM K S E g=true)
 | []=>by rw [anyH];simp
 | g::r=>by
  rw [anyH,Yi9 r];cases h:holdsM K S E g<;>simp [h]
inductive HSh:Formula->Prop
 | mk {f:Formula} (h1:f.op=kSame->2<=f.args.length) (h2:f.op=kNot\/QuF f.op->f.kids≠ []) (h3:f.op=kAtom->PlnS f.name/\f.args.length<=2000000/\∀ t∈f.args,PlnS t)
  (h4:f.op=kNot->∀ k∈f.kids,k.op=kAtom\/k.op=kSame) (h5:f.params.length<=2000000) (h6:∀ k∈f.kids,HSh k):HSh f
theorem HSh.same (h:HSh f):f.op=kSame->2<=f.args.length:=by cases h with | mk h1 _ _ _ _ _=>exact h1
theorem HSh.head (h:HSh f):f.op=kNot\/QuF f.op->f.kids≠ []:=by cases h with | mk _ h1 _ _ _ _=>exact h1
theorem HSh.atom (h:HSh f):f.op=kAtom->PlnS f.name/\f.args.length<=2000000/\∀ t∈f.args,PlnS t:=by cases h with | mk _ _ h1 _ _ _=>exact h1
theorem HSh.neg (h:HSh f):f.op=kNot->∀ k∈f.kids,k.op=kAtom\/k.op=kSame:=by cases h with | mk _ _ _ h1 _ _=>exact h1
theorem HSh.pars (h:HSh f):f.params.length<=2000000:=by cases h with | mk _ _ _ _ h1 _=>exact h1
theorem HSh.kid {k:Formula} (h:HSh f) (hk:k∈f.kids):HSh k:=by cases h with | mk _ _ _ _ _ h1=>exact h1 k hk
theorem valE_pln (hE:EnvP E) {t:Bs} (ht:PlnS t):PlnS (valE E t):=by
 unfold valE;cases h:E t with
 | none=>exact ht
 | some y=>exact hE t y h
theorem Yp4 (hE:EnvP E) {name:Bs} {args:List Bs} (h:PlnS name/\args.length<=2000000/\∀ t∈args,PlnS t):AtmOk (bndA E name args):=by
 refine ⟨h.1,by show (args.map (valE E)).length<=_;rw [List.length_map];exact h.2.1,fun s hs=>?_⟩;obtain ⟨t,ht,rfl⟩:=List.mem_map.1 hs;exact valE_pln hE (h.2.2 t ht)
theorem holds1_q {vs vat:Value} {g4 g5 g7:Nat} {t4 t5 t7:TypeId} (hR:FormulaR fz f va vp ve vk) (hv:v.oneCell'=true) (h4:fz g4=some (.cells #[v] t4 (0,0))) (h5:fz g5=some (.cells #[vs] t5 (0,0))) (h7:fz g7=some (.cells #[vat] t7 (0,0)))
 (hh:QFn prog 69 [v,vs,.agg #[Zy f.op,Zy f.name,va,vp,ve,vk],vat] fz (Zo b)):
 QFn prog 143 [.agg #[Zy f.op,Zy f.name,va,vp,ve,vk],Zp g4,Zp g5,Zp g7] fz (Zo (!b)):=by
 obtain ⟨⟨B1,m1,d1,rfl,ia⟩,⟨B2,m2,d2,rfl,ip⟩,⟨B3,m3,d3,rfl,ie⟩,⟨B4,m4,d4,rfl,ik⟩⟩:=hR.sls;refine qF Tryz.func143 Tryz.ntmps143 (fun w0=>?_);refine pX (fun g9=>?_);refine wc hh ?_;exact wR (h:=rfl)
theorem holds2_q {vs vat:Value} {g4 g5 g7:Nat} {t4 t5 t7:TypeId} (hR:FormulaR fz f va vp ve vk) (hv:v.oneCell'=true) (h4:fz g4=some (.cells #[v] t4 (0,0))) (h5:fz g5=some (.cells #[vs] t5 (0,0))) (h7:fz g7=some (.cells #[vat] t7 (0,0)))
 (hh:QFn prog 69 [v,vs,.agg #[Zy f.op,Zy f.name,va,vp,ve,vk],vat] fz (Zo b)):
 QFn prog 144 [.agg #[Zy f.op,Zy f.name,va,vp,ve,vk],Zp g4,Zp g5,Zp g7] fz (Zo b):=by
 obtain ⟨⟨B1,m1,d1,rfl,ia⟩,⟨B2,m2,d2,rfl,ip⟩,⟨B3,m3,d3,rfl,ie⟩,⟨B4,m4,d4,rfl,ik⟩⟩:=hR.sls;refine qF Tryz.func144 Tryz.ntmps144 (fun w0=>?_);refine pX (fun g9=>?_);refine wc hh ?_;exact wR (h:=rfl)
end Go.Proofs.YtdbfccanbbbjkaaGreatDoor
namespace Go.Lx
open Go.RowKit
variable {H:HP} {fz:FZ} {i j k:Nat} {o:Oper}
section
variable {P:Program} {cx:Cx} {σ:Env} {fz:FZ} {H:HP} {Q:QQ}
def inI (l:List Nat) (i:Nat):Bool:=l.any fun j=>Nat.beq j i
variable {o:Oper}
theorem Yox {ops:List Oper} {ve cv cv':Env} (hx:Sub cv' cv) (h2:∀ j,lk cv j≠none->lk ve j=none):∀ x v,rdc ops o σ ve cv' x=some v->rdc ops o σ ve cv x=some v:=by
 intro x v h;cases x with
 | tmp t=>
  unfold rdc at h ⊢;cases hw:Ydj ops t 0 with
  | none=>simp only [hw] at h ⊢;exact h
  | some j=>
   simp only [hw] at h ⊢;cases hq:waits o j with
   | false=>simp only [hq] at h ⊢;exact h
   | true=>
    simp only [hq] at h ⊢;cases h1:lk cv' j with
    | some u=>
     simp only [h1] at h;have:=hx.lk_ j u h1;simp only [this];exact h
    | none=>
     simp only [h1] at h;cases h3:lk cv j with
     | none=>exact h
     | some u=>have:=h2 j (by rw [h3];simp);rw [this] at h;cases h
 | const c=>exact h
 | func f=>exact h
 | global g=>exact h
theorem Does.cv {ops:List Oper} {ve cv cv':Env} {K:Value->FZ->HP->Prop} (hx:Sub cv' cv) (h2:∀ j,lk cv j≠none->lk ve j=none) (h:Does P cx o (rdc ops o σ ve cv') fz H K):Does P cx o (rdc ops o σ ve cv) fz H K:=
 Does.of fun ρ w hr hi=>h.run ρ w (fun x v hv=>hr x v (Yox hx h2 x v hv)) hi
theorem DoesQ.cv {ops:List Oper} {ve cv cv':Env} {V:Value->Prop} (hx:Sub cv' cv) (h2:∀ j,lk cv j≠none->lk ve j=none) (h:DoesQ P cx o (rdc ops o σ ve cv') fz H V):DoesQ P cx o (rdc ops o σ ve cv) fz H V:=by
 unfold DoesQ at h ⊢;obtain ⟨v,h1,h3⟩:=h;exact ⟨v,h1,fun ρ w hr hi=>h3 ρ w (fun x u hu=>hr x u (Yox hx h2 x u hu)) hi⟩
theorem Does.post {r:Operand->Option Value} {K:Value->FZ->HP->Prop} (h:Does P cx o r fz H fun v fz' H'=>∃ H1 H2,H'.Perm (H1++H2)/\∀ fz2,Le fz' fz2->(∀ p∈H2,fz2 p.1=some p.2)->K v fz2 H1):Does P cx o r fz H K:=
 Does.of fun ρ w hr hi=>(h.run ρ w hr hi).mono fun v w' hh=>by
  obtain ⟨fz',H',h1,H1,H2,hp,h2⟩:=hh;obtain ⟨fz2,h3,h4,h5⟩:=Wb H2 fz' H1 (h1.perm hp.symm);exact ⟨fz2,H1,h5,h2 fz2 h3 h4⟩
variable {i:Nat} {v:Value}
theorem Ypl {ve cv:Env} (h:lk ve i=none) (h2:∀ j,lk cv j≠none->lk ve j=none):∀ j,lk ((i,v)::cv) j≠none->lk ve j=none:=fun j hj=>by
 by_cases he:i=j
 ·rw [<- he];exact h
 rw [Y9 v cv he] at hj;exact h2 j hj
theorem rdc_ext {ops:List Oper} {ve cv cv':Env} (hx:VExt cv' cv) (h2:∀ j,lk cv j≠none->lk ve j=none):∀ x v,rdc ops o σ ve cv' x=some v->rdc ops o σ ve cv x=some v:=by
 intro x v h;cases x with
 | tmp t=>
  unfold rdc at h ⊢;cases hw:Ydj ops t 0 with
  | none=>simp only [hw] at h ⊢;exact h
  | some j=>
   simp only [hw] at h ⊢;cases hq:waits o j with
   | false=>simp only [hq] at h ⊢;exact h
   | true=>
    simp only [hq] at h ⊢;cases h1:lk cv' j with
    | some u=>
     simp only [h1] at h;have:=hx j u h1;simp only [this];exact h
    | none=>
     simp only [h1] at h;cases h3:lk cv j with
     | none=>exact h
     | some u=>have:=h2 j (by rw [h3];simp);rw [this] at h;cases h
 | const c=>exact h
 | func f=>exact h
 | global g=>exact h
variable {b:Bool}
theorem Yjq {ve cv cv':Env} (hx:VExt cv' cv) (h2:∀ j,lk cv j≠none->lk ve j=none) (h:Ydk o ve cv'=some b):Ydk o ve cv=some b:=by
 unfold Ydk at h ⊢;split
 ·rename_i hg;simp only [hg] at h;exact h
 rename_i j c hg;simp only [hg] at h;cases hw:waits o j with
 | false=>simp only [hw] at h;cases h
 | true=>
  simp only [hw] at h ⊢;cases h1:lk cv' j with
  | some u=>
   simp only [h1] at h;have:=hx j u h1;simp only [this];exact h
  | none=>
   simp only [h1] at h;cases h3:lk cv j with
   | none=>simp only;exact h
   | some u=>have:=h2 j (by rw [h3];simp);simp only [this] at h;cases h
theorem Po.ext {ops:List Oper} {pu:List Nat} {ve:Env} {fz0:FZ} {Hq:HP} {all:List (Nat × Oper)}:∀ (m:Nat) {rest:List (Nat × Oper)} {dn:Bool} {cv cv' τ:Env} {fz:FZ} {H:HP},VExt cv' cv->(∀ j,lk cv j≠none->lk ve j=none)->(∀ p∈rest,lk ve p.1=none)->
 Po P cx ops pu σ ve fz0 Hq Q all m rest dn cv' τ fz H->Po P cx ops pu σ ve fz0 Hq Q all m rest dn cv τ fz H
 | 0,rest,dn,cv,cv',τ,fz,H,_,_,_,h=>by unfold Po at h ⊢;exact h
 | m+1,rest,dn,cv,cv',τ,fz,H,hx,h2,hr,h=>by
  unfold Po at h ⊢;intro p hp hf;have hx2:∀ u,VExt ((p.1,u)::cv') ((p.1,u)::cv):=fun u j w hj=>by
   by_cases he:p.1=j
   ·subst he;rw [XV] at hj ⊢;exact hj
   rw [Y9 u _ he] at hj ⊢;exact hx j w hj
  have hr2:∀ q∈rest.filter fun q=>!Nat.beq q.1 p.1,lk ve q.1=none:=fun q hq=>hr q (List.mem_filter.1 hq).1
  rcases h p hp hf with ⟨hw,hd⟩ | ⟨hw,hn⟩
  ·exact .inl ⟨Yjq hx h2 hw,Does.of fun ρ w hrd hi=>(hd.run ρ w (fun x v hv=>hrd x v (rdc_ext hx h2 x v hv)) hi).mono fun v w' ⟨fz',H',h3,h4,h5⟩=>⟨fz',H',h3,h4,Po.ext m (hx2 v) (Ypl (hr p hp) h2) hr2 h5⟩⟩
  exact .inr ⟨Yjq hx h2 hw,Po.ext m (hx2 undef) (Ypl (hr p hp) h2) hr2 hn⟩
theorem Po.cv {ops:List Oper} {pu:List Nat} {ve:Env} {fz0:FZ} {Hq:HP} {all:List (Nat × Oper)} {m:Nat} {rest:List (Nat × Oper)} {dn:Bool} {cv τ:Env} (cv':Env) (hx:Sub cv' cv) (h2:∀ j,lk cv j≠none->lk ve j=none) (hr:(rest.all fun p=>(lk ve p.1).isNone)=true)
 (h:Po P cx ops pu σ ve fz0 Hq Q all m rest dn cv' τ fz H):Po P cx ops pu σ ve fz0 Hq Q all m rest dn cv τ fz H:=
 Po.ext m (fun j v hj=>hx.lk_ j v hj) h2 (fun p hp=>by
  have:=List.all_eq_true.1 hr p hp;cases h0:lk ve p.1 with
  | none=>rfl
  | some u=>rw [h0] at this;cases this) h
def upB (A B:List (Nat × Oper)) (t M:Nat):Bool:=
 (A.all fun a=>Nat.blt a.1 M && (Nat.beq a.1 t || A.any fun b=>Nat.blt a.1 b.1 && waits b.2 a.1)) && (B.all fun b=>waits b.2 t || B.any fun c=>waits b.2 c.1)
def DagOps (P:Program) (cx:Cx) (ops:List Oper) (σ ve:Env) (fz:FZ) (H:HP) (idx:List Nat) (V:Nat->Value->FZ->Prop) (A:List (Nat × Oper)):Prop:=
 ∀ p∈A,∀ cv fz1,Le fz fz1->(∀ j,lk cv j≠none->lk ve j=none)->(∀ j,waits p.2 j=true->inI idx j=true->∃ v,lk cv j=some v/\V j v fz1)->
  Ydk p.2 ve cv=some true/\Does P cx p.2 (rdc ops p.2 σ ve cv) fz1 H fun v fz' H'=>H'=H/\Le fz1 fz'/\V p.1 v fz'
theorem DagOps.nil {ops:List Oper} {ve:Env} {idx:List Nat} {V:Nat->Value->FZ->Prop} {A:List (Nat × Oper)} (hA:A=[]):DagOps P cx ops σ ve fz H idx V A:=by
 subst hA;intro p hp;cases hp
theorem DagOps.step {ops:List Oper} {ve:Env} {idx:List Nat} {V:Nat->Value->FZ->Prop} {A r:List (Nat × Oper)} {d:Nat} {op:Op} {ty:TypeId} {pos:String} {af:Array Edge}
 (h:∀ cv fz1,Le fz fz1->(∀ j,lk cv j≠none->lk ve j=none)->(∀ j,waits ⟨some d,op,ty,pos,af,none⟩ j=true->inI idx j=true->∃ v,lk cv j=some v/\V j v fz1)->
  Does P cx ⟨some d,op,ty,pos,af,none⟩ (rdc ops ⟨some d,op,ty,pos,af,none⟩ σ ve cv) fz1 H fun v fz' H'=>H'=H/\Le fz1 fz'/\V i v fz') (hr:DagOps P cx ops σ ve fz H idx V r) (hA:A=(i,⟨some d,op,ty,pos,af,none⟩)::r:=by exact rfl):DagOps P cx ops σ ve fz H idx V A:=by
 subst hA;intro p hp cv fz1 hle h2 hd;rcases List.mem_cons.1 hp with rfl | hp
 ·exact ⟨rfl,h cv fz1 hle h2 hd⟩
 exact hr p hp cv fz1 hle h2 hd
theorem WG {l:List (Nat × Oper)}:inCh l i=true↔∃ p∈l,p.1=i:=by
 unfold inCh;rw [List.any_eq_true];exact ⟨fun ⟨p,hp,h⟩=>⟨p,hp,Nat.eq_of_beq_eq_true h⟩,fun ⟨p,hp,h⟩=>⟨p,hp,by rw [h,Nat.beq_refl]⟩⟩
theorem YoR {l:List (Nat × Oper)}:YaF l=true->∀ {p q},p∈l->q∈l->p.1=q.1->p=q:=by
 induction l with
 | nil=>intro _ p q hp;cases hp
 | cons x r ih=>
  intro hn p q hp hq he;simp only [YaF,Bool.and_eq_true] at hn;rcases List.mem_cons.1 hp with rfl | hp'
  ·rcases List.mem_cons.1 hq with rfl | hq'
   ·rfl
   exact absurd he.symm (Yg4 (List.all_eq_true.1 hn.1 q hq'))
  rcases List.mem_cons.1 hq with rfl | hq'
  ·exact absurd he (Yg4 (List.all_eq_true.1 hn.1 p hp'))
  exact ih hn.2 hp' hq' he
theorem Po.dag (idx:List Nat) (t M:Nat) (V:Nat->Value->FZ->Prop) {ops:List Oper} {pu:List Nat} {ve τ:Env} {fz0:FZ} {Hq:HP} {all all0 A B:List (Nat × Oper)} {dn0:Bool} (hA:all0.filter (fun q=>inI idx q.1)=A) (hB:all0.filter (fun q=>!inI idx q.1)=B)
 (hnd:YaF all0=true) (hup:upB A B t M=true) (hve:(A.all fun a=>(lk ve a.1).isNone)=true) (hidx:(idx.all fun j=>inCh A j)=true) (hV:∀ i v fz fz',Le fz fz'->V i v fz->V i v fz') (hk:Keep fz0 Hq fz H)
 (hop:DagOps P cx ops σ ve fz H idx V A)
 (hfin:∀ dn cv τ1 fz1,Le fz fz1->(∀ j,lk cv j≠none->lk ve j=none)->(∀ j,inCh A j=true->∃ v,lk cv j=some v/\V j v fz1)->(∀ s,(A.all fun a=>match a.2.dst with | some d=>!Nat.beq d s | none=>true)=true->lk τ1 s=lk τ s)->
  Po P cx ops pu σ ve fz0 Hq Q all B.length B dn cv τ1 fz1 H):
 Po P cx ops pu σ ve fz0 Hq Q all all0.length all0 dn0 [] τ fz H:=by
 have hAm:∀ a,a∈A↔a∈all0/\inI idx a.1=true:=fun a=>by rw [<- hA,List.mem_filter]
 have hAi:∀ j,inCh A j=true->inI idx j=true:=fun j hj=>by
  obtain ⟨p,hp,e⟩:=WG.1 hj;rw [<- e];exact ((hAm p).1 hp).2
 unfold upB at hup;rw [Bool.and_eq_true] at hup;obtain ⟨hu1,hu2⟩:=hup;have main:∀ (k:Nat) (rest:List (Nat × Oper)) (dn:Bool) (cv τ1:Env) (fz1:FZ),(rest.filter fun q=>inI idx q.1).length=k->YaF rest=true->(∀ q∈rest,q∈all0)->(rest.filter fun q=>!inI idx q.1)=B->Le fz fz1->
  (∀ j v,lk cv j=some v->inCh A j=true)->
  (∀ a∈A,inCh rest a.1=true\/((∃ v,lk cv a.1=some v/\V a.1 v fz1)/\∀ q∈rest,waits a.2 q.1=false))->
  (∀ s,(A.all fun a=>match a.2.dst with | some d=>!Nat.beq d s | none=>true)=true->lk τ1 s=lk τ s)->
  Po P cx ops pu σ ve fz0 Hq Q all rest.length rest dn cv τ1 fz1 H:=by
  intro k
  induction k with
  | zero=>
   intro rest dn cv τ1 fz1 hk0 hn hsub hBr hle hcv hst hτ;have hnil:(rest.filter fun q=>inI idx q.1)=[]:=List.length_eq_zero_iff.1 hk0;have hno:∀ q∈rest,inI idx q.1=false:=fun q hq=>by
    cases h:inI idx q.1 with
    | false=>rfl
    | true=>have:q∈rest.filter fun q=>inI idx q.1:=List.mem_filter.2 ⟨hq,h⟩;rw [hnil] at this;cases this
   have hrest:rest=B:=by rw [<- hBr];exact (List.filter_eq_self.2 (fun q hq=>by rw [hno q hq];rfl)).symm
   rw [hrest];refine hfin dn cv τ1 fz1 hle (fun j hj=>?_) (fun j hj=>?_) hτ
   ·cases hl:lk cv j with
    | none=>exact absurd hl hj
    | some v=>
     obtain ⟨p,hp,e⟩:=WG.1 (hcv j v hl);have:=List.all_eq_true.1 hve p hp;rw [e] at this;cases h0:lk ve j with
     | none=>rfl
     | some u=>rw [h0] at this;cases this
   obtain ⟨p,hp,e⟩:=WG.1 hj;rcases hst p hp with h | h
   ·obtain ⟨q,hq,e2⟩:=WG.1 h;have:=hno q hq;rw [e2,((hAm p).1 hp).2] at this;cases this
   rw [<- e];exact h.1
  | succ k ih=>
   intro rest dn cv τ1 fz1 hk0 hn hsub hBr hle hcv hst hτ;have h2:∀ j,lk cv j≠none->lk ve j=none:=fun j hj=>by
    cases hl:lk cv j with
    | none=>exact absurd hl hj
    | some v=>
     obtain ⟨p,hp,e⟩:=WG.1 (hcv j v hl);have:=List.all_eq_true.1 hve p hp;rw [e] at this;cases h0:lk ve j with
     | none=>rfl
     | some u=>rw [h0] at this;cases this
   -- the last of the free ones is still to come
   have htop:inCh rest t=true:=by
    have hup2:∀ (m:Nat) (a:Nat × Oper),M - a.1<=m->a∈A->inCh rest a.1=true->inCh rest t=true:=by
     intro m
     induction m with
     | zero=>
      intro a hm ha _;have h1:=List.all_eq_true.1 hu1 a ha;rw [Bool.and_eq_true] at h1;have:a.1<M:=Nat.le_of_ble_eq_true h1.1;omega
     | succ m ihm=>
      intro a hm ha hr;have h1:=List.all_eq_true.1 hu1 a ha;rw [Bool.and_eq_true,Bool.or_eq_true] at h1;rcases h1.2 with h3 | h3
      ·rw [<- Nat.eq_of_beq_eq_true h3];exact hr
      obtain ⟨b,hb,h4⟩:=List.any_eq_true.1 h3;rw [Bool.and_eq_true] at h4;have hlt:a.1<b.1:=Nat.le_of_ble_eq_true h4.1;have hM:a.1<M:=Nat.le_of_ble_eq_true h1.1;refine ihm b Zi hb ?_;rcases hst b hb with h5 | h5
      ·exact h5
      obtain ⟨q,hq,e⟩:=WG.1 hr;have:=h5.2 q hq;rw [e,h4.2] at this;cases this
    have hex:∃ q∈rest,inI idx q.1=true:=by
     cases hf:rest.filter fun q=>inI idx q.1 with
     | nil=>rw [hf] at hk0;simp at hk0
     | cons x r=>
      have:x∈rest.filter fun q=>inI idx q.1:=by rw [hf];simp
      exact ⟨x,(List.mem_filter.1 this).1,(List.mem_filter.1 this).2⟩
    obtain ⟨q,hq,hqi⟩:=hex;exact hup2 _ q (Zs _) ((hAm q).2 ⟨hsub q hq,hqi⟩) (WG.2 ⟨q,hq,rfl⟩)
   have hlen:∃ m,rest.length=m+1:=by
    cases rest with
    | nil=>simp at hk0
    | cons x r=>exact ⟨r.length,rfl⟩
   obtain ⟨m,hm⟩:=hlen;rw [hm];unfold Po;intro p hp hfree;have hpA:p∈A:=by
    refine (hAm p).2 ⟨hsub p hp,?_⟩;cases hpi:inI idx p.1 with
    | true=>rfl
    | false=>
     exfalso;have hpB:p∈B:=by rw [<- hBr];exact List.mem_filter.2 ⟨hp,by rw [hpi];rfl⟩
     have h1:=List.all_eq_true.1 hu2 p hpB;rw [Bool.or_eq_true] at h1;rcases h1 with h1 | h1
     ·obtain ⟨q,hq,e⟩:=WG.1 htop;have:=List.all_eq_true.1 hfree q hq;rw [e,h1] at this;cases this
     obtain ⟨c,hc,h3⟩:=List.any_eq_true.1 h1;rw [<- hBr] at hc;have:=List.all_eq_true.1 hfree c (List.mem_filter.1 hc).1;rw [h3] at this;cases this
   have hwt:∀ q∈rest,waits p.2 q.1=false:=fun q hq=>by
    have:=List.all_eq_true.1 hfree q hq;cases h:waits p.2 q.1 with
    | false=>rfl
    | true=>rw [h] at this;cases this
   have hidx':∀ j,inI idx j=true->inCh A j=true:=fun j hj=>by
    unfold inI at hj;obtain ⟨x,hx,e⟩:=List.any_eq_true.1 hj;rw [<- Nat.eq_of_beq_eq_true e];exact List.all_eq_true.1 hidx x hx
   have hdep:∀ j,waits p.2 j=true->inI idx j=true->∃ v,lk cv j=some v/\V j v fz1:=by
    intro j hj hji;obtain ⟨a,ha,rfl⟩:=WG.1 (hidx' j hji);rcases hst a ha with h | h
    ·obtain ⟨q,hq,e⟩:=WG.1 h;have:=hwt q hq;rw [e,hj] at this;cases this
    exact h.1
   obtain ⟨hw,hD⟩:=hop p hpA cv fz1 hle h2 hdep;have hlen2:=Ydf hn hp;have hlm:m=(rest.filter fun q=>!Nat.beq q.1 p.1).length:=by omega
   have hnot:inCh (rest.filter fun q=>!Nat.beq q.1 p.1) p.1=false:=by
    cases h:inCh (rest.filter fun q=>!Nat.beq q.1 p.1) p.1 with
    | false=>rfl
    | true=>
     obtain ⟨q,hq,e⟩:=WG.1 h;have:=(List.mem_filter.1 hq).2;exact absurd e (Yg4 this)
   have hpi:inI idx p.1=true:=((hAm p).1 hpA).2;refine .inl ⟨hw,Does.of fun ρ w hr hi=>(hD.run ρ w hr hi).mono fun v w' hh=>?_⟩;obtain ⟨fz',H',h1,rfl,hle2,hv⟩:=hh;have hHk:Keep fz0 Hq fz' H':=⟨hk.1.trans (hle.trans hle2),hk.2⟩;refine ⟨fz',H',h1,.inr hHk,?_⟩;rw [hlm];refine ih _ _ _ _ fz' ?_ (YaX hn) (fun q hq=>hsub q (List.mem_filter.1 hq).1) ?_ (hle.trans hle2) (fun j u hj=>?_) (fun a ha=>?_) (fun s hs=>?_)
   ·have e1:(rest.filter fun q=>!Nat.beq q.1 p.1).filter (fun q=>inI idx q.1)=(rest.filter fun q=>inI idx q.1).filter (fun q=>!Nat.beq q.1 p.1):=by
     rw [List.filter_filter,List.filter_filter]
     congr 1;funext q;exact Bool.and_comm _ _
    rw [e1];have:=Ydf (YaX (f:=fun q=>inI idx q.1) hn) (List.mem_filter.2 ⟨hp,hpi⟩);omega
   ·rw [<- hBr,List.filter_filter];refine List.filter_congr fun q hq=>?_
    by_cases he:q.1=p.1
    ·rw [he,hpi];rfl
    rw [YhI he,Bool.and_true]
   ·by_cases he:p.1=j
    ·rw [<- he];exact WG.2 ⟨p,hpA,rfl⟩
    rw [Y9 v cv he] at hj;exact hcv j u hj
   ·by_cases he:p.1=a.1
    ·have:a=p:=YoR hnd ((hAm a).1 ha).1 (hsub p hp) he.symm;subst this;exact .inr ⟨⟨v,XV _ _ _,hv⟩,fun q hq=>hwt q (List.mem_filter.1 hq).1⟩
    rcases hst a ha with h | ⟨⟨u,hu,hVu⟩,h⟩
    ·obtain ⟨q,hq,e⟩:=WG.1 h;exact .inl (WG.2 ⟨q,List.mem_filter.2 ⟨hq,YhI (fun h0=>he (h0.symm.trans e))⟩,e⟩)
    exact .inr ⟨⟨u,by rw [Y9 v cv he];exact hu,hV _ _ _ _ hle2 hVu⟩,fun q hq=>h q (List.mem_filter.1 hq).1⟩
   have hp1:=List.all_eq_true.1 hs p hpA;cases hd:p.2.dst with
   | none=>simp only;exact hτ s hs
   | some d=>
    simp only [hd] at hp1 ⊢;rw [Y9 v τ1 (Yg4 hp1)];exact hτ s hs
 refine main _ all0 dn0 [] τ fz rfl hnd (fun _ h=>h) hB Zd (fun j v h=>by cases h) (fun a ha=>.inl (WG.2 ⟨a,((hAm a).1 ha).1,rfl⟩)) (fun _ _=>rfl)
end
attribute [irreducible] DagOps
section
variable {P:Program} {cx:Cx} {σ:Env} {Q:QQ}
variable {ops:List Oper} {pu:List Nat} {ve:Env} {fz0:FZ} {Hq:HP} {all:List (Nat × Oper)}
variable {H:HP} {fz:FZ}
theorem Po.succ {m:Nat} {rest:List (Nat × Oper)} {dn:Bool} {cv τ:Env}:Po P cx ops pu σ ve fz0 Hq Q all (m+1) rest dn cv τ fz H↔∀ p∈rest,(rest.all fun q=>!waits p.2 q.1)=true->PoS P cx ops pu σ ve fz0 Hq Q all m (rest.filter fun q=>!Nat.beq q.1 p.1) dn cv τ fz H p.1 p.2:=by
 unfold Po PoS;exact Iff.rfl
end
theorem Po.three {P:Program} {cx:Cx} {l:List Oper} {pu:List Nat} {σ' ve cv τ:Env} {fz0:FZ} {Hq:HP} {Q:QQ} {all rest r1 r2 r3:List (Nat × Oper)} {m:Nat} {dn:Bool} {o2 o3:Oper}
 (a:PoS P cx l pu σ' ve fz0 Hq Q all m r1 dn cv τ fz H i o) (b:PoS P cx l pu σ' ve fz0 Hq Q all m r2 dn cv τ fz H j o2) (c:PoS P cx l pu σ' ve fz0 Hq Q all m r3 dn cv τ fz H k o3) (hr:Yl8 rest=[(i,o),(j,o2),(k,o3)]:=by exact rfl) (h1:(rest.filter fun q=>!Nat.beq q.1 i)=r1:=by exact rfl) (h2:(rest.filter fun q=>!Nat.beq q.1 j)=r2:=by exact rfl) (h3:(rest.filter fun q=>!Nat.beq q.1 k)=r3:=by exact rfl):Po P cx l pu σ' ve fz0 Hq Q all (m+1) rest dn cv τ fz H:=by
 unfold PoS at a b c;unfold Po;intro p hp hfree;have:=Go.Lx.mem_ready hp hfree;rw [hr,List.mem_cons,List.mem_cons,List.mem_singleton] at this;rcases this with this | this | this
 ·subst this;rw [h1];exact a
 ·subst this;rw [h2];exact b
 subst this;rw [h3];exact c
end Go.Lx
namespace Go.Proofs.YtdbfccanbbbjkaaGreatDoor
variable {S:List Atom} {a:Atom} {fz:FZ} {m:List (Bs × Value)}
theorem Yig (h:SetM fz m S) (ha:AtmOk a):∃ (y1:Bs) (y2:Option Addr) (y3 y4:Nat),(fndS m (keyB a) 0).elim (Value.agg #[Ze,Zn]) (·.2)=.agg #[Zy y1,Zc y2 y3 y4]/\(fndS m (keyB a) 0).isSome=decide (a∈S):=by
 have hb:=h.has ha;cases hf:fndS m (keyB a) 0 with
 | none=>exact ⟨_,_,_,_,rfl,by rw [<- hb,hf]⟩
 | some p=>
  have hpv:=(Yaw m (keyB a) 0 p.1 p.2 hf).2;rw [Nat.sub_zero] at hpv;have hlt:p.1<S.length:=by have:=(Zg hpv).1;rw [h.2.1] at this;exact this
  obtain ⟨b,hb2⟩:=Ye hlt;obtain ⟨_,vb,h2,h3⟩:=h.2.2 p.1 b hb2;rw [hpv] at h2;injection h2 with h2
  injection h2 with h2 h4
  obtain ⟨B,nb,cb,rfl,_⟩:=h3.args;exact ⟨b.name,B,nb,cb,h4,by rw [<- hb,hf]⟩
theorem YdF:∀ (s:Nat) {fz:FZ} {v vat va vp ve vk:Value} {K:Kn} {gs:Nat} {m:List (Bs × Value)} {S:List Atom} {E:EnvM} {f:Formula},SizeOf.sizeOf f<=s->KnR fz v K->(∀ o∈K.os,PlnS o.name)->fz gs=some (mapS m)->SetM fz m S->FormulaR fz f va vp ve vk->HSh f->EnvR fz vat E->EnvP E->
 QFn prog 69 [v,.map (some gs),.agg #[Zy f.op,Zy f.name,va,vp,ve,vk],vat] fz (Zo (holdsM K S E f))
 | 0,_,_,_,_,_,_,_,_,_,_,_,_,f,hse,_,_,_,_,_,_,_,_=>by cases f;simp at hse
 | s+1,fz,v,vat,va,vp,ve,vk,K,gs,m,S,E,f,hse,hK,hOs,hgs,hSet,hR,hS,hE,hP=>by
  have hR0:=hR;obtain ⟨⟨B1,m1,d1,rfl,ia⟩,⟨B2,m2,d2,rfl,ip⟩,⟨B3,m3,d3,rfl,ie⟩,⟨B4,m4,d4,rfl,ik⟩⟩:=hR.sls;have l1:=ia.len;have l2:=ip.len;have l4:=ik.len;have hps:=hS.pars;have hK0:=hK;obtain ⟨⟨gk,a0,a1,a2,a3,a4,a5,a6,a7,a8,a9,a10,a11,a12,a13,a14,a15,a16,a17,vf,Ao,no,co,gc,gi,mc,mi,rfl,hg,hF,hO,h5,h6,h7,h8⟩,hw,hmany⟩:=hK;have hE0:=hE;obtain ⟨ge,me,rfl,hge,hne,hee⟩:=hE;have ihk:∀ {fz':FZ} {E':EnvM} {vat' wa wp we wk:Value} {x:Formula},x∈f.kids->Le fz fz'->EnvR fz' vat' E'->EnvP E'->FormulaR fz' x wa wp we wk->QFn prog 69 [Zp gk,.map (some gs),.agg #[Zy x.op,Zy x.name,wa,wp,we,wk],vat'] fz' (Zo (holdsM K S E' x)):=
   fun hx hle hE' hP' hRx=>YdF s (by have:=Formula.kids_lt hx;omega) (hK0.mono hle) hOs (hle _ _ hgs) (hSet.mono hle) hRx (hS.kid hx) hE' hP'
  refine qF Tryz.func69 Tryz.ntmps69 (fun w0=>?_);refine pX (fun g4=>?_);refine pY (fun g5=>?_);refine pY (fun g6=>?_);refine pY (fun g7=>?_);refine zWO ?_;by_cases w1:f.op=kAtom
  ·have hat:=hS.atom w1;have hok:=Yp4 hP hat;obtain ⟨y1,y2,y3,y4,hlk1,hlk2⟩:=Yig hSet hok;refine zWN ?_;refine Yam [] [_,_,_,_] ?_;refine zW ?_;refine pT ?_;refine Yy ?_ ?_
   ·refine Yd (Yj [] [_,_,_,_] Zz (Yg3 hE0 (fun x y h=>(hP x y h).1) ia Zi (Nat.le_trans hat.1.1 Zh)) (fun v2 fz2 H2 hle2 hR2=>⟨⟨hle2,Zx⟩,?_⟩));obtain ⟨rfl,va2,rfl,hRa⟩:=hR2;obtain ⟨Aa,na,ca,rfl,_⟩:=id hRa.args;refine Yy ?_ ?_
    ·refine PoS.qk ⟨hle2,Zx⟩ (Yt (Yj9 hRa hok) ?_);refine Yy ?_ ?_
     ·refine PoS.qk ⟨hle2,Zx⟩ (YV (hle2 _ _ hgs) ?_ (hv:=hlk1) (hb:=hlk2));refine Yy ?_ ?_
      ·refine PoS.qk ⟨hle2,Zx⟩ (WA ?_);refine Po.three ?_ ?_ ?_
       ·refine PoS.qk ⟨hle2,Zx⟩ (Yp ?_);refine Yy ?_ ?_
        ·refine PoS.qk ⟨hle2,Zx⟩ (Yp ?_);refine Ya ?_;refine Yd (YS (fun _=>⟨⟨hle2,Zx⟩,?_⟩));refine Ya ?_;refine PoS.hard0 (Yw ?_);refine pD ?_;exact wR (h:=by rw [YQ f,if_pos w1];rfl)
        refine Yd (YS (fun _=>⟨⟨hle2,Zx⟩,?_⟩));refine Yy ?_ ?_
        ·refine PoS.qk ⟨hle2,Zx⟩ (Yp ?_);refine Ya ?_;refine PoS.hard0 (Yw ?_);refine pD ?_;exact wR (h:=by rw [YQ f,if_pos w1];rfl)
        refine PoS.hard0 (Yw ?_);refine Ya ?_;refine PoS.qk ⟨hle2,Zx⟩ (Yp ?_);refine pD ?_;exact wR (h:=by rw [YQ f,if_pos w1];rfl)
       ·refine PoS.qk ⟨hle2,Zx⟩ (Yp ?_);refine Yy ?_ ?_
        ·refine PoS.qk ⟨hle2,Zx⟩ (Yp ?_);refine Ya ?_;refine Yd (YS (fun _=>⟨⟨hle2,Zx⟩,?_⟩));refine Ya ?_;refine PoS.hard0 (Yw ?_);refine pD ?_;exact wR (h:=by rw [YQ f,if_pos w1];rfl)
        refine Yd (YS (fun _=>⟨⟨hle2,Zx⟩,?_⟩));refine Ya ?_;refine PoS.qk ⟨hle2,Zx⟩ (Yp ?_);refine Ya ?_;refine PoS.hard0 (Yw ?_);refine pD ?_;exact wR (h:=by rw [YQ f,if_pos w1];rfl)
       refine Yd (YS (fun _=>⟨⟨hle2,Zx⟩,?_⟩));refine Yy ?_ ?_
       ·refine PoS.qk ⟨hle2,Zx⟩ (Yp ?_);refine Yy ?_ ?_
        ·refine PoS.qk ⟨hle2,Zx⟩ (Yp ?_);refine Ya ?_;refine PoS.hard0 (Yw ?_);refine pD ?_;exact wR (h:=by rw [YQ f,if_pos w1];rfl)
        refine PoS.hard0 (Yw ?_);refine Ya ?_;refine PoS.qk ⟨hle2,Zx⟩ (Yp ?_);refine pD ?_;exact wR (h:=by rw [YQ f,if_pos w1];rfl)
       refine PoS.qk ⟨hle2,Zx⟩ (Yp ?_);refine Ya ?_;refine PoS.qk ⟨hle2,Zx⟩ (Yp ?_);refine Ya ?_;refine PoS.hard0 (Yw ?_);refine pD ?_;exact wR (h:=by rw [YQ f,if_pos w1];rfl)
      refine Yd (YS (fun _=>⟨⟨hle2,Zx⟩,?_⟩));refine Ya ?_;refine PoS.qk ⟨hle2,Zx⟩ (WA ?_);refine Yy ?_ ?_
      ·refine PoS.qk ⟨hle2,Zx⟩ (Yp ?_);refine Yy ?_ ?_
       ·refine PoS.qk ⟨hle2,Zx⟩ (Yp ?_);refine Ya ?_;refine PoS.hard0 (Yw ?_);refine pD ?_;exact wR (h:=by rw [YQ f,if_pos w1];rfl)
       refine PoS.hard0 (Yw ?_);refine Ya ?_;refine PoS.qk ⟨hle2,Zx⟩ (Yp ?_);refine pD ?_;exact wR (h:=by rw [YQ f,if_pos w1];rfl)
      refine PoS.qk ⟨hle2,Zx⟩ (Yp ?_);refine Ya ?_;refine PoS.qk ⟨hle2,Zx⟩ (Yp ?_);refine Ya ?_;refine PoS.hard0 (Yw ?_);refine pD ?_;exact wR (h:=by rw [YQ f,if_pos w1];rfl)
     refine Yd (YS (fun _=>⟨⟨hle2,Zx⟩,?_⟩));refine Ya ?_;refine PoS.qk ⟨hle2,Zx⟩ (YV (hle2 _ _ hgs) ?_ (hv:=hlk1) (hb:=hlk2));refine Ya ?_;refine PoS.qk ⟨hle2,Zx⟩ (WA ?_);refine Yy ?_ ?_
     ·refine PoS.qk ⟨hle2,Zx⟩ (Yp ?_);refine Yy ?_ ?_
      ·refine PoS.qk ⟨hle2,Zx⟩ (Yp ?_);refine Ya ?_;refine PoS.hard0 (Yw ?_);refine pD ?_;exact wR (h:=by rw [YQ f,if_pos w1];rfl)
      refine PoS.hard0 (Yw ?_);refine Ya ?_;refine PoS.qk ⟨hle2,Zx⟩ (Yp ?_);refine pD ?_;exact wR (h:=by rw [YQ f,if_pos w1];rfl)
     refine PoS.qk ⟨hle2,Zx⟩ (Yp ?_);refine Ya ?_;refine PoS.qk ⟨hle2,Zx⟩ (Yp ?_);refine Ya ?_;refine PoS.hard0 (Yw ?_);refine pD ?_;exact wR (h:=by rw [YQ f,if_pos w1];rfl)
    refine Yd (YS (fun _=>⟨⟨hle2,Zx⟩,?_⟩));refine Ya ?_;refine PoS.qk ⟨hle2,Zx⟩ (Yt (Yj9 hRa hok) ?_);refine Ya ?_;refine PoS.qk ⟨hle2,Zx⟩ (YV (hle2 _ _ hgs) ?_ (hv:=hlk1) (hb:=hlk2));refine Ya ?_;refine PoS.qk ⟨hle2,Zx⟩ (WA ?_);refine Yy ?_ ?_
    ·refine PoS.qk ⟨hle2,Zx⟩ (Yp ?_);refine Yy ?_ ?_
     ·refine PoS.qk ⟨hle2,Zx⟩ (Yp ?_);refine Ya ?_;refine PoS.hard0 (Yw ?_);refine pD ?_;exact wR (h:=by rw [YQ f,if_pos w1];rfl)
     refine PoS.hard0 (Yw ?_);refine Ya ?_;refine PoS.qk ⟨hle2,Zx⟩ (Yp ?_);refine pD ?_;exact wR (h:=by rw [YQ f,if_pos w1];rfl)
    refine PoS.qk ⟨hle2,Zx⟩ (Yp ?_);refine Ya ?_;refine PoS.qk ⟨hle2,Zx⟩ (Yp ?_);refine Ya ?_;refine PoS.hard0 (Yw ?_);refine pD ?_;exact wR (h:=by rw [YQ f,if_pos w1];rfl)
   refine Yd (YS (fun _=>⟨⟨Zd,Zx⟩,?_⟩));refine Ya ?_;refine Yd (Yj [] [_,_,_,_,_] Zz (Yg3 hE0 (fun x y h=>(hP x y h).1) ia Zi (Nat.le_trans hat.1.1 Zh)) (fun v2 fz2 H2 hle2 hR2=>⟨⟨hle2,Zx⟩,?_⟩));obtain ⟨rfl,va2,rfl,hRa⟩:=hR2;obtain ⟨Aa,na,ca,rfl,_⟩:=id hRa.args;refine Ya ?_;refine PoS.qk ⟨hle2,Zx⟩ (Yt (Yj9 hRa hok) ?_);refine Ya ?_;refine PoS.qk ⟨hle2,Zx⟩ (YV (hle2 _ _ hgs) ?_ (hv:=hlk1) (hb:=hlk2));refine Ya ?_;refine PoS.qk ⟨hle2,Zx⟩ (WA ?_);refine Yy ?_ ?_
   ·refine PoS.qk ⟨hle2,Zx⟩ (Yp ?_);refine Yy ?_ ?_
    ·refine PoS.qk ⟨hle2,Zx⟩ (Yp ?_);refine Ya ?_;refine PoS.hard0 (Yw ?_);refine pD ?_;exact wR (h:=by rw [YQ f,if_pos w1];rfl)
    refine PoS.hard0 (Yw ?_);refine Ya ?_;refine PoS.qk ⟨hle2,Zx⟩ (Yp ?_);refine pD ?_;exact wR (h:=by rw [YQ f,if_pos w1];rfl)
   refine PoS.qk ⟨hle2,Zx⟩ (Yp ?_);refine Ya ?_;refine PoS.qk ⟨hle2,Zx⟩ (Yp ?_);refine Ya ?_;refine PoS.hard0 (Yw ?_);refine pD ?_;exact wR (h:=by rw [YQ f,if_pos w1];rfl)
  by_cases w2:f.op=kSame
  ·have h2:=hS.same w2;obtain ⟨x0,hx0⟩:=Ye (l:=f.args) (k:=0) Zi;obtain ⟨x1,hx1⟩:=Ye (l:=f.args) (k:=1) Zi;have hl0:0<m1:=by omega
   have hl1:1<m1:=by omega
   refine wI ia hx0 (fun p1 hp1=>?_);refine zH hp1 (fun hs1=>?_);refine wc (YkW (t:=x0) hE0) ?_;refine wI ia hx1 (fun p2 hp2=>?_);refine zH hp2 (fun hs2=>?_);refine wc (YkW (t:=x1) hE0) ?_;refine wG ?_;refine Yfe Zz Zz ?_;exact wR (h:=by rw [YQ f,if_neg w1,if_pos w2,hx0,hx1];rfl)
  by_cases w3:f.op=kNot
  ·obtain ⟨x,rest,hkd⟩:∃ x rest,f.kids=x::rest:=by
    cases hf:f.kids with
    | nil=>exact absurd hf (hS.head (.inl w3))
    | cons x rest=>exact ⟨x,rest,rfl⟩
   have hx:f.kids[0]?=some x:=by rw [hkd];rfl
   have hxm:=Zm hx;have hl0:0<m4:=by rw [<- l4,hkd];simp
   refine wI ik hx (fun p1 hp1=>?_);refine zL hp1 ?_;intro cs hcs;obtain ⟨wa,wp,we,wk,rfl,hRx⟩:=Yx hcs;obtain ⟨⟨E1,r1,q1,rfl,_⟩,⟨E2,r2,q2,rfl,_⟩,⟨E3,r3,q3,rfl,_⟩,⟨E4,r4,q4,rfl,_⟩⟩:=id hRx.sls;by_cases w4:x.op=kSame
   ·refine zW ?_;intros
    ((refine zG ?_);refine Yt (ihk hxm Zd hE0 hP hRx) ?_);exact wR (h:=by rw [YQ f,if_neg w1,if_neg w2,if_pos w3,hkd,notH,if_pos w4])
   have w5:x.op=kAtom:=(hS.neg w3 x hxm).resolve_right w4;have hat:=(hS.kid hxm).atom w5;have hok:=Yp4 hP hat;obtain ⟨y1,y2,y3,y4,hlk1,hlk2⟩:=Yig h8 hok;have iax:=hRx.args;obtain ⟨_,_,_,ex,iax⟩:=iax;injection ex with ex1 ex2 ex3
   subst ex1;subst ex2;subst ex3;have lax:=iax.len;refine zWN ?_;intros;rename_i g11
   first | refine Y8 (fun σ fz' H'=>σ=[(13,Zo (decide (bndA E x.name x.args∈K.init))),(11,Zp g11),(4,Zp g4)]/\Le fz fz'/\H'=[(g11,Zu #[Zy x.op,Zy x.name,Zc E1 r1 q1,Zc E2 r2 q2,Zc E3 r3 q3,Zc E4 r4 q4] 35),(g4,Zu #[Zp gk] 62)]) ?_ ?_ | refine YL (Y8 (fun σ fz' H'=>σ=[(13,Zo (decide (bndA E x.name x.args∈K.init))),(11,Zp g11),(4,Zp g4)]/\Le fz fz'/\H'=[(g11,Zu #[Zy x.op,Zy x.name,Zc E1 r1 q1,Zc E2 r2 q2,Zc E3 r3 q3,Zc E4 r4 q4] 35),(g4,Zu #[Zp gk] 62)]) ?_ ?_)
   ·refine zWN ?_;refine Yam [] [_,_,_,_,_] ?_;refine zW ?_;refine pT ?_;refine Yy ?_ ?_
    ·refine Yd (Yj [] [_,_,_,_,_] Zz (Yg3 hE0 (fun x y h=>(hP x y h).1) iax Zi (Nat.le_trans hat.1.1 Zh)) (fun v2 fz2 H2 hle2 hR2=>⟨⟨hle2,Zx⟩,?_⟩));obtain ⟨rfl,va2,rfl,hRa⟩:=hR2;obtain ⟨Aa,na,ca,rfl,_⟩:=id hRa.args;refine Yy ?_ ?_
     ·refine PoS.qk ⟨hle2,Zx⟩ (Yt (Yj9 hRa hok) ?_);refine Yy ?_ ?_
      ·refine PoS.qk ⟨hle2,Zx⟩ (YV (hle2 _ _ h7) ?_ (hv:=hlk1) (hb:=hlk2));refine Yy ?_ ?_
       ·refine PoS.qk ⟨hle2,Zx⟩ (WA ?_);refine Po.three ?_ ?_ ?_
        ·refine PoS.qk ⟨hle2,Zx⟩ (Yp ?_);refine Yy ?_ ?_
         ·refine PoS.qk ⟨hle2,Zx⟩ (Yp ?_);refine Ya ?_;refine Yd (YS (fun _=>⟨⟨hle2,Zx⟩,?_⟩));refine Ya ?_;refine PoS.hard0 (Yw ?_);refine pD ?_;exact wN (h:=by exact ⟨rfl,hle2,rfl⟩)
         refine Yd (YS (fun _=>⟨⟨hle2,Zx⟩,?_⟩));refine Yy ?_ ?_
         ·refine PoS.qk ⟨hle2,Zx⟩ (Yp ?_);refine Ya ?_;refine PoS.hard0 (Yw ?_);refine pD ?_;exact wN (h:=by exact ⟨rfl,hle2,rfl⟩)
         refine PoS.hard0 (Yw ?_);refine Ya ?_;refine PoS.qk ⟨hle2,Zx⟩ (Yp ?_);refine pD ?_;exact wN (h:=by exact ⟨rfl,hle2,rfl⟩)
        ·refine PoS.qk ⟨hle2,Zx⟩ (Yp ?_);refine Yy ?_ ?_
         ·refine PoS.qk ⟨hle2,Zx⟩ (Yp ?_);refine Ya ?_;refine Yd (YS (fun _=>⟨⟨hle2,Zx⟩,?_⟩));refine Ya ?_;refine PoS.hard0 (Yw ?_);refine pD ?_;exact wN (h:=by exact ⟨rfl,hle2,rfl⟩)
         refine Yd (YS (fun _=>⟨⟨hle2,Zx⟩,?_⟩));refine Ya ?_;refine PoS.qk ⟨hle2,Zx⟩ (Yp ?_);refine Ya ?_;refine PoS.hard0 (Yw ?_);refine pD ?_;exact wN (h:=by exact ⟨rfl,hle2,rfl⟩)
        refine Yd (YS (fun _=>⟨⟨hle2,Zx⟩,?_⟩));refine Yy ?_ ?_
        ·refine PoS.qk ⟨hle2,Zx⟩ (Yp ?_);refine Yy ?_ ?_
         ·refine PoS.qk ⟨hle2,Zx⟩ (Yp ?_);refine Ya ?_;refine PoS.hard0 (Yw ?_);refine pD ?_;exact wN (h:=by exact ⟨rfl,hle2,rfl⟩)
         refine PoS.hard0 (Yw ?_);refine Ya ?_;refine PoS.qk ⟨hle2,Zx⟩ (Yp ?_);refine pD ?_;exact wN (h:=by exact ⟨rfl,hle2,rfl⟩)
        refine PoS.qk ⟨hle2,Zx⟩ (Yp ?_);refine Ya ?_;refine PoS.qk ⟨hle2,Zx⟩ (Yp ?_);refine Ya ?_;refine PoS.hard0 (Yw ?_);refine pD ?_;exact wN (h:=by exact ⟨rfl,hle2,rfl⟩)
       refine Yd (YS (fun _=>⟨⟨hle2,Zx⟩,?_⟩));refine Ya ?_;refine PoS.qk ⟨hle2,Zx⟩ (WA ?_);refine Yy ?_ ?_
       ·refine PoS.qk ⟨hle2,Zx⟩ (Yp ?_);refine Yy ?_ ?_
        ·refine PoS.qk ⟨hle2,Zx⟩ (Yp ?_);refine Ya ?_;refine PoS.hard0 (Yw ?_);refine pD ?_;exact wN (h:=by exact ⟨rfl,hle2,rfl⟩)
        refine PoS.hard0 (Yw ?_);refine Ya ?_;refine PoS.qk ⟨hle2,Zx⟩ (Yp ?_);refine pD ?_;exact wN (h:=by exact ⟨rfl,hle2,rfl⟩)
       refine PoS.qk ⟨hle2,Zx⟩ (Yp ?_);refine Ya ?_;refine PoS.qk ⟨hle2,Zx⟩ (Yp ?_);refine Ya ?_;refine PoS.hard0 (Yw ?_);refine pD ?_;exact wN (h:=by exact ⟨rfl,hle2,rfl⟩)
      refine Yd (YS (fun _=>⟨⟨hle2,Zx⟩,?_⟩));refine Ya ?_;refine PoS.qk ⟨hle2,Zx⟩ (YV (hle2 _ _ h7) ?_ (hv:=hlk1) (hb:=hlk2));refine Ya ?_;refine PoS.qk ⟨hle2,Zx⟩ (WA ?_);refine Yy ?_ ?_
      ·refine PoS.qk ⟨hle2,Zx⟩ (Yp ?_);refine Yy ?_ ?_
       ·refine PoS.qk ⟨hle2,Zx⟩ (Yp ?_);refine Ya ?_;refine PoS.hard0 (Yw ?_);refine pD ?_;exact wN (h:=by exact ⟨rfl,hle2,rfl⟩)
       refine PoS.hard0 (Yw ?_);refine Ya ?_;refine PoS.qk ⟨hle2,Zx⟩ (Yp ?_);refine pD ?_;exact wN (h:=by exact ⟨rfl,hle2,rfl⟩)
      refine PoS.qk ⟨hle2,Zx⟩ (Yp ?_);refine Ya ?_;refine PoS.qk ⟨hle2,Zx⟩ (Yp ?_);refine Ya ?_;refine PoS.hard0 (Yw ?_);refine pD ?_;exact wN (h:=by exact ⟨rfl,hle2,rfl⟩)
     refine Yd (YS (fun _=>⟨⟨hle2,Zx⟩,?_⟩));refine Ya ?_;refine PoS.qk ⟨hle2,Zx⟩ (Yt (Yj9 hRa hok) ?_);refine Ya ?_;refine PoS.qk ⟨hle2,Zx⟩ (YV (hle2 _ _ h7) ?_ (hv:=hlk1) (hb:=hlk2));refine Ya ?_;refine PoS.qk ⟨hle2,Zx⟩ (WA ?_);refine Yy ?_ ?_
     ·refine PoS.qk ⟨hle2,Zx⟩ (Yp ?_);refine Yy ?_ ?_
      ·refine PoS.qk ⟨hle2,Zx⟩ (Yp ?_);refine Ya ?_;refine PoS.hard0 (Yw ?_);refine pD ?_;exact wN (h:=by exact ⟨rfl,hle2,rfl⟩)
      refine PoS.hard0 (Yw ?_);refine Ya ?_;refine PoS.qk ⟨hle2,Zx⟩ (Yp ?_);refine pD ?_;exact wN (h:=by exact ⟨rfl,hle2,rfl⟩)
     refine PoS.qk ⟨hle2,Zx⟩ (Yp ?_);refine Ya ?_;refine PoS.qk ⟨hle2,Zx⟩ (Yp ?_);refine Ya ?_;refine PoS.hard0 (Yw ?_);refine pD ?_;exact wN (h:=by exact ⟨rfl,hle2,rfl⟩)
    refine Yd (YS (fun _=>⟨⟨Zd,Zx⟩,?_⟩));refine Ya ?_;refine Yd (Yj [] [_,_,_,_,_,_] Zz (Yg3 hE0 (fun x y h=>(hP x y h).1) iax Zi (Nat.le_trans hat.1.1 Zh)) (fun v2 fz2 H2 hle2 hR2=>⟨⟨hle2,Zx⟩,?_⟩));obtain ⟨rfl,va2,rfl,hRa⟩:=hR2;obtain ⟨Aa,na,ca,rfl,_⟩:=id hRa.args;refine Ya ?_;refine PoS.qk ⟨hle2,Zx⟩ (Yt (Yj9 hRa hok) ?_);refine Ya ?_;refine PoS.qk ⟨hle2,Zx⟩ (YV (hle2 _ _ h7) ?_ (hv:=hlk1) (hb:=hlk2));refine Ya ?_;refine PoS.qk ⟨hle2,Zx⟩ (WA ?_);refine Yy ?_ ?_
    ·refine PoS.qk ⟨hle2,Zx⟩ (Yp ?_);refine Yy ?_ ?_
     ·refine PoS.qk ⟨hle2,Zx⟩ (Yp ?_);refine Ya ?_;refine PoS.hard0 (Yw ?_);refine pD ?_;exact wN (h:=by exact ⟨rfl,hle2,rfl⟩)
     refine PoS.hard0 (Yw ?_);refine Ya ?_;refine PoS.qk ⟨hle2,Zx⟩ (Yp ?_);refine pD ?_;exact wN (h:=by exact ⟨rfl,hle2,rfl⟩)
    refine PoS.qk ⟨hle2,Zx⟩ (Yp ?_);refine Ya ?_;refine PoS.qk ⟨hle2,Zx⟩ (Yp ?_);refine Ya ?_;refine PoS.hard0 (Yw ?_);refine pD ?_;exact wN (h:=by exact ⟨rfl,hle2,rfl⟩)
   rintro σ fz3 H' ⟨rfl,hle3,rfl⟩;have hg3:=hle3 _ _ hg;cases hc:K.chg x.name with
   | true=>
    refine wG ?_;refine WW (v:=Zo true) (hle3 _ _ h5) ?_ (hv:=by rw [Yhk];exact (h6 _).trans (by rw [hc]));exact wR (h:=by rw [YQ f,if_neg w1,if_neg w2,if_pos w3,hkd,notH,if_neg w4,hc];rfl)
   | false=>
    refine wG ?_;refine WW (v:=Zo false) (hle3 _ _ h5) ?_ (hv:=by rw [Yhk];exact (h6 _).trans (by rw [hc]));exact wR (h:=by rw [YQ f,if_neg w1,if_neg w2,if_pos w3,hkd,notH,if_neg w4,hc];rfl)
  by_cases w5:f.op=kAnd
  ·refine wG ?_;refine YX ?_
   (refine zG ?_);refine WE (fun fz' hle hf=>XJ (p:=fun x=>¬holdsM K S E x=true) (ik.mono hle) (fun x hx cs hcs=>by
    obtain ⟨wa,wp,we,wk,rfl,hRx⟩:=Yx hcs;rw [show decide (¬holdsM K S E x=true)=!(holdsM K S E x) from by cases holdsM K S E x<;>simp];exact holds1_q hRx rfl (hf _ (.tail _ (.tail _ (.tail _ (.head _))))) (hf _ (.tail _ (.tail _ (.head _)))) (hf _ (.head _)) (ihk hx hle (hE0.mono hle) hP hRx))) ?_
   exact wR (h:=by rw [YQ f,if_neg w1,if_neg w2,if_neg w3,if_pos w5,Yjc])
  by_cases w6:f.op=kOr
  ·refine wG ?_;refine YX ?_
   (refine zG ?_);refine WE (fun fz' hle hf=>XJ (p:=fun x=>holdsM K S E x=true) (ik.mono hle) (fun x hx cs hcs=>by
    obtain ⟨wa,wp,we,wk,rfl,hRx⟩:=Yx hcs;rw [show decide (holdsM K S E x=true)=holdsM K S E x from by cases holdsM K S E x<;>simp];exact holds2_q hRx rfl (hf _ (.tail _ (.tail _ (.tail _ (.head _))))) (hf _ (.tail _ (.tail _ (.head _)))) (hf _ (.head _)) (ihk hx hle (hE0.mono hle) hP hRx))) ?_
   exact wR (h:=by rw [YQ f,if_neg w1,if_neg w2,if_neg w3,if_neg w5,if_pos w6,Yi9])
  by_cases hq:QuF f.op
  ·obtain ⟨x,rest,hkd⟩:∃ x rest,f.kids=x::rest:=by
    cases hf:f.kids with
    | nil=>exact absurd hf (hS.head (.inr hq))
    | cons x rest=>exact ⟨x,rest,rfl⟩
   have hxm:x∈f.kids:=by rw [hkd];simp
   have hqq:=Yl9 f.params (hb:=fun E'=>headH K S E' f.kids) hK0 hOs hR0 hkd ip Zi hE0 hP (fun hle hE' hP' hRx=>by rw [hkd,headH];exact ihk hxm hle hE' hP' hRx);have e1:holdsM K S E f=quantV K (decide (f.op=kForall)) (fun E'=>headH K S E' f.kids) f.params E:=by rw [YQ f,if_neg w1,if_neg w2,if_neg w3,if_neg w5,if_neg w6,if_pos hq]
   rcases hq with w7 | w7
   ·refine wc hqq ?_;exact wR (h:=by rw [e1])
   have w8:¬f.op=kForall:=by rw [w7];decide+kernel
   refine wc hqq ?_;exact wR (h:=by rw [e1])
  have w7:¬f.op=kForall:=fun h=>hq (.inl h)
  have w8:¬f.op=kExists:=fun h=>hq (.inr h)
  exact wR (h:=by rw [YQ f,if_neg w1,if_neg w2,if_neg w3,if_neg w5,if_neg w6,if_neg hq])
end Go.Proofs.YtdbfccanbbbjkaaGreatDoor
namespace Go.Lx
open Go.RowKit
section
variable {P:Program} {cx:Cx} {r:Operand->Option Value} {fz fz0:FZ} {H:HP} {V:Value->Prop} {dst:Option Nat} {ty:TypeId} {pos:String} {af:Array Edge} {gd:Option (Nat × Bool)} {Q:QQ} {Hq:HP} {pu:List Nat} {σ' τ ve cv:Env} {l:List Oper} {all r1:List (Nat × Oper)} {i m d:Nat} {dn:Bool} {op:Op}
theorem PoS.qkG {g:Nat × Bool} (hk:Keep fz0 Hq fz H) (hw:Ydk ⟨some d,op,ty,pos,af,some g⟩ ve cv=some true) (h:DoesQ P cx ⟨some d,op,ty,pos,af,some g⟩ (rdc l ⟨some d,op,ty,pos,af,some g⟩ σ' ve cv) fz H fun v=>Po P cx l pu σ' ve fz0 Hq Q all m r1 (dn || allp l all pu ⟨some d,op,ty,pos,af,some g⟩) ((i,v)::cv) ((d,v)::τ) fz H):
 PoS P cx l pu σ' ve fz0 Hq Q all m r1 dn cv τ fz H i ⟨some d,op,ty,pos,af,some g⟩:=PoS.softG hw ((h.mono fun _ hv=>⟨hk,hv⟩).does)
theorem YeI {t k e:TypeId} {x:Operand} {X:Ty} {g:Nat} {m:List (Bs × Value)} (i:Nat) (h:V (Zk m.length)) (T:Tab P:=by exact T) (hT:T.inf t=some X:=by exact rfl) (hd:X.desc=.map k e:=by exact rfl) (hx:r x=some (.map (some g)):=by exact rfl) (hH:H[i]?=some (g,mapS m):=by exact rfl):
 DoesQ P cx ⟨dst,.call {callee:=.builtin .len,args:=#[x],argTypes:=#[t]},ty,pos,af,gd⟩ r fz H V:=
 DoesQ.of h fun ρ w hr hi=>by
  have hg:=(hi.hp.own _ (Zm hH)).1;have hu:=run_underlying (und_plain T hT hd rfl) w;have:(execOp ρ ⟨dst,.call {callee:=.builtin .len,args:=#[x],argTypes:=#[t]},ty,pos,af,gd⟩).run P w=.ok (.value (Zk m.length)) w:=by
   simp [execOp,resolve,invoke,builtin,hr _ _ hx,Builtin.len_,hu,goInt,WC hg,mapS,YdJ]
  rw [this];exact ⟨rfl,Fr.refl _ _⟩
end
end Go.Lx
namespace Go.Proofs.YtdbfccanbbbjkaaGreatDoor
variable {A:Option Addr} {E:EnvM} {K:Kn} {S:List Atom} {c n:Nat} {fz:FZ} {m:List (Bs × Value)} {vb:Value}
def addM (K:Kn) (c:Change):List Param->EnvM->List Atom->List Atom × Bool
 | [],E,S=>if bndA E c.name c.args ∉ S/\holdsM K S E c.when_=true then (S++ [bndA E c.name c.args],true) else (S,false)
 | p::ps,E,S=>(ofK K p.typ).foldl (fun r o=>if 4096<r.1.length then r else ((addM K c ps (setE E p.name o) r.1).1,(addM K c ps (setE E p.name o) r.1).2 || r.2)) (S,false)
def Wz (K:Kn) (l:List Change) (E:EnvM) (S:List Atom):List Atom × Bool:=
 l.foldl (fun r c=>((addM K c c.params E r.1).1,(addM K c c.params E r.1).2 || r.2)) (S,false)
theorem Ykj {f:List Atom × Bool->Bs->List Atom × Bool} (hf:∀ r o,4096<r.1.length->f r o=r):∀ (l:List Bs) (r:List Atom × Bool),4096<r.1.length->l.foldl f r=r
 | [],_,_=>rfl
 | o::l,r,h=>by rw [List.foldl_cons,hf r o h];exact Ykj hf l r h
structure CSh (c:Change):Prop where
 when_:HSh c.when_
 name:PlnS c.name
 nargs:c.args.length<=2000000
 args:∀ t∈c.args,PlnS t
 params:c.params.length<=2000000
theorem radd_f:∀ (ps:List Param) {fz:FZ} {K:Kn} {gr gk gs:Nat} {vs vb vd vat:Value} {S:List Atom} {m:List (Bs × Value)} {x:Change} {cs:List Value} {A:Option Addr} {n c:Nat} {E:EnvM},
 fz gr=some (Zu #[Zp gk,vs,.map (some gs),vb,vd] 73)->KnR fz (Zp gk) K->(∀ o∈K.os,PlnS o.name)->SetM fz m S->changeL.rep fz x cs->CSh x->Sl paramL fz A n c ps->n<=2000000->EnvR fz vat E->EnvP E->
 GFn prog 146 [Zp gr,.agg cs.toArray,Zc A n c,vat] fz [(gs,mapS m)] (fun r fz' H'=>r=Zo (addM K x ps E S).2/\∃ m',H'=[(gs,mapS m')]/\SetM fz' m' (addM K x ps E S).1)
 | ps,fz,K,gr,gk,gs,vs,vb,vd,vat,S,m,x,cs,A,n,c,E,hr,hK,hOs,hSet,hc,hC,hps,hn,hE,hP=>by
  obtain ⟨u1,u2,u3,u4,u5,u6,u7,u8,rfl,hR⟩:=Xf hc;obtain ⟨A1,n1,c1',rfl,_⟩:=id hR.params;obtain ⟨⟨A2,n2,c2',rfl,_⟩,⟨A3,n3,c3',rfl,_⟩,⟨A4,n4,c4',rfl,_⟩,⟨A5,n5,c5',rfl,_⟩⟩:=id hR.when_.sls;obtain ⟨A6,n6,c6',rfl,ia⟩:=id hR.args;obtain ⟨⟨A7,n7,c7',rfl,_⟩,⟨A8,n8,c8',rfl,_⟩⟩:=id hR.value.sls;have lp:=hps.len;have la:=ia.len;have hna:=hC.nargs;have hE0:=hE;obtain ⟨ge,me,rfl,hge,hne,hee⟩:=hE;refine zF Tryz.func146 Tryz.ntmps146 (fun w0=>?_);refine pX (fun g5=>?_);cases ps with
  | nil=>
   have:n=0:=by rw [<- lp];rfl
   subst this;have hok:=Yp4 (E:=E) hP ⟨hC.name,hC.nargs,hC.args⟩;refine wC ?_ ?_<;>intro c1
   ·refine zW ?_;refine Yc (Yj [] [_,_] Zz (Yg3 hE0 (fun x y h=>(hP x y h).1) ia Zi hR.name) (fun v2 fz2 H2 hle2 hR2=>?_));obtain ⟨rfl,va2,rfl,hRa⟩:=hR2;obtain ⟨Aa,na,ca,rfl,_⟩:=id hRa.args;have hr2:=hle2 _ _ hr;have hSet2:=hSet.mono hle2;obtain ⟨y1,y2,y3,y4,hlk1,hlk2⟩:=Yig hSet2 hok;generalize hbt:decide (bndA E x.name x.args∈S)=bt at hlk2;refine zWN ?_;intros;refine Yam [] [_,_,_] ?_;refine wc (Yj9 hRa hok) ?_;refine zG ?_;refine W9 (v:=.agg #[Zy y1,Zc y2 y3 y4]) (b:=bt) 2 hlk2 ?_ (hv:=hlk1);refine zW ?_;refine pT ?_;refine Ya ?_;refine Yd (YS (fun _=>⟨⟨Zd,Zx⟩,?_⟩));refine Ya ?_;refine PoS.soft0 (Yw ⟨⟨Zd,Zx⟩,?_⟩);refine Ya ?_;refine PoS.qk ⟨Zd,Zx⟩ (YO ?_);refine Po.done ?_;have hK2:=hK.mono hle2;cases bt with
    | true=>
     have hin:bndA E x.name x.args∈S:=Zt hbt;exact wR (h:=by exact ⟨by rw [addM,if_neg (fun h=>h.1 hin)],m,rfl,by rw [addM,if_neg (fun h=>h.1 hin)];exact hSet2⟩)
    | false=>
     have hin:bndA E x.name x.args ∉ S:=Zf hbt;cases hb:holdsM K S E x.when_ with
     | false=>
      refine wG ?_;refine Yg (vs:=[Zy x.when_.op,Zy x.when_.name,Zc A2 n2 c2',Zc A3 n3 c3',Zc A4 n4 c4',Zc A5 n5 c5']) 2 ?_;refine wG ?_;refine WE (fun fz' hle hf=>YdF _ (Zs _) (hK2.mono hle) hOs (hf (gs,mapS m) (by simp)) (hSet2.mono hle) (hR.when_.mono (hle2.trans hle)) hC.when_ (hE0.mono (hle2.trans hle)) hP) ?_;rw [hb];exact wR (h:=by exact ⟨by rw [addM,if_neg (fun h=>by rw [hb] at h;exact absurd h.2 Zh)],m,rfl,by rw [addM,if_neg (fun h=>by rw [hb] at h;exact absurd h.2 Zh)];exact hSet2⟩)
     | true=>
      refine zWN ?_;refine Yam [] [_,_,_,_] ?_
      repeat ((first | refine PK.q Zz ?_ | refine PK.yes Zz Zz ?_);(first | refine WA ?_ | refine YO ?_ | refine Xr ?_ | refine Yu 0 ?_ (hv:=by exact rfl) | refine Yu 1 ?_ (hv:=by exact rfl) | refine Yu 2 ?_ (hv:=by exact rfl) | refine Yu 3 ?_ (hv:=by exact rfl) | refine Yu 4 ?_ (hv:=by exact rfl) | refine Yu 5 ?_ (hv:=by exact rfl) | refine Yu 6 ?_ (hv:=by exact rfl) | refine Yu 7 ?_ (hv:=by exact rfl) | refine YB 0 ?_ | refine YB 1 ?_ | refine YB 2 ?_ | refine YB 3 ?_ | refine YB 4 ?_ | refine YB 5 ?_ | refine YB 6 ?_ | refine YB 7 ?_ | refine YcP T Zz Zz Zz (by assumption) Zz ?_ | refine Ya5 T Zz Zz Zz (by assumption) Zz ?_ | refine XA ?_ | refine YbB T Zz Zz Zz ?_ | refine Yp ?_ | refine W8 Zz ?_ | refine YjJ Zz ?_ | refine WD ?_ | refine WS Zz Zz ?_ | refine Yiq T Zz Zz Zz Zz Zz Zz ?_ | refine Yar T Zz Zz Zz ?_ | refine Yb4 T Zz Zz Zz Zz ?_ | refine YcR T Zz Zz Zz Zz ?_ | refine Ydb T Zz Zz Zz Zz ?_ | refine YdW T Zz Zz Zz Zz ?_ | refine YbC T Zz Zz Zz ?_ | refine XE ?_ | refine q_max Zz Zz ?_ | refine YeL Zz Zz (Xk Zi) ?_ | refine YoB Zz Zz (Xk Zi) ?_))
      (first | refine PK.q Zz ?_ | refine PK.yes Zz Zz ?_);refine Yg (vs:=[Zy x.when_.op,Zy x.when_.name,Zc A2 n2 c2',Zc A3 n3 c3',Zc A4 n4 c4',Zc A5 n5 c5']) 2 ?_
      repeat ((first | refine PK.q Zz ?_ | refine PK.yes Zz Zz ?_);(first | refine WA ?_ | refine YO ?_ | refine Xr ?_ | refine Yu 0 ?_ (hv:=by exact rfl) | refine Yu 1 ?_ (hv:=by exact rfl) | refine Yu 2 ?_ (hv:=by exact rfl) | refine Yu 3 ?_ (hv:=by exact rfl) | refine Yu 4 ?_ (hv:=by exact rfl) | refine Yu 5 ?_ (hv:=by exact rfl) | refine Yu 6 ?_ (hv:=by exact rfl) | refine Yu 7 ?_ (hv:=by exact rfl) | refine YB 0 ?_ | refine YB 1 ?_ | refine YB 2 ?_ | refine YB 3 ?_ | refine YB 4 ?_ | refine YB 5 ?_ | refine YB 6 ?_ | refine YB 7 ?_ | refine YcP T Zz Zz Zz (by assumption) Zz ?_ | refine Ya5 T Zz Zz Zz (by assumption) Zz ?_ | refine XA ?_ | refine YbB T Zz Zz Zz ?_ | refine Yp ?_ | refine W8 Zz ?_ | refine YjJ Zz ?_ | refine WD ?_ | refine WS Zz Zz ?_ | refine Yiq T Zz Zz Zz Zz Zz Zz ?_ | refine Yar T Zz Zz Zz ?_ | refine Yb4 T Zz Zz Zz Zz ?_ | refine YcR T Zz Zz Zz Zz ?_ | refine Ydb T Zz Zz Zz Zz ?_ | refine YdW T Zz Zz Zz Zz ?_ | refine YbC T Zz Zz Zz ?_ | refine XE ?_ | refine q_max Zz Zz ?_ | refine YeL Zz Zz (Xk Zi) ?_ | refine YoB Zz Zz (Xk Zi) ?_))
      (first | refine PK.q Zz ?_ | refine PK.yes Zz Zz ?_);refine WE (fun fz' hle hf=>YdF _ (Zs _) (hK2.mono hle) hOs (hf (gs,mapS m) (by simp)) (hSet2.mono hle) (hR.when_.mono (hle2.trans hle)) hC.when_ (hE0.mono (hle2.trans hle)) hP) ?_
      rw [hb]
      repeat ((first | refine PK.q Zz ?_ | refine PK.yes Zz Zz ?_);(first | refine WA ?_ | refine YO ?_ | refine Xr ?_ | refine Yu 0 ?_ (hv:=by exact rfl) | refine Yu 1 ?_ (hv:=by exact rfl) | refine Yu 2 ?_ (hv:=by exact rfl) | refine Yu 3 ?_ (hv:=by exact rfl) | refine Yu 4 ?_ (hv:=by exact rfl) | refine Yu 5 ?_ (hv:=by exact rfl) | refine Yu 6 ?_ (hv:=by exact rfl) | refine Yu 7 ?_ (hv:=by exact rfl) | refine YB 0 ?_ | refine YB 1 ?_ | refine YB 2 ?_ | refine YB 3 ?_ | refine YB 4 ?_ | refine YB 5 ?_ | refine YB 6 ?_ | refine YB 7 ?_ | refine YcP T Zz Zz Zz (by assumption) Zz ?_ | refine Ya5 T Zz Zz Zz (by assumption) Zz ?_ | refine XA ?_ | refine YbB T Zz Zz Zz ?_ | refine Yp ?_ | refine W8 Zz ?_ | refine YjJ Zz ?_ | refine WD ?_ | refine WS Zz Zz ?_ | refine Yiq T Zz Zz Zz Zz Zz Zz ?_ | refine Yar T Zz Zz Zz ?_ | refine Yb4 T Zz Zz Zz Zz ?_ | refine YcR T Zz Zz Zz Zz ?_ | refine Ydb T Zz Zz Zz Zz ?_ | refine YdW T Zz Zz Zz Zz ?_ | refine YbC T Zz Zz Zz ?_ | refine XE ?_ | refine q_max Zz Zz ?_ | refine YeL Zz Zz (Xk Zi) ?_ | refine YoB Zz Zz (Xk Zi) ?_))
      refine pT ?_;refine Ya ?_;refine PoS.hardG Zz Zj (Does.perm (H':=[(gs,mapS m),_,_,_]) (Zq (l₁:=[_]) (l₂:=[_,_,_])) (Yj [_] [_,_,_] Zz (add_f hSet2 hRa hok) (fun v5 fz5 H5 hle5 hR5=>?_)));obtain ⟨rfl,rfl,m5,rfl,hS5⟩:=hR5;rw [if_neg hin] at hS5;rw [decide_eq_true hin];refine Ya ?_;refine PoS.hard (DoesQ.does (WD ?_)) (hd:=rfl);refine Ya ?_;refine PoS.hard (DoesQ.does (YO ?_)) (hd:=rfl);refine Po.done ?_;exact wR (h:=by exact ⟨by rw [addM,if_pos ⟨hin,hb⟩],m5,rfl,by rw [addM,if_pos ⟨hin,hb⟩];exact hS5⟩)
   exact absurd rfl c1
  | cons p ps=>
   have hn1:n=ps.length+1:=by rw [<- lp];rfl
   subst hn1;have hp0:(p::ps)[0]?=some p:=rfl;have hcap:=hps.cap;refine wC ?_ ?_<;>intro c1
   ·exact absurd c1 Zi
   refine zWN ?_;refine Y0 [_,_] ?_;refine wI hps hp0 (fun p1 hp1=>?_);refine wH hp1.Param_typ (fun hst=>?_);refine Yk (Yk ?_);refine zW ?_;refine QK.dz ?_;refine Yf (Yj [] [_,_] Zz (kof_f (t:=p.typ) hK) (fun v4 fz4 H4 hle4 hR4=>⟨⟨hle4,Zx⟩,?_⟩));obtain ⟨rfl,Bo,mo,do_,rfl,hSo⟩:=hR4;have lo:=hSo.len;have so:=hSo.short;refine Ch.qk ⟨hle4,Zx⟩ (XA ?_);refine Ch.done ?_;generalize hF:(fun r o=>if 4096<r.1.length then r else ((addM K x ps (setE E p.name o) r.1).1,(addM K x ps (setE E p.name o) r.1).2 || r.2))=F;have hA:addM K x (p::ps) E S=(ofK K p.typ).foldl F (S,false):=by rw [addM,hF]
   have hF1:∀ r o,4096<r.1.length->F r o=r:=fun r o h=>by rw [<- hF];exact if_pos h
   have hF2:∀ (r:List Atom × Bool) o,¬4096<r.1.length->F r o=((addM K x ps (setE E p.name o) r.1).1,(addM K x ps (setE E p.name o) r.1).2 || r.2):=fun r o h=>by rw [<- hF];exact if_neg h
   refine zW ?_;refine Yl (fun q σ fz' H'=>∃ (k:Nat) (m:List (Bs × Value)) (Sk:List Atom) (nk:Bool),k<=mo/\q=mo - k/\σ=[(68,Zk k),(67,Zk mo),(66,Zc Bo mo do_),(12,Zo nk),(5,Zp g5),(3,.map (some ge)),(2,Zc A (ps.length+1) c),(0,Zp gr)]/\Le fz4 fz'/\H'=[(g5,Zu #[Zk x.kind,Zc A1 n1 c1',Zy x.when_.op,Zy x.when_.name,Zc A2 n2 c2',Zc A3 n3 c3',Zc A4 n4 c4',Zc A5 n5 c5',Zy x.name,Zc A6 n6 c6',Zy x.value.op,Zy x.value.name,Zk x.value.n,Zc A7 n7 c7',Zc A8 n8 c8'] 95),(gs,mapS m)]/\SetM fz' m Sk/\((ofK K p.typ).take k).foldl F (S,false)=(Sk,nk)) ⟨0,m,S,false,Z0 _,rfl,rfl,Zd,rfl,hSet.mono hle4,rfl⟩ Zw Zb ?_;rintro q σ fz5 H' ⟨k,m5,Sk,nk,hk5,rfl,rfl,hle5,rfl,hS5,hf5⟩;have hx5:=hle4.trans hle5;have hr5:=hx5 _ _ hr;refine wC ?_ ?_<;>intro c2
   ·obtain ⟨o,ho⟩:=Ye (l:=ofK K p.typ) (k:=k) Zi;have hom:=Zm ho;obtain ⟨po,hpo,epo⟩:=Ylg hom;have hoP:PlnS o:=epo ▸ hOs po hpo;have hsl:=hS5.2.1;refine wI (hSo.mono hle5) ho (fun p2 hp2=>?_);refine zH hp2 (fun hso=>?_);refine wG ?_;refine YeI 1 ?_;refine zC ?_ ?_<;>intro c3
    ·have hstop:addM K x (p::ps) E S=(Sk,nk):=by
      rw [hA,<- List.take_append_drop k (ofK K p.typ),List.foldl_append,hf5];exact Ykj hF1 _ _ (by show 4096<Sk.length;omega)
     exact wR (h:=by exact ⟨by rw [hstop],m5,rfl,by rw [hstop];exact hS5⟩)
    have hnext:((ofK K p.typ).take (k+1)).foldl F (S,false)=((addM K x ps (setE E p.name o) Sk).1,(addM K x ps (setE E p.name o) Sk).2 || nk):=by
     rw [List.take_add_one,ho,List.foldl_append,hf5];exact hF2 (Sk,nk) o (by show ¬4096<Sk.length;omega)
    refine zWN ?_;refine Yam [] [_] ?_;refine wG ?_;refine Yfd (j:=1) (hps.mono hx5) (fun A' hS'=>?_);refine wG ?_;refine Ylc (j:=1) ?_;refine zW ?_;refine Ys ?_;refine zW ?_;refine pT ?_;refine Ya ?_;refine Yd (Yb (cs:=[Zy o]) (fun gb=>⟨⟨Zd,Zx⟩,?_⟩));refine Ya ?_;refine Yd (Does.freeze (H1:=[_,_]) (H2:=[_]) (Zq (l₁:=[_])) (fun fz6 hle6 hf6=>?_));have hgb:Grow strL 9 fz5 (Zv gb 1 1) 1 [(gb,Zu #[Zy o] 9)] [o]:=
     Grow.block (ys:=[(o,[Value.string o])]) rfl rfl (by intro q hq;simp at hq;subst hq;exact ⟨rfl,hso⟩) rfl
    obtain ⟨B7,d7,e7,hS7⟩:=hgb.sl hle6 hf6 Zh;injection e7 with e71 e72 e73
    subst e71;subst e73;have hcut:=YpR (hps.mono (hx5.trans hle6)) (k:=1) Zi;refine Yj [] [_,_] Zz (env_f hcut hS7 (Zs _) (.inr (hE0.mono (hx5.trans hle6)))) (fun v7 fz7 H7 hle7 hR7=>⟨⟨hle6.trans hle7,Zx⟩,?_⟩);obtain ⟨rfl,hE7⟩:=hR7;have hE8:EnvR fz7 v7 (setE E p.name o):=hE7;have hx7:=hx5.trans (hle6.trans hle7);refine Ya ?_;refine Yd (Does.perm (H':=[(gs,mapS m5),_]) (List.Perm.swap _ _ _) (Does.after (Yj [_] [_] Zz (radd_f ps (hx7 _ _ hr) (hK.mono hx7) hOs (hS5.mono (hle6.trans hle7)) (YbL (hR.mono hx7)) hC (hS'.mono (hle6.trans hle7)) Zi hE8 (hP.set hoP)) (fun v8 fz8 H8 hle8 hR8=>?_))));obtain ⟨rfl,m8,rfl,hS8⟩:=hR8;refine ⟨[(g5,Zu #[Zk x.kind,Zc A1 n1 c1',Zy x.when_.op,Zy x.when_.name,Zc A2 n2 c2',Zc A3 n3 c3',Zc A4 n4 c4',Zc A5 n5 c5',Zy x.name,Zc A6 n6 c6',Zy x.value.op,Zy x.value.name,Zk x.value.n,Zc A7 n7 c7',Zc A8 n8 c8'] 95),(gs,mapS m8)],List.Perm.swap _ _ _,⟨hle6.trans (hle7.trans hle8),Zx⟩,?_⟩;refine Ya ?_;refine PoS.qk ⟨hle6.trans (hle7.trans hle8),Zx⟩ (WA ?_);generalize hb8:(addM K x ps (setE E p.name o) Sk).2=b8 at hnext;cases b8 with
    | true=>
     refine Ya ?_;refine PoS.skipG Zz ?_;refine Ya ?_;refine PoS.qk ⟨hle6.trans (hle7.trans hle8),Zx⟩ (WD ?_);refine Ya ?_;refine PoS.qk ⟨hle6.trans (hle7.trans hle8),Zx⟩ (YO ?_);refine Po.done ?_;exact wP (h:=by exact ⟨k+1,m8,_,true,by omega,rfl,rfl,hle5.trans (hle6.trans (hle7.trans hle8)),rfl,hS8,hnext⟩)
    | false=>
     refine Ya ?_;refine PoS.qkG ⟨hle6.trans (hle7.trans hle8),Zx⟩ Zz (WA ?_);refine Ya ?_;refine PoS.qk ⟨hle6.trans (hle7.trans hle8),Zx⟩ (WS Zz Zz ?_);refine Ya ?_;refine PoS.qk ⟨hle6.trans (hle7.trans hle8),Zx⟩ (YO ?_);refine Po.done ?_;exact wP (h:=by exact ⟨k+1,m8,_,nk,by omega,rfl,rfl,hle5.trans (hle6.trans (hle7.trans hle8)),rfl,hS8,hnext⟩)
   have hdone:addM K x (p::ps) E S=(Sk,nk):=by
    rw [Zl (show (ofK K p.typ).length<=k by omega)] at hf5;rw [hA,hf5]
   exact wR (h:=by exact ⟨by rw [hdone],m5,rfl,by rw [hdone];exact hS5⟩)
theorem adds_f {gr gk gs:Nat} {vs vd vat:Value} {l:List Change}
 (hr:fz gr=some (Zu #[Zp gk,vs,.map (some gs),vb,vd] 73)) (hK:KnR fz (Zp gk) K) (hOs:∀ o∈K.os,PlnS o.name) (hSet:SetM fz m S) (hl:Sl changeL fz A n c l) (hC:∀ x∈l,CSh x) (hE:EnvR fz vat E) (hP:EnvP E):
 GFn prog 70 [Zp gr,Zc A n c,vat] fz [(gs,mapS m)] (fun r fz' H'=>r=Zo (Wz K l E S).2/\∃ m',H'=[(gs,mapS m')]/\SetM fz' m' (Wz K l E S).1):=by
 have ll:=hl.len;have sl:=hl.short;have hE0:=hE;obtain ⟨ge,me,rfl,hge,hne,hee⟩:=hE;refine zF Tryz.func70 Tryz.ntmps70 (fun w0=>?_);generalize hF:(fun (r:List Atom × Bool) (c:Change)=>((addM K c c.params E r.1).1,(addM K c c.params E r.1).2 || r.2))=F;have hA:Wz K l E S=l.foldl F (S,false):=by rw [Wz,hF]
 have hF2:∀ (r:List Atom × Bool) x,F r x=((addM K x x.params E r.1).1,(addM K x x.params E r.1).2 || r.2):=fun r x=>by rw [<- hF]
 refine zW ?_;refine Yl (fun q σ fz' H'=>∃ (k:Nat) (m:List (Bs × Value)) (Sk:List Atom) (nk:Bool),k<=n/\q=n - k/\σ=[(12,Zk k),(11,Zk n),(10,Zc A n c),(7,Zo nk),(2,.map (some ge)),(0,Zp gr)]/\Le fz fz'/\H'=[(gs,mapS m)]/\SetM fz' m Sk/\(l.take k).foldl F (S,false)=(Sk,nk)) ⟨0,m,S,false,Z0 _,rfl,rfl,Zd,rfl,hSet,rfl⟩ Zw Zb ?_;rintro q σ fz5 H' ⟨k,m5,Sk,nk,hk5,rfl,rfl,hle5,rfl,hS5,hf5⟩;refine wC ?_ ?_<;>intro c2
 ·obtain ⟨x,hx⟩:=Ye (l:=l) (k:=k) Zi;have hxm:=Zm hx;have hCx:=hC x hxm;have hxp:=hCx.params;have hnext:(l.take (k+1)).foldl F (S,false)=((addM K x x.params E Sk).1,(addM K x x.params E Sk).2 || nk):=by
   rw [List.take_add_one,hx,List.foldl_append,hf5];exact hF2 (Sk,nk) x
  refine wI (hl.mono hle5) hx (fun p2 hp2=>?_);refine zL hp2 ?_;intro cs hcs;obtain ⟨u1,u2,u3,u4,u5,u6,u7,u8,rfl,hR⟩:=Xf hcs;obtain ⟨A1,n1,c1',rfl,ip⟩:=id hR.params;obtain ⟨⟨A2,n2,c2',rfl,_⟩,⟨A3,n3,c3',rfl,_⟩,⟨A4,n4,c4',rfl,_⟩,⟨A5,n5,c5',rfl,_⟩⟩:=id hR.when_.sls;obtain ⟨A6,n6,c6',rfl,ia⟩:=id hR.args;obtain ⟨⟨A7,n7,c7',rfl,_⟩,⟨A8,n8,c8',rfl,_⟩⟩:=id hR.value.sls;have lip:=ip.len;refine zW ?_;intros;refine Yc (Does.perm (H':=[(gs,mapS m5),_]) (List.Perm.swap _ _ _) (Yj [_] [_] Zz (radd_f x.params (hle5 _ _ hr) (hK.mono hle5) hOs hS5 (YbL hR) hCx ip Zi (hE0.mono hle5) hP) (fun v8 fz8 H8 hle8 hR8=>?_)));obtain ⟨rfl,m8,rfl,hS8⟩:=hR8;generalize hb8:(addM K x x.params E Sk).2=b8 at hnext;cases b8 with
  | true=>
   exact wP (h:=by exact ⟨k+1,m8,_,true,by omega,rfl,rfl,hle5.trans hle8,rfl,hS8,hnext⟩)
  | false=>
   exact wP (h:=by exact ⟨k+1,m8,_,nk,by omega,rfl,rfl,hle5.trans hle8,rfl,hS8,hnext⟩)
 have hdone:Wz K l E S=(Sk,nk):=by
  rw [Zl (show l.length<=k by omega)] at hf5;rw [hA,hf5]
 exact wR (h:=by exact ⟨by rw [hdone],m5,rfl,by rw [hdone];exact hS5⟩)
end Go.Proofs.YtdbfccanbbbjkaaGreatDoor
namespace Go.Lx
open Go.RowKit
variable {fz fz':FZ} {cs:List Value}
structure Schema where
 name:Bs
 params:List Param
 start:Formula
 all:Formula
 over:Formula
 fin:Formula
 early:List Change
 late:List Change
 count:Bool
 arguments:List (List Bs)
structure SchemaR (fz:FZ) (x:Schema) (vparams vstart_args vstart_params vstart_exprs vstart_kids vall_args vall_params vall_exprs vall_kids vover_args vover_params vover_exprs vover_kids vfin_args vfin_params vfin_exprs vfin_kids vearly vlate varguments:Value):Prop where
 name:Short x.name
 params:IsSl paramL fz vparams x.params
 start:FormulaR fz x.start vstart_args vstart_params vstart_exprs vstart_kids
 all:FormulaR fz x.all vall_args vall_params vall_exprs vall_kids
 over:FormulaR fz x.over vover_args vover_params vover_exprs vover_kids
 fin:FormulaR fz x.fin vfin_args vfin_params vfin_exprs vfin_kids
 early:IsSl changeL fz vearly x.early
 late:IsSl changeL fz vlate x.late
 count:True
 arguments:IsSl (slL strL) fz varguments x.arguments
theorem SchemaR.mono (hle:Le fz fz') {x:Schema} {vparams vstart_args vstart_params vstart_exprs vstart_kids vall_args vall_params vall_exprs vall_kids vover_args vover_params vover_exprs vover_kids vfin_args vfin_params vfin_exprs vfin_kids vearly vlate varguments:Value} (h:SchemaR fz x vparams vstart_args vstart_params vstart_exprs vstart_kids vall_args vall_params vall_exprs vall_kids vover_args vover_params vover_exprs vover_kids vfin_args vfin_params vfin_exprs vfin_kids vearly vlate varguments):SchemaR fz' x vparams vstart_args vstart_params vstart_exprs vstart_kids vall_args vall_params vall_exprs vall_kids vover_args vover_params vover_exprs vover_kids vfin_args vfin_params vfin_exprs vfin_kids vearly vlate varguments:=⟨h.name,h.params.mono hle,h.start.mono hle,h.all.mono hle,h.over.mono hle,h.fin.mono hle,h.early.mono hle,h.late.mono hle,trivial,h.arguments.mono hle⟩
def schemaL:Lay Schema where
 size:=30
 rep:=fun fz x cs=>∃ vparams vstart_args vstart_params vstart_exprs vstart_kids vall_args vall_params vall_exprs vall_kids vover_args vover_params vover_exprs vover_kids vfin_args vfin_params vfin_exprs vfin_kids vearly vlate varguments,cs=[Zy x.name,vparams,Zy x.start.op,Zy x.start.name,vstart_args,vstart_params,vstart_exprs,vstart_kids,Zy x.all.op,Zy x.all.name,vall_args,vall_params,vall_exprs,vall_kids,Zy x.over.op,Zy x.over.name,vover_args,vover_params,vover_exprs,vover_kids,Zy x.fin.op,Zy x.fin.name,vfin_args,vfin_params,vfin_exprs,vfin_kids,vearly,vlate,Zo x.count,varguments]/\SchemaR fz x vparams vstart_args vstart_params vstart_exprs vstart_kids vall_args vall_params vall_exprs vall_kids vover_args vover_params vover_exprs vover_kids vfin_args vfin_params vfin_exprs vfin_kids vearly vlate varguments
 len:=fun h=>by obtain ⟨vparams,vstart_args,vstart_params,vstart_exprs,vstart_kids,vall_args,vall_params,vall_exprs,vall_kids,vover_args,vover_params,vover_exprs,vover_kids,vfin_args,vfin_params,vfin_exprs,vfin_kids,vearly,vlate,varguments,rfl,_⟩:=h;rfl
 mono:=fun hle h=>by obtain ⟨vparams,vstart_args,vstart_params,vstart_exprs,vstart_kids,vall_args,vall_params,vall_exprs,vall_kids,vover_args,vover_params,vover_exprs,vover_kids,vfin_args,vfin_params,vfin_exprs,vfin_kids,vearly,vlate,varguments,e,h⟩:=h;exact ⟨vparams,vstart_args,vstart_params,vstart_exprs,vstart_kids,vall_args,vall_params,vall_exprs,vall_kids,vover_args,vover_params,vover_exprs,vover_kids,vfin_args,vfin_params,vfin_exprs,vfin_kids,vearly,vlate,varguments,e,h.mono hle⟩
theorem Yag {x:Schema} (h:schemaL.rep fz x cs):∃ vparams vstart_args vstart_params vstart_exprs vstart_kids vall_args vall_params vall_exprs vall_kids vover_args vover_params vover_exprs vover_kids vfin_args vfin_params vfin_exprs vfin_kids vearly vlate varguments,cs=[Zy x.name,vparams,Zy x.start.op,Zy x.start.name,vstart_args,vstart_params,vstart_exprs,vstart_kids,Zy x.all.op,Zy x.all.name,vall_args,vall_params,vall_exprs,vall_kids,Zy x.over.op,Zy x.over.name,vover_args,vover_params,vover_exprs,vover_kids,Zy x.fin.op,Zy x.fin.name,vfin_args,vfin_params,vfin_exprs,vfin_kids,vearly,vlate,Zo x.count,varguments]/\SchemaR fz x vparams vstart_args vstart_params vstart_exprs vstart_kids vall_args vall_params vall_exprs vall_kids vover_args vover_params vover_exprs vover_kids vfin_args vfin_params vfin_exprs vfin_kids vearly vlate varguments:=h
theorem YcN {x:Schema} {vparams vstart_args vstart_params vstart_exprs vstart_kids vall_args vall_params vall_exprs vall_kids vover_args vover_params vover_exprs vover_kids vfin_args vfin_params vfin_exprs vfin_kids vearly vlate varguments:Value} (h:SchemaR fz x vparams vstart_args vstart_params vstart_exprs vstart_kids vall_args vall_params vall_exprs vall_kids vover_args vover_params vover_exprs vover_kids vfin_args vfin_params vfin_exprs vfin_kids vearly vlate varguments):schemaL.rep fz x [Zy x.name,vparams,Zy x.start.op,Zy x.start.name,vstart_args,vstart_params,vstart_exprs,vstart_kids,Zy x.all.op,Zy x.all.name,vall_args,vall_params,vall_exprs,vall_kids,Zy x.over.op,Zy x.over.name,vover_args,vover_params,vover_exprs,vover_kids,Zy x.fin.op,Zy x.fin.name,vfin_args,vfin_params,vfin_exprs,vfin_kids,vearly,vlate,Zo x.count,varguments]:=⟨vparams,vstart_args,vstart_params,vstart_exprs,vstart_kids,vall_args,vall_params,vall_exprs,vall_kids,vover_args,vover_params,vover_exprs,vover_kids,vfin_args,vfin_params,vfin_exprs,vfin_kids,vearly,vlate,varguments,rfl,h⟩
end Go.Lx
