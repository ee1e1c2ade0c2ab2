/- The texts GBase, GRet, PBase, Tab, PWalkA, PWalkB, PGrow, PCA, PCB, laid together. Conditions: none. -/
import Derived.Test.YtfjopfinkdhmaaaGreatDoorRZD
import Derived.Test.YtfjopfinkdhmaaaGreatDoorProg
set_option linter.all false
noncomputable section
namespace Go.Lx
open Go.RowKit
section
variable {P:Program} {cx:Cx} {r:Operand->Option Value} {fz:FZ} {H:HP} {V:Value->Prop} {dst:Option Nat} {ty:TypeId} {pos:String} {af:Array Edge} {gd:Option (Nat × Bool)} {t t':TypeId} {x y:Operand} {k:IntKind} {a b:Int}
theorem Yag {f:Fn} {us cs:List Operand} {vs ws:List Value} (hu:rds r us=some vs) (hc:rds r cs=some ws) (h:V (.func f vs.toArray ws.toArray)):DoesQ P cx ⟨dst,.makeFunc f us.toArray cs.toArray,ty,pos,af,gd⟩ r fz H V:=
 YJ (fun ρ w hr=>by
  have e1:=hr.all us vs hu;have e2:=hr.all cs ws hc;simp [execOp,Instr.makeFunc,e1,e2]) h
variable {g i j:Nat}
theorem Yke:(⟨g,j,none⟩:Addr).add i=⟨g,j+i,none⟩:=by
 unfold Addr.add;split
 ·rename_i h;subst h;rfl
 rfl
variable {X:Ty} {cs:List Value}
theorem Yo (T:Tab P) {t2:TypeId} {vs:List Value} {f:Nat × Nat} (i:Nat) (hT:T.inf t=some X) (hd:W2 X.desc=true)
 (hx:r x=some (.pointer (some ⟨g,j,none⟩))) (hi:H[i]?=some (g,.cells cs.toArray t2 f)) (hv:(cs.drop j).take X.size=vs) (hs:X.size=vs.length) (h:V (.agg vs.toArray)):DoesQ P cx ⟨dst,.load t x,ty,pos,af,gd⟩ r fz H V:=
 DoesQ.of h fun ρ w hr hw=>by
  have hc:∀ m v,vs[m]?=some v->w.cell? ((⟨g,j,none⟩:Addr).add m)=some v:=fun m v hm=>by
   rw [Yke,hw.cellOwn hi];rw [<- hv,List.getElem?_take] at hm;split at hm
   ·rw [List.getElem?_drop] at hm;simpa using hm
   cases hm
  simp only [execOp,hr _ _ hx,Instr.loadAt,Instr.sureAddr,Sem.run_bind,Sem.run_pure,Result.andThen_ok,Ycy T hT hd hs hc];exact ⟨rfl,Fr.refl _ _⟩
theorem Ya0 (T:Tab P) {t2:TypeId} {vs:List Value} {f:Nat × Nat} (hT:T.inf t=some X) (hd:W2 X.desc=true)
 (hx:r x=some (.pointer (some ⟨g,j,none⟩))) (hg:fz g=some (.cells cs.toArray t2 f)) (hv:(cs.drop j).take X.size=vs) (hs:X.size=vs.length) (h:V (.agg vs.toArray)):DoesQ P cx ⟨dst,.load t x,ty,pos,af,gd⟩ r fz H V:=
 YgA T hT hd hx (fun m v hm=>by
  rw [Yke];rw [<- hv,List.getElem?_take] at hm;split at hm
  ·rw [List.getElem?_drop] at hm;simp [YcR,hg];exact hm
  cases hm) hs h
end
variable {k:Nat}
theorem Yl {α:Type} {l:List α} (h:k<l.length):∃ x,l[k]?=some x:=⟨_,List.getElem?_eq_getElem h⟩
theorem YfC {α:Type} {l:List α} {x:α} (h:l[k]?=some x):k<l.length:=(Zg h).1
theorem Yw {p:Prop} [Decidable p] (h:p):Value.bool true=Value.bool (decide p):=by rw [decide_eq_true h]
theorem Yn {p:Prop} [Decidable p] (h:¬p):Value.bool false=Value.bool (decide p):=by rw [decide_eq_false h]
theorem Xs {p:Nat->Prop} (h:∀ i,i<k->p i) (hk:p k):∀ i,i<k+1->p i:=by
 intro i hi;by_cases he:i=k
 ·subst he;exact hk
 exact h i Zi
theorem Xy {α:Type} {p:α->Prop} {l:List α} (h:∀ i,i<k->∀ x,l[i]?=some x->p x) (hk:l.length<=k):∀ x∈l,p x:=fun x hx=>by
 obtain ⟨i,hi⟩:=List.mem_iff_getElem?.1 hx;exact h i (by have:=YfC hi;omega) x hi
theorem YL {α:Type} {p:α->Prop} {l:List α} {x:α} (h:∀ i,i<k->∀ x,l[i]?=some x->p x) (hx:l[k]?=some x) (hp:p x):∀ i,i<k+1->∀ x,l[i]?=some x->p x:=
 Xs h (fun y hy=>by rw [hx] at hy;injection hy with hy;subst hy;exact hp)
section
variable {P:Program} {cx:Cx} {n:Nat} {σ:Env} {fz:FZ} {H H':HP} {fn:Func} {R:Value->FZ->HP->Prop}
def resI (T:Tab P) (σ:Env) (H:HP):List ResultVar->List Value->Prop
 | [],[]=>True
 | .tmp t::r,v::vs=>lk σ t=some v/\resI T σ H r vs
 | .cell p t::r,v::vs=>(∃ (X:Ty) (g i:Nat) (cs:List Value) (t':TypeId) (f:Nat × Nat),T.inf t=some X/\W2 X.desc=true/\lk σ p=some (.pointer (some ⟨g,0,none⟩))/\H[i]?=some (g,Obj.cells (List.toArray cs) t' f)/\X.size=cs.length/\v=.agg cs.toArray)/\resI T σ H r vs
 | _,_=>False
theorem Yhb (T:Tab P) {a:Act} {w:World} (hs:Sat n σ a) (hw:Inv cx fz H w) {f:ResultVar->Sem Value} (hf1:∀ t,f (.tmp t)=pure (a.tmps.getD t undef)) (hf2:∀ x t,f (.cell x t)=(asAddr (a.tmps.getD x undef)>>=fun b=>loadVar t b)):∀ (l:List ResultVar) (vs:List Value),resI T σ H l vs->(l.mapM f).run P w=.ok vs w
 | [],[],_=>by simp [List.mapM_nil]
 | [],_::_,h=>h.elim
 | .tmp t::r,[],h=>h.elim
 | .cell p t::r,[],h=>h.elim
 | .tmp t::r,v::vs,⟨h1,h2⟩=>by
  have:=Yhb T hs hw hf1 hf2 r vs h2;simp only [List.mapM_cons,hf1,Sem.run_bind,Sem.run_pure,Result.andThen_ok,this];simp [hs.slot t v h1]
 | .cell p t::r,v::vs,⟨⟨X,g,i,cs,t',ff,hT,hd,hv,hi,hsz,he⟩,h2⟩=>by
  have:=Yhb T hs hw hf1 hf2 r vs h2;have hc:∀ j v,cs[j]?=some v->w.cell? ((⟨g,0,none⟩:Addr).add j)=some v:=fun j v hv=>by
   have hadd:(⟨g,0,none⟩:Addr).add j=⟨g,j,none⟩:=by unfold Addr.add;split<;>simp_all
   rw [hadd,hw.cellOwn hi];simpa using hv
  have ha:asAddr (a.tmps.getD p undef)=(pure ⟨g,0,none⟩:Sem Addr):=by simp [asAddr,hs.slot p _ hv]
  simp only [List.mapM_cons,hf2,Sem.run_bind,ha,Sem.run_pure,Result.andThen_ok,Ycy T hT hd hsz hc,this,he]
theorem retN' (T:Tab P) {vs:List Value} (hl:Nat.ble 2 vs.length=true) (hr:resI T σ H fn.results.toList vs) (h:∀ w,Inv cx fz H w->∃ fz' H',Inv cx fz' H' w/\R (.tuple vs.toArray) fz' H'):retQ P cx n fn R .ret σ fz H:=
 ret_of (fun a w hs hw=>by
  have h2:∀ (f:ResultVar->Sem Value) (w':World),(fn.results.mapM f).run P w'=((fn.results.toList.mapM f).run P w').andThen fun l w''=>.ok l.toArray w'':=fun f w'=>by
   rw [Array.mapM_eq_mapM_toList,map_eq_pure_bind,Sem.run_bind];simp only [Sem.run_pure]
  have hne:¬vs.toArray.size=1:=by
   have:=Nat.le_of_ble_eq_true hl;simp;omega
  unfold results;rw [Sem.run_bind,h2,Yhb T hs hw (fun _=>rfl) (fun _ _=>rfl) _ _ hr];simp only [Result.andThen_ok,Sem.run_pure];rw [dif_neg hne]) h
theorem YN (T:Tab P) {vs:List Value} (hl:Nat.ble 2 vs.length=true) (hr:resI T σ H fn.results.toList vs) (h:∀ fz',Le fz fz'->(∀ p∈H,fz' p.1=some p.2)->R (.tuple vs.toArray) fz' []):retQ P cx n fn R .ret σ fz H:=retN' T hl hr (Yhe h)
theorem retN (T:Tab P) {vs:List Value} (hl:Nat.ble 2 vs.length=true) (hr:resI T σ H fn.results.toList vs) (hH:H'.Sublist H) (h:R (.tuple vs.toArray) fz H'):retQ P cx n fn R .ret σ fz H:=retN' T hl hr (Ygx hH h)
variable {fz':FZ}
theorem Keep.of {fz:FZ} {Hq H':HP} (h1:Le fz fz') (h2:Hq.Sublist H'):Keep fz Hq fz' H':=⟨h1,fun _ hp=>h2.subset hp⟩
variable {Q:QQ} {Hq:HP} {σ' τ ve cv:Env} {l:List Oper} {ch all:List (Nat × Oper)} {i d:Nat} {op:Op} {ty:TypeId} {pos:String} {af:Array Edge} {dn:Bool} {fz0:FZ}
theorem Ch.qk (hk:Keep fz0 Hq fz H) (h:DoesQ P cx ⟨some d,op,ty,pos,af,none⟩ (rdc l ⟨some d,op,ty,pos,af,none⟩ σ' ve cv) fz H fun v=>Ch P cx l σ' ve fz0 Hq Q all ch (dn || allq l all ⟨some d,op,ty,pos,af,none⟩) ((i,v)::cv) ((d,v)::τ) fz H):
 Ch P cx l σ' ve fz0 Hq Q all ((i,⟨some d,op,ty,pos,af,none⟩)::ch) dn cv τ fz H:=Ch.q (h.mono fun _ hv=>⟨hk,hv⟩)
theorem Ch.soft0 (h:Does P cx ⟨none,op,ty,pos,af,none⟩ (rdc l ⟨none,op,ty,pos,af,none⟩ σ' ve cv) fz H fun v fz' H'=>Keep fz0 Hq fz' H'/\Ch P cx l σ' ve fz0 Hq Q all ch (dn || allq l all ⟨none,op,ty,pos,af,none⟩) ((i,v)::cv) τ fz' H'):
 Ch P cx l σ' ve fz0 Hq Q all ((i,⟨none,op,ty,pos,af,none⟩)::ch) dn cv τ fz H:=by
 unfold Ch;refine .inl ⟨rfl,?_⟩;exact Does.of fun ρ w hr hi=>(h.run ρ w hr hi).mono fun v w' ⟨fz',H',h1,h2,h3⟩=>⟨fz',H',h1,.inr h2,h3⟩
variable {X Y:Ty} {c g:Nat} {t:TypeId} {x:Operand}
theorem XJ (T:Tab P) {e:TypeId} {i:Operand} {n:Nat} {k:IntKind} {j:Int} {V:Value->Prop} {r:Operand->Option Value} {dst:Option Nat} {gd:Option (Nat × Bool)} (hT:T.inf t=some X) (hd:X.desc=.slice e) (hY:T.inf e=some Y)
 (hx:r x=some (Zv g n c)) (hi:r i=some (.int k j)) (hs:Y.size=1) (h0:0<=j) (hn:j<n) (h:V (.pointer (some ⟨g,j.toNat,none⟩))):DoesQ P cx ⟨dst,.indexAddr t x i,ty,pos,af,gd⟩ r fz H V:=by
 refine Ydj T hT hd hY hx hi h0 hn ?_;have hadd:(⟨g,0,none⟩:Addr).add (j.toNat*Y.size)=⟨g,j.toNat,none⟩:=by rw [hs];unfold Addr.add;split<;>simp_all
 rw [hadd];exact h
end
section
variable {P:Program} {cx:Cx} {r:Operand->Option Value} {fz:FZ} {H:HP} {V:Value->Prop} {dst:Option Nat} {ty:TypeId} {pos:String} {af:Array Edge} {gd:Option (Nat × Bool)}
variable {X:Ty} {t:TypeId} {x:Operand}
theorem Yec (T:Tab P) {lo:Operand} {s:Bs} {k:IntKind} {j:Int} (hT:T.inf t=some X) (hd:X.desc=.string) (hx:r x=some (.string s)) (hl:r lo=some (.int k j))
 (h0:0<=j) (h1:j<=s.size) (h:V (.string (s.extract j.toNat s.size))):DoesQ P cx ⟨dst,.slice t x (some lo) none none,ty,pos,af,gd⟩ r fz H V:=
 YJ (fun ρ w hr=>by
  have hu:=run_underlying (und_plain T hT hd rfl) w;simp [execOp,hr _ _ hx,hr _ _ hl,Instr.sliceAt,Instr.slice,Instr.sliceBounds,Instr.sliceBound,asIntOf,hu,h0,h1]) h
theorem q_str_to (T:Tab P) {hi:Operand} {s:Bs} {k:IntKind} {j:Int} (hT:T.inf t=some X) (hd:X.desc=.string) (hx:r x=some (.string s)) (hl:r hi=some (.int k j))
 (h0:0<=j) (h1:j<=s.size) (h:V (.string (s.extract 0 j.toNat))):DoesQ P cx ⟨dst,.slice t x none (some hi) none,ty,pos,af,gd⟩ r fz H V:=
 YJ (fun ρ w hr=>by
  have hu:=run_underlying (und_plain T hT hd rfl) w;simp [execOp,hr _ _ hx,hr _ _ hl,Instr.sliceAt,Instr.slice,Instr.sliceBounds,Instr.sliceBound,asIntOf,hu,h0,h1]) h
end
open Classical in
def Wn {α:Type} (p:α->Prop):List α->Int->Int
 | [],_=> -1
 | x::r,k=>if p x then k else Wn p r (k+1)
theorem Xt {α:Type} {p:α->Prop}:∀ {l:List α} {k:Int},0<=k->(0<=Wn p l k↔∃ x∈l,p x)
 | [],k,_=>by simp [Wn]
 | x::r,k,hk=>by
  unfold Wn;split
  ·rename_i h;exact ⟨fun _=>⟨x,by simp,h⟩,fun _=>hk⟩
  rename_i h;rw [Xt (l:=r) (k:=k+1) Zi];simp [h]
theorem W8 {α:Type} {p:α->Prop}:∀ {l:List α} {i:Nat} {k:Int} {x:α},(∀ j,j<i->∀ y,l[j]?=some y->¬p y)->l[i]?=some x->p x->Wn p l k=k+i
 | [],i,k,x,_,hx,_=>by simp at hx
 | y::r,0,k,x,_,hx,hp=>by
  simp at hx;subst hx;simp [Wn,hp]
 | y::r,i+1,k,x,h,hx,hp=>by
  have h0:=h 0 Zi y rfl;have:=W8 (p:=p) (l:=r) (i:=i) (k:=k+1) (x:=x) (fun j hj z hz=>h (j+1) Zi z (by simpa using hz)) (by simpa using hx) hp;unfold Wn;rw [if_neg h0,this];omega
theorem Wu {α:Type} {p:α->Prop}:∀ {l:List α} {k:Int},(∀ x∈l,¬p x)->Wn p l k= -1
 | [],k,_=>rfl
 | y::r,k,h=>by
  unfold Wn;rw [if_neg (h y (by simp)),Wu (fun x hx=>h x (by simp [hx]))]
variable {H:HP} {fz:FZ} {j n:Nat}
theorem Seq.guard_yesK {P:Program} {cx:Cx} {σ:Env} {Q:QQ} {ops:Array Oper} {rest:List Oper} {d:Nat} {op:Op} {ty:TypeId} {pos:String} {af:Array Edge} {s:Nat} {c:Bool} (hd:Nat.blt d n=true) (hj:(ops[j]?).bind (·.dst)=some s) (hv:lk σ s=some (.bool c))
 (h:Does P cx ⟨some d,op,ty,pos,af,some (j,c)⟩ (rd σ) fz H fun v fz' H'=>Seq P cx n ops rest ((d,v)::σ) fz' H' Q):
 Seq P cx n ops (⟨some d,op,ty,pos,af,some (j,c)⟩::rest) σ fz H Q:=by
 unfold Seq;intro a w hs hi;unfold wpList;rw [if_pos (by simp [Region.wanted,Yd6 hs hj hv])];refine .inl (W3.wp ((h.run a.eval w hs.reads hi).mono fun v w' hh=>?_));obtain ⟨fz',H',h1,h2⟩:=hh;unfold Seq at h2;exact h2 _ _ (hs.put d (by simpa [Nat.blt_eq] using hd) v) h1
end Go.Lx
namespace Go.Proofs.YtfjopfinkdhmaaaGreatDoor
open Go.Lx
open Go.Proofs.Tryz (prog)
set_option maxRecDepth 100000
def ty2_:Ty:=⟨(.int .i64),1,8,(Zk 0)⟩
theorem ty2_ok:TyOk prog 2 ty2_:=TyOk.mk' (by kernel_rfl) (by kernel_rfl)
def ty3_:Ty:=⟨(.int .i64),1,8,(Zk 0)⟩
theorem ty3_ok:TyOk prog 3 ty3_:=TyOk.mk' (by kernel_rfl) (by kernel_rfl)
def ty4_:Ty:=⟨.bool,1,1,(.bool false)⟩
theorem ty4_ok:TyOk prog 4 ty4_:=TyOk.mk' (by kernel_rfl) (by kernel_rfl)
def ty5_:Ty:=⟨(.int .u8),1,1,(.int .u8 0)⟩
theorem ty5_ok:TyOk prog 5 ty5_:=TyOk.mk' (by kernel_rfl) (by kernel_rfl)
def ty6_:Ty:=⟨(.int .u8),1,1,(.int .u8 0)⟩
theorem ty6_ok:TyOk prog 6 ty6_:=TyOk.mk' (by kernel_rfl) (by kernel_rfl)
def ty7_:Ty:=⟨(.struct #[fld 2 0,fld 3 1,fld 4 2,fld 6 3]),4,24,(.agg #[(Zk 0),(Zk 0),(.bool false),(.int .u8 0)])⟩
theorem ty7_ok:TyOk prog 7 ty7_:=TyOk.mk' (by kernel_rfl) (by kernel_rfl)
def ty8_:Ty:=⟨(.struct #[fld 2 0,fld 3 1,fld 4 2,fld 6 3]),4,24,(.agg #[(Zk 0),(Zk 0),(.bool false),(.int .u8 0)])⟩
theorem ty8_ok:TyOk prog 8 ty8_:=TyOk.mk' (by kernel_rfl) (by kernel_rfl)
def ty9_:Ty:=⟨.string,1,16,Ze⟩
theorem ty9_ok:TyOk prog 9 ty9_:=TyOk.mk' (by kernel_rfl) (by kernel_rfl)
def ty20_:Ty:=⟨(.interface #[]),1,16,.nilIface⟩
theorem ty20_ok:TyOk prog 20 ty20_:=TyOk.mk' (by kernel_rfl) (by kernel_rfl)
def ty22_:Ty:=⟨(.struct #[fld 9 0,fld 9 1]),2,32,(.agg #[Ze,Ze])⟩
theorem ty22_ok:TyOk prog 22 ty22_:=TyOk.mk' (by kernel_rfl) (by kernel_rfl)
def ty23_:Ty:=⟨(.struct #[fld 9 0,fld 9 1]),2,32,(.agg #[Ze,Ze])⟩
theorem ty23_ok:TyOk prog 23 ty23_:=TyOk.mk' (by kernel_rfl) (by kernel_rfl)
def ty24_:Ty:=⟨(.func #[] #[] false),1,8,.nilFunc⟩
theorem ty24_ok:TyOk prog 24 ty24_:=TyOk.mk' (by kernel_rfl) (by kernel_rfl)
def ty25_:Ty:=⟨(.slice 110),1,24,Zn⟩
theorem ty25_ok:TyOk prog 25 ty25_:=TyOk.mk' (by kernel_rfl) (by kernel_rfl)
def ty26_:Ty:=⟨(.slice 69),1,24,Zn⟩
theorem ty26_ok:TyOk prog 26 ty26_:=TyOk.mk' (by kernel_rfl) (by kernel_rfl)
def ty27_:Ty:=⟨(.slice 71),1,24,Zn⟩
theorem ty27_ok:TyOk prog 27 ty27_:=TyOk.mk' (by kernel_rfl) (by kernel_rfl)
def ty28_:Ty:=⟨(.slice 75),1,24,Zn⟩
theorem ty28_ok:TyOk prog 28 ty28_:=TyOk.mk' (by kernel_rfl) (by kernel_rfl)
def ty29_:Ty:=⟨(.slice 78),1,24,Zn⟩
theorem ty29_ok:TyOk prog 29 ty29_:=TyOk.mk' (by kernel_rfl) (by kernel_rfl)
def ty30_:Ty:=⟨(.struct #[fld 9 0,fld 25 1,fld 25 2,fld 26 3,fld 27 4,fld 28 5,fld 29 6]),7,160,(.agg #[Ze,Zn,Zn,Zn,Zn,Zn,Zn])⟩
theorem ty30_ok:TyOk prog 30 ty30_:=TyOk.mk' (by kernel_rfl) (by kernel_rfl)
def ty31_:Ty:=⟨(.struct #[fld 9 0,fld 25 1,fld 25 2,fld 26 3,fld 27 4,fld 28 5,fld 29 6]),7,160,(.agg #[Ze,Zn,Zn,Zn,Zn,Zn,Zn])⟩
theorem ty31_ok:TyOk prog 31 ty31_:=TyOk.mk' (by kernel_rfl) (by kernel_rfl)
def ty32_:Ty:=⟨(.slice 114),1,24,Zn⟩
theorem ty32_ok:TyOk prog 32 ty32_:=TyOk.mk' (by kernel_rfl) (by kernel_rfl)
def ty33_:Ty:=⟨(.slice 116),1,24,Zn⟩
theorem ty33_ok:TyOk prog 33 ty33_:=TyOk.mk' (by kernel_rfl) (by kernel_rfl)
def ty34_:Ty:=⟨(.slice 9),1,24,Zn⟩
theorem ty34_ok:TyOk prog 34 ty34_:=TyOk.mk' (by kernel_rfl) (by kernel_rfl)
def ty35_:Ty:=⟨(.slice 120),1,24,Zn⟩
theorem ty35_ok:TyOk prog 35 ty35_:=TyOk.mk' (by kernel_rfl) (by kernel_rfl)
def ty36_:Ty:=⟨(.slice 38),1,24,Zn⟩
theorem ty36_ok:TyOk prog 36 ty36_:=TyOk.mk' (by kernel_rfl) (by kernel_rfl)
def ty37_:Ty:=⟨(.struct #[fld 9 0,fld 9 1,fld 34 2,fld 25 3,fld 35 4,fld 36 5]),6,128,(.agg #[Ze,Ze,Zn,Zn,Zn,Zn])⟩
theorem ty37_ok:TyOk prog 37 ty37_:=TyOk.mk' (by kernel_rfl) (by kernel_rfl)
def ty38_:Ty:=⟨(.struct #[fld 9 0,fld 9 1,fld 34 2,fld 25 3,fld 35 4,fld 36 5]),6,128,(.agg #[Ze,Ze,Zn,Zn,Zn,Zn])⟩
theorem ty38_ok:TyOk prog 38 ty38_:=TyOk.mk' (by kernel_rfl) (by kernel_rfl)
def ty39_:Ty:=⟨(.struct #[fld 9 0,fld 9 1,fld 25 2,fld 32 3,fld 33 4,fld 38 5]),11,232,(.agg #[Ze,Ze,Zn,Zn,Zn,Ze,Ze,Zn,Zn,Zn,Zn])⟩
theorem ty39_ok:TyOk prog 39 ty39_:=TyOk.mk' (by kernel_rfl) (by kernel_rfl)
def ty40_:Ty:=⟨(.struct #[fld 9 0,fld 9 1,fld 25 2,fld 32 3,fld 33 4,fld 38 5]),11,232,(.agg #[Ze,Ze,Zn,Zn,Zn,Ze,Ze,Zn,Zn,Zn,Zn])⟩
theorem ty40_ok:TyOk prog 40 ty40_:=TyOk.mk' (by kernel_rfl) (by kernel_rfl)
def ty41_:Ty:=⟨(.interface #[]),1,16,.nilIface⟩
theorem ty41_ok:TyOk prog 41 ty41_:=TyOk.mk' (by kernel_rfl) (by kernel_rfl)
def ty42_:Ty:=⟨(.interface #[]),1,16,.nilIface⟩
theorem ty42_ok:TyOk prog 42 ty42_:=TyOk.mk' (by kernel_rfl) (by kernel_rfl)
def ty55_:Ty:=⟨(.slice 57),1,24,Zn⟩
theorem ty55_ok:TyOk prog 55 ty55_:=TyOk.mk' (by kernel_rfl) (by kernel_rfl)
def ty56_:Ty:=⟨(.struct #[fld 3 0,fld 3 1,fld 3 2,fld 3 3,fld 9 4,fld 55 5]),6,72,(.agg #[(Zk 0),(Zk 0),(Zk 0),(Zk 0),Ze,Zn])⟩
theorem ty56_ok:TyOk prog 56 ty56_:=TyOk.mk' (by kernel_rfl) (by kernel_rfl)
def ty57_:Ty:=⟨(.struct #[fld 3 0,fld 3 1,fld 3 2,fld 3 3,fld 9 4,fld 55 5]),6,72,(.agg #[(Zk 0),(Zk 0),(Zk 0),(Zk 0),Ze,Zn])⟩
theorem ty57_ok:TyOk prog 57 ty57_:=TyOk.mk' (by kernel_rfl) (by kernel_rfl)
def ty64_:Ty:=⟨(.slice 5),1,24,Zn⟩
theorem ty64_ok:TyOk prog 64 ty64_:=TyOk.mk' (by kernel_rfl) (by kernel_rfl)
def ty65_:Ty:=⟨(.int .i64),1,8,(Zk 0)⟩
theorem ty65_ok:TyOk prog 65 ty65_:=TyOk.mk' (by kernel_rfl) (by kernel_rfl)
def ty68_:Ty:=⟨(.struct #[fld 9 0,fld 25 1]),2,40,(.agg #[Ze,Zn])⟩
theorem ty68_ok:TyOk prog 68 ty68_:=TyOk.mk' (by kernel_rfl) (by kernel_rfl)
def ty69_:Ty:=⟨(.struct #[fld 9 0,fld 25 1]),2,40,(.agg #[Ze,Zn])⟩
theorem ty69_ok:TyOk prog 69 ty69_:=TyOk.mk' (by kernel_rfl) (by kernel_rfl)
def ty70_:Ty:=⟨(.struct #[fld 9 0,fld 25 1,fld 3 2,fld 3 3]),4,56,(.agg #[Ze,Zn,(Zk 0),(Zk 0)])⟩
theorem ty70_ok:TyOk prog 70 ty70_:=TyOk.mk' (by kernel_rfl) (by kernel_rfl)
def ty71_:Ty:=⟨(.struct #[fld 9 0,fld 25 1,fld 3 2,fld 3 3]),4,56,(.agg #[Ze,Zn,(Zk 0),(Zk 0)])⟩
theorem ty71_ok:TyOk prog 71 ty71_:=TyOk.mk' (by kernel_rfl) (by kernel_rfl)
def ty73_:Ty:=⟨(.slice 123),1,24,Zn⟩
theorem ty73_ok:TyOk prog 73 ty73_:=TyOk.mk' (by kernel_rfl) (by kernel_rfl)
def ty74_:Ty:=⟨(.struct #[fld 9 0,fld 25 1,fld 3 2,fld 38 3,fld 73 9]),10,200,(.agg #[Ze,Zn,(Zk 0),Ze,Ze,Zn,Zn,Zn,Zn,Zn])⟩
theorem ty74_ok:TyOk prog 74 ty74_:=TyOk.mk' (by kernel_rfl) (by kernel_rfl)
def ty75_:Ty:=⟨(.struct #[fld 9 0,fld 25 1,fld 3 2,fld 38 3,fld 73 9]),10,200,(.agg #[Ze,Zn,(Zk 0),Ze,Ze,Zn,Zn,Zn,Zn,Zn])⟩
theorem ty75_ok:TyOk prog 75 ty75_:=TyOk.mk' (by kernel_rfl) (by kernel_rfl)
def ty77_:Ty:=⟨(.struct #[fld 9 0,fld 25 1,fld 3 2,fld 38 3,fld 38 9,fld 38 15,fld 73 21,fld 73 22]),23,480,(.agg #[Ze,Zn,(Zk 0),Ze,Ze,Zn,Zn,Zn,Zn,Ze,Ze,Zn,Zn,Zn,Zn,Ze,Ze,Zn,Zn,Zn,Zn,Zn,Zn])⟩
theorem ty77_ok:TyOk prog 77 ty77_:=TyOk.mk' (by kernel_rfl) (by kernel_rfl)
def ty78_:Ty:=⟨(.struct #[fld 9 0,fld 25 1,fld 3 2,fld 38 3,fld 38 9,fld 38 15,fld 73 21,fld 73 22]),23,480,(.agg #[Ze,Zn,(Zk 0),Ze,Ze,Zn,Zn,Zn,Zn,Ze,Ze,Zn,Zn,Zn,Zn,Ze,Ze,Zn,Zn,Zn,Zn,Zn,Zn])⟩
theorem ty78_ok:TyOk prog 78 ty78_:=TyOk.mk' (by kernel_rfl) (by kernel_rfl)
def ty89_:Ty:=⟨(.pointer 195),1,8,(.pointer none)⟩
theorem ty89_ok:TyOk prog 89 ty89_:=TyOk.mk' (by kernel_rfl) (by kernel_rfl)
def ty90_:Ty:=⟨(.map 9 25),1,8,(.map none)⟩
theorem ty90_ok:TyOk prog 90 ty90_:=TyOk.mk' (by kernel_rfl) (by kernel_rfl)
def ty91_:Ty:=⟨(.map 9 71),1,8,(.map none)⟩
theorem ty91_ok:TyOk prog 91 ty91_:=TyOk.mk' (by kernel_rfl) (by kernel_rfl)
def ty92_:Ty:=⟨(.map 9 9),1,8,(.map none)⟩
theorem ty92_ok:TyOk prog 92 ty92_:=TyOk.mk' (by kernel_rfl) (by kernel_rfl)
def ty93_:Ty:=⟨(.struct #[fld 31 0,fld 40 7,fld 89 18,fld 90 19,fld 91 20,fld 92 21,fld 25 22]),23,448,(.agg #[Ze,Zn,Zn,Zn,Zn,Zn,Zn,Ze,Ze,Zn,Zn,Zn,Ze,Ze,Zn,Zn,Zn,Zn,(.pointer none),(.map none),(.map none),(.map none),Zn])⟩
theorem ty93_ok:TyOk prog 93 ty93_:=TyOk.mk' (by kernel_rfl) (by kernel_rfl)
def ty94_:Ty:=⟨(.struct #[fld 31 0,fld 40 7,fld 89 18,fld 90 19,fld 91 20,fld 92 21,fld 25 22]),23,448,(.agg #[Ze,Zn,Zn,Zn,Zn,Zn,Zn,Ze,Ze,Zn,Zn,Zn,Ze,Ze,Zn,Zn,Zn,Zn,(.pointer none),(.map none),(.map none),(.map none),Zn])⟩
theorem ty94_ok:TyOk prog 94 ty94_:=TyOk.mk' (by kernel_rfl) (by kernel_rfl)
def ty97_:Ty:=⟨(.slice 3),1,24,Zn⟩
theorem ty97_ok:TyOk prog 97 ty97_:=TyOk.mk' (by kernel_rfl) (by kernel_rfl)
def ty105_:Ty:=⟨(.map 9 4),1,8,(.map none)⟩
theorem ty105_ok:TyOk prog 105 ty105_:=TyOk.mk' (by kernel_rfl) (by kernel_rfl)
def ty109_:Ty:=⟨(.struct #[fld 9 0,fld 9 1]),2,32,(.agg #[Ze,Ze])⟩
theorem ty109_ok:TyOk prog 109 ty109_:=TyOk.mk' (by kernel_rfl) (by kernel_rfl)
def ty110_:Ty:=⟨(.struct #[fld 9 0,fld 9 1]),2,32,(.agg #[Ze,Ze])⟩
theorem ty110_ok:TyOk prog 110 ty110_:=TyOk.mk' (by kernel_rfl) (by kernel_rfl)
def ty113_:Ty:=⟨(.struct #[fld 9 0,fld 34 1]),2,40,(.agg #[Ze,Zn])⟩
theorem ty113_ok:TyOk prog 113 ty113_:=TyOk.mk' (by kernel_rfl) (by kernel_rfl)
def ty114_:Ty:=⟨(.struct #[fld 9 0,fld 34 1]),2,40,(.agg #[Ze,Zn])⟩
theorem ty114_ok:TyOk prog 114 ty114_:=TyOk.mk' (by kernel_rfl) (by kernel_rfl)
def ty115_:Ty:=⟨(.struct #[fld 114 0,fld 3 2]),3,48,(.agg #[Ze,Zn,(Zk 0)])⟩
theorem ty115_ok:TyOk prog 115 ty115_:=TyOk.mk' (by kernel_rfl) (by kernel_rfl)
def ty116_:Ty:=⟨(.struct #[fld 114 0,fld 3 2]),3,48,(.agg #[Ze,Zn,(Zk 0)])⟩
theorem ty116_ok:TyOk prog 116 ty116_:=TyOk.mk' (by kernel_rfl) (by kernel_rfl)
def ty119_:Ty:=⟨(.struct #[fld 9 0,fld 9 1,fld 3 2,fld 34 3,fld 35 4]),5,88,(.agg #[Ze,Ze,(Zk 0),Zn,Zn])⟩
theorem ty119_ok:TyOk prog 119 ty119_:=TyOk.mk' (by kernel_rfl) (by kernel_rfl)
def ty120_:Ty:=⟨(.struct #[fld 9 0,fld 9 1,fld 3 2,fld 34 3,fld 35 4]),5,88,(.agg #[Ze,Ze,(Zk 0),Zn,Zn])⟩
theorem ty120_ok:TyOk prog 120 ty120_:=TyOk.mk' (by kernel_rfl) (by kernel_rfl)
def ty122_:Ty:=⟨(.struct #[fld 3 0,fld 25 1,fld 38 2,fld 9 8,fld 34 9,fld 120 10]),15,288,(.agg #[(Zk 0),Zn,Ze,Ze,Zn,Zn,Zn,Zn,Ze,Zn,Ze,Ze,(Zk 0),Zn,Zn])⟩
theorem ty122_ok:TyOk prog 122 ty122_:=TyOk.mk' (by kernel_rfl) (by kernel_rfl)
def ty123_:Ty:=⟨(.struct #[fld 3 0,fld 25 1,fld 38 2,fld 9 8,fld 34 9,fld 120 10]),15,288,(.agg #[(Zk 0),Zn,Ze,Ze,Zn,Zn,Zn,Zn,Ze,Zn,Ze,Ze,(Zk 0),Zn,Zn])⟩
theorem ty123_ok:TyOk prog 123 ty123_:=TyOk.mk' (by kernel_rfl) (by kernel_rfl)
def ty125_:Ty:=⟨(.struct #[fld 4 0]),1,1,(.agg #[(.bool false)])⟩
theorem ty125_ok:TyOk prog 125 ty125_:=TyOk.mk' (by kernel_rfl) (by kernel_rfl)
def ty126_:Ty:=⟨(.struct #[fld 4 0]),1,1,(.agg #[(.bool false)])⟩
theorem ty126_ok:TyOk prog 126 ty126_:=TyOk.mk' (by kernel_rfl) (by kernel_rfl)
def ty140_:Ty:=⟨(.func #[] #[] false),1,8,.nilFunc⟩
theorem ty140_ok:TyOk prog 140 ty140_:=TyOk.mk' (by kernel_rfl) (by kernel_rfl)
def ty159_:Ty:=⟨(.struct #[fld 9 0,fld 3 1,fld 3 2,fld 3 3,fld 3 4,fld 55 5]),6,72,(.agg #[Ze,(Zk 0),(Zk 0),(Zk 0),(Zk 0),Zn])⟩
theorem ty159_ok:TyOk prog 159 ty159_:=TyOk.mk' (by kernel_rfl) (by kernel_rfl)
def ty160_:Ty:=⟨(.struct #[fld 9 0,fld 3 1,fld 3 2,fld 3 3,fld 3 4,fld 55 5]),6,72,(.agg #[Ze,(Zk 0),(Zk 0),(Zk 0),(Zk 0),Zn])⟩
theorem ty160_ok:TyOk prog 160 ty160_:=TyOk.mk' (by kernel_rfl) (by kernel_rfl)
def ty194_:Ty:=⟨(.struct #[fld 92 0]),1,8,(.agg #[(.map none)])⟩
theorem ty194_ok:TyOk prog 194 ty194_:=TyOk.mk' (by kernel_rfl) (by kernel_rfl)
def ty195_:Ty:=⟨(.struct #[fld 92 0]),1,8,(.agg #[(.map none)])⟩
theorem ty195_ok:TyOk prog 195 ty195_:=TyOk.mk' (by kernel_rfl) (by kernel_rfl)
def ty197_:Ty:=⟨(.slice 200),1,24,Zn⟩
theorem ty197_ok:TyOk prog 197 ty197_:=TyOk.mk' (by kernel_rfl) (by kernel_rfl)
def ty198_:Ty:=⟨(.array 3 197),3,72,(.agg #[Zn,Zn,Zn])⟩
theorem ty198_ok:TyOk prog 198 ty198_:=TyOk.mk' (by kernel_rfl) (by kernel_rfl)
def ty199_:Ty:=⟨(.struct #[fld 9 0,fld 9 1]),2,32,(.agg #[Ze,Ze])⟩
theorem ty199_ok:TyOk prog 199 ty199_:=TyOk.mk' (by kernel_rfl) (by kernel_rfl)
def ty200_:Ty:=⟨(.struct #[fld 9 0,fld 9 1]),2,32,(.agg #[Ze,Ze])⟩
theorem ty200_ok:TyOk prog 200 ty200_:=TyOk.mk' (by kernel_rfl) (by kernel_rfl)
def ty204_:Ty:=⟨(.slice 73),1,24,Zn⟩
theorem ty204_ok:TyOk prog 204 ty204_:=TyOk.mk' (by kernel_rfl) (by kernel_rfl)
def ty229_:Ty:=⟨(.struct #[fld 3 0]),1,8,(.agg #[(Zk 0)])⟩
theorem ty229_ok:TyOk prog 229 ty229_:=TyOk.mk' (by kernel_rfl) (by kernel_rfl)
def ty230_:Ty:=⟨(.struct #[fld 3 0]),1,8,(.agg #[(Zk 0)])⟩
theorem ty230_ok:TyOk prog 230 ty230_:=TyOk.mk' (by kernel_rfl) (by kernel_rfl)
def ty247_:Ty:=⟨(.pointer 249),1,8,(.pointer none)⟩
theorem ty247_ok:TyOk prog 247 ty247_:=TyOk.mk' (by kernel_rfl) (by kernel_rfl)
def ty248_:Ty:=⟨(.struct #[fld 247 0,fld 64 1]),2,32,(.agg #[(.pointer none),Zn])⟩
theorem ty248_ok:TyOk prog 248 ty248_:=TyOk.mk' (by kernel_rfl) (by kernel_rfl)
def ty249_:Ty:=⟨(.struct #[fld 247 0,fld 64 1]),2,32,(.agg #[(.pointer none),Zn])⟩
theorem ty249_ok:TyOk prog 249 ty249_:=TyOk.mk' (by kernel_rfl) (by kernel_rfl)
def ty256_:Ty:=⟨(.array 24 5),24,24,(.agg (Array.replicate 24 (.int .u8 0)))⟩
theorem ty256_ok:TyOk prog 256 ty256_:=TyOk.mk' (by kernel_rfl) (by kernel_rfl)
def ty257_:Ty:=⟨(.int .u64),1,8,(.int .u64 0)⟩
theorem ty257_ok:TyOk prog 257 ty257_:=TyOk.mk' (by kernel_rfl) (by kernel_rfl)
def ty263_:Ty:=⟨(.struct #[fld 25 0,fld 36 1]),2,48,(.agg #[Zn,Zn])⟩
theorem ty263_ok:TyOk prog 263 ty263_:=TyOk.mk' (by kernel_rfl) (by kernel_rfl)
def ty264_:Ty:=⟨(.struct #[fld 25 0,fld 36 1]),2,48,(.agg #[Zn,Zn])⟩
theorem ty264_ok:TyOk prog 264 ty264_:=TyOk.mk' (by kernel_rfl) (by kernel_rfl)
def ty274_:Ty:=⟨(.int .u64),1,8,(.int .u64 0)⟩
theorem ty274_ok:TyOk prog 274 ty274_:=TyOk.mk' (by kernel_rfl) (by kernel_rfl)
def ty278_:Ty:=⟨(.pointer 5),1,8,(.pointer none)⟩
theorem ty278_ok:TyOk prog 278 ty278_:=TyOk.mk' (by kernel_rfl) (by kernel_rfl)
def ty282_:Ty:=⟨(.array 20 257),20,160,(.agg (Array.replicate 20 (.int .u64 0)))⟩
theorem ty282_ok:TyOk prog 282 ty282_:=TyOk.mk' (by kernel_rfl) (by kernel_rfl)
def ty283_:Ty:=⟨(.int .u32),1,4,(.int .u32 0)⟩
theorem ty283_ok:TyOk prog 283 ty283_:=TyOk.mk' (by kernel_rfl) (by kernel_rfl)
def ty284_:Ty:=⟨(.array 65 5),65,65,(.agg (Array.replicate 65 (.int .u8 0)))⟩
theorem ty284_ok:TyOk prog 284 ty284_:=TyOk.mk' (by kernel_rfl) (by kernel_rfl)
def ty310_:Ty:=⟨(.array 32 5),32,32,(.agg (Array.replicate 32 (.int .u8 0)))⟩
theorem ty310_ok:TyOk prog 310 ty310_:=TyOk.mk' (by kernel_rfl) (by kernel_rfl)
def ty311_:Ty:=⟨(.array 64 5),64,64,(.agg (Array.replicate 64 (.int .u8 0)))⟩
theorem ty311_ok:TyOk prog 311 ty311_:=TyOk.mk' (by kernel_rfl) (by kernel_rfl)
def tabL:List (Nat × Ty):=[(2,ty2_),(3,ty3_),(4,ty4_),(5,ty5_),(6,ty6_),(7,ty7_),(8,ty8_),(9,ty9_),(20,ty20_),(22,ty22_),(23,ty23_),(24,ty24_),(25,ty25_),(26,ty26_),(27,ty27_),(28,ty28_),(29,ty29_),(30,ty30_),(31,ty31_),(32,ty32_),(33,ty33_),(34,ty34_),(35,ty35_),(36,ty36_),(37,ty37_),(38,ty38_),(39,ty39_),(40,ty40_),(41,ty41_),(42,ty42_),(55,ty55_),(56,ty56_),(57,ty57_),(64,ty64_),(65,ty65_),(68,ty68_),(69,ty69_),(70,ty70_),(71,ty71_),(73,ty73_),(74,ty74_),(75,ty75_),(77,ty77_),(78,ty78_),(89,ty89_),(90,ty90_),(91,ty91_),(92,ty92_),(93,ty93_),(94,ty94_),(97,ty97_),(105,ty105_),(109,ty109_),(110,ty110_),(113,ty113_),(114,ty114_),(115,ty115_),(116,ty116_),(119,ty119_),(120,ty120_),(122,ty122_),(123,ty123_),(125,ty125_),(126,ty126_),(140,ty140_),(159,ty159_),(160,ty160_),(194,ty194_),(195,ty195_),(197,ty197_),(198,ty198_),(199,ty199_),(200,ty200_),(204,ty204_),(229,ty229_),(230,ty230_),(247,ty247_),(248,ty248_),(249,ty249_),(256,ty256_),(257,ty257_),(263,ty263_),(264,ty264_),(274,ty274_),(278,ty278_),(282,ty282_),(283,ty283_),(284,ty284_),(310,ty310_),(311,ty311_)]
theorem tabL_ok:AllTy prog tabL:=⟨ty2_ok,ty3_ok,ty4_ok,ty5_ok,ty6_ok,ty7_ok,ty8_ok,ty9_ok,ty20_ok,ty22_ok,ty23_ok,ty24_ok,ty25_ok,ty26_ok,ty27_ok,ty28_ok,ty29_ok,ty30_ok,ty31_ok,ty32_ok,ty33_ok,ty34_ok,ty35_ok,ty36_ok,ty37_ok,ty38_ok,ty39_ok,ty40_ok,ty41_ok,ty42_ok,ty55_ok,ty56_ok,ty57_ok,ty64_ok,ty65_ok,ty68_ok,ty69_ok,ty70_ok,ty71_ok,ty73_ok,ty74_ok,ty75_ok,ty77_ok,ty78_ok,ty89_ok,ty90_ok,ty91_ok,ty92_ok,ty93_ok,ty94_ok,ty97_ok,ty105_ok,ty109_ok,ty110_ok,ty113_ok,ty114_ok,ty115_ok,ty116_ok,ty119_ok,ty120_ok,ty122_ok,ty123_ok,ty125_ok,ty126_ok,ty140_ok,ty159_ok,ty160_ok,ty194_ok,ty195_ok,ty197_ok,ty198_ok,ty199_ok,ty200_ok,ty204_ok,ty229_ok,ty230_ok,ty247_ok,ty248_ok,ty249_ok,ty256_ok,ty257_ok,ty263_ok,ty264_ok,ty274_ok,ty278_ok,ty282_ok,ty283_ok,ty284_ok,ty310_ok,ty311_ok,trivial⟩
def T:Tab prog:=⟨tabL,tabL_ok,by kernel_rfl⟩
end Go.Proofs.YtfjopfinkdhmaaaGreatDoor
set_option maxRecDepth 20000
namespace Go.Proofs.YtfjopfinkdhmaaaGreatDoor
open Go.Lx Go.RowKit
open Go.Proofs.Tryz (prog)
def Yap (s:Bs) (i:Nat):Nat:=((s[i]?).map UInt8.toNat).getD 0
variable {k:Nat}
theorem Wa {s:Bs} (h:k<s.size):∃ b:UInt8,s[k]?=some b/\Yap s k=b.toNat:=by
 refine ⟨s[k],getElem?_pos s k h,?_⟩;simp [Yap,getElem?_pos s k h]
def DigP (n:Int):Prop:=48<=n/\n<=57
instance {n:Int}:Decidable (DigP n):=inferInstanceAs (Decidable (_/\_))
variable {fz:FZ}
theorem YhO {n:Int}:QFn prog 183 [.int .u8 n] fz (.bool (decide (DigP n))):=by
 refine GFn.quiet ?_;refine zF Tryz.func183 Tryz.ntmps183 (fun w0=>?_);refine wC (fun c1=>?_) (fun c1=>?_)
 ·refine wC (fun c2=>?_) (fun c2=>?_)
  ·exact wR (h:=by exact (Yw ⟨c1,c2⟩))
  exact wR (h:=by exact Yn (fun h=>c2 h.2))
 exact wR (h:=by exact Yn (fun h=>c1 h.1))
def PreP (s p:Bs):Prop:=p.size<=s.size/\s.extract 0 p.size=p
instance {s p:Bs}:Decidable (PreP s p):=inferInstanceAs (Decidable (_/\_))
def W6 (s p:Bs):Bs:=if PreP s p then s.extract p.size s.size else s
variable {i j:Nat}
theorem Ybn {s:Bs} (h:j<=s.size):(s.extract i j).size=j - i:=by
 simp [ByteArray.size_extract,Nat.min_eq_left h]
theorem Yln {s p:Bs} (h:Short s):Short (W6 s p):=by
 unfold W6 Short at*;split
 ·rw [Ybn (Zs _)];omega
 exact h
theorem Ydp {s p:Bs} (_hs:Short s) (hp:Short p):QFn prog 229 [.string s,.string p] fz (.bool (decide (PreP s p))):=by
 unfold Short at hp;refine GFn.quiet ?_;refine zF Tryz.func229 Tryz.ntmps229 (fun w0=>?_);refine wC (fun c1=>?_) (fun c1=>?_)
 ·refine wG ?_;refine q_str_to T Zz Zz Zz Zz Zi Zi ?_;refine wC (fun c2=>?_) (fun c2=>?_)
  ·exact wR (h:=by exact (Yw ⟨by omega,by simpa using c2⟩))
  exact wR (h:=by exact Yn (fun h=>c2 (by simpa using h.2)))
 exact wR (h:=by exact Yn (fun h=>by have:=h.1;omega))
theorem Yg4 {s p:Bs} (hs:Short s) (hp:Short p):QFn prog 213 [.string s,.string p] fz (.string (W6 s p)):=by
 refine GFn.quiet ?_;refine zF Tryz.func213 Tryz.ntmps213 (fun w0=>?_);refine wb (Ydp hs hp) (fun f1=>?_) (fun f1=>?_)
 ·have hc:=Zt f1;have:=hc.1;refine wG ?_;refine Yec T Zz Zz Zz Zz Zi Zi ?_;exact wR (h:=by rw [W6,if_pos hc];rfl)
 have hc:=Zf f1;exact wR (h:=by rw [W6,if_neg hc])
theorem Yh9 {s p:Bs} (hs:Short s) (hp:Short p):QFn prog 184 [.string s,.string p] fz (.string (W6 s p)):=by
 refine GFn.quiet ?_;refine zF Tryz.func184 Tryz.ntmps184 (fun w0=>?_);refine wc (Yg4 hs hp) ?_;exact wR (h:=rfl)
def Wm:Bs:=⟨#[45]⟩
def kEmpty:Bs:=⟨#[]⟩
def NumP (s:Bs):Prop:=(∀ i,i<(W6 s Wm).size->DigP (Yap (W6 s Wm) i))/\W6 s Wm≠kEmpty
open Classical in
theorem YiI {s:Bs} (hs:Short s):QFn prog 138 [.string s] fz (.bool (decide (NumP s))):=by
 refine GFn.quiet ?_;refine zF Tryz.func138 Tryz.ntmps138 (fun w0=>?_);refine wG ?_;refine Yv Zz Zz (Yh9 (p:=Wm) hs (by unfold Short Wm;decide)) ?_;have hz:(W6 s Wm).size<=9223372036854775807:=Yln hs;refine zW ?_;refine Ym (fun q σ fz' H'=>∃ k:Nat,k<=(W6 s Wm).size/\q=(W6 s Wm).size - k/\σ=[(8,Zk k),(7,Zk (W6 s Wm).size),(0,.string (W6 s Wm))]/\fz=fz'/\H'=[]/\(∀ i,i<k->DigP (Yap (W6 s Wm) i))) ⟨0,Z0 _,rfl,rfl,rfl,rfl,(fun i hi=>absurd hi Zi)⟩ Zw Zb ?_;rintro q σ fz' H' ⟨k,hk,rfl,rfl,rfl,rfl,hh⟩;refine wC (fun hlt=>?_) (fun hge=>?_)
 ·refine zW ?_;obtain ⟨b,hb,hb2⟩:=Wa (s:=W6 s Wm) (k:=k) Zi
  ((refine zG ?_);refine Xr T Zz Zz Zz Zz Zi (by rw [Int.toNat_natCast];exact hb) ?_);refine wb (YhO (n:=b.toNat)) (fun f1=>?_) (fun f1=>?_)
  ·exact wP (h:=by exact ⟨k+1,by omega,rfl,rfl,rfl,rfl,(Xs hh (by rw [hb2];exact Zt f1))⟩)
  exact wR (h:=by exact Yn (fun h=>Zf f1 (by rw [<- hb2];exact h.1 k Zi)))
 refine wC (fun c1=>?_) (fun c1=>?_)
 ·exact wR (h:=by exact (Yw ⟨fun i hi=>hh i Zi,c1⟩))
 exact wR (h:=by exact Yn (fun h=>h.2 c1))
variable {A:Option Addr} {c n:Nat}
open Classical in
theorem Ye6 {l:List Bs} {x:Bs} (h1:Sl strL fz A n c l):
 QFn prog 91 [.slice A n c,.string x] fz (Zk (Wn (fun y=>x=y) l 0)):=by
 refine GFn.quiet ?_;refine zF Tryz.func91 Tryz.ntmps91 (fun w0=>?_);have l1:=h1.len;have hm:=h1.short;refine zW ?_;refine Ym (fun q σ fz' H'=>∃ k:Nat,k<=n/\q=n - k/\σ=[(8,Zk k),(7,Zk n),(0,.slice A n c),(1,.string x)]/\fz=fz'/\H'=[]/\(∀ i,i<k->∀ y,l[i]?=some y->¬x=y)) ⟨0,Z0 _,rfl,rfl,rfl,rfl,(fun i hi=>absurd hi Zi)⟩ Zw Zb ?_;rintro q σ fz' H' ⟨k,hk,rfl,rfl,rfl,rfl,hh⟩;refine wC (fun hlt=>?_) (fun hge=>?_)
 ·refine zW ?_;obtain ⟨y,hy⟩:=Yl (l:=l) (k:=k) Zi;refine zI h1 hy (fun a ha=>?_);refine zH ha (fun iy=>?_);refine wC (fun c1=>?_) (fun c1=>?_)
  ·exact wR (h:=by rw [W8 hh hy c1,Int.zero_add])
  exact wP (h:=by exact ⟨k+1,by omega,rfl,rfl,rfl,rfl,(YL hh hy c1)⟩)
 exact wR (h:=by rw [Wu (Xy hh Zi)])
open Classical in
theorem Yds {l:List Bs} {x:Bs} (h1:Sl strL fz A n c l):
 QFn prog 38 [.slice A n c,.string x] fz (.bool (decide (x∈l))):=by
 refine GFn.quiet ?_;refine zF Tryz.func38 Tryz.ntmps38 (fun w0=>?_);refine wc (Ye6 h1) ?_;refine zC (fun c1=>?_) (fun c1=>?_)
 ·exact wR (h:=by exact Yw (by obtain ⟨y,h,e⟩:=(Xt (Int.le_refl 0)).1 c1;rw [e];exact h))
 exact wR (h:=by exact Yn (fun h=>c1 ((Xt (Int.le_refl 0)).2 ⟨x,h,rfl⟩)))
variable {g:Nat} {t:TypeId}
theorem sl_strs {f:Nat × Nat} {l:List Bs} (h:fz g=some (.cells (l.map Value.string).toArray t f)) (hs:∀ s∈l,Short s) (hn:l.length<=140737488355328):Sl strL fz (some ⟨g,0,none⟩) l.length l.length l:=
 ⟨rfl,Zs _,by omega,hn,.inr ⟨_,rfl,fun i d hd=>⟨[.string d],⟨rfl,hs d (Zm hd)⟩,fun j v hv=>by
  have hadd:((⟨g,0,none⟩:Addr).add (i*strL.size)).add j=⟨g,i+j,none⟩:=by
   show ((⟨g,0,none⟩:Addr).add (i*1)).add j=_;unfold Addr.add;split<;>split<;>simp_all
  rw [hadd];cases j with
  | zero=>simp at hv;subst hv;simp [YcR,h,hd]
  | succ j=>simp at hv⟩⟩⟩
def XQ:List Bs:=[⟨#[97,110,100]⟩,⟨#[111,114]⟩,⟨#[110,111,116]⟩,⟨#[105,109,112,108,121]⟩,⟨#[102,111,114,97,108,108]⟩,⟨#[101,120,105,115,116,115]⟩,⟨#[119,104,101,110]⟩,⟨#[97,115,115,105,103,110]⟩,⟨#[105,110,99,114,101,97,115,101]⟩,⟨#[100,101,99,114,101,97,115,101]⟩,⟨#[111,98,106,101,99,116]⟩]
theorem Ylr:GFn prog 139 [] fz [] (fun v fz' H'=>H'=[]/\∃ A,v=.slice A 11 11/\Sl strL fz' A 11 11 XQ):=by
 refine zF Tryz.func139 Tryz.ntmps139 (fun w0=>?_);refine zW ?_;refine Ya Zz (Yb T (cs:=XQ.map Value.string) Zz Zz Zz Zz Zz Zz Zz Zz (fun g=>?_));refine zW ?_;exact ret1F rfl rfl (fun fz' hle hf=>⟨rfl,_,rfl,sl_strs (l:=XQ) (hf _ (.head _)) (by intro s hs;simp only [XQ,List.mem_cons,List.not_mem_nil,or_false] at hs;rcases hs with rfl | rfl | rfl | rfl | rfl | rfl | rfl | rfl | rfl | rfl | rfl<;>(unfold Short;decide)) Zh⟩)
def LetP (n:Int):Prop:=97<=n/\n<=122
def Ybp (s:Bs) (i:Nat):Prop:=LetP (Yap s i)\/(i≠0/\(DigP (Yap s i)\/(Yap s i:Int)=45\/(Yap s i:Int)=95))
def YX (s:Bs):Prop:=(∀ i,i<s.size->Ybp s i)/\s≠kEmpty/\s.size<=32/\s ∉ XQ
open Classical in
theorem Ww {s:Bs} (hs:Short s):QFn prog 90 [.string s] fz (.bool (decide (YX s))):=by
 have hz:s.size<=9223372036854775807:=hs;refine GFn.quiet ?_;refine zF Tryz.func90 Tryz.ntmps90 (fun w0=>?_);refine zW ?_;refine Ym (fun q σ fz' H'=>∃ k:Nat,k<=s.size/\q=s.size - k/\σ=[(8,Zk k),(7,Zk s.size),(0,.string s)]/\fz=fz'/\H'=[]/\(∀ i,i<k->Ybp s i)) ⟨0,Z0 _,rfl,rfl,rfl,rfl,(fun i hi=>absurd hi Zi)⟩ Zw Zb ?_;rintro q σ fz' H' ⟨k,hk,rfl,rfl,rfl,rfl,hh⟩;refine wC (fun hlt=>?_) (fun hge=>?_)
 ·refine zW ?_;obtain ⟨b,hb,hb2⟩:=Wa (s:=s) (k:=k) Zi;have bad:¬Ybp s k->¬YX s:=fun h hc=>h (hc.1 k Zi)
  ((refine zG ?_);refine Xr T Zz Zz Zz Zz Zi (by rw [Int.toNat_natCast];exact hb) ?_);refine wC (fun c1=>?_) (fun c1=>?_)
  ·refine wC (fun c2=>?_) (fun c2=>?_)
   ·exact wP (h:=by exact ⟨k+1,by omega,rfl,rfl,rfl,rfl,(Xs hh (by rw [Ybp,hb2];exact .inl ⟨c1,c2⟩))⟩)
   have nl:¬LetP b.toNat:=fun h=>c2 h.2
   refine wC (fun c3=>?_) (fun c3=>?_)
   ·exact wR (h:=by exact Yn (bad (by rw [Ybp,hb2];intro h;rcases h with h | h;exact nl h;omega)))
   refine wC (fun c4=>?_) (fun c4=>?_)
   ·refine wC (fun c5=>?_) (fun c5=>?_)
    ·refine wC (fun c6=>?_) (fun c6=>?_)
     ·exact wR (h:=by exact Yn (bad (by rw [Ybp,hb2];unfold DigP;intro h;rcases h with h | ⟨_,h | h | h⟩;exact nl h;omega;omega;omega)))
     exact wP (h:=by exact ⟨k+1,by omega,rfl,rfl,rfl,rfl,(Xs hh (by rw [Ybp,hb2];right;refine ⟨by omega,?_⟩;omega))⟩)
    exact wP (h:=by exact ⟨k+1,by omega,rfl,rfl,rfl,rfl,(Xs hh (by rw [Ybp,hb2];right;refine ⟨by omega,?_⟩;omega))⟩)
   refine wC (fun c7=>?_) (fun c7=>?_)
   ·refine wC (fun c5=>?_) (fun c5=>?_)
    ·refine wC (fun c6=>?_) (fun c6=>?_)
     ·exact wR (h:=by exact Yn (bad (by rw [Ybp,hb2];unfold DigP;intro h;rcases h with h | ⟨_,h | h | h⟩;exact nl h;omega;omega;omega)))
     exact wP (h:=by exact ⟨k+1,by omega,rfl,rfl,rfl,rfl,(Xs hh (by rw [Ybp,hb2];right;refine ⟨by omega,?_⟩;omega))⟩)
    exact wP (h:=by exact ⟨k+1,by omega,rfl,rfl,rfl,rfl,(Xs hh (by rw [Ybp,hb2];right;refine ⟨by omega,?_⟩;omega))⟩)
   exact wP (h:=by exact ⟨k+1,by omega,rfl,rfl,rfl,rfl,(Xs hh (by rw [Ybp,hb2];right;refine ⟨by omega,?_⟩;unfold DigP;omega))⟩)
  have nl:¬LetP b.toNat:=fun h=>c1 h.1
  refine wC (fun c3=>?_) (fun c3=>?_)
  ·exact wR (h:=by exact Yn (bad (by rw [Ybp,hb2];intro h;rcases h with h | h;exact nl h;omega)))
  refine wC (fun c4=>?_) (fun c4=>?_)
  ·refine wC (fun c5=>?_) (fun c5=>?_)
   ·refine wC (fun c6=>?_) (fun c6=>?_)
    ·exact wR (h:=by exact Yn (bad (by rw [Ybp,hb2];unfold DigP;intro h;rcases h with h | ⟨_,h | h | h⟩;exact nl h;omega;omega;omega)))
    exact wP (h:=by exact ⟨k+1,by omega,rfl,rfl,rfl,rfl,(Xs hh (by rw [Ybp,hb2];right;refine ⟨by omega,?_⟩;omega))⟩)
   exact wP (h:=by exact ⟨k+1,by omega,rfl,rfl,rfl,rfl,(Xs hh (by rw [Ybp,hb2];right;refine ⟨by omega,?_⟩;omega))⟩)
  refine wC (fun c7=>?_) (fun c7=>?_)
  ·refine wC (fun c5=>?_) (fun c5=>?_)
   ·refine wC (fun c6=>?_) (fun c6=>?_)
    ·exact wR (h:=by exact Yn (bad (by rw [Ybp,hb2];unfold DigP;intro h;rcases h with h | ⟨_,h | h | h⟩;exact nl h;omega;omega;omega)))
    exact wP (h:=by exact ⟨k+1,by omega,rfl,rfl,rfl,rfl,(Xs hh (by rw [Ybp,hb2];right;refine ⟨by omega,?_⟩;omega))⟩)
   exact wP (h:=by exact ⟨k+1,by omega,rfl,rfl,rfl,rfl,(Xs hh (by rw [Ybp,hb2];right;refine ⟨by omega,?_⟩;omega))⟩)
  exact wP (h:=by exact ⟨k+1,by omega,rfl,rfl,rfl,rfl,(Xs hh (by rw [Ybp,hb2];right;refine ⟨by omega,?_⟩;unfold DigP;omega))⟩)
 refine wC (fun c1=>?_) (fun c1=>?_)
 ·refine wC (fun c2=>?_) (fun c2=>?_)
  ·refine zW ?_;refine Seq.guard_yesK Zz Zz Zz (Yx [] [] Zz Zz Zz Ylr (fun v fz2 H2 hle2 hR=>?_));obtain ⟨rfl,A,rfl,hsl⟩:=hR;refine wb (Yds (x:=s) hsl) (fun f1=>?_) (fun f1=>?_)
   ·exact wR (h:=by exact Yn (fun h=>h.2.2.2 (Zt f1)))
   exact wR (h:=by exact (Yw ⟨fun i hi=>hh i Zi,c1,by omega,Zf f1⟩))
  exact wR (h:=by exact Yn (fun h=>by have:=h.2.2.1;omega))
 exact wR (h:=by exact Yn (fun h=>h.2.1 c1))
def VarP (s:Bs):Prop:=1<s.size/\s.size<=32/\(Yap s 0:Int)=63/\YX (s.extract 1 s.size)
def Ydx (s:Bs):Prop:=YX s\/VarP s
def Wt:Bs:=⟨#[111,98,106,101,99,116]⟩
def YcT (s:Bs):Prop:=YX s\/s=Wt
open Classical in
theorem YbN {s:Bs} (hs:Short s):QFn prog 101 [.string s] fz (.bool (decide (VarP s))):=by
 have hz:s.size<=9223372036854775807:=hs;refine GFn.quiet ?_;refine zF Tryz.func101 Tryz.ntmps101 (fun w0=>?_);refine wC (fun c1=>?_) (fun c1=>?_)
 ·refine wC (fun c2=>?_) (fun c2=>?_)
  ·refine zW ?_;obtain ⟨b,hb,hb2⟩:=Wa (s:=s) (k:=0) Zi;refine zG ?_;refine Xr T Zz Zz Zz Zz Zi hb ?_;refine wC (fun c3=>?_) (fun c3=>?_)
   ·refine wG ?_;refine Yec T Zz Zz Zz Zz Zi Zi ?_;refine wG ?_;refine We Zz Zz (Ww (s:=s.extract 1 s.size) (by unfold Short;rw [Ybn (Zs _)];omega)) (fun f1=>?_) (fun f1=>?_)
    ·exact wR (h:=by exact (Yw ⟨by omega,by omega,by rw [hb2];exact c3,Zt f1⟩))
    exact wR (h:=by exact Yn (fun h=>Zf f1 h.2.2.2))
   exact wR (h:=by exact Yn (fun h=>c3 (by rw [<- hb2];exact h.2.2.1)))
  exact wR (h:=by exact Yn (fun h=>by have:=h.2.1;omega))
 exact wR (h:=by exact Yn (fun h=>by have:=h.1;omega))
open Classical in
theorem Ymg {s:Bs} (hs:Short s):QFn prog 194 [.string s] fz (.bool (decide (Ydx s))):=by
 refine GFn.quiet ?_;refine zF Tryz.func194 Tryz.ntmps194 (fun w0=>?_);refine wb (Ww hs) (fun f1=>?_) (fun f1=>?_)
 ·exact wR (h:=by exact Yw (.inl (Zt f1)))
 refine wb (YbN hs) (fun f2=>?_) (fun f2=>?_)
 ·exact wR (h:=by exact Yw (.inr (Zt f2)))
 exact wR (h:=by exact Yn (fun h=>h.elim (Zf f1) (Zf f2)))
open Classical in
theorem YnS {s:Bs} (hs:Short s):QFn prog 225 [.string s] fz (.bool (decide (Ydx s))):=by
 refine GFn.quiet ?_;refine zF Tryz.func225 Tryz.ntmps225 (fun w0=>?_);refine wb (Ww hs) (fun f1=>?_) (fun f1=>?_)
 ·exact wR (h:=by exact Yw (.inl (Zt f1)))
 refine wb (YbN hs) (fun f2=>?_) (fun f2=>?_)
 ·exact wR (h:=by exact Yw (.inr (Zt f2)))
 exact wR (h:=by exact Yn (fun h=>h.elim (Zf f1) (Zf f2)))
open Classical in
theorem Yl6 {s:Bs} (hs:Short s):QFn prog 140 [.string s] fz (.bool (decide (YcT s))):=by
 refine GFn.quiet ?_;refine zF Tryz.func140 Tryz.ntmps140 (fun w0=>?_);refine wb (Ww hs) (fun f1=>?_) (fun f1=>?_)
 ·exact wR (h:=by exact Yw (.inl (Zt f1)))
 refine wC (fun c2=>?_) (fun c2=>?_)
 ·exact wR (h:=by exact Yw (.inr c2))
 exact wR (h:=by exact Yn (fun h=>h.elim (Zf f1) c2))
def sxV (k v:Int) (s:Bs) (kids:Value):Value:=.agg #[Zk k,Zk v,Zk 0,Zk 0,.string s,kids]
theorem Ybj {s:Bs}:QFn prog 112 [.string s] fz (sxV 1 0 s Zn):=by
 refine GFn.quiet ?_;refine zF Tryz.func112 Tryz.ntmps112 (fun w0=>?_);refine zW ?_;intros;exact WT T (i:=0) rfl Zz Zz Zz Zz Zz (fun _ hi=>⟨_,[],hi.forget (List.nil_sublist _),rfl⟩)
theorem Yai {s:Bs}:QFn prog 47 [.string s] fz (sxV 1 0 s Zn):=by
 refine GFn.quiet ?_;refine zF Tryz.func47 Tryz.ntmps47 (fun w0=>?_);refine zW ?_;intros;exact WT T (i:=0) rfl Zz Zz Zz Zz Zz (fun _ hi=>⟨_,[],hi.forget (List.nil_sublist _),rfl⟩)
theorem Yah {s:Bs}:QFn prog 57 [.string s] fz (sxV 1 0 s Zn):=by
 refine GFn.quiet ?_;refine zF Tryz.func57 Tryz.ntmps57 (fun w0=>?_);refine zW ?_;intros;exact WT T (i:=0) rfl Zz Zz Zz Zz Zz (fun _ hi=>⟨_,[],hi.forget (List.nil_sublist _),rfl⟩)
theorem YcJ:QFn prog 156 [.slice A n c] fz (sxV 3 0 ⟨#[]⟩ (.slice A n c)):=by
 refine GFn.quiet ?_;refine zF Tryz.func156 Tryz.ntmps156 (fun w0=>?_);refine zW ?_;intros;exact WT T (i:=0) rfl Zz Zz Zz Zz Zz (fun _ hi=>⟨_,[],hi.forget (List.nil_sublist _),rfl⟩)
theorem Xo:QFn prog 46 [.slice A n c] fz (sxV 3 0 ⟨#[]⟩ (.slice A n c)):=by
 refine GFn.quiet ?_;refine zF Tryz.func46 Tryz.ntmps46 (fun w0=>?_);refine zW ?_;intros;exact WT T (i:=0) rfl Zz Zz Zz Zz Zz (fun _ hi=>⟨_,[],hi.forget (List.nil_sublist _),rfl⟩)
theorem X2:QFn prog 56 [.slice A n c] fz (sxV 3 0 ⟨#[]⟩ (.slice A n c)):=by
 refine GFn.quiet ?_;refine zF Tryz.func56 Tryz.ntmps56 (fun w0=>?_);refine zW ?_;intros;exact WT T (i:=0) rfl Zz Zz Zz Zz Zz (fun _ hi=>⟨_,[],hi.forget (List.nil_sublist _),rfl⟩)
theorem Yfb {n:Int}:QFn prog 51 [Zk n] fz (sxV 2 n ⟨#[]⟩ Zn):=by
 refine GFn.quiet ?_;refine zF Tryz.func51 Tryz.ntmps51 (fun w0=>?_);refine zW ?_;intros;exact WT T (i:=0) rfl Zz Zz Zz Zz Zz (fun _ hi=>⟨_,[],hi.forget (List.nil_sublist _),rfl⟩)
theorem flat_get {α:Type} {f:α->List Value} {z:Nat} (hz:∀ x,(f x).length=z):∀ {l:List α} {i j:Nat} {x:α} {u:Value},l[i]?=some x->(f x)[j]?=some u->(l.flatMap f)[i*z+j]?=some u
 | [],i,j,x,u,h,_=>by simp at h
 | y::r,0,j,x,u,h,hu=>by
  simp at h;subst h;have hj:j<(f y).length:=(Zg hu).1;rw [List.flatMap_cons,Nat.zero_mul,Nat.zero_add,List.getElem?_append_left hj];exact hu
 | y::r,i+1,j,x,u,h,hu=>by
  have h2:=flat_get hz (l:=r) (i:=i) (j:=j) (x:=x) (u:=u) (by simpa using h) hu;have e:(i+1)*z+j=z+(i*z+j):=by rw [Nat.succ_mul];omega
  rw [List.flatMap_cons,e,List.getElem?_append_right (by rw [hz];omega),hz,Nat.add_sub_cancel_left];exact h2
theorem Ynz {α β:Type} {f:α->List β} {a:α} {l:List α} {x:α} (hx:l[k]?=some x):(a::l.take (k+1)).flatMap f=(a::l.take k).flatMap f++f x:=by
 rw [List.take_add_one,hx];simp
variable {fz':FZ} {v:Value}
theorem Yg6 {α β:Type} {L:Lay α} {f:β->List Value} {g:β->α} {e:Nat} {l:List β} {b:HP} (hz:∀ x,(f x).length=L.size) (hO:OwnS e L.size v n (l.flatMap f) b) (hf:∀ p∈b,fz' p.1=some p.2) (hl:l.length=n) (hn:n<=140737488355328) (hr:∀ x∈l,L.rep fz' (g x) (f x)):
 ∃ A c,v=.slice A n c/\Sl L fz' A n c (l.map g):=by
 obtain ⟨A,c,h1,h2,h3,h4⟩:=hO.row hf;refine ⟨A,c,h1,h4.sl h2 h3 hn (by simpa using hl) fun i d hd=>?_⟩;rw [List.getElem?_map] at hd;cases hx:l[i]? with
 | none=>simp [hx] at hd
 | some x=>
  simp [hx] at hd;subst hd;exact ⟨f x,hr x (Zm hx),fun j u hu=>flat_get hz hx hu⟩
theorem short_of {l:List Bs} (h:Sl strL fz A n c l) {x:Bs} (hx:x∈l):Short x:=by
 obtain ⟨i,hi⟩:=List.mem_iff_getElem?.1 hx;rcases h.elem with h0 | ⟨ad,h1,h2⟩
 ·have:=YfC hi;have:=h.len;omega
 obtain ⟨v,⟨_,h3⟩,_⟩:=(h2 i x hi).cell rfl;exact h3
def Yg (s:Bs):Sexpr:=.mk 1 0 0 0 s []
def Yr (s:Bs):List Value:=[Zk 1,Zk 0,Zk 0,Zk 0,.string s,Zn]
theorem Yu {s:Bs} (hs:Short s):Yz.rep fz (Yg s) (Yr s):=
 Yh (x:=Yg s) ⟨by show I64 1;unfold I64;omega,by show I64 0;unfold I64;omega,by show I64 0;unfold I64;omega,by show I64 0;unfold I64;omega,hs,IsSl.nil⟩
set_option maxHeartbeats 1000000 in
theorem YhA {f0:Bs} {l:List Bs} (hf:Short f0) (h1:Sl strL fz A n c l) (hn:n<=1000000000):
 GFn prog 155 [.string f0,.slice A n c] fz [] (fun v fz' H'=>H'=[]/\∃ B m cc,v=sxV 3 0 ⟨#[]⟩ (.slice B m cc)/\Sl Yz fz' B m cc (Yg f0::l.map Yg)):=by
 have l1:=h1.len;refine zF Tryz.func155 Tryz.ntmps155 (fun w0=>?_);refine zW ?_;intros;rename_i g4;refine zc (Ybj (s:=f0)) ?_;refine Ya Zz (Yb T (cs:=Yr f0) Zz Zz Zz Zz Zz Zz Zz Zz (fun gb=>?_));refine zc YcJ ?_;refine zW ?_;intros;rename_i g5;refine Wp.perm (List.Perm.cons _ (List.Perm.swap _ _ _)) ?_;refine Ym (fun q σ fz' H'=>∃ (k:Nat) (v:Value) (Hs:HP),k<=n/\q=n - k/\σ=[(14,Zk k),(13,Zk n),(12,.slice A n c),(5,Zp g5),(4,Zp g4)]/\fz=fz'/\
  H'=(g5,.cells #[Zk 3,Zk 0,Zk 0,Zk 0,Ze,v] 57 (0,0))::(g4,.cells #[Zk 0,Zk 0,Zk 0,Zk 0,Ze,Zn] 57 (0,0))::Hs/\OwnS 57 6 v (k+1) ((f0::l.take k).flatMap Yr) Hs)
  ⟨0,_,[_],Z0 _,rfl,rfl,rfl,rfl,?_⟩ Zw Zb ?_
 ·exact OwnS.of_block (size:=6) (cs:=Yr f0) (n:=1) rfl Zh
 rintro q σ fz' H' ⟨k,v,Hs,hk,rfl,rfl,rfl,rfl,hO⟩;refine wC (fun c1=>?_) (fun c1=>?_)
 ·obtain ⟨x,hx⟩:=Yl (l:=l) (k:=k) Zi;obtain ⟨Av,cv,rfl,_,_⟩:=hO.form;refine wI h1 hx (fun p hp=>?_);refine zH hp (fun ix=>?_);refine zW ?_;refine Wp.drawK (Hq:=[_,_]) T.mixed Zj Zj Zb ?_;refine zW ?_;refine Yf ?_;refine Yf ?_;refine Yf ?_;refine zW ?_;refine Yf ?_;refine YM ⟨by kernel_rfl,?_⟩;refine Ch.qk (⟨Le.refl _,Zx⟩) (Yv Zz Zz (Ybj (s:=x)) ?_);refine Yt (Yb T (cs:=Yr x) Zz Zz Zz Zz Zz Zz Zz Zz (fun gb=>⟨(⟨Le.refl _,Zx⟩),?_⟩));refine Yt (Ye4 T (Hr:=[_,_,_]) Zz Zz Zz Zz Zz Zz Zz (Zr _) hO rfl (Yjy (.head _)) (by intro u hu;simp [Yr] at hu;rcases hu with rfl | rfl | rfl | rfl | rfl | rfl<;>rfl) (by show _*72<=_;omega) Zi (fun v' Hs' hO'=>⟨(⟨Le.refl _,Zx⟩),?_⟩));obtain ⟨Av',cv',rfl,_,_⟩:=hO'.form;refine Ch.hard0 Zj (YU T Zz Zz Zz Zz Zz Zz ?_);refine Ch.done ?_;exact wP (h:=by exact ⟨k+1,_,Hs',by omega,rfl,rfl,rfl,rfl,by rw [Ynz (a:=f0) hx];exact hO'⟩)
 have hk1:k=n:=by omega
 subst hk1;obtain ⟨Av,cv,rfl,_,_⟩:=hO.form;refine zW ?_;refine Wg T (i:=1) rfl Zz Zz Zz Zz Zz (fun fz3 hle3 hf3=>?_);rw [Zl Zi] at hO;obtain ⟨A',c',he,hsl⟩:=Yg6 (L:=Yz) (g:=Yg) (fun _=>rfl) hO (fun p hp=>hf3 p (by simp [hp])) (by simp [l1]) Zi (fun x hx=>Yu (by
  rcases List.mem_cons.1 hx with rfl | hx
  ·exact hf
  exact short_of h1 hx))
 exact ⟨rfl,_,_,_,by rw [he];rfl,hsl⟩
theorem Yll {l:List Bs}:∀ u∈l.flatMap Yr,u.oneCell'=true:=by
 intro u hu;obtain ⟨x,_,hx⟩:=List.mem_flatMap.1 hu;simp [Yr] at hx;rcases hx with rfl | rfl | rfl | rfl<;>rfl
theorem rep_of {α:Type} {L:Lay α} {l:List α} (h:Sl L fz A n c l) {x:α} (hx:x∈l):∃ cs,L.rep fz x cs:=by
 obtain ⟨i,hi⟩:=List.mem_iff_getElem?.1 hx;rcases h.elem with h0 | ⟨ad,h1,h2⟩
 ·have:=YfC hi;have:=h.len;omega
 obtain ⟨cs,hr,_⟩:=h2 i x hi;exact ⟨cs,hr⟩
def W1 (p:Param):List Bs:=[p.name,Wm,p.typ]
theorem YlE {α β γ:Type} {f:α->List β} {h:β->List γ} {l:List α} {x:α} (hx:l[k]?=some x):((l.take (k+1)).flatMap f).flatMap h=((l.take k).flatMap f).flatMap h++(f x).flatMap h:=by
 rw [List.take_add_one,hx];simp
theorem Yc1:∀ {l:List Param},(l.flatMap W1).length=3*l.length
 | []=>rfl
 | p::r=>by rw [List.flatMap_cons,List.length_append,Yc1];simp [W1];omega
set_option maxHeartbeats 1000000 in
theorem YdK {l:List Param} (h1:Sl paramL fz A n c l) (hn:n<=1000000000):
 GFn prog 58 [.slice A n c] fz [] (fun v fz' H'=>H'=[]/\∃ B cc,v=.slice B (3*n) cc/\Sl Yz fz' B (3*n) cc ((l.flatMap W1).map Yg)):=by
 have l1:=h1.len;refine zF Tryz.func58 Tryz.ntmps58 (fun w0=>?_);refine zW ?_;refine Ym (fun q σ fz' H'=>∃ (k:Nat) (v:Value) (Hs:HP),k<=n/\q=n - k/\σ=[(8,Zk k),(7,Zk n),(6,.slice A n c),(3,v)]/\fz=fz'/\
  H'=Hs/\OwnS 57 6 v (3*k) (((l.take k).flatMap W1).flatMap Yr) Hs)
  ⟨0,_,[],Z0 _,rfl,rfl,rfl,rfl,OwnS.nil _ _⟩ Zw Zb ?_
 rintro q σ fz' H' ⟨k,v,Hs,hk,rfl,rfl,rfl,rfl,hO⟩;refine wC (fun c1=>?_) (fun c1=>?_)
 ·obtain ⟨x,hx⟩:=Yl (l:=l) (k:=k) Zi;obtain ⟨Av,cv,rfl,_,_⟩:=hO.form;refine wI h1 hx (fun p hp=>?_);refine zL hp ?_;intro cs hcs;obtain ⟨rfl,hR⟩:=YR hcs;refine zW ?_;intros;rename_i g5;refine Wp.drawK (Hq:=[_]) T.mixed Zj Zj Zb ?_;refine zW ?_;refine Yf ?_;refine Yf ?_;refine zW ?_;refine Yf ?_;refine Yf ?_;refine Yf ?_;refine Yf ?_;refine YM ⟨by kernel_rfl,?_⟩;refine Ch.qk (⟨Le.refl _,Zx⟩) (Yv Zz Zz (Ybj (s:=x.name)) ?_);refine Ch.qk (⟨Le.refl _,Zx⟩) (Yv Zz Zz (Ybj (s:=Wm)) ?_);refine Ch.qk (⟨Le.refl _,Zx⟩) (Yv Zz Zz (Ybj (s:=x.typ)) ?_);refine Yt (Yb T (cs:=(W1 x).flatMap Yr) Zz Zz Zz Zz Zz Zz Zz Zz (fun gb=>⟨(⟨Le.refl _,Zx⟩),?_⟩));refine Yt (Ye4 T (Hr:=[_,_]) Zz Zz Zz Zz Zz Zz Zz (Zr _) hO rfl (Yjy (.head _)) Yll (by show _*72<=_;omega) Zi (fun v' Hs' hO'=>⟨(⟨Le.refl _,Zx⟩),?_⟩));refine Ch.qk (⟨Le.refl _,Zx⟩) (YY Zz ?_);refine Ch.done ?_;exact wP (h:=by exact ⟨k+1,_,Hs',by omega,rfl,rfl,rfl,rfl,by rw [YlE hx];exact hO'⟩)
 have hk1:k=n:=by omega
 subst hk1;obtain ⟨Av,cv,rfl,_,_⟩:=hO.form;refine zW ?_;refine ret1F rfl rfl (fun fz3 hle3 hf3=>?_);rw [Zl Zi] at hO;obtain ⟨A',c',he,hsl⟩:=Yg6 (L:=Yz) (g:=Yg) (fun _=>rfl) hO (fun p hp=>hf3 p hp) (by rw [Yc1,l1]) Zi (fun x hx=>Yu (by
  obtain ⟨p,hp,hx⟩:=List.mem_flatMap.1 hx;obtain ⟨cs,hr⟩:=rep_of h1 hp;obtain ⟨_,hR⟩:=YR hr;simp only [W1,List.mem_cons,List.not_mem_nil,or_false] at hx;rcases hx with rfl | rfl | rfl
  ·exact hR.name
  ·unfold Short Wm;decide
  exact hR.typ))
 exact ⟨rfl,_,_,he,hsl⟩
end Go.Proofs.YtfjopfinkdhmaaaGreatDoor
namespace Go.Lx
open Go.RowKit
def Grow {α:Type} (L:Lay α) (e:Nat) (fz:FZ) (v:Value) (n:Nat) (Hs:HP) (l:List α):Prop:=
 ∃ xs:List (α × List Value),xs.map Prod.fst=l/\(∀ p∈xs,L.rep fz p.1 p.2)/\l.length=n/\OwnS e L.size v n (xs.flatMap Prod.snd) Hs
theorem Grow.nil {α:Type} (L:Lay α) (e:Nat) (fz:FZ):Grow L e fz Zn 0 [] ([]:List α):=⟨[],rfl,by simp,rfl,OwnS.nil e L.size⟩
variable {Hs:HP} {fz fz':FZ} {n:Nat} {v:Value}
theorem Grow.mono {α:Type} {L:Lay α} {e:Nat} (h:Le fz fz') {l:List α} (hg:Grow L e fz v n Hs l):Grow L e fz' v n Hs l:=by
 obtain ⟨xs,h1,h2,h3,h4⟩:=hg;exact ⟨xs,h1,fun p hp=>L.mono h (h2 p hp),h3,h4⟩
theorem Grow.form {α:Type} {L:Lay α} {e:Nat} {l:List α} (hg:Grow L e fz v n Hs l):∃ A c,v=.slice A n c/\n<=c/\c<=9223372036854775807:=by
 obtain ⟨_,_,_,_,h⟩:=hg;exact h.form
theorem Grow.len {α:Type} {L:Lay α} {e:Nat} {l:List α} (hg:Grow L e fz v n Hs l):l.length=n:=by
 obtain ⟨_,_,_,h,_⟩:=hg;exact h
theorem Grow.of {α:Type} {L:Lay α} {e:Nat} {n':Nat} {l l':List α} (hg:Grow L e fz v n Hs l) (hl:l=l') (hn:n=n'):Grow L e fz v n' Hs l':=by
 subst hl hn;exact hg
theorem YfO {α:Type} {z:Nat}:∀ {l:List (α × List Value)} {i j:Nat} {x:α × List Value} {u:Value},(∀ p∈l,p.2.length=z)->l[i]?=some x->x.2[j]?=some u->(l.flatMap Prod.snd)[i*z+j]?=some u
 | [],i,j,x,u,_,h,_=>by simp at h
 | y::r,0,j,x,u,_,h,hu=>by
  simp at h;subst h;have hj:j<y.2.length:=(Zg hu).1;rw [List.flatMap_cons,Nat.zero_mul,Nat.zero_add,List.getElem?_append_left hj];exact hu
 | y::r,i+1,j,x,u,hz,h,hu=>by
  have h2:=YfO (z:=z) (l:=r) (i:=i) (j:=j) (x:=x) (u:=u) (fun p hp=>hz p (by simp [hp])) (by simpa using h) hu;have hy:=hz y (by simp);have e:(i+1)*z+j=z+(i*z+j):=by rw [Nat.succ_mul];omega
  rw [List.flatMap_cons,e,List.getElem?_append_right (by rw [hy];omega),hy,Nat.add_sub_cancel_left];exact h2
theorem Ya4 {α:Type} {z:Nat}:∀ {l:List (α × List Value)},(∀ p∈l,p.2.length=z)->(l.flatMap Prod.snd).length=l.length*z
 | [],_=>by simp
 | y::r,h=>by
  rw [List.flatMap_cons,List.length_append,Ya4 (fun p hp=>h p (by simp [hp])),h y (by simp),List.length_cons,Nat.succ_mul];omega
theorem Grow.sl {α:Type} {L:Lay α} {e:Nat} {l:List α} (hg:Grow L e fz v n Hs l) (hle:Le fz fz') (hf:∀ p∈Hs,fz' p.1=some p.2) (hn:n<=140737488355328):∃ A c,v=.slice A n c/\Sl L fz' A n c l:=by
 obtain ⟨xs,rfl,h2,h3,h4⟩:=hg;obtain ⟨A,c,e1,e2,e3,e4⟩:=h4.row hf;refine ⟨A,c,e1,e4.sl e2 e3 hn h3 fun i d hd=>?_⟩;rw [List.getElem?_map] at hd;cases hx:xs[i]? with
 | none=>simp [hx] at hd
 | some x=>
  simp [hx] at hd;subst hd;exact ⟨x.2,L.mono hle (h2 x (Zm hx)),fun j u hu=>YfO (fun p hp=>L.len (h2 p hp)) hx hu⟩
variable {A:Option Addr} {c:Nat}
theorem Sl.pairs {α:Type} {L:Lay α} {l:List α} (h:Sl L fz A n c l):∃ xs:List (α × List Value),xs.map Prod.fst=l/\(∀ p∈xs,L.rep fz p.1 p.2)/\RowS fz A n (xs.flatMap Prod.snd):=by
 rcases h.elem with h0 | ⟨ad,h1,h2⟩
 ·have:=h.len;have hl:l=[]:=List.eq_nil_of_length_eq_zero Zi;subst hl;exact ⟨[],rfl,by simp,.inl h0⟩
 have key:∀ (m:Nat),m<=l.length->∃ xs:List (α × List Value),xs.map Prod.fst=l.take m/\(∀ p∈xs,L.rep fz p.1 p.2)/\Row fz ad (xs.flatMap Prod.snd):=by
  intro m
  induction m with
  | zero=>exact fun _=>⟨[],by simp,by simp,fun j v hv=>by simp at hv⟩
  | succ m ih=>
   intro hm;obtain ⟨xs,e1,e2,e3⟩:=ih Zi;have hx:l[m]?=some l[m]:=List.getElem?_eq_getElem Zi;obtain ⟨cs,hr,hrow⟩:=h2 m _ hx;have hlen:xs.length=m:=by have:=congrArg List.length e1;simp at this;omega
   have hz:∀ p∈xs,p.2.length=L.size:=fun p hp=>L.len (e2 p hp)
   refine ⟨xs++ [(l[m],cs)],by rw [List.map_append,e1,List.take_add_one,hx];rfl,fun p hp=>?_,fun j v hv=>?_⟩
   ·rcases List.mem_append.1 hp with hp | hp
    ·exact e2 p hp
    simp at hp;subst hp;exact hr
   rw [List.flatMap_append] at hv;by_cases hj:j<(xs.flatMap Prod.snd).length
   ·rw [List.getElem?_append_left hj] at hv;exact e3 j v hv
   rw [List.getElem?_append_right Zi] at hv;have hl2:=Ya4 hz;rw [hlen] at hl2;simp at hv;have:=hrow (j - (xs.flatMap Prod.snd).length) v (by simpa using hv);rw [hl2] at this;have e:(ad.add (m*L.size)).add (j - m*L.size)=ad.add j:=by
    have hj':m*L.size<=j:=by omega
    unfold Addr.add;by_cases h5:m*L.size=0
    ·rw [h5];simp
    by_cases h6:j - m*L.size=0
    ·have:j=m*L.size:=by omega
     subst this;simp
    have h7:j≠0:=by omega
    simp [h5,h6,h7,Nat.add_assoc];omega
   rw [e] at this;exact this
 obtain ⟨xs,e1,e2,e3⟩:=key l.length (Zs _);exact ⟨xs,by rw [e1,List.take_length],e2,.inr ⟨ad,h1,e3⟩⟩
def OneC {α:Type} (L:Lay α):Prop:=∀ fz d cs,L.rep fz d cs->∀ u∈cs,u.oneCell'=true
theorem Ys:OneC Yz:=by
 intro fz d cs h u hu;obtain ⟨vk,rfl,hR⟩:=Yi h;obtain ⟨A,n,c,rfl,_⟩:=hR.kids;simp at hu;rcases hu with rfl | rfl | rfl | rfl | rfl | rfl<;>rfl
theorem WV:OneC paramL:=by
 intro fz d cs h u hu;obtain ⟨rfl,hR⟩:=YR h;simp at hu;rcases hu with rfl | rfl<;>rfl
section
variable {P:Program} {cx:Cx} {r:Operand->Option Value} {fz:FZ} {H:HP} {dst:Option Nat} {ty:TypeId} {pos:String} {af:Array Edge} {gd:Option (Nat × Bool)} {α:Type} {L:Lay α}
variable {Hr:HP} {X Y:Ty} {cs:List Value} {g:Nat} {t:TypeId} {x y:Operand}
theorem YiS (T:Tab P) {e e':TypeId} {m:Nat} {l l2:List α} {ys:List (α × List Value)} {K:Value->FZ->HP->Prop} (hT:T.inf t=some X) (hd:X.desc=.slice e) (hY:T.inf e=some Y) (hz:Y.zero.cells.size=Y.size) (hsz:Nat.blt 0 Y.size=true) (hYL:Y.size=L.size)
 (hx:r x=some v) (hy:r y=some (Zv g m c)) (hp:H.Perm (Hr++Hs)) (ho:Grow L e fz v n Hs l) (h1:OneC L)
 (hg:(g,Obj.cells cs.toArray e' (0,0))∈H) (hcs:cs=ys.flatMap Prod.snd) (hl2:ys.map Prod.fst=l2) (hys:∀ p∈ys,L.rep fz p.1 p.2) (hm:l2.length=m)
 (hb:(n+m)*Y.bytes<=140737488355328) (hm2:n+m<=9223372036854775807)
 (h:∀ v' Hs',Grow L e fz v' (n+m) Hs' (l++l2)->K v' fz (Hr++Hs')):
 Does P cx ⟨dst,.call {callee:=.builtin .append,args:=#[x,y],argTypes:=#[t,t]},ty,pos,af,gd⟩ r fz H K:=by
 obtain ⟨xs,h2,h3,h4,h5⟩:=ho;have hlm:ys.length=m:=by rw [<- hl2,List.length_map] at hm;exact hm
 have hzy:∀ p∈ys,p.2.length=L.size:=fun p hp=>L.len (hys p hp)
 subst hcs;refine Ye4 T (news:=ys.flatMap Prod.snd) hT hd hY hz hsz hx hy hp (by rw [hYL];exact h5) (by rw [Ya4 hzy,hlm,hYL]) (Yjy hg) (fun u hu=>?_) hb hm2 (fun v' Hs' hO=>h v' Hs' ⟨xs++ys,by rw [List.map_append,h2,hl2],fun p hp=>?_,by rw [List.length_append,h4,hm],by rw [List.flatMap_append,<- hYL];exact hO⟩)
 ·obtain ⟨p,hp,hu⟩:=List.mem_flatMap.1 hu;exact h1 _ _ _ (hys p hp) u hu
 rcases List.mem_append.1 hp with hp | hp
 ·exact h3 p hp
 exact hys p hp
theorem YP (T:Tab P) {e e':TypeId} {l:List α} {d:α} {K:Value->FZ->HP->Prop} (hT:T.inf t=some X) (hd:X.desc=.slice e) (hY:T.inf e=some Y) (hz:Y.zero.cells.size=Y.size) (hsz:Nat.blt 0 Y.size=true) (hYL:Y.size=L.size)
 (hx:r x=some v) (hy:r y=some (Zv g 1 c)) (hp:H.Perm (Hr++Hs)) (ho:Grow L e fz v n Hs l) (h1:OneC L)
 (hg:(g,Obj.cells cs.toArray e' (0,0))∈H) (hys:L.rep fz d cs)
 (hb:(n+1)*Y.bytes<=140737488355328) (hm2:n+1<=9223372036854775807)
 (h:∀ v' Hs',Grow L e fz v' (n+1) Hs' (l++ [d])->K v' fz (Hr++Hs')):
 Does P cx ⟨dst,.call {callee:=.builtin .append,args:=#[x,y],argTypes:=#[t,t]},ty,pos,af,gd⟩ r fz H K:=
 YiS T (ys:=[(d,cs)]) hT hd hY hz hsz hYL hx hy hp ho h1 hg (by simp) rfl (by simpa using hys) rfl hb hm2 h
variable {B:Option Addr}
theorem WX (T:Tab P) {e:TypeId} {m:Nat} {l l2:List α} {K:Value->FZ->HP->Prop} (hT:T.inf t=some X) (hd:X.desc=.slice e) (hY:T.inf e=some Y) (hz:Y.zero.cells.size=Y.size) (hsz:Nat.blt 0 Y.size=true) (hYL:Y.size=L.size)
 (hx:r x=some v) (hy:r y=some (.slice B m c)) (hp:H.Perm (Hr++Hs)) (ho:Grow L e fz v n Hs l) (h1:OneC L) (hs:Sl L fz B m c l2)
 (hb:(n+m)*Y.bytes<=140737488355328) (hm2:n+m<=9223372036854775807)
 (h:∀ v' Hs',Grow L e fz v' (n+m) Hs' (l++l2)->K v' fz (Hr++Hs')):
 Does P cx ⟨dst,.call {callee:=.builtin .append,args:=#[x,y],argTypes:=#[t,t]},ty,pos,af,gd⟩ r fz H K:=by
 obtain ⟨xs,h2,h3,h4,h5⟩:=ho;obtain ⟨ys,rfl,hys,hrow⟩:=hs.pairs;have hlm:ys.length=m:=by have:=hs.len;rw [List.length_map] at this;exact this
 have hzy:∀ p∈ys,p.2.length=L.size:=fun p hp=>L.len (hys p hp)
 refine Ye4 T (news:=ys.flatMap Prod.snd) hT hd hY hz hsz hx hy hp (by rw [hYL];exact h5) (by rw [Ya4 hzy,hlm,hYL]) (src_row hrow) (fun u hu=>?_) hb hm2 (fun v' Hs' hO=>h v' Hs' ⟨xs++ys,by rw [List.map_append,h2],fun p hp=>?_,by rw [List.length_append,h4,hs.len],by rw [List.flatMap_append,<- hYL];exact hO⟩)
 ·obtain ⟨p,hp,hu⟩:=List.mem_flatMap.1 hu;exact h1 _ _ _ (hys p hp) u hu
 rcases List.mem_append.1 hp with hp | hp
 ·exact h3 p hp
 exact hys p hp
end
variable {cs:List Value} {g:Nat}
theorem Grow.block {α:Type} {L:Lay α} {e:Nat} {m:Nat} {ys:List (α × List Value)} {l:List α} (hcs:cs=ys.flatMap Prod.snd) (hl:ys.map Prod.fst=l) (hys:∀ p∈ys,L.rep fz p.1 p.2) (hm:l.length=m) (hb:m<=9223372036854775807):
 Grow L e fz (Zv g m m) m [(g,.cells cs.toArray e (0,0))] l:=by
 subst hcs;have hlm:ys.length=m:=by rw [<- hl,List.length_map] at hm;exact hm
 exact ⟨ys,hl,hys,hm,OwnS.of_block (by rw [Ya4 (fun p hp=>L.len (hys p hp)),hlm]) (by simpa [maxLen] using hb)⟩
theorem Xz {α:Type} {L:Lay α} {e:Nat} {m:Nat} {ys:List (α × List Value)} {l:List α} (hg:fz g=some (.cells cs.toArray e (0,0))) (hcs:cs=ys.flatMap Prod.snd) (hl:ys.map Prod.fst=l) (hys:∀ p∈ys,L.rep fz p.1 p.2) (hm:l.length=m) (hb:m<=140737488355328):
 Sl L fz (some ⟨g,0,none⟩) m m l:=by
 have hG:=Grow.block (L:=L) (e:=e) (g:=g) hcs hl hys hm Zi;obtain ⟨A,c,he,hs⟩:=hG.sl (Le.refl _) (fun p hp=>by simp at hp;subst hp;exact hg) hb;injection he with e1 e2 e3
 subst e1 e3;exact hs
section
variable {P:Program} {cx:Cx} {r:Operand->Option Value} {fz:FZ} {H:HP} {V:Value->Prop} {dst:Option Nat} {ty:TypeId} {pos:String} {af:Array Edge} {gd:Option (Nat × Bool)}
variable {t:TypeId} {x y:Operand}
theorem Ya9 {t':TypeId} {u v:Bs} (hx:r x=some (.string u)) (hy:r y=some (.string v)) (h:u=v) (k:V (.bool true)):DoesQ P cx ⟨dst,.binOp .eql t x y t',ty,pos,af,gd⟩ r fz H V:=
 Yed hx hy (fun _=>k) (fun h0=>absurd h h0)
theorem Yba {t':TypeId} {u v:Bs} (hx:r x=some (.string u)) (hy:r y=some (.string v)) (h:¬u=v) (k:V (.bool false)):DoesQ P cx ⟨dst,.binOp .eql t x y t',ty,pos,af,gd⟩ r fz H V:=
 Yed hx hy (fun h0=>absurd h0 h) (fun _=>k)
theorem Ya8 {t':TypeId} {u v:Bs} (hx:r x=some (.string u)) (hy:r y=some (.string v)) (h:¬u=v) (k:V (.bool true)):DoesQ P cx ⟨dst,.binOp .neq t x y t',ty,pos,af,gd⟩ r fz H V:=
 Ygy hx hy (fun _=>k) (fun h0=>absurd h0 h)
theorem YgB {t':TypeId} {i:IntKind} {u v:Int} (hx:r x=some (.int i u)) (hy:r y=some (.int i v)) (h:u=v) (k:V (.bool true)):DoesQ P cx ⟨dst,.binOp .eql t x y t',ty,pos,af,gd⟩ r fz H V:=
 YmI hx hy (fun _=>k) (fun h0=>absurd h h0)
theorem YgC {t':TypeId} {i:IntKind} {u v:Int} (hx:r x=some (.int i u)) (hy:r y=some (.int i v)) (h:¬u=v) (k:V (.bool false)):DoesQ P cx ⟨dst,.binOp .eql t x y t',ty,pos,af,gd⟩ r fz H V:=
 YmI hx hy (fun h0=>absurd h0 h) (fun _=>k)
theorem XE {p:Addr} (hx:r x=some (.pointer (some p))) (h:V (.pointer (some p))):DoesQ P cx ⟨dst,.nilCheck x,ty,pos,af,gd⟩ r fz H V:=
 YJ (fun ρ w hr=>by simp [execOp,hr _ _ hx]) h
end
theorem X3 {α:Type} {l l':List α} (is:List Nat) (h:is.isPerm (List.range l.length)=true) (e:is.filterMap (fun i=>l[i]?)=l'):l'.Perm l:=by
 have h1:=(List.isPerm_iff.1 h).filterMap (fun i=>l[i]?);rw [e] at h1;have h2:(List.range l.length).filterMap (fun i=>l[i]?)=l:=by
  clear h1 h e
  induction l with
  | nil=>rfl
  | cons a r ih=>
   rw [List.length_cons,List.range_succ_eq_map,List.filterMap_cons];simp only [List.getElem?_cons_zero,List.filterMap_map]
   congr 1
 rw [h2] at h1;exact h1
section
variable {P:Program} {cx:Cx} {n:Nat} {σ:Env} {fz:FZ} {H:HP} {Q:QQ}
def midQ (I:Env->FZ->HP->Prop) (Q:QQ):QQ
 | .normal,σ,fz,H=>(∃ σ' H1 H',Sub σ' σ/\H1.Perm H/\H'.Sublist H1/\I σ' fz H')\/(∃ σ' H' H2,Sub σ' σ/\(H'++H2).Perm H/\∀ fz',Le fz fz'->(∀ p∈H2,fz' p.1=some p.2)->I σ' fz' H')
 | e,σ,fz,H=>Q e σ fz H
theorem Wp.mid {c y:Code} (I:Env->FZ->HP->Prop) (hx:Wp P cx n c σ fz H (midQ I Q)) (hy:∀ σ fz H,I σ fz H->Wp P cx n y σ fz H Q):Wp P cx n c σ fz H (andThen P cx n y Q):=
 hx.mono fun e σ fz H h=>by
  cases e with
  | normal=>
   rcases h with ⟨σ',H1,H',h1,h2,h3,h4⟩ | ⟨σ',H',H2,h1,h2,h3⟩
   ·exact YdD (Wp.perm h2 (Wp.weaken h1 h3 (hy _ _ _ h4)))
   exact YdD (Wp.freezeAll h2.symm (fun fz' h5 h6=>Wp.weaken h1 (List.Sublist.refl _) (hy _ _ _ (h3 fz' h5 h6))))
  | _=>unfold andThen;exact h
theorem midN {I:Env->FZ->HP->Prop} {σ':Env} {H':HP} (hI:I σ' fz H') (hs:Sub σ' σ) (hh:H'.Sublist H):midQ I Q .normal σ fz H:=.inl ⟨σ',H,H',hs,Zr _,hh,hI⟩
theorem midNz {I:Env->FZ->HP->Prop} {σ':Env} {H':HP} (_:σ'=σ') (_:H'=H') (hI:I σ' fz H') (hs:Sub σ' σ) (hh:H'.Sublist H):midQ I Q .normal σ fz H:=midN hI hs hh
theorem midP {I:Env->FZ->HP->Prop} {σ':Env} {H1 H':HP} (hp:H1.Perm H) (hI:I σ' fz H') (hs:Sub σ' σ) (hh:H'.Sublist H1):midQ I Q .normal σ fz H:=.inl ⟨σ',H1,H',hs,hp,hh,hI⟩
theorem midF {I:Env->FZ->HP->Prop} {σ':Env} {H' H2:HP} (hp:(H'++H2).Perm H) (hI:∀ fz',Le fz fz'->(∀ p∈H2,fz' p.1=some p.2)->I σ' fz' H') (hs:Sub σ' σ):midQ I Q .normal σ fz H:=.inr ⟨σ',H',H2,hs,hp,hI⟩
theorem midR {I:Env->FZ->HP->Prop} (h:Q .ret σ fz H):midQ I Q .ret σ fz H:=h
end
section
variable {P:Program} {cx:Cx} {n:Nat} {σ:Env} {fz:FZ} {H H' H2:HP} {fn:Func} {R:Value->FZ->HP->Prop}
variable {X:Ty} {i:Nat} {t:TypeId}
theorem Yam (T:Tab P) {p:Nat} {t':TypeId} {f:Nat × Nat} (hres:fn.results=#[.cell p t]) (hT:T.inf t=some X) (hd:W2 X.desc=true) (hv:lk σ p=some (Zp g))
 (hi:H[i]?=some (g,.cells cs.toArray t' f)) (hsz:X.size=cs.length) (hH:H'.Sublist H) (h:R (.agg cs.toArray) fz H'):retQ P cx n fn R .ret σ fz H:=WT T hres hT hd hv hi hsz (Ygx hH h)
theorem YdG (T:Tab P) {p:Nat} {t':TypeId} {f:Nat × Nat} (hres:fn.results=#[.cell p t]) (hT:T.inf t=some X) (hd:W2 X.desc=true) (hv:lk σ p=some (Zp g))
 (hi:H[i]?=some (g,.cells cs.toArray t' f)) (hsz:X.size=cs.length) (hp:(H'++H2).Perm H) (h:∀ fz',Le fz fz'->(∀ p∈H2,fz' p.1=some p.2)->R (.agg cs.toArray) fz' H'):retQ P cx n fn R .ret σ fz H:=WT T hres hT hd hv hi hsz (rOwn hp h)
theorem YaK (hres:fn.results=#[]) (hH:H'.Sublist H) (h:R (.tuple #[]) fz H'):retQ P cx n fn R .normal σ fz H:=by
 unfold retQ;exact ⟨.tuple #[],fun a w hs hw=>by simp [results,hres],Ygx hH h⟩
end
section
variable {P:Program} {cx:Cx} {r:Operand->Option Value} {fz:FZ} {H:HP} {dst:Option Nat} {ty:TypeId} {pos:String} {af:Array Edge} {gd:Option (Nat × Bool)} {V:Value->Prop}
variable {X:Ty} {t:TypeId} {x y:Operand}
theorem Yiw (T:Tab P) {t':TypeId} {e:TypeId} {p:Option Addr} (hT:T.inf t=some X) (hd:X.desc=.pointer e) (hx:r x=some (.pointer p)) (hy:r y=some (.pointer none)) (h:V (.bool p.isNone)):
 DoesQ P cx ⟨dst,.binOp .eql t x y t',ty,pos,af,gd⟩ r fz H V:=
 YJ (fun ρ w hr=>by
  have hu:P.underlying t=some (.pointer (P.pointee t)):=by rw [Program.pointee,und_plain T hT hd rfl]
  simp only [execOp,hr _ _ hx,hr _ _ hy,Sem.run_bind,eqGuard_at_pointer,Sem.run_pure,Result.andThen_ok,run_eql_pointer_nil w t p hu]) h
end
end Go.Lx
namespace Go.Proofs.YtfjopfinkdhmaaaGreatDoor
open Go.Lx Go.RowKit
attribute [local instance 10] Classical.propDecidable
open Go.Proofs.Tryz (prog)
def tyM (l:List Param):List (Bs × Value):=l.map fun p=>(p.name,.string p.typ)
def tyF:List Param->Bs->Option Bs
 | [],_=>none
 | p::r,t=>if t=p.name then some p.typ else tyF r t
theorem YhG (t:Bs):∀ (l:List Param) (i:Nat),(fndS (tyM l) t i).map (·.2)=(tyF l t).map Value.string
 | [],_=>rfl
 | p::r,i=>by
  rw [show tyM (p::r)=(p.name,.string p.typ)::tyM r from rfl,fndS,tyF];split
  ·rfl
  exact YhG t r (i+1)
variable {i:Nat}
theorem fndS_val {m:List (Bs × Value)} {t:Bs} {z:Value}:(fndS m t i).elim z (·.2)=((fndS m t i).map (·.2)).getD z:=by cases fndS m t i<;>rfl
theorem fndS_ok {m:List (Bs × Value)} {t:Bs}:(fndS m t i).isSome=((fndS m t i).map (·.2)).isSome:=by cases fndS m t i<;>rfl
theorem Yg0 {l:List Param} {t:Bs}:(fndS (tyM l) t 0).elim Ze (·.2)=.string ((tyF l t).getD ⟨#[]⟩):=by
 rw [fndS_val,YhG];cases tyF l t<;>rfl
theorem Yl7 {l:List Param} {t:Bs}:(fndS (tyM l) t 0).isSome=(tyF l t).isSome:=by
 rw [fndS_ok,YhG];cases tyF l t<;>rfl
def ForR (fz:FZ) (v:Value) (l:List Param):Prop:=∃ gf gm,v=Zp gf/\fz gf=some (.cells #[.map (some gm)] 195 (0,0))/\fz gm=some (mapS (tyM l))
variable {fz fz':FZ} {v:Value}
theorem ForR.mono {l:List Param} (h:ForR fz v l) (hle:Le fz fz'):ForR fz' v l:=by
 obtain ⟨gf,gm,h1,h2,h3⟩:=h;exact ⟨gf,gm,h1,hle _ _ h2,hle _ _ h3⟩
def HasT (l:List Param) (t:Bs):Prop:=t=Wt\/(tyF l t).isSome=true
theorem has_q {l:List Param} {t:Bs} (h:ForR fz v l):QFn prog 121 [v,.string t] fz (.bool (decide (HasT l t))):=by
 obtain ⟨gf,gm,rfl,h1,h2⟩:=h;refine GFn.quiet ?_;refine zF Tryz.func121 Tryz.ntmps121 (fun w0=>?_);refine vG ?_;refine WC T Zz Zz Zz Zz Zz Zz Zz h2 Yg0 Yl7 ?_;refine zV ?_;cases hs:(tyF l t).isSome with
 | true=>
  exact vR (h:=by exact Yw (.inr hs))
 | false=>
  refine vC (fun c1=>?_) (fun c1=>?_)
  ·exact vR (h:=by exact Yw (.inl c1))
  exact vR (h:=by exact Yn (fun h0=>h0.elim c1 (fun h0=>by rw [hs] at h0;cases h0)))
def upT (l:List Param) (t:Bs):Bs:=(tyF l t).getD ⟨#[]⟩
def cycM (l:List Param) (t:Bs):Nat->Bs->Bool
 | 0,_=>false
 | n+1,a=>if upT l a=t then true else if upT l a=Wt then false else cycM l t n (upT l a)
theorem cycle_q {l:List Param} {t:Bs} (h:ForR fz v l) (hn:l.length<=1000000000):QFn prog 122 [v,.string t] fz (.bool (cycM l t l.length t)):=by
 obtain ⟨gf,gm,rfl,h1,h2⟩:=h;have hlen:(tyM l).length=l.length:=by unfold tyM;simp
 refine GFn.quiet ?_;refine zF Tryz.func122 Tryz.ntmps122 (fun w0=>?_);refine vG ?_;refine Yhg T Zz Zz Zz h2 ?_;rw [hlen];refine zV ?_;refine Ym (fun q σ fz' H'=>∃ (k:Nat) (a:Bs),k<=l.length/\q=l.length - k/\σ=[(12,Zk k),(11,Zk l.length),(5,.string a),(0,Zp gf),(1,.string t)]/\fz=fz'/\H'=[]/\cycM l t (l.length - k) a=cycM l t l.length t) ⟨0,t,Z0 _,rfl,rfl,rfl,rfl,rfl⟩ Zw Zb ?_;rintro q σ fz' H' ⟨k,a,hk,rfl,rfl,rfl,rfl,hh⟩;refine vC (fun c1=>?_) (fun c1=>?_)
 ·have e1:l.length - k=(l.length - (k+1))+1:=by omega
  rw [e1,cycM] at hh;refine vG ?_;refine YaZ T Zz Zz Zz Zz Zz Zz Zz h2 Yg0 ?_;rw [show (tyF l a).getD ⟨#[]⟩=upT l a from rfl];refine vC (fun c2=>?_) (fun c2=>?_)
  ·rw [if_pos c2] at hh;exact vR (h:=by rw [<- hh])
  rw [if_neg c2] at hh;refine vC (fun c3=>?_) (fun c3=>?_)
  ·rw [if_pos (show upT l a=Wt from c3)] at hh;exact vR (h:=by rw [<- hh])
  rw [if_neg (show ¬upT l a=Wt from c3)] at hh;exact vP (h:=by exact ⟨k+1,upT l a,by omega,rfl,rfl,rfl,rfl,hh⟩)
 have e1:l.length - k=0:=by omega
 rw [e1] at hh;exact vR (h:=by rw [<- hh];rfl)
def upN (l:List Param):Nat->Bs->Prop
 | 0,t=>t=Wt
 | n+1,t=>t≠Wt/\upN l n (upT l t)
def chN (l:List Param):Nat->Bs->List Bs
 | 0,t=>[t]
 | n+1,t=>t::chN l n (upT l t)
theorem Yl4 {l:List Param}:∀ {n m:Nat} {t:Bs},upN l n t->upN l m t->n=m
 | 0,0,_,_,_=>rfl
 | 0,m+1,t,h1,h2=>absurd h1 h2.1
 | n+1,0,t,h1,h2=>absurd h2 h1.1
 | n+1,m+1,t,h1,h2=>by rw [Yl4 h1.2 h2.2]
theorem Yl3 {l:List Param} (hs:∀ p∈l,Short p.typ) {t:Bs}:Short (upT l t):=by
 unfold upT
 induction l with
 | nil=>show Short ⟨#[]⟩;unfold Short;decide
 | cons p r ih=>
  rw [tyF];split
  ·exact hs p (by simp)
  exact ih (fun q hq=>hs q (by simp [hq]))
theorem Yg5:OneC strL:=by
 intro fz d cs h u hu;obtain ⟨rfl,_⟩:=h;simp at hu;subst hu;rfl
set_option maxHeartbeats 1000000 in
theorem above_q {l:List Param} {t:Bs} {m:Nat} (h:ForR fz v l) (hs:∀ p∈l,Short p.typ) (ht:Short t) (hm:m<=1000000000) (hu:upN l m t):
 GFn prog 230 [v,.string t] fz [] (fun v fz' H'=>H'=[]/\∃ A c,v=.slice A (m+1) c/\Sl strL fz' A (m+1) c (chN l m t)):=by
 obtain ⟨gf,gm,rfl,h1,h2⟩:=h;refine zF Tryz.func230 Tryz.ntmps230 (fun w0=>?_);refine zV ?_;refine Ya Zz (Yb T (cs:=[.string t]) Zz Zz Zz Zz Zz Zz Zz Zz (fun gb=>?_));refine zV ?_;refine Ym (fun q σ fz' H'=>∃ (k n:Nat) (a:Bs) (vo:Value) (Ho:HP) (out:List Bs),k<=m/\q=m - k/\n=k+1/\σ=[(5,vo),(0,Zp gf),(1,.string a)]/\fz=fz'/\H'=Ho/\Short a/\upN l (m - k) a/\Grow strL 9 fz vo n Ho (out++ [a])/\out++chN l (m - k) a=chN l m t)
  ⟨0,1,t,_,_,[],Z0 _,rfl,rfl,rfl,rfl,rfl,ht,hu,Grow.block (ys:=[(t,[.string t])]) rfl rfl (by intro p hp;simp only [List.mem_singleton] at hp;subst hp;exact ⟨rfl,ht⟩) rfl Zh,rfl⟩ Zw Zb ?_
 rintro q σ fz' H' ⟨k,n,a,vo,Ho,out,hk,rfl,rfl,rfl,rfl,rfl,ha,hua,hG,hh⟩;obtain ⟨Ao,co,rfl,_,_⟩:=hG.form;refine vC (fun c1=>?_) (fun c1=>?_)
 ·have e1:m - k=(m - (k+1))+1:=by
   have:m - k≠0:=fun h0=>by rw [h0] at hua;exact c1 hua
   omega
  rw [e1] at hua hh;refine vG ?_;refine YaZ T Zz Zz Zz Zz Zz Zz Zz h2 Yg0 ?_;rw [show (tyF l a).getD ⟨#[]⟩=upT l a from rfl];have hsu:=Yl3 hs (t:=a);refine zV ?_;refine Ya Zz (Yb T (cs:=[.string (upT l a)]) Zz Zz Zz Zz Zz Zz Zz Zz (fun gc=>?_));refine Ya Zz (YP T (Hr:=[_]) (d:=upT l a) Zz Zz Zz Zz Zz Zz Zz Zz (Zr _) hG Yg5 (.head _) ⟨rfl,hsu⟩ (by show _*16<=_;omega) Zi (fun v' Hs' hO'=>?_));obtain ⟨Av',cv',rfl,_,_⟩:=hO'.form;exact vP (h:=by exact ⟨k+1,_,upT l a,_,Hs',out++ [a],by omega,rfl,rfl,rfl,rfl,rfl,hsu,hua.2,hO',by rw [<- hh,chN];simp⟩)
 have e1:m - k=0:=by
  cases hd:m - k with
  | zero=>rfl
  | succ j=>rw [hd] at hua;exact absurd c1 hua.1
 rw [e1] at hh;have hkm:k=m:=by omega
 subst hkm;refine zV ?_;refine ret1F rfl rfl (fun fz3 hle3 hf3=>?_);obtain ⟨A',c',he,hsl⟩:=hG.sl hle3 hf3 Zi;injection he with x1 x2 x3
 subst x1 x3;exact ⟨rfl,_,_,rfl,by rw [<- hh];exact hsl⟩
def WFT (l:List Param):Prop:=(∀ p∈l,Short p.typ)/\∀ t,HasT l t->∃ m,m<=1000/\upN l m t
def IsT (l:List Param) (a b:Bs):Prop:=HasT l a/\HasT l b/\∃ m,upN l m a/\b∈chN l m a
theorem Ynm {l:List Param} {a b:Bs} {m:Nat} (h:upN l m a):(∃ m,upN l m a/\b∈chN l m a)↔b∈chN l m a:=
 ⟨fun ⟨k,h1,h2⟩=>by rw [Yl4 h h1];exact h2,fun h2=>⟨m,h,h2⟩⟩
theorem is_q {l:List Param} {a b:Bs} (h:ForR fz v l) (hw:WFT l) (ha:Short a):QFn prog 201 [v,.string a,.string b] fz (.bool (decide (IsT l a b))):=by
 have h0:=h;obtain ⟨gf,gm,rfl,h1,h2⟩:=h;refine GFn.quiet ?_;refine zF Tryz.func201 Tryz.ntmps201 (fun w0=>?_);refine vb (has_q h0) (fun f1=>?_) (fun f1=>?_)
 ·have hA:=Zt f1;refine vb (has_q h0) (fun f2=>?_) (fun f2=>?_)
  ·have hB:=Zt f2;obtain ⟨m,hm,hu⟩:=hw.2 a hA;refine zV ?_;refine Seq.guard_yesK Zz Zz Zz (Yx [] _ Zz Zz Zz (above_q h0 hw.1 ha Zi hu) (fun v6 fz6 H6 hle6 hR6=>?_));obtain ⟨rfl,B6,cc6,rfl,hs6⟩:=hR6;refine vb (Yds (x:=b) hs6) (fun f3=>?_) (fun f3=>?_)
   ·exact vR (h:=by exact (Yw ⟨hA,hB,(Ynm hu).2 (Zt f3)⟩))
   exact vR (h:=by exact Yn (fun h=>Zf f3 ((Ynm hu).1 h.2.2)))
  exact vR (h:=by exact Yn (fun h=>Zf f2 h.2.1))
 exact vR (h:=by exact Yn (fun h=>Zf f1 h.1))
def ofT (l:List Param) (t:Bs) (os:List Param):List Bs:=(os.filter fun o=>decide (IsT l o.typ t)).map (·.name)
variable {A:Option Addr} {c n:Nat}
set_option maxHeartbeats 1000000 in
theorem of_q {l os:List Param} {t:Bs} (h:ForR fz v l) (hw:WFT l) (ho:Sl paramL fz A n c os) (hn:n<=1000000000):
 GFn prog 171 [v,.slice A n c,.string t] fz [] (fun v fz' H'=>H'=[]/\∃ B m cc,v=.slice B m cc/\Sl strL fz' B m cc (ofT l t os)):=by
 have h0:=h;obtain ⟨gf,gm,rfl,h1,h2⟩:=h;have lo:=ho.len;have so:=ho.short;refine zF Tryz.func171 Tryz.ntmps171 (fun w0=>?_);refine zV ?_;refine Ym (fun q σ fz' H'=>∃ (k m:Nat) (vo:Value) (Ho:HP),k<=n/\q=n - k/\m<=k/\σ=[(12,Zk k),(11,Zk n),(10,.slice A n c),(7,vo),(0,Zp gf),(2,.string t)]/\Le fz fz'/\H'=Ho/\Grow strL 9 fz' vo m Ho (ofT l t (os.take k)))
  ⟨0,0,_,[],Z0 _,rfl,Zs _,rfl,Le.refl _,rfl,Grow.nil _ _ _⟩ Zw Zb ?_
 rintro q σ fz' H' ⟨k,m,vo,Ho,hk,rfl,hmk,rfl,hlk,rfl,hG⟩;obtain ⟨Ao,co,rfl,_,_⟩:=hG.form;have ok:=ho.mono hlk;refine vC (fun c1=>?_) (fun c1=>?_)
 ·obtain ⟨x,hx⟩:=Yl (l:=os) (k:=k) Zi;refine vI ok hx (fun p hp=>?_);refine zL hp ?_;intro cs hcs;obtain ⟨rfl,hR⟩:=YR hcs;refine zV ?_;intros;refine zb (is_q (h0.mono hlk) hw hR.typ) (fun f1=>?_) (fun f1=>?_)
  ·have e1:ofT l t (os.take (k+1))=ofT l t (os.take k)++ [x.name]:=by
    rw [List.take_add_one,hx];simp [ofT,Zt f1]
   refine zV ?_;refine Ya Zz (Yb T (cs:=[.string x.name]) Zz Zz Zz Zz Zz Zz Zz Zz (fun gc=>?_));refine Ya Zz (YP T (Hr:=[_,_]) (d:=x.name) Zz Zz Zz Zz Zz Zz Zz Zz (Zr _) hG Yg5 (.head _) ⟨rfl,hR.name⟩ (by show _*16<=_;omega) Zi (fun v' Hs' hO'=>?_));obtain ⟨Av',cv',rfl,_,_⟩:=hO'.form;exact vP (h:=by exact ⟨k+1,m+1,_,Hs',by omega,rfl,by omega,rfl,hlk,rfl,hO'.of e1.symm rfl⟩)
  have e1:ofT l t (os.take (k+1))=ofT l t (os.take k):=by
   rw [List.take_add_one,hx];simp [ofT,Zf f1]
  exact vP (h:=by exact ⟨k+1,m,_,_,by omega,rfl,by omega,rfl,hlk,rfl,hG.of e1.symm rfl⟩)
 have hk1:n=k:=by omega
 subst hk1;rw [show os.take n=os from Zl Zi] at hG;refine zV ?_;refine ret1F rfl rfl (fun fz3 hle3 hf3=>?_);obtain ⟨A',c',he,hsl⟩:=hG.sl hle3 hf3 Zi;injection he with x1 x2 x3
 subst x1 x3;exact ⟨rfl,_,_,_,rfl,hsl⟩
end Go.Proofs.YtfjopfinkdhmaaaGreatDoor
