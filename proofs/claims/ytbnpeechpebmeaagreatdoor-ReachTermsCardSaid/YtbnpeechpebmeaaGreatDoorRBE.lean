/- The texts GRet, PBase, Tab, PWalkA, PWalkB, PGrow, laid together. Conditions: none. -/
import Derived.Test.YtbnpeechpebmeaaGreatDoorRBD
import Derived.Test.YtbnpeechpebmeaaGreatDoorProg
set_option linter.all false
namespace Go.Lx
open Go.RowKit
section
variable {P:Program} {cx:Cx} {n:Nat} {σ:Env} {fz:FZ} {H H':HP} {fn:Func} {R:Value→FZ→HP→Prop}
def resI (T:Tab P) (σ:Env) (H:HP):List ResultVar→List Value→Prop
 | [],[]=>True
 | .tmp t::r,v::vs=>lk σ t=some v∧resI T σ H r vs
 | .cell p t::r,v::vs=>(∃ (X:Ty) (g i:Nat) (cs:List Value) (t':TypeId) (f:Nat × Nat),T.inf t=some X∧XL X.desc=true∧lk σ p=some (.pointer (some ⟨g,0,none⟩))∧H[i]?=some (g,Obj.cells (List.toArray cs) t' f)∧X.size=cs.length∧v=.agg cs.toArray)∧resI T σ H r vs
 | _,_=>False
theorem Yf5 (T:Tab P) {a:Act} {w:World} (hs:Sat n σ a) (hw:Inv cx fz H w) {f:ResultVar→Sem Value} (hf1:∀ t,f (.tmp t)=pure (a.tmps.getD t undef)) (hf2:∀ x t,f (.cell x t)=(asAddr (a.tmps.getD x undef)>>=fun b=>loadVar t b)):∀ (l:List ResultVar) (vs:List Value),resI T σ H l vs→(l.mapM f).run P w=.ok vs w
 | [],[],_=>by simp [List.mapM_nil]
 | [],_::_,h=>h.elim
 | .tmp t::r,[],h=>h.elim
 | .cell p t::r,[],h=>h.elim
 | .tmp t::r,v::vs,⟨h1,h2⟩=>by
  have:=Yf5 T hs hw hf1 hf2 r vs h2
  simp only [List.mapM_cons,hf1,Sem.run_bind,Sem.run_pure,Result.andThen_ok,this]
  simp [hs.slot t v h1]
 | .cell p t::r,v::vs,⟨⟨X,g,i,cs,t',ff,hT,hd,hv,hi,hsz,he⟩,h2⟩=>by
  have:=Yf5 T hs hw hf1 hf2 r vs h2
  have hc:∀ j v,cs[j]?=some v→w.cell? ((⟨g,0,none⟩:Addr).add j)=some v:=fun j v hv=>by
   have hadd:(⟨g,0,none⟩:Addr).add j=⟨g,j,none⟩:=by unfold Addr.add;split<;>simp_all
   rw [hadd,hw.cellOwn hi];simpa using hv
  have ha:asAddr (a.tmps.getD p undef)=(pure ⟨g,0,none⟩:Sem Addr):=by simp [asAddr,hs.slot p _ hv]
  simp only [List.mapM_cons,hf2,Sem.run_bind,ha,Sem.run_pure,Result.andThen_ok,YaE T hT hd hsz hc,this,he]
theorem retN' (T:Tab P) {vs:List Value} (hl:Nat.ble 2 vs.length=true) (hr:resI T σ H fn.results.toList vs) (h:∀ w,Inv cx fz H w→∃ fz' H',Inv cx fz' H' w∧R (.tuple vs.toArray) fz' H'):retQ P cx n fn R .ret σ fz H:=
 ret_of (fun a w hs hw=>by
  have h2:∀ (f:ResultVar→Sem Value) (w':World),(fn.results.mapM f).run P w'=((fn.results.toList.mapM f).run P w').andThen fun l w''=>.ok l.toArray w'':=fun f w'=>by
   rw [Array.mapM_eq_mapM_toList,map_eq_pure_bind,Sem.run_bind]
   simp only [Sem.run_pure]
  have hne:¬vs.toArray.size=1:=by
   have:=Nat.le_of_ble_eq_true hl
   simp;omega
  unfold results
  rw [Sem.run_bind,h2,Yf5 T hs hw (fun _=>rfl) (fun _ _=>rfl) _ _ hr]
  simp only [Result.andThen_ok,Sem.run_pure]
  rw [dif_neg hne]) h
theorem Yem (T:Tab P) {vs:List Value} (hl:Nat.ble 2 vs.length=true) (hr:resI T σ H fn.results.toList vs) (h:∀ fz',Le fz fz'→(∀ p∈H,fz' p.1=some p.2)→R (.tuple vs.toArray) fz' []):retQ P cx n fn R .ret σ fz H:=retN' T hl hr (Yen h)
theorem retN (T:Tab P) {vs:List Value} (hl:Nat.ble 2 vs.length=true) (hr:resI T σ H fn.results.toList vs) (hH:H'.Sublist H) (h:R (.tuple vs.toArray) fz H'):retQ P cx n fn R .ret σ fz H:=retN' T hl hr (Yg9 hH h)
variable {fz':FZ}
theorem Keep.of {fz:FZ} {Hq H':HP} (h1:Le fz fz') (h2:Hq.Sublist H'):Keep fz Hq fz' H':=⟨h1,fun _ hp=>h2.subset hp⟩
variable {Q:QQ} {Hq:HP} {σ' τ ve cv:Env} {l:List Oper} {ch all:List (Nat × Oper)} {i d:Nat} {op:Op} {ty:TypeId} {pos:String} {af:Array Edge} {dn:Bool} {fz0:FZ}
theorem Ch.qk (hk:Keep fz0 Hq fz H) (h:DoesQ P cx ⟨some d,op,ty,pos,af,none⟩ (rdc l ⟨some d,op,ty,pos,af,none⟩ σ' ve cv) fz H fun v=>Ch P cx l σ' ve fz0 Hq Q all ch (dn || allq l all ⟨some d,op,ty,pos,af,none⟩) ((i,v)::cv) ((d,v)::τ) fz H):
 Ch P cx l σ' ve fz0 Hq Q all ((i,⟨some d,op,ty,pos,af,none⟩)::ch) dn cv τ fz H:=Ch.q (h.mono fun _ hv=>⟨hk,hv⟩)
theorem Ch.qkG {g:Nat × Bool} (hw:W2 ⟨some d,op,ty,pos,af,some g⟩ ve=some true) (hk:Keep fz0 Hq fz H) (h:DoesQ P cx ⟨some d,op,ty,pos,af,some g⟩ (rdc l ⟨some d,op,ty,pos,af,some g⟩ σ' ve cv) fz H fun v=>Ch P cx l σ' ve fz0 Hq Q all ch (dn || allq l all ⟨some d,op,ty,pos,af,some g⟩) ((i,v)::cv) ((d,v)::τ) fz H):
 Ch P cx l σ' ve fz0 Hq Q all ((i,⟨some d,op,ty,pos,af,some g⟩)::ch) dn cv τ fz H:=Ch.qG hw (h.mono fun _ hv=>⟨hk,hv⟩)
theorem Ch.soft0 (h:Does P cx ⟨none,op,ty,pos,af,none⟩ (rdc l ⟨none,op,ty,pos,af,none⟩ σ' ve cv) fz H fun v fz' H'=>Keep fz0 Hq fz' H'∧Ch P cx l σ' ve fz0 Hq Q all ch (dn || allq l all ⟨none,op,ty,pos,af,none⟩) ((i,v)::cv) τ fz' H'):
 Ch P cx l σ' ve fz0 Hq Q all ((i,⟨none,op,ty,pos,af,none⟩)::ch) dn cv τ fz H:=by
 unfold Ch
 refine .inl ⟨rfl,?_⟩
 exact Does.of fun ρ w hr hi=>(h.run ρ w hr hi).mono fun v w' ⟨fz',H',h1,h2,h3⟩=>⟨fz',H',h1,.inr h2,h3⟩
variable {X Y:Ty} {c g:Nat} {t:TypeId} {x:Operand}
theorem Xu (T:Tab P) {e:TypeId} {i:Operand} {n:Nat} {k:IntKind} {j:Int} {V:Value→Prop} {r:Operand→Option Value} {dst:Option Nat} {gd:Option (Nat × Bool)} (hT:T.inf t=some X) (hd:X.desc=.slice e) (hY:T.inf e=some Y)
 (hx:r x=some (.slice (some ⟨g,0,none⟩) n c)) (hi:r i=some (.int k j)) (hs:Y.size=1) (h0:0≤j) (hn:j<n) (h:V (.pointer (some ⟨g,j.toNat,none⟩))):DoesQ P cx ⟨dst,.indexAddr t x i,ty,pos,af,gd⟩ r fz H V:=by
 refine Yco T hT hd hY hx hi h0 hn ?_
 have hadd:(⟨g,0,none⟩:Addr).add (j.toNat*Y.size)=⟨g,j.toNat,none⟩:=by rw [hs];unfold Addr.add;split<;>simp_all
 rw [hadd]
 exact h
variable {y:Operand}
theorem Yim (T:Tab P) {t':TypeId} {a b:Bool} {V:Value→Prop} {r:Operand→Option Value} {dst:Option Nat} {gd:Option (Nat × Bool)} (hT:T.inf t=some X) (hd:X.desc=.bool) (hx:r x=some (.bool a)) (hy:r y=some (.bool b)) (ht:a≠b→V (.bool true)) (hf:a=b→V (.bool false)):
 DoesQ P cx ⟨dst,.binOp .neq t x y t',ty,pos,af,gd⟩ r fz H V:=by
 refine Yj8 T hT hd hx hy ?_
 by_cases h:a=b
 ·subst h;simpa using hf rfl
 ·have:=ht h
  cases a<;>cases b<;>simp_all
end
section
variable {P:Program} {cx:Cx} {r:Operand→Option Value} {fz:FZ} {H:HP} {V:Value→Prop} {dst:Option Nat} {ty:TypeId} {pos:String} {af:Array Edge} {gd:Option (Nat × Bool)}
variable {X:Ty} {t:TypeId} {x:Operand}
theorem Ydb (T:Tab P) {lo:Operand} {s:Bs} {k:IntKind} {j:Int} (hT:T.inf t=some X) (hd:X.desc=.string) (hx:r x=some (.string s)) (hl:r lo=some (.int k j))
 (h0:0≤j) (h1:j≤s.size) (h:V (.string (s.extract j.toNat s.size))):DoesQ P cx ⟨dst,.slice t x (some lo) none none,ty,pos,af,gd⟩ r fz H V:=
 YN (fun ρ w hr=>by
  have hu:=run_underlying (und_plain T hT hd rfl) w
  simp [execOp,hr _ _ hx,hr _ _ hl,Instr.sliceAt,Instr.slice,Instr.sliceBounds,Instr.sliceBound,asIntOf,hu,h0,h1]) h
theorem q_str_to (T:Tab P) {hi:Operand} {s:Bs} {k:IntKind} {j:Int} (hT:T.inf t=some X) (hd:X.desc=.string) (hx:r x=some (.string s)) (hl:r hi=some (.int k j))
 (h0:0≤j) (h1:j≤s.size) (h:V (.string (s.extract 0 j.toNat))):DoesQ P cx ⟨dst,.slice t x none (some hi) none,ty,pos,af,gd⟩ r fz H V:=
 YN (fun ρ w hr=>by
  have hu:=run_underlying (und_plain T hT hd rfl) w
  simp [execOp,hr _ _ hx,hr _ _ hl,Instr.sliceAt,Instr.slice,Instr.sliceBounds,Instr.sliceBound,asIntOf,hu,h0,h1]) h
end
open Classical in
noncomputable def WZ {α:Type} (p:α→Prop):List α→Int→Int
 | [],_=> -1
 | x::r,k=>if p x then k else WZ p r (k+1)
theorem Xj {α:Type} {p:α→Prop}:∀ {l:List α} {k:Int},0≤k→(0≤WZ p l k↔∃ x∈l,p x)
 | [],k,_=>by simp [WZ]
 | x::r,k,hk=>by
  unfold WZ
  split
  ·rename_i h;exact ⟨fun _=>⟨x,by simp,h⟩,fun _=>hk⟩
  ·rename_i h
   rw [Xj (l:=r) (k:=k+1) Zi]
   simp [h]
theorem Wo {α:Type} {p:α→Prop}:∀ {l:List α} {i:Nat} {k:Int} {x:α},(∀ j,j<i→∀ y,l[j]?=some y→¬p y)→l[i]?=some x→p x→WZ p l k=k+i
 | [],i,k,x,_,hx,_=>by simp at hx
 | y::r,0,k,x,_,hx,hp=>by
  simp at hx;subst hx
  simp [WZ,hp]
 | y::r,i+1,k,x,h,hx,hp=>by
  have h0:=h 0 Zi y rfl
  have:=Wo (p:=p) (l:=r) (i:=i) (k:=k+1) (x:=x) (fun j hj z hz=>h (j+1) Zi z (by simpa using hz)) (by simpa using hx) hp
  unfold WZ
  rw [if_neg h0,this]
  omega
theorem XS {α:Type} {p:α→Prop}:∀ {l:List α} {k:Int},(∀ x∈l,¬p x)→WZ p l k= -1
 | [],k,_=>rfl
 | y::r,k,h=>by
  unfold WZ
  rw [if_neg (h y (by simp)),XS (fun x hx=>h x (by simp [hx]))]
variable {H:HP} {fz:FZ} {j n:Nat}
theorem Seq.guard_yesK {P:Program} {cx:Cx} {σ:Env} {Q:QQ} {ops:Array Oper} {rest:List Oper} {d:Nat} {op:Op} {ty:TypeId} {pos:String} {af:Array Edge} {s:Nat} {c:Bool} (hd:Nat.blt d n=true) (hj:(ops[j]?).bind (·.dst)=some s) (hv:lk σ s=some (.bool c))
 (h:Does P cx ⟨some d,op,ty,pos,af,some (j,c)⟩ (rd σ) fz H fun v fz' H'=>Seq P cx n ops rest ((d,v)::σ) fz' H' Q):
 Seq P cx n ops (⟨some d,op,ty,pos,af,some (j,c)⟩::rest) σ fz H Q:=by
 unfold Seq
 intro a w hs hi
 unfold wpList
 rw [if_pos (by simp [Region.wanted,Yc4 hs hj hv])]
 refine .inl (Wl.wp ((h.run a.eval w hs.reads hi).mono fun v w' hh=>?_))
 obtain ⟨fz',H',h1,h2⟩:=hh
 unfold Seq at h2
 exact h2 _ _ (hs.put d (by simpa [Nat.blt_eq] using hd) v) h1
end Go.Lx
namespace Go.Proofs.YtbnpeechpebmeaaGreatDoor
open Go.Lx
open Go.Proofs.Tryz (prog)
set_option maxRecDepth 100000
def ty2_:Ty:=⟨(.int .i64),1,8,(.int .i64 0)⟩
theorem ty2_ok:TyOk prog 2 ty2_:=TyOk.mk' (by kernel_rfl) (by kernel_rfl)
def ty3_:Ty:=⟨(.int .i64),1,8,(.int .i64 0)⟩
theorem ty3_ok:TyOk prog 3 ty3_:=TyOk.mk' (by kernel_rfl) (by kernel_rfl)
def ty4_:Ty:=⟨.bool,1,1,(.bool false)⟩
theorem ty4_ok:TyOk prog 4 ty4_:=TyOk.mk' (by kernel_rfl) (by kernel_rfl)
def ty5_:Ty:=⟨(.int .u8),1,1,(.int .u8 0)⟩
theorem ty5_ok:TyOk prog 5 ty5_:=TyOk.mk' (by kernel_rfl) (by kernel_rfl)
def ty6_:Ty:=⟨(.int .u8),1,1,(.int .u8 0)⟩
theorem ty6_ok:TyOk prog 6 ty6_:=TyOk.mk' (by kernel_rfl) (by kernel_rfl)
def ty7_:Ty:=⟨(.struct #[fld 2 0,fld 3 1,fld 4 2,fld 6 3]),4,24,(.agg #[(.int .i64 0),(.int .i64 0),(.bool false),(.int .u8 0)])⟩
theorem ty7_ok:TyOk prog 7 ty7_:=TyOk.mk' (by kernel_rfl) (by kernel_rfl)
def ty8_:Ty:=⟨(.struct #[fld 2 0,fld 3 1,fld 4 2,fld 6 3]),4,24,(.agg #[(.int .i64 0),(.int .i64 0),(.bool false),(.int .u8 0)])⟩
theorem ty8_ok:TyOk prog 8 ty8_:=TyOk.mk' (by kernel_rfl) (by kernel_rfl)
def ty9_:Ty:=⟨.string,1,16,(.string ⟨#[]⟩)⟩
theorem ty9_ok:TyOk prog 9 ty9_:=TyOk.mk' (by kernel_rfl) (by kernel_rfl)
def ty12_:Ty:=⟨(.int .u64),1,8,(.int .u64 0)⟩
theorem ty12_ok:TyOk prog 12 ty12_:=TyOk.mk' (by kernel_rfl) (by kernel_rfl)
def ty13_:Ty:=⟨(.struct #[fld 9 0,fld 12 1]),2,24,(.agg #[(.string ⟨#[]⟩),(.int .u64 0)])⟩
theorem ty13_ok:TyOk prog 13 ty13_:=TyOk.mk' (by kernel_rfl) (by kernel_rfl)
def ty14_:Ty:=⟨(.struct #[fld 9 0,fld 12 1]),2,24,(.agg #[(.string ⟨#[]⟩),(.int .u64 0)])⟩
theorem ty14_ok:TyOk prog 14 ty14_:=TyOk.mk' (by kernel_rfl) (by kernel_rfl)
def ty21_:Ty:=⟨(.int .i32),1,4,(.int .i32 0)⟩
theorem ty21_ok:TyOk prog 21 ty21_:=TyOk.mk' (by kernel_rfl) (by kernel_rfl)
def ty22_:Ty:=⟨(.slice 5),1,24,(.slice none 0 0)⟩
theorem ty22_ok:TyOk prog 22 ty22_:=TyOk.mk' (by kernel_rfl) (by kernel_rfl)
def ty24_:Ty:=⟨(.slice 9),1,24,(.slice none 0 0)⟩
theorem ty24_ok:TyOk prog 24 ty24_:=TyOk.mk' (by kernel_rfl) (by kernel_rfl)
def ty25_:Ty:=⟨(.slice 136),1,24,(.slice none 0 0)⟩
theorem ty25_ok:TyOk prog 25 ty25_:=TyOk.mk' (by kernel_rfl) (by kernel_rfl)
def ty26_:Ty:=⟨(.slice 36),1,24,(.slice none 0 0)⟩
theorem ty26_ok:TyOk prog 26 ty26_:=TyOk.mk' (by kernel_rfl) (by kernel_rfl)
def ty27_:Ty:=⟨(.slice 29),1,24,(.slice none 0 0)⟩
theorem ty27_ok:TyOk prog 27 ty27_:=TyOk.mk' (by kernel_rfl) (by kernel_rfl)
def ty28_:Ty:=⟨(.struct #[fld 9 0,fld 9 1,fld 24 2,fld 25 3,fld 26 4,fld 27 5]),6,128,(.agg #[(.string ⟨#[]⟩),(.string ⟨#[]⟩),(.slice none 0 0),(.slice none 0 0),(.slice none 0 0),(.slice none 0 0)])⟩
theorem ty28_ok:TyOk prog 28 ty28_:=TyOk.mk' (by kernel_rfl) (by kernel_rfl)
def ty29_:Ty:=⟨(.struct #[fld 9 0,fld 9 1,fld 24 2,fld 25 3,fld 26 4,fld 27 5]),6,128,(.agg #[(.string ⟨#[]⟩),(.string ⟨#[]⟩),(.slice none 0 0),(.slice none 0 0),(.slice none 0 0),(.slice none 0 0)])⟩
theorem ty29_ok:TyOk prog 29 ty29_:=TyOk.mk' (by kernel_rfl) (by kernel_rfl)
def ty32_:Ty:=⟨(.struct #[fld 9 0,fld 25 1]),2,40,(.agg #[(.string ⟨#[]⟩),(.slice none 0 0)])⟩
theorem ty32_ok:TyOk prog 32 ty32_:=TyOk.mk' (by kernel_rfl) (by kernel_rfl)
def ty33_:Ty:=⟨(.struct #[fld 9 0,fld 25 1]),2,40,(.agg #[(.string ⟨#[]⟩),(.slice none 0 0)])⟩
theorem ty33_ok:TyOk prog 33 ty33_:=TyOk.mk' (by kernel_rfl) (by kernel_rfl)
def ty34_:Ty:=⟨(.slice 33),1,24,(.slice none 0 0)⟩
theorem ty34_ok:TyOk prog 34 ty34_:=TyOk.mk' (by kernel_rfl) (by kernel_rfl)
def ty35_:Ty:=⟨(.struct #[fld 9 0,fld 9 1,fld 3 2,fld 24 3,fld 26 4]),5,88,(.agg #[(.string ⟨#[]⟩),(.string ⟨#[]⟩),(.int .i64 0),(.slice none 0 0),(.slice none 0 0)])⟩
theorem ty35_ok:TyOk prog 35 ty35_:=TyOk.mk' (by kernel_rfl) (by kernel_rfl)
def ty36_:Ty:=⟨(.struct #[fld 9 0,fld 9 1,fld 3 2,fld 24 3,fld 26 4]),5,88,(.agg #[(.string ⟨#[]⟩),(.string ⟨#[]⟩),(.int .i64 0),(.slice none 0 0),(.slice none 0 0)])⟩
theorem ty36_ok:TyOk prog 36 ty36_:=TyOk.mk' (by kernel_rfl) (by kernel_rfl)
def ty37_:Ty:=⟨(.struct #[fld 3 0,fld 25 1,fld 29 2,fld 9 8,fld 24 9,fld 36 10]),15,288,(.agg #[(.int .i64 0),(.slice none 0 0),(.string ⟨#[]⟩),(.string ⟨#[]⟩),(.slice none 0 0),(.slice none 0 0),(.slice none 0 0),(.slice none 0 0),(.string ⟨#[]⟩),(.slice none 0 0),(.string ⟨#[]⟩),(.string ⟨#[]⟩),(.int .i64 0),(.slice none 0 0),(.slice none 0 0)])⟩
theorem ty37_ok:TyOk prog 37 ty37_:=TyOk.mk' (by kernel_rfl) (by kernel_rfl)
def ty38_:Ty:=⟨(.struct #[fld 3 0,fld 25 1,fld 29 2,fld 9 8,fld 24 9,fld 36 10]),15,288,(.agg #[(.int .i64 0),(.slice none 0 0),(.string ⟨#[]⟩),(.string ⟨#[]⟩),(.slice none 0 0),(.slice none 0 0),(.slice none 0 0),(.slice none 0 0),(.string ⟨#[]⟩),(.slice none 0 0),(.string ⟨#[]⟩),(.string ⟨#[]⟩),(.int .i64 0),(.slice none 0 0),(.slice none 0 0)])⟩
theorem ty38_ok:TyOk prog 38 ty38_:=TyOk.mk' (by kernel_rfl) (by kernel_rfl)
def ty39_:Ty:=⟨(.slice 38),1,24,(.slice none 0 0)⟩
theorem ty39_ok:TyOk prog 39 ty39_:=TyOk.mk' (by kernel_rfl) (by kernel_rfl)
def ty40_:Ty:=⟨(.struct #[fld 9 0,fld 25 1,fld 3 2,fld 29 3,fld 39 9]),10,200,(.agg #[(.string ⟨#[]⟩),(.slice none 0 0),(.int .i64 0),(.string ⟨#[]⟩),(.string ⟨#[]⟩),(.slice none 0 0),(.slice none 0 0),(.slice none 0 0),(.slice none 0 0),(.slice none 0 0)])⟩
theorem ty40_ok:TyOk prog 40 ty40_:=TyOk.mk' (by kernel_rfl) (by kernel_rfl)
def ty41_:Ty:=⟨(.struct #[fld 9 0,fld 25 1,fld 3 2,fld 29 3,fld 39 9]),10,200,(.agg #[(.string ⟨#[]⟩),(.slice none 0 0),(.int .i64 0),(.string ⟨#[]⟩),(.string ⟨#[]⟩),(.slice none 0 0),(.slice none 0 0),(.slice none 0 0),(.slice none 0 0),(.slice none 0 0)])⟩
theorem ty41_ok:TyOk prog 41 ty41_:=TyOk.mk' (by kernel_rfl) (by kernel_rfl)
def ty42_:Ty:=⟨(.slice 41),1,24,(.slice none 0 0)⟩
theorem ty42_ok:TyOk prog 42 ty42_:=TyOk.mk' (by kernel_rfl) (by kernel_rfl)
def ty43_:Ty:=⟨(.slice 123),1,24,(.slice none 0 0)⟩
theorem ty43_ok:TyOk prog 43 ty43_:=TyOk.mk' (by kernel_rfl) (by kernel_rfl)
def ty44_:Ty:=⟨(.slice 106),1,24,(.slice none 0 0)⟩
theorem ty44_ok:TyOk prog 44 ty44_:=TyOk.mk' (by kernel_rfl) (by kernel_rfl)
def ty45_:Ty:=⟨(.struct #[fld 9 0,fld 25 1,fld 25 2,fld 34 3,fld 43 4,fld 42 5,fld 44 6]),7,160,(.agg #[(.string ⟨#[]⟩),(.slice none 0 0),(.slice none 0 0),(.slice none 0 0),(.slice none 0 0),(.slice none 0 0),(.slice none 0 0)])⟩
theorem ty45_ok:TyOk prog 45 ty45_:=TyOk.mk' (by kernel_rfl) (by kernel_rfl)
def ty46_:Ty:=⟨(.struct #[fld 9 0,fld 25 1,fld 25 2,fld 34 3,fld 43 4,fld 42 5,fld 44 6]),7,160,(.agg #[(.string ⟨#[]⟩),(.slice none 0 0),(.slice none 0 0),(.slice none 0 0),(.slice none 0 0),(.slice none 0 0),(.slice none 0 0)])⟩
theorem ty46_ok:TyOk prog 46 ty46_:=TyOk.mk' (by kernel_rfl) (by kernel_rfl)
def ty47_:Ty:=⟨(.struct #[fld 9 0,fld 24 1]),2,40,(.agg #[(.string ⟨#[]⟩),(.slice none 0 0)])⟩
theorem ty47_ok:TyOk prog 47 ty47_:=TyOk.mk' (by kernel_rfl) (by kernel_rfl)
def ty48_:Ty:=⟨(.struct #[fld 9 0,fld 24 1]),2,40,(.agg #[(.string ⟨#[]⟩),(.slice none 0 0)])⟩
theorem ty48_ok:TyOk prog 48 ty48_:=TyOk.mk' (by kernel_rfl) (by kernel_rfl)
def ty49_:Ty:=⟨(.slice 48),1,24,(.slice none 0 0)⟩
theorem ty49_ok:TyOk prog 49 ty49_:=TyOk.mk' (by kernel_rfl) (by kernel_rfl)
def ty50_:Ty:=⟨(.slice 133),1,24,(.slice none 0 0)⟩
theorem ty50_ok:TyOk prog 50 ty50_:=TyOk.mk' (by kernel_rfl) (by kernel_rfl)
def ty51_:Ty:=⟨(.struct #[fld 9 0,fld 9 1,fld 25 2,fld 49 3,fld 50 4,fld 29 5]),11,232,(.agg #[(.string ⟨#[]⟩),(.string ⟨#[]⟩),(.slice none 0 0),(.slice none 0 0),(.slice none 0 0),(.string ⟨#[]⟩),(.string ⟨#[]⟩),(.slice none 0 0),(.slice none 0 0),(.slice none 0 0),(.slice none 0 0)])⟩
theorem ty51_ok:TyOk prog 51 ty51_:=TyOk.mk' (by kernel_rfl) (by kernel_rfl)
def ty52_:Ty:=⟨(.struct #[fld 9 0,fld 9 1,fld 25 2,fld 49 3,fld 50 4,fld 29 5]),11,232,(.agg #[(.string ⟨#[]⟩),(.string ⟨#[]⟩),(.slice none 0 0),(.slice none 0 0),(.slice none 0 0),(.string ⟨#[]⟩),(.string ⟨#[]⟩),(.slice none 0 0),(.slice none 0 0),(.slice none 0 0),(.slice none 0 0)])⟩
theorem ty52_ok:TyOk prog 52 ty52_:=TyOk.mk' (by kernel_rfl) (by kernel_rfl)
def ty53_:Ty:=⟨(.interface #[]),1,16,.nilIface⟩
theorem ty53_ok:TyOk prog 53 ty53_:=TyOk.mk' (by kernel_rfl) (by kernel_rfl)
def ty54_:Ty:=⟨(.interface #[]),1,16,.nilIface⟩
theorem ty54_ok:TyOk prog 54 ty54_:=TyOk.mk' (by kernel_rfl) (by kernel_rfl)
def ty60_:Ty:=⟨(.int .i64),1,8,(.int .i64 0)⟩
theorem ty60_ok:TyOk prog 60 ty60_:=TyOk.mk' (by kernel_rfl) (by kernel_rfl)
def ty67_:Ty:=⟨(.slice 71),1,24,(.slice none 0 0)⟩
theorem ty67_ok:TyOk prog 67 ty67_:=TyOk.mk' (by kernel_rfl) (by kernel_rfl)
def ty70_:Ty:=⟨(.struct #[fld 3 0,fld 9 1,fld 24 2]),3,48,(.agg #[(.int .i64 0),(.string ⟨#[]⟩),(.slice none 0 0)])⟩
theorem ty70_ok:TyOk prog 70 ty70_:=TyOk.mk' (by kernel_rfl) (by kernel_rfl)
def ty71_:Ty:=⟨(.struct #[fld 3 0,fld 9 1,fld 24 2]),3,48,(.agg #[(.int .i64 0),(.string ⟨#[]⟩),(.slice none 0 0)])⟩
theorem ty71_ok:TyOk prog 71 ty71_:=TyOk.mk' (by kernel_rfl) (by kernel_rfl)
def ty72_:Ty:=⟨(.slice 74),1,24,(.slice none 0 0)⟩
theorem ty72_ok:TyOk prog 72 ty72_:=TyOk.mk' (by kernel_rfl) (by kernel_rfl)
def ty73_:Ty:=⟨(.struct #[fld 3 0,fld 3 1,fld 3 2,fld 3 3,fld 9 4,fld 72 5]),6,72,(.agg #[(.int .i64 0),(.int .i64 0),(.int .i64 0),(.int .i64 0),(.string ⟨#[]⟩),(.slice none 0 0)])⟩
theorem ty73_ok:TyOk prog 73 ty73_:=TyOk.mk' (by kernel_rfl) (by kernel_rfl)
def ty74_:Ty:=⟨(.struct #[fld 3 0,fld 3 1,fld 3 2,fld 3 3,fld 9 4,fld 72 5]),6,72,(.agg #[(.int .i64 0),(.int .i64 0),(.int .i64 0),(.int .i64 0),(.string ⟨#[]⟩),(.slice none 0 0)])⟩
theorem ty74_ok:TyOk prog 74 ty74_:=TyOk.mk' (by kernel_rfl) (by kernel_rfl)
def ty80_:Ty:=⟨(.pointer 179),1,8,(.pointer none)⟩
theorem ty80_ok:TyOk prog 80 ty80_:=TyOk.mk' (by kernel_rfl) (by kernel_rfl)
def ty81_:Ty:=⟨(.map 9 25),1,8,(.map none)⟩
theorem ty81_ok:TyOk prog 81 ty81_:=TyOk.mk' (by kernel_rfl) (by kernel_rfl)
def ty82_:Ty:=⟨(.map 9 123),1,8,(.map none)⟩
theorem ty82_ok:TyOk prog 82 ty82_:=TyOk.mk' (by kernel_rfl) (by kernel_rfl)
def ty83_:Ty:=⟨(.map 9 9),1,8,(.map none)⟩
theorem ty83_ok:TyOk prog 83 ty83_:=TyOk.mk' (by kernel_rfl) (by kernel_rfl)
def ty84_:Ty:=⟨(.struct #[fld 46 0,fld 52 7,fld 80 18,fld 81 19,fld 82 20,fld 83 21,fld 25 22]),23,448,(.agg #[(.string ⟨#[]⟩),(.slice none 0 0),(.slice none 0 0),(.slice none 0 0),(.slice none 0 0),(.slice none 0 0),(.slice none 0 0),(.string ⟨#[]⟩),(.string ⟨#[]⟩),(.slice none 0 0),(.slice none 0 0),(.slice none 0 0),(.string ⟨#[]⟩),(.string ⟨#[]⟩),(.slice none 0 0),(.slice none 0 0),(.slice none 0 0),(.slice none 0 0),(.pointer none),(.map none),(.map none),(.map none),(.slice none 0 0)])⟩
theorem ty84_ok:TyOk prog 84 ty84_:=TyOk.mk' (by kernel_rfl) (by kernel_rfl)
def ty85_:Ty:=⟨(.struct #[fld 46 0,fld 52 7,fld 80 18,fld 81 19,fld 82 20,fld 83 21,fld 25 22]),23,448,(.agg #[(.string ⟨#[]⟩),(.slice none 0 0),(.slice none 0 0),(.slice none 0 0),(.slice none 0 0),(.slice none 0 0),(.slice none 0 0),(.string ⟨#[]⟩),(.string ⟨#[]⟩),(.slice none 0 0),(.slice none 0 0),(.slice none 0 0),(.string ⟨#[]⟩),(.string ⟨#[]⟩),(.slice none 0 0),(.slice none 0 0),(.slice none 0 0),(.slice none 0 0),(.pointer none),(.map none),(.map none),(.map none),(.slice none 0 0)])⟩
theorem ty85_ok:TyOk prog 85 ty85_:=TyOk.mk' (by kernel_rfl) (by kernel_rfl)
def ty88_:Ty:=⟨(.slice 3),1,24,(.slice none 0 0)⟩
theorem ty88_ok:TyOk prog 88 ty88_:=TyOk.mk' (by kernel_rfl) (by kernel_rfl)
def ty90_:Ty:=⟨(.pointer 156),1,8,(.pointer none)⟩
theorem ty90_ok:TyOk prog 90 ty90_:=TyOk.mk' (by kernel_rfl) (by kernel_rfl)
def ty96_:Ty:=⟨(.slice 111),1,24,(.slice none 0 0)⟩
theorem ty96_ok:TyOk prog 96 ty96_:=TyOk.mk' (by kernel_rfl) (by kernel_rfl)
def ty97_:Ty:=⟨(.map 9 48),1,8,(.map none)⟩
theorem ty97_ok:TyOk prog 97 ty97_:=TyOk.mk' (by kernel_rfl) (by kernel_rfl)
def ty98_:Ty:=⟨(.map 9 48),1,8,(.map none)⟩
theorem ty98_ok:TyOk prog 98 ty98_:=TyOk.mk' (by kernel_rfl) (by kernel_rfl)
def ty99_:Ty:=⟨(.slice 112),1,24,(.slice none 0 0)⟩
theorem ty99_ok:TyOk prog 99 ty99_:=TyOk.mk' (by kernel_rfl) (by kernel_rfl)
def ty100_:Ty:=⟨(.struct #[fld 90 0,fld 96 1,fld 98 2,fld 99 3,fld 99 4]),5,88,(.agg #[(.pointer none),(.slice none 0 0),(.map none),(.slice none 0 0),(.slice none 0 0)])⟩
theorem ty100_ok:TyOk prog 100 ty100_:=TyOk.mk' (by kernel_rfl) (by kernel_rfl)
def ty101_:Ty:=⟨(.struct #[fld 90 0,fld 96 1,fld 98 2,fld 99 3,fld 99 4]),5,88,(.agg #[(.pointer none),(.slice none 0 0),(.map none),(.slice none 0 0),(.slice none 0 0)])⟩
theorem ty101_ok:TyOk prog 101 ty101_:=TyOk.mk' (by kernel_rfl) (by kernel_rfl)
def ty105_:Ty:=⟨(.struct #[fld 9 0,fld 25 1,fld 3 2,fld 29 3,fld 29 9,fld 29 15,fld 39 21,fld 39 22]),23,480,(.agg #[(.string ⟨#[]⟩),(.slice none 0 0),(.int .i64 0),(.string ⟨#[]⟩),(.string ⟨#[]⟩),(.slice none 0 0),(.slice none 0 0),(.slice none 0 0),(.slice none 0 0),(.string ⟨#[]⟩),(.string ⟨#[]⟩),(.slice none 0 0),(.slice none 0 0),(.slice none 0 0),(.slice none 0 0),(.string ⟨#[]⟩),(.string ⟨#[]⟩),(.slice none 0 0),(.slice none 0 0),(.slice none 0 0),(.slice none 0 0),(.slice none 0 0),(.slice none 0 0)])⟩
theorem ty105_ok:TyOk prog 105 ty105_:=TyOk.mk' (by kernel_rfl) (by kernel_rfl)
def ty106_:Ty:=⟨(.struct #[fld 9 0,fld 25 1,fld 3 2,fld 29 3,fld 29 9,fld 29 15,fld 39 21,fld 39 22]),23,480,(.agg #[(.string ⟨#[]⟩),(.slice none 0 0),(.int .i64 0),(.string ⟨#[]⟩),(.string ⟨#[]⟩),(.slice none 0 0),(.slice none 0 0),(.slice none 0 0),(.slice none 0 0),(.string ⟨#[]⟩),(.string ⟨#[]⟩),(.slice none 0 0),(.slice none 0 0),(.slice none 0 0),(.slice none 0 0),(.string ⟨#[]⟩),(.string ⟨#[]⟩),(.slice none 0 0),(.slice none 0 0),(.slice none 0 0),(.slice none 0 0),(.slice none 0 0),(.slice none 0 0)])⟩
theorem ty106_ok:TyOk prog 106 ty106_:=TyOk.mk' (by kernel_rfl) (by kernel_rfl)
def ty109_:Ty:=⟨(.slice 24),1,24,(.slice none 0 0)⟩
theorem ty109_ok:TyOk prog 109 ty109_:=TyOk.mk' (by kernel_rfl) (by kernel_rfl)
def ty110_:Ty:=⟨(.struct #[fld 9 0,fld 25 1,fld 29 2,fld 29 8,fld 29 14,fld 29 20,fld 39 26,fld 39 27,fld 4 28,fld 109 29]),30,632,(.agg #[(.string ⟨#[]⟩),(.slice none 0 0),(.string ⟨#[]⟩),(.string ⟨#[]⟩),(.slice none 0 0),(.slice none 0 0),(.slice none 0 0),(.slice none 0 0),(.string ⟨#[]⟩),(.string ⟨#[]⟩),(.slice none 0 0),(.slice none 0 0),(.slice none 0 0),(.slice none 0 0),(.string ⟨#[]⟩),(.string ⟨#[]⟩),(.slice none 0 0),(.slice none 0 0),(.slice none 0 0),(.slice none 0 0),(.string ⟨#[]⟩),(.string ⟨#[]⟩),(.slice none 0 0),(.slice none 0 0),(.slice none 0 0),(.slice none 0 0),(.slice none 0 0),(.slice none 0 0),(.bool false),(.slice none 0 0)])⟩
theorem ty110_ok:TyOk prog 110 ty110_:=TyOk.mk' (by kernel_rfl) (by kernel_rfl)
def ty111_:Ty:=⟨(.struct #[fld 9 0,fld 25 1,fld 29 2,fld 29 8,fld 29 14,fld 29 20,fld 39 26,fld 39 27,fld 4 28,fld 109 29]),30,632,(.agg #[(.string ⟨#[]⟩),(.slice none 0 0),(.string ⟨#[]⟩),(.string ⟨#[]⟩),(.slice none 0 0),(.slice none 0 0),(.slice none 0 0),(.slice none 0 0),(.string ⟨#[]⟩),(.string ⟨#[]⟩),(.slice none 0 0),(.slice none 0 0),(.slice none 0 0),(.slice none 0 0),(.string ⟨#[]⟩),(.string ⟨#[]⟩),(.slice none 0 0),(.slice none 0 0),(.slice none 0 0),(.slice none 0 0),(.string ⟨#[]⟩),(.string ⟨#[]⟩),(.slice none 0 0),(.slice none 0 0),(.slice none 0 0),(.slice none 0 0),(.slice none 0 0),(.slice none 0 0),(.bool false),(.slice none 0 0)])⟩
theorem ty111_ok:TyOk prog 111 ty111_:=TyOk.mk' (by kernel_rfl) (by kernel_rfl)
def ty112_:Ty:=⟨(.slice 4),1,24,(.slice none 0 0)⟩
theorem ty112_ok:TyOk prog 112 ty112_:=TyOk.mk' (by kernel_rfl) (by kernel_rfl)
def ty115_:Ty:=⟨(.struct #[fld 4 0]),1,1,(.agg #[(.bool false)])⟩
theorem ty115_ok:TyOk prog 115 ty115_:=TyOk.mk' (by kernel_rfl) (by kernel_rfl)
def ty116_:Ty:=⟨(.struct #[fld 4 0]),1,1,(.agg #[(.bool false)])⟩
theorem ty116_ok:TyOk prog 116 ty116_:=TyOk.mk' (by kernel_rfl) (by kernel_rfl)
def ty122_:Ty:=⟨(.struct #[fld 9 0,fld 25 1,fld 3 2,fld 3 3]),4,56,(.agg #[(.string ⟨#[]⟩),(.slice none 0 0),(.int .i64 0),(.int .i64 0)])⟩
theorem ty122_ok:TyOk prog 122 ty122_:=TyOk.mk' (by kernel_rfl) (by kernel_rfl)
def ty123_:Ty:=⟨(.struct #[fld 9 0,fld 25 1,fld 3 2,fld 3 3]),4,56,(.agg #[(.string ⟨#[]⟩),(.slice none 0 0),(.int .i64 0),(.int .i64 0)])⟩
theorem ty123_ok:TyOk prog 123 ty123_:=TyOk.mk' (by kernel_rfl) (by kernel_rfl)
def ty132_:Ty:=⟨(.struct #[fld 48 0,fld 3 2]),3,48,(.agg #[(.string ⟨#[]⟩),(.slice none 0 0),(.int .i64 0)])⟩
theorem ty132_ok:TyOk prog 132 ty132_:=TyOk.mk' (by kernel_rfl) (by kernel_rfl)
def ty133_:Ty:=⟨(.struct #[fld 48 0,fld 3 2]),3,48,(.agg #[(.string ⟨#[]⟩),(.slice none 0 0),(.int .i64 0)])⟩
theorem ty133_ok:TyOk prog 133 ty133_:=TyOk.mk' (by kernel_rfl) (by kernel_rfl)
def ty135_:Ty:=⟨(.struct #[fld 9 0,fld 9 1]),2,32,(.agg #[(.string ⟨#[]⟩),(.string ⟨#[]⟩)])⟩
theorem ty135_ok:TyOk prog 135 ty135_:=TyOk.mk' (by kernel_rfl) (by kernel_rfl)
def ty136_:Ty:=⟨(.struct #[fld 9 0,fld 9 1]),2,32,(.agg #[(.string ⟨#[]⟩),(.string ⟨#[]⟩)])⟩
theorem ty136_ok:TyOk prog 136 ty136_:=TyOk.mk' (by kernel_rfl) (by kernel_rfl)
def ty137_:Ty:=⟨(.func #[] #[] false),1,8,.nilFunc⟩
theorem ty137_ok:TyOk prog 137 ty137_:=TyOk.mk' (by kernel_rfl) (by kernel_rfl)
def ty144_:Ty:=⟨(.func #[] #[] false),1,8,.nilFunc⟩
theorem ty144_ok:TyOk prog 144 ty144_:=TyOk.mk' (by kernel_rfl) (by kernel_rfl)
def ty154_:Ty:=⟨(.map 9 4),1,8,(.map none)⟩
theorem ty154_ok:TyOk prog 154 ty154_:=TyOk.mk' (by kernel_rfl) (by kernel_rfl)
def ty155_:Ty:=⟨(.struct #[fld 46 0,fld 52 7,fld 80 18,fld 25 19,fld 154 20,fld 98 21]),22,440,(.agg #[(.string ⟨#[]⟩),(.slice none 0 0),(.slice none 0 0),(.slice none 0 0),(.slice none 0 0),(.slice none 0 0),(.slice none 0 0),(.string ⟨#[]⟩),(.string ⟨#[]⟩),(.slice none 0 0),(.slice none 0 0),(.slice none 0 0),(.string ⟨#[]⟩),(.string ⟨#[]⟩),(.slice none 0 0),(.slice none 0 0),(.slice none 0 0),(.slice none 0 0),(.pointer none),(.slice none 0 0),(.map none),(.map none)])⟩
theorem ty155_ok:TyOk prog 155 ty155_:=TyOk.mk' (by kernel_rfl) (by kernel_rfl)
def ty156_:Ty:=⟨(.struct #[fld 46 0,fld 52 7,fld 80 18,fld 25 19,fld 154 20,fld 98 21]),22,440,(.agg #[(.string ⟨#[]⟩),(.slice none 0 0),(.slice none 0 0),(.slice none 0 0),(.slice none 0 0),(.slice none 0 0),(.slice none 0 0),(.string ⟨#[]⟩),(.string ⟨#[]⟩),(.slice none 0 0),(.slice none 0 0),(.slice none 0 0),(.string ⟨#[]⟩),(.string ⟨#[]⟩),(.slice none 0 0),(.slice none 0 0),(.slice none 0 0),(.slice none 0 0),(.pointer none),(.slice none 0 0),(.map none),(.map none)])⟩
theorem ty156_ok:TyOk prog 156 ty156_:=TyOk.mk' (by kernel_rfl) (by kernel_rfl)
def ty178_:Ty:=⟨(.struct #[fld 83 0]),1,8,(.agg #[(.map none)])⟩
theorem ty178_ok:TyOk prog 178 ty178_:=TyOk.mk' (by kernel_rfl) (by kernel_rfl)
def ty179_:Ty:=⟨(.struct #[fld 83 0]),1,8,(.agg #[(.map none)])⟩
theorem ty179_ok:TyOk prog 179 ty179_:=TyOk.mk' (by kernel_rfl) (by kernel_rfl)
def ty181_:Ty:=⟨(.slice 184),1,24,(.slice none 0 0)⟩
theorem ty181_ok:TyOk prog 181 ty181_:=TyOk.mk' (by kernel_rfl) (by kernel_rfl)
def ty182_:Ty:=⟨(.array 3 181),3,72,(.agg #[(.slice none 0 0),(.slice none 0 0),(.slice none 0 0)])⟩
theorem ty182_ok:TyOk prog 182 ty182_:=TyOk.mk' (by kernel_rfl) (by kernel_rfl)
def ty183_:Ty:=⟨(.struct #[fld 9 0,fld 9 1]),2,32,(.agg #[(.string ⟨#[]⟩),(.string ⟨#[]⟩)])⟩
theorem ty183_ok:TyOk prog 183 ty183_:=TyOk.mk' (by kernel_rfl) (by kernel_rfl)
def ty184_:Ty:=⟨(.struct #[fld 9 0,fld 9 1]),2,32,(.agg #[(.string ⟨#[]⟩),(.string ⟨#[]⟩)])⟩
theorem ty184_ok:TyOk prog 184 ty184_:=TyOk.mk' (by kernel_rfl) (by kernel_rfl)
def ty188_:Ty:=⟨(.slice 39),1,24,(.slice none 0 0)⟩
theorem ty188_ok:TyOk prog 188 ty188_:=TyOk.mk' (by kernel_rfl) (by kernel_rfl)
def ty203_:Ty:=⟨(.int .u64),1,8,(.int .u64 0)⟩
theorem ty203_ok:TyOk prog 203 ty203_:=TyOk.mk' (by kernel_rfl) (by kernel_rfl)
def ty218_:Ty:=⟨(.struct #[fld 3 0]),1,8,(.agg #[(.int .i64 0)])⟩
theorem ty218_ok:TyOk prog 218 ty218_:=TyOk.mk' (by kernel_rfl) (by kernel_rfl)
def ty219_:Ty:=⟨(.struct #[fld 3 0]),1,8,(.agg #[(.int .i64 0)])⟩
theorem ty219_ok:TyOk prog 219 ty219_:=TyOk.mk' (by kernel_rfl) (by kernel_rfl)
def ty243_:Ty:=⟨(.int .i64),1,8,(.int .i64 0)⟩
theorem ty243_ok:TyOk prog 243 ty243_:=TyOk.mk' (by kernel_rfl) (by kernel_rfl)
def ty251_:Ty:=⟨(.int .u32),1,4,(.int .u32 0)⟩
theorem ty251_ok:TyOk prog 251 ty251_:=TyOk.mk' (by kernel_rfl) (by kernel_rfl)
def ty253_:Ty:=⟨(.int .u64),1,8,(.int .u64 0)⟩
theorem ty253_ok:TyOk prog 253 ty253_:=TyOk.mk' (by kernel_rfl) (by kernel_rfl)
def ty262_:Ty:=⟨(.pointer 264),1,8,(.pointer none)⟩
theorem ty262_ok:TyOk prog 262 ty262_:=TyOk.mk' (by kernel_rfl) (by kernel_rfl)
def ty263_:Ty:=⟨(.struct #[fld 262 0,fld 22 1]),2,32,(.agg #[(.pointer none),(.slice none 0 0)])⟩
theorem ty263_ok:TyOk prog 263 ty263_:=TyOk.mk' (by kernel_rfl) (by kernel_rfl)
def ty264_:Ty:=⟨(.struct #[fld 262 0,fld 22 1]),2,32,(.agg #[(.pointer none),(.slice none 0 0)])⟩
theorem ty264_ok:TyOk prog 264 ty264_:=TyOk.mk' (by kernel_rfl) (by kernel_rfl)
def ty273_:Ty:=⟨(.int .u64),1,8,(.int .u64 0)⟩
theorem ty273_ok:TyOk prog 273 ty273_:=TyOk.mk' (by kernel_rfl) (by kernel_rfl)
def ty279_:Ty:=⟨(.pointer 5),1,8,(.pointer none)⟩
theorem ty279_ok:TyOk prog 279 ty279_:=TyOk.mk' (by kernel_rfl) (by kernel_rfl)
def ty304_:Ty:=⟨(.int .u16),1,2,(.int .u16 0)⟩
theorem ty304_ok:TyOk prog 304 ty304_:=TyOk.mk' (by kernel_rfl) (by kernel_rfl)
def ty305_:Ty:=⟨(.slice 304),1,24,(.slice none 0 0)⟩
theorem ty305_ok:TyOk prog 305 ty305_:=TyOk.mk' (by kernel_rfl) (by kernel_rfl)
def ty307_:Ty:=⟨(.slice 251),1,24,(.slice none 0 0)⟩
theorem ty307_ok:TyOk prog 307 ty307_:=TyOk.mk' (by kernel_rfl) (by kernel_rfl)
def tabL:List (Nat × Ty):=[(2,ty2_),(3,ty3_),(4,ty4_),(5,ty5_),(6,ty6_),(7,ty7_),(8,ty8_),(9,ty9_),(12,ty12_),(13,ty13_),(14,ty14_),(21,ty21_),(22,ty22_),(24,ty24_),(25,ty25_),(26,ty26_),(27,ty27_),(28,ty28_),(29,ty29_),(32,ty32_),(33,ty33_),(34,ty34_),(35,ty35_),(36,ty36_),(37,ty37_),(38,ty38_),(39,ty39_),(40,ty40_),(41,ty41_),(42,ty42_),(43,ty43_),(44,ty44_),(45,ty45_),(46,ty46_),(47,ty47_),(48,ty48_),(49,ty49_),(50,ty50_),(51,ty51_),(52,ty52_),(53,ty53_),(54,ty54_),(60,ty60_),(67,ty67_),(70,ty70_),(71,ty71_),(72,ty72_),(73,ty73_),(74,ty74_),(80,ty80_),(81,ty81_),(82,ty82_),(83,ty83_),(84,ty84_),(85,ty85_),(88,ty88_),(90,ty90_),(96,ty96_),(97,ty97_),(98,ty98_),(99,ty99_),(100,ty100_),(101,ty101_),(105,ty105_),(106,ty106_),(109,ty109_),(110,ty110_),(111,ty111_),(112,ty112_),(115,ty115_),(116,ty116_),(122,ty122_),(123,ty123_),(132,ty132_),(133,ty133_),(135,ty135_),(136,ty136_),(137,ty137_),(144,ty144_),(154,ty154_),(155,ty155_),(156,ty156_),(178,ty178_),(179,ty179_),(181,ty181_),(182,ty182_),(183,ty183_),(184,ty184_),(188,ty188_),(203,ty203_),(218,ty218_),(219,ty219_),(243,ty243_),(251,ty251_),(253,ty253_),(262,ty262_),(263,ty263_),(264,ty264_),(273,ty273_),(279,ty279_),(304,ty304_),(305,ty305_),(307,ty307_)]
theorem tabL_ok:AllTy prog tabL:=⟨ty2_ok,ty3_ok,ty4_ok,ty5_ok,ty6_ok,ty7_ok,ty8_ok,ty9_ok,ty12_ok,ty13_ok,ty14_ok,ty21_ok,ty22_ok,ty24_ok,ty25_ok,ty26_ok,ty27_ok,ty28_ok,ty29_ok,ty32_ok,ty33_ok,ty34_ok,ty35_ok,ty36_ok,ty37_ok,ty38_ok,ty39_ok,ty40_ok,ty41_ok,ty42_ok,ty43_ok,ty44_ok,ty45_ok,ty46_ok,ty47_ok,ty48_ok,ty49_ok,ty50_ok,ty51_ok,ty52_ok,ty53_ok,ty54_ok,ty60_ok,ty67_ok,ty70_ok,ty71_ok,ty72_ok,ty73_ok,ty74_ok,ty80_ok,ty81_ok,ty82_ok,ty83_ok,ty84_ok,ty85_ok,ty88_ok,ty90_ok,ty96_ok,ty97_ok,ty98_ok,ty99_ok,ty100_ok,ty101_ok,ty105_ok,ty106_ok,ty109_ok,ty110_ok,ty111_ok,ty112_ok,ty115_ok,ty116_ok,ty122_ok,ty123_ok,ty132_ok,ty133_ok,ty135_ok,ty136_ok,ty137_ok,ty144_ok,ty154_ok,ty155_ok,ty156_ok,ty178_ok,ty179_ok,ty181_ok,ty182_ok,ty183_ok,ty184_ok,ty188_ok,ty203_ok,ty218_ok,ty219_ok,ty243_ok,ty251_ok,ty253_ok,ty262_ok,ty263_ok,ty264_ok,ty273_ok,ty279_ok,ty304_ok,ty305_ok,ty307_ok,trivial⟩
def T:Tab prog:=⟨tabL,tabL_ok,by kernel_rfl⟩
end Go.Proofs.YtbnpeechpebmeaaGreatDoor
set_option maxRecDepth 20000
namespace Go.Proofs.YtbnpeechpebmeaaGreatDoor
open Go.Lx Go.RowKit
open Go.Proofs.Tryz (prog)
def Yap (s:Bs) (i:Nat):Nat:=((s[i]?).map UInt8.toNat).getD 0
variable {k:Nat}
theorem YaQ {s:Bs} (h:k<s.size):∃ b:UInt8,s[k]?=some b∧Yap s k=b.toNat:=by
 refine ⟨s[k],getElem?_pos s k h,?_⟩
 simp [Yap,getElem?_pos s k h]
def DigP (n:Int):Prop:=48≤n∧n≤57
instance {n:Int}:Decidable (DigP n):=inferInstanceAs (Decidable (_∧_))
variable {fz:FZ}
theorem YgA {n:Int}:QFn prog 182 [.int .u8 n] fz (.bool (decide (DigP n))):=by
 refine GFn.quiet ?_
 refine zF Tryz.func182 Tryz.ntmps182 (fun w0=>?_)
 refine zW ?_;intros
 refine zC (fun c1=>?_) (fun c1=>?_)
 ·refine zW ?_;intros
  refine zC (fun c2=>?_) (fun c2=>?_)
  ·refine zW ?_;intros
   exact ret1 rfl rfl Zb (YC ⟨c1,c2⟩)
  ·refine zW ?_;intros
   exact ret1 rfl rfl Zb (Ym (fun h=>c2 h.2))
 ·refine zW ?_;intros
  exact ret1 rfl rfl Zb (Ym (fun h=>c1 h.1))
def PreP (s p:Bs):Prop:=p.size≤s.size∧s.extract 0 p.size=p
instance {s p:Bs}:Decidable (PreP s p):=inferInstanceAs (Decidable (_∧_))
def YbK (s p:Bs):Bs:=if PreP s p then s.extract p.size s.size else s
variable {i j:Nat}
theorem YbV {s:Bs} (h:j≤s.size):(s.extract i j).size=j - i:=by
 simp [ByteArray.size_extract,Nat.min_eq_left h]
theorem YjW {s p:Bs} (h:Short s):Short (YbK s p):=by
 unfold YbK Short at*
 split
 ·rw [YbV (Zs _)];omega
 ·exact h
theorem YeK {s p:Bs} (_hs:Short s) (hp:Short p):QFn prog 214 [.string s,.string p] fz (.bool (decide (PreP s p))):=by
 unfold Short at hp
 refine GFn.quiet ?_
 refine zF Tryz.func214 Tryz.ntmps214 (fun w0=>?_)
 refine zW ?_;intros
 refine zC (fun c1=>?_) (fun c1=>?_)
 ·refine zW ?_;intros
  ((refine zG ?_);refine q_str_to T Zz Zz Zz Zz Zi Zi ?_)
  refine zW ?_;intros
  refine zC (fun c2=>?_) (fun c2=>?_)
  ·refine zW ?_;intros
   exact ret1 rfl rfl Zb (YC ⟨by omega,by simpa using c2⟩)
  ·refine zW ?_;intros
   exact ret1 rfl rfl Zb (Ym (fun h=>c2 (by simpa using h.2)))
 ·refine zW ?_;intros
  exact ret1 rfl rfl Zb (Ym (fun h=>by have:=h.1;omega))
theorem Yf0 {s p:Bs} (hs:Short s) (hp:Short p):QFn prog 211 [.string s,.string p] fz (.string (YbK s p)):=by
 refine GFn.quiet ?_
 refine zF Tryz.func211 Tryz.ntmps211 (fun w0=>?_)
 refine zW ?_;intros
 refine zb (YeK hs hp) (fun f1=>?_) (fun f1=>?_)
 ·have hc:=Zt f1
  have:=hc.1
  refine zW ?_;intros
  ((refine zG ?_);refine Ydb T Zz Zz Zz Zz Zi Zi ?_)
  refine zW ?_;intros
  exact zR (h:=by rw [YbK,if_pos hc];rfl)
 ·have hc:=Zf f1
  refine zW ?_;intros
  exact zR (h:=by rw [YbK,if_neg hc])
theorem YgV {s p:Bs} (hs:Short s) (hp:Short p):QFn prog 184 [.string s,.string p] fz (.string (YbK s p)):=by
 refine GFn.quiet ?_
 refine zF Tryz.func184 Tryz.ntmps184 (fun w0=>?_)
 refine zW ?_;intros
 refine zc (Yf0 hs hp) ?_
 refine zW ?_;intros
 exact zR (h:=rfl)
def YbS:Bs:=⟨#[45]⟩
def WY:Bs:=⟨#[]⟩
def NumP (s:Bs):Prop:=(∀ i,i<(YbK s YbS).size→DigP (Yap (YbK s YbS) i))∧YbK s YbS≠WY
open Classical in
theorem Ylu {s:Bs} (hs:Short s):QFn prog 138 [.string s] fz (.bool (decide (NumP s))):=by
 refine GFn.quiet ?_
 refine zF Tryz.func138 Tryz.ntmps138 (fun w0=>?_)
 refine zW ?_;intros
 ((refine zG ?_);refine YB Zz Zz (YgV (p:=YbS) hs (by unfold Short YbS;decide)) ?_)
 have hz:(YbK s YbS).size≤9223372036854775807:=YjW hs
 refine zW ?_;intros
 refine Yk (fun q σ fz' H'=>∃ k:Nat,k≤(YbK s YbS).size∧q=(YbK s YbS).size - k∧σ=[(8,.int .i64 k),(7,.int .i64 (YbK s YbS).size),(0,.string (YbK s YbS))]∧fz=fz'∧H'=[]∧(∀ i,i<k→DigP (Yap (YbK s YbS) i))) ⟨0,Z0 _,rfl,rfl,rfl,rfl,(fun i hi=>absurd hi Zi)⟩ Zw Zb ?_;rintro q σ fz' H' ⟨k,hk,rfl,rfl,rfl,rfl,hh⟩
 refine zW ?_;intros
 refine zC (fun hlt=>?_) (fun hge=>?_)
 ·refine zW ?_;intros
  obtain ⟨b,hb,hb2⟩:=YaQ (s:=YbK s YbS) (k:=k) Zi
  ((refine zG ?_);refine XP T Zz Zz Zz Zz Zi (by rw [Int.toNat_natCast];exact hb) ?_)
  refine zW ?_;intros
  refine zb (YgA (n:=b.toNat)) (fun f1=>?_) (fun f1=>?_)
  ·refine zW ?_;intros
   exact YA ⟨k+1,by omega,rfl,rfl,rfl,rfl,(Xh hh (by rw [hb2];exact Zt f1))⟩ Zi Zw Zb
  ·refine zW ?_;intros
   exact ret1 rfl rfl Zb (Ym (fun h=>Zf f1 (by rw [← hb2];exact h.1 k Zi)))
 ·refine zW ?_;intros
  refine zC (fun c1=>?_) (fun c1=>?_)
  ·refine zW ?_;intros
   exact ret1 rfl rfl Zb (YC ⟨fun i hi=>hh i Zi,c1⟩)
  ·refine zW ?_;intros
   exact ret1 rfl rfl Zb (Ym (fun h=>h.2 c1))
variable {A:Option Addr} {c n:Nat}
open Classical in
theorem indexS_q {l:List Bs} {x:Bs} (h1:Sl strL fz A n c l):
 QFn prog 178 [.slice A n c,.string x] fz (.int .i64 (WZ (fun y=>x=y) l 0)):=by
 refine GFn.quiet ?_
 refine zF Tryz.func178 Tryz.ntmps178 (fun w0=>?_)
 have l1:=h1.len
 have hm:=h1.short
 refine zW ?_;intros
 refine Yk (fun q σ fz' H'=>∃ k:Nat,k≤n∧q=n - k∧σ=[(8,.int .i64 k),(7,.int .i64 n),(0,.slice A n c),(1,.string x)]∧fz=fz'∧H'=[]∧(∀ i,i<k→∀ y,l[i]?=some y→¬x=y)) ⟨0,Z0 _,rfl,rfl,rfl,rfl,(fun i hi=>absurd hi Zi)⟩ Zw Zb ?_;rintro q σ fz' H' ⟨k,hk,rfl,rfl,rfl,rfl,hh⟩
 refine zW ?_;intros
 refine zC (fun hlt=>?_) (fun hge=>?_)
 ·refine zW ?_;intros
  obtain ⟨y,hy⟩:=Yg (l:=l) (k:=k) Zi
  refine zI h1 hy (fun a ha=>?_)
  refine zH ha (fun iy=>?_)
  refine zW ?_;intros
  refine zC (fun c1=>?_) (fun c1=>?_)
  ·refine zW ?_;intros
   exact zR (h:=by rw [Wo hh hy c1,Int.zero_add])
  ·refine zW ?_;intros
   exact YA ⟨k+1,by omega,rfl,rfl,rfl,rfl,(YO hh hy c1)⟩ Zi Zw Zb
 ·refine zW ?_;intros
  exact zR (h:=by rw [XS (Xf hh Zi)])
open Classical in
theorem YeZ {l:List Bs} {x:Bs} (h1:Sl strL fz A n c l):
 QFn prog 129 [.slice A n c,.string x] fz (.bool (decide (x∈l))):=by
 refine GFn.quiet ?_
 refine zF Tryz.func129 Tryz.ntmps129 (fun w0=>?_)
 refine zW ?_;intros
 refine zc (indexS_q h1) ?_
 refine zC (fun c1=>?_) (fun c1=>?_)
 ·refine zW ?_;intros
  exact ret1 rfl rfl Zb (YC (by obtain ⟨y,h,e⟩:=(Xj (Int.le_refl 0)).1 c1;rw [e];exact h))
 ·refine zW ?_;intros
  exact ret1 rfl rfl Zb (Ym (fun h=>c1 ((Xj (Int.le_refl 0)).2 ⟨x,h,rfl⟩)))
variable {g:Nat} {t:TypeId}
theorem sl_strs {f:Nat × Nat} {l:List Bs} (h:fz g=some (.cells (l.map Value.string).toArray t f)) (hs:∀ s∈l,Short s) (hn:l.length≤140737488355328):Sl strL fz (some ⟨g,0,none⟩) l.length l.length l:=
 ⟨rfl,Zs _,by omega,hn,.inr ⟨_,rfl,fun i d hd=>⟨[.string d],⟨rfl,hs d (Zm hd)⟩,fun j v hv=>by
  have hadd:((⟨g,0,none⟩:Addr).add (i*strL.size)).add j=⟨g,i+j,none⟩:=by
   show ((⟨g,0,none⟩:Addr).add (i*1)).add j=_
   unfold Addr.add;split<;>split<;>simp_all
  rw [hadd]
  cases j with
  | zero=>simp at hv;subst hv;simp [Ybj,h,hd]
  | succ j=>simp at hv⟩⟩⟩
def YaF:List Bs:=[⟨#[97,110,100]⟩,⟨#[111,114]⟩,⟨#[110,111,116]⟩,⟨#[105,109,112,108,121]⟩,⟨#[102,111,114,97,108,108]⟩,⟨#[101,120,105,115,116,115]⟩,⟨#[119,104,101,110]⟩,⟨#[97,115,115,105,103,110]⟩,⟨#[105,110,99,114,101,97,115,101]⟩,⟨#[100,101,99,114,101,97,115,101]⟩,⟨#[111,98,106,101,99,116]⟩]
theorem Yj5:GFn prog 130 [] fz [] (fun v fz' H'=>H'=[]∧∃ A,v=.slice A 11 11∧Sl strL fz' A 11 11 YaF):=by
 refine zF Tryz.func130 Tryz.ntmps130 (fun w0=>?_)
 refine zW ?_;intros
 refine Yb Zz (Yc T (cs:=YaF.map Value.string) Zz Zz Zz Zz Zz Zz Zz Zz (fun g=>?_))
 refine zW ?_;intros
 exact YdP rfl rfl (fun fz' hle hf=>⟨rfl,_,rfl,sl_strs (l:=YaF) (hf _ (.head _)) (by intro s hs;simp only [YaF,List.mem_cons,List.not_mem_nil,or_false] at hs;rcases hs with rfl | rfl | rfl | rfl | rfl | rfl | rfl | rfl | rfl | rfl | rfl<;>(unfold Short;decide)) Zh⟩)
def LetP (n:Int):Prop:=97≤n∧n≤122
def Yax (s:Bs) (i:Nat):Prop:=LetP (Yap s i)∨(i≠0∧(DigP (Yap s i)∨(Yap s i:Int)=45∨(Yap s i:Int)=95))
def Xk (s:Bs):Prop:=(∀ i,i<s.size→Yax s i)∧s≠WY∧s.size≤32∧s ∉ YaF
open Classical in
theorem Yah {s:Bs} (hs:Short s):QFn prog 78 [.string s] fz (.bool (decide (Xk s))):=by
 have hz:s.size≤9223372036854775807:=hs
 refine GFn.quiet ?_
 refine zF Tryz.func78 Tryz.ntmps78 (fun w0=>?_)
 refine zW ?_;intros
 refine Yk (fun q σ fz' H'=>∃ k:Nat,k≤s.size∧q=s.size - k∧σ=[(8,.int .i64 k),(7,.int .i64 s.size),(0,.string s)]∧fz=fz'∧H'=[]∧(∀ i,i<k→Yax s i)) ⟨0,Z0 _,rfl,rfl,rfl,rfl,(fun i hi=>absurd hi Zi)⟩ Zw Zb ?_;rintro q σ fz' H' ⟨k,hk,rfl,rfl,rfl,rfl,hh⟩
 refine zW ?_;intros
 refine zC (fun hlt=>?_) (fun hge=>?_)
 ·refine zW ?_;intros
  obtain ⟨b,hb,hb2⟩:=YaQ (s:=s) (k:=k) Zi
  have bad:¬Yax s k→¬Xk s:=fun h hc=>h (hc.1 k Zi)
  ((refine zG ?_);refine XP T Zz Zz Zz Zz Zi (by rw [Int.toNat_natCast];exact hb) ?_)
  refine zW ?_;intros
  refine zC (fun c1=>?_) (fun c1=>?_)
  ·refine zW ?_;intros
   refine zC (fun c2=>?_) (fun c2=>?_)
   ·refine zW ?_;intros
    exact YA ⟨k+1,by omega,rfl,rfl,rfl,rfl,(Xh hh (by rw [Yax,hb2];exact .inl ⟨c1,c2⟩))⟩ Zi Zw Zb
   ·have nl:¬LetP b.toNat:=fun h=>c2 h.2
    refine zW ?_;intros
    refine zC (fun c3=>?_) (fun c3=>?_)
    ·refine zW ?_;intros
     exact ret1 rfl rfl Zb (Ym (bad (by rw [Yax,hb2];intro h;rcases h with h | h;exact nl h;omega)))
    ·refine zW ?_;intros
     refine zC (fun c4=>?_) (fun c4=>?_)
     ·refine zW ?_;intros
      refine zC (fun c5=>?_) (fun c5=>?_)
      ·refine zW ?_;intros
       refine zC (fun c6=>?_) (fun c6=>?_)
       ·refine zW ?_;intros
        exact ret1 rfl rfl Zb (Ym (bad (by rw [Yax,hb2];unfold DigP;intro h;rcases h with h | ⟨_,h | h | h⟩;exact nl h;omega;omega;omega)))
       ·refine zW ?_;intros
        exact YA ⟨k+1,by omega,rfl,rfl,rfl,rfl,(Xh hh (by rw [Yax,hb2];right;refine ⟨by omega,?_⟩;omega))⟩ Zi Zw Zb
      ·refine zW ?_;intros
       exact YA ⟨k+1,by omega,rfl,rfl,rfl,rfl,(Xh hh (by rw [Yax,hb2];right;refine ⟨by omega,?_⟩;omega))⟩ Zi Zw Zb
     ·refine zW ?_;intros
      refine zC (fun c7=>?_) (fun c7=>?_)
      ·refine zW ?_;intros
       refine zC (fun c5=>?_) (fun c5=>?_)
       ·refine zW ?_;intros
        refine zC (fun c6=>?_) (fun c6=>?_)
        ·refine zW ?_;intros
         exact ret1 rfl rfl Zb (Ym (bad (by rw [Yax,hb2];unfold DigP;intro h;rcases h with h | ⟨_,h | h | h⟩;exact nl h;omega;omega;omega)))
        ·refine zW ?_;intros
         exact YA ⟨k+1,by omega,rfl,rfl,rfl,rfl,(Xh hh (by rw [Yax,hb2];right;refine ⟨by omega,?_⟩;omega))⟩ Zi Zw Zb
       ·refine zW ?_;intros
        exact YA ⟨k+1,by omega,rfl,rfl,rfl,rfl,(Xh hh (by rw [Yax,hb2];right;refine ⟨by omega,?_⟩;omega))⟩ Zi Zw Zb
      ·refine zW ?_;intros
       exact YA ⟨k+1,by omega,rfl,rfl,rfl,rfl,(Xh hh (by rw [Yax,hb2];right;refine ⟨by omega,?_⟩;unfold DigP;omega))⟩ Zi Zw Zb
  ·have nl:¬LetP b.toNat:=fun h=>c1 h.1
   refine zW ?_;intros
   refine zC (fun c3=>?_) (fun c3=>?_)
   ·refine zW ?_;intros
    exact ret1 rfl rfl Zb (Ym (bad (by rw [Yax,hb2];intro h;rcases h with h | h;exact nl h;omega)))
   ·refine zW ?_;intros
    refine zC (fun c4=>?_) (fun c4=>?_)
    ·refine zW ?_;intros
     refine zC (fun c5=>?_) (fun c5=>?_)
     ·refine zW ?_;intros
      refine zC (fun c6=>?_) (fun c6=>?_)
      ·refine zW ?_;intros
       exact ret1 rfl rfl Zb (Ym (bad (by rw [Yax,hb2];unfold DigP;intro h;rcases h with h | ⟨_,h | h | h⟩;exact nl h;omega;omega;omega)))
      ·refine zW ?_;intros
       exact YA ⟨k+1,by omega,rfl,rfl,rfl,rfl,(Xh hh (by rw [Yax,hb2];right;refine ⟨by omega,?_⟩;omega))⟩ Zi Zw Zb
     ·refine zW ?_;intros
      exact YA ⟨k+1,by omega,rfl,rfl,rfl,rfl,(Xh hh (by rw [Yax,hb2];right;refine ⟨by omega,?_⟩;omega))⟩ Zi Zw Zb
    ·refine zW ?_;intros
     refine zC (fun c7=>?_) (fun c7=>?_)
     ·refine zW ?_;intros
      refine zC (fun c5=>?_) (fun c5=>?_)
      ·refine zW ?_;intros
       refine zC (fun c6=>?_) (fun c6=>?_)
       ·refine zW ?_;intros
        exact ret1 rfl rfl Zb (Ym (bad (by rw [Yax,hb2];unfold DigP;intro h;rcases h with h | ⟨_,h | h | h⟩;exact nl h;omega;omega;omega)))
       ·refine zW ?_;intros
        exact YA ⟨k+1,by omega,rfl,rfl,rfl,rfl,(Xh hh (by rw [Yax,hb2];right;refine ⟨by omega,?_⟩;omega))⟩ Zi Zw Zb
      ·refine zW ?_;intros
       exact YA ⟨k+1,by omega,rfl,rfl,rfl,rfl,(Xh hh (by rw [Yax,hb2];right;refine ⟨by omega,?_⟩;omega))⟩ Zi Zw Zb
     ·refine zW ?_;intros
      exact YA ⟨k+1,by omega,rfl,rfl,rfl,rfl,(Xh hh (by rw [Yax,hb2];right;refine ⟨by omega,?_⟩;unfold DigP;omega))⟩ Zi Zw Zb
 ·refine zW ?_;intros
  refine zC (fun c1=>?_) (fun c1=>?_)
  ·refine zW ?_;intros
   refine zC (fun c2=>?_) (fun c2=>?_)
   ·refine zW ?_;intros
    refine Seq.guard_yesK Zz Zz Zz (Yl [] [] Zz Zz Zz Yj5 (fun v fz2 H2 hle2 hR=>?_))
    obtain ⟨rfl,A,rfl,hsl⟩:=hR
    refine zW ?_;intros
    refine zb (YeZ (x:=s) hsl) (fun f1=>?_) (fun f1=>?_)
    ·refine zW ?_;intros
     exact ret1 rfl rfl Zb (Ym (fun h=>h.2.2.2 (Zt f1)))
    ·refine zW ?_;intros
     exact ret1 rfl rfl Zb (YC ⟨fun i hi=>hh i Zi,c1,by omega,Zf f1⟩)
   ·refine zW ?_;intros
    exact ret1 rfl rfl Zb (Ym (fun h=>by have:=h.2.2.1;omega))
  ·refine zW ?_;intros
   exact ret1 rfl rfl Zb (Ym (fun h=>h.2.1 c1))
def VarP (s:Bs):Prop:=1<s.size∧s.size≤32∧(Yap s 0:Int)=63∧Xk (s.extract 1 s.size)
def YdA (s:Bs):Prop:=Xk s∨VarP s
def W8:Bs:=⟨#[111,98,106,101,99,116]⟩
def YcZ (s:Bs):Prop:=Xk s∨s=W8
open Classical in
theorem YbX {s:Bs} (hs:Short s):QFn prog 79 [.string s] fz (.bool (decide (VarP s))):=by
 have hz:s.size≤9223372036854775807:=hs
 refine GFn.quiet ?_
 refine zF Tryz.func79 Tryz.ntmps79 (fun w0=>?_)
 refine zW ?_;intros
 refine zC (fun c1=>?_) (fun c1=>?_)
 ·refine zW ?_;intros
  refine zC (fun c2=>?_) (fun c2=>?_)
  ·refine zW ?_;intros
   obtain ⟨b,hb,hb2⟩:=YaQ (s:=s) (k:=0) Zi
   refine zG ?_;refine XP T Zz Zz Zz Zz Zi hb ?_
   refine zW ?_;intros
   refine zC (fun c3=>?_) (fun c3=>?_)
   ·refine zW ?_;intros
    ((refine zG ?_);refine Ydb T Zz Zz Zz Zz Zi Zi ?_)
    refine zW ?_;intros
    ((refine zG ?_);refine XY Zz Zz (Yah (s:=s.extract 1 s.size) (by unfold Short;rw [YbV (Zs _)];omega)) (fun f1=>?_) (fun f1=>?_))
    ·refine zW ?_;intros
     exact ret1 rfl rfl Zb (YC ⟨by omega,by omega,by rw [hb2];exact c3,Zt f1⟩)
    ·refine zW ?_;intros
     exact ret1 rfl rfl Zb (Ym (fun h=>Zf f1 h.2.2.2))
   ·refine zW ?_;intros
    exact ret1 rfl rfl Zb (Ym (fun h=>c3 (by rw [← hb2];exact h.2.2.1)))
  ·refine zW ?_;intros
   exact ret1 rfl rfl Zb (Ym (fun h=>by have:=h.2.1;omega))
 ·refine zW ?_;intros
  exact ret1 rfl rfl Zb (Ym (fun h=>by have:=h.1;omega))
open Classical in
theorem term_q {s:Bs} (hs:Short s):QFn prog 187 [.string s] fz (.bool (decide (YdA s))):=by
 refine GFn.quiet ?_
 refine zF Tryz.func187 Tryz.ntmps187 (fun w0=>?_)
 refine zW ?_;intros
 refine zb (Yah hs) (fun f1=>?_) (fun f1=>?_)
 ·refine zW ?_;intros
  exact ret1 rfl rfl Zb (YC (.inl (Zt f1)))
 ·refine zW ?_;intros
  refine zb (YbX hs) (fun f2=>?_) (fun f2=>?_)
  ·refine zW ?_;intros
   exact ret1 rfl rfl Zb (YC (.inr (Zt f2)))
  ·refine zW ?_;intros
   exact ret1 rfl rfl Zb (Ym (fun h=>h.elim (Zf f1) (Zf f2)))
open Classical in
theorem dterm_q {s:Bs} (hs:Short s):QFn prog 208 [.string s] fz (.bool (decide (YdA s))):=by
 refine GFn.quiet ?_
 refine zF Tryz.func208 Tryz.ntmps208 (fun w0=>?_)
 refine zW ?_;intros
 refine zb (Yah hs) (fun f1=>?_) (fun f1=>?_)
 ·refine zW ?_;intros
  exact ret1 rfl rfl Zb (YC (.inl (Zt f1)))
 ·refine zW ?_;intros
  refine zb (YbX hs) (fun f2=>?_) (fun f2=>?_)
  ·refine zW ?_;intros
   exact ret1 rfl rfl Zb (YC (.inr (Zt f2)))
  ·refine zW ?_;intros
   exact ret1 rfl rfl Zb (Ym (fun h=>h.elim (Zf f1) (Zf f2)))
open Classical in
theorem typed_q {s:Bs} (hs:Short s):QFn prog 188 [.string s] fz (.bool (decide (YcZ s))):=by
 refine GFn.quiet ?_
 refine zF Tryz.func188 Tryz.ntmps188 (fun w0=>?_)
 refine zW ?_;intros
 refine zb (Yah hs) (fun f1=>?_) (fun f1=>?_)
 ·refine zW ?_;intros
  exact ret1 rfl rfl Zb (YC (.inl (Zt f1)))
 ·refine zW ?_;intros
  refine zC (fun c2=>?_) (fun c2=>?_)
  ·refine zW ?_;intros
   exact ret1 rfl rfl Zb (YC (.inr c2))
  ·refine zW ?_;intros
   exact ret1 rfl rfl Zb (Ym (fun h=>h.elim (Zf f1) c2))
def sxV (k v:Int) (s:Bs) (kids:Value):Value:=.agg #[.int .i64 k,.int .i64 v,.int .i64 0,.int .i64 0,.string s,kids]
theorem YaJ {s:Bs}:QFn prog 91 [.string s] fz (sxV 1 0 s (.slice none 0 0)):=by
 refine GFn.quiet ?_
 refine zF Tryz.func91 Tryz.ntmps91 (fun w0=>?_)
 refine zW ?_;intros
 exact XX T (i:=0) rfl Zz Zz Zz Zz Zz (fun _ hi=>⟨_,[],hi.forget (List.nil_sublist _),rfl⟩)
theorem WB {s:Bs}:QFn prog 32 [.string s] fz (sxV 1 0 s (.slice none 0 0)):=by
 refine GFn.quiet ?_
 refine zF Tryz.func32 Tryz.ntmps32 (fun w0=>?_)
 refine zW ?_;intros
 exact XX T (i:=0) rfl Zz Zz Zz Zz Zz (fun _ hi=>⟨_,[],hi.forget (List.nil_sublist _),rfl⟩)
theorem Wy {s:Bs}:QFn prog 43 [.string s] fz (sxV 1 0 s (.slice none 0 0)):=by
 refine GFn.quiet ?_
 refine zF Tryz.func43 Tryz.ntmps43 (fun w0=>?_)
 refine zW ?_;intros
 exact XX T (i:=0) rfl Zz Zz Zz Zz Zz (fun _ hi=>⟨_,[],hi.forget (List.nil_sublist _),rfl⟩)
theorem YbU:QFn prog 141 [.slice A n c] fz (sxV 3 0 ⟨#[]⟩ (.slice A n c)):=by
 refine GFn.quiet ?_
 refine zF Tryz.func141 Tryz.ntmps141 (fun w0=>?_)
 refine zW ?_;intros
 exact XX T (i:=0) rfl Zz Zz Zz Zz Zz (fun _ hi=>⟨_,[],hi.forget (List.nil_sublist _),rfl⟩)
theorem Xe:QFn prog 31 [.slice A n c] fz (sxV 3 0 ⟨#[]⟩ (.slice A n c)):=by
 refine GFn.quiet ?_
 refine zF Tryz.func31 Tryz.ntmps31 (fun w0=>?_)
 refine zW ?_;intros
 exact XX T (i:=0) rfl Zz Zz Zz Zz Zz (fun _ hi=>⟨_,[],hi.forget (List.nil_sublist _),rfl⟩)
theorem XB:QFn prog 42 [.slice A n c] fz (sxV 3 0 ⟨#[]⟩ (.slice A n c)):=by
 refine GFn.quiet ?_
 refine zF Tryz.func42 Tryz.ntmps42 (fun w0=>?_)
 refine zW ?_;intros
 exact XX T (i:=0) rfl Zz Zz Zz Zz Zz (fun _ hi=>⟨_,[],hi.forget (List.nil_sublist _),rfl⟩)
theorem Yd5 {n:Int}:QFn prog 36 [.int .i64 n] fz (sxV 2 n ⟨#[]⟩ (.slice none 0 0)):=by
 refine GFn.quiet ?_
 refine zF Tryz.func36 Tryz.ntmps36 (fun w0=>?_)
 refine zW ?_;intros
 exact XX T (i:=0) rfl Zz Zz Zz Zz Zz (fun _ hi=>⟨_,[],hi.forget (List.nil_sublist _),rfl⟩)
theorem flat_get {α:Type} {f:α→List Value} {z:Nat} (hz:∀ x,(f x).length=z):∀ {l:List α} {i j:Nat} {x:α} {u:Value},l[i]?=some x→(f x)[j]?=some u→(l.flatMap f)[i*z+j]?=some u
 | [],i,j,x,u,h,_=>by simp at h
 | y::r,0,j,x,u,h,hu=>by
  simp at h;subst h
  have hj:j<(f y).length:=(Zg hu).1
  rw [List.flatMap_cons,Nat.zero_mul,Nat.zero_add,List.getElem?_append_left hj];exact hu
 | y::r,i+1,j,x,u,h,hu=>by
  have h2:=flat_get hz (l:=r) (i:=i) (j:=j) (x:=x) (u:=u) (by simpa using h) hu
  have e:(i+1)*z+j=z+(i*z+j):=by rw [Nat.succ_mul];omega
  rw [List.flatMap_cons,e,List.getElem?_append_right (by rw [hz];omega),hz,Nat.add_sub_cancel_left];exact h2
theorem Yl4 {α β:Type} {f:α→List β} {a:α} {l:List α} {x:α} (hx:l[k]?=some x):(a::l.take (k+1)).flatMap f=(a::l.take k).flatMap f++f x:=by
 rw [List.take_add_one,hx];simp
variable {fz':FZ} {v:Value}
theorem Yf1 {α β:Type} {L:Lay α} {f:β→List Value} {g:β→α} {e:Nat} {l:List β} {b:HP} (hz:∀ x,(f x).length=L.size) (hO:OwnS e L.size v n (l.flatMap f) b) (hf:∀ p∈b,fz' p.1=some p.2) (hl:l.length=n) (hn:n≤140737488355328) (hr:∀ x∈l,L.rep fz' (g x) (f x)):
 ∃ A c,v=.slice A n c∧Sl L fz' A n c (l.map g):=by
 obtain ⟨A,c,h1,h2,h3,h4⟩:=hO.row hf
 refine ⟨A,c,h1,h4.sl h2 h3 hn (by simpa using hl) fun i d hd=>?_⟩
 rw [List.getElem?_map] at hd
 cases hx:l[i]? with
 | none=>simp [hx] at hd
 | some x=>
  simp [hx] at hd
  subst hd
  exact ⟨f x,hr x (Zm hx),fun j u hu=>flat_get hz hx hu⟩
theorem short_of {l:List Bs} (h:Sl strL fz A n c l) {x:Bs} (hx:x∈l):Short x:=by
 obtain ⟨i,hi⟩:=List.mem_iff_getElem?.1 hx
 rcases h.elem with h0 | ⟨ad,h1,h2⟩
 ·have:=Yez hi;have:=h.len;omega
 ·obtain ⟨v,⟨_,h3⟩,_⟩:=(h2 i x hi).cell rfl
  exact h3
def Yh (s:Bs):Sexpr:=.mk 1 0 0 0 s []
def Yr (s:Bs):List Value:=[.int .i64 1,.int .i64 0,.int .i64 0,.int .i64 0,.string s,.slice none 0 0]
theorem Yv {s:Bs} (hs:Short s):YL.rep fz (Yh s) (Yr s):=
 Yi (x:=Yh s) ⟨by show I64 1;unfold I64;omega,by show I64 0;unfold I64;omega,by show I64 0;unfold I64;omega,by show I64 0;unfold I64;omega,hs,IsSl.nil⟩
set_option maxHeartbeats 1000000 in
theorem Ygp {f0:Bs} {l:List Bs} (hf:Short f0) (h1:Sl strL fz A n c l) (hn:n≤1000000000):
 GFn prog 140 [.string f0,.slice A n c] fz [] (fun v fz' H'=>H'=[]∧∃ B m cc,v=sxV 3 0 ⟨#[]⟩ (.slice B m cc)∧Sl YL fz' B m cc (Yh f0::l.map Yh)):=by
 have l1:=h1.len
 refine zF Tryz.func140 Tryz.ntmps140 (fun w0=>?_)
 refine zW ?_;intros
 rename_i g4
 refine zc (YaJ (s:=f0)) ?_
 refine Yb Zz (Yc T (cs:=Yr f0) Zz Zz Zz Zz Zz Zz Zz Zz (fun gb=>?_))
 refine zc YbU ?_
 refine zW ?_;intros
 rename_i g5
 refine Wp.perm (List.Perm.cons _ (List.Perm.swap _ _ _)) ?_
 refine Yk (fun q σ fz' H'=>∃ (k:Nat) (v:Value) (Hs:HP),k≤n∧q=n - k∧σ=[(14,.int .i64 k),(13,.int .i64 n),(12,.slice A n c),(5,.pointer (some ⟨g5,0,none⟩)),(4,.pointer (some ⟨g4,0,none⟩))]∧fz=fz'∧
  H'=(g5,.cells #[.int .i64 3,.int .i64 0,.int .i64 0,.int .i64 0,.string ⟨#[]⟩,v] 74 (0,0))::(g4,.cells #[.int .i64 0,.int .i64 0,.int .i64 0,.int .i64 0,.string ⟨#[]⟩,.slice none 0 0] 74 (0,0))::Hs∧OwnS 74 6 v (k+1) ((f0::l.take k).flatMap Yr) Hs)
  ⟨0,_,[_],Z0 _,rfl,rfl,rfl,rfl,?_⟩ Zw Zb ?_
 ·exact OwnS.of_block (size:=6) (cs:=Yr f0) (n:=1) rfl Zh
 rintro q σ fz' H' ⟨k,v,Hs,hk,rfl,rfl,rfl,rfl,hO⟩
 refine zW ?_;intros
 refine zC (fun c1=>?_) (fun c1=>?_)
 ·obtain ⟨x,hx⟩:=Yg (l:=l) (k:=k) Zi
  obtain ⟨Av,cv,rfl,_,_⟩:=hO.form
  refine zW ?_;intros
  refine zI h1 hx (fun p hp=>?_)
  refine zH hp (fun ix=>?_)
  refine zW ?_;intros
  refine Wp.drawK (Hq:=[_,_]) T.mixed Zj Zj Zb ?_
  refine zW ?_;intros
  refine Ye ?_
  refine Ye ?_
  refine Ye ?_
  refine zW ?_;intros
  refine Ye ?_
  refine YD ⟨by kernel_rfl,?_⟩
  refine Ch.qk (⟨Le.refl _,Zx⟩) (YB Zz Zz (YaJ (s:=x)) ?_)
  refine Yj (Yc T (cs:=Yr x) Zz Zz Zz Zz Zz Zz Zz Zz (fun gb=>⟨(⟨Le.refl _,Zx⟩),?_⟩))
  refine Yj (YbC T (Hr:=[_,_,_]) Zz Zz Zz Zz Zz Zz Zz (Zr _) hO rfl (Yc9 (.head _)) (by intro u hu;simp [Yr] at hu;rcases hu with rfl | rfl | rfl | rfl | rfl | rfl<;>rfl) (by show _*72≤_;omega) Zi (fun v' Hs' hO'=>⟨(⟨Le.refl _,Zx⟩),?_⟩))
  obtain ⟨Av',cv',rfl,_,_⟩:=hO'.form
  refine Ch.hard0 Zj (YZ T Zz Zz Zz Zz Zz Zz ?_)
  refine Ch.done ?_
  refine zW ?_;intros
  exact YA ⟨k+1,_,Hs',by omega,rfl,rfl,rfl,rfl,by rw [Yl4 (a:=f0) hx];exact hO'⟩ Zi Zw Zb
 ·have hk1:k=n:=by omega
  subst hk1
  obtain ⟨Av,cv,rfl,_,_⟩:=hO.form
  refine zW ?_;intros
  refine Y1 T (i:=1) rfl Zz Zz Zz Zz Zz (fun fz3 hle3 hf3=>?_)
  rw [Zl Zi] at hO
  obtain ⟨A',c',he,hsl⟩:=Yf1 (L:=YL) (g:=Yh) (fun _=>rfl) hO (fun p hp=>hf3 p (by simp [hp])) (by simp [l1]) Zi (fun x hx=>Yv (by
   rcases List.mem_cons.1 hx with rfl | hx
   ·exact hf
   ·exact short_of h1 hx))
  exact ⟨rfl,_,_,_,by rw [he];rfl,hsl⟩
theorem YjS {l:List Bs}:∀ u∈l.flatMap Yr,u.oneCell'=true:=by
 intro u hu
 obtain ⟨x,_,hx⟩:=List.mem_flatMap.1 hu
 simp [Yr] at hx
 rcases hx with rfl | rfl | rfl | rfl<;>rfl
theorem rep_of {α:Type} {L:Lay α} {l:List α} (h:Sl L fz A n c l) {x:α} (hx:x∈l):∃ cs,L.rep fz x cs:=by
 obtain ⟨i,hi⟩:=List.mem_iff_getElem?.1 hx
 rcases h.elem with h0 | ⟨ad,h1,h2⟩
 ·have:=Yez hi;have:=h.len;omega
 ·obtain ⟨cs,hr,_⟩:=h2 i x hi
  exact ⟨cs,hr⟩
def WX (p:Param):List Bs:=[p.name,YbS,p.typ]
theorem Ykp {α β γ:Type} {f:α→List β} {h:β→List γ} {l:List α} {x:α} (hx:l[k]?=some x):((l.take (k+1)).flatMap f).flatMap h=((l.take k).flatMap f).flatMap h++(f x).flatMap h:=by
 rw [List.take_add_one,hx];simp
theorem Ydg:∀ {l:List Param},(l.flatMap WX).length=3*l.length
 | []=>rfl
 | p::r=>by rw [List.flatMap_cons,List.length_append,Ydg];simp [WX];omega
set_option maxHeartbeats 1000000 in
theorem YcG {l:List Param} (h1:Sl paramL fz A n c l) (hn:n≤1000000000):
 GFn prog 44 [.slice A n c] fz [] (fun v fz' H'=>H'=[]∧∃ B cc,v=.slice B (3*n) cc∧Sl YL fz' B (3*n) cc ((l.flatMap WX).map Yh)):=by
 have l1:=h1.len
 refine zF Tryz.func44 Tryz.ntmps44 (fun w0=>?_)
 refine zW ?_;intros
 refine Yk (fun q σ fz' H'=>∃ (k:Nat) (v:Value) (Hs:HP),k≤n∧q=n - k∧σ=[(8,.int .i64 k),(7,.int .i64 n),(6,.slice A n c),(3,v)]∧fz=fz'∧
  H'=Hs∧OwnS 74 6 v (3*k) (((l.take k).flatMap WX).flatMap Yr) Hs)
  ⟨0,_,[],Z0 _,rfl,rfl,rfl,rfl,OwnS.nil _ _⟩ Zw Zb ?_
 rintro q σ fz' H' ⟨k,v,Hs,hk,rfl,rfl,rfl,rfl,hO⟩
 refine zW ?_;intros
 refine zC (fun c1=>?_) (fun c1=>?_)
 ·obtain ⟨x,hx⟩:=Yg (l:=l) (k:=k) Zi
  obtain ⟨Av,cv,rfl,_,_⟩:=hO.form
  refine zW ?_;intros
  refine zI h1 hx (fun p hp=>?_)
  refine zL hp ?_
  intro cs hcs
  obtain ⟨rfl,hR⟩:=YT hcs
  refine zW ?_;intros
  rename_i g5
  refine Wp.drawK (Hq:=[_]) T.mixed Zj Zj Zb ?_
  refine zW ?_;intros
  refine Ye ?_
  refine Ye ?_
  refine zW ?_;intros
  refine Ye ?_
  refine Ye ?_
  refine Ye ?_
  refine Ye ?_
  refine YD ⟨by kernel_rfl,?_⟩
  refine Ch.qk (⟨Le.refl _,Zx⟩) (YB Zz Zz (YaJ (s:=x.name)) ?_)
  refine Ch.qk (⟨Le.refl _,Zx⟩) (YB Zz Zz (YaJ (s:=YbS)) ?_)
  refine Ch.qk (⟨Le.refl _,Zx⟩) (YB Zz Zz (YaJ (s:=x.typ)) ?_)
  refine Yj (Yc T (cs:=(WX x).flatMap Yr) Zz Zz Zz Zz Zz Zz Zz Zz (fun gb=>⟨(⟨Le.refl _,Zx⟩),?_⟩))
  refine Yj (YbC T (Hr:=[_,_]) Zz Zz Zz Zz Zz Zz Zz (Zr _) hO rfl (Yc9 (.head _)) YjS (by show _*72≤_;omega) Zi (fun v' Hs' hO'=>⟨(⟨Le.refl _,Zx⟩),?_⟩))
  refine Ch.qk (⟨Le.refl _,Zx⟩) (Yz Zz ?_)
  refine Ch.done ?_
  refine zW ?_;intros
  exact YA ⟨k+1,_,Hs',by omega,rfl,rfl,rfl,rfl,by rw [Ykp hx];exact hO'⟩ Zi Zw Zb
 ·have hk1:k=n:=by omega
  subst hk1
  obtain ⟨Av,cv,rfl,_,_⟩:=hO.form
  refine zW ?_;intros
  refine YdP rfl rfl (fun fz3 hle3 hf3=>?_)
  rw [Zl Zi] at hO
  obtain ⟨A',c',he,hsl⟩:=Yf1 (L:=YL) (g:=Yh) (fun _=>rfl) hO (fun p hp=>hf3 p hp) (by rw [Ydg,l1]) Zi (fun x hx=>Yv (by
   obtain ⟨p,hp,hx⟩:=List.mem_flatMap.1 hx
   obtain ⟨cs,hr⟩:=rep_of h1 hp
   obtain ⟨_,hR⟩:=YT hr
   simp only [WX,List.mem_cons,List.not_mem_nil,or_false] at hx
   rcases hx with rfl | rfl | rfl
   ·exact hR.name
   ·unfold Short YbS;decide
   ·exact hR.typ))
  exact ⟨rfl,_,_,he,hsl⟩
end Go.Proofs.YtbnpeechpebmeaaGreatDoor
namespace Go.Lx
open Go.RowKit
def Grow {α:Type} (L:Lay α) (e:Nat) (fz:FZ) (v:Value) (n:Nat) (Hs:HP) (l:List α):Prop:=
 ∃ xs:List (α × List Value),xs.map Prod.fst=l∧(∀ p∈xs,L.rep fz p.1 p.2)∧l.length=n∧OwnS e L.size v n (xs.flatMap Prod.snd) Hs
theorem Grow.nil {α:Type} (L:Lay α) (e:Nat) (fz:FZ):Grow L e fz (.slice none 0 0) 0 [] ([]:List α):=⟨[],rfl,by simp,rfl,OwnS.nil e L.size⟩
variable {Hs:HP} {fz fz':FZ} {n:Nat} {v:Value}
theorem Grow.mono {α:Type} {L:Lay α} {e:Nat} (h:Le fz fz') {l:List α} (hg:Grow L e fz v n Hs l):Grow L e fz' v n Hs l:=by
 obtain ⟨xs,h1,h2,h3,h4⟩:=hg
 exact ⟨xs,h1,fun p hp=>L.mono h (h2 p hp),h3,h4⟩
theorem Grow.form {α:Type} {L:Lay α} {e:Nat} {l:List α} (hg:Grow L e fz v n Hs l):∃ A c,v=.slice A n c∧n≤c∧c≤9223372036854775807:=by
 obtain ⟨_,_,_,_,h⟩:=hg
 exact h.form
theorem Grow.len {α:Type} {L:Lay α} {e:Nat} {l:List α} (hg:Grow L e fz v n Hs l):l.length=n:=by
 obtain ⟨_,_,_,h,_⟩:=hg
 exact h
theorem Grow.of {α:Type} {L:Lay α} {e:Nat} {n':Nat} {l l':List α} (hg:Grow L e fz v n Hs l) (hl:l=l') (hn:n=n'):Grow L e fz v n' Hs l':=by
 subst hl hn;exact hg
theorem YeQ {α:Type} {z:Nat}:∀ {l:List (α × List Value)} {i j:Nat} {x:α × List Value} {u:Value},(∀ p∈l,p.2.length=z)→l[i]?=some x→x.2[j]?=some u→(l.flatMap Prod.snd)[i*z+j]?=some u
 | [],i,j,x,u,_,h,_=>by simp at h
 | y::r,0,j,x,u,_,h,hu=>by
  simp at h;subst h
  have hj:j<y.2.length:=(Zg hu).1
  rw [List.flatMap_cons,Nat.zero_mul,Nat.zero_add,List.getElem?_append_left hj];exact hu
 | y::r,i+1,j,x,u,hz,h,hu=>by
  have h2:=YeQ (z:=z) (l:=r) (i:=i) (j:=j) (x:=x) (u:=u) (fun p hp=>hz p (by simp [hp])) (by simpa using h) hu
  have hy:=hz y (by simp)
  have e:(i+1)*z+j=z+(i*z+j):=by rw [Nat.succ_mul];omega
  rw [List.flatMap_cons,e,List.getElem?_append_right (by rw [hy];omega),hy,Nat.add_sub_cancel_left];exact h2
theorem Ya1 {α:Type} {z:Nat}:∀ {l:List (α × List Value)},(∀ p∈l,p.2.length=z)→(l.flatMap Prod.snd).length=l.length*z
 | [],_=>by simp
 | y::r,h=>by
  rw [List.flatMap_cons,List.length_append,Ya1 (fun p hp=>h p (by simp [hp])),h y (by simp),List.length_cons,Nat.succ_mul];omega
theorem Grow.sl {α:Type} {L:Lay α} {e:Nat} {l:List α} (hg:Grow L e fz v n Hs l) (hle:Le fz fz') (hf:∀ p∈Hs,fz' p.1=some p.2) (hn:n≤140737488355328):∃ A c,v=.slice A n c∧Sl L fz' A n c l:=by
 obtain ⟨xs,rfl,h2,h3,h4⟩:=hg
 obtain ⟨A,c,e1,e2,e3,e4⟩:=h4.row hf
 refine ⟨A,c,e1,e4.sl e2 e3 hn h3 fun i d hd=>?_⟩
 rw [List.getElem?_map] at hd
 cases hx:xs[i]? with
 | none=>simp [hx] at hd
 | some x=>
  simp [hx] at hd
  subst hd
  exact ⟨x.2,L.mono hle (h2 x (Zm hx)),fun j u hu=>YeQ (fun p hp=>L.len (h2 p hp)) hx hu⟩
variable {A:Option Addr} {c:Nat}
theorem Sl.pairs {α:Type} {L:Lay α} {l:List α} (h:Sl L fz A n c l):∃ xs:List (α × List Value),xs.map Prod.fst=l∧(∀ p∈xs,L.rep fz p.1 p.2)∧RowS fz A n (xs.flatMap Prod.snd):=by
 rcases h.elem with h0 | ⟨ad,h1,h2⟩
 ·have:=h.len
  have hl:l=[]:=List.eq_nil_of_length_eq_zero Zi
  subst hl
  exact ⟨[],rfl,by simp,.inl h0⟩
 ·have key:∀ (m:Nat),m≤l.length→∃ xs:List (α × List Value),xs.map Prod.fst=l.take m∧(∀ p∈xs,L.rep fz p.1 p.2)∧Row fz ad (xs.flatMap Prod.snd):=by
   intro m
   induction m with
   | zero=>exact fun _=>⟨[],by simp,by simp,fun j v hv=>by simp at hv⟩
   | succ m ih=>
    intro hm
    obtain ⟨xs,e1,e2,e3⟩:=ih Zi
    have hx:l[m]?=some l[m]:=List.getElem?_eq_getElem Zi
    obtain ⟨cs,hr,hrow⟩:=h2 m _ hx
    have hlen:xs.length=m:=by have:=congrArg List.length e1;simp at this;omega
    have hz:∀ p∈xs,p.2.length=L.size:=fun p hp=>L.len (e2 p hp)
    refine ⟨xs++ [(l[m],cs)],by rw [List.map_append,e1,List.take_add_one,hx];rfl,fun p hp=>?_,fun j v hv=>?_⟩
    ·rcases List.mem_append.1 hp with hp | hp
     ·exact e2 p hp
     ·simp at hp;subst hp;exact hr
    ·rw [List.flatMap_append] at hv
     by_cases hj:j<(xs.flatMap Prod.snd).length
     ·rw [List.getElem?_append_left hj] at hv;exact e3 j v hv
     ·rw [List.getElem?_append_right Zi] at hv
      have hl2:=Ya1 hz
      rw [hlen] at hl2
      simp at hv
      have:=hrow (j - (xs.flatMap Prod.snd).length) v (by simpa using hv)
      rw [hl2] at this
      have e:(ad.add (m*L.size)).add (j - m*L.size)=ad.add j:=by
       have hj':m*L.size≤j:=by omega
       unfold Addr.add
       by_cases h5:m*L.size=0
       ·rw [h5];simp
       ·by_cases h6:j - m*L.size=0
        ·have:j=m*L.size:=by omega
         subst this;simp
        ·have h7:j≠0:=by omega
         simp [h5,h6,h7,Nat.add_assoc];omega
      rw [e] at this
      exact this
  obtain ⟨xs,e1,e2,e3⟩:=key l.length (Zs _)
  exact ⟨xs,by rw [e1,List.take_length],e2,.inr ⟨ad,h1,e3⟩⟩
def OneC {α:Type} (L:Lay α):Prop:=∀ fz d cs,L.rep fz d cs→∀ u∈cs,u.oneCell'=true
theorem Yu:OneC YL:=by
 intro fz d cs h u hu
 obtain ⟨vk,rfl,hR⟩:=YG h
 obtain ⟨A,n,c,rfl,_⟩:=hR.kids
 simp at hu
 rcases hu with rfl | rfl | rfl | rfl | rfl | rfl<;>rfl
theorem WN:OneC paramL:=by
 intro fz d cs h u hu
 obtain ⟨rfl,hR⟩:=YT h
 simp at hu
 rcases hu with rfl | rfl<;>rfl
section
variable {P:Program} {cx:Cx} {r:Operand→Option Value} {fz:FZ} {H:HP} {dst:Option Nat} {ty:TypeId} {pos:String} {af:Array Edge} {gd:Option (Nat × Bool)} {α:Type} {L:Lay α}
variable {Hr:HP} {X Y:Ty} {cs:List Value} {g:Nat} {t:TypeId} {x y:Operand}
theorem YlQ (T:Tab P) {e e':TypeId} {m:Nat} {l l2:List α} {ys:List (α × List Value)} {K:Value→FZ→HP→Prop} (hT:T.inf t=some X) (hd:X.desc=.slice e) (hY:T.inf e=some Y) (hz:Y.zero.cells.size=Y.size) (hsz:Nat.blt 0 Y.size=true) (hYL:Y.size=L.size)
 (hx:r x=some v) (hy:r y=some (.slice (some ⟨g,0,none⟩) m c)) (hp:H.Perm (Hr++Hs)) (ho:Grow L e fz v n Hs l) (h1:OneC L)
 (hg:(g,Obj.cells cs.toArray e' (0,0))∈H) (hcs:cs=ys.flatMap Prod.snd) (hl2:ys.map Prod.fst=l2) (hys:∀ p∈ys,L.rep fz p.1 p.2) (hm:l2.length=m)
 (hb:(n+m)*Y.bytes≤140737488355328) (hm2:n+m≤9223372036854775807)
 (h:∀ v' Hs',Grow L e fz v' (n+m) Hs' (l++l2)→K v' fz (Hr++Hs')):
 Does P cx ⟨dst,.call {callee:=.builtin .append,args:=#[x,y],argTypes:=#[t,t]},ty,pos,af,gd⟩ r fz H K:=by
 obtain ⟨xs,h2,h3,h4,h5⟩:=ho
 have hlm:ys.length=m:=by rw [← hl2,List.length_map] at hm;exact hm
 have hzy:∀ p∈ys,p.2.length=L.size:=fun p hp=>L.len (hys p hp)
 subst hcs
 refine YbC T (news:=ys.flatMap Prod.snd) hT hd hY hz hsz hx hy hp (by rw [hYL];exact h5) (by rw [Ya1 hzy,hlm,hYL]) (Yc9 hg) (fun u hu=>?_) hb hm2 (fun v' Hs' hO=>h v' Hs' ⟨xs++ys,by rw [List.map_append,h2,hl2],fun p hp=>?_,by rw [List.length_append,h4,hm],by rw [List.flatMap_append,← hYL];exact hO⟩)
 ·obtain ⟨p,hp,hu⟩:=List.mem_flatMap.1 hu
  exact h1 _ _ _ (hys p hp) u hu
 ·rcases List.mem_append.1 hp with hp | hp
  ·exact h3 p hp
  ·exact hys p hp
theorem YK (T:Tab P) {e e':TypeId} {l:List α} {d:α} {K:Value→FZ→HP→Prop} (hT:T.inf t=some X) (hd:X.desc=.slice e) (hY:T.inf e=some Y) (hz:Y.zero.cells.size=Y.size) (hsz:Nat.blt 0 Y.size=true) (hYL:Y.size=L.size)
 (hx:r x=some v) (hy:r y=some (.slice (some ⟨g,0,none⟩) 1 c)) (hp:H.Perm (Hr++Hs)) (ho:Grow L e fz v n Hs l) (h1:OneC L)
 (hg:(g,Obj.cells cs.toArray e' (0,0))∈H) (hys:L.rep fz d cs)
 (hb:(n+1)*Y.bytes≤140737488355328) (hm2:n+1≤9223372036854775807)
 (h:∀ v' Hs',Grow L e fz v' (n+1) Hs' (l++ [d])→K v' fz (Hr++Hs')):
 Does P cx ⟨dst,.call {callee:=.builtin .append,args:=#[x,y],argTypes:=#[t,t]},ty,pos,af,gd⟩ r fz H K:=
 YlQ T (ys:=[(d,cs)]) hT hd hY hz hsz hYL hx hy hp ho h1 hg (by simp) rfl (by simpa using hys) rfl hb hm2 h
variable {B:Option Addr}
theorem X8 (T:Tab P) {e:TypeId} {m:Nat} {l l2:List α} {K:Value→FZ→HP→Prop} (hT:T.inf t=some X) (hd:X.desc=.slice e) (hY:T.inf e=some Y) (hz:Y.zero.cells.size=Y.size) (hsz:Nat.blt 0 Y.size=true) (hYL:Y.size=L.size)
 (hx:r x=some v) (hy:r y=some (.slice B m c)) (hp:H.Perm (Hr++Hs)) (ho:Grow L e fz v n Hs l) (h1:OneC L) (hs:Sl L fz B m c l2)
 (hb:(n+m)*Y.bytes≤140737488355328) (hm2:n+m≤9223372036854775807)
 (h:∀ v' Hs',Grow L e fz v' (n+m) Hs' (l++l2)→K v' fz (Hr++Hs')):
 Does P cx ⟨dst,.call {callee:=.builtin .append,args:=#[x,y],argTypes:=#[t,t]},ty,pos,af,gd⟩ r fz H K:=by
 obtain ⟨xs,h2,h3,h4,h5⟩:=ho
 obtain ⟨ys,rfl,hys,hrow⟩:=hs.pairs
 have hlm:ys.length=m:=by have:=hs.len;rw [List.length_map] at this;exact this
 have hzy:∀ p∈ys,p.2.length=L.size:=fun p hp=>L.len (hys p hp)
 refine YbC T (news:=ys.flatMap Prod.snd) hT hd hY hz hsz hx hy hp (by rw [hYL];exact h5) (by rw [Ya1 hzy,hlm,hYL]) (src_row hrow) (fun u hu=>?_) hb hm2 (fun v' Hs' hO=>h v' Hs' ⟨xs++ys,by rw [List.map_append,h2],fun p hp=>?_,by rw [List.length_append,h4,hs.len],by rw [List.flatMap_append,← hYL];exact hO⟩)
 ·obtain ⟨p,hp,hu⟩:=List.mem_flatMap.1 hu
  exact h1 _ _ _ (hys p hp) u hu
 ·rcases List.mem_append.1 hp with hp | hp
  ·exact h3 p hp
  ·exact hys p hp
end
variable {cs:List Value} {g:Nat}
theorem Grow.block {α:Type} {L:Lay α} {e:Nat} {m:Nat} {ys:List (α × List Value)} {l:List α} (hcs:cs=ys.flatMap Prod.snd) (hl:ys.map Prod.fst=l) (hys:∀ p∈ys,L.rep fz p.1 p.2) (hm:l.length=m) (hb:m≤9223372036854775807):
 Grow L e fz (.slice (some ⟨g,0,none⟩) m m) m [(g,.cells cs.toArray e (0,0))] l:=by
 subst hcs
 have hlm:ys.length=m:=by rw [← hl,List.length_map] at hm;exact hm
 exact ⟨ys,hl,hys,hm,OwnS.of_block (by rw [Ya1 (fun p hp=>L.len (hys p hp)),hlm]) (by simpa [maxLen] using hb)⟩
theorem Xg {α:Type} {L:Lay α} {e:Nat} {m:Nat} {ys:List (α × List Value)} {l:List α} (hg:fz g=some (.cells cs.toArray e (0,0))) (hcs:cs=ys.flatMap Prod.snd) (hl:ys.map Prod.fst=l) (hys:∀ p∈ys,L.rep fz p.1 p.2) (hm:l.length=m) (hb:m≤140737488355328):
 Sl L fz (some ⟨g,0,none⟩) m m l:=by
 have hG:=Grow.block (L:=L) (e:=e) (g:=g) hcs hl hys hm Zi
 obtain ⟨A,c,he,hs⟩:=hG.sl (Le.refl _) (fun p hp=>by simp at hp;subst hp;exact hg) hb
 injection he with e1 e2 e3
 subst e1 e3
 exact hs
section
variable {P:Program} {cx:Cx} {r:Operand→Option Value} {fz:FZ} {H:HP} {V:Value→Prop} {dst:Option Nat} {ty:TypeId} {pos:String} {af:Array Edge} {gd:Option (Nat × Bool)}
variable {t:TypeId} {x y:Operand}
theorem Yaz {t':TypeId} {u v:Bs} (hx:r x=some (.string u)) (hy:r y=some (.string v)) (h:u=v) (k:V (.bool true)):DoesQ P cx ⟨dst,.binOp .eql t x y t',ty,pos,af,gd⟩ r fz H V:=
 Yde hx hy (fun _=>k) (fun h0=>absurd h h0)
theorem YaA {t':TypeId} {u v:Bs} (hx:r x=some (.string u)) (hy:r y=some (.string v)) (h:¬u=v) (k:V (.bool false)):DoesQ P cx ⟨dst,.binOp .eql t x y t',ty,pos,af,gd⟩ r fz H V:=
 Yde hx hy (fun h0=>absurd h0 h) (fun _=>k)
theorem Yay {t':TypeId} {u v:Bs} (hx:r x=some (.string u)) (hy:r y=some (.string v)) (h:¬u=v) (k:V (.bool true)):DoesQ P cx ⟨dst,.binOp .neq t x y t',ty,pos,af,gd⟩ r fz H V:=
 Yfv hx hy (fun _=>k) (fun h0=>absurd h0 h)
theorem Yfw {t':TypeId} {i:IntKind} {u v:Int} (hx:r x=some (.int i u)) (hy:r y=some (.int i v)) (h:u=v) (k:V (.bool true)):DoesQ P cx ⟨dst,.binOp .eql t x y t',ty,pos,af,gd⟩ r fz H V:=
 Yln hx hy (fun _=>k) (fun h0=>absurd h h0)
theorem Yfx {t':TypeId} {i:IntKind} {u v:Int} (hx:r x=some (.int i u)) (hy:r y=some (.int i v)) (h:¬u=v) (k:V (.bool false)):DoesQ P cx ⟨dst,.binOp .eql t x y t',ty,pos,af,gd⟩ r fz H V:=
 Yln hx hy (fun h0=>absurd h0 h) (fun _=>k)
theorem Wr {p:Addr} (hx:r x=some (.pointer (some p))) (h:V (.pointer (some p))):DoesQ P cx ⟨dst,.nilCheck x,ty,pos,af,gd⟩ r fz H V:=
 YN (fun ρ w hr=>by simp [execOp,hr _ _ hx]) h
end
theorem Xb {α:Type} {l l':List α} (is:List Nat) (h:is.isPerm (List.range l.length)=true) (e:is.filterMap (fun i=>l[i]?)=l'):l'.Perm l:=by
 have h1:=(List.isPerm_iff.1 h).filterMap (fun i=>l[i]?)
 rw [e] at h1
 have h2:(List.range l.length).filterMap (fun i=>l[i]?)=l:=by
  clear h1 h e
  induction l with
  | nil=>rfl
  | cons a r ih=>
   rw [List.length_cons,List.range_succ_eq_map,List.filterMap_cons]
   simp only [List.getElem?_cons_zero,List.filterMap_map]
   congr 1
 rw [h2] at h1
 exact h1
section
variable {P:Program} {cx:Cx} {n:Nat} {σ:Env} {fz:FZ} {H:HP} {Q:QQ}
def midQ (I:Env→FZ→HP→Prop) (Q:QQ):QQ
 | .normal,σ,fz,H=>(∃ σ' H1 H',Sub σ' σ∧H1.Perm H∧H'.Sublist H1∧I σ' fz H')∨(∃ σ' H' H2,Sub σ' σ∧(H'++H2).Perm H∧∀ fz',Le fz fz'→(∀ p∈H2,fz' p.1=some p.2)→I σ' fz' H')
 | e,σ,fz,H=>Q e σ fz H
theorem Wp.mid {c y:Code} (I:Env→FZ→HP→Prop) (hx:Wp P cx n c σ fz H (midQ I Q)) (hy:∀ σ fz H,I σ fz H→Wp P cx n y σ fz H Q):Wp P cx n c σ fz H (andThen P cx n y Q):=
 hx.mono fun e σ fz H h=>by
  cases e with
  | normal=>
   rcases h with ⟨σ',H1,H',h1,h2,h3,h4⟩ | ⟨σ',H',H2,h1,h2,h3⟩
   ·exact Yck (Wp.perm h2 (Wp.weaken h1 h3 (hy _ _ _ h4)))
   ·exact Yck (Wp.freezeAll h2.symm (fun fz' h5 h6=>Wp.weaken h1 (List.Sublist.refl _) (hy _ _ _ (h3 fz' h5 h6))))
  | _=>unfold andThen;exact h
theorem midN {I:Env→FZ→HP→Prop} {σ':Env} {H':HP} (hI:I σ' fz H') (hs:Sub σ' σ) (hh:H'.Sublist H):midQ I Q .normal σ fz H:=.inl ⟨σ',H,H',hs,Zr _,hh,hI⟩
theorem midP {I:Env→FZ→HP→Prop} {σ':Env} {H1 H':HP} (hp:H1.Perm H) (hI:I σ' fz H') (hs:Sub σ' σ) (hh:H'.Sublist H1):midQ I Q .normal σ fz H:=.inl ⟨σ',H1,H',hs,hp,hh,hI⟩
theorem midF {I:Env→FZ→HP→Prop} {σ':Env} {H' H2:HP} (hp:(H'++H2).Perm H) (hI:∀ fz',Le fz fz'→(∀ p∈H2,fz' p.1=some p.2)→I σ' fz' H') (hs:Sub σ' σ):midQ I Q .normal σ fz H:=.inr ⟨σ',H',H2,hs,hp,hI⟩
theorem midR {I:Env→FZ→HP→Prop} (h:Q .ret σ fz H):midQ I Q .ret σ fz H:=h
end
section
variable {P:Program} {cx:Cx} {n:Nat} {σ:Env} {fz:FZ} {H H' H2:HP} {fn:Func} {R:Value→FZ→HP→Prop}
variable {X:Ty} {i:Nat} {t:TypeId}
theorem WJ (T:Tab P) {p:Nat} {t':TypeId} {f:Nat × Nat} (hres:fn.results=#[.cell p t]) (hT:T.inf t=some X) (hd:XL X.desc=true) (hv:lk σ p=some (.pointer (some ⟨g,0,none⟩)))
 (hi:H[i]?=some (g,.cells cs.toArray t' f)) (hsz:X.size=cs.length) (hH:H'.Sublist H) (h:R (.agg cs.toArray) fz H'):retQ P cx n fn R .ret σ fz H:=XX T hres hT hd hv hi hsz (Yg9 hH h)
theorem YcC (T:Tab P) {p:Nat} {t':TypeId} {f:Nat × Nat} (hres:fn.results=#[.cell p t]) (hT:T.inf t=some X) (hd:XL X.desc=true) (hv:lk σ p=some (.pointer (some ⟨g,0,none⟩)))
 (hi:H[i]?=some (g,.cells cs.toArray t' f)) (hsz:X.size=cs.length) (hp:(H'++H2).Perm H) (h:∀ fz',Le fz fz'→(∀ p∈H2,fz' p.1=some p.2)→R (.agg cs.toArray) fz' H'):retQ P cx n fn R .ret σ fz H:=XX T hres hT hd hv hi hsz (rOwn hp h)
theorem Yba (hres:fn.results=#[]) (hH:H'.Sublist H) (h:R (.tuple #[]) fz H'):retQ P cx n fn R .normal σ fz H:=by
 unfold retQ
 exact ⟨.tuple #[],fun a w hs hw=>by simp [results,hres],Yg9 hH h⟩
end
end Go.Lx
