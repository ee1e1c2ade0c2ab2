/- The texts PCG, PCH, PCI, RN, RO, RP, PWalkM, laid together. Conditions: none. -/
import Derived.Test.YtfjopfinkdhmaaaGreatDoorRYK
set_option linter.all false
noncomputable section
set_option maxRecDepth 20000
namespace Go.Lx
variable {A:Option Addr} {c n:Nat}
theorem Sl.reps {α:Type} {L:Lay α} {fz:FZ} {l:List α} (h:Sl L fz A n c l) {x:α} (hx:x∈l):∃ cs,L.rep fz x cs:=by
 obtain ⟨i,hi⟩:=List.getElem?_of_mem hx
 have h1:=(Zg hi).1
 have h2:=h.len
 rcases h.elem with h0 | ⟨ad,_,h3⟩
 ·omega
 ·obtain ⟨cs,h4,_⟩:=h3 i x hi
  exact ⟨cs,h4⟩
end Go.Lx
namespace Go.Proofs.YtfjopfinkdhmaaaGreatDoor
open Go.Lx Go.RowKit
attribute [local instance 10] Classical.propDecidable
open Go.Proofs.Tryz (prog)
variable {A:Option Addr} {c n:Nat}
theorem Ycb {fz:FZ} {l:List Param} (h:Sl paramL fz A n c l):∀ p∈l,Short p.name∧Short p.typ:=fun p hp=>by
 obtain ⟨cs,hr⟩:=h.reps hp
 obtain ⟨_,hR⟩:=YV hr
 exact ⟨hR.name,hR.typ⟩
def kQm:Bs:=⟨#[63]⟩
theorem Yhg {fz:FZ} {s p:Bs} (hs:Short s) (hp:Short p):QFn prog 198 [.string s,.string p] fz (.bool (decide (PreP s p))):=by
 refine GFn.quiet ?_
 refine zF Tryz.func198 Tryz.ntmps198 (fun w0=>?_)
 refine zV ?_;intros
 refine zc (YcL hs hp) ?_
 refine zV ?_;intros
 exact zR (h:=rfl)
def Yfs:List Param→Bs→Option Bs
 | [],_=>none
 | p::r,t=>match Yfs r t with
  | some u=>some u
  | none=>if p.name=t then some p.typ else none
theorem YdD:∀ {l:List Param} {t:Bs},(∀ p∈l,p.name≠t)→Yfs l t=none
 | [],_,_=>rfl
 | p::r,t,h=>by rw [Yfs,YdD (fun q hq=>h q (by simp [hq]))];exact if_neg (h p (by simp))
theorem YjM:∀ {l:List Param} {j:Nat} {x:Param} {t:Bs},l[j]?=some x→x.name=t→(∀ i,j<i→∀ y,l[i]?=some y→y.name≠t)→Yfs l t=some x.typ
 | [],j,x,t,h,_,_=>by simp at h
 | p::r,0,x,t,h,hx,hh=>by
  simp at h;subst h
  rw [Yfs,YdD (fun q hq=>by obtain ⟨i,hi⟩:=List.getElem?_of_mem hq;exact hh (i+1) Zi q (by simpa using hi))]
  exact if_pos hx
 | p::r,j+1,x,t,h,hx,hh=>by
  rw [Yfs,YjM (l:=r) (j:=j) (by simpa using h) hx (fun i hi y hy=>hh (i+1) Zi y (by simpa using hy))]
theorem YhD:∀ {l:List Param} {t u:Bs},Yfs l t=some u→∃ p∈l,p.typ=u
 | [],_,_,h=>by cases h
 | p::r,t,u,h=>by
  rw [Yfs] at h
  cases hr:Yfs r t with
  | some w=>
   rw [hr] at h
   injection h with h
   subst h
   obtain ⟨q,hq,e⟩:=YhD hr
   exact ⟨q,by simp [hq],e⟩
  | none=>
   rw [hr] at h
   split at h
   ·rename_i h0;cases h0
   ·split at h
    ·injection h with h;exact ⟨p,by simp,h⟩
    ·cases h
theorem YkX:∀ {l:List Param} {t u:Bs},tyF l t=some u→∃ p∈l,p.typ=u
 | [],_,_,h=>by cases h
 | p::r,t,u,h=>by
  rw [tyF] at h
  split at h
  ·injection h with h;exact ⟨p,by simp,h⟩
  ·obtain ⟨q,hq,e⟩:=YkX h
   exact ⟨q,by simp [hq],e⟩
def Ydg (all vars:List Param) (t:Bs):Option Bs:=if PreP t kQm then Yfs vars t else tyF all t
def ObjR (fz:FZ) (vo:Value) (all:List Param):Prop:=∃ g m,vo=.map (some g)∧fz g=some (mapS m)∧∀ x,Lx.valS m x=(tyF all x).map Value.string
variable {all:List Param} {fz':FZ}
theorem ObjR.mono {fz:FZ} {vo:Value} (h:ObjR fz vo all) (hle:Le fz fz'):ObjR fz' vo all:=by
 obtain ⟨g,m,h1,h2,h3⟩:=h
 exact ⟨g,m,h1,hle _ _ h2,h3⟩
def Yl9 (o:Option Bs):Value:=.tuple #[.string (o.getD ⟨#[]⟩),errV (if o.isSome=true then 0 else 8)]
variable {d:Domain} {p:Problem} {v vp:Value} {vars:List Param}
theorem find_q {fz:FZ} {vf vg vo:Value} {t:Bs} (h:CkR fz v d p all vf vp vg vo) (ho:ObjR fz vo all) (h1:Sl paramL fz A n c vars) (ht:Short t):
 QFn prog 165 [v,.slice A n c,.string t] fz (Yl9 (Ydg all vars t)):=by
 obtain ⟨gc,v1,v2,v3,v4,v5,v6,u1,u2,u3,u4,u5,u6,u7,Aa,na,ca,rfl,hc,hD,hP,hall⟩:=h
 obtain ⟨go,mo,rfl,hgo,hmo⟩:=ho
 have l1:=h1.len
 have s1:=h1.short
 refine GFn.quiet ?_
 refine zF Tryz.func165 Tryz.ntmps165 (fun w0=>?_)
 refine zV ?_;intros
 ((refine zG ?_);refine Wf Zz Zz (Yhg (p:=kQm) ht (by unfold Short kQm;decide)) (fun f1=>?_) (fun f1=>?_))
 ·have hp:=Zt f1
  refine zV ?_;intros
  refine Yl (fun q σ fz' H'=>∃ (k:Nat) (z:Int),k≤n∧q=n - k∧z=(n:Int) - 1 - k∧σ=[(10,.int .i64 z),(1,.slice A n c),(2,.string t)]∧fz=fz'∧H'=[]∧(∀ i,n - 1 - k<i→i<n→∀ x,vars[i]?=some x→x.name≠t)∧(k=n→∀ x∈vars,x.name≠t)) ⟨0,(n:Int) - 1,Z0 _,rfl,by omega,rfl,rfl,rfl,fun i hi h2=>absurd hi Zi,fun h0 x hx=>by rw [List.eq_nil_of_length_eq_zero (l:=vars) Zi] at hx;cases hx⟩ Zw Zb ?_
  rintro q σ fz' H' ⟨k,z,hk,rfl,hzk,rfl,rfl,rfl,hh,hz⟩
  refine zV ?_;intros
  refine zC (fun c1=>?_) (fun c1=>?_)
  ·obtain ⟨x,hx⟩:=Yn (l:=vars) (k:=n - 1 - k) Zi
   refine zV ?_;intros
   refine zI h1 hx (fun p1 hp1=>?_)
   refine zV ?_;intros
   refine zH hp1.Param_name (fun hn1=>?_)
   refine zV ?_;intros
   refine zC (fun c2=>?_) (fun c2=>?_)
   ·have e1:Ydg all vars t=some x.typ:=by
     rw [Ydg,if_pos hp]
     exact YjM hx c2 (fun i hi y hy=>hh i hi (by have:=(Zg hy).1;omega) y hy)
    refine zV ?_;intros
    refine zI h1 hx (fun p2 hp2=>?_)
    refine zV ?_;intros
    refine zH hp2.Param_typ (fun hn2=>?_)
    refine zV ?_;intros
    exact ret2 rfl rfl rfl Zb (by rw [e1];rfl)
   ·refine zV ?_;intros
    exact Yz ⟨k+1,z - 1,by omega,rfl,by omega,rfl,rfl,rfl,fun i hi h2 y hy=>by
     by_cases he:i=n - 1 - k
     ·subst he;rw [hx] at hy;injection hy with hy;subst hy;exact c2
     ·exact hh i Zi h2 y hy,fun h0 y hy=>by
     obtain ⟨i,hi⟩:=List.getElem?_of_mem hy
     have hin:=(Zg hi).1
     by_cases he:i=n - 1 - k
     ·subst he;rw [hx] at hi;injection hi with hi;subst hi;exact c2
     ·exact hh i Zi Zi y hi⟩ Zi Zw Zb
  ·have e1:Ydg all vars t=none:=by
    rw [Ydg,if_pos hp]
    exact YdD (hz Zi)
   refine zV ?_;intros
   exact ret2 rfl rfl rfl Zb (by rw [e1];rfl)
 ·have hp:=Zf f1
  have e0:Ydg all vars t=tyF all t:=if_neg hp
  refine zV ?_;intros
  refine zG ?_;refine Wq (v:=.string ((tyF all t).getD ⟨#[]⟩)) (b:=(tyF all t).isSome) T Zz Zz Zz Zz Zz Zz Zz hgo (by rw [YiT,hmo];cases tyF all t<;>rfl) (by rw [YeR,hmo];cases tyF all t<;>rfl) ?_
  cases hr:tyF all t with
  | some u=>
   refine zV ?_;intros
   exact ret2 rfl rfl rfl Zb (by rw [e0,hr];rfl)
  | none=>
   refine zV ?_;intros
   exact ret2 rfl rfl rfl Zb (by rw [e0,hr];rfl)
def fstP (l:List Predicate) (x:Bs):Option Predicate:=l.find? fun p=>decide (p.name=x)
def fstF (l:List Function) (x:Bs):Option Function:=l.find? fun p=>decide (p.name=x)
def PrdR (fz:FZ) (vp:Value) (l:List Predicate):Prop:=∃ g m,vp=.map (some g)∧fz g=some (mapS m)∧∀ x,(fstP l x=none→Lx.valS m x=none)∧∀ p,fstP l x=some p→∃ A n c,Lx.valS m x=some (.slice A n c)∧Sl paramL fz A n c p.params
def FunR (fz:FZ) (vg:Value) (l:List Function):Prop:=∃ g m,vg=.map (some g)∧fz g=some (mapS m)∧∀ x,(fstF l x=none→Lx.valS m x=none)∧∀ f,fstF l x=some f→∃ A n c,Lx.valS m x=some (.agg #[.string f.name,.slice A n c,.int .i64 f.lo,.int .i64 f.hi])∧Sl paramL fz A n c f.params
theorem PrdR.mono {fz:FZ} {l:List Predicate} (h:PrdR fz v l) (hle:Le fz fz'):PrdR fz' v l:=by
 obtain ⟨g,m,h1,h2,h3⟩:=h
 exact ⟨g,m,h1,hle _ _ h2,fun x=>⟨(h3 x).1,fun p hp=>by obtain ⟨A,n,c,h4,h5⟩:=(h3 x).2 p hp;exact ⟨A,n,c,h4,h5.mono hle⟩⟩⟩
theorem FunR.mono {fz:FZ} {l:List Function} (h:FunR fz v l) (hle:Le fz fz'):FunR fz' v l:=by
 obtain ⟨g,m,h1,h2,h3⟩:=h
 exact ⟨g,m,h1,hle _ _ h2,fun x=>⟨(h3 x).1,fun p hp=>by obtain ⟨A,n,c,h4,h5⟩:=(h3 x).2 p hp;exact ⟨A,n,c,h4,h5.mono hle⟩⟩⟩
structure CkG (fz:FZ) (v:Value) (d:Domain) (p:Problem) (all:List Param):Prop where
 ex:∃ vf vp vg vo,CkR fz v d p all vf vp vg vo∧ForR fz vf d.types∧PrdR fz vp d.predicates∧FunR fz vg d.functions∧ObjR fz vo all
 wf:WFT d.types
theorem CkG.mono {fz:FZ} (h:CkG fz v d p all) (hle:Le fz fz'):CkG fz' v d p all:=by
 obtain ⟨⟨vf,vp,vg,vo,h1,h2,h3,h4,h5⟩,hw⟩:=h
 exact ⟨⟨vf,vp,vg,vo,h1.mono hle,h2.mono hle,h3.mono hle,h4.mono hle,h5.mono hle⟩,hw⟩
def Ybl (d:Domain) (all vars:List Param) (z:Bs × Param):Int:=match Ydg all vars z.1 with
 | none=>8
 | some t=>if IsT d.types t z.2.typ then 0 else 9
def Ykz (d:Domain) (all vars:List Param) (args:List Bs) (ps:List Param):Int:=
 if args.length≠ps.length then 11 else (Xr (Ybl d all vars) ((args.zip ps).map (fun z=>((⟨#[]⟩:Bs),z))++ [])).2
variable {B:Option Addr}
set_option maxHeartbeats 1000000 in
theorem Yfj {fz:FZ} {ps:List Param} {args:List Bs} {C:Option Addr} {n2 c2 n3 c3:Nat} (h:CkG fz v d p all) (h1:Sl paramL fz A n c vars) (h2:Sl strL fz B n2 c2 args) (h3:Sl paramL fz C n3 c3 ps):
 QFn prog 169 [v,.slice A n c,.slice B n2 c2,.slice C n3 c3] fz (errV (Ykz d all vars args ps)):=by
 obtain ⟨⟨vf,vp,vg,vo,hck,hF,hPr,hFu,hO⟩,hw⟩:=h
 have hck0:=hck
 obtain ⟨gc,v1,v2,v3,v4,v5,v6,u1,u2,u3,u4,u5,u6,u7,Aa,na,ca,rfl,hc,hD,hP,hall⟩:=hck
 have hF0:=hF
 obtain ⟨gf,gm,rfl,hf1,hf2⟩:=hF
 have l2:=h2.len
 have l3:=h3.len
 have s2:=h2.short
 have s3:=h3.short
 refine GFn.quiet ?_
 refine zF Tryz.func169 Tryz.ntmps169 (fun w0=>?_)
 refine zV ?_;intros
 refine zC (fun e0=>?_) (fun e0=>?_)
 ·refine zV ?_;intros
  exact zR (h:=by rw [Ykz,if_pos Zi];rfl)
 ·have e1:Ykz d all vars args ps=(Xr (Ybl d all vars) ((args.zip ps).map (fun z=>((⟨#[]⟩:Bs),z))++ [])).2:=if_neg Zi
  refine zV ?_;intros
  refine Yl (fun q σ fz' H'=>∃ k:Nat,k≤n2∧q=n2 - k∧σ=[(21,.int .i64 k),(20,.int .i64 n2),(19,.slice B n2 c2),(0,.pointer (some ⟨gc,0,none⟩)),(1,.slice A n c),(3,.slice C n3 c3)]∧fz=fz'∧H'=[]∧(∀ i,i<k→∀ z,(args.zip ps)[i]?=some z→Ybl d all vars z=0)) ⟨0,Z0 _,rfl,rfl,rfl,rfl,fun i hi=>absurd hi Zi⟩ Zw Zb ?_
  rintro q σ fz' H' ⟨k,hk,rfl,rfl,rfl,rfl,hh⟩
  refine zV ?_;intros
  refine zC (fun c1=>?_) (fun c1=>?_)
  ·obtain ⟨x,hx⟩:=Yn (l:=args) (k:=k) Zi
   obtain ⟨y,hy⟩:=Yn (l:=ps) (k:=k) Zi
   have hz:(args.zip ps)[k]?=some (x,y):=by rw [List.getElem?_zip_eq_some];exact ⟨hx,hy⟩
   refine zV ?_;intros
   refine zI h2 hx (fun p1 hp1=>?_)
   refine zH hp1 (fun hxs=>?_)
   refine zV ?_;intros
   refine zc (find_q hck0 hO h1 hxs) ?_
   cases hr:Ydg all vars x with
   | none=>
    have e2:Ybl d all vars (x,y)=8:=by rw [Ybl,hr]
    rw [show Yl9 none=.tuple #[.string ⟨#[]⟩,.iface 65 (.int .i64 8)] from rfl]
    refine zV ?_;intros
    exact zR (h:=by rw [e1,Ws (f:=fun _=>(⟨#[]⟩:Bs)) (g:=fun z=>z) hz hh (by rw [e2];decide),e2];rfl)
   | some t=>
    have ht:Short t:=by
     rw [Ydg] at hr
     split at hr
     ·obtain ⟨q,hq,rfl⟩:=YhD hr;exact (Ycb h1 q hq).2
     ·obtain ⟨q,hq,rfl⟩:=YkX hr;exact (Ycb hall q hq).2
    rw [show Yl9 (some t)=.tuple #[.string t,.nilIface] from rfl]
    refine zV ?_;intros
    refine zI h3 hy (fun p2 hp2=>?_)
    refine zV ?_;intros
    refine zH hp2.Param_typ (fun hts=>?_)
    refine zV ?_;intros
    refine zb (is_q hF0 hw ht) (fun f1=>?_) (fun f1=>?_)
    ·have e2:Ybl d all vars (x,y)=0:=by rw [Ybl,hr];exact if_pos (Zt f1)
     refine zV ?_;intros
     exact Yz ⟨k+1,by omega,rfl,rfl,rfl,rfl,YL hh hz e2⟩ Zi Zw Zb
    ·have e2:Ybl d all vars (x,y)=9:=by rw [Ybl,hr];exact if_neg (Zf f1)
     refine zV ?_;intros
     exact zR (h:=by rw [e1,Ws (f:=fun _=>(⟨#[]⟩:Bs)) (g:=fun z=>z) hz hh (by rw [e2];decide),e2];rfl)
  ·have hA:∀ z∈args.zip ps,Ybl d all vars z=0:=fun z hz=>by
    obtain ⟨i,hi⟩:=List.getElem?_of_mem hz
    have:=(Zg hi).1
    rw [List.length_zip] at this
    exact hh i Zi z hi
   refine zV ?_;intros
   exact zR (h:=by rw [e1,Y4 (f:=fun _=>(⟨#[]⟩:Bs)) (g:=fun z=>z) hA];rfl)
def atomM (d:Domain) (all vars:List Param) (name:Bs) (args:List Bs):Int:=match fstP d.predicates name with
 | none=>8
 | some p=>Ykz d all vars args p.params
def fluM (d:Domain) (all vars:List Param) (name:Bs) (args:List Bs):Int:=match fstF d.functions name with
 | none=>8
 | some f=>Ykz d all vars args f.params
theorem Yi1 {fz:FZ} {name:Bs} {args:List Bs} {n2 c2:Nat} (h:CkG fz v d p all) (h1:Sl paramL fz A n c vars) (h2:Sl strL fz B n2 c2 args):
 QFn prog 127 [v,.slice A n c,.string name,.slice B n2 c2] fz (errV (atomM d all vars name args)):=by
 have h0:=h
 obtain ⟨⟨vf,vp,vg,vo,hck,hF,hPr,hFu,hO⟩,hw⟩:=h
 obtain ⟨gc,v1,v2,v3,v4,v5,v6,u1,u2,u3,u4,u5,u6,u7,Aa,na,ca,rfl,hc,hD,hP,hall⟩:=hck
 obtain ⟨gp,mp,rfl,hgp,hmp⟩:=hPr
 refine GFn.quiet ?_
 refine zF Tryz.func127 Tryz.ntmps127 (fun w0=>?_)
 refine zV ?_;intros
 cases hr:fstP d.predicates name with
 | none=>
  have hv:=(hmp name).1 hr
  refine zG ?_;refine Wq (v:=.slice none 0 0) (b:=false) T Zz Zz Zz Zz Zz Zz Zz hgp (by rw [YiT,hv];rfl) (by rw [YeR,hv];rfl) ?_
  refine zV ?_;intros
  exact zR (h:=by rw [atomM,hr];rfl)
 | some x=>
  obtain ⟨C,n3,c3,hv,h3⟩:=(hmp name).2 x hr
  refine zG ?_;refine Wq (v:=.slice C n3 c3) (b:=true) T Zz Zz Zz Zz Zz Zz Zz hgp (by rw [YiT,hv];rfl) (by rw [YeR,hv];rfl) ?_
  refine zV ?_;intros
  refine zc (Yfj h0 h1 h2 h3) ?_
  refine zV ?_;intros
  exact zR (h:=by rw [atomM,hr])
theorem Yfi {fz:FZ} {name:Bs} {args:List Bs} {n2 c2:Nat} (h:CkG fz v d p all) (h1:Sl paramL fz A n c vars) (h2:Sl strL fz B n2 c2 args):
 QFn prog 128 [v,.slice A n c,.string name,.slice B n2 c2] fz (errV (fluM d all vars name args)):=by
 have h0:=h
 obtain ⟨⟨vf,vp,vg,vo,hck,hF,hPr,hFu,hO⟩,hw⟩:=h
 obtain ⟨gc,v1,v2,v3,v4,v5,v6,u1,u2,u3,u4,u5,u6,u7,Aa,na,ca,rfl,hc,hD,hP,hall⟩:=hck
 obtain ⟨gp,mp,rfl,hgp,hmp⟩:=hFu
 refine GFn.quiet ?_
 refine zF Tryz.func128 Tryz.ntmps128 (fun w0=>?_)
 refine zV ?_;intros
 cases hr:fstF d.functions name with
 | none=>
  have hv:=(hmp name).1 hr
  refine zG ?_;refine Wq (v:=.agg #[.string ⟨#[]⟩,.slice none 0 0,.int .i64 0,.int .i64 0]) (b:=false) T Zz Zz Zz Zz Zz Zz Zz hgp (by rw [YiT,hv];rfl) (by rw [YeR,hv];rfl) ?_
  refine zV ?_;intros
  exact zR (h:=by rw [fluM,hr];rfl)
 | some x=>
  obtain ⟨C,n3,c3,hv,h3⟩:=(hmp name).2 x hr
  refine zG ?_;refine Wq (v:=.agg #[.string x.name,.slice C n3 c3,.int .i64 x.lo,.int .i64 x.hi]) (b:=true) T Zz Zz Zz Zz Zz Zz Zz hgp (by rw [YiT,hv];rfl) (by rw [YeR,hv];rfl) ?_
  refine zV ?_;intros
  refine zc (Yfj h0 h1 h2 h3) ?_
  refine zV ?_;intros
  exact zR (h:=by rw [fluM,hr])
mutual
def exprM (d:Domain) (all vars:List Param):Lx.Expr→Int
 | .mk op name _ args kids=>if op=kFluent then fluM d all vars name args else exprML d all vars kids
def exprML (d:Domain) (all vars:List Param):List Lx.Expr→Int
 | []=>0
 | k::r=>if exprM d all vars k=0 then exprML d all vars r else exprM d all vars k
end
theorem YjY (e:Lx.Expr):exprM d all vars e=if e.op=kFluent then fluM d all vars e.name e.args else exprML d all vars e.kids:=by cases e;rw [exprM];rfl
theorem Ye5 {d:Domain} {all vars:List Param}:∀ {l:List Lx.Expr} {k:Nat} {x:Lx.Expr},l[k]?=some x→(∀ i,i<k→∀ y,l[i]?=some y→exprM d all vars y=0)→exprM d all vars x≠0→exprML d all vars l=exprM d all vars x
 | [],k,x,h,_,_=>by simp at h
 | y::l,0,x,h,_,hx=>by simp at h;subst h;rw [exprML,if_neg hx]
 | y::l,k+1,x,h,hh,hx=>by
  rw [exprML,if_pos (hh 0 Zi y rfl)]
  exact Ye5 (k:=k) (by simpa using h) (fun i hi z hz=>hh (i+1) Zi z (by simpa using hz)) hx
theorem YcO {d:Domain} {all vars:List Param}:∀ {l:List Lx.Expr},(∀ y∈l,exprM d all vars y=0)→exprML d all vars l=0
 | [],_=>by rw [exprML]
 | y::l,h=>by rw [exprML,if_pos (h y (by simp))];exact YcO (fun z hz=>h z (by simp [hz]))
set_option maxHeartbeats 1000000 in
theorem Ymx:∀ (s:Nat) {fz:FZ} {v:Value} {d:Domain} {p:Problem} {all vars:List Param} {e:Lx.Expr} {va vk:Value} {A:Option Addr} {n c:Nat},SizeOf.sizeOf e≤s→CkG fz v d p all→Sl paramL fz A n c vars→ExprR fz e va vk→
 QFn prog 166 [v,.slice A n c,.agg #[.string e.op,.string e.name,.int .i64 e.n,va,vk]] fz (errV (exprM d all vars e))
 | 0,_,_,_,_,_,_,e,_,_,_,_,_,hse,_,_,_=>by cases e;simp at hse
 | s+1,fz,v,d,p,all,vars,e,va,vk,A,n,c,hse,h,h1,hR=>by
  have h0:=h
  obtain ⟨⟨vf,vp,vg,vo,hck,hF,hPr,hFu,hO⟩,hw⟩:=h
  obtain ⟨gc,v1,v2,v3,v4,v5,v6,u1,u2,u3,u4,u5,u6,u7,Aa,na,ca,rfl,hc,hD,hP,hall⟩:=hck
  obtain ⟨B,n2,c2,rfl,ia⟩:=hR.args
  obtain ⟨C,n3,c3,rfl,ik⟩:=hR.kids
  have l3:=ik.len
  have s3:=ik.short
  refine GFn.quiet ?_
  refine zF Tryz.func166 Tryz.ntmps166 (fun w0=>?_)
  refine Yk (Yr (Ya Zz (Xc _ Zz Zz (fun g0=>?_))))
  refine zV ?_;intros
  refine zC (fun x1=>?_) (fun x1=>?_)
  ·refine zV ?_;intros
   refine zc (Yfi h0 h1 ia) ?_
   refine zV ?_;intros
   exact zR (h:=by rw [YjY,if_pos (show e.op=kFluent from x1)])
  ·have e1:exprM d all vars e=exprML d all vars e.kids:=by rw [YjY,if_neg (show ¬e.op=kFluent from x1)]
   refine zV ?_;intros
   refine Yl (fun q σ fz' H'=>∃ k:Nat,k≤n3∧q=n3 - k∧σ=[(23,.int .i64 k),(22,.int .i64 n3),(21,.slice C n3 c3),(0,.pointer (some ⟨gc,0,none⟩)),(1,.slice A n c)]∧fz=fz'∧H'=[]∧(∀ i,i<k→∀ y,e.kids[i]?=some y→exprM d all vars y=0)) ⟨0,Z0 _,rfl,rfl,rfl,rfl,fun i hi=>absurd hi Zi⟩ Zw Zb ?_
   rintro q σ fz' H' ⟨k,hk,rfl,rfl,rfl,rfl,hh⟩
   refine zV ?_;intros
   refine zC (fun c1=>?_) (fun c1=>?_)
   ·obtain ⟨x,hx⟩:=Yn (l:=e.kids) (k:=k) Zi
    have hlt:=Lx.Expr.kids_lt (Zm hx)
    refine zV ?_;intros
    refine zI ik hx (fun p1 hp1=>?_)
    refine zL hp1 ?_
    intro cs hcs
    obtain ⟨wa,wk,rfl,hRx⟩:=YT hcs
    obtain ⟨B1,m1,d1,rfl,_⟩:=hRx.args
    obtain ⟨B2,m2,d2,rfl,_⟩:=hRx.kids
    refine zV ?_;intros
    ((refine zG ?_);refine Yw Zz Zz (Ymx s Zi h0 h1 hRx) ?_)
    by_cases hz:exprM d all vars x=0
    ·rw [hz,show errV 0=.nilIface from rfl]
     refine zV ?_;intros
     exact Yz ⟨k+1,by omega,rfl,rfl,rfl,rfl,YL hh hx hz⟩ Zi Zw Zb
    ·rw [Yj hz]
     refine zV ?_;intros
     exact zR (h:=by rw [e1,Ye5 hx hh hz,Yj hz])
   ·have hA:=Xs hh Zi
    refine zV ?_;intros
    exact zR (h:=by rw [e1,YcO hA];rfl)
variable {va vk:Value}
theorem Ymw {fz:FZ} {e:Lx.Expr} (h:CkG fz v d p all) (h1:Sl paramL fz A n c vars) (hR:ExprR fz e va vk):
 QFn prog 166 [v,.slice A n c,.agg #[.string e.op,.string e.name,.int .i64 e.n,va,vk]] fz (errV (exprM d all vars e)):=Ymx _ (Zs _) h h1 hR
theorem YaP {fz:FZ} {l:List Param} (h:Sl paramL fz A n c l) (hn:n≤1000000000):
 GFn prog 60 [.slice A n c] fz [] (fun v fz' H'=>Grow paramL 110 fz' v n H' l):=by
 have l1:=h.len
 refine zF Tryz.func60 Tryz.ntmps60 (fun w0=>?_)
 refine zV ?_;intros
 refine zG ?_;refine Ybh T Zz Zz Zz Zz (fun eA=>?_) (fun eA=>?_)
 ·subst eA
  have hl:l=[]:=by
   rcases h.elem with h0 | ⟨_,h0,_⟩
   ·exact List.eq_nil_of_length_eq_zero Zi
   ·cases h0
  subst hl
  simp at l1
  subst l1
  refine zV ?_;intros
  refine Yir (H':=[]) (H2:=[]) rfl rfl (Zr _) (fun fz3 hle3 _=>Grow.nil _ _ _)
 ·refine zV ?_;intros
  refine Ya Zz (YbS T Zz Zz Zz (fun gb=>?_))
  refine zV ?_;intros
  refine Ya Zz (WF T (Hr:=[]) (n:=0) (l:=[]) Zz Zz Zz Zz Zz Zz Zz Zz (Zr _) (Grow.block (ys:=[]) rfl rfl (by intro p hp;cases hp) rfl Zh) WE h (by show _*32≤_;omega) Zi (fun v' Hs' hO'=>?_))
  obtain ⟨Av',cv',rfl,_,_⟩:=hO'.form
  refine zV ?_;intros
  refine Yir (H':=Hs') (H2:=[]) rfl rfl (by simp) (fun fz3 hle3 _=>(hO'.mono hle3).of (by simp) Zi)
theorem Ydc {fz:FZ} {k v l c:Int} {s:Bs}:QFn prog 89 [.agg #[.int .i64 k,.int .i64 v,.int .i64 l,.int .i64 c,.string s,vk]] fz (.bool (decide (k=1))):=by
 refine GFn.quiet ?_
 refine zF Tryz.func89 Tryz.ntmps89 (fun w0=>?_)
 refine zW ?_;intros
 refine zC (fun c1=>?_) (fun c1=>?_)
 ·refine zW ?_;intros
  exact ret1 rfl rfl Zb (Yv c1)
 ·refine zW ?_;intros
  exact ret1 rfl rfl Zb (Yo c1)
theorem YbZ {fz:FZ} {x:Sexpr} (h:YW fz x vk):QFn prog 36 [.agg #[.int .i64 x.kind,.int .i64 x.value,.int .i64 x.line,.int .i64 x.column,.string x.text,vk]] fz (.bool (XF x).isSome):=by
 obtain ⟨A,n,c,rfl,ik⟩:=h.kids
 have hl:=ik.len
 refine GFn.quiet ?_
 refine zF Tryz.func36 Tryz.ntmps36 (fun w0=>?_)
 refine zW ?_;intros
 refine zC (fun c1=>?_) (fun c1=>?_)
 ·refine zW ?_;intros
  refine zC (fun c2=>?_) (fun c2=>?_)
  ·obtain ⟨w,r,hk⟩:∃ w r,x.kids=w::r:=by
    cases hx:x.kids with
    | nil=>rw [hx] at hl;simp at hl;omega
    | cons w r=>exact ⟨w,r,rfl⟩
   have hk0:x.kids[0]?=some w:=by rw [hk];rfl
   refine zW ?_;intros
   refine zI ik hk0 (fun p hp=>?_)
   refine zL hp ?_
   intro cs hcs
   obtain ⟨vw,rfl,hw⟩:=Yh hcs
   refine zb Ydc (fun f1=>?_) (fun f1=>?_)
   ·have:=Zt f1
    refine zW ?_;intros
    exact zR (h:=by unfold XF;rw [hk];simp only;rw [if_pos ⟨c1,this⟩];rfl)
   ·have:=Zf f1
    refine zW ?_;intros
    exact zR (h:=by unfold XF;rw [hk];simp only;rw [if_neg (fun h=>this h.2)];rfl)
  ·have hk:x.kids=[]:=List.eq_nil_of_length_eq_zero Zi
   refine zW ?_;intros
   exact zR (h:=by unfold XF;rw [hk];rfl)
 ·refine zW ?_;intros
  exact zR (h:=by unfold XF;split;rfl;rw [if_neg (fun h=>c1 h.1)];rfl)
def Ybt (x:Sexpr):Except Int (Bs × List Bs):=match XF x with
 | none=>.error 2
 | some (w,r)=>if Y5 w then match Yao r with
  | .error c=>.error c
  | .ok a=>.ok (w,a)
  else .error 8
def AtmV (fz:FZ) (m:Except Int (Bs × List Bs)) (v:Value):Prop:=match m with
 | .error c=>v=.tuple #[.string ⟨#[]⟩,.slice none 0 0,.iface 65 (.int .i64 c)]∧c≠0
 | .ok (w,a)=>∃ A n c,v=.tuple #[.string w,.slice A n c,.nilIface]∧Sl strL fz A n c a∧Short w
set_option maxHeartbeats 4000000 in
theorem YiW {fz:FZ} {x:Sexpr} (hs:XSm x) (h:YW fz x vk):
 GFn prog 223 [.agg #[.int .i64 x.kind,.int .i64 x.value,.int .i64 x.line,.int .i64 x.column,.string x.text,vk]] fz [] (fun r fz' H'=>H'=[]∧AtmV fz' (Ybt x) r):=by
 obtain ⟨A,n,c,rfl,ik⟩:=h.kids
 have hl:=ik.len
 have hM:Ybt x=match XF x with
 | none=>.error 2
 | some (w,r)=>if Y5 w then match Yao r with
  | .error c=>.error c
  | .ok a=>.ok (w,a)
  else .error 8:=rfl
 have bad:∀ c,c≠0→Ybt x=.error c→∀ fz',AtmV fz' (Ybt x) (.tuple #[.string ⟨#[]⟩,.slice none 0 0,.iface 65 (.int .i64 c)]):=fun c hc e fz'=>by rw [e];exact ⟨rfl,hc⟩
 have hbeg:=YbZ h
 refine zF Tryz.func223 Tryz.ntmps223 (fun w0=>?_)
 refine zW ?_;intros
 cases hh:XF x with
 | none=>
  rw [hh] at hM hbeg
  refine zc hbeg ?_
  refine zW ?_;intros
  exact YQ T (vs:=[.string ⟨#[]⟩,.slice none 0 0,.iface 65 (.int .i64 2)]) Zz ⟨rfl,rfl,rfl,trivial⟩ (fun fz3 hle3 hf3=>⟨rfl,bad 2 Zh hM _⟩)
 | some wr=>
  obtain ⟨w,r⟩:=wr
  rw [hh] at hM hbeg
  simp only at hM
  obtain ⟨y,hk,rfl,hk3,hk1⟩:=XL hh
  have hrs:=Wm hs hh
  have hk0:x.kids[0]?=some y:=by rw [hk];rfl
  rw [hk,List.length_cons] at hl
  refine zc hbeg ?_
  refine zW ?_;intros
  refine zI ik hk0 (fun p hp=>?_)
  refine zW ?_;intros
  refine zH hp.Sexpr_text (fun hst=>?_)
  refine zW ?_;intros
  refine zb (Wk hst) (fun f1=>?_) (fun f1=>?_)
  ·rw [if_pos (Zt f1)] at hM
   refine zW ?_;intros
   refine zG ?_;refine Xu (j:=1) T Zz Zz Zz Zz Zz Zz ik Zi (fun A' hA'=>?_)
   rw [hk,List.drop_one,List.tail_cons] at hA'
   refine zW ?_;intros
   rename_i g1
   refine Yl (fun q σ fz' H'=>∃ (k:Nat) (v:Value) (Hs:HP) (out:List Bs),k≤n - 1∧q=n - 1 - k∧σ=[(24,.int .i64 k),(23,.int .i64 (n - 1:Nat)),(22,.slice A' (n - 1) (c - 1)),(5,v),(1,.pointer (some ⟨g1,0,none⟩))]∧fz=fz'∧H'=(g1,.cells #[.int .i64 x.kind,.int .i64 x.value,.int .i64 x.line,.int .i64 x.column,.string x.text,.slice A n c] 57 (0,0))::Hs∧Grow strL 9 fz v k Hs out∧Yao r=exA out (Yao (r.drop k))) ⟨0,_,[],[],Z0 _,rfl,rfl,rfl,rfl,Grow.nil _ _ _,by rw [Ycg];rfl⟩ Zw Zb ?_
   rintro q σ fz' H' ⟨k,v,Hs,out,hkn,rfl,rfl,rfl,rfl,hG,hT⟩
   obtain ⟨Av,cv,rfl,_,_⟩:=hG.form
   refine zW ?_;intros
   refine zC (fun c1=>?_) (fun c1=>?_)
   ·obtain ⟨z,hz⟩:=Yn (l:=r) (k:=k) Zi
    rw [Ybj hz,Yao] at hT
    refine zW ?_;intros
    refine zI hA' hz (fun p2 hp2=>?_)
    refine zL hp2 ?_
    intro cs hcs
    obtain ⟨vz,rfl,hRz⟩:=Yh hcs
    obtain ⟨Az,nz,cz,rfl,iz⟩:=hRz.kids
    refine zW ?_;intros
    rename_i g7
    refine zb Ydc (fun f2=>?_) (fun f2=>?_)
    ·rw [if_neg (Classical.not_not.2 (Zt f2))] at hT
     refine zW ?_;intros
     refine zb (Ymn hRz.text) (fun f3=>?_) (fun f3=>?_)
     ·rw [if_neg (Classical.not_not.2 (Zt f3)),Ye6] at hT
      refine zW ?_;intros
      refine Ya Zz (Yc T (cs:=[.string z.text]) Zz Zz Zz Zz Zz Zz Zz Zz (fun gb=>?_))
      refine Ya Zz (YS T (d:=z.text) (cs:=[.string z.text]) (Hr:=[(gb,_),(g7,_),(g1,_)]) Zz Zz Zz Zz Zz Zz Zz Zz (Zr _) hG Ycn (.head _) ⟨rfl,hRz.text⟩ (by show _*16≤_;omega) Zi (fun v' Hs' hG'=>?_))
      refine zW ?_;intros
      exact Yz ⟨k+1,v',Hs',out++ [z.text],by omega,rfl,rfl,rfl,rfl,hG',hT⟩ Zi Zw Zb
     ·rw [if_pos (Zf f3)] at hT
      rw [show Yao r=.error 8 from hT] at hM
      refine zW ?_;intros
      exact YQ T (vs:=[.string ⟨#[]⟩,.slice none 0 0,.iface 65 (.int .i64 8)]) Zz ⟨rfl,rfl,rfl,trivial⟩ (fun fz3 hle3 hf3=>⟨rfl,bad 8 Zh hM _⟩)
    ·rw [if_pos (Zf f2)] at hT
     rw [show Yao r=.error 2 from hT] at hM
     refine zW ?_;intros
     exact YQ T (vs:=[.string ⟨#[]⟩,.slice none 0 0,.iface 65 (.int .i64 2)]) Zz ⟨rfl,rfl,rfl,trivial⟩ (fun fz3 hle3 hf3=>⟨rfl,bad 2 Zh hM _⟩)
   ·rw [List.drop_eq_nil_of_le Zi,Yao,exA,List.append_nil] at hT
    rw [hT] at hM
    refine zW ?_;intros
    refine zI ik hk0 (fun p4 hp4=>?_)
    refine zW ?_;intros
    refine zH hp4.Sexpr_text (fun hst4=>?_)
    refine zW ?_;intros
    refine YQ T (vs:=[.string y.text,.slice Av k cv,.nilIface]) Zz ⟨rfl,rfl,rfl,trivial⟩ (fun fz3 hle3 hf3=>⟨rfl,?_⟩)
    obtain ⟨A1,c1',hv1,hS1⟩:=hG.sl hle3 (fun p hp=>hf3 p (by simp [hp])) Zi
    injection hv1 with hv1 hv2 hv3
    subst hv1 hv3
    rw [hM]
    exact ⟨_,_,_,rfl,hS1,hst⟩
  ·rw [if_neg (Zf f1)] at hM
   refine zW ?_;intros
   exact YQ T (vs:=[.string ⟨#[]⟩,.slice none 0 0,.iface 65 (.int .i64 8)]) Zz ⟨rfl,rfl,rfl,trivial⟩ (fun fz3 hle3 hf3=>⟨rfl,bad 8 Zh hM _⟩)
def Yc9 (w:Bs):Int:=if w=YcK then 3 else if w=YaV then 4 else if w=YaW then 5 else 0
theorem kinds_q {fz:FZ} {w:Bs}:QFn prog 219 [.string w] fz (.int .i64 (Yc9 w)):=by
 refine GFn.quiet ?_
 refine zF Tryz.func219 Tryz.ntmps219 (fun w0=>?_)
 refine zW ?_;intros
 refine zC (fun c0=>?_) (fun c0=>?_)
 ·refine zW ?_;intros
  exact zR (h:=by rw [Yc9,if_pos (show w=YcK from c0)])
 ·have n0:¬w=YcK:=c0
  refine zW ?_;intros
  refine zC (fun c1=>?_) (fun c1=>?_)
  ·refine zW ?_;intros
   exact zR (h:=by rw [Yc9,if_neg n0,if_pos (show w=YaV from c1)])
  ·have n1:¬w=YaV:=c1
   refine zW ?_;intros
   refine zC (fun c2=>?_) (fun c2=>?_)
   ·refine zW ?_;intros
    exact zR (h:=by rw [Yc9,if_neg n0,if_neg n1,if_pos (show w=YaW from c2)])
   ·refine zW ?_;intros
    exact zR (h:=by rw [Yc9,if_neg n0,if_neg n1,if_neg (show ¬w=YaW from c2)])
theorem Yfh {fz:FZ} {l:List Formula} (h:Sl Y1 fz A n c l) (hn:n≤1000000000):
 GFn prog 241 [.slice A n c] fz [] (fun v fz' H'=>Grow Y1 38 fz' v n H' l):=by
 have l1:=h.len
 refine zF Tryz.func241 Tryz.ntmps241 (fun w0=>?_)
 refine zV ?_;intros
 refine zG ?_;refine Ybh T Zz Zz Zz Zz (fun eA=>?_) (fun eA=>?_)
 ·subst eA
  have hl:l=[]:=by
   rcases h.elem with h0 | ⟨_,h0,_⟩
   ·exact List.eq_nil_of_length_eq_zero Zi
   ·cases h0
  subst hl
  simp at l1
  subst l1
  refine zV ?_;intros
  refine Yir (H':=[]) (H2:=[]) rfl rfl (Zr _) (fun fz3 hle3 _=>Grow.nil _ _ _)
 ·refine zV ?_;intros
  refine Ya Zz (YbS T Zz Zz Zz (fun gb=>?_))
  refine zV ?_;intros
  refine Ya Zz (WF T (Hr:=[]) (n:=0) (l:=[]) Zz Zz Zz Zz Zz Zz Zz Zz (Zr _) (Grow.block (ys:=[]) rfl rfl (by intro p hp;cases hp) rfl Zh) Ydf h (by show _*128≤_;omega) Zi (fun v' Hs' hO'=>?_))
  obtain ⟨Av',cv',rfl,_,_⟩:=hO'.form
  refine zV ?_;intros
  refine Yir (H':=Hs') (H2:=[]) rfl rfl (by simp) (fun fz3 hle3 _=>(hO'.mono hle3).of (by simp) Zi)
def whenM:List Formula→Formula
 | []=>XJ
 | [f]=>f
 | f::g::r=>.mk kAnd ⟨#[]⟩ [] [] [] (f::g::r)
def chgM (ps:List Param) (ws:List Formula) (kind:Int) (name:Bs) (args:List Bs) (e:Lx.Expr):Change:=⟨kind,ps,whenM ws,name,args,e⟩
variable {v1 v2 v3 v4 v5 v6 v7:Value}
theorem Yi0 {fz:FZ} {ps:List Param} {w u:Bs} {a1:List Bs} {p1:List Param} {e1:List Lx.Expr} {k1:List Formula} {kind:Int} {name:Bs} {args:List Bs} {e:Lx.Expr} {v8:Value}
 (h1:I64 kind) (h2:IsSl paramL fz v1 ps) (h3:FormulaR fz (.mk w u a1 p1 e1 k1) v2 v3 v4 v5) (h4:Short name) (h5:IsSl strL fz v6 args) (h6:ExprR fz e v7 v8):
 changeL.rep fz ⟨kind,ps,.mk w u a1 p1 e1 k1,name,args,e⟩ [.int .i64 kind,v1,.string w,.string u,v2,v3,v4,v5,.string name,v6,.string e.op,.string e.name,.int .i64 e.n,v7,v8]:=Yh8 (x:=⟨kind,ps,.mk w u a1 p1 e1 k1,name,args,e⟩) ⟨h1,h2,h3,h4,h5,h6⟩
variable {Hs:HP}
theorem _root_.Go.Lx.Grow.fz {α:Type} {L:Lay α} {e:Nat} {fz:FZ} {l:List α} (hg:Grow L e fz (.slice A n c) n Hs l) (hle:Le fz fz') (hf:∀ p∈Hs,fz' p.1=some p.2) (hn:n≤140737488355328):Sl L fz' A n c l:=by
 obtain ⟨A1,c1,hv,h⟩:=hg.sl hle hf hn
 injection hv with h1 h2 h3
 subst h1 h3
 exact h
variable {H:HP}
theorem Ygn {a b c d:Nat × Obj}:([a,b,c]++(d::H)).Perm (a::(H++ [b,d,c])):=by
 refine List.Perm.cons _ ?_
 refine List.Perm.trans ?_ (Zq (l₁:=[b,d,c]) (l₂:=H))
 exact List.Perm.cons _ (List.Perm.swap _ _ _)
theorem Ylx {a b c d:Nat × Obj}:([a,b,c]++(d::H)).Perm (H++ [a,b,d,c]):=by
 refine List.Perm.trans ?_ (Zq (l₁:=[a,b,d,c]) (l₂:=H))
 exact (List.Perm.cons _ (List.Perm.cons _ (List.Perm.swap _ _ _)))
set_option maxHeartbeats 8000000 in
theorem YgT {fz:FZ} {Ap Aw Aa:Option Addr} {np cp nw cw na ca:Nat} {ps:List Param} {ws:List Formula} {kind:Int} {name:Bs} {args:List Bs} {e:Lx.Expr}
 (hp:Sl paramL fz Ap np cp ps) (hnp:np≤1000000000) (hw:Sl Y1 fz Aw nw cw ws) (hnw:nw≤1000000000) (hk:I64 kind) (hname:Short name) (ha:Sl strL fz Aa na ca args) (he:ExprR fz e v1 v2):
 GFn prog 224 [.agg #[.slice Ap np cp,.slice Aw nw cw],.int .i64 kind,.string name,.slice Aa na ca,.agg #[.string e.op,.string e.name,.int .i64 e.n,v1,v2]] fz []
  (fun r fz' H'=>H'=[]∧∃ cs,r=.agg (List.toArray cs)∧changeL.rep fz' (chgM ps ws kind name args e) cs):=by
 obtain ⟨Ba,ma,ba,rfl,ie1⟩:=he.args
 obtain ⟨Ca,oa,da,rfl,ie2⟩:=he.kids
 have hwl:=hw.len
 refine zF Tryz.func224 Tryz.ntmps224 (fun w0=>?_)
 refine zWX ?_;intros
 refine Yk ?_
 refine zWX ?_;intros
 rename_i g5 g9 g10
 refine Yk (Wp.mid (fun σ fz' H'=>∃ g11 Ap2 cp2,σ=[(11,.pointer (some ⟨g11,0,none⟩)),(10,.pointer (some ⟨g10,0,none⟩)),(5,.pointer (some ⟨g5,0,none⟩))]∧Le fz fz'∧H'=[(g11,.cells #[.int .i64 kind,.slice Ap2 np cp2,.string kAnd,.string ⟨#[]⟩,.slice none 0 0,.slice none 0 0,.slice none 0 0,.slice none 0 0,.string name,.slice Aa na ca,.string e.op,.string e.name,.int .i64 e.n,.slice Ba ma ba,.slice Ca oa da] 123 (0,0)),(g10,.cells #[.int .i64 0,.slice none 0 0,.string ⟨#[]⟩,.string ⟨#[]⟩,.slice none 0 0,.slice none 0 0,.slice none 0 0,.slice none 0 0,.string ⟨#[]⟩,.slice none 0 0,.string ⟨#[]⟩,.string ⟨#[]⟩,.int .i64 0,.slice none 0 0,.slice none 0 0] 123 (0,0)),(g5,.cells #[.slice Ap np cp,.slice Aw nw cw] 264 (0,0))]∧Sl paramL fz' Ap2 np cp2 ps) ?_ ?_)
 ·refine zWX ?_;intros
  refine Wp.drawP [] (Hq:=[_,_,_]) T.mixed Zj Zj Zb ?_
  refine zW ?_;intros
  refine Ye ?_
  refine Ye ?_
  refine zW ?_;intros
  refine Ye ?_
  refine Ye ?_
  refine Ye ?_
  refine PK.done ⟨by kernel_rfl,?_⟩
  refine YG Zz Zz Zz ?_ ?_
  ·refine Yd (Ym [] [(g10,_),(g9,_),(g5,_)] Zz Zz Zz (YaP hp hnp) (fun v15 fz1 Hc hle1 hR1=>⟨⟨hle1,by intro p hp;exact List.mem_append_right _ hp⟩,?_⟩))
   obtain ⟨Ap2,cp2,rfl,_,_⟩:=hR1.form
   refine YG Zz Zz Zz ?_ ?_
   ·refine PoS.qk ⟨hle1,by intro p hp;exact List.mem_append_right _ hp⟩ (Yw Zz Zz WU ?_)
    refine YG Zz Zz Zz ?_ ?_
    ·refine PoS.qk ⟨hle1,by intro p hp;exact List.mem_append_right _ hp⟩ (Ydx T Zz Zz Zz Zz Zz ?_)
     refine Yb Zz Zz ?_
     refine Yd (YX T Zz Zz (fun g11=>⟨⟨hle1,by intro p hp;exact List.mem_cons_of_mem _ (List.mem_append_right _ hp)⟩,?_⟩))
     refine Yb Zz Zz ?_
     refine PoS.hard0 Zj (XU T (pre:=[]) (cs':=[.int .i64 kind,.slice Ap2 np cp2,.string kAnd,.string ⟨#[]⟩,.slice none 0 0,.slice none 0 0,.slice none 0 0,.slice none 0 0,.string name,.slice Aa na ca,.string e.op,.string e.name,.int .i64 e.n,.slice Ba ma ba,.slice Ca oa da]) Zz Zz Zz rfl Zz Zz Zz ?_)
     refine Po.done ?_
     refine zW ?_;intros
     exact midF (H':=[(g11,_),(g10,_),(g5,_)]) (H2:=(g9,_)::Hc) (by exact Ygn) (fun fz3 hle3 hf3=>⟨g11,Ap2,cp2,rfl,hle1.trans hle3,rfl,hR1.fz hle3 (fun p hp=>hf3 p (List.mem_cons_of_mem _ hp)) Zi⟩) Zw
    ·refine Yd (YX T Zz Zz (fun g11=>⟨⟨hle1,by intro p hp;exact List.mem_cons_of_mem _ (List.mem_append_right _ hp)⟩,?_⟩))
     refine Yb Zz Zz ?_
     refine PoS.qk ⟨hle1,by intro p hp;exact List.mem_cons_of_mem _ (List.mem_append_right _ hp)⟩ (Ydx T Zz Zz Zz Zz Zz ?_)
     refine Yb Zz Zz ?_
     refine PoS.hard0 Zj (XU T (pre:=[]) (cs':=[.int .i64 kind,.slice Ap2 np cp2,.string kAnd,.string ⟨#[]⟩,.slice none 0 0,.slice none 0 0,.slice none 0 0,.slice none 0 0,.string name,.slice Aa na ca,.string e.op,.string e.name,.int .i64 e.n,.slice Ba ma ba,.slice Ca oa da]) Zz Zz Zz rfl Zz Zz Zz ?_)
     refine Po.done ?_
     refine zW ?_;intros
     exact midF (H':=[(g11,_),(g10,_),(g5,_)]) (H2:=(g9,_)::Hc) (by exact Ygn) (fun fz3 hle3 hf3=>⟨g11,Ap2,cp2,rfl,hle1.trans hle3,rfl,hR1.fz hle3 (fun p hp=>hf3 p (List.mem_cons_of_mem _ hp)) Zi⟩) Zw
   ·refine Yd (YX T Zz Zz (fun g11=>⟨⟨hle1,by intro p hp;exact List.mem_cons_of_mem _ (List.mem_append_right _ hp)⟩,?_⟩))
    refine Yb Zz Zz ?_
    refine PoS.qk ⟨hle1,by intro p hp;exact List.mem_cons_of_mem _ (List.mem_append_right _ hp)⟩ (Yw Zz Zz WU ?_)
    refine Yb Zz Zz ?_
    refine PoS.qk ⟨hle1,by intro p hp;exact List.mem_cons_of_mem _ (List.mem_append_right _ hp)⟩ (Ydx T Zz Zz Zz Zz Zz ?_)
    refine Yb Zz Zz ?_
    refine PoS.hard0 Zj (XU T (pre:=[]) (cs':=[.int .i64 kind,.slice Ap2 np cp2,.string kAnd,.string ⟨#[]⟩,.slice none 0 0,.slice none 0 0,.slice none 0 0,.slice none 0 0,.string name,.slice Aa na ca,.string e.op,.string e.name,.int .i64 e.n,.slice Ba ma ba,.slice Ca oa da]) Zz Zz Zz rfl Zz Zz Zz ?_)
    refine Po.done ?_
    refine zW ?_;intros
    exact midF (H':=[(g11,_),(g10,_),(g5,_)]) (H2:=(g9,_)::Hc) (by exact Ygn) (fun fz3 hle3 hf3=>⟨g11,Ap2,cp2,rfl,hle1.trans hle3,rfl,hR1.fz hle3 (fun p hp=>hf3 p (List.mem_cons_of_mem _ hp)) Zi⟩) Zw
  ·refine Yd (YX T Zz Zz (fun g11=>⟨⟨(Le.refl _),by intro p hp;exact List.mem_cons_of_mem _ hp⟩,?_⟩))
   refine Yb Zz Zz ?_
   refine Yd (Ym [] [(g11,_),(g10,_),(g9,_),(g5,_)] Zz Zz Zz (YaP hp hnp) (fun v15 fz1 Hc hle1 hR1=>⟨⟨hle1,by intro p hp;exact List.mem_append_right _ (List.mem_cons_of_mem _ hp)⟩,?_⟩))
   obtain ⟨Ap2,cp2,rfl,_,_⟩:=hR1.form
   refine Yb Zz Zz ?_
   refine PoS.qk ⟨hle1,by intro p hp;exact List.mem_append_right _ (List.mem_cons_of_mem _ hp)⟩ (Yw Zz Zz WU ?_)
   refine Yb Zz Zz ?_
   refine PoS.qk ⟨hle1,by intro p hp;exact List.mem_append_right _ (List.mem_cons_of_mem _ hp)⟩ (Ydx T Zz Zz Zz Zz Zz ?_)
   refine Yb Zz Zz ?_
   refine PoS.hard0 Zj (XU T (pre:=Hc) (cs':=[.int .i64 kind,.slice Ap2 np cp2,.string kAnd,.string ⟨#[]⟩,.slice none 0 0,.slice none 0 0,.slice none 0 0,.slice none 0 0,.string name,.slice Aa na ca,.string e.op,.string e.name,.int .i64 e.n,.slice Ba ma ba,.slice Ca oa da]) Zz Zz Zz rfl Zz Zz Zz ?_)
   refine Po.done ?_
   refine zW ?_;intros
   exact midF (H':=[(g11,_),(g10,_),(g5,_)]) (H2:=(g9,_)::Hc) (by exact Ylx) (fun fz3 hle3 hf3=>⟨g11,Ap2,cp2,rfl,hle1.trans hle3,rfl,hR1.fz hle3 (fun p hp=>hf3 p (List.mem_cons_of_mem _ hp)) Zi⟩) Zw
 rintro σ fz' H' ⟨g11,Ap2,cp2,rfl,hle,rfl,hp2⟩
 refine zW ?_;intros
 refine zC (fun c1=>?_) (fun c1=>?_)
 ·have hws:ws=[]:=List.eq_nil_of_length_eq_zero Zi
  subst hws
  refine zW ?_;intros
  refine X8 T (i:=1) rfl Zz Zz Zz Zz Zz (fun fz3 hle3 hf3=>⟨rfl,[.int .i64 kind,.slice Ap2 np cp2,.string kAnd,.string ⟨#[]⟩,.slice none 0 0,.slice none 0 0,.slice none 0 0,.slice none 0 0,.string name,.slice Aa na ca,.string e.op,.string e.name,.int .i64 e.n,.slice Ba ma ba,.slice Ca oa da],rfl,?_⟩)
  exact Yi0 hk ⟨_,_,_,rfl,hp2.mono hle3⟩ Yb5 hname ⟨_,_,_,rfl,ha.mono (hle.trans hle3)⟩ (he.mono (hle.trans hle3))
 ·refine zW ?_;intros
  refine zC (fun c2=>?_) (fun c2=>?_)
  ·have hnw1:nw=1:=by omega
   obtain ⟨f,rfl⟩:∃ f,ws=[f]:=by
    match ws,hwl.trans hnw1 with
    | [f],_=>exact ⟨f,rfl⟩
   have hf0: [f][0]?=some f:=rfl
   refine zW ?_;intros
   refine zI (hw.mono hle) hf0 (fun p hpf=>?_)
   refine zL hpf ?_
   intro cs hcs
   obtain ⟨u1,u2,u3,u4,rfl,hF⟩:=YK hcs
   obtain ⟨B1,m1,d1,rfl,j1⟩:=hF.args
   obtain ⟨B2,m2,d2,rfl,j2⟩:=hF.params
   obtain ⟨B3,m3,d3,rfl,j3⟩:=hF.exprs
   obtain ⟨B4,m4,d4,rfl,j4⟩:=hF.kids
   refine zW ?_;intros
   refine X8 T (i:=1) rfl Zz Zz Zz Zz Zz (fun fz3 hle3 hf3=>⟨rfl,[.int .i64 kind,.slice Ap2 np cp2,.string f.op,.string f.name,.slice B1 m1 d1,.slice B2 m2 d2,.slice B3 m3 d3,.slice B4 m4 d4,.string name,.slice Aa na ca,.string e.op,.string e.name,.int .i64 e.n,.slice Ba ma ba,.slice Ca oa da],rfl,?_⟩)
   have hF3:=hF.mono hle3
   cases f
   exact Yi0 hk ⟨_,_,_,rfl,hp2.mono hle3⟩ hF3 hname ⟨_,_,_,rfl,ha.mono (hle.trans hle3)⟩ (he.mono (hle.trans hle3))
  ·refine zW ?_;intros
   refine Ya Zz (Ym [] _ Zz Zz Zz (Yfh (hw.mono hle) hnw) (fun r2 fz2 H2 hle2 hR2=>?_))
   obtain ⟨A2,c2',rfl,_,_⟩:=hR2.form
   refine Seq.freezeAll (H1:=[(g11,_),(g10,_),(g5,_)]) (H2:=H2) Zq (fun fz4 hle4 hf4=>?_)
   have hS:=hR2.fz hle4 hf4 Zi
   refine zW ?_;intros
   refine X8 T (i:=1) rfl Zz Zz Zz Zz Zz (fun fz3 hle3 hf3=>⟨rfl,[.int .i64 kind,.slice Ap2 np cp2,.string kAnd,.string ⟨#[]⟩,.slice none 0 0,.slice none 0 0,.slice none 0 0,.slice A2 nw c2',.string name,.slice Aa na ca,.string e.op,.string e.name,.int .i64 e.n,.slice Ba ma ba,.slice Ca oa da],rfl,?_⟩)
   match ws,hwl with
   | [],hwl=>exact absurd (by rw [← hwl];rfl) c1
   | [f],hwl=>exact absurd (by rw [← hwl];rfl) c2
   | f::g::r,hwl=>exact Yi0 hk ⟨_,_,_,rfl,hp2.mono (hle2.trans (hle4.trans hle3))⟩ ⟨by show Short kAnd;unfold Short;decide,XQ,IsSl.nil,IsSl.nil,IsSl.nil,⟨_,_,_,rfl,hS.mono hle3⟩⟩ hname ⟨_,_,_,rfl,ha.mono (hle.trans (hle2.trans (hle4.trans hle3)))⟩ (he.mono (hle.trans (hle2.trans (hle4.trans hle3))))
def YfA:Lx.Expr:=.mk ⟨#[]⟩ ⟨#[]⟩ 0 [] []
def numM (ps:List Param) (ws:List Formula) (kind:Int):List Sexpr→Except Int (List Change)
 | [y,z]=>match Ybt y with
  | .error c=>.error c
  | .ok (nm,a)=>match YeF z with
   | .error c=>.error c
   | .ok e=>.ok [chgM ps ws kind nm a e]
 | _=>.error 2
def whnM (E:List Param→List Formula→Sexpr→Except Int (List Change)) (ps:List Param) (ws:List Formula):List Sexpr→Except Int (List Change)
 | [y,z]=>match WN y with
  | .error c=>.error c
  | .ok f=>E ps (ws++ [f]) z
 | _=>.error 2
def allM (E:List Param→List Formula→Sexpr→Except Int (List Change)) (ps:List Param) (ws:List Formula):List Sexpr→Except Int (List Change)
 | [y,z]=>if y.kind≠3 then .error 2 else match parM true y.kids [] [] with
  | .error c=>.error c
  | .ok l=>E (ps++l) ws z
 | _=>.error 2
def mapC {α β:Type} (f:α→Except Int (List β)):List α→Except Int (List β)
 | []=>.ok []
 | x::r=>match f x with
  | .error c=>.error c
  | .ok y=>exA y (mapC f r)
def effB (E:List Param→List Formula→Sexpr→Except Int (List Change)) (ps:List Param) (ws:List Formula) (w:Bs) (r:List Sexpr) (x:Sexpr):Except Int (List Change):=
 if 0<Yc9 w then numM ps ws (Yc9 w) r
 else if w=YhH then whnM E ps ws r
 else if w=XZ then allM E ps ws r
 else if w=kAnd then mapC (E ps ws) r
 else if w=kNot then match r with
  | [y]=>match Ybt y with
   | .error c=>.error c
   | .ok (nm,a)=>.ok [chgM ps ws 2 nm a YfA]
  | _=>.error 2
 else match Ybt x with
  | .error c=>.error c
  | .ok (nm,a)=>.ok [chgM ps ws 1 nm a YfA]
def effD:Nat→List Param→List Formula→Sexpr→Except Int (List Change)
 | 0,_,_,_=>.error 2
 | d+1,ps,ws,x=>if x.kind=3∧x.kids=[] then .ok [] else match XF x with
  | none=>.error 2
  | some (w,r)=>effB (effD d) ps ws w r x
theorem Yfd {d:Nat} {ps:List Param} {ws:List Formula} {x:Sexpr}:effD (d+1) ps ws x=if x.kind=3∧x.kids=[] then .ok [] else match XF x with
 | none=>.error 2
 | some (w,r)=>effB (effD d) ps ws w r x:=rfl
theorem chg_one:OneC changeL:=by
 intro fz d cs h u hu
 obtain ⟨v1,v2,v3,v4,v5,v6,v7,v8,rfl,hR⟩:=XH h
 obtain ⟨A1,n1,c1,rfl,_⟩:=hR.params
 obtain ⟨A2,n2,c2,rfl,_⟩:=hR.when_.args
 obtain ⟨A3,n3,c3,rfl,_⟩:=hR.when_.params
 obtain ⟨A4,n4,c4,rfl,_⟩:=hR.when_.exprs
 obtain ⟨A5,n5,c5,rfl,_⟩:=hR.when_.kids
 obtain ⟨A6,n6,c6,rfl,_⟩:=hR.args
 obtain ⟨A7,n7,c7,rfl,_⟩:=hR.value.args
 obtain ⟨A8,n8,c8,rfl,_⟩:=hR.value.kids
 simp at hu
 rcases hu with rfl | rfl | rfl | rfl | rfl | rfl | rfl | rfl | rfl | rfl | rfl | rfl | rfl | rfl | rfl<;>rfl
theorem ResS.form {α:Type} {L:Lay α} {fz:FZ} {m:Except Int (List α)} (h:ResS L fz m v):∃ a b,v=.tuple #[a,b]:=by
 cases m with
 | error c=>exact ⟨_,_,h.1⟩
 | ok l=>obtain ⟨A,n,c,h,_⟩:=h;exact ⟨_,_,h⟩
theorem YjA {a b c d:Nat × Obj}:([a,b]++(c::d::H)).Perm ([c,d,a,b]++H):=by
 refine List.Perm.append_right H (l₁:=[a,b,c,d]) (l₂:=[c,d,a,b]) ?_
 exact Zq (l₁:=[a,b]) (l₂:=[c,d])
variable {cs:List Value}
theorem YiD {fz3 fz:FZ} {gb:Nat} {m:Except Int (List Change)} {ch:Change} (hM:m=.ok [ch]) (hle:Le fz fz3) (hr:changeL.rep fz ch cs) (hg:fz3 gb=some (.cells cs.toArray 123 (0,0))):ResS changeL fz3 m (.tuple #[.slice (some ⟨gb,0,none⟩) 1 1,.nilIface]):=by
 rw [hM]
 exact ⟨_,_,_,rfl,Xt (m:=1) (ys:=[(ch,cs)]) hg (by simp) rfl (by intro p hp;simp only [List.mem_cons,List.not_mem_nil,or_false] at hp;subst hp;exact changeL.mono hle hr) rfl Zh⟩
def EffW (d:Nat):Prop:=∀ (fz:FZ) (Ap Aw:Option Addr) (np cp nw cw:Nat) (ps:List Param) (ws:List Formula) (x:Sexpr) (vk:Value),SizeOf.sizeOf x≤d→XSm x→YW fz x vk→Sl paramL fz Ap np cp ps→Sl Y1 fz Aw nw cw ws→np+xcount x≤100000000→nw+xcount x≤100000000→
 GFn prog 186 [.agg #[.slice Ap np cp,.slice Aw nw cw],.agg #[.int .i64 x.kind,.int .i64 x.value,.int .i64 x.line,.int .i64 x.column,.string x.text,vk]] fz [] (fun r fz' H'=>H'=[]∧ResS changeL fz' (effD d ps ws x) r)
set_option maxHeartbeats 8000000 in
theorem YlG {fz:FZ} {Ap Aw:Option Addr} {np cp nw cw:Nat} {ps:List Param} {ws:List Formula} {x w0:Sexpr} {r:List Sexpr} {kind:Int} (hk:x.kids=w0::r) (hkind:I64 kind) (hs:XSm x) (hR:YW fz x vk) (hp:Sl paramL fz Ap np cp ps) (hw:Sl Y1 fz Aw nw cw ws) (hnp:np≤1000000000) (hnw:nw≤1000000000):
 GFn prog 220 [.agg #[.slice Ap np cp,.slice Aw nw cw],.int .i64 kind,.agg #[.int .i64 x.kind,.int .i64 x.value,.int .i64 x.line,.int .i64 x.column,.string x.text,vk]] fz [] (fun r2 fz' H'=>H'=[]∧ResS changeL fz' (numM ps ws kind r) r2):=by
 obtain ⟨A,n,c,rfl,ik⟩:=hR.kids
 have hl:=ik.len
 rw [hk,List.length_cons] at hl
 refine zF Tryz.func220 Tryz.ntmps220 (fun w0=>?_)
 refine zW ?_;intros
 refine zC (fun c1=>?_) (fun c1=>?_)
 ·have hM:numM ps ws kind r=.error 2:=by
   unfold numM
   split
   ·simp at hl;omega
   ·rfl
  refine zW ?_;intros
  exact ret2 (H':=[]) rfl rfl rfl Zb ⟨rfl,by rw [hM];exact ⟨rfl,by decide⟩⟩
 ·obtain ⟨y,z,rfl⟩:∃ y z,r=[y,z]:=by
   have h3:r.length=2:=by omega
   match r,h3 with
   | [y,z],_=>exact ⟨y,z,rfl⟩
  have hM:numM ps ws kind [y,z]=match Ybt y with
   | .error c=>.error c
   | .ok (nm,a)=>match YeF z with
    | .error c=>.error c
    | .ok e=>.ok [chgM ps ws kind nm a e]:=rfl
  have hy:x.kids[1]?=some y:=by rw [hk];rfl
  have hz:x.kids[2]?=some z:=by rw [hk];rfl
  have hsy:=(Y8.1 hs).2 y (Zm hy)
  refine zW ?_;intros
  refine zI ik hy (fun p hp1=>?_)
  refine zL hp1 ?_
  intro cs hcs
  obtain ⟨vy,rfl,hRy⟩:=Yh hcs
  refine Ya Zz (Ym [] _ Zz Zz Zz (YiW hsy hRy) (fun r1 fz1 H1 hle1 hR1=>?_))
  obtain ⟨rfl,hR1⟩:=hR1
  cases ha:Ybt y with
  | error c=>
   rw [ha] at hM hR1
   obtain ⟨rfl,hc⟩:=hR1
   refine zW ?_;intros
   exact ret2 (H':=[]) rfl rfl rfl Zb ⟨rfl,by rw [hM];exact ⟨by rw [Yj hc];rfl,hc⟩⟩
  | ok na=>
   obtain ⟨nm,a⟩:=na
   rw [ha] at hM hR1
   obtain ⟨A3,n3,c3,rfl,ia,hnm⟩:=hR1
   simp only at hM
   refine zW ?_;intros
   refine zI (ik.mono hle1) hz (fun p2 hp2=>?_)
   refine zL hp2 ?_
   intro cs2 hcs2
   obtain ⟨vz,rfl,hRz⟩:=Yh hcs2
   refine Ya Zz (Ym [] _ Zz Zz Zz (eParse_f hRz) (fun r4 fz4 H4 hle4 hR4=>?_))
   obtain ⟨rfl,e4,cs4,hr4,hR4⟩:=hR4
   obtain ⟨v1,v2,rfl,hE4⟩:=YT hr4
   obtain ⟨B1,m1,d1,rfl,j1⟩:=hE4.args
   obtain ⟨B2,m2,d2,rfl,j2⟩:=hE4.kids
   cases he:YeF z with
   | error c=>
    rw [he] at hM hR4
    obtain ⟨rfl,hc⟩:=hR4
    rw [Yj hc]
    refine zW ?_;intros
    exact ret2 (H':=[]) rfl rfl rfl Zb ⟨rfl,by rw [hM];exact ⟨by rw [Yj hc];rfl,hc⟩⟩
   | ok e=>
    rw [he] at hM hR4
    obtain ⟨rfl,rfl⟩:=hR4
    refine zW ?_;intros
    refine Ya Zz (Ym [] _ Zz Zz Zz (YgT (hp.mono (hle1.trans hle4)) hnp (hw.mono (hle1.trans hle4)) hnw hkind hnm (ia.mono hle4) hE4) (fun r5 fz5 H5 hle5 hR5=>?_))
    obtain ⟨rfl,cs5,rfl,hr5⟩:=hR5
    simp only at hM
    generalize hchg:chgM ps ws kind nm a e=ch at*
    have hr5':=hr5
    obtain ⟨u1,u2,u3,u4,u5,u6,u7,u8,rfl,hC⟩:=XH hr5;obtain ⟨C1,o1,q1,rfl,_⟩:=hC.params;obtain ⟨C2,o2,q2,rfl,_⟩:=hC.when_.args;obtain ⟨C3,o3,q3,rfl,_⟩:=hC.when_.params;obtain ⟨C4,o4,q4,rfl,_⟩:=hC.when_.exprs;obtain ⟨C5,o5,q5,rfl,_⟩:=hC.when_.kids;obtain ⟨C6,o6,q6,rfl,_⟩:=hC.args;obtain ⟨C7,o7,q7,rfl,_⟩:=hC.value.args;obtain ⟨C8,o8,q8,rfl,_⟩:=hC.value.kids
    refine Ya Zz (Yc T (cs:=([.int .i64 ch.kind,.slice C1 o1 q1,.string ch.when_.op,.string ch.when_.name,.slice C2 o2 q2,.slice C3 o3 q3,.slice C4 o4 q4,.slice C5 o5 q5,.string ch.name,.slice C6 o6 q6,.string ch.value.op,.string ch.value.name,.int .i64 ch.value.n,.slice C7 o7 q7,.slice C8 o8 q8])) Zz Zz Zz Zz Zz Zz Zz Zz (fun gb=>?_))
    refine zW ?_;intros
    exact Yiq rfl rfl rfl (fun fz3 hle3 hf3=>⟨rfl,YiD hM hle3 hr5' (hf3 (gb,_) (.head _))⟩)
set_option maxHeartbeats 8000000 in
theorem when_f {d:Nat} (ih:EffW d) {fz:FZ} {Ap Aw:Option Addr} {np cp nw cw:Nat} {ps:List Param} {ws:List Formula} {x w0:Sexpr} {r:List Sexpr} (hk:x.kids=w0::r) (hsz:∀ y∈r,SizeOf.sizeOf y≤d) (hs:XSm x) (hR:YW fz x vk) (hp:Sl paramL fz Ap np cp ps) (hw:Sl Y1 fz Aw nw cw ws) (hnp:np+xcount x≤100000000) (hnw:nw+xcount x≤100000000):
 GFn prog 221 [.agg #[.slice Ap np cp,.slice Aw nw cw],.agg #[.int .i64 x.kind,.int .i64 x.value,.int .i64 x.line,.int .i64 x.column,.string x.text,vk]] fz [] (fun r2 fz' H'=>H'=[]∧ResS changeL fz' (whnM (effD d) ps ws r) r2):=by
 obtain ⟨A,n,c,rfl,ik⟩:=hR.kids
 have hl:=ik.len
 rw [hk,List.length_cons] at hl
 refine zF Tryz.func221 Tryz.ntmps221 (fun w0=>?_)
 refine zW ?_;intros
 refine zC (fun c1=>?_) (fun c1=>?_)
 ·have hM:whnM (effD d) ps ws r=.error 2:=by
   unfold whnM
   split
   ·simp at hl;omega
   ·rfl
  refine zW ?_;intros
  exact ret2 (H':=[]) rfl rfl rfl Zb ⟨rfl,by rw [hM];exact ⟨rfl,by decide⟩⟩
 ·obtain ⟨y,z,rfl⟩:∃ y z,r=[y,z]:=by
   have h3:r.length=2:=by omega
   match r,h3 with
   | [y,z],_=>exact ⟨y,z,rfl⟩
  have hM:whnM (effD d) ps ws [y,z]=match WN y with
   | .error c=>.error c
   | .ok f=>effD d ps (ws++ [f]) z:=rfl
  have hy:x.kids[1]?=some y:=by rw [hk];rfl
  have hz:x.kids[2]?=some z:=by rw [hk];rfl
  have hsz2:=(Y8.1 hs).2 z (Zm hz)
  have hcx:=Xj x
  rw [hk] at hcx
  have hcy:=Xj y
  simp only [xcountL] at hcx
  refine zW ?_;intros
  rename_i g2 g3
  refine zI ik hy (fun p hp1=>?_)
  refine zL hp1 ?_
  intro cs hcs
  obtain ⟨vy,rfl,hRy⟩:=Yh hcs
  refine Ya Zz (Ym [] _ Zz Zz Zz (Yct hRy) (fun r4 fz4 H4 hle4 hR4=>?_))
  obtain ⟨rfl,f4,cs4,hr4,hR4⟩:=hR4
  obtain ⟨v1,v2,v3,v4,rfl,hE4⟩:=YK hr4
  obtain ⟨B1,m1,d1,rfl,j1⟩:=hE4.args
  obtain ⟨B2,m2,d2,rfl,j2⟩:=hE4.params
  obtain ⟨B3,m3,d3,rfl,j3⟩:=hE4.exprs
  obtain ⟨B4,m4,d4,rfl,j4⟩:=hE4.kids
  cases he:WN y with
  | error c=>
   rw [he] at hM hR4
   obtain ⟨rfl,hc⟩:=hR4
   rw [Yj hc]
   refine zW ?_;intros
   exact ret2 (H':=[]) rfl rfl rfl Zb ⟨rfl,by rw [hM];exact ⟨by rw [Yj hc];rfl,hc⟩⟩
  | ok f=>
   rw [he] at hM hR4
   obtain ⟨rfl,rfl⟩:=hR4
   simp only at hM
   rw [List.nil_append]
   refine zWX ?_;intros
   refine Yk ?_
   refine zWX ?_;intros
   rename_i g6
   refine Yk ?_
   refine zWX ?_;intros
   refine Yk (Wp.mid (fun σ fz' H'=>∃ Aw2 cw2,σ=[(3,.pointer (some ⟨g3,0,none⟩)),(2,.pointer (some ⟨g2,0,none⟩))]∧Le fz4 fz'∧H'=[(g3,.cells #[.int .i64 x.kind,.int .i64 x.value,.int .i64 x.line,.int .i64 x.column,.string x.text,.slice A n c] 57 (0,0)),(g2,.cells #[.slice Ap np cp,.slice Aw2 (nw+1) cw2] 264 (0,0))]∧Sl Y1 fz' Aw2 (nw+1) cw2 (ws++ [f])) ?_ ?_)
   ·refine Wp.drawP [6] (Hq:=[_,_,_]) T.mixed Zj Zj Zb ?_
    refine zW ?_;intros
    refine Ye ?_
    refine zW ?_;intros
    refine Ye ?_
    refine Ye ?_
    refine PK.p Zz (fun fz'=>by first | exact X5 Zz rfl | exact Xx Zz rfl | exact YZ T Zz Zz Zz Zz Zz Zz rfl | exact Yaf Zz Zz (Xw Zi) rfl | exact YU T Zz Zz Zz rfl) ?_
    refine Ye ?_
    refine PK.done ⟨by kernel_rfl,?_⟩
    refine YG Zz Zz Zz ?_ ?_
    ·refine Yd (Ym [] [(g6,_),(g3,_),(g2,_)] Zz Zz Zz (Yfh (hw.mono hle4) Zi) (fun v26 fz6 Hc hle6 hR6=>⟨⟨hle6,by intro p hp;exact List.mem_append_right _ hp⟩,?_⟩))
     obtain ⟨Aw2,cw2,rfl,_,_⟩:=hR6.form
     refine Yb Zz Zz ?_
     refine Yd (Yc T (cs:=[.string f.op,.string f.name,.slice B1 m1 d1,.slice B2 m2 d2,.slice B3 m3 d3,.slice B4 m4 d4]) Zz Zz Zz Zz Zz Zz Zz Zz (fun gb=>⟨⟨hle6,by intro p hp;exact List.mem_cons_of_mem _ (List.mem_append_right _ hp)⟩,?_⟩))
     refine Yb Zz Zz ?_
     refine Yd (YS T (d:=f) (cs:=[.string f.op,.string f.name,.slice B1 m1 d1,.slice B2 m2 d2,.slice B3 m3 d3,.slice B4 m4 d4]) (Hr:=(gb,_)::(g6,_)::(g3,_):: [(g2,_)]) Zz Zz Zz Zz Zz Zz Zz Zz (List.Perm.cons _ Zq) hR6 Ydf (.head _) (Y1.mono hle6 hr4) (by show _*128≤_;omega) Zi (fun v' Hs' hG'=>⟨⟨hle6,by intro p hp;exact List.mem_append_left _ (List.mem_cons_of_mem _ hp)⟩,?_⟩))
     obtain ⟨Aw3,cw3,rfl,_,_⟩:=hG'.form
     refine Yb Zz Zz ?_
     refine PoS.hard0 Zj (Wl T Zz Zz Zz Zz Zz Zz ?_)
     refine Po.done ?_
     refine zW ?_;intros
     exact midF (H':=[(g3,_),(g2,_)]) (H2:=(gb,_)::(g6,_)::Hs') (by exact YjA) (fun fz7 hle7 hf7=>⟨Aw3,cw3,rfl,hle6.trans hle7,rfl,hG'.fz hle7 (fun p hp=>hf7 p (List.mem_cons_of_mem _ (List.mem_cons_of_mem _ hp))) Zi⟩) Zw
    ·refine Yd (Yc T (cs:=[.string f.op,.string f.name,.slice B1 m1 d1,.slice B2 m2 d2,.slice B3 m3 d3,.slice B4 m4 d4]) Zz Zz Zz Zz Zz Zz Zz Zz (fun gb=>⟨⟨(Le.refl _),by intro p hp;exact List.mem_cons_of_mem _ hp⟩,?_⟩))
     refine Yb Zz Zz ?_
     refine Yd (Ym [] [(gb,_),(g6,_),(g3,_),(g2,_)] Zz Zz Zz (Yfh (hw.mono hle4) Zi) (fun v26 fz6 Hc hle6 hR6=>⟨⟨hle6,by intro p hp;exact List.mem_append_right _ (List.mem_cons_of_mem _ hp)⟩,?_⟩))
     obtain ⟨Aw2,cw2,rfl,_,_⟩:=hR6.form
     refine Yb Zz Zz ?_
     refine Yd (YS T (d:=f) (cs:=[.string f.op,.string f.name,.slice B1 m1 d1,.slice B2 m2 d2,.slice B3 m3 d3,.slice B4 m4 d4]) (Hr:=(gb,_)::(g6,_)::(g3,_):: [(g2,_)]) Zz Zz Zz Zz Zz Zz Zz Zz Zq hR6 Ydf (List.mem_append_right _ (.head _)) (Y1.mono hle6 hr4) (by show _*128≤_;omega) Zi (fun v' Hs' hG'=>⟨⟨hle6,by intro p hp;exact List.mem_append_left _ (List.mem_cons_of_mem _ hp)⟩,?_⟩))
     obtain ⟨Aw3,cw3,rfl,_,_⟩:=hG'.form
     refine Yb Zz Zz ?_
     refine PoS.hard0 Zj (Wl T Zz Zz Zz Zz Zz Zz ?_)
     refine Po.done ?_
     refine zW ?_;intros
     exact midF (H':=[(g3,_),(g2,_)]) (H2:=(gb,_)::(g6,_)::Hs') (by exact YjA) (fun fz7 hle7 hf7=>⟨Aw3,cw3,rfl,hle6.trans hle7,rfl,hG'.fz hle7 (fun p hp=>hf7 p (List.mem_cons_of_mem _ (List.mem_cons_of_mem _ hp))) Zi⟩) Zw
   rintro σ fz' H' ⟨Aw2,cw2,rfl,hle5,rfl,hw5⟩
   refine Yk ?_
   refine Wp.drawP [] (Hq:=[_,_]) T.mixed Zj Zj Zb ?_
   refine zW ?_;intros
   refine zI (ik.mono (hle4.trans hle5)) hz (fun p2 hp2=>?_)
   refine zL hp2 ?_
   intro cs2 hcs2
   obtain ⟨vz,rfl,hRz⟩:=Yh hcs2
   refine Ye ?_
   refine Ye ?_
   refine Ye ?_
   refine Ye ?_
   refine Ye ?_
   refine PK.done ⟨by kernel_rfl,?_⟩
   refine Yb Zz Zz ?_
   refine Yd (Ym [] [_,_] Zz Zz Zz (ih _ _ _ _ _ _ _ _ _ _ _ (hsz z (by simp)) hsz2 hRz (hp.mono (hle4.trans hle5)) hw5 Zi Zi) (fun r8 fz8 H8 hle8 hR8=>?_))
   obtain ⟨rfl,hR8⟩:=hR8
   obtain ⟨ra,rb,rfl⟩:=hR8.form
   rw [← hM] at hR8
   refine ⟨(⟨hle8,Zp2⟩),?_⟩
   refine YG Zz Zz Zz ?_ ?_
   ·refine PoS.qk (⟨hle8,Zp2⟩) (YY Zz Zz ?_)
    refine Yb Zz Zz ?_
    refine PoS.qk (⟨hle8,Zp2⟩) (YY Zz Zz ?_)
    refine Yb Zz Zz ?_
    refine PoS.qk (⟨hle8,Zp2⟩) (YJ Zz ?_)
    refine Yb Zz Zz ?_
    refine PoS.qk (⟨hle8,Zp2⟩) (YJ Zz ?_)
    refine Po.done ?_
    refine zW ?_;intros
    exact ret2 (H':=[]) rfl rfl rfl Zb ⟨rfl,hR8⟩
   ·refine PoS.qk (⟨hle8,Zp2⟩) (YY Zz Zz ?_)
    refine Yb Zz Zz ?_
    refine PoS.qk (⟨hle8,Zp2⟩) (YY Zz Zz ?_)
    refine Yb Zz Zz ?_
    refine PoS.qk (⟨hle8,Zp2⟩) (YJ Zz ?_)
    refine Yb Zz Zz ?_
    refine PoS.qk (⟨hle8,Zp2⟩) (YJ Zz ?_)
    refine Po.done ?_
    refine zW ?_;intros
    exact ret2 (H':=[]) rfl rfl rfl Zb ⟨rfl,hR8⟩
set_option maxHeartbeats 8000000 in
theorem forall_f {d:Nat} (ih:EffW d) {fz:FZ} {Ap Aw:Option Addr} {np cp nw cw:Nat} {ps:List Param} {ws:List Formula} {x w0:Sexpr} {r:List Sexpr} (hk:x.kids=w0::r) (hsz:∀ y∈r,SizeOf.sizeOf y≤d) (hs:XSm x) (hR:YW fz x vk) (hp:Sl paramL fz Ap np cp ps) (hw:Sl Y1 fz Aw nw cw ws) (hnp:np+xcount x≤100000000) (hnw:nw+xcount x≤100000000):
 GFn prog 222 [.agg #[.slice Ap np cp,.slice Aw nw cw],.agg #[.int .i64 x.kind,.int .i64 x.value,.int .i64 x.line,.int .i64 x.column,.string x.text,vk]] fz [] (fun r2 fz' H'=>H'=[]∧ResS changeL fz' (allM (effD d) ps ws r) r2):=by
 obtain ⟨A,n,c,rfl,ik⟩:=hR.kids
 have hl:=ik.len
 rw [hk,List.length_cons] at hl
 have bad:(∀ y z,r=[y,z]→y.kind≠3)→allM (effD d) ps ws r=.error 2:=fun h=>by
  unfold allM
  split
  ·rename_i y z;rw [if_pos (h y z rfl)]
  ·rfl
 refine zF Tryz.func222 Tryz.ntmps222 (fun w0=>?_)
 refine zW ?_;intros
 refine zC (fun c1=>?_) (fun c1=>?_)
 ·refine zW ?_;intros
  exact ret2 (H':=[]) rfl rfl rfl Zb ⟨rfl,by rw [bad (fun y z e=>by rw [e] at hl;simp at hl;omega)];exact ⟨rfl,by decide⟩⟩
 ·obtain ⟨y,z,rfl⟩:∃ y z,r=[y,z]:=by
   have h3:r.length=2:=by omega
   match r,h3 with
   | [y,z],_=>exact ⟨y,z,rfl⟩
  have hM:allM (effD d) ps ws [y,z]=if y.kind≠3 then .error 2 else match parM true y.kids [] [] with
   | .error c=>.error c
   | .ok l=>effD d (ps++l) ws z:=rfl
  have hy:x.kids[1]?=some y:=by rw [hk];rfl
  have hz:x.kids[2]?=some z:=by rw [hk];rfl
  have hsz2:=(Y8.1 hs).2 z (Zm hz)
  have hsy:=(Y8.1 hs).2 y (Zm hy)
  have hyl:y.kids.length≤1000000:=(Y8.1 hsy).1
  have hcx:=Xj x
  rw [hk] at hcx
  have hcy:=Xj y
  have hcyl:=X4 (l:=y.kids)
  simp only [xcountL] at hcx
  refine zW ?_;intros
  rename_i g2 g3
  refine zI ik hy (fun p hp1=>?_)
  refine zW ?_;intros
  ((refine zG ?_);refine Xy T Zz Zz Zz hp1.Sexpr_kind (fun i1=>?_))
  refine zC (fun c2=>?_) (fun c2=>?_)
  ·rw [if_pos c2] at hM
   refine zW ?_;intros
   exact ret2 (H':=[]) rfl rfl rfl Zb ⟨rfl,by rw [hM];exact ⟨rfl,by decide⟩⟩
  ·rw [if_neg (Classical.not_not.2 c2)] at hM
   refine zW ?_;intros
   refine zI ik hy (fun p3 hp3=>?_)
   refine zW ?_;intros
   ((refine zG ?_);refine Yc4 T Zz Zz Zz hp3.Sexpr_kids (fun Ay ny cy iy=>?_))
   have hyn:=iy.len
   refine Ya Zz (Ym [] _ Zz Zz Zz (Yar (b:=true) iy Zi) (fun r4 fz4 H4 hle4 hR4=>?_))
   obtain ⟨rfl,hR4⟩:=hR4
   cases hps:parM true y.kids [] [] with
   | error c=>
    rw [hps] at hM hR4
    obtain ⟨rfl,hc⟩:=hR4
    rw [Yj hc]
    refine zW ?_;intros
    exact ret2 (H':=[]) rfl rfl rfl Zb ⟨rfl,by rw [hM];exact ⟨by rw [Yj hc];rfl,hc⟩⟩
   | ok l=>
    rw [hps] at hM hR4
    obtain ⟨A5,n5,c5,rfl,il⟩:=hR4
    have hll:=Ydz hps
    have hn5:=il.len
    simp only [List.length_nil] at hll
    simp only at hM
    rw [List.nil_append]
    refine zW ?_;intros
    refine Ya Zz (Ym [] _ Zz Zz Zz (YaP (hp.mono hle4) Zi) (fun r6 fz6 Hc hle6 hR6=>?_))
    obtain ⟨Ap2,cp2,rfl,_,_⟩:=hR6.form
    refine zW ?_;intros
    refine Ya Zz (WF T (Hr:=[(g3,_),(g2,_)]) Zz Zz Zz Zz Zz Zz Zz Zz Zq hR6 WE (il.mono hle6) (by show _*32≤_;omega) Zi (fun v' Hs' hG'=>?_))
    obtain ⟨Ap3,cp3,rfl,_,_⟩:=hG'.form
    refine zWN ?_;intros
    refine Wp.freezeAll (H1:=[(g3,_),(g2,_)]) (H2:=Hs') (Zr _) (fun fz7 hle7 hf7=>?_)
    have hp7:=hG'.fz hle7 hf7 Zi
    have hle5:=hle6.trans hle7
    refine Wp.drawP [] (Hq:=[_,_]) T.mixed Zj Zj Zb ?_
    refine zW ?_;intros
    refine zI (ik.mono (hle4.trans hle5)) hz (fun p2 hp2=>?_)
    refine zL hp2 ?_
    intro cs2 hcs2
    obtain ⟨vz,rfl,hRz⟩:=Yh hcs2
    refine Ye ?_
    refine Ye ?_
    refine Ye ?_
    refine Ye ?_
    refine Ye ?_
    refine PK.done ⟨by kernel_rfl,?_⟩
    refine Yb Zz Zz ?_
    refine Yd (Ym [] [_,_] Zz Zz Zz (ih _ _ _ _ _ _ _ _ _ _ _ (hsz z (by simp)) hsz2 hRz hp7 (hw.mono (hle4.trans hle5)) Zi Zi) (fun r8 fz8 H8 hle8 hR8=>?_))
    obtain ⟨rfl,hR8⟩:=hR8
    obtain ⟨ra,rb,rfl⟩:=hR8.form
    rw [← hM] at hR8
    refine ⟨(⟨hle8,Zp2⟩),?_⟩
    refine YG Zz Zz Zz ?_ ?_
    ·refine PoS.qk (⟨hle8,Zp2⟩) (YY Zz Zz ?_)
     refine Yb Zz Zz ?_
     refine PoS.qk (⟨hle8,Zp2⟩) (YY Zz Zz ?_)
     refine Yb Zz Zz ?_
     refine PoS.qk (⟨hle8,Zp2⟩) (YJ Zz ?_)
     refine Yb Zz Zz ?_
     refine PoS.qk (⟨hle8,Zp2⟩) (YJ Zz ?_)
     refine Po.done ?_
     refine zW ?_;intros
     exact ret2 (H':=[]) rfl rfl rfl Zb ⟨rfl,hR8⟩
    ·refine PoS.qk (⟨hle8,Zp2⟩) (YY Zz Zz ?_)
     refine Yb Zz Zz ?_
     refine PoS.qk (⟨hle8,Zp2⟩) (YY Zz Zz ?_)
     refine Yb Zz Zz ?_
     refine PoS.qk (⟨hle8,Zp2⟩) (YJ Zz ?_)
     refine Yb Zz Zz ?_
     refine PoS.qk (⟨hle8,Zp2⟩) (YJ Zz ?_)
     refine Po.done ?_
     refine zW ?_;intros
     exact ret2 (H':=[]) rfl rfl rfl Zb ⟨rfl,hR8⟩
def effX (l:List Change):Sexpr:=if l=[] then YF [] else YF (Yi kAnd::l.map chX)
def Ya8 (l:List Change):Prop:=∀ c∈l,ChOk c
def Yi6 (l:List Change):Prop:=l.length≤1000000000∧∀ c∈l,ChSm c
theorem Yla:Short kAnd:=by unfold Short;decide
variable {g:Nat}
set_option maxHeartbeats 2000000 in
theorem YcX {fz:FZ} {b:Bool} {l:List Change} (h1:Sl changeL fz A n c l) (hs:Yi6 l):
 GFn prog 106 [.pointer (some ⟨g,0,none⟩),.slice A n c] fz [(g,wrO b)] (MkR g b (Ya8 l) (effX l) fz):=by
 have l1:=h1.len
 have hn:=hs.1
 refine zF Tryz.func106 Tryz.ntmps106 (fun w0=>?_)
 refine zW ?_;intros
 rename_i g4
 refine zC (fun c0=>?_) (fun c0=>?_)
 ·have hl:=(len0 l1).1 c0
  refine zW ?_;intros
  refine zc (Xk (A:=none) (n:=0) (c:=0)) ?_
  unfold sxV
  refine zW ?_;intros
  refine W6 T (i:=0) (H':=[(g,wrO b)]) rfl Zz Zz Zz Zz Zz Zb ?_
  exact ⟨Le.refl _,b,_,rfl,WS (Sl.nil Zi),by rw [hl];unfold Ya8;simp,fun _=>by rw [effX,if_pos hl]⟩
 ·have hl:l≠ []:=fun h0=>c0 ((len0 l1).2 h0)
  refine zW ?_;intros
  refine zc (WY (s:=kAnd)) ?_
  unfold sxV
  refine Ya Zz (Yc T (cs:=Yq kAnd) Zz Zz Zz Zz Zz Zz Zz Zz (fun gb=>?_))
  refine zc Xk ?_
  unfold sxV
  refine zW ?_;intros
  rename_i g5
  refine Wp.perm (XY [3,0,2,1] Zz Zz) ?_
  refine Yl (fun q σ fz' H'=>∃ (k:Nat) (v:Value) (Hs:HP) (b':Bool) (ys:List Sexpr),k≤n∧q=n - k∧σ=[(17,.int .i64 k),(16,.int .i64 n),(15,.slice A n c),(5,.pointer (some ⟨g5,0,none⟩)),(4,.pointer (some ⟨g4,0,none⟩)),(0,.pointer (some ⟨g,0,none⟩))]∧Le fz fz'∧
   H'=(g,wrO b')::(g5,.cells #[.int .i64 3,.int .i64 0,.int .i64 0,.int .i64 0,.string ⟨#[]⟩,v] 57 (0,0))::(g4,.cells #[.int .i64 0,.int .i64 0,.int .i64 0,.int .i64 0,.string ⟨#[]⟩,.slice none 0 0] 57 (0,0))::Hs∧Grow Yy 57 fz' v (k+1) Hs (Yi kAnd::ys)∧(b'=false↔b=false∧∀ i,i<k→∀ a,l[i]?=some a→ChOk a)∧(b'=false→ys=(l.take k).map chX))
   ⟨0,_,[_],b,[],Z0 _,rfl,rfl,Le.refl _,rfl,Grow.block (ys:=[(Yi kAnd,Yq kAnd)]) rfl rfl (by simpa using Yu Yla) rfl Zh,⟨fun h=>⟨h,fun i hi=>absurd hi Zi⟩,fun h=>h.1⟩,by simp⟩ Zw Zb ?_
  rintro q σ fz' H' ⟨k,v,Hs,b',ys,hk,rfl,rfl,hle,rfl,hG,hb,hys⟩
  obtain ⟨Av,cv,rfl,_,_⟩:=hG.form
  have h2:=h1.mono hle
  refine zW ?_;intros
  refine zC (fun c1=>?_) (fun c1=>?_)
  ·obtain ⟨x,hx⟩:=Yn (l:=l) (k:=k) Zi
   refine zW ?_;intros
   refine zI h2 hx (fun p hp=>?_)
   refine zL hp ?_
   intro cs hcs
   obtain ⟨v1,v2,v3,v4,v5,v6,v7,v8,rfl,hRx⟩:=XH hcs
   obtain ⟨A1,n1,b1,rfl,_⟩:=hRx.params
   obtain ⟨A2,n2,b2,rfl,_⟩:=hRx.when_.args
   obtain ⟨A3,n3,b3,rfl,_⟩:=hRx.when_.params
   obtain ⟨A4,n4,b4,rfl,_⟩:=hRx.when_.exprs
   obtain ⟨A5,n5,b5,rfl,_⟩:=hRx.when_.kids
   obtain ⟨A6,n6,b6,rfl,_⟩:=hRx.args
   obtain ⟨A7,n7,b7,rfl,_⟩:=hRx.value.args
   obtain ⟨A8,n8,b8,rfl,_⟩:=hRx.value.kids
   refine zW ?_;intros
   rename_i g7
   refine Wp.drawK (Hq:=[(g7,_),(g5,_),(g4,_)]) T.mixed Zj Zj Zb ?_
   refine zW ?_;intros
   refine Yf ?_
   refine Yf ?_
   refine Yf ?_
   refine zW ?_;intros
   refine Yf ?_
   refine YM ⟨by kernel_rfl,?_⟩
   refine Yt (Does.perm (List.Perm.swap _ _ _) (Ym [_] _ Zz Zz Zz (YkJ hRx (hs.2 x (Zm hx))) (fun v9 fz6 H6 hle6 hR6=>?_)))
   obtain ⟨_,b9,y6,rfl,⟨cs6,rfl,hr6⟩,hb6,hy6⟩:=hR6
   obtain ⟨vk6,rfl,hX6⟩:=Yh hr6
   refine ⟨(⟨hle6,Zx⟩),?_⟩
   refine Yt (Yc T (cs:=[.int .i64 y6.kind,.int .i64 y6.value,.int .i64 y6.line,.int .i64 y6.column,.string y6.text,vk6]) Zz Zz Zz Zz Zz Zz Zz Zz (fun gb=>⟨(⟨hle6,Zx⟩),?_⟩))
   refine Yt (YS T (Hr:=[_,_,_,_,_]) Zz Zz Zz Zz Zz Zz Zz Zz (Zr _) (hG.mono hle6) Ys (.head _) (Yg hX6) (by show _*72≤_;omega) Zi (fun v' Hs' hO'=>⟨(⟨hle6,Zx⟩),?_⟩))
   obtain ⟨Av',cv',rfl,_,_⟩:=hO'.form
   refine Ch.hard0 Zj (Wl T Zz Zz Zz Zz Zz Zz ?_)
   refine Ch.done ?_
   refine zW ?_;intros
   refine Yz ⟨k+1,_,Hs',b9,ys++ [y6],by omega,rfl,rfl,hle.trans hle6,rfl,hO',?_,fun h0=>?_⟩ Zi Zw Zb
   ·rw [hb6,hb]
    exact ⟨fun h0=>⟨h0.1.1,YL h0.1.2 hx h0.2⟩,fun h0=>⟨⟨h0.1,fun i hi=>h0.2 i Zi⟩,h0.2 k Zi x hx⟩⟩
   ·rw [hys (hb6.1 h0).1,hy6 h0,List.take_add_one,hx];simp
  ·have hk1:k=n:=by omega
   subst hk1
   refine zW ?_;intros
   refine Yc3 T (i:=2) (H':=[(g,wrO b')]) rfl Zz Zz Zz Zz Zz (Zr _) (fun fz3 hle3 hf3=>?_)
   obtain ⟨A',c',he,hsl⟩:=hG.sl hle3 (fun p hp=>hf3 p (by simp [hp])) Zi
   injection he with he1 he2 he3
   subst he1 he3
   refine ⟨hle.trans hle3,b',_,rfl,WS hsl,by rw [hb];exact ⟨fun h=>⟨h.1,Xs h.2 Zi⟩,fun h=>⟨h.1,fun i _ a ha=>h.2 a (Zm ha)⟩⟩,fun h0=>?_⟩
   rw [effX,if_neg hl,hys h0,Zl Zi]
end Go.Proofs.YtfjopfinkdhmaaaGreatDoor
