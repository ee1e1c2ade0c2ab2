/- The texts RW, RX, PGrd, PWalkQ, PWalkR, PWalkS, PWalkT, PGrp, PWalkW, laid together. Conditions: none. -/
import Derived.Test.YtfjopfinkdhmaaaGreatDoorRYO
set_option linter.all false
noncomputable section
set_option maxRecDepth 20000
namespace Go.Proofs.YtfjopfinkdhmaaaGreatDoor
open Go.Lx Go.RowKit
attribute [local instance 10] Classical.propDecidable
open Go.Proofs.Tryz (prog)
def titM (x:Sexpr):Except Int Bs:=match XF x with
 | none=>.error 2
 | some (w,r)=>match r with
  | [y]=>if w=Y7∧y.kind=1 then (if Y5 y.text then .ok y.text else .error 8) else .error 2
  | _=>.error 2
variable {fz:FZ} {vk:Value}
theorem title_q {x:Sexpr} (h:YW fz x vk):QFn prog 37 [.agg #[.int .i64 x.kind,.int .i64 x.value,.int .i64 x.line,.int .i64 x.column,.string x.text,vk]] fz (strV (titM x)):=by
 have hbeg:=YbZ h
 have hM:titM x=match XF x with
 | none=>.error 2
 | some (w,r)=>match r with
  | [y]=>if w=Y7∧y.kind=1 then (if Y5 y.text then .ok y.text else .error 8) else .error 2
  | _=>.error 2:=rfl
 obtain ⟨A,n,c,rfl,ik⟩:=h.kids
 have hl:=ik.len
 refine GFn.quiet ?_
 refine zF Tryz.func37 Tryz.ntmps37 (fun w0=>?_)
 refine zW ?_;intros
 cases hh:XF x with
 | none=>
  rw [hh] at hM hbeg
  rw [hM]
  refine zc hbeg ?_
  refine zW ?_;intros
  exact ret2 rfl rfl rfl Zb rfl
 | some wr=>
  obtain ⟨w,r⟩:=wr
  rw [hh] at hM hbeg
  simp only at hM
  obtain ⟨y,hk,rfl,hk3,hk1⟩:=XL hh
  have hk0:x.kids[0]?=some y:=by rw [hk];rfl
  rw [hk,List.length_cons] at hl
  refine zc hbeg ?_
  refine zW ?_;intros
  refine zC (fun c1=>?_) (fun c1=>?_)
  ·have hM2:titM x=.error 2:=by
    rw [hM]
    split
    ·simp at hl;omega
    ·rfl
   rw [hM2]
   refine zW ?_;intros
   exact ret2 rfl rfl rfl Zb rfl
  ·obtain ⟨u,rfl⟩:∃ u,r=[u]:=by
    have h3:r.length=1:=by omega
    match r,h3 with
    | [u],_=>exact ⟨u,rfl⟩
   simp only at hM
   have hu:x.kids[1]?=some u:=by rw [hk];rfl
   refine zW ?_;intros
   refine zI ik hk0 (fun p hp=>?_)
   refine zW ?_;intros
   refine zH hp.Sexpr_text (fun hst=>?_)
   refine zW ?_;intros
   refine zC (fun c2=>?_) (fun c2=>?_)
   ·rw [if_neg (fun h=>c2 h.1)] at hM
    rw [hM]
    refine zW ?_;intros
    exact ret2 rfl rfl rfl Zb rfl
   ·refine zW ?_;intros
    refine zI ik hu (fun p2 hp2=>?_)
    refine zL hp2 ?_
    intro cs hcs
    obtain ⟨vu,rfl,hRu⟩:=Yh hcs
    refine zb Ydc (fun f1=>?_) (fun f1=>?_)
    ·rw [if_pos ⟨show y.text=Y7 from c2,Zt f1⟩] at hM
     refine zW ?_;intros
     refine zI ik hu (fun p3 hp3=>?_)
     refine zW ?_;intros
     refine zH hp3.Sexpr_text (fun hst3=>?_)
     refine zW ?_;intros
     refine zb (Wk hst3) (fun f2=>?_) (fun f2=>?_)
     ·rw [if_pos (Zt f2)] at hM
      rw [hM]
      refine zW ?_;intros
      refine zI ik hu (fun p4 hp4=>?_)
      refine zW ?_;intros
      refine zH hp4.Sexpr_text (fun hst4=>?_)
      refine zW ?_;intros
      exact ret2 rfl rfl rfl Zb rfl
     ·rw [if_neg (Zf f2)] at hM
      rw [hM]
      refine zW ?_;intros
      exact ret2 rfl rfl rfl Zb rfl
    ·rw [if_neg (fun h=>Zf f1 h.2)] at hM
     rw [hM]
     refine zW ?_;intros
     exact ret2 rfl rfl rfl Zb rfl
theorem YdA {l:List Sexpr} {ps:List Param} {b:Bool} (h:parM b l [] []=.ok ps):ps.length≤l.length:=by
 have:=Ydz h
 simpa using this
theorem Ymo {v:Sexpr} {l:List Param} (hs:XSm v) (h:Yff v=.ok l):l.length≤1000000:=by
 unfold Yff at h
 split at h
 ·have h1:v.kids.length≤1000000:=(Y8.1 hs).1
  have:=YdA h
  omega
 ·cases h
theorem YhN {α:Type} {S:α→Bs→Sexpr→Except Int α} {p:α→Prop}:∀ {l:List (Bs × Sexpr)} {a b:α},(∀ a w v b,(w,v)∈l→p a→S a w v=.ok b→p b)→p a→YdI S a l=.ok b→p b
 | [],a,b,_,ha,h=>by rw [YdI] at h;injection h with h;exact h ▸ ha
 | q::r,a,b,hS,ha,h=>by
  rw [YdI] at h
  split at h
  ·cases h
  ·rename_i c hc
   exact YhN (fun a w v b hm=>hS a w v b (List.mem_cons_of_mem _ hm)) (hS a q.1 q.2 c (by simp) ha hc) h
theorem YjV {α:Type} {S:α→Bs→Sexpr→Except Int α} {p:α→Prop} {kw:List Bs} {a b:α} {x:Sexpr} (hs:XSm x) (hS:∀ a w v b,XSm v→p a→S a w v=.ok b→p b) (ha:p a) (h:finS S kw a x=.ok b):p b:=by
 unfold finS at h
 split at h
 ·cases h
 ·rename_i c hc
  split at h
  ·injection h with h
   subst h
   exact YhN (fun a w v b hm=>hS a w v b ((Y8.1 hs).2 _ (List.mem_of_mem_drop (Ygk hm)))) ha hc
  ·cases h
theorem Ycl:FSm XJ:=Wv.2 ⟨⟨by show 0≤_;omega,by show 0≤_;omega,by show 0≤_;omega⟩,fun e he=>(by cases he),fun k hk=>by cases hk⟩
theorem setA_sm {a b:Action} {w:Bs} {v:Sexpr} (hs:XSm v) (ha:actSm a) (h:setA a w v=.ok b):actSm b:=by
 obtain ⟨h1,h2,h3⟩:=ha
 rw [Yld] at h
 split at h
 ·split at h
  ·cases h
  ·rename_i l hl
   injection h with h;subst h
   exact ⟨Nat.le_trans (Ymo hs hl) Zh,h2,h3⟩
 ·split at h
  ·split at h
   ·cases h
   ·split at h
    ·cases h
    ·injection h with h;subst h;exact ⟨h1,h2,h3⟩
  ·split at h
   ·split at h
    ·cases h
    ·rename_i f hf
     injection h with h;subst h
     exact ⟨h1,Ybu hf,h3⟩
   ·split at h
    ·cases h
    ·rename_i l hl
     injection h with h;subst h
     exact ⟨h1,h2,YcJ hl⟩
theorem actM_sm {x:Sexpr} {a:Action} (hs:XSm x) (h:actM x=.ok a):actSm a:=by
 unfold actM at h
 split at h
 ·cases h
 ·exact YjV hs (fun a w v b hv ha hb=>setA_sm hv ha hb) ⟨by show 0≤_;omega,Ycl,by show 0≤_;omega,by intro c hc;cases hc⟩ h
theorem setD_sm {a b:Durative} {w:Bs} {v:Sexpr} (hs:XSm v) (ha:durSm a) (h:setD a w v=.ok b):durSm b:=by
 obtain ⟨h1,h2,h3,h4,h5,h6⟩:=ha
 rw [Ylc] at h
 split at h
 ·split at h
  ·cases h
  ·rename_i l hl
   injection h with h;subst h
   exact ⟨Nat.le_trans (Ymo hs hl) Zh,h2,h3,h4,h5,h6⟩
 split at h
 ·split at h
  ·cases h
  ·injection h with h;subst h;exact ⟨h1,h2,h3,h4,h5,h6⟩
 split at h
 ·split at h
  ·cases h
  ·rename_i f hf
   injection h with h;subst h
   exact ⟨h1,Ybu hf,h3,h4,h5,h6⟩
 split at h
 ·split at h
  ·cases h
  ·rename_i f hf
   injection h with h;subst h
   exact ⟨h1,h2,Ybu hf,h4,h5,h6⟩
 split at h
 ·split at h
  ·cases h
  ·rename_i f hf
   injection h with h;subst h
   exact ⟨h1,h2,h3,Ybu hf,h5,h6⟩
 split at h
 ·split at h
  ·cases h
  ·rename_i l hl
   injection h with h;subst h
   exact ⟨h1,h2,h3,h4,YcJ hl,h6⟩
 ·split at h
  ·cases h
  ·rename_i l hl
   injection h with h;subst h
   exact ⟨h1,h2,h3,h4,h5,YcJ hl⟩
theorem durM_sm {x:Sexpr} {a:Durative} (hs:XSm x) (h:durM x=.ok a):durSm a:=by
 unfold durM at h
 split at h
 ·cases h
 ·exact YjV hs (fun a w v b hv ha hb=>setD_sm hv ha hb) ⟨by show 0≤_;omega,Ycl,Ycl,Ycl,⟨by show 0≤_;omega,by intro c hc;cases hc⟩,by show 0≤_;omega,by intro c hc;cases hc⟩ h
structure DomT (k:Nat) (d:Domain):Prop where
 t:d.types.length≤1000000
 c:d.constants.length≤1000000
 p:d.predicates.length≤k*4096
 pp:∀ p∈d.predicates,p.params.length≤1000000
 f:d.functions.length≤k*4096
 fp:∀ p∈d.functions,p.params.length≤1000000
 a:d.actions.length≤k
 ac:∀ a∈d.actions,actSm a
 u:d.duratives.length≤k
 us:∀ a∈d.duratives,durSm a
variable {d:Domain} {k:Nat}
theorem DomT.step {d':Domain} {w:Bs} {r:List Sexpr} {x:Sexpr} (h:DomT k d) (hs:XSm x) (hr:∀ y∈r,XSm y) (hl:r.length≤4096) (e:secB d w r x=.ok d'):DomT (k+1) d':=by
 have h1:k*4096+4096=(k+1)*4096:=(Nat.succ_mul _ _).symm
 obtain ⟨t,c,p,pp,f,fp,a,ac,u,us⟩:=h
 have cat:∀ {α:Type} {q:α→Prop} {l m:List α},(∀ x∈l,q x)→(∀ x∈m,q x)→∀ x∈l++m,q x:=fun h1 h2 x hx=>by
  rcases List.mem_append.1 hx with hx | hx
  ·exact h1 x hx
  ·exact h2 x hx
 unfold secB at e
 split at e
 ·injection e with e;subst e;exact ⟨t,c,by omega,pp,by omega,fp,by omega,ac,by omega,us⟩
 split at e
 ·split at e
  ·cases e
  ·rename_i l hl2
   have:=YdA hl2
   injection e with e;subst e;exact ⟨by show l.length≤_;omega,c,by show d.predicates.length≤_;omega,pp,by show d.functions.length≤_;omega,fp,by show d.actions.length≤_;omega,ac,by show d.duratives.length≤_;omega,us⟩
 split at e
 ·split at e
  ·cases e
  ·rename_i l hl2
   have:=YdA hl2
   injection e with e;subst e;exact ⟨t,by show l.length≤_;omega,by show d.predicates.length≤_;omega,pp,by show d.functions.length≤_;omega,fp,by show d.actions.length≤_;omega,ac,by show d.duratives.length≤_;omega,us⟩
 split at e
 ·split at e
  ·cases e
  ·rename_i l hl2
   obtain ⟨h2,h3⟩:=Ycr hl2
   injection e with e;subst e
   refine ⟨t,c,by show (d.predicates++l).length≤_;rw [List.length_append];omega,cat pp (fun y hy=>?_),by show d.functions.length≤_;omega,fp,by show d.actions.length≤_;omega,ac,by show d.duratives.length≤_;omega,us⟩
   obtain ⟨z,h4,h5⟩:=h3 y hy
   unfold Yix at h5
   split at h5
   ·cases h5
   ·rename_i w' r' hh
    have:=Wm (hr z h4) hh
    split at h5
    ·split at h5
     ·cases h5
     ·rename_i l' hl'
      have:=YdA hl'
      injection h5 with h5;subst h5
      show l'.length≤_;omega
    ·cases h5
 split at e
 ·split at e
  ·cases e
  ·rename_i l hl2
   obtain ⟨h2,h3⟩:=Ycr hl2
   injection e with e;subst e
   refine ⟨t,c,by show d.predicates.length≤_;omega,pp,by show (d.functions++l).length≤_;rw [List.length_append];omega,cat fp (fun y hy=>?_),by show d.actions.length≤_;omega,ac,by show d.duratives.length≤_;omega,us⟩
   obtain ⟨z,h4,h5⟩:=h3 y hy
   unfold funM at h5
   split at h5
   ·cases h5
   ·rename_i w' r' hh
    have:=Wm (hr z h4) hh
    split at h5
    ·unfold funB at h5
     split at h5
     ·split at h5
      ·split at h5
       ·cases h5
       ·rename_i l' hl'
        have:=YdA hl'
        rw [List.length_take] at this
        injection h5 with h5;subst h5
        show l'.length≤_;omega
      ·cases h5
     ·cases h5
    ·cases h5
 split at e
 ·split at e
  ·cases e
  ·rename_i y hy
   injection e with e;subst e
   exact ⟨t,c,by show d.predicates.length≤_;omega,pp,by show d.functions.length≤_;omega,fp,by show (d.actions++ [y]).length≤_;rw [List.length_append];exact Nat.add_le_add_right a 1,cat ac (by intro z hz;simp at hz;subst hz;exact actM_sm hs hy),by show d.duratives.length≤_;omega,us⟩
 split at e
 ·split at e
  ·cases e
  ·rename_i y hy
   injection e with e;subst e
   exact ⟨t,c,by show d.predicates.length≤_;omega,pp,by show d.functions.length≤_;omega,fp,by show d.actions.length≤_;omega,ac,by show (d.duratives++ [y]).length≤_;rw [List.length_append];exact Nat.add_le_add_right u 1,cat us (by intro z hz;simp at hz;subst hz;exact durM_sm hs hy)⟩
 ·cases e
theorem DomT.sm (h:DomT k d) (hk:k≤5000):DomSm d:=by
 obtain ⟨t,c,p,pp,f,fp,a,ac,u,us⟩:=h
 have:k*4096≤5000*4096:=Nat.mul_le_mul_right _ hk
 exact ⟨by omega,by omega,by omega,fun x hx=>Nat.le_trans (pp x hx) Zh,by omega,fun x hx=>Nat.le_trans (fp x hx) Zh,by omega,ac,by omega,us⟩
def YhE:List Bs:=[Yaz,XN,XE,XM]
def secL:List Bs→Domain→List Sexpr→Except Int Domain
 | _,d,[]=>.ok d
 | s,d,x::r=>match XF x with
  | none=>.error 2
  | some (w,t)=>if w∈YhE∧w∈s then .error 4 else match secB d w t x with
   | .error c=>.error c
   | .ok d'=>secL (if w∈YhE then s++ [w] else s) d' r
def dPar (x:Sexpr):Except Int Domain:=match XF x with
 | none=>.error 2
 | some (w,r)=>if w=YB then (match r with
  | []=>.error 2
  | y::r'=>match titM y with
   | .error c=>.error c
   | .ok nm=>secL [] ⟨nm,[],[],[],[],[],[]⟩ r') else .error 2
def Yb2 (x:Sexpr):Except Int Domain:=if XVal x then (match dPar x with
 | .error c=>.error c
 | .ok d=>if Yck d∧XVal (domX d) then .ok d else .error 5) else .error 2
def YkD:Domain:=⟨⟨#[]⟩,[],[],[],[],[],[]⟩
theorem WM:YcP.rep fz YkD [.string ⟨#[]⟩,.slice none 0 0,.slice none 0 0,.slice none 0 0,.slice none 0 0,.slice none 0 0,.slice none 0 0]:=Ych (x:=YkD) ⟨XQ,IsSl.nil,IsSl.nil,IsSl.nil,IsSl.nil,IsSl.nil,IsSl.nil⟩
variable {g:Nat}
theorem DomS.new {nm:Bs} (h:Short nm):DomS fz g ⟨nm,[],[],[],[],[],[]⟩ [(g,.cells #[.string nm,.slice none 0 0,.slice none 0 0,.slice none 0 0,.slice none 0 0,.slice none 0 0,.slice none 0 0] 31 (0,0))]:=
 ⟨_,_,_,_,_,_,[],[],[],[],Zr _,h,IsSl.nil,IsSl.nil,Grow.nil _ _ _,Grow.nil _ _ _,Grow.nil _ _ _,Grow.nil _ _ _⟩
variable {H:HP} {fz':FZ}
theorem DomS.mono (h:DomS fz g d H) (hle:Le fz fz'):DomS fz' g d H:=by
 obtain ⟨v1,v2,vp,vf,va,vd,Hp,Hf,Ha,Hd,hperm,hdn,ht1,ht2,hgp,hgf,hga,hgd⟩:=h
 exact ⟨v1,v2,vp,vf,va,vd,Hp,Hf,Ha,Hd,hperm,hdn,ht1.mono hle,ht2.mono hle,hgp.mono hle,hgf.mono hle,hga.mono hle,hgd.mono hle⟩
theorem titM_err {x:Sexpr} {c:Int} (h:titM x=.error c):c≠0:=by
 unfold titM at h
 split at h
 ·injection h with h;omega
 ·split at h
  ·split at h
   ·split at h
    ·cases h
    ·injection h with h;omega
   ·injection h with h;omega
  ·injection h with h;omega
theorem titM_ok {x:Sexpr} {s:Bs} (h:titM x=.ok s) (hR:YW fz x vk):Short s:=by
 unfold titM at h
 split at h
 ·cases h
 ·split at h
  ·split at h
   ·split at h
    ·rename_i hn
     injection h with h
     subst h
     have:=hn.2.2.1;unfold Short;omega
    ·cases h
   ·cases h
  ·cases h
variable {Hs:HP} {v:Value}
theorem Grow.fzv {α:Type} {L:Lay α} {e:Nat} {l:List α} (hg:Grow L e fz v l.length Hs l) (hle:Le fz fz') (hf:∀ p∈Hs,fz' p.1=some p.2) (hn:l.length≤140737488355328):IsSl L fz' v l:=by
 obtain ⟨A1,c1,hv,h⟩:=hg.sl hle hf hn
 exact ⟨_,_,_,hv,h⟩
set_option maxHeartbeats 16000000 in
theorem dParse_f {x:Sexpr} (hR:YW fz x vk):
 GFn prog 16 [.agg #[.int .i64 x.kind,.int .i64 x.value,.int .i64 x.line,.int .i64 x.column,.string x.text,vk]] fz [] (fun r fz' H'=>H'=[]∧ResL YcP fz' (Yb2 x) r):=by
 have hRx:=hR
 have hbeg:=YbZ hR
 obtain ⟨A,n,c,rfl,ik⟩:=hR.kids
 have hl:=ik.len
 have hM:Yb2 x=if XVal x then (match dPar x with
 | .error c=>.error c
 | .ok d=>if Yck d∧XVal (domX d) then .ok d else .error 5) else .error 2:=rfl
 have hP:dPar x=match XF x with
 | none=>.error 2
 | some (w,r)=>if w=YB then (match r with
  | []=>.error 2
  | y::r'=>match titM y with
   | .error c=>.error c
   | .ok nm=>secL [] ⟨nm,[],[],[],[],[],[]⟩ r') else .error 2:=rfl
 refine zF Tryz.func16 Tryz.ntmps16 (fun w0=>?_)
 refine zW ?_;intros
 refine zb (WH hRx) (fun f1=>?_) (fun f1=>?_)
 ·have hv:=Zt f1
  have hcx:=hv.2.2
  have hsx:=hv.sm
  rw [if_pos hv] at hM
  have bad4:dPar x=.error 4→Yb2 x=.error 4:=fun e=>by rw [hM,e]
  have bad:dPar x=.error 2→Yb2 x=.error 2:=fun e=>by rw [hM,e]
  refine zW ?_;intros
  cases hh:XF x with
  | none=>
   rw [hh] at hbeg hP
   refine zc hbeg ?_
   refine zW ?_;intros
   exact YQ T (vs:=[.agg #[.string ⟨#[]⟩,.slice none 0 0,.slice none 0 0,.slice none 0 0,.slice none 0 0,.slice none 0 0,.slice none 0 0],.iface 65 (.int .i64 2)]) Zz ⟨⟨_,_,0,_,_,_,rfl,rfl,rfl,rfl,rfl,rfl⟩,rfl,trivial⟩ (fun fz3 hle3 hf3=>⟨rfl,ResL.err (bad hP) Zh WM⟩)
  | some wr=>
   obtain ⟨w,r⟩:=wr
   rw [hh] at hbeg hP
   simp only at hP
   obtain ⟨y0,hk,rfl,hk3,hk1⟩:=XL hh
   have hk0:x.kids[0]?=some y0:=by rw [hk];rfl
   rw [hk,List.length_cons] at hl
   have hcx2:=Xj x
   rw [hk,xcountL] at hcx2
   refine zc hbeg ?_
   refine zW ?_;intros
   refine zI ik hk0 (fun p hp=>?_)
   refine zW ?_;intros
   refine zH hp.Sexpr_text (fun hst=>?_)
   refine zW ?_;intros
   refine zC (fun c2=>?_) (fun c2=>?_)
   ·rw [if_neg (show ¬y0.text=YB from c2)] at hP
    refine zW ?_;intros
    exact YQ T (vs:=[.agg #[.string ⟨#[]⟩,.slice none 0 0,.slice none 0 0,.slice none 0 0,.slice none 0 0,.slice none 0 0,.slice none 0 0],.iface 65 (.int .i64 2)]) Zz ⟨⟨_,_,0,_,_,_,rfl,rfl,rfl,rfl,rfl,rfl⟩,rfl,trivial⟩ (fun fz3 hle3 hf3=>⟨rfl,ResL.err (bad hP) Zh WM⟩)
   ·rw [if_pos (show y0.text=YB from c2)] at hP
    refine zW ?_;intros
    refine zC (fun c3=>?_) (fun c3=>?_)
    ·have hr0:r=[]:=List.eq_nil_of_length_eq_zero Zi
     rw [hr0] at hP
     refine zW ?_;intros
     exact YQ T (vs:=[.agg #[.string ⟨#[]⟩,.slice none 0 0,.slice none 0 0,.slice none 0 0,.slice none 0 0,.slice none 0 0,.slice none 0 0],.iface 65 (.int .i64 2)]) Zz ⟨⟨_,_,0,_,_,_,rfl,rfl,rfl,rfl,rfl,rfl⟩,rfl,trivial⟩ (fun fz3 hle3 hf3=>⟨rfl,ResL.err (bad hP) Zh WM⟩)
    ·obtain ⟨u,r',rfl⟩:∃ u r',r=u::r':=by
      cases r with
      | nil=>simp at hl;omega
      | cons u r'=>exact ⟨u,r',rfl⟩
     simp only at hP
     have hu:x.kids[1]?=some u:=by rw [hk];rfl
     rw [xcountL] at hcx2
     refine zW ?_;intros
     refine zI ik hu (fun p2 hp2=>?_)
     refine zL hp2 ?_
     intro cs hcs
     obtain ⟨vu,rfl,hRu⟩:=Yh hcs
     have htit:=title_q hRu
     cases ht:titM u with
     | error c'=>
      rw [ht] at hP htit
      have hc:=titM_err ht
      refine zc htit ?_
      unfold strV
      refine zW ?_;intros
      exact YQ T (vs:=[.agg #[.string ⟨#[]⟩,.slice none 0 0,.slice none 0 0,.slice none 0 0,.slice none 0 0,.slice none 0 0,.slice none 0 0],.iface 65 (.int .i64 c')]) Zz ⟨⟨_,_,1,_,_,_,rfl,rfl,rfl,rfl,rfl,rfl⟩,rfl,trivial⟩ (fun fz3 hle3 hf3=>⟨rfl,ResL.err (by rw [hM,hP]) hc WM⟩)
     | ok nm=>
      rw [ht] at hP htit
      have hnm:=titM_ok ht hRu
      simp only at hP
      refine zc htit ?_
      unfold strV
      refine zW ?_;intros
      refine Ya Zz (Yat (fun gm=>?_))
      refine zW ?_;intros
      refine zG ?_;refine Xu (j:=2) T Zz Zz Zz Zz Zz Zz ik Zi (fun A' hA'=>?_)
      rw [hk,List.drop_succ_cons,List.drop_succ_cons,List.drop_zero] at hA'
      have hrl:=hA'.len
      have hrc:=X4 (l:=r')
      refine zW ?_;intros
      rename_i g1 g2 g4
      refine Wp.perm (List.Perm.cons _ (List.Perm.swap _ _ _)) ?_
      refine Yl (fun q σ fz' H'=>∃ (k:Nat) (d:Domain) (HD:HP) (ms:List (Bs × Value)) (seen:List Bs),k≤n - 2∧q=n - 2 - k∧σ=[(55,.int .i64 k),(54,.int .i64 (n - 2:Nat)),(53,.slice A' (n - 2) (c - 2)),(6,.map (some gm)),(4,.pointer (some ⟨g4,0,none⟩)),(2,.pointer (some ⟨g2,0,none⟩))]∧Le fz fz'∧H'=(gm,mapS ms)::(g2,.cells #[.string ⟨#[]⟩,.slice none 0 0,.slice none 0 0,.slice none 0 0,.slice none 0 0,.slice none 0 0,.slice none 0 0] 31 (0,0))::HD∧DomS fz' g4 d HD∧Yb4 ms seen∧DomT k d∧dPar x=secL seen d (r'.drop k)) ⟨0,_,_,[],[],Z0 _,rfl,rfl,Le.refl _,rfl,DomS.new hnm,Yb4.nil,⟨by show 0≤_;omega,by show 0≤_;omega,by show 0≤_;omega,by simp,by show 0≤_;omega,by simp,by show 0≤_;omega,by simp,by show 0≤_;omega,by simp⟩,hP⟩ Zw Zb ?_
      rintro q σ fz' H' ⟨k,d,HD,ms,seen,hkn,rfl,rfl,hle,rfl,hD,hS,hT,hF⟩
      refine zW ?_;intros
      refine zC (fun c4=>?_) (fun c4=>?_)
      ·obtain ⟨z,hz⟩:=Yn (l:=r') (k:=k) Zi
       have hzm:=Zm hz
       have hcz:=XT hzm
       have hsz:XSm z:=(Y8.1 hsx).2 z (by rw [hk];simp [hzm])
       rw [Ybj hz,secL] at hF
       refine zW ?_;intros
       refine zI (hA'.mono hle) hz (fun p3 hp3=>?_)
       refine zL hp3 ?_
       intro cs3 hcs3
       obtain ⟨vz,rfl,hRz⟩:=Yh hcs3
       have hRz':=hRz
       have hbz:=YbZ hRz
       obtain ⟨Az,nz,cz,rfl,iz⟩:=hRz.kids
       refine zW ?_;intros
       rename_i g8
       cases hhz:XF z with
       | none=>
        rw [hhz] at hF hbz
        refine zc hbz ?_
        refine zW ?_;intros
        exact YQ T (vs:=[.agg #[.string ⟨#[]⟩,.slice none 0 0,.slice none 0 0,.slice none 0 0,.slice none 0 0,.slice none 0 0,.slice none 0 0],.iface 65 (.int .i64 2)]) Zz ⟨⟨_,_,2,_,_,_,rfl,rfl,rfl,rfl,rfl,rfl⟩,rfl,trivial⟩ (fun fz3 hle3 hf3=>⟨rfl,ResL.err (bad hF) Zh WM⟩)
       | some wt=>
        obtain ⟨w,t⟩:=wt
        rw [hhz] at hF hbz
        simp only at hF
        obtain ⟨y1,hk5,rfl,hk6,hk7⟩:=XL hhz
        have hk8:z.kids[0]?=some y1:=by rw [hk5];rfl
        have htl:t.length≤4096:=by
         have h1:=Xj z
         have h2:=X4 (l:=z.kids)
         rw [hk5,List.length_cons] at h2
         rw [hk5] at h1
         omega
        refine zc hbz ?_
        refine zWX ?_;intros
        refine Yk ?_
        refine zWX ?_;intros
        refine zI iz hk8 (fun p4 hp4=>?_)
        refine zWX ?_;intros
        refine zH hp4.Sexpr_text (fun hst4=>?_)
        refine zWX ?_;intros
        refine Yk (Wp.mid (fun σ fz5 H'=>∃ ms2:List (Bs × Value),σ=[(55,.int .i64 k),(54,.int .i64 (n - 2:Nat)),(53,.slice A' (n - 2) (c - 2)),(8,.pointer (some ⟨g8,0,none⟩)),(6,.map (some gm)),(4,.pointer (some ⟨g4,0,none⟩)),(2,.pointer (some ⟨g2,0,none⟩))]∧Le fz' fz5∧H'=(g8,.cells #[.int .i64 z.kind,.int .i64 z.value,.int .i64 z.line,.int .i64 z.column,.string z.text,.slice Az nz cz] 57 (0,0))::(gm,mapS ms2)::(g2,.cells #[.string ⟨#[]⟩,.slice none 0 0,.slice none 0 0,.slice none 0 0,.slice none 0 0,.slice none 0 0,.slice none 0 0] 31 (0,0))::HD∧Yb4 ms2 (if y1.text∈YhE then seen++ [y1.text] else seen)∧¬(y1.text∈YhE∧y1.text∈seen)) ?_ ?_)
        ·refine zW ?_;intros
         refine Ya Zz (Yc T (cs:=[.string Yaz,.string XN,.string XE,.string XM]) Zz Zz Zz Zz Zz Zz Zz Zz (fun gb=>?_))
         first | refine Wp.freeze Zz (fun fz2 hle2 hg2=>?_) | refine Seq.freeze Zz (fun fz2 hle2 hg2=>?_)
         have hkw:Sl strL fz2 (some ⟨gb,0,none⟩) 4 4 YhE:=Xt (ys:=[(Yaz,[.string Yaz]),(XN,[.string XN]),(XE,[.string XE]),(XM,[.string XM])]) hg2 rfl rfl (by intro p hp;simp only [List.mem_cons,List.not_mem_nil,_root_.or_false] at hp;rcases hp with rfl | rfl | rfl | rfl<;>exact ⟨rfl,by show _≤_;decide⟩) rfl Zh
         refine zW ?_;intros
         refine zb (YcQ (x:=y1.text) hkw) (fun f2=>?_) (fun f2=>?_)
         ·have hin:=Zt f2
          refine zW ?_;intros
          refine zG ?_;refine Yak T 1 Zz Zz Zz Zz Zz Zz Zz Zz hS.get ?_
          refine zW ?_;intros
          by_cases hm:y1.text∈seen
          ·rw [if_pos ⟨hin,hm⟩] at hF
           rw [decide_eq_true hm]
           refine zW ?_;intros
           exact YQ T (vs:=[.agg #[.string ⟨#[]⟩,.slice none 0 0,.slice none 0 0,.slice none 0 0,.slice none 0 0,.slice none 0 0,.slice none 0 0],.iface 65 (.int .i64 4)]) Zz ⟨⟨_,_,2,_,_,_,rfl,rfl,rfl,rfl,rfl,rfl⟩,rfl,trivial⟩ (fun fz3 hle3 hf3=>⟨rfl,ResL.err (bad4 hF) Zh WM⟩)
          ·rw [decide_eq_false hm]
           refine zW ?_;intros
           refine YE (Wb T (pre:=[_]) Zz Zz Zz Zz Zz Zz Zz (Zr _) ?_)
           refine zW ?_;intros
           exact midN ⟨_,rfl,hle2,rfl,by rw [if_pos hin];exact hS.add y1.text,fun h=>hm h.2⟩ Zw Zb
         ·have hin:=Zf f2
          refine zW ?_;intros
          exact midN ⟨ms,rfl,hle2,rfl,by rw [if_neg hin];exact hS,fun h=>hin h.1⟩ Zw Zb
        rintro σ fz5 H' ⟨ms2,rfl,hle5,rfl,hS2,hnd⟩
        rw [if_neg hnd] at hF
        refine zW ?_;intros
        refine Ya Zz (Does.perm (Zq (l₁:=HD) (l₂:=[(g8,_),(gm,_),(g2,_)])) (Ym HD [(g8,_),(gm,_),(g2,_)] Zz Zz Zz (Yle hhz hsz (hD.mono hle5) (hRz'.mono hle5) (by have:=hT.p;have:k*4096≤4096*4096:=Nat.mul_le_mul_right _ Zi;omega) (by have:=hT.f;have:k*4096≤4096*4096:=Nat.mul_le_mul_right _ Zi;omega) (by have:=hT.a;omega) (by have:=hT.u;omega)) (fun v6 fz6 H6 hle6 hR6=>?_)))
        obtain ⟨_,hR6⟩:=hR6
        cases hx:secB d y1.text t z with
        | error c'=>
         rw [hx] at hR6 hF
         obtain ⟨rfl,hc,rfl⟩:=hR6
         rw [Yj hc,List.nil_append]
         refine zW ?_;intros
         exact YQ T (vs:=[.agg #[.string ⟨#[]⟩,.slice none 0 0,.slice none 0 0,.slice none 0 0,.slice none 0 0,.slice none 0 0,.slice none 0 0],.iface 65 (.int .i64 c')]) Zz ⟨⟨_,_,2,_,_,_,rfl,rfl,rfl,rfl,rfl,rfl⟩,rfl,trivial⟩ (fun fz3 hle3 hf3=>⟨rfl,ResL.err (by rw [hM,hF]) hc WM⟩)
        | ok d2=>
         rw [hx] at hR6 hF
         obtain ⟨rfl,hD6⟩:=hR6
         refine Seq.perm (H':=[(g8,_),(gm,_),(g2,_)]++H6) Zq ?_
         have hT2:=hT.step hsz (fun y hy=>X7 hsz hhz hy) htl hx
         refine zW ?_;intros
         exact Yz (H':=(gm,_)::(g2,_)::H6) ⟨k+1,d2,H6,ms2,_,by omega,rfl,rfl,hle.trans (hle5.trans hle6),rfl,hD6,hS2,hT2,hF⟩ Zi Zw Zb
      ·rw [List.drop_eq_nil_of_le Zi,secL] at hF
       have hsm:=hT.sm Zi
       rw [hF] at hM
       simp only at hM
       obtain ⟨v1,v2,vp,vf,va,vd,Hp,Hf,Ha,Hd,hperm,hdn,ht1,ht2,hgp,hgf,hga,hgd⟩:=hD
       refine Seq.freezeAll (H1:=[(gm,_),(g2,_),(g4,_)]) (H2:=Hp++(Hf++(Ha++Hd))) (List.Perm.cons _ (List.Perm.cons _ hperm)) (fun fz5 hle5 hf5=>?_)
       have hDR:DomainR fz5 d v1 v2 vp vf va vd:=⟨hdn,ht1.mono hle5,ht2.mono hle5,
        Grow.fzv hgp hle5 (fun p hp=>hf5 p (by simp [hp])) (by have:=hsm.predicates;omega),Grow.fzv hgf hle5 (fun p hp=>hf5 p (by simp [hp])) (by have:=hsm.functions;omega),
        Grow.fzv hga hle5 (fun p hp=>hf5 p (by simp [hp])) (by have:=hsm.actions;omega),Grow.fzv hgd hle5 (fun p hp=>hf5 p (by simp [hp])) (by have:=hsm.duratives;omega)⟩
       have hDR':=hDR
       obtain ⟨T1,t1,z1,rfl,_⟩:=hDR.types
       obtain ⟨T2,t2,z2,rfl,_⟩:=hDR.constants
       obtain ⟨T3,t3,z3,rfl,_⟩:=hDR.predicates
       obtain ⟨T4,t4,z4,rfl,_⟩:=hDR.functions
       obtain ⟨T5,t5,z5,rfl,_⟩:=hDR.actions
       obtain ⟨T6,t6,z6,rfl,_⟩:=hDR.duratives
       refine zW ?_;intros
       refine Ya Zz (Ym [] _ Zz Zz Zz (YgP hDR' hsm) (fun r6 fz6 H6 hle6 hR6=>?_))
       obtain ⟨rfl,u6,y6,rfl,⟨cs6,rfl,hr6⟩,hy6⟩:=hR6
       obtain ⟨vk6,rfl,hX6⟩:=Yh hr6
       obtain ⟨A6,n6,c6,rfl,_⟩:=hX6.kids
       by_cases hOk:Yck d∧XVal (domX d)
       ·rw [if_pos hOk] at hM ⊢
        rw [show errV 0=.nilIface from rfl]
        refine zW ?_;intros
        exact YQ T (vs:=[.agg #[.string d.name,.slice T1 t1 z1,.slice T2 t2 z2,.slice T3 t3 z3,.slice T4 t4 z4,.slice T5 t5 z5,.slice T6 t6 z6],.nilIface]) Zz ⟨⟨_,_,2,_,_,_,rfl,rfl,rfl,rfl,rfl,rfl⟩,rfl,trivial⟩ (fun fz3 hle3 hf3=>⟨rfl,ResL.fine hM (Ych (hDR'.mono (hle6.trans hle3)))⟩)
       ·rw [if_neg hOk] at hM ⊢
        rw [Yj Zh]
        refine zW ?_;intros
        exact YQ T (vs:=[.agg #[.string ⟨#[]⟩,.slice none 0 0,.slice none 0 0,.slice none 0 0,.slice none 0 0,.slice none 0 0,.slice none 0 0],.iface 65 (.int .i64 5)]) Zz ⟨⟨_,_,2,_,_,_,rfl,rfl,rfl,rfl,rfl,rfl⟩,rfl,trivial⟩ (fun fz3 hle3 hf3=>⟨rfl,ResL.err (hM) Zh WM⟩)
 ·rw [if_neg (Zf f1)] at hM
  refine zW ?_;intros
  exact YQ T (vs:=[.agg #[.string ⟨#[]⟩,.slice none 0 0,.slice none 0 0,.slice none 0 0,.slice none 0 0,.slice none 0 0,.slice none 0 0],.iface 65 (.int .i64 2)]) Zz ⟨⟨_,_,0,_,_,_,rfl,rfl,rfl,rfl,rfl,rfl⟩,rfl,trivial⟩ (fun fz3 hle3 hf3=>⟨rfl,ResL.err hM Zh WM⟩)
end Go.Proofs.YtfjopfinkdhmaaaGreatDoor
namespace Go.Proofs.YtfjopfinkdhmaaaGreatDoor
open Go.Lx Go.RowKit
attribute [local instance 10] Classical.propDecidable
def GrdA (a:Atom):Prop:=Y5 a.name∧∀ s∈a.args,Y5 s
end Go.Proofs.YtfjopfinkdhmaaaGreatDoor
namespace Go.Proofs.YtfjopfinkdhmaaaGreatDoor
open Go.Lx Go.RowKit
attribute [local instance 10] Classical.propDecidable
open Go.Proofs.Tryz (prog)
variable {fz:FZ}
theorem right1_q {s:Bs} (hs:Short s):QFn prog 159 [.string s] fz (.bool (decide (¬Y5 s))):=by
 refine GFn.quiet ?_
 refine zF Tryz.func159 Tryz.ntmps159 (fun w0=>?_)
 refine zW ?_;intros
 refine zb (Wk hs) (fun f1=>?_) (fun f1=>?_)
 ·refine zW ?_;intros
  exact ret1 rfl rfl Zb (Yo (fun h0=>h0 (Zt f1)))
 ·refine zW ?_;intros
  exact ret1 rfl rfl Zb (Yv (Zf f1))
variable {va:Value}
theorem Ylh {a:Atom} (h:AtomR fz a va):QFn prog 109 [.agg #[.string a.name,va]] fz (.bool (decide (GrdA a))):=by
 obtain ⟨A,n,c,rfl,ia⟩:=h.args
 refine GFn.quiet ?_
 refine zF Tryz.func109 Tryz.ntmps109 (fun w0=>?_)
 refine Yk (Yr (Ya Zz (Xc _ Zz Zz (fun g0=>?_))))
 refine zW ?_;intros
 refine zb (Wk h.name) (fun f1=>?_) (fun f1=>?_)
 ·refine zW ?_;intros
  ((refine zG ?_);refine Wf Zz Zz (YbX ia (fun x hx=>right1_q hx)) (fun f2=>?_) (fun f2=>?_))
  ·refine zW ?_;intros
   (exact ret1 rfl rfl Zb (Yo (fun h0=>by
    obtain ⟨x,hx,hx2⟩:=Zt f2
    exact hx2 (h0.2 x hx))))
  ·refine zW ?_;intros
   exact ret1 rfl rfl Zb (Yv ⟨Zt f1,fun x hx=>Classical.byContradiction fun h0=>Zf f2 ⟨x,hx,h0⟩⟩)
 ·refine zW ?_;intros
  exact ret1 rfl rfl Zb (Yo (fun h0=>Zf f1 h0.1))
set_option maxHeartbeats 1000000 in
theorem Yeo {a:Atom} (h:AtomR fz a va) (hn:a.args.length≤1000000000):
 GFn prog 59 [.agg #[.string a.name,va]] fz [] (fun v fz' H'=>H'=[]∧SxIs fz' v (W0 a.name a.args)):=by
 obtain ⟨A,n,c,rfl,h1⟩:=h.args
 have l1:=h1.len
 refine zF Tryz.func59 Tryz.ntmps59 (fun w0=>?_)
 refine Yk (Yr (Ya Zz (Xc _ Zz Zz (fun g0=>?_))))
 refine zW ?_;intros
 rename_i g4
 refine zc (WW (s:=a.name)) ?_
 refine Ya Zz (Yc T (cs:=Yq a.name) Zz Zz Zz Zz Zz Zz Zz Zz (fun gb=>?_))
 refine zc XX ?_
 refine zW ?_;intros
 rename_i g5
 refine Wp.perm (XY [0,2,1,3] rfl rfl) ?_
 refine Yl (fun q σ fz' H'=>∃ (k:Nat) (v:Value) (Hs:HP),k≤n∧q=n - k∧σ=[(14,.int .i64 k),(13,.int .i64 n),(12,.slice A n c),(3,.pointer (some ⟨g5,0,none⟩)),(2,.pointer (some ⟨g4,0,none⟩))]∧fz=fz'∧
  H'=(g5,.cells #[.int .i64 3,.int .i64 0,.int .i64 0,.int .i64 0,.string ⟨#[]⟩,v] 57 (0,0))::(g4,.cells #[.int .i64 0,.int .i64 0,.int .i64 0,.int .i64 0,.string ⟨#[]⟩,.slice none 0 0] 57 (0,0))::Hs∧Grow Yy 57 fz' v (k+1) Hs (Yi a.name::(a.args.take k).map Yi))
  ⟨0,_,[_],Z0 _,rfl,rfl,rfl,rfl,Grow.block (ys:=[(Yi a.name,Yq a.name)]) rfl rfl (by simpa using Yu h.name) rfl Zh⟩ Zw Zb ?_
 rintro q σ fz' H' ⟨k,v,Hs,hk,rfl,rfl,rfl,rfl,hO⟩
 refine zW ?_;intros
 refine zC (fun c1=>?_) (fun c1=>?_)
 ·obtain ⟨x,hx⟩:=Yn (l:=a.args) (k:=k) Zi
  obtain ⟨Av,cv,rfl,_,_⟩:=hO.form
  refine zW ?_;intros
  refine zI h1 hx (fun p hp=>?_)
  refine zH hp (fun ix=>?_)
  refine zW ?_;intros
  refine Wp.drawK (Hq:=[_,_]) T.mixed Zj Zj Zb ?_
  refine zW ?_;intros
  refine zc (WW (s:=x)) ?_
  unfold sxV
  refine Yf ?_
  refine Yf ?_
  refine zW ?_;intros
  refine Yf ?_
  refine YM ⟨by kernel_rfl,?_⟩
  refine Yt (Yc T (cs:=Yq x) Zz Zz Zz Zz Zz Zz Zz Zz (fun gb=>⟨(⟨Le.refl _,Zx⟩),?_⟩))
  refine Yt (YS T (Hr:=[_,_,_]) (d:=Yi x) Zz Zz Zz Zz Zz Zz Zz Zz (Zr _) hO Ys (.head _) (Yu ix) (by show _*72≤_;omega) Zi (fun v' Hs' hO'=>⟨(⟨Le.refl _,Zx⟩),?_⟩))
  obtain ⟨Av',cv',rfl,_,_⟩:=hO'.form
  refine Ch.hard0 Zj (YN T Zz Zz Zz Zz Zz Zz ?_)
  refine Ch.done ?_
  refine zW ?_;intros
  exact Yz ⟨k+1,_,Hs',by omega,rfl,rfl,rfl,rfl,hO'.of (by rw [List.take_add_one,hx];simp) rfl⟩ Zi Zw Zb
 ·have hk1:k=n:=by omega
  subst hk1
  obtain ⟨Av,cv,rfl,_,_⟩:=hO.form
  rw [Zl Zi] at hO
  refine zW ?_;intros
  refine X8 T (i:=1) rfl Zz Zz Zz Zz Zz (fun fz3 hle3 hf3=>⟨rfl,?_⟩)
  obtain ⟨A',c',he,hsl⟩:=hO.sl hle3 (fun p hp=>hf3 p (by simp [hp])) Zi
  injection he with he1 he2 he3
  subst he1 he3
  exact WS hsl
variable {A:Option Addr} {n:Nat}
theorem YlY {c:Nat} {l:List Atom} {ff:FuncId} {p:Atom→Prop} [DecidablePred p] (h1:Sl atomL fz A n c l) (hq:∀ x va,AtomR fz x va→QFn prog ff [.agg #[.string x.name,va]] fz (.bool (decide (p x)))):
 QFn prog 160 [.slice A n c,.func (.func ff) #[] #[]] fz (.int .i64 (Wt p l 0)):=by
 refine GFn.quiet ?_
 refine zF Tryz.func160 Tryz.ntmps160 (fun w0=>?_)
 have l1:=h1.len
 have hm:=h1.short
 refine zW ?_;intros
 refine Yl (fun q σ fz' H'=>∃ k:Nat,k≤n∧q=n - k∧σ=[(8,.int .i64 k),(7,.int .i64 n),(0,.slice A n c),(1,.func (.func ff) #[] #[])]∧fz=fz'∧H'=[]∧(∀ i,i<k→∀ x,l[i]?=some x→¬p x)) ⟨0,Z0 _,rfl,rfl,rfl,rfl,(fun i hi=>absurd hi Zi)⟩ Zw Zb ?_;rintro q σ fz' H' ⟨k,hk,rfl,rfl,rfl,rfl,hh⟩
 refine zW ?_;intros
 refine zC (fun hlt=>?_) (fun hge=>?_)
 ·refine zW ?_;intros
  obtain ⟨x,hx⟩:=Yn (l:=l) (k:=k) Zi
  refine zI h1 hx (fun a ha=>?_)
  refine zL ha ?_
  intro cs hcs
  obtain ⟨va,rfl,hR⟩:=Ww hcs
  refine zW ?_;intros
  ((refine zG ?_);refine WQ Zz Zz Zz (hq x va hR) (fun c1=>?_) (fun c1=>?_))
  ·refine zW ?_;intros
   exact zR (h:=by rw [WP hh hx c1,Int.zero_add])
  ·refine zW ?_;intros
   exact Yz ⟨k+1,by omega,rfl,rfl,rfl,rfl,(YL hh hx c1)⟩ Zi Zw Zb
 ·refine zW ?_;intros
  exact zR (h:=by rw [Wi (Xs hh Zi)])
theorem Yh3 {c:Nat} {l:List Atom} {ff:FuncId} {p:Atom→Prop} [DecidablePred p] (h1:Sl atomL fz A n c l) (hq:∀ x va,AtomR fz x va→QFn prog ff [.agg #[.string x.name,va]] fz (.bool (decide (p x)))):
 QFn prog 110 [.slice A n c,.func (.func ff) #[] #[]] fz (.bool (decide (∃ x∈l,p x))):=by
 refine GFn.quiet ?_
 refine zF Tryz.func110 Tryz.ntmps110 (fun w0=>?_)
 refine zW ?_;intros
 refine zc (YlY h1 hq) ?_
 refine zC (fun c1=>?_) (fun c1=>?_)
 ·refine zW ?_;intros
  exact ret1 rfl rfl Zb (Yv ((Xo (Int.le_refl 0)).1 c1))
 ·refine zW ?_;intros
  exact ret1 rfl rfl Zb (Yo (fun h=>c1 ((Xo (Int.le_refl 0)).2 h)))
theorem expr1_q {a:Atom} (h:AtomR fz a va):QFn prog 111 [.agg #[.string a.name,va]] fz (.bool (decide (¬GrdA a))):=by
 have h0:=h
 obtain ⟨A,n,c,rfl,ia⟩:=h.args
 refine GFn.quiet ?_
 refine zF Tryz.func111 Tryz.ntmps111 (fun w0=>?_)
 refine Yk (Yr (Ya Zz (Xc _ Zz Zz (fun g0=>?_))))
 refine zW ?_;intros
 refine zb (Ylh h0) (fun f1=>?_) (fun f1=>?_)
 ·refine zW ?_;intros
  exact ret1 rfl rfl Zb (Yo (fun h0=>h0 (Zt f1)))
 ·refine zW ?_;intros
  exact ret1 rfl rfl Zb (Yv (Zf f1))
def ValOk (v:Value_):Prop:=GrdA v.fluent∧Ya3 v.n
def YcA (p:Problem):Prop:=Y5 p.name∧Y5 p.domain∧(∀ o∈p.objects,Wz false o)∧(∀ v∈p.values,ValOk v)∧∀ a∈p.init,GrdA a
variable {v1 v2 v3 v4 v5 v6 v7:Value}
set_option maxHeartbeats 2000000 in
theorem YgJ {p:Problem} (h:ProblemR fz p v1 v2 v3 v4 v5 v6 v7):
 QFn prog 55 [.agg #[.string p.name,.string p.domain,v1,v2,v3,.string p.goal.op,.string p.goal.name,v4,v5,v6,v7]] fz (.bool (decide (YcA p))):=by
 obtain ⟨A1,n1,b1,rfl,io⟩:=h.objects
 obtain ⟨A2,n2,b2,rfl,ii⟩:=h.init
 obtain ⟨A3,n3,b3,rfl,iv⟩:=h.values
 obtain ⟨A4,n4,b4,rfl,_⟩:=h.goal.args
 obtain ⟨A5,n5,b5,rfl,_⟩:=h.goal.params
 obtain ⟨A6,n6,b6,rfl,_⟩:=h.goal.exprs
 obtain ⟨A7,n7,b7,rfl,_⟩:=h.goal.kids
 have lo:=io.len
 have lv:=iv.len
 have so:=io.short
 have sv:=iv.short
 refine GFn.quiet ?_
 refine zF Tryz.func55 Tryz.ntmps55 (fun w0=>?_)
 refine Yk (Yr (Ya Zz (Xc _ Zz Zz (fun g0=>?_))))
 refine zW ?_;intros
 refine zb (Wk h.name) (fun f1=>?_) (fun f1=>?_)
 ·refine zW ?_;intros
  refine zb (Wk h.domain) (fun f2=>?_) (fun f2=>?_)
  ·refine zW ?_;intros
   refine Yl (fun q σ fz' H'=>∃ k:Nat,k≤n1∧q=n1 - k∧σ=[(20,.int .i64 k),(19,.int .i64 n1),(18,.slice A1 n1 b1),(1,.pointer (some ⟨g0,0,none⟩))]∧fz=fz'∧H'=[(g0,.cells #[.string p.name,.string p.domain,.slice A1 n1 b1,.slice A2 n2 b2,.slice A3 n3 b3,.string p.goal.op,.string p.goal.name,.slice A4 n4 b4,.slice A5 n5 b5,.slice A6 n6 b6,.slice A7 n7 b7] 40 (0,0))]∧(∀ i,i<k→∀ x,p.objects[i]?=some x→Wz false x)) ⟨0,Z0 _,rfl,rfl,rfl,rfl,fun i hi=>absurd hi Zi⟩ Zw Zb ?_
   rintro q σ fz' H' ⟨k,hk,rfl,rfl,rfl,rfl,hh⟩
   refine zW ?_;intros
   refine zC (fun c1=>?_) (fun c1=>?_)
   ·obtain ⟨x,hx⟩:=Yn (l:=p.objects) (k:=k) Zi
    have bad:¬Wz false x→¬YcA p:=fun h0 h=>h0 (h.2.2.1 x (Zm hx))
    refine zW ?_;intros
    refine zI io hx (fun a ha=>?_)
    refine zL ha ?_
    intro cs hcs
    obtain ⟨rfl,hR⟩:=YV hcs
    refine zW ?_;intros
    refine zb (Wk hR.name) (fun f3=>?_) (fun f3=>?_)
    ·refine zW ?_;intros
     refine zb (Wk hR.typ) (fun f4=>?_) (fun f4=>?_)
     ·refine zW ?_;intros
      exact Yz ⟨k+1,by omega,rfl,rfl,rfl,rfl,YL hh hx ⟨Zt f3,.inl (Zt f4)⟩⟩ Zi Zw Zb
     ·refine zW ?_;intros
      refine zC (fun e1=>?_) (fun e1=>?_)
      ·refine zW ?_;intros
       exact ret1 rfl rfl Zb (Yo (bad (fun h0=>h0.2.elim (Zf f4) e1)))
      ·refine zW ?_;intros
       exact Yz ⟨k+1,by omega,rfl,rfl,rfl,rfl,YL hh hx ⟨Zt f3,.inr e1⟩⟩ Zi Zw Zb
    ·refine zW ?_;intros
     exact ret1 rfl rfl Zb (Yo (bad (fun h0=>Zf f3 h0.1)))
   ·have hO:=Xs hh Zi
    refine zW ?_;intros
    refine Yl (fun q σ fz' H'=>∃ k:Nat,k≤n3∧q=n3 - k∧σ=[(43,.int .i64 k),(42,.int .i64 n3),(41,.slice A3 n3 b3),(1,.pointer (some ⟨g0,0,none⟩))]∧fz=fz'∧H'=[(g0,.cells #[.string p.name,.string p.domain,.slice A1 n1 b1,.slice A2 n2 b2,.slice A3 n3 b3,.string p.goal.op,.string p.goal.name,.slice A4 n4 b4,.slice A5 n5 b5,.slice A6 n6 b6,.slice A7 n7 b7] 40 (0,0))]∧(∀ i,i<k→∀ x,p.values[i]?=some x→ValOk x)) ⟨0,Z0 _,rfl,rfl,rfl,rfl,fun i hi=>absurd hi Zi⟩ Zw Zb ?_
    rintro q σ fz' H' ⟨k2,hk2,rfl,rfl,rfl,rfl,hh2⟩
    refine zW ?_;intros
    refine zC (fun c2=>?_) (fun c2=>?_)
    ·obtain ⟨x,hx⟩:=Yn (l:=p.values) (k:=k2) Zi
     have bad:¬ValOk x→¬YcA p:=fun h0 h=>h0 (h.2.2.2.1 x (Zm hx))
     refine zW ?_;intros
     refine zI iv hx (fun a ha=>?_)
     refine zL ha ?_
     intro cs hcs
     obtain ⟨w1,rfl,hR⟩:=Yae hcs
     have hA:=hR.fluent
     obtain ⟨U,w,z,rfl,_⟩:=hR.fluent.args
     refine zW ?_;intros
     ((refine zG ?_);refine Yp (vs:=[.string x.fluent.name,.slice U w z]) T 0 Zz Zz Zz Zz Zz Zz ?_)
     refine zb (Ylh hA) (fun f3=>?_) (fun f3=>?_)
     ·refine zW ?_;intros
      (((refine zC (fun m1=>?_) (fun m1=>?_));((refine zW ?_;intros);(exact ret1 rfl rfl Zb (Yo (bad (fun h0=>by have:=h0.2.1;omega)))));(refine zW ?_;intros)))
      (((refine zC (fun m2=>?_) (fun m2=>?_));((refine zW ?_;intros);(exact ret1 rfl rfl Zb (Yo (bad (fun h0=>by have:=h0.2.2;omega)))));(refine zW ?_;intros)))
      exact Yz ⟨k2+1,by omega,rfl,rfl,rfl,rfl,YL hh2 hx ⟨Zt f3,by omega,by omega⟩⟩ Zi Zw Zb
     ·refine zW ?_;intros
      exact ret1 rfl rfl Zb (Yo (bad (fun h0=>Zf f3 h0.1)))
    ·have hV:=Xs hh2 Zi
     refine zW ?_;intros
     ((refine zG ?_);refine Wf Zz Zz (Yh3 ii (fun x va hx=>expr1_q hx)) (fun f3=>?_) (fun f3=>?_))
     ·refine zW ?_;intros
      (exact ret1 rfl rfl Zb (Yo (fun h0=>by
       obtain ⟨x,hx,hx2⟩:=Zt f3
       exact hx2 (h0.2.2.2.2 x hx))))
     ·refine zW ?_;intros
      exact ret1 rfl rfl Zb (Yv ⟨Zt f1,Zt f2,hO,hV,fun x hx=>Classical.byContradiction fun h0=>Zf f3 ⟨x,hx,h0⟩⟩)
  ·refine zW ?_;intros
   exact ret1 rfl rfl Zb (Yo (fun h0=>Zf f2 h0.2.1))
 ·refine zW ?_;intros
  exact ret1 rfl rfl Zb (Yo (fun h0=>Zf f1 h0.1))
end Go.Proofs.YtfjopfinkdhmaaaGreatDoor
namespace Go.Proofs.YtfjopfinkdhmaaaGreatDoor
open Go.Lx Go.RowKit
attribute [local instance 10] Classical.propDecidable
theorem YiN {kw:Bs} {ks:List Sexpr} (h:ks≠ []):grp kw ks=[YF (Yi kw::ks)]:=if_neg h
theorem Yl1 {kw:Bs}:grp kw []=[]:=if_pos rfl
end Go.Proofs.YtfjopfinkdhmaaaGreatDoor
namespace Go.Proofs.YtfjopfinkdhmaaaGreatDoor
open Go.Lx Go.RowKit
attribute [local instance 10] Classical.propDecidable
open Go.Proofs.Tryz (prog)
def Xe:Bs:=⟨#[112,114,111,98,108,101,109]⟩
def YI:Bs:=⟨#[58,100,111,109,97,105,110]⟩
def XI:Bs:=⟨#[58,111,98,106,101,99,116,115]⟩
def Yce:Bs:=⟨#[58,105,110,105,116]⟩
def YbU:Bs:=⟨#[58,103,111,97,108]⟩
def Yai (a:Atom):Sexpr:=W0 a.name a.args
def valX (v:Value_):Sexpr:=YF [Yi kEq,Yai v.fluent,numE v.n]
def Ykn (f:Formula):List Sexpr:=if f.op=kAnd∧f.kids=[] then [] else [YF [Yi YbU,Xh f]]
def prbX (p:Problem):Sexpr:=YF ([Yi YB,YF [Yi Xe,Yi p.name],YF [Yi YI,Yi p.domain]]++grp XI (WJ p.objects)++grp Yce (p.init.map Yai++p.values.map valX)++Ykn p.goal)
structure PrbSm (p:Problem):Prop where
 objects:p.objects.length≤1000000000
 init:p.init.length≤1000000000
 inits:∀ a∈p.init,a.args.length≤1000000000
 values:p.values.length≤1000000000
 vals:∀ v∈p.values,v.fluent.args.length≤1000000000
 goal:FSm p.goal
def glO (x:Sexpr) (vk:Value):Obj:=.cells #[.int .i64 x.kind,.int .i64 x.value,.int .i64 x.line,.int .i64 x.column,.string x.text,vk] 57 (0,0)
variable {fz:FZ}
theorem Ybc {a b:Bs} {gb gc:Nat} (ha:Short a) (hb:Short b)
 (h1:fz gb=some (.cells (Yq Xe++Yq a).toArray 57 (0,0)))
 (h2:fz gc=some (.cells (Yq YI++Yq b).toArray 57 (0,0))):
 ∀ p∈ [(Yi YB,Yq YB),(YF [Yi Xe,Yi a],[.int .i64 3,.int .i64 0,.int .i64 0,.int .i64 0,.string ⟨#[]⟩,.slice (some ⟨gb,0,none⟩) 2 2]),(YF [Yi YI,Yi b],[.int .i64 3,.int .i64 0,.int .i64 0,.int .i64 0,.string ⟨#[]⟩,.slice (some ⟨gc,0,none⟩) 2 2])],Yy.rep fz p.1 p.2:=by
 intro p hp
 simp only [List.mem_cons,List.not_mem_nil,or_false] at hp
 rcases hp with rfl | rfl | rfl
 ·exact Yu (YR Zh)
 ·exact Yg (Wg (Xt (ys:=[(Yi Xe,Yq Xe),(Yi a,Yq a)]) h1 rfl rfl (by intro p hp;simp only [List.mem_cons,List.not_mem_nil,or_false] at hp;rcases hp with rfl | rfl;exact Yu (YR Zh);exact Yu ha) rfl Zh))
 ·exact Yg (Wg (Xt (ys:=[(Yi YI,Yq YI),(Yi b,Yq b)]) h2 rfl rfl (by intro p hp;simp only [List.mem_cons,List.not_mem_nil,or_false] at hp;rcases hp with rfl | rfl;exact Yu (YR Zh);exact Yu hb) rfl Zh))
variable {v1 v2 v3 v4 v5 v6 v7:Value}
set_option maxHeartbeats 8000000 in
theorem YjD {p:Problem} (h:ProblemR fz p v1 v2 v3 v4 v5 v6 v7) (hs:PrbSm p):
 GFn prog 27 [.agg #[.string p.name,.string p.domain,v1,v2,v3,.string p.goal.op,.string p.goal.name,v4,v5,v6,v7]] fz [] (WrR (FVal p.goal∧YcA p∧XVal (prbX p)) (prbX p)):=by
 obtain ⟨A1,n1,b1,rfl,io⟩:=h.objects
 obtain ⟨A2,n2,b2,rfl,ii⟩:=h.init
 obtain ⟨A3,n3,b3,rfl,iv⟩:=h.values
 obtain ⟨A4,n4,b4,rfl,_⟩:=h.goal.args
 obtain ⟨A5,n5,b5,rfl,_⟩:=h.goal.params
 obtain ⟨A6,n6,b6,rfl,_⟩:=h.goal.exprs
 obtain ⟨A7,n7,b7,rfl,i7⟩:=h.goal.kids
 have lo:=io.len
 have li:=ii.len
 have lv:=iv.len
 have mo:=hs.objects
 have mi:=hs.init
 have mv:=hs.values
 refine zF Tryz.func27 Tryz.ntmps27 (fun w0=>?_)
 refine Yk (Yr (Ya Zz (Xc _ Zz Zz (fun g1=>?_))))
 refine zWO ?_;intros
 rename_i g2
 refine zW ?_;intros
 ((refine zG ?_);refine Yp (vs:=[.string p.goal.op,.string p.goal.name,.slice A4 n4 b4,.slice A5 n5 b5,.slice A6 n6 b6,.slice A7 n7 b7]) T 1 Zz Zz Zz Zz Zz Zz ?_)
 refine Ya Zz (Ym [] _ Zz Zz Zz (YjW h.goal hs.goal) (fun v8 fz8 H8 hle8 hR8=>?_))
 obtain ⟨rfl,u,y,rfl,⟨cs,rfl,hr⟩,hyx⟩:=hR8
 obtain ⟨vk6,rfl,hX⟩:=Yh hr
 obtain ⟨A8,n8,b8,rfl,i8⟩:=hX.kids
 by_cases hP:FVal p.goal
 ·obtain rfl:=hyx hP
  rw [if_pos hP]
  refine zW ?_;intros
  rename_i g4
  refine zb (YgJ (h.mono hle8)) (fun f1=>?_) (fun f1=>?_)
  ·have hE:=Zt f1
   refine zWX ?_;intros
   refine Yk (Wp.mid (fun σ fz' H'=>∃ (g6:Nat) (v:Value) (Hs:HP),σ=[(6,.pointer (some ⟨g6,0,none⟩)),(4,.pointer (some ⟨g4,0,none⟩)),(2,.pointer (some ⟨g2,0,none⟩)),(1,.pointer (some ⟨g1,0,none⟩))]∧Le fz8 fz'∧H'=(g6,lsO v)::(g1,.cells #[.string p.name,.string p.domain,.slice A1 n1 b1,.slice A2 n2 b2,.slice A3 n3 b3,.string p.goal.op,.string p.goal.name,.slice A4 n4 b4,.slice A5 n5 b5,.slice A6 n6 b6,.slice A7 n7 b7] 40 (0,0))::(g2,.cells #[.int .i64 0,.int .i64 0,.int .i64 0,.int .i64 0,.string ⟨#[]⟩,.slice none 0 0] 57 (0,0))::(g4,glO (Xh p.goal) (.slice A8 n8 b8))::Hs∧Grow Yy 57 fz' v 3 Hs [Yi YB,YF [Yi Xe,Yi p.name],YF [Yi YI,Yi p.domain]]) ?_ ?_)
   ·have hnm:=h.name
    have hdm:=h.domain
    refine Wp.drawP [] (Hq:=[(g1,_)]) T.mixed Zj Zj Zb ?_
    refine zW ?_;intros
    refine zc (WW (s:=YB)) ?_
    refine zW ?_;intros
    refine zc (WW (s:=Xe)) ?_
    refine zW ?_;intros
    refine zc (WW (s:=p.name)) ?_
    refine zW ?_;intros
    refine Ye ?_
    refine Ye ?_
    refine Ye ?_
    refine zW ?_;intros
    refine zc (WW (s:=p.domain)) ?_
    unfold sxV
    refine Ye ?_
    refine Ye ?_
    refine Ye ?_
    refine Ye ?_
    refine Ye ?_
    refine Ye ?_
    refine PK.done ⟨by kernel_rfl,?_⟩
    refine YG Zz Zz Zz ?_ ?_
    ·refine Yd (Yc T (cs:=Yq Xe++Yq p.name) Zz Zz Zz Zz Zz Zz Zz Zz (fun gb=>⟨(⟨(Le.refl _),Zx⟩),?_⟩))
     refine YG Zz Zz Zz ?_ ?_
     ·refine PoS.qk (⟨(Le.refl _),Zx⟩) (Yw Zz Zz XX ?_)
      unfold sxV
      refine YG Zz Zz Zz ?_ ?_
      ·refine PoS.qk (⟨(Le.refl _),Zx⟩) (Yw Zz Zz (WW (s:=YI)) ?_)
       unfold sxV
       refine YG Zz Zz Zz ?_ ?_
       ·refine Yd (Yc T (cs:=Yq YI++Yq p.domain) Zz Zz Zz Zz Zz Zz Zz Zz (fun gc=>⟨(⟨(Le.refl _),Zx⟩),?_⟩))
        refine YG Zz Zz Zz ?_ ?_
        ·refine PoS.qk (⟨(Le.refl _),Zx⟩) (Yw Zz Zz XX ?_)
         unfold sxV
         refine YG Zz Zz Zz ?_ ?_
         ·refine Yd (Yc T (cs:=Yq YB++([.int .i64 3,.int .i64 0,.int .i64 0,.int .i64 0,.string ⟨#[]⟩,.slice (some ⟨gb,0,none⟩) 2 2]++ [.int .i64 3,.int .i64 0,.int .i64 0,.int .i64 0,.string ⟨#[]⟩,.slice (some ⟨gc,0,none⟩) 2 2])) Zz Zz Zz Zz Zz Zz Zz Zz (fun gd=>⟨(⟨(Le.refl _),Zx⟩),?_⟩))
          refine YG Zz Zz Zz ?_ ?_
          ·refine PoS.qk (⟨(Le.refl _),Zx⟩) (Yw Zz Zz XX ?_)
           unfold sxV
           refine Yb Zz Zz ?_
           refine Yd (YX T Zz Zz (fun g6=>⟨(⟨(Le.refl _),Zx⟩),?_⟩))
           refine Yb Zz Zz ?_
           refine PoS.hard0 Zj (Does.perm (XY [0,6,5,4,1,2,3] Zz Zz) (YP T Zz Zz Zz Zz Zz Zz ?_))
           refine Po.done ?_
           refine zW ?_;intros
           refine midF (H':=[(g6,_),(g1,_),(g2,_),(g4,_),(gd,_)]) (H2:=[(gb,_),(gc,_)]) (XY [0,1,2,3,4,6,5] Zz Zz) (fun fz3 hl3 hf3=>⟨g6,_,[(gd,_)],rfl,hl3,rfl,Grow.block (m:=3) (ys:=[(Yi YB,Yq YB),(YF [Yi Xe,Yi p.name],[.int .i64 3,.int .i64 0,.int .i64 0,.int .i64 0,.string ⟨#[]⟩,.slice (some ⟨gb,0,none⟩) 2 2]),(YF [Yi YI,Yi p.domain],[.int .i64 3,.int .i64 0,.int .i64 0,.int .i64 0,.string ⟨#[]⟩,.slice (some ⟨gc,0,none⟩) 2 2])]) rfl rfl ?_ rfl Zh⟩) Zw
           exact Ybc hnm hdm (hf3 _ (.head _)) (hf3 _ (.tail _ (.head _)))
          ·refine Yd (YX T Zz Zz (fun g6=>⟨(⟨(Le.refl _),Zx⟩),?_⟩))
           refine Yb Zz Zz ?_
           refine PoS.qk (⟨(Le.refl _),Zx⟩) (Yw Zz Zz XX ?_)
           unfold sxV
           refine Yb Zz Zz ?_
           refine PoS.hard0 Zj (Does.perm (XY [0,6,5,4,1,2,3] Zz Zz) (YP T Zz Zz Zz Zz Zz Zz ?_))
           refine Po.done ?_
           refine zW ?_;intros
           refine midF (H':=[(g6,_),(g1,_),(g2,_),(g4,_),(gd,_)]) (H2:=[(gb,_),(gc,_)]) (XY [0,1,2,3,4,6,5] Zz Zz) (fun fz3 hl3 hf3=>⟨g6,_,[(gd,_)],rfl,hl3,rfl,Grow.block (m:=3) (ys:=[(Yi YB,Yq YB),(YF [Yi Xe,Yi p.name],[.int .i64 3,.int .i64 0,.int .i64 0,.int .i64 0,.string ⟨#[]⟩,.slice (some ⟨gb,0,none⟩) 2 2]),(YF [Yi YI,Yi p.domain],[.int .i64 3,.int .i64 0,.int .i64 0,.int .i64 0,.string ⟨#[]⟩,.slice (some ⟨gc,0,none⟩) 2 2])]) rfl rfl ?_ rfl Zh⟩) Zw
           exact Ybc hnm hdm (hf3 _ (.head _)) (hf3 _ (.tail _ (.head _)))
         ·refine Yd (YX T Zz Zz (fun g6=>⟨(⟨(Le.refl _),Zx⟩),?_⟩))
          refine Yb Zz Zz ?_
          refine Yd (Yc T (cs:=Yq YB++([.int .i64 3,.int .i64 0,.int .i64 0,.int .i64 0,.string ⟨#[]⟩,.slice (some ⟨gb,0,none⟩) 2 2]++ [.int .i64 3,.int .i64 0,.int .i64 0,.int .i64 0,.string ⟨#[]⟩,.slice (some ⟨gc,0,none⟩) 2 2])) Zz Zz Zz Zz Zz Zz Zz Zz (fun gd=>⟨(⟨(Le.refl _),Zx⟩),?_⟩))
          refine Yb Zz Zz ?_
          refine PoS.qk (⟨(Le.refl _),Zx⟩) (Yw Zz Zz XX ?_)
          unfold sxV
          refine Yb Zz Zz ?_
          refine PoS.hard0 Zj (Does.perm (XY [1,6,5,4,0,2,3] Zz Zz) (YP T Zz Zz Zz Zz Zz Zz ?_))
          refine Po.done ?_
          refine zW ?_;intros
          refine midF (H':=[(g6,_),(g1,_),(g2,_),(g4,_),(gd,_)]) (H2:=[(gb,_),(gc,_)]) (XY [0,1,2,3,4,6,5] Zz Zz) (fun fz3 hl3 hf3=>⟨g6,_,[(gd,_)],rfl,hl3,rfl,Grow.block (m:=3) (ys:=[(Yi YB,Yq YB),(YF [Yi Xe,Yi p.name],[.int .i64 3,.int .i64 0,.int .i64 0,.int .i64 0,.string ⟨#[]⟩,.slice (some ⟨gb,0,none⟩) 2 2]),(YF [Yi YI,Yi p.domain],[.int .i64 3,.int .i64 0,.int .i64 0,.int .i64 0,.string ⟨#[]⟩,.slice (some ⟨gc,0,none⟩) 2 2])]) rfl rfl ?_ rfl Zh⟩) Zw
          exact Ybc hnm hdm (hf3 _ (.head _)) (hf3 _ (.tail _ (.head _)))
        ·refine Yd (YX T Zz Zz (fun g6=>⟨(⟨(Le.refl _),Zx⟩),?_⟩))
         refine Yb Zz Zz ?_
         refine PoS.qk (⟨(Le.refl _),Zx⟩) (Yw Zz Zz XX ?_)
         unfold sxV
         refine Yb Zz Zz ?_
         refine Yd (Yc T (cs:=Yq YB++([.int .i64 3,.int .i64 0,.int .i64 0,.int .i64 0,.string ⟨#[]⟩,.slice (some ⟨gb,0,none⟩) 2 2]++ [.int .i64 3,.int .i64 0,.int .i64 0,.int .i64 0,.string ⟨#[]⟩,.slice (some ⟨gc,0,none⟩) 2 2])) Zz Zz Zz Zz Zz Zz Zz Zz (fun gd=>⟨(⟨(Le.refl _),Zx⟩),?_⟩))
         refine Yb Zz Zz ?_
         refine PoS.qk (⟨(Le.refl _),Zx⟩) (Yw Zz Zz XX ?_)
         unfold sxV
         refine Yb Zz Zz ?_
         refine PoS.hard0 Zj (Does.perm (XY [1,6,5,4,0,2,3] Zz Zz) (YP T Zz Zz Zz Zz Zz Zz ?_))
         refine Po.done ?_
         refine zW ?_;intros
         refine midF (H':=[(g6,_),(g1,_),(g2,_),(g4,_),(gd,_)]) (H2:=[(gb,_),(gc,_)]) (XY [0,1,2,3,4,6,5] Zz Zz) (fun fz3 hl3 hf3=>⟨g6,_,[(gd,_)],rfl,hl3,rfl,Grow.block (m:=3) (ys:=[(Yi YB,Yq YB),(YF [Yi Xe,Yi p.name],[.int .i64 3,.int .i64 0,.int .i64 0,.int .i64 0,.string ⟨#[]⟩,.slice (some ⟨gb,0,none⟩) 2 2]),(YF [Yi YI,Yi p.domain],[.int .i64 3,.int .i64 0,.int .i64 0,.int .i64 0,.string ⟨#[]⟩,.slice (some ⟨gc,0,none⟩) 2 2])]) rfl rfl ?_ rfl Zh⟩) Zw
         exact Ybc hnm hdm (hf3 _ (.head _)) (hf3 _ (.tail _ (.head _)))
       ·refine Yd (YX T Zz Zz (fun g6=>⟨(⟨(Le.refl _),Zx⟩),?_⟩))
        refine Yb Zz Zz ?_
        refine Yd (Yc T (cs:=Yq YI++Yq p.domain) Zz Zz Zz Zz Zz Zz Zz Zz (fun gc=>⟨(⟨(Le.refl _),Zx⟩),?_⟩))
        refine Yb Zz Zz ?_
        refine PoS.qk (⟨(Le.refl _),Zx⟩) (Yw Zz Zz XX ?_)
        unfold sxV
        refine Yb Zz Zz ?_
        refine Yd (Yc T (cs:=Yq YB++([.int .i64 3,.int .i64 0,.int .i64 0,.int .i64 0,.string ⟨#[]⟩,.slice (some ⟨gb,0,none⟩) 2 2]++ [.int .i64 3,.int .i64 0,.int .i64 0,.int .i64 0,.string ⟨#[]⟩,.slice (some ⟨gc,0,none⟩) 2 2])) Zz Zz Zz Zz Zz Zz Zz Zz (fun gd=>⟨(⟨(Le.refl _),Zx⟩),?_⟩))
        refine Yb Zz Zz ?_
        refine PoS.qk (⟨(Le.refl _),Zx⟩) (Yw Zz Zz XX ?_)
        unfold sxV
        refine Yb Zz Zz ?_
        refine PoS.hard0 Zj (Does.perm (XY [2,6,5,4,0,1,3] Zz Zz) (YP T Zz Zz Zz Zz Zz Zz ?_))
        refine Po.done ?_
        refine zW ?_;intros
        refine midF (H':=[(g6,_),(g1,_),(g2,_),(g4,_),(gd,_)]) (H2:=[(gb,_),(gc,_)]) (XY [0,1,2,3,4,6,5] Zz Zz) (fun fz3 hl3 hf3=>⟨g6,_,[(gd,_)],rfl,hl3,rfl,Grow.block (m:=3) (ys:=[(Yi YB,Yq YB),(YF [Yi Xe,Yi p.name],[.int .i64 3,.int .i64 0,.int .i64 0,.int .i64 0,.string ⟨#[]⟩,.slice (some ⟨gb,0,none⟩) 2 2]),(YF [Yi YI,Yi p.domain],[.int .i64 3,.int .i64 0,.int .i64 0,.int .i64 0,.string ⟨#[]⟩,.slice (some ⟨gc,0,none⟩) 2 2])]) rfl rfl ?_ rfl Zh⟩) Zw
        exact Ybc hnm hdm (hf3 _ (.head _)) (hf3 _ (.tail _ (.head _)))
      ·refine Yd (YX T Zz Zz (fun g6=>⟨(⟨(Le.refl _),Zx⟩),?_⟩))
       refine Yb Zz Zz ?_
       refine PoS.qk (⟨(Le.refl _),Zx⟩) (Yw Zz Zz (WW (s:=YI)) ?_)
       unfold sxV
       refine Yb Zz Zz ?_
       refine Yd (Yc T (cs:=Yq YI++Yq p.domain) Zz Zz Zz Zz Zz Zz Zz Zz (fun gc=>⟨(⟨(Le.refl _),Zx⟩),?_⟩))
       refine Yb Zz Zz ?_
       refine PoS.qk (⟨(Le.refl _),Zx⟩) (Yw Zz Zz XX ?_)
       unfold sxV
       refine Yb Zz Zz ?_
       refine Yd (Yc T (cs:=Yq YB++([.int .i64 3,.int .i64 0,.int .i64 0,.int .i64 0,.string ⟨#[]⟩,.slice (some ⟨gb,0,none⟩) 2 2]++ [.int .i64 3,.int .i64 0,.int .i64 0,.int .i64 0,.string ⟨#[]⟩,.slice (some ⟨gc,0,none⟩) 2 2])) Zz Zz Zz Zz Zz Zz Zz Zz (fun gd=>⟨(⟨(Le.refl _),Zx⟩),?_⟩))
       refine Yb Zz Zz ?_
       refine PoS.qk (⟨(Le.refl _),Zx⟩) (Yw Zz Zz XX ?_)
       unfold sxV
       refine Yb Zz Zz ?_
       refine PoS.hard0 Zj (Does.perm (XY [2,6,5,4,0,1,3] Zz Zz) (YP T Zz Zz Zz Zz Zz Zz ?_))
       refine Po.done ?_
       refine zW ?_;intros
       refine midF (H':=[(g6,_),(g1,_),(g2,_),(g4,_),(gd,_)]) (H2:=[(gb,_),(gc,_)]) (XY [0,1,2,3,4,6,5] Zz Zz) (fun fz3 hl3 hf3=>⟨g6,_,[(gd,_)],rfl,hl3,rfl,Grow.block (m:=3) (ys:=[(Yi YB,Yq YB),(YF [Yi Xe,Yi p.name],[.int .i64 3,.int .i64 0,.int .i64 0,.int .i64 0,.string ⟨#[]⟩,.slice (some ⟨gb,0,none⟩) 2 2]),(YF [Yi YI,Yi p.domain],[.int .i64 3,.int .i64 0,.int .i64 0,.int .i64 0,.string ⟨#[]⟩,.slice (some ⟨gc,0,none⟩) 2 2])]) rfl rfl ?_ rfl Zh⟩) Zw
       exact Ybc hnm hdm (hf3 _ (.head _)) (hf3 _ (.tail _ (.head _)))
     ·refine Yd (YX T Zz Zz (fun g6=>⟨(⟨(Le.refl _),Zx⟩),?_⟩))
      refine Yb Zz Zz ?_
      refine PoS.qk (⟨(Le.refl _),Zx⟩) (Yw Zz Zz XX ?_)
      unfold sxV
      refine Yb Zz Zz ?_
      refine PoS.qk (⟨(Le.refl _),Zx⟩) (Yw Zz Zz (WW (s:=YI)) ?_)
      unfold sxV
      refine Yb Zz Zz ?_
      refine Yd (Yc T (cs:=Yq YI++Yq p.domain) Zz Zz Zz Zz Zz Zz Zz Zz (fun gc=>⟨(⟨(Le.refl _),Zx⟩),?_⟩))
      refine Yb Zz Zz ?_
      refine PoS.qk (⟨(Le.refl _),Zx⟩) (Yw Zz Zz XX ?_)
      unfold sxV
      refine Yb Zz Zz ?_
      refine Yd (Yc T (cs:=Yq YB++([.int .i64 3,.int .i64 0,.int .i64 0,.int .i64 0,.string ⟨#[]⟩,.slice (some ⟨gb,0,none⟩) 2 2]++ [.int .i64 3,.int .i64 0,.int .i64 0,.int .i64 0,.string ⟨#[]⟩,.slice (some ⟨gc,0,none⟩) 2 2])) Zz Zz Zz Zz Zz Zz Zz Zz (fun gd=>⟨(⟨(Le.refl _),Zx⟩),?_⟩))
      refine Yb Zz Zz ?_
      refine PoS.qk (⟨(Le.refl _),Zx⟩) (Yw Zz Zz XX ?_)
      unfold sxV
      refine Yb Zz Zz ?_
      refine PoS.hard0 Zj (Does.perm (XY [2,6,5,4,0,1,3] Zz Zz) (YP T Zz Zz Zz Zz Zz Zz ?_))
      refine Po.done ?_
      refine zW ?_;intros
      refine midF (H':=[(g6,_),(g1,_),(g2,_),(g4,_),(gd,_)]) (H2:=[(gb,_),(gc,_)]) (XY [0,1,2,3,4,6,5] Zz Zz) (fun fz3 hl3 hf3=>⟨g6,_,[(gd,_)],rfl,hl3,rfl,Grow.block (m:=3) (ys:=[(Yi YB,Yq YB),(YF [Yi Xe,Yi p.name],[.int .i64 3,.int .i64 0,.int .i64 0,.int .i64 0,.string ⟨#[]⟩,.slice (some ⟨gb,0,none⟩) 2 2]),(YF [Yi YI,Yi p.domain],[.int .i64 3,.int .i64 0,.int .i64 0,.int .i64 0,.string ⟨#[]⟩,.slice (some ⟨gc,0,none⟩) 2 2])]) rfl rfl ?_ rfl Zh⟩) Zw
      exact Ybc hnm hdm (hf3 _ (.head _)) (hf3 _ (.tail _ (.head _)))
    ·refine Yd (YX T Zz Zz (fun g6=>⟨(⟨(Le.refl _),Zx⟩),?_⟩))
     refine Yb Zz Zz ?_
     refine Yd (Yc T (cs:=Yq Xe++Yq p.name) Zz Zz Zz Zz Zz Zz Zz Zz (fun gb=>⟨(⟨(Le.refl _),Zx⟩),?_⟩))
     refine Yb Zz Zz ?_
     refine PoS.qk (⟨(Le.refl _),Zx⟩) (Yw Zz Zz XX ?_)
     unfold sxV
     refine Yb Zz Zz ?_
     refine PoS.qk (⟨(Le.refl _),Zx⟩) (Yw Zz Zz (WW (s:=YI)) ?_)
     unfold sxV
     refine Yb Zz Zz ?_
     refine Yd (Yc T (cs:=Yq YI++Yq p.domain) Zz Zz Zz Zz Zz Zz Zz Zz (fun gc=>⟨(⟨(Le.refl _),Zx⟩),?_⟩))
     refine Yb Zz Zz ?_
     refine PoS.qk (⟨(Le.refl _),Zx⟩) (Yw Zz Zz XX ?_)
     unfold sxV
     refine Yb Zz Zz ?_
     refine Yd (Yc T (cs:=Yq YB++([.int .i64 3,.int .i64 0,.int .i64 0,.int .i64 0,.string ⟨#[]⟩,.slice (some ⟨gb,0,none⟩) 2 2]++ [.int .i64 3,.int .i64 0,.int .i64 0,.int .i64 0,.string ⟨#[]⟩,.slice (some ⟨gc,0,none⟩) 2 2])) Zz Zz Zz Zz Zz Zz Zz Zz (fun gd=>⟨(⟨(Le.refl _),Zx⟩),?_⟩))
     refine Yb Zz Zz ?_
     refine PoS.qk (⟨(Le.refl _),Zx⟩) (Yw Zz Zz XX ?_)
     unfold sxV
     refine Yb Zz Zz ?_
     refine PoS.hard0 Zj (Does.perm (XY [3,6,5,4,0,1,2] Zz Zz) (YP T Zz Zz Zz Zz Zz Zz ?_))
     refine Po.done ?_
     refine zW ?_;intros
     refine midF (H':=[(g6,_),(g1,_),(g2,_),(g4,_),(gd,_)]) (H2:=[(gb,_),(gc,_)]) (XY [0,1,2,3,4,6,5] Zz Zz) (fun fz3 hl3 hf3=>⟨g6,_,[(gd,_)],rfl,hl3,rfl,Grow.block (m:=3) (ys:=[(Yi YB,Yq YB),(YF [Yi Xe,Yi p.name],[.int .i64 3,.int .i64 0,.int .i64 0,.int .i64 0,.string ⟨#[]⟩,.slice (some ⟨gb,0,none⟩) 2 2]),(YF [Yi YI,Yi p.domain],[.int .i64 3,.int .i64 0,.int .i64 0,.int .i64 0,.string ⟨#[]⟩,.slice (some ⟨gc,0,none⟩) 2 2])]) rfl rfl ?_ rfl Zh⟩) Zw
     exact Ybc hnm hdm (hf3 _ (.head _)) (hf3 _ (.tail _ (.head _)))
   ·rintro σ fz9 H' ⟨g6,v,Hs,rfl,hle9,rfl,hG⟩
    obtain ⟨Av,cv,rfl,_,_⟩:=hG.form
    refine zWX ?_;intros
    refine Yk (Wp.mid (fun σ fz' H'=>∃ (m:Nat) (v:Value) (Hs:HP),σ=[(6,.pointer (some ⟨g6,0,none⟩)),(4,.pointer (some ⟨g4,0,none⟩)),(2,.pointer (some ⟨g2,0,none⟩)),(1,.pointer (some ⟨g1,0,none⟩))]∧Le fz9 fz'∧H'=(g6,lsO v)::(g1,.cells #[.string p.name,.string p.domain,.slice A1 n1 b1,.slice A2 n2 b2,.slice A3 n3 b3,.string p.goal.op,.string p.goal.name,.slice A4 n4 b4,.slice A5 n5 b5,.slice A6 n6 b6,.slice A7 n7 b7] 40 (0,0))::(g2,.cells #[.int .i64 0,.int .i64 0,.int .i64 0,.int .i64 0,.string ⟨#[]⟩,.slice none 0 0] 57 (0,0))::(g4,glO (Xh p.goal) (.slice A8 n8 b8))::Hs∧m≤4∧Grow Yy 57 fz' v m Hs ([Yi YB,YF [Yi Xe,Yi p.name],YF [Yi YI,Yi p.domain]]++grp XI (WJ p.objects))) ?_ ?_)
    ·have i1m:=io.mono (hle8.trans hle9)
     refine zW ?_;intros
     refine zC (fun c1=>?_) (fun c1=>?_)
     ·have hne:WJ p.objects≠ []:=fun h0=>by have:=Yhv (l:=p.objects);rw [h0] at this;simp at this;omega
      refine zW ?_;intros
      refine Wp.drawP [] (Hq:=[(g6,_),(g1,_)]) T.mixed Zj Zj Zb ?_
      refine zW ?_;intros
      refine zc (WW (s:=XI)) ?_
      refine Ye ?_
      refine zW ?_;intros
      unfold sxV
      refine Ye ?_
      refine Ye ?_
      refine Ye ?_
      refine Ye ?_
      refine Ye ?_
      refine zW ?_;intros
      refine Ye ?_
      refine PK.done ⟨by kernel_rfl,?_⟩
      refine YG Zz Zz Zz ?_ ?_
      ·refine Yd (Yc T (cs:=Yq XI) Zz Zz Zz Zz Zz Zz Zz Zz (fun gb=>⟨(⟨(Le.refl _),Zx⟩),?_⟩))
       refine Yb Zz Zz ?_
       refine Yd (Ym [] _ Zz Zz Zz (Yc6 i1m Zi) (fun v7 fz7 H7 hle7 hR7=>?_))
       obtain ⟨rfl,B7,cc7,rfl,hsl7⟩:=hR7
       refine ⟨(⟨hle7,Zx⟩),?_⟩
       refine Yb Zz Zz ?_
       refine Yd (WF T (n:=1) (l:=[Yi XI]) (Hr:=(g6,_)::(g1,_)::(g2,_)::(g4,_)::Hs) (Hs:=[(gb,_)]) Zz Zz Zz Zz Zz Zz Zz Zz ((List.perm_append_singleton _ _).symm) (Grow.block (ys:=[(Yi XI,Yq XI)]) rfl rfl (by simpa using Yu (YR Zh)) rfl Zh) Ys hsl7 (by show _*72≤_;omega) Zi (fun v8 Hs1 hO1=>⟨(⟨hle7,Zx⟩),?_⟩))
       obtain ⟨Ao,co,rfl,_,_⟩:=hO1.form
       refine Yb Zz Zz ?_
       refine PoS.qk (⟨hle7,Zx⟩) (Yw Zz Zz XX ?_)
       unfold sxV
       refine Yb Zz Zz ?_
       refine Yd (Yc T (cs:=[.int .i64 3,.int .i64 0,.int .i64 0,.int .i64 0,.string ⟨#[]⟩,.slice Ao (1+3*n1) co]) Zz Zz Zz Zz Zz Zz Zz Zz (fun gc=>⟨(⟨hle7,Zx⟩),?_⟩))
       refine Yb Zz Zz ?_
       refine Yd (Does.freezeAll (H1:=(gc,_)::(g6,_)::(g1,_)::(g2,_)::(g4,_)::Hs) (H2:=Hs1) (Zr _) (fun fzb hle10 hf10=>?_))
       obtain ⟨A2x,c2x,he2,hsl9⟩:=hO1.sl hle10 hf10 Zi
       injection he2 with x1 x2 x3
       subst x1 x3
       refine YS T (Hr:=(gc,_)::(g6,_)::(g1,_)::(g2,_):: [(g4,_)]) (d:=YF (Yi XI::WJ p.objects)) Zz Zz Zz Zz Zz Zz Zz Zz (Zr _) (hG.mono (hle7.trans hle10)) Ys (.head _) (Yg (Wg hsl9)) (by show _*72≤_;omega) Zi (fun v9 Hp9 hO9=>⟨(⟨(hle7.trans hle10),Zx⟩),?_⟩)
       obtain ⟨A9,c9,rfl,_,_⟩:=hO9.form
       refine Yb Zz Zz ?_
       refine PoS.hard0 Zj (YN T Zz Zz Zz Zz Zz Zz ?_)
       refine Po.done ?_
       refine zW ?_;intros
       exact midN ⟨4,_,Hp9,rfl,hle7.trans hle10,rfl,by omega,hO9.of (by rw [YiN hne]) rfl⟩ Zw Zb
      ·refine Yd (Ym [] _ Zz Zz Zz (Yc6 i1m Zi) (fun v7 fz7 H7 hle7 hR7=>?_))
       obtain ⟨rfl,B7,cc7,rfl,hsl7⟩:=hR7
       refine ⟨(⟨hle7,Zx⟩),?_⟩
       refine Yb Zz Zz ?_
       refine Yd (Yc T (cs:=Yq XI) Zz Zz Zz Zz Zz Zz Zz Zz (fun gb=>⟨(⟨hle7,Zx⟩),?_⟩))
       refine Yb Zz Zz ?_
       refine Yd (WF T (n:=1) (l:=[Yi XI]) (Hr:=(g6,_)::(g1,_)::(g2,_)::(g4,_)::Hs) (Hs:=[(gb,_)]) Zz Zz Zz Zz Zz Zz Zz Zz ((List.perm_append_singleton _ _).symm) (Grow.block (ys:=[(Yi XI,Yq XI)]) rfl rfl (by simpa using Yu (YR Zh)) rfl Zh) Ys hsl7 (by show _*72≤_;omega) Zi (fun v8 Hs1 hO1=>⟨(⟨hle7,Zx⟩),?_⟩))
       obtain ⟨Ao,co,rfl,_,_⟩:=hO1.form
       refine Yb Zz Zz ?_
       refine PoS.qk (⟨hle7,Zx⟩) (Yw Zz Zz XX ?_)
       unfold sxV
       refine Yb Zz Zz ?_
       refine Yd (Yc T (cs:=[.int .i64 3,.int .i64 0,.int .i64 0,.int .i64 0,.string ⟨#[]⟩,.slice Ao (1+3*n1) co]) Zz Zz Zz Zz Zz Zz Zz Zz (fun gc=>⟨(⟨hle7,Zx⟩),?_⟩))
       refine Yb Zz Zz ?_
       refine Yd (Does.freezeAll (H1:=(gc,_)::(g6,_)::(g1,_)::(g2,_)::(g4,_)::Hs) (H2:=Hs1) (Zr _) (fun fzb hle10 hf10=>?_))
       obtain ⟨A2x,c2x,he2,hsl9⟩:=hO1.sl hle10 hf10 Zi
       injection he2 with x1 x2 x3
       subst x1 x3
       refine YS T (Hr:=(gc,_)::(g6,_)::(g1,_)::(g2,_):: [(g4,_)]) (d:=YF (Yi XI::WJ p.objects)) Zz Zz Zz Zz Zz Zz Zz Zz (Zr _) (hG.mono (hle7.trans hle10)) Ys (.head _) (Yg (Wg hsl9)) (by show _*72≤_;omega) Zi (fun v9 Hp9 hO9=>⟨(⟨(hle7.trans hle10),Zx⟩),?_⟩)
       obtain ⟨A9,c9,rfl,_,_⟩:=hO9.form
       refine Yb Zz Zz ?_
       refine PoS.hard0 Zj (YN T Zz Zz Zz Zz Zz Zz ?_)
       refine Po.done ?_
       refine zW ?_;intros
       exact midN ⟨4,_,Hp9,rfl,hle7.trans hle10,rfl,by omega,hO9.of (by rw [YiN hne]) rfl⟩ Zw Zb
     ·have hnil:WJ p.objects=[]:=List.eq_nil_of_length_eq_zero (by rw [Yhv];omega)
      refine zW ?_;intros
      exact midN ⟨3,_,Hs,rfl,Le.refl _,rfl,by omega,hG.of (by rw [hnil,Yl1];simp) rfl⟩ Zw Zb
    ·rintro σ fz10 H' ⟨m1,v,Hs,rfl,hle10,rfl,hm1,hG⟩
     obtain ⟨Av,cv,rfl,_,_⟩:=hG.form
     refine zWX ?_;intros
     refine Yk (Wp.mid (fun σ fz' H'=>∃ (m:Nat) (v:Value) (Hs:HP),σ=[(6,.pointer (some ⟨g6,0,none⟩)),(4,.pointer (some ⟨g4,0,none⟩)),(2,.pointer (some ⟨g2,0,none⟩)),(1,.pointer (some ⟨g1,0,none⟩))]∧Le fz10 fz'∧H'=(g6,lsO v)::(g1,.cells #[.string p.name,.string p.domain,.slice A1 n1 b1,.slice A2 n2 b2,.slice A3 n3 b3,.string p.goal.op,.string p.goal.name,.slice A4 n4 b4,.slice A5 n5 b5,.slice A6 n6 b6,.slice A7 n7 b7] 40 (0,0))::(g2,.cells #[.int .i64 0,.int .i64 0,.int .i64 0,.int .i64 0,.string ⟨#[]⟩,.slice none 0 0] 57 (0,0))::(g4,glO (Xh p.goal) (.slice A8 n8 b8))::Hs∧m≤5∧Grow Yy 57 fz' v m Hs ([Yi YB,YF [Yi Xe,Yi p.name],YF [Yi YI,Yi p.domain]]++grp XI (WJ p.objects)++grp Yce (p.init.map Yai++p.values.map valX))) ?_ ?_)
     ·have hleA:=(hle8.trans hle9).trans hle10
      have i2m:=ii.mono hleA
      have i3m:=iv.mono hleA
      refine zW ?_;intros
      refine zC (fun c2=>?_) (fun c2=>?_)
      ·refine zW ?_;intros
       refine zc (WW (s:=Yce)) ?_
       refine Ya Zz (Yc T (cs:=Yq Yce) Zz Zz Zz Zz Zz Zz Zz Zz (fun gb=>?_))
       refine zc XX ?_
       refine zW ?_;intros
       rename_i g7
       refine Wp.perm (List.Perm.cons _ (List.perm_append_singleton _ ((g6,_)::(g1,_)::(g2,_)::(g4,_)::Hs))) ?_
       refine Yl (fun q σ fz' H'=>∃ (k:Nat) (v7:Value) (Hi:HP),k≤n2∧q=n2 - k∧σ=[(72,.int .i64 k),(71,.int .i64 n2),(70,.slice A2 n2 b2),(7,.pointer (some ⟨g7,0,none⟩)),(6,.pointer (some ⟨g6,0,none⟩)),(4,.pointer (some ⟨g4,0,none⟩)),(2,.pointer (some ⟨g2,0,none⟩)),(1,.pointer (some ⟨g1,0,none⟩))]∧Le fz10 fz'∧H'=(g7,lsO v7)::(g6,lsO (.slice Av m1 cv))::(g1,.cells #[.string p.name,.string p.domain,.slice A1 n1 b1,.slice A2 n2 b2,.slice A3 n3 b3,.string p.goal.op,.string p.goal.name,.slice A4 n4 b4,.slice A5 n5 b5,.slice A6 n6 b6,.slice A7 n7 b7] 40 (0,0))::(g2,.cells #[.int .i64 0,.int .i64 0,.int .i64 0,.int .i64 0,.string ⟨#[]⟩,.slice none 0 0] 57 (0,0))::(g4,glO (Xh p.goal) (.slice A8 n8 b8))::(Hs++Hi)∧Grow Yy 57 fz' v7 (k+1) Hi (Yi Yce::(p.init.take k).map Yai)) ⟨0,_,[_],Z0 _,rfl,rfl,Le.refl _,rfl,Grow.block (ys:=[(Yi Yce,Yq Yce)]) rfl rfl (by simpa using Yu (YR Zh)) rfl Zh⟩ Zw Zb ?_
       rintro q σ fz' H' ⟨k,v7,Hi,hk,rfl,rfl,hle,rfl,hO⟩
       obtain ⟨Ai,ci,rfl,_,_⟩:=hO.form
       refine zW ?_;intros
       refine zC (fun e1=>?_) (fun e1=>?_)
       ·obtain ⟨x,hx⟩:=Yn (l:=p.init) (k:=k) Zi
        have hxm:=Zm hx
        have i2k:=i2m.mono hle
        refine zW ?_;intros
        refine zI i2k hx (fun a ha=>?_)
        refine zL ha ?_
        intro cs hcs
        obtain ⟨va,rfl,hRx⟩:=Ww hcs
        obtain ⟨Aa,na,ca,rfl,ia⟩:=hRx.args
        refine zW ?_;intros
        rename_i g9
        refine Wp.drawP [] (Hq:=[(g9,_),(g7,_)]) T.mixed Zj Zj Zb ?_
        refine zW ?_;intros
        refine Ye ?_
        refine Ye ?_
        refine Ye ?_
        refine zW ?_;intros
        refine Ye ?_
        refine PK.done ⟨by kernel_rfl,?_⟩
        refine Yb Zz Zz ?_
        refine Yd (Ym [] _ Zz Zz Zz (Yeo hRx (hs.inits x hxm)) (fun v7 fz7 H7 hle7 hR7=>?_))
        obtain ⟨rfl,cs7,rfl,hr7⟩:=hR7
        obtain ⟨vk7,rfl,hX7⟩:=Yh (x:=Yai x) hr7
        refine ⟨(⟨hle7,Zx⟩),?_⟩
        refine Yb Zz Zz ?_
        refine Yd (Yc T (cs:=[.int .i64 (Yai x).kind,.int .i64 (Yai x).value,.int .i64 (Yai x).line,.int .i64 (Yai x).column,.string (Yai x).text,vk7]) Zz Zz Zz Zz Zz Zz Zz Zz (fun gc=>⟨(⟨hle7,Zx⟩),?_⟩))
        refine Yb Zz Zz ?_
        refine Yd (YS T (Hr:=(gc,_)::(g9,_)::(g7,_)::(g6,_)::(g1,_)::(g2,_)::(g4,_)::Hs) (d:=Yai x) Zz Zz Zz Zz Zz Zz Zz Zz (Zr _) (hO.mono hle7) Ys (.head _) (Yg hX7) (by show _*72≤_;omega) Zi (fun v9 Hi9 hO9=>⟨(⟨hle7,Zx⟩),?_⟩))
        obtain ⟨A9,c9,rfl,_,_⟩:=hO9.form
        refine Yb Zz Zz ?_
        refine PoS.hard0 Zj (Wa T Zz Zz Zz Zz Zz Zz ?_)
        refine Po.done ?_
        refine zW ?_;intros
        exact Yz ⟨k+1,_,Hi9,by omega,rfl,rfl,hle.trans hle7,rfl,hO9.of (by rw [List.take_add_one,hx];simp) rfl⟩ Zi Zw Zb
       ·have hkn:n2=k:=by omega
        subst hkn
        rw [Zl Zi] at hO
        refine zW ?_;intros
        refine Yl (fun q σ fz'' H'=>∃ (j:Nat) (v7:Value) (Hi:HP),j≤n3∧q=n3 - j∧σ=[(87,.int .i64 j),(86,.int .i64 n3),(85,.slice A3 n3 b3),(7,.pointer (some ⟨g7,0,none⟩)),(6,.pointer (some ⟨g6,0,none⟩)),(4,.pointer (some ⟨g4,0,none⟩)),(2,.pointer (some ⟨g2,0,none⟩)),(1,.pointer (some ⟨g1,0,none⟩))]∧Le fz' fz''∧H'=(g7,lsO v7)::(g6,lsO (.slice Av m1 cv))::(g1,.cells #[.string p.name,.string p.domain,.slice A1 n1 b1,.slice A2 n2 b2,.slice A3 n3 b3,.string p.goal.op,.string p.goal.name,.slice A4 n4 b4,.slice A5 n5 b5,.slice A6 n6 b6,.slice A7 n7 b7] 40 (0,0))::(g2,.cells #[.int .i64 0,.int .i64 0,.int .i64 0,.int .i64 0,.string ⟨#[]⟩,.slice none 0 0] 57 (0,0))::(g4,glO (Xh p.goal) (.slice A8 n8 b8))::(Hs++Hi)∧Grow Yy 57 fz'' v7 (n2+1+j) Hi (Yi Yce::p.init.map Yai++(p.values.take j).map valX)) ⟨0,_,Hi,Z0 _,rfl,rfl,Le.refl _,rfl,hO.of (by simp) rfl⟩ Zw Zb ?_
        rintro q σ fz'' H' ⟨j,v7,Hi,hj,rfl,rfl,hle5,rfl,hO⟩
        obtain ⟨Ai,ci,rfl,_,_⟩:=hO.form
        refine zW ?_;intros
        refine zC (fun e2=>?_) (fun e2=>?_)
        ·obtain ⟨x,hx⟩:=Yn (l:=p.values) (k:=j) Zi
         have hxm:=Zm hx
         have i3k:=i3m.mono (hle.trans hle5)
         refine zW ?_;intros
         refine zI i3k hx (fun a ha=>?_)
         refine zL ha ?_
         intro cs hcs
         obtain ⟨va,rfl,hRx⟩:=Yae hcs
         obtain ⟨Aa,na,ca,rfl,ia⟩:=hRx.fluent.args
         refine zW ?_;intros
         rename_i g9
         refine Wp.drawP [] (Hq:=[(g9,_),(g7,_)]) T.mixed Zj Zj Zb ?_
         refine zW ?_;intros
         refine zc (WW (s:=kEq)) ?_
         refine zW ?_;intros
         ((refine zG ?_);refine Yp (vs:=[.string x.fluent.name,.slice Aa na ca]) T 0 Zz Zz Zz Zz Zz Zz ?_)
         refine Ye ?_
         refine zW ?_;intros
         unfold sxV
         refine Ye ?_
         refine Ye ?_
         refine Ye ?_
         refine Ye ?_
         refine zW ?_;intros
         refine Ye ?_
         refine PK.done ⟨by kernel_rfl,?_⟩
         refine Yb Zz Zz ?_
         refine Yd (Ym [] _ Zz Zz Zz (Yeo hRx.fluent (hs.vals x hxm)) (fun v7 fz7 H7 hle7 hR7=>?_))
         obtain ⟨rfl,cs7,rfl,hr7⟩:=hR7
         obtain ⟨vk7,rfl,hX7⟩:=Yh (x:=Yai x.fluent) hr7
         refine ⟨(⟨hle7,Zx⟩),?_⟩
         refine Yb Zz Zz ?_
         refine Yd (Yc T (cs:=Yq kEq++([.int .i64 (Yai x.fluent).kind,.int .i64 (Yai x.fluent).value,.int .i64 (Yai x.fluent).line,.int .i64 (Yai x.fluent).column,.string (Yai x.fluent).text,vk7]++ [.int .i64 2,.int .i64 x.n,.int .i64 0,.int .i64 0,.string ⟨#[]⟩,.slice none 0 0])) Zz Zz Zz Zz Zz Zz Zz Zz (fun gb=>⟨(⟨hle7,Zx⟩),?_⟩))
         refine Yb Zz Zz ?_
         refine PoS.qk (⟨hle7,Zx⟩) (Yw Zz Zz XX ?_)
         unfold sxV
         refine Yb Zz Zz ?_
         refine Yd (Yc T (cs:=[.int .i64 3,.int .i64 0,.int .i64 0,.int .i64 0,.string ⟨#[]⟩,.slice (some ⟨gb,0,none⟩) 3 3]) Zz Zz Zz Zz Zz Zz Zz Zz (fun gc=>⟨(⟨hle7,Zx⟩),?_⟩))
         refine Yb Zz Zz ?_
         refine Yd (Does.freezeAll (H1:=(gc,_)::(g9,_)::(g7,_)::(g6,_)::(g1,_)::(g2,_)::(g4,_)::(Hs++Hi)) (H2:=[(gb,_)]) (List.Perm.cons _ (List.perm_append_singleton _ _).symm) (fun fzb hle10' hf10=>?_))
         have hrep:Yy.rep fzb (valX x) [.int .i64 3,.int .i64 0,.int .i64 0,.int .i64 0,.string ⟨#[]⟩,.slice (some ⟨gb,0,none⟩) 3 3]:=Yg (Wg (Xt (ys:=[(Yi kEq,Yq kEq),(Yai x.fluent,[.int .i64 (Yai x.fluent).kind,.int .i64 (Yai x.fluent).value,.int .i64 (Yai x.fluent).line,.int .i64 (Yai x.fluent).column,.string (Yai x.fluent).text,vk7]),(numE x.n,[.int .i64 2,.int .i64 x.n,.int .i64 0,.int .i64 0,.string ⟨#[]⟩,.slice none 0 0])]) (hf10 _ (.head _)) rfl rfl (by intro p hp;simp only [List.mem_cons,List.not_mem_nil,or_false] at hp;rcases hp with rfl | rfl | rfl;exact Yu (YR Zh);exact Yg (hX7.mono hle10');exact Yg (Yhz hRx.n)) rfl Zh))
         refine YS T (Hr:=(gc,_)::(g9,_)::(g7,_)::(g6,_)::(g1,_)::(g2,_)::(g4,_)::Hs) (d:=valX x) Zz Zz Zz Zz Zz Zz Zz Zz (Zr _) (hO.mono (hle7.trans hle10')) Ys (.head _) hrep (by show _*72≤_;omega) Zi (fun v9 Hi9 hO9=>⟨(⟨(hle7.trans hle10'),Zx⟩),?_⟩)
         obtain ⟨A9,c9,rfl,_,_⟩:=hO9.form
         refine Yb Zz Zz ?_
         refine PoS.hard0 Zj (Wa T Zz Zz Zz Zz Zz Zz ?_)
         refine Po.done ?_
         refine zW ?_;intros
         exact Yz ⟨j+1,_,Hi9,by omega,rfl,rfl,hle5.trans (hle7.trans hle10'),rfl,hO9.of (by rw [List.take_add_one,hx];simp) rfl⟩ Zi Zw Zb
        ·have hjn:n3=j:=by omega
         subst hjn
         rw [Zl Zi] at hO
         refine Seq.freezeAll (H1:=(g7,_)::(g6,_)::(g1,_)::(g2,_)::(g4,_)::Hs) (H2:=Hi) (Zr _) (fun fzp hlp hfp=>?_)
         obtain ⟨A2x,c2x,he2,hslp⟩:=hO.sl hlp hfp Zi
         injection he2 with x1 x2 x3
         subst x1 x3
         have hleB:=(hle.trans hle5).trans hlp
         have hne:p.init.map Yai++p.values.map valX≠ []:=fun h0=>by have:=congrArg List.length h0;simp only [List.length_append,List.length_map,List.length_nil] at this;omega
         refine zW ?_;intros
         refine Ya Zz (Yc T (cs:=[.int .i64 3,.int .i64 0,.int .i64 0,.int .i64 0,.string ⟨#[]⟩,.slice Ai (n2+1+n3) ci]) Zz Zz Zz Zz Zz Zz Zz Zz (fun gc=>?_))
         refine Ya Zz (YS T (Hr:=(gc,_)::(g7,_)::(g6,_)::(g1,_)::(g2,_):: [(g4,_)]) (d:=YF (Yi Yce::p.init.map Yai++p.values.map valX)) Zz Zz Zz Zz Zz Zz Zz Zz (Zr _) (hG.mono hleB) Ys (.head _) (Yg (Wg hslp)) (by show _*72≤_;omega) Zi (fun v9 Hs9 hO9=>?_))
         obtain ⟨A9,c9,rfl,_,_⟩:=hO9.form
         refine zW ?_;intros
         exact midN ⟨m1+1,_,Hs9,rfl,hleB,rfl,by omega,hO9.of (by rw [YiN hne];simp) rfl⟩ Zw Zb
      ·have hi0:p.init=[]:=List.eq_nil_of_length_eq_zero Zi
       have hv0:p.values=[]:=List.eq_nil_of_length_eq_zero Zi
       refine zW ?_;intros
       exact midN ⟨m1,_,Hs,rfl,Le.refl _,rfl,by omega,hG.of (by rw [hi0,hv0];simp [Yl1]) rfl⟩ Zw Zb
     ·rintro σ fz11 H' ⟨m2,v,Hs,rfl,hle11,rfl,hm2,hG⟩
      obtain ⟨Av,cv,rfl,_,_⟩:=hG.form
      have hleC:=(hle9.trans hle10).trans hle11
      refine zWX ?_;intros
      refine Yk (Wp.mid (fun σ fz' H'=>∃ (m:Nat) (v:Value) (Hs:HP),σ=[(6,.pointer (some ⟨g6,0,none⟩)),(4,.pointer (some ⟨g4,0,none⟩)),(2,.pointer (some ⟨g2,0,none⟩)),(1,.pointer (some ⟨g1,0,none⟩))]∧Le fz11 fz'∧H'=(g6,lsO v)::(g1,.cells #[.string p.name,.string p.domain,.slice A1 n1 b1,.slice A2 n2 b2,.slice A3 n3 b3,.string p.goal.op,.string p.goal.name,.slice A4 n4 b4,.slice A5 n5 b5,.slice A6 n6 b6,.slice A7 n7 b7] 40 (0,0))::(g2,.cells #[.int .i64 0,.int .i64 0,.int .i64 0,.int .i64 0,.string ⟨#[]⟩,.slice none 0 0] 57 (0,0))::(g4,glO (Xh p.goal) (.slice A8 n8 b8))::Hs∧m≤6∧Grow Yy 57 fz' v m Hs ([Yi YB,YF [Yi Xe,Yi p.name],YF [Yi YI,Yi p.domain]]++grp XI (WJ p.objects)++grp Yce (p.init.map Yai++p.values.map valX)++Ykn p.goal)) ?_ ?_)
      ·refine zW ?_;intros
       refine zC (fun e1=>?_) (fun e1=>?_)
       ·have hgo:Ykn p.goal=[YF [Yi YbU,Xh p.goal]]:=if_neg (fun h0=>e1 h0.1)
        refine zW ?_;intros
        refine Wp.drawP [] (Hq:=[(g6,_),(g4,_)]) T.mixed Zj Zj Zb ?_
        refine zW ?_;intros
        refine zc (WW (s:=YbU)) ?_
        refine zW ?_;intros
        unfold sxV
        refine Ye ?_
        refine Ye ?_
        refine Ye ?_
        refine Ye ?_
        refine zW ?_;intros
        refine Ye ?_
        refine PK.done ⟨by kernel_rfl,?_⟩
        refine Yb Zz Zz ?_
        refine Yd (Yc T (cs:=Yq YbU++ [.int .i64 (Xh p.goal).kind,.int .i64 (Xh p.goal).value,.int .i64 (Xh p.goal).line,.int .i64 (Xh p.goal).column,.string (Xh p.goal).text,.slice A8 n8 b8]) Zz Zz Zz Zz Zz Zz Zz Zz (fun gb=>⟨(⟨(Le.refl _),Zx⟩),?_⟩))
        refine Yb Zz Zz ?_
        refine PoS.qk (⟨(Le.refl _),Zx⟩) (Yw Zz Zz XX ?_)
        unfold sxV
        refine Yb Zz Zz ?_
        refine Yd (Yc T (cs:=[.int .i64 3,.int .i64 0,.int .i64 0,.int .i64 0,.string ⟨#[]⟩,.slice (some ⟨gb,0,none⟩) 2 2]) Zz Zz Zz Zz Zz Zz Zz Zz (fun gc=>⟨(⟨(Le.refl _),Zx⟩),?_⟩))
        refine Yb Zz Zz ?_
        refine Yd (Does.freezeAll (H1:=(gc,_)::(g6,_)::(g1,_)::(g2,_)::(g4,_)::Hs) (H2:=[(gb,_)]) (List.Perm.cons _ (List.perm_append_singleton _ _).symm) (fun fzb hlb hfb=>?_))
        have hrep:Yy.rep fzb (YF [Yi YbU,Xh p.goal]) [.int .i64 3,.int .i64 0,.int .i64 0,.int .i64 0,.string ⟨#[]⟩,.slice (some ⟨gb,0,none⟩) 2 2]:=Yg (Wg (Xt (ys:=[(Yi YbU,Yq YbU),(Xh p.goal,[.int .i64 (Xh p.goal).kind,.int .i64 (Xh p.goal).value,.int .i64 (Xh p.goal).line,.int .i64 (Xh p.goal).column,.string (Xh p.goal).text,.slice A8 n8 b8])]) (hfb _ (.head _)) rfl rfl (by intro p hp;simp only [List.mem_cons,List.not_mem_nil,or_false] at hp;rcases hp with rfl | rfl;exact Yu (YR Zh);exact Yg (hX.mono (hleC.trans hlb))) rfl Zh))
        refine YS T (Hr:=(gc,_)::(g6,_)::(g1,_)::(g2,_):: [(g4,_)]) (d:=YF [Yi YbU,Xh p.goal]) Zz Zz Zz Zz Zz Zz Zz Zz (Zr _) (hG.mono hlb) Ys (.head _) hrep (by show _*72≤_;omega) Zi (fun v9 Hs9 hO9=>⟨(⟨hlb,Zx⟩),?_⟩)
        obtain ⟨A9,c9,rfl,_,_⟩:=hO9.form
        refine Yb Zz Zz ?_
        refine PoS.hard0 Zj (YN T Zz Zz Zz Zz Zz Zz ?_)
        refine Po.done ?_
        refine zW ?_;intros
        exact midN ⟨m2+1,_,Hs9,rfl,hlb,rfl,by omega,hO9.of (by rw [hgo]) rfl⟩ Zw Zb
       ·refine zW ?_;intros
        refine zC (fun e2=>?_) (fun e2=>?_)
        ·have hgo:Ykn p.goal=[YF [Yi YbU,Xh p.goal]]:=if_neg (fun h0=>by have:=i7.len;rw [h0.2] at this;simp at this;omega)
         refine zW ?_;intros
         refine Wp.drawP [] (Hq:=[(g6,_),(g4,_)]) T.mixed Zj Zj Zb ?_
         refine zW ?_;intros
         refine zc (WW (s:=YbU)) ?_
         refine zW ?_;intros
         unfold sxV
         refine Ye ?_
         refine Ye ?_
         refine Ye ?_
         refine Ye ?_
         refine zW ?_;intros
         refine Ye ?_
         refine PK.done ⟨by kernel_rfl,?_⟩
         refine Yb Zz Zz ?_
         refine Yd (Yc T (cs:=Yq YbU++ [.int .i64 (Xh p.goal).kind,.int .i64 (Xh p.goal).value,.int .i64 (Xh p.goal).line,.int .i64 (Xh p.goal).column,.string (Xh p.goal).text,.slice A8 n8 b8]) Zz Zz Zz Zz Zz Zz Zz Zz (fun gb=>⟨(⟨(Le.refl _),Zx⟩),?_⟩))
         refine Yb Zz Zz ?_
         refine PoS.qk (⟨(Le.refl _),Zx⟩) (Yw Zz Zz XX ?_)
         unfold sxV
         refine Yb Zz Zz ?_
         refine Yd (Yc T (cs:=[.int .i64 3,.int .i64 0,.int .i64 0,.int .i64 0,.string ⟨#[]⟩,.slice (some ⟨gb,0,none⟩) 2 2]) Zz Zz Zz Zz Zz Zz Zz Zz (fun gc=>⟨(⟨(Le.refl _),Zx⟩),?_⟩))
         refine Yb Zz Zz ?_
         refine Yd (Does.freezeAll (H1:=(gc,_)::(g6,_)::(g1,_)::(g2,_)::(g4,_)::Hs) (H2:=[(gb,_)]) (List.Perm.cons _ (List.perm_append_singleton _ _).symm) (fun fzb hlb hfb=>?_))
         have hrep:Yy.rep fzb (YF [Yi YbU,Xh p.goal]) [.int .i64 3,.int .i64 0,.int .i64 0,.int .i64 0,.string ⟨#[]⟩,.slice (some ⟨gb,0,none⟩) 2 2]:=Yg (Wg (Xt (ys:=[(Yi YbU,Yq YbU),(Xh p.goal,[.int .i64 (Xh p.goal).kind,.int .i64 (Xh p.goal).value,.int .i64 (Xh p.goal).line,.int .i64 (Xh p.goal).column,.string (Xh p.goal).text,.slice A8 n8 b8])]) (hfb _ (.head _)) rfl rfl (by intro p hp;simp only [List.mem_cons,List.not_mem_nil,or_false] at hp;rcases hp with rfl | rfl;exact Yu (YR Zh);exact Yg (hX.mono (hleC.trans hlb))) rfl Zh))
         refine YS T (Hr:=(gc,_)::(g6,_)::(g1,_)::(g2,_):: [(g4,_)]) (d:=YF [Yi YbU,Xh p.goal]) Zz Zz Zz Zz Zz Zz Zz Zz (Zr _) (hG.mono hlb) Ys (.head _) hrep (by show _*72≤_;omega) Zi (fun v9 Hs9 hO9=>⟨(⟨hlb,Zx⟩),?_⟩)
         obtain ⟨A9,c9,rfl,_,_⟩:=hO9.form
         refine Yb Zz Zz ?_
         refine PoS.hard0 Zj (YN T Zz Zz Zz Zz Zz Zz ?_)
         refine Po.done ?_
         refine zW ?_;intros
         exact midN ⟨m2+1,_,Hs9,rfl,hlb,rfl,by omega,hO9.of (by rw [hgo]) rfl⟩ Zw Zb
        ·have hgo:Ykn p.goal=[]:=if_pos ⟨e1,List.eq_nil_of_length_eq_zero (by have:=i7.len;omega)⟩
         refine zW ?_;intros
         exact midN ⟨m2,_,Hs,rfl,Le.refl _,rfl,by omega,hG.of (by rw [hgo];simp) rfl⟩ Zw Zb
      ·rintro σ fz12 H' ⟨m3,v,Hs,rfl,hle12,rfl,hm3,hG⟩
       obtain ⟨Av,cv,rfl,_,_⟩:=hG.form
       refine zW ?_;intros
       refine Seq.freezeAll (H1:=[(g6,_),(g1,_),(g2,_),(g4,_)]) (H2:=Hs) (Zr _) (fun fzr hlr hfr=>?_)
       obtain ⟨A2w,c2w,he5,hsl⟩:=hG.sl hlr hfr Zi
       injection he5 with x1 x2 x3
       subst x1 x3
       have hXX:=Wg hsl
       refine zb (WH (x:=prbX p) hXX) (fun f2=>?_) (fun f2=>?_)
       ·have hY:FVal p.goal∧YcA p∧XVal (prbX p):=⟨hP,hE,Zt f2⟩
        refine zW ?_;intros
        refine YQ T (vs:=[.agg #[_,_,_,_,_,_],.nilIface]) Zz ⟨⟨_,_,2,_,_,_,rfl,rfl,rfl,rfl,rfl,rfl⟩,rfl,trivial⟩ (fun fz3 hle3 hf3=>?_)
        exact ⟨rfl,_,_,by rw [if_pos hY];rfl,SxIs.mono hle3 ⟨_,rfl,Yg hXX⟩,fun _=>rfl⟩
       ·have hN:¬(FVal p.goal∧YcA p∧XVal (prbX p)):=fun h0=>Zf f2 h0.2.2
        refine zW ?_;intros
        refine YQ T (vs:=[.agg #[_,_,_,_,_,_],_]) Zz ⟨⟨_,_,2,_,_,_,rfl,rfl,rfl,rfl,rfl,rfl⟩,rfl,trivial⟩ (fun fz3 hle3 hf3=>?_)
        exact ⟨rfl,_,_,by rw [if_neg hN,Yj Zh];rfl,YaB,fun h0=>absurd h0 hN⟩
  ·have hN:¬(FVal p.goal∧YcA p∧XVal (prbX p)):=fun h0=>Zf f1 h0.2.1
   refine zW ?_;intros
   refine YQ T (vs:=[.agg #[_,_,_,_,_,_],_]) Zz ⟨⟨_,_,1,_,_,_,rfl,rfl,rfl,rfl,rfl,rfl⟩,rfl,trivial⟩ (fun fz3 hle3 hf3=>?_)
   exact ⟨rfl,_,_,by rw [if_neg hN,Yj Zh];rfl,YaB,fun h0=>absurd h0 hN⟩
 ·rw [if_neg hP]
  have hN:¬(FVal p.goal∧YcA p∧XVal (prbX p)):=fun h0=>hP h0.1
  refine zW ?_;intros
  refine YQ T (vs:=[.agg #[_,_,_,_,_,_],_]) Zz ⟨⟨_,_,1,_,_,_,rfl,rfl,rfl,rfl,rfl,rfl⟩,rfl,trivial⟩ (fun fz3 hle3 hf3=>?_)
  exact ⟨rfl,_,_,by rw [if_neg hN,Yj Zh];rfl,YaB,fun h0=>absurd h0 hN⟩
end Go.Proofs.YtfjopfinkdhmaaaGreatDoor
