/- The texts PCM, PCF, PCN, PFr, ShelfJ, PCO, PCP, laid together. Conditions: none. -/
import Derived.Test.YtbnpeechpebmeaaGreatDoorRBI
import Derived.Shelf.Strings.OnBuilder
import Derived.Below
set_option linter.all false
noncomputable section
set_option maxRecDepth 20000
namespace Go.Proofs.YtbnpeechpebmeaaGreatDoor
open Go.Lx Go.RowKit
attribute [local instance 10] Classical.propDecidable
open Go.Proofs.Tryz (prog)
def LtP (f:Formula):Prop:=f.op=kAtom∨f.op=kSame
mutual
/-- a conjunction of literals -/
def LitP:Formula→Prop
 | .mk op _ _ _ _ kids=>(op=kNot∧∃ k,kids=[k]∧LtP k)∨(op=kAnd∧LitPL kids)∨op=kAtom∨op=kSame
def LitPL:List Formula→Prop
 | []=>True
 | k::r=>LitP k∧LitPL r
end
theorem Yho:∀ {l:List Formula},LitPL l↔∀ x∈l,LitP x
 | []=>by simp [LitPL]
 | k::r=>by rw [LitPL,Yho (l:=r)];simp
theorem Yiv (f:Formula):LitP f↔(f.op=kNot∧∃ k,f.kids=[k]∧LtP k)∨(f.op=kAnd∧∀ x∈f.kids,LitP x)∨LtP f:=by cases f;rw [LitP,Yho];rfl
variable {f:Formula}
theorem litP_not (h:f.op=kNot):LitP f↔∃ k,f.kids=[k]∧LtP k:=by
 rw [Yiv]
 constructor
 ·rintro (h1 | h1 | h1)
  ·exact h1.2
  ·rw [h] at h1;exact absurd h1.1 Zh
  ·unfold LtP at h1;rw [h] at h1;exact absurd h1 Zh
 ·intro h1;exact .inl ⟨h,h1⟩
theorem Yjo (h:f.op=kAnd):LitP f↔∀ x∈f.kids,LitP x:=by
 rw [Yiv]
 constructor
 ·rintro (h1 | h1 | h1)
  ·rw [h] at h1;exact absurd h1.1 Zh
  ·exact h1.2
  ·unfold LtP at h1;rw [h] at h1;exact absurd h1 Zh
 ·intro h1;exact .inr (.inl ⟨h,h1⟩)
theorem Yjn (h1:¬f.op=kNot) (h2:¬f.op=kAnd):LitP f↔LtP f:=by
 rw [Yiv]
 exact ⟨fun h=>h.elim (fun h=>absurd h.1 h1) (fun h=>h.elim (fun h=>absurd h.1 h2) id),fun h=>.inr (.inr h)⟩
variable {fz:FZ} {va ve vk vp:Value}
theorem lt1_q (hR:FormulaR fz f va vp ve vk):
 QFn prog 193 [.agg #[.string f.op,.string f.name,va,vp,ve,vk]] fz (.bool (decide (LtP f))):=by
 refine GFn.quiet ?_
 refine zF Tryz.func193 Tryz.ntmps193 (fun w0=>?_)
 refine Yp (Yq (Yb Zz (Y3 _ Zz Zz (fun g0=>?_))))
 refine zV ?_;intros
 refine zC (fun x1=>?_) (fun x1=>?_)
 ·refine zV ?_;intros
  exact ret1 rfl rfl Zb (YC (.inl x1))
 ·refine zV ?_;intros
  refine zC (fun x2=>?_) (fun x2=>?_)
  ·refine zV ?_;intros
   exact ret1 rfl rfl Zb (YC (.inr x2))
  ·refine zV ?_;intros
   exact ret1 rfl rfl Zb (Ym (fun h=>h.elim x1 x2))
theorem lit2_q (h:QFn prog 153 [.agg #[.string f.op,.string f.name,va,vp,ve,vk]] fz (.bool (decide (LitP f)))):
 QFn prog 194 [.agg #[.string f.op,.string f.name,va,vp,ve,vk]] fz (.bool (decide (¬LitP f))):=by
 refine GFn.quiet ?_
 refine zF Tryz.func194 Tryz.ntmps194 (fun w0=>?_)
 refine Yp (Yq (Yb Zz (Y3 _ Zz Zz (fun g1=>?_))))
 refine zV ?_;intros
 refine zc h ?_
 refine zV ?_;intros
 exact zR (h:=by rw [decide_not])
theorem lit_f:∀ (s:Nat) {fz:FZ} {f:Formula} {va vp ve vk:Value},SizeOf.sizeOf f≤s→FormulaR fz f va vp ve vk→
 QFn prog 153 [.agg #[.string f.op,.string f.name,va,vp,ve,vk]] fz (.bool (decide (LitP f)))
 | 0,_,f,_,_,_,_,hse,_=>by cases f;simp at hse
 | s+1,fz,f,va,vp,ve,vk,hse,hR=>by
  have hR0:=hR
  obtain ⟨B1,m1,d1,rfl,ia⟩:=hR.args
  obtain ⟨B2,m2,d2,rfl,ip⟩:=hR.params
  obtain ⟨B3,m3,d3,rfl,ie⟩:=hR.exprs
  obtain ⟨B4,m4,d4,rfl,ik⟩:=hR.kids
  have l4:=ik.len
  refine GFn.quiet ?_
  refine zF Tryz.func153 Tryz.ntmps153 (fun w0=>?_)
  refine Yp (Yq (Yb Zz (Y3 _ Zz Zz (fun g0=>?_))))
  refine zWO ?_;intros
  by_cases hno:f.op=kNot
  ·have w:=litP_not hno
   refine zV ?_;intros
   refine zC (fun x1=>?_) (fun x1=>?_)
   ·have h1:f.kids.length=1:=by omega
    obtain ⟨k,hk⟩:∃ k,f.kids=[k]:=by
     match hkk:f.kids,h1 with
     | [k],_=>exact ⟨k,rfl⟩
    refine zV ?_;intros
    ((refine zG ?_);refine Yam T 0 Zz Zz Zz Zz Zz Zz ik (by first | rfl | omega) (by rw [hk];rfl:f.kids[0]?=some k) (fun p1 hp1=>?_))
    refine zL hp1 ?_
    intro cs hcs
    obtain ⟨wa,wp,we,wk,rfl,hRx⟩:=YM hcs
    refine zV ?_;intros
    refine zv (lt1_q hRx) ?_
    refine zV ?_;intros
    (exact ret1 rfl rfl Zb (by
     by_cases hl:LtP k
     ·rw [decide_eq_true hl,decide_eq_true (w.2 ⟨k,hk,hl⟩)]
     ·rw [decide_eq_false hl,decide_eq_false (fun h=>by obtain ⟨k',hk',hl'⟩:=w.1 h;rw [hk] at hk';injection hk' with hk';subst hk';exact hl hl')]))
   ·refine zV ?_;intros
    exact ret1 rfl rfl Zb (Ym (fun h=>by obtain ⟨k,hk,_⟩:=w.1 h;rw [hk] at l4;simp at l4;exact x1 Zi))
  ·by_cases han:f.op=kAnd
   ·have w:=Yjo han
    refine zV ?_;intros
    ((refine zG ?_);refine YB Zz Zz (Wd (cap:=[]) (p:=fun k=>¬LitP k) ik (fun x hx cs hcs=>by
     obtain ⟨wa,wp,we,wk,rfl,hRx⟩:=YM hcs
     exact lit2_q (lit_f s (by have:=Lx.Formula.kids_lt hx;omega) hRx))) ?_)
    refine zV ?_;intros
    (exact ret1 rfl rfl Zb (by
     by_cases hl:∀ x∈f.kids,LitP x
     ·rw [decide_eq_true (w.2 hl),decide_eq_false (fun ⟨x,hx,h0⟩=>h0 (hl x hx))];rfl
     ·rw [decide_eq_false (fun h=>hl (w.1 h)),decide_eq_true (by simpa using hl)];rfl))
   ·have w:=Yjn hno han
    refine zV ?_;intros
    refine zv (lt1_q hR0) ?_
    refine zV ?_;intros
    (exact ret1 rfl rfl Zb (by
     by_cases hl:LtP f
     ·rw [decide_eq_true hl,decide_eq_true (w.2 hl)]
     ·rw [decide_eq_false hl,decide_eq_false (fun h=>hl (w.1 h))]))
theorem lit_q (hR:FormulaR fz f va vp ve vk):
 QFn prog 153 [.agg #[.string f.op,.string f.name,va,vp,ve,vk]] fz (.bool (decide (LitP f))):=lit_f _ (Zs _) hR
def WS (d:Domain) (all vars:List Param) (f:Formula):Int:=if LitP f then formM d all vars f else 2
variable {A:Option Addr} {all vars:List Param} {c n:Nat} {d:Domain} {p:Problem} {v:Value}
theorem Ye0 (h:CkG fz v d p all) (h1:Sl paramL fz A n c vars) (hR:FormulaR fz f va vp ve vk) (hW:n+fW f≤1000000000):
 QFn prog 105 [v,.slice A n c,.agg #[.string f.op,.string f.name,va,vp,ve,vk]] fz (errV (WS d all vars f)):=by
 refine GFn.quiet ?_
 refine zF Tryz.func105 Tryz.ntmps105 (fun w0=>?_)
 refine Yp (Yq (Yb Zz (Y3 _ Zz Zz (fun g0=>?_))))
 refine zV ?_;intros
 refine zb (lit_q hR) (fun f1=>?_) (fun f1=>?_)
 ·refine zV ?_;intros
  refine zc (YgF h h1 hR hW) ?_
  refine zV ?_;intros
  exact zR (h:=by rw [WS,if_pos (Zt f1)])
 ·refine zV ?_;intros
  exact zR (h:=by rw [WS,if_neg (Zf f1)];rfl)
def YfR (x:Change):Prop:=x.params=[]∧x.when_=Y8
def NumC (x:Change):Prop:=x.kind≠1∧x.kind≠2
def YaP (d:Domain) (all vars:List Param) (x:Change) (du:Bool):Int:=
 if ¬YfR x∧(NumC x∨du=true) then 6
 else if TwP (parN vars) (parN x.params) then 4
 else if ¬ExP d.types x.params then 3
 else if formM d all (vars++x.params) x.when_≠0 then formM d all (vars++x.params) x.when_
 else if ¬NumC x then atomM d all (vars++x.params) x.name x.args
 else if fluM d all (vars++x.params) x.name x.args≠0 then fluM d all (vars++x.params) x.name x.args
 else exprM d all (vars++x.params) x.value
theorem YjK {x:Change} {du:Bool} (h1:¬(¬YfR x∧(NumC x∨du=true))) (h2:¬TwP (parN vars) (parN x.params)) (h3:ExP d.types x.params):
 YaP d all vars x du=if formM d all (vars++x.params) x.when_≠0 then formM d all (vars++x.params) x.when_
  else if ¬NumC x then atomM d all (vars++x.params) x.name x.args
  else if fluM d all (vars++x.params) x.name x.args≠0 then fluM d all (vars++x.params) x.name x.args
  else exprM d all (vars++x.params) x.value:=by rw [YaP,if_neg h1,if_neg h2,if_neg (by simpa using h3)]
variable {cs:List Value}
set_option maxHeartbeats 4000000 in
theorem Ymu {x:Change} {du:Bool} (h:CkG fz v d p all) (h1:Sl paramL fz A n c vars) (hRc:changeL.rep fz x cs) (hW:n+Xq x≤1000000000):
 QFn prog 152 [v,.slice A n c,.agg cs.toArray,.bool du] fz (errV (YaP d all vars x du)):=by
 have h0:=h
 obtain ⟨⟨vf,vpp,vg,vo,hck,hF,hPr,hFu,hO⟩,hw⟩:=h
 have hck0:=hck
 obtain ⟨gc,w1,w2,w3,w4,w5,w6,u1,u2,u3,u4,u5,u6,u7,Aa,na,ca,rfl,hc,hD,hP,hall⟩:=hck
 obtain ⟨v1,v2,v3,v4,v5,v6,v7,v8,rfl,hR⟩:=XF hRc
 obtain ⟨A1,n1,b1,rfl,ip⟩:=hR.params
 have hwh:=hR.when_
 have hva:=hR.value
 obtain ⟨A2,n2,b2,rfl,_⟩:=hR.when_.args
 obtain ⟨A3,n3,b3,rfl,_⟩:=hR.when_.params
 obtain ⟨A4,n4,b4,rfl,_⟩:=hR.when_.exprs
 obtain ⟨A5,n5,b5,rfl,_⟩:=hR.when_.kids
 obtain ⟨A6,n6,b6,rfl,ia⟩:=hR.args
 obtain ⟨A7,n7,b7,rfl,_⟩:=hR.value.args
 obtain ⟨A8,n8,b8,rfl,_⟩:=hR.value.kids
 have l1:=ip.len
 have ln:=h1.len
 have hWp:n+x.params.length+fW x.when_≤1000000000:=by unfold Xq at hW;omega
 refine GFn.quiet ?_
 refine zF Tryz.func152 Tryz.ntmps152 (fun w0=>?_)
 refine Yp (Yq (Yb Zz (Y3 _ Zz Zz (fun g0=>?_))))
 refine zWO ?_;intros
 refine Yp (Wp.mid (fun σ fz' H'=>∃ bb:Bool,σ=[(9,.bool bb),(6,.pointer (some ⟨g0,0,none⟩)),(0,.pointer (some ⟨gc,0,none⟩)),(1,.slice A n c),(3,.bool du)]∧fz=fz'∧H'=[(g0,.cells #[.int .i64 x.kind,.slice A1 n1 b1,.string x.when_.op,.string x.when_.name,.slice A2 n2 b2,.slice A3 n3 b3,.slice A4 n4 b4,.slice A5 n5 b5,.string x.name,.slice A6 n6 b6,.string x.value.op,.string x.value.name,.int .i64 x.value.n,.slice A7 n7 b7,.slice A8 n8 b8] 38 (0,0))]∧(bb=true↔YfR x)) ?_ ?_)
 ·refine zV ?_;intros
  refine zC (fun x1=>?_) (fun x1=>?_)
  ·have hnil:x.params=[]:=List.eq_nil_of_length_eq_zero Zi
   refine zV ?_;intros
   ((refine zG ?_);refine Yn (vs:=[.string x.when_.op,.string x.when_.name,.slice A2 n2 b2,.slice A3 n3 b3,.slice A4 n4 b4,.slice A5 n5 b5]) T 0 Zz Zz Zz Zz Zz Zz ?_)
   refine zV ?_;intros
   refine zb (Yei hwh Ww) (fun f1=>?_) (fun f1=>?_)
   ·refine zV ?_;intros
    exact midN ⟨true,rfl,rfl,rfl,iff_of_true rfl ⟨hnil,Zt f1⟩⟩ Zw Zb
   ·refine zV ?_;intros
    exact midN ⟨false,rfl,rfl,rfl,iff_of_false (by simp) (fun h=>Zf f1 h.2)⟩ Zw Zb
  ·refine zV ?_;intros
   exact midN ⟨false,rfl,rfl,rfl,iff_of_false (by simp) (fun h=>x1 (by rw [h.1] at l1;simp at l1;omega))⟩ Zw Zb
 ·rintro σ fz' H' ⟨bb,rfl,rfl,rfl,hbb⟩
  refine Yp (Wp.mid (fun σ fz' H'=>∃ nn:Bool,σ=[(10,.bool nn),(9,.bool bb),(6,.pointer (some ⟨g0,0,none⟩)),(0,.pointer (some ⟨gc,0,none⟩)),(1,.slice A n c),(3,.bool du)]∧fz=fz'∧H'=[(g0,.cells #[.int .i64 x.kind,.slice A1 n1 b1,.string x.when_.op,.string x.when_.name,.slice A2 n2 b2,.slice A3 n3 b3,.slice A4 n4 b4,.slice A5 n5 b5,.string x.name,.slice A6 n6 b6,.string x.value.op,.string x.value.name,.int .i64 x.value.n,.slice A7 n7 b7,.slice A8 n8 b8] 38 (0,0))]∧(nn=true↔NumC x)) ?_ ?_)
  ·refine zV ?_;intros
   refine zC (fun x1=>?_) (fun x1=>?_)
   ·refine zV ?_;intros
    refine zC (fun x2=>?_) (fun x2=>?_)
    ·refine zV ?_;intros
     exact midN ⟨true,rfl,rfl,rfl,iff_of_true rfl ⟨x1,x2⟩⟩ Zw Zb
    ·refine zV ?_;intros
     exact midN ⟨false,rfl,rfl,rfl,iff_of_false (by simp) (fun h=>h.2 Zi)⟩ Zw Zb
   ·refine zV ?_;intros
    exact midN ⟨false,rfl,rfl,rfl,iff_of_false (by simp) (fun h=>h.1 Zi)⟩ Zw Zb
  ·rintro σ fz' H' ⟨nn,rfl,rfl,rfl,hnn⟩
   by_cases hbad:¬YfR x∧(NumC x∨du=true)
   ·have e1:YaP d all vars x du=6:=if_pos hbad
    obtain rfl:bb=false:=by cases bb with | false=>rfl | true=>exact absurd (hbb.1 rfl) hbad.1
    cases nn with
    | true=>
     refine zV ?_;intros
     exact zR (h:=by rw [e1];rfl)
    | false=>
     obtain rfl:du=true:=hbad.2.elim (fun h=>by have:=hnn.2 h;cases this) id
     refine zV ?_;intros
     exact zR (h:=by rw [e1];rfl)
   ·refine Yp (Wp.mid (fun σ fz' H'=>σ=[(10,.bool nn),(6,.pointer (some ⟨g0,0,none⟩)),(0,.pointer (some ⟨gc,0,none⟩)),(1,.slice A n c)]∧fz=fz'∧H'=[(g0,.cells #[.int .i64 x.kind,.slice A1 n1 b1,.string x.when_.op,.string x.when_.name,.slice A2 n2 b2,.slice A3 n3 b3,.slice A4 n4 b4,.slice A5 n5 b5,.string x.name,.slice A6 n6 b6,.string x.value.op,.string x.value.name,.int .i64 x.value.n,.slice A7 n7 b7,.slice A8 n8 b8] 38 (0,0))]) ?_ ?_)
    ·cases bb with
     | true=>
      refine zV ?_;intros
      exact midN ⟨rfl,rfl,rfl⟩ Zw Zb
     | false=>
      have hp:¬YfR x:=fun h=>by have:=hbb.2 h;cases this
      obtain rfl:nn=false:=by cases nn with | false=>rfl | true=>exact absurd ⟨hp,.inl (hnn.1 rfl)⟩ hbad
      obtain rfl:du=false:=by cases du with | false=>rfl | true=>exact absurd ⟨hp,.inr rfl⟩ hbad
      refine zV ?_;intros
      exact midN ⟨rfl,rfl,rfl⟩ Zw Zb
    ·rintro σ fz' H' ⟨rfl,rfl,rfl⟩
     refine zV ?_;intros
     refine zc (Yie ip h1) ?_
     by_cases ht:TwP (parN vars) (parN x.params)
     ·rw [if_pos ht,show errV 4=.iface 60 (.int .i64 4) from rfl]
      refine zV ?_;intros
      exact zR (h:=by rw [YaP,if_neg hbad,if_pos ht];rfl)
     ·rw [if_neg ht,show errV 0=.nilIface from rfl]
      refine zV ?_;intros
      refine zc (YiG hck0 hF ip) ?_
      by_cases hx:ExP d.types x.params
      ·have e1:=YjK (all:=all) (du:=du) hbad ht hx
       rw [if_pos hx,show errV 0=.nilIface from rfl]
       refine zV ?_;intros
       refine Wp.drawK (Hq:=[_]) T.mixed Zj Zj Zb ?_
       refine zW ?_;intros
       refine Ye ?_
       refine zW ?_;intros
       refine Ye ?_
       refine Ye ?_
       refine YD ⟨by kernel_rfl,?_⟩
       refine Yj (Yl [] [_] Zz Zz Zz (YaD h1 Zi) (fun v6 fz6 H6 hle6 hR6=>⟨(⟨hle6,Zx⟩),?_⟩))
       obtain ⟨Av,cv,rfl,_,_⟩:=hR6.form
       refine Yj (X8 T (Hr:=[_]) Zz Zz Zz Zz Zz Zz Zz Zz Zq hR6 WN (ip.mono hle6) (by show _*32≤_;omega) Zi (fun v7 H7 hO7=>⟨(⟨hle6,Zx⟩),?_⟩))
       obtain ⟨Aw,cw,rfl,_,_⟩:=hO7.form
       refine Ch.qk (⟨hle6,Zx⟩) (Yz Zz ?_)
       refine Ch.done ?_
       refine Yck ?_
       refine Wp.freezeAll (H1:=[_]) (H2:=H7) (Zr _) (fun fz8 hle8 hf8=>?_)
       obtain ⟨A8,c8,e8,h8⟩:=hO7.sl hle8 hf8 Zi
       injection e8 with e81 e82 e83
       subst e81
       subst e83
       have hle:=hle6.trans hle8
       have h0':=h0.mono hle
       have ia':=ia.mono hle
       have hwh':=hwh.mono hle
       have hva':=hva.mono hle
       have hcg:=hle _ _ hc
       refine zV ?_;intros
       ((refine zG ?_);refine Yn (vs:=[.string x.when_.op,.string x.when_.name,.slice A2 n2 b2,.slice A3 n3 b3,.slice A4 n4 b4,.slice A5 n5 b5]) T 0 Zz Zz Zz Zz Zz Zz ?_)
       refine zV ?_;intros
       ((refine zG ?_);refine YB Zz Zz (YgF h0' h8 hwh' Zi) ?_)
       by_cases hz:formM d all (vars++x.params) x.when_=0
       ·have e2:=e1
        rw [hz,if_neg Zh] at e2
        rw [hz,show errV 0=.nilIface from rfl]
        cases nn with
        | false=>
         have hn:¬NumC x:=fun h=>by have:=hnn.2 h;cases this
         refine zV ?_;intros
         refine zc (YiL h0' h8 ia') ?_
         refine zV ?_;intros
         exact zR (h:=by rw [e2,if_pos hn])
        | true=>
         have hn:NumC x:=hnn.1 rfl
         refine zV ?_;intros
         refine zc (Ye1 h0' h8 ia') ?_
         by_cases hy:fluM d all (vars++x.params) x.name x.args=0
         ·rw [hy,show errV 0=.nilIface from rfl]
          refine zV ?_;intros
          ((refine zG ?_);refine Yn (vs:=[.string x.value.op,.string x.value.name,.int .i64 x.value.n,.slice A7 n7 b7,.slice A8 n8 b8]) T 0 Zz Zz Zz Zz Zz Zz ?_)
          refine zV ?_;intros
          refine zc (Yms h0' h8 hva') ?_
          refine zV ?_;intros
          exact zR (h:=by rw [e2,if_neg (by simpa using hn),hy,if_neg Zh])
         ·rw [YF hy]
          refine zV ?_;intros
          exact zR (h:=by rw [e2,if_neg (by simpa using hn),if_pos hy,YF hy])
       ·rw [YF hz]
        refine zV ?_;intros
        exact zR (h:=by rw [e1,if_pos hz,YF hz])
      ·rw [if_neg hx,show errV 3=.iface 60 (.int .i64 3) from rfl]
       refine zV ?_;intros
       exact zR (h:=by rw [YaP,if_neg hbad,if_neg ht,if_pos (by simpa using hx)];rfl)
def Yai {α:Type} (E:α→Int):List α→Int
 | []=>0
 | x::r=>if E x=0 then Yai E r else E x
theorem YeS {α:Type} {E:α→Int}:∀ {l:List α} {k:Nat} {x:α},l[k]?=some x→(∀ i,i<k→∀ y,l[i]?=some y→E y=0)→E x≠0→Yai E l=E x
 | [],k,x,h,_,_=>by simp at h
 | y::l,0,x,h,_,hx=>by simp at h;subst h;rw [Yai,if_neg hx]
 | y::l,k+1,x,h,hh,hx=>by
  rw [Yai,if_pos (hh 0 Zi y rfl)]
  exact YeS (k:=k) (by simpa using h) (fun i hi z hz=>hh (i+1) Zi z (by simpa using hz)) hx
theorem Ycr {α:Type} {E:α→Int}:∀ {l:List α},(∀ y∈l,E y=0)→Yai E l=0
 | [],_=>rfl
 | y::l,h=>by rw [Yai,if_pos (h y (by simp))];exact Ycr (fun z hz=>h z (by simp [hz]))
def XV (d:Domain) (all vars:List Param) (l:List Change) (du:Bool):Int:=Yai (fun x=>YaP d all vars x du) l
variable {B:Option Addr}
set_option maxHeartbeats 1000000 in
theorem YfO {l:List Change} {m b:Nat} {du:Bool} (h:CkG fz v d p all) (h1:Sl paramL fz A n c vars) (h2:Sl changeL fz B m b l) (hW:∀ x∈l,n+Xq x≤1000000000):
 QFn prog 104 [v,.slice A n c,.slice B m b,.bool du] fz (errV (XV d all vars l du)):=by
 have h0:=h
 obtain ⟨⟨vf,vpp,vg,vo,hck,hF,hPr,hFu,hO⟩,hw⟩:=h
 obtain ⟨gc,w1,w2,w3,w4,w5,w6,u1,u2,u3,u4,u5,u6,u7,Aa,na,ca,rfl,hc,hD,hP,hall⟩:=hck
 have l2:=h2.len
 have s2:=h2.short
 refine GFn.quiet ?_
 refine zF Tryz.func104 Tryz.ntmps104 (fun w0=>?_)
 refine zV ?_;intros
 refine Yk (fun q σ fz' H'=>∃ k:Nat,k≤m∧q=m - k∧σ=[(14,.int .i64 k),(13,.int .i64 m),(12,.slice B m b),(0,.pointer (some ⟨gc,0,none⟩)),(1,.slice A n c),(3,.bool du)]∧fz=fz'∧H'=[]∧(∀ i,i<k→∀ y,l[i]?=some y→YaP d all vars y du=0)) ⟨0,Z0 _,rfl,rfl,rfl,rfl,fun i hi=>absurd hi Zi⟩ Zw Zb ?_
 rintro q σ fz' H' ⟨k,hk,rfl,rfl,rfl,rfl,hh⟩
 refine zV ?_;intros
 refine zC (fun c1=>?_) (fun c1=>?_)
 ·obtain ⟨x,hx⟩:=Yg (l:=l) (k:=k) Zi
  refine zV ?_;intros
  refine zI h2 hx (fun p1 hp1=>?_)
  refine zL hp1 ?_
  intro cs hcs
  have hcs0:=hcs
  obtain ⟨v1,v2,v3,v4,v5,v6,v7,v8,rfl,hR⟩:=XF hcs
  obtain ⟨A1,n1,b1,rfl,_⟩:=hR.params
  obtain ⟨A2,n2,b2,rfl,_⟩:=hR.when_.args
  obtain ⟨A3,n3,b3,rfl,_⟩:=hR.when_.params
  obtain ⟨A4,n4,b4,rfl,_⟩:=hR.when_.exprs
  obtain ⟨A5,n5,b5,rfl,_⟩:=hR.when_.kids
  obtain ⟨A6,n6,b6,rfl,_⟩:=hR.args
  obtain ⟨A7,n7,b7,rfl,_⟩:=hR.value.args
  obtain ⟨A8,n8,b8,rfl,_⟩:=hR.value.kids
  refine zV ?_;intros
  refine zc (Ymu h0 h1 hcs0 (hW x (Zm hx))) ?_
  by_cases hz:YaP d all vars x du=0
  ·rw [hz,show errV 0=.nilIface from rfl]
   refine zV ?_;intros
   exact YA ⟨k+1,by omega,rfl,rfl,rfl,rfl,YO hh hx hz⟩ Zi Zw Zb
  ·rw [YF hz]
   refine zV ?_;intros
   exact zR (h:=by rw [XV,YeS (E:=fun x=>YaP d all vars x du) hx hh hz,YF hz])
 ·have hA:=Xf hh Zi
  refine zV ?_;intros
  exact zR (h:=by rw [XV,Ycr hA];rfl)
def YdH (d:Domain):Bs × Int:=match d.duratives with
 | []=>(⟨#[]⟩,0)
 | _::_=>match d.actions with
  | a::_=>(XW++a.name,6)
  | []=>match d.functions with
   | f::_=>(Xr++f.name,6)
   | []=>(⟨#[]⟩,0)
theorem get0 {α:Type} {l:List α} (h:0<l.length):∃ x r,l=x::r:=by cases l with
 | nil=>simp at h
 | cons x r=>exact ⟨x,r,rfl⟩
theorem kinds_q {vf vg vo:Value} (h:CkR fz v d p all vf vp vg vo) (hs:NmS d all):
 QFn prog 64 [v] fz (resV (YdH d)):=by
 obtain ⟨gc,v1,v2,v3,v4,v5,v6,u1,u2,u3,u4,u5,u6,u7,Aa,na,ca,rfl,hc,hD,hP,hall⟩:=h
 obtain ⟨A1,n1,b1,rfl,i1⟩:=hD.types
 obtain ⟨A2,n2,b2,rfl,i2⟩:=hD.constants
 obtain ⟨A3,n3,b3,rfl,i3⟩:=hD.predicates
 obtain ⟨A4,n4,b4,rfl,i4⟩:=hD.functions
 obtain ⟨A5,n5,b5,rfl,i5⟩:=hD.actions
 obtain ⟨A6,n6,b6,rfl,i6⟩:=hD.duratives
 have l3:=i3.len
 have l4:=i4.len
 have l5:=i5.len
 have l6:=i6.len
 have la:=hall.len
 have s3:=i3.short
 have s4:=i4.short
 have s5:=i5.short
 have s6:=i6.short
 have sa:=hall.short
 refine GFn.quiet ?_
 refine zF Tryz.func64 Tryz.ntmps64 (fun w0=>?_)
 refine zV ?_;intros
 refine zC (fun c1=>?_) (fun c1=>?_)
 ·have h0:d.duratives=[]:=List.eq_nil_of_length_eq_zero Zi
  refine zV ?_;intros
  exact ret2 rfl rfl rfl Zb (by rw [YdH,h0];rfl)
 ·obtain ⟨u,r,h0⟩:=get0 (l:=d.duratives) Zi
  refine zV ?_;intros
  refine zC (fun c2=>?_) (fun c2=>?_)
  ·obtain ⟨x,r2,h2⟩:=get0 (l:=d.actions) Zi
   have hxs:=hs.a x (by rw [h2];simp)
   have hx:d.actions[0]?=some x:=by rw [h2];rfl
   refine zV ?_;intros
   refine zI i5 hx (fun p1 hp=>?_)
   refine zV ?_;intros
   refine zH hp.Action_name (fun hxn=>?_)
   refine zG ?_;refine XC Zz Zz (by show _+_≤_;exact Nat.le_trans (Nat.add_le_add_left hxs _) Zh) ?_
   refine zV ?_;intros
   exact ret2 rfl rfl rfl Zb (by rw [YdH,h0,h2];rfl)
  ·have h2:d.actions=[]:=List.eq_nil_of_length_eq_zero Zi
   refine zV ?_;intros
   refine zC (fun c3=>?_) (fun c3=>?_)
   ·obtain ⟨x,r3,h3⟩:=get0 (l:=d.functions) Zi
    have hxs:=hs.f x (by rw [h3];simp)
    have hx:d.functions[0]?=some x:=by rw [h3];rfl
    refine zV ?_;intros
    refine zI i4 hx (fun p1 hp=>?_)
    refine zV ?_;intros
    refine zH hp.Function_name (fun hxn=>?_)
    refine zG ?_;refine XC Zz Zz (by show _+_≤_;exact Nat.le_trans (Nat.add_le_add_left hxs _) Zh) ?_
    refine zV ?_;intros
    exact ret2 rfl rfl rfl Zb (by rw [YdH,h0,h2,h3];rfl)
   ·have h3:d.functions=[]:=List.eq_nil_of_length_eq_zero Zi
    refine zV ?_;intros
    exact ret2 rfl rfl rfl Zb (by rw [YdH,h0,h2,h3];rfl)
def codeF (f:Function):Int:=if f.hi<f.lo then 7 else if 64≤f.hi - f.lo then 5 else 0
def YgB (a:Action):Int:=if 1048576<a.cost then 1 else 0
def Yfl (a:Durative):Int:=if a.duration<1∨62<a.duration then 1 else 0
def numsL (d:Domain):List (Bs × Int):=
 d.functions.map (fun x=>(Xr++x.name,codeF x))++(d.actions.map (fun x=>(XW++x.name,YgB x))++(d.duratives.map (fun x=>(Xn++x.name,Yfl x))++ []))
set_option maxHeartbeats 4000000 in
theorem Ylv {vf vg vo:Value} (h:CkR fz v d p all vf vp vg vo) (hs:NmS d all) (hn:∀ f∈d.functions,Yc0 f.lo∧Yc0 f.hi):
 QFn prog 65 [v] fz (resV (Xa (fun n=>n) (numsL d))):=by
 obtain ⟨gc,v1,v2,v3,v4,v5,v6,u1,u2,u3,u4,u5,u6,u7,Aa,na,ca,rfl,hc,hD,hP,hall⟩:=h
 obtain ⟨A1,n1,b1,rfl,i1⟩:=hD.types
 obtain ⟨A2,n2,b2,rfl,i2⟩:=hD.constants
 obtain ⟨A3,n3,b3,rfl,i3⟩:=hD.predicates
 obtain ⟨A4,n4,b4,rfl,i4⟩:=hD.functions
 obtain ⟨A5,n5,b5,rfl,i5⟩:=hD.actions
 obtain ⟨A6,n6,b6,rfl,i6⟩:=hD.duratives
 have l3:=i3.len
 have l4:=i4.len
 have l5:=i5.len
 have l6:=i6.len
 have la:=hall.len
 have s3:=i3.short
 have s4:=i4.short
 have s5:=i5.short
 have s6:=i6.short
 have sa:=hall.short
 refine GFn.quiet ?_
 refine zF Tryz.func65 Tryz.ntmps65 (fun w0=>?_)
 refine zV ?_;intros
 refine Yk (fun q σ fz' H'=>∃ k:Nat,k≤n4∧q=n4 - k∧σ=[(16,.int .i64 k),(15,.int .i64 n4),(14,.slice A4 n4 b4),(0,.pointer (some ⟨gc,0,none⟩))]∧fz=fz'∧H'=[]∧(∀ i,i<k→∀ x,d.functions[i]?=some x→codeF x=0)) ⟨0,Z0 _,rfl,rfl,rfl,rfl,fun i hi=>absurd hi Zi⟩ Zw Zb ?_
 rintro q σ fz' H' ⟨k,hk,rfl,rfl,rfl,rfl,hh⟩
 refine zV ?_;intros
 refine zC (fun c1=>?_) (fun c1=>?_)
 ·obtain ⟨x,hx⟩:=Yg (l:=d.functions) (k:=k) Zi
  have hxm:=Zm hx
  have hxs:=hs.f x hxm
  refine zV ?_;intros
  refine zI i4 hx (fun p1 hp=>?_)
  refine zL hp ?_
  intro cs hcs
  obtain ⟨w1,rfl,hR⟩:=XD hcs
  obtain ⟨Ap,np,cp,rfl,ip⟩:=hR.params
  have hnx:=hn x hxm
  obtain ⟨hn1,hn2⟩:=hnx
  unfold Yc0 at hn1 hn2
  refine zV ?_;intros
  refine zC (fun e1=>?_) (fun e1=>?_)
  ·have e1:=e1
   have hz:codeF x=7:=if_pos e1
   refine zV ?_;intros
   refine zG ?_;refine XC Zz Zz (by show _+_≤_;exact Nat.le_trans (Nat.add_le_add_left hxs _) Zh) ?_
   refine zV ?_;intros
   exact ret2 rfl rfl rfl Zb (by rw [numsL,X1 (l:=d.functions) (E:=fun n=>n) (f:=fun x=>Xr++x.name) (g:=codeF) hx hh (by rw [hz];decide),hz];rfl)
  ·refine zV ?_;intros
   refine zC (fun e2=>?_) (fun e2=>?_)
   ·have e2:=e2
    have hz:codeF x=5:=by rw [codeF,if_neg e1,if_pos e2]
    refine zV ?_;intros
    refine zG ?_;refine XC Zz Zz (by show _+_≤_;exact Nat.le_trans (Nat.add_le_add_left hxs _) Zh) ?_
    refine zV ?_;intros
    exact ret2 rfl rfl rfl Zb (by rw [numsL,X1 (l:=d.functions) (E:=fun n=>n) (f:=fun x=>Xr++x.name) (g:=codeF) hx hh (by rw [hz];decide),hz];rfl)
   ·have e2:=e2
    have hz:codeF x=0:=by rw [codeF,if_neg e1,if_neg e2]
    refine zV ?_;intros
    exact YA ⟨k+1,by omega,rfl,rfl,rfl,rfl,YO hh hx hz⟩ Zi Zw Zb
 ·have hzf:=fun x (hx:x∈d.functions)=>(by obtain ⟨i,hi⟩:=List.getElem?_of_mem hx;exact Xf hh Zi x hx:codeF x=0)
  refine zV ?_;intros
  refine Yk (fun q σ fz' H'=>∃ k:Nat,k≤n5∧q=n5 - k∧σ=[(48,.int .i64 k),(47,.int .i64 n5),(46,.slice A5 n5 b5),(0,.pointer (some ⟨gc,0,none⟩))]∧fz=fz'∧H'=[]∧(∀ i,i<k→∀ x,d.actions[i]?=some x→YgB x=0)) ⟨0,Z0 _,rfl,rfl,rfl,rfl,fun i hi=>absurd hi Zi⟩ Zw Zb ?_
  rintro q σ fz' H' ⟨k,hk,rfl,rfl,rfl,rfl,hh⟩
  refine zV ?_;intros
  refine zC (fun c1=>?_) (fun c1=>?_)
  ·obtain ⟨x,hx⟩:=Yg (l:=d.actions) (k:=k) Zi
   have hxm:=Zm hx
   have hxs:=hs.a x hxm
   refine zV ?_;intros
   refine zI i5 hx (fun p1 hp=>?_)
   refine zL hp ?_
   intro cs hcs
   obtain ⟨w1,w2,w3,w4,w5,w6,rfl,hR⟩:=XO hcs
   obtain ⟨Ap,np,cp,rfl,ip⟩:=hR.params
   obtain ⟨B0,e0,j0,rfl,_⟩:=hR.pre.args
   obtain ⟨B1,e1,j1,rfl,_⟩:=hR.pre.params
   obtain ⟨B2,e2,j2,rfl,_⟩:=hR.pre.exprs
   obtain ⟨B3,e3,j3,rfl,_⟩:=hR.pre.kids
   obtain ⟨B4,e4,j4,rfl,_⟩:=hR.changes
   refine zV ?_;intros
   refine zC (fun e1=>?_) (fun e1=>?_)
   ·have e1:=e1
    have hz:YgB x=1:=if_pos e1
    refine zV ?_;intros
    refine zG ?_;refine XC Zz Zz (by show _+_≤_;exact Nat.le_trans (Nat.add_le_add_left hxs _) Zh) ?_
    refine zV ?_;intros
    exact ret2 rfl rfl rfl Zb (by rw [numsL,Y4 (l:=d.functions) (E:=fun n=>n) (f:=fun x=>Xr++x.name) (g:=codeF) hzf,X1 (l:=d.actions) (E:=fun n=>n) (f:=fun x=>XW++x.name) (g:=YgB) hx hh (by rw [hz];decide),hz];rfl)
   ·have e1:=e1
    have hz:YgB x=0:=if_neg e1
    refine zV ?_;intros
    exact YA ⟨k+1,by omega,rfl,rfl,rfl,rfl,YO hh hx hz⟩ Zi Zw Zb
  ·have hza:=fun x (hx:x∈d.actions)=>(by obtain ⟨i,hi⟩:=List.getElem?_of_mem hx;exact Xf hh Zi x hx:YgB x=0)
   refine zV ?_;intros
   refine Yk (fun q σ fz' H'=>∃ k:Nat,k≤n6∧q=n6 - k∧σ=[(66,.int .i64 k),(65,.int .i64 n6),(64,.slice A6 n6 b6)]∧fz=fz'∧H'=[]∧(∀ i,i<k→∀ x,d.duratives[i]?=some x→Yfl x=0)) ⟨0,Z0 _,rfl,rfl,rfl,rfl,fun i hi=>absurd hi Zi⟩ Zw Zb ?_
   rintro q σ fz' H' ⟨k,hk,rfl,rfl,rfl,rfl,hh⟩
   refine zV ?_;intros
   refine zC (fun c1=>?_) (fun c1=>?_)
   ·obtain ⟨x,hx⟩:=Yg (l:=d.duratives) (k:=k) Zi
    have hxm:=Zm hx
    have hxs:=hs.u x hxm
    refine zV ?_;intros
    refine zI i6 hx (fun p1 hp=>?_)
    refine zL hp ?_
    intro cs hcs
    obtain ⟨w0,w1,w2,w3,w4,w5,w6,w7,w8,w9,w10,w11,w12,w13,w14,rfl,hR⟩:=XE hcs
    obtain ⟨Ap,np,cp,rfl,ip⟩:=hR.params
    obtain ⟨B0,e0,j0,rfl,_⟩:=hR.start.args
    obtain ⟨B1,e1,j1,rfl,_⟩:=hR.start.params
    obtain ⟨B2,e2,j2,rfl,_⟩:=hR.start.exprs
    obtain ⟨B3,e3,j3,rfl,_⟩:=hR.start.kids
    obtain ⟨B4,e4,j4,rfl,_⟩:=hR.over.args
    obtain ⟨B5,e5,j5,rfl,_⟩:=hR.over.params
    obtain ⟨B6,e6,j6,rfl,_⟩:=hR.over.exprs
    obtain ⟨B7,e7,j7,rfl,_⟩:=hR.over.kids
    obtain ⟨B8,e8,j8,rfl,_⟩:=hR.fin.args
    obtain ⟨B9,e9,j9,rfl,_⟩:=hR.fin.params
    obtain ⟨B10,e10,j10,rfl,_⟩:=hR.fin.exprs
    obtain ⟨B11,e11,j11,rfl,_⟩:=hR.fin.kids
    obtain ⟨B12,e12,j12,rfl,_⟩:=hR.atStart
    obtain ⟨B13,e13,j13,rfl,_⟩:=hR.atEnd
    refine zV ?_;intros
    refine zC (fun e1=>?_) (fun e1=>?_)
    ·have e1:=e1
     have hz:Yfl x=1:=if_pos (.inl e1)
     refine zV ?_;intros
     refine zG ?_;refine XC Zz Zz (by show _+_≤_;exact Nat.le_trans (Nat.add_le_add_left hxs _) Zh) ?_
     refine zV ?_;intros
     exact ret2 rfl rfl rfl Zb (by rw [numsL,Y4 (l:=d.functions) (E:=fun n=>n) (f:=fun x=>Xr++x.name) (g:=codeF) hzf,Y4 (l:=d.actions) (E:=fun n=>n) (f:=fun x=>XW++x.name) (g:=YgB) hza,X1 (l:=d.duratives) (E:=fun n=>n) (f:=fun x=>Xn++x.name) (g:=Yfl) hx hh (by rw [hz];decide),hz];rfl)
    ·refine zV ?_;intros
     refine zC (fun e2=>?_) (fun e2=>?_)
     ·have e2:=e2
      have hz:Yfl x=1:=if_pos (.inr e2)
      refine zV ?_;intros
      refine zG ?_;refine XC Zz Zz (by show _+_≤_;exact Nat.le_trans (Nat.add_le_add_left hxs _) Zh) ?_
      refine zV ?_;intros
      exact ret2 rfl rfl rfl Zb (by rw [numsL,Y4 (l:=d.functions) (E:=fun n=>n) (f:=fun x=>Xr++x.name) (g:=codeF) hzf,Y4 (l:=d.actions) (E:=fun n=>n) (f:=fun x=>XW++x.name) (g:=YgB) hza,X1 (l:=d.duratives) (E:=fun n=>n) (f:=fun x=>Xn++x.name) (g:=Yfl) hx hh (by rw [hz];decide),hz];rfl)
     ·have e2:=e2
      have hz:Yfl x=0:=if_neg (fun h=>h.elim e1 e2)
      refine zV ?_;intros
      exact YA ⟨k+1,by omega,rfl,rfl,rfl,rfl,YO hh hx hz⟩ Zi Zw Zb
   ·have hzu:=fun x (hx:x∈d.duratives)=>(by obtain ⟨i,hi⟩:=List.getElem?_of_mem hx;exact Xf hh Zi x hx:Yfl x=0)
    refine zV ?_;intros
    exact ret2 rfl rfl rfl Zb (by rw [numsL,Y4 (l:=d.functions) (E:=fun n=>n) (f:=fun x=>Xr++x.name) (g:=codeF) hzf,Y4 (l:=d.actions) (E:=fun n=>n) (f:=fun x=>XW++x.name) (g:=YgB) hza,Y4 (l:=d.duratives) (E:=fun n=>n) (f:=fun x=>Xn++x.name) (g:=Yfl) hzu];rfl)
def wPre:Bs:=⟨#[58,32,112,114,101,99,111,110,100,105,116,105,111,110]⟩
def wEff:Bs:=⟨#[58,32,101,102,102,101,99,116]⟩
def YiX:Bs:=⟨#[58,32]⟩
def wAt:Bs:=⟨#[58,32,101,102,102,101,99,116,32,97,116,32]⟩
def YbI:Bs:=⟨#[115,116,97,114,116]⟩
def YjT:Bs:=⟨#[111,118,101,114]⟩
def wEnd:Bs:=⟨#[101,110,100]⟩
abbrev idN:Int→Int:=fun n=>n
def Zer (l:List (Bs × Int)):Prop:=∀ q∈l,q.2=0
theorem YaL {p:Bs} {e:Int} {l:List (Bs × Int)} (h:e≠0):Xa idN ((p,e)::l)=(p,e):=by rw [Xa,if_neg h]
theorem WR {p:Bs} {e:Int} {l:List (Bs × Int)} (h:e=0):Xa idN ((p,e)::l)=Xa idN l:=by rw [Xa,if_pos h]
theorem Ydt:∀ {a r:List (Bs × Int)},Zer a→Xa idN (a++r)=Xa idN r
 | [],r,_=>rfl
 | (p,e)::a,r,h=>by rw [List.cons_append,WR (h (p,e) (by simp))];exact Ydt (fun q hq=>h q (by simp [hq]))
theorem Ygu {α:Type} {g:α→List (Bs × Int)} {r:List (Bs × Int)}:∀ {l:List α},(∀ x∈l,Zer (g x))→Xa idN (l.flatMap g++r)=Xa idN r
 | [],_=>rfl
 | x::l,h=>by rw [List.flatMap_cons,List.append_assoc,Ydt (h x (by simp))];exact Ygu (fun y hy=>h y (by simp [hy]))
theorem YiE {α:Type} {g:α→List (Bs × Int)} {r:List (Bs × Int)}:∀ {l:List α} {k:Nat} {x:α},l[k]?=some x→(∀ i,i<k→∀ y,l[i]?=some y→Zer (g y))→∃ r',Xa idN (l.flatMap g++r)=Xa idN (g x++r')
 | [],k,x,h,_=>by simp at h
 | y::l,0,x,h,_=>by simp at h;subst h;exact ⟨l.flatMap g++r,by rw [List.flatMap_cons,List.append_assoc]⟩
 | y::l,k+1,x,h,hh=>by
  obtain ⟨r',h'⟩:=YiE (g:=g) (r:=r) (l:=l) (k:=k) (x:=x) (by simpa using h) (fun i hi z hz=>hh (i+1) Zi z (by simpa using hz))
  exact ⟨r',by rw [List.flatMap_cons,List.append_assoc,Ydt (hh 0 Zi y rfl)];exact h'⟩
def actL (d:Domain) (all:List Param) (a:Action):List (Bs × Int):=[((XW++a.name)++wPre,formM d all a.params a.pre),((XW++a.name)++wEff,XV d all a.params a.changes false)]
def durL (d:Domain) (all:List Param) (a:Durative):List (Bs × Int):=
 [(((Xn++a.name)++YiX)++YbI,WS d all a.params a.start),(((Xn++a.name)++YiX)++YjT,WS d all a.params a.over),(((Xn++a.name)++YiX)++wEnd,WS d all a.params a.fin),
  (((Xn++a.name)++wAt)++YbI,XV d all a.params a.atStart true),(((Xn++a.name)++wAt)++wEnd,XV d all a.params a.atEnd true)]
def WU (d:Domain) (all:List Param):List (Bs × Int):=d.actions.flatMap (actL d all)++(d.duratives.flatMap (durL d all)++ [])
theorem YhY {A:List Change} {s:Nat} (h:s+(A.map Xq).sum≤1000000000):∀ x∈A,s+Xq x≤1000000000:=fun x hx=>by have:=Xz (w:=Xq) hx;omega
theorem nm_le {w n:Bs} {m:Nat} (h:n.size≤1000) (hw:w.size≤m):(w++n).size≤m+1000:=by rw [ByteArray.size_append];omega
theorem nm3 {w n c:Bs} (h:n.size≤1000) (hw:w.size≤1000) (hc:c.size≤1000):((w++n)++c).size≤10000:=by rw [ByteArray.size_append,ByteArray.size_append];omega
theorem Ych {a b:Bs} (h:a.size≤10000) (hb:b.size≤10000):a.size+b.size≤9223372036854775807:=by omega
set_option maxHeartbeats 16000000 in
theorem YmD (h:CkG fz v d p all) (hs:NmS d all) (hWa:∀ a∈d.actions,actW a≤1000000000) (hWd:∀ a∈d.duratives,durW a≤1000000000):
 QFn prog 67 [v] fz (resV (Xa idN (WU d all))):=by
 have h0:=h
 obtain ⟨⟨vf,vpp,vg,vo,hck,hF,hPr,hFu,hO⟩,hw⟩:=h
 obtain ⟨gc,v1,v2,v3,v4,v5,v6,u1,u2,u3,u4,u5,u6,u7,Aa,na,ca,rfl,hc,hD,hP,hall⟩:=hck
 obtain ⟨A5,n5,b5,rfl,i5⟩:=hD.actions
 obtain ⟨A6,n6,b6,rfl,i6⟩:=hD.duratives
 have l5:=i5.len
 have l6:=i6.len
 have s5:=i5.short
 have s6:=i6.short
 refine GFn.quiet ?_
 refine zF Tryz.func67 Tryz.ntmps67 (fun w0=>?_)
 refine zV ?_;intros
 refine Yk (fun q σ fz' H'=>∃ k:Nat,k≤n5∧q=n5 - k∧σ=[(22,.int .i64 k),(21,.int .i64 n5),(20,.slice A5 n5 b5),(0,.pointer (some ⟨gc,0,none⟩))]∧fz=fz'∧H'=[]∧(∀ i,i<k→∀ x,d.actions[i]?=some x→Zer (actL d all x))) ⟨0,Z0 _,rfl,rfl,rfl,rfl,fun i hi=>absurd hi Zi⟩ Zw Zb ?_
 rintro q σ fz' H' ⟨k,hk,rfl,rfl,rfl,rfl,hh⟩
 refine zV ?_;intros
 refine zC (fun c1=>?_) (fun c1=>?_)
 ·obtain ⟨x,hx⟩:=Yg (l:=d.actions) (k:=k) Zi
  have hxm:=Zm hx
  have hxs:=hs.a x hxm
  have hxw:=hWa x hxm
  unfold actW at hxw
  obtain ⟨r',hr'⟩:=YiE (r:=d.duratives.flatMap (durL d all)++ []) hx hh
  have e1:Xa idN (WU d all)=Xa idN (actL d all x++r'):=hr'
  refine zV ?_;intros
  refine zI i5 hx (fun p1 hp=>?_)
  refine zL hp ?_
  intro cs hcs
  obtain ⟨w1,w2,w3,w4,w5,w6,rfl,hR⟩:=XO hcs
  have hpre:=hR.pre
  obtain ⟨Ap,np,cp,rfl,ip⟩:=hR.params
  obtain ⟨B0,e0,j0,rfl,_⟩:=hR.pre.args
  obtain ⟨B1,e1',j1,rfl,_⟩:=hR.pre.params
  obtain ⟨B2,e2,j2,rfl,_⟩:=hR.pre.exprs
  obtain ⟨B3,e3,j3,rfl,_⟩:=hR.pre.kids
  obtain ⟨B4,e4,j4,rfl,ic⟩:=hR.changes
  have lp:=ip.len
  refine zV ?_;intros
  ((refine zG ?_);refine Yn (vs:=[.string x.pre.op,.string x.pre.name,.slice B0 e0 j0,.slice B1 e1' j1,.slice B2 e2 j2,.slice B3 e3 j3]) T 0 Zz Zz Zz Zz Zz Zz ?_)
  refine zV ?_;intros
  ((refine zG ?_);refine YB Zz Zz (YgF h0 ip hpre Zi) ?_)
  by_cases hz:formM d all x.params x.pre=0
  ·rw [hz,show errV 0=.nilIface from rfl]
   refine zV ?_;intros
   ((refine zG ?_);refine YB Zz Zz (YfO h0 ip ic (YhY Zi)) ?_)
   by_cases hy:XV d all x.params x.changes false=0
   ·rw [hy,show errV 0=.nilIface from rfl]
    refine zV ?_;intros
    exact YA ⟨k+1,by omega,rfl,rfl,rfl,rfl,YO hh hx (by intro q hq;simp only [actL,List.mem_cons,List.not_mem_nil,or_false] at hq;rcases hq with rfl | rfl<;>first | exact hz | exact hy)⟩ Zi Zw Zb
   ·rw [YF hy]
    refine zV ?_;intros
    refine zG ?_;refine XC Zz Zz (Ych Zh Zi) ?_
    refine zV ?_;intros
    refine zG ?_;refine XC Zz Zz (Ych (Nat.le_trans (nm_le hxs (by decide:_≤1000)) Zh) Zh) ?_
    refine zV ?_;intros
    exact ret2 rfl rfl rfl Zb (by rw [e1,actL];simp only [List.cons_append];rw [WR hz,YaL hy,resV,YF hy];rfl)
  ·rw [YF hz]
   refine zV ?_;intros
   refine zG ?_;refine XC Zz Zz (Ych Zh Zi) ?_
   refine zV ?_;intros
   refine zG ?_;refine XC Zz Zz (Ych (Nat.le_trans (nm_le hxs (by decide:_≤1000)) Zh) Zh) ?_
   refine zV ?_;intros
   exact ret2 rfl rfl rfl Zb (by rw [e1,actL];simp only [List.cons_append];rw [YaL hz,resV,YF hz];rfl)
 ·have hza:∀ x∈d.actions,Zer (actL d all x):=Xf hh Zi
  have e0:Xa idN (WU d all)=Xa idN (d.duratives.flatMap (durL d all)++ []):=Ygu hza
  refine zV ?_;intros
  refine Yk (fun q σ fz' H'=>∃ K:Nat,K≤n6∧q=n6 - K∧σ=[(59,.int .i64 K),(58,.int .i64 n6),(57,.slice A6 n6 b6),(0,.pointer (some ⟨gc,0,none⟩))]∧Le fz fz'∧H'=[]∧(∀ i,i<K→∀ x,d.duratives[i]?=some x→Zer (durL d all x))) ⟨0,Z0 _,rfl,rfl,Le.refl _,rfl,fun i hi=>absurd hi Zi⟩ Zw Zb ?_
  rintro q σ fz1 H' ⟨K,hK,rfl,rfl,hlK,rfl,hhK⟩
  have h1:=h0.mono hlK
  have hc:=hlK _ _ hc
  have i6:=i6.mono hlK
  refine zV ?_;intros
  refine zC (fun c2=>?_) (fun c2=>?_)
  ·obtain ⟨x,hx⟩:=Yg (l:=d.duratives) (k:=K) Zi
   have hxm:=Zm hx
   have hxs:=hs.u x hxm
   have hxw:=hWd x hxm
   unfold durW at hxw
   obtain ⟨r',hr'⟩:=YiE (r:=[]) hx hhK
   have E1:Xa idN (WU d all)=Xa idN (durL d all x++r'):=e0.trans hr'
   refine zV ?_;intros
   refine zI i6 hx (fun p1 hp=>?_)
   refine zL hp ?_
   intro cs hcs
   obtain ⟨w0,w1,w2,w3,w4,w5,w6,w7,w8,w9,w10,w11,w12,w13,w14,rfl,hR⟩:=XE hcs
   have hst:=hR.start
   have hov:=hR.over
   have hfi:=hR.fin
   obtain ⟨Ap,np,cp,rfl,ip⟩:=hR.params
   obtain ⟨B0,e0,j0,rfl,_⟩:=hR.start.args
   obtain ⟨B1,e1,j1,rfl,_⟩:=hR.start.params
   obtain ⟨B2,e2,j2,rfl,_⟩:=hR.start.exprs
   obtain ⟨B3,e3,j3,rfl,_⟩:=hR.start.kids
   obtain ⟨B4,e4,j4,rfl,_⟩:=hR.over.args
   obtain ⟨B5,e5,j5,rfl,_⟩:=hR.over.params
   obtain ⟨B6,e6,j6,rfl,_⟩:=hR.over.exprs
   obtain ⟨B7,e7,j7,rfl,_⟩:=hR.over.kids
   obtain ⟨B8,e8,j8,rfl,_⟩:=hR.fin.args
   obtain ⟨B9,e9,j9,rfl,_⟩:=hR.fin.params
   obtain ⟨B10,e10,j10,rfl,_⟩:=hR.fin.exprs
   obtain ⟨B11,e11,j11,rfl,_⟩:=hR.fin.kids
   obtain ⟨B12,e12,j12,rfl,i12⟩:=hR.atStart
   obtain ⟨B13,e13,j13,rfl,i13⟩:=hR.atEnd
   have lp:=ip.len
   refine zVX ?_;intros
   rename_i g
   refine Yp (Wp.mid (fun σ fz' H'=>σ=[(9,.pointer (some ⟨g,0,none⟩)),(59,.int .i64 K),(58,.int .i64 n6),(57,.slice A6 n6 b6),(0,.pointer (some ⟨gc,0,none⟩))]∧Le fz1 fz'∧H'=[(g,.cells #[.string x.name,.slice Ap np cp,.int .i64 x.duration,.string x.start.op,.string x.start.name,.slice B0 e0 j0,.slice B1 e1 j1,.slice B2 e2 j2,.slice B3 e3 j3,.string x.over.op,.string x.over.name,.slice B4 e4 j4,.slice B5 e5 j5,.slice B6 e6 j6,.slice B7 e7 j7,.string x.fin.op,.string x.fin.name,.slice B8 e8 j8,.slice B9 e9 j9,.slice B10 e10 j10,.slice B11 e11 j11,.slice B12 e12 j12,.slice B13 e13 j13] 106 (0,0))]∧∀ f∈ [x.start,x.over,x.fin],WS d all x.params f=0) ?_ ?_)
   ·refine zV ?_;intros
    ((refine zG ?_);refine Yn (vs:=[.string x.start.op,.string x.start.name,.slice B0 e0 j0,.slice B1 e1 j1,.slice B2 e2 j2,.slice B3 e3 j3]) T 0 Zz Zz Zz Zz Zz Zz ?_)
    refine zV ?_;intros
    ((refine zG ?_);refine Yn (vs:=[.string x.over.op,.string x.over.name,.slice B4 e4 j4,.slice B5 e5 j5,.slice B6 e6 j6,.slice B7 e7 j7]) T 0 Zz Zz Zz Zz Zz Zz ?_)
    refine zV ?_;intros
    ((refine zG ?_);refine Yn (vs:=[.string x.fin.op,.string x.fin.name,.slice B8 e8 j8,.slice B9 e9 j9,.slice B10 e10 j10,.slice B11 e11 j11]) T 0 Zz Zz Zz Zz Zz Zz ?_)
    refine zV ?_;intros
    refine Yb Zz (Yc T (cs:=[.string x.start.op,.string x.start.name,.slice B0 e0 j0,.slice B1 e1 j1,.slice B2 e2 j2,.slice B3 e3 j3,.string x.over.op,.string x.over.name,.slice B4 e4 j4,.slice B5 e5 j5,.slice B6 e6 j6,.slice B7 e7 j7,.string x.fin.op,.string x.fin.name,.slice B8 e8 j8,.slice B9 e9 j9,.slice B10 e10 j10,.slice B11 e11 j11]) Zz Zz Zz Zz Zz Zz Zz Zz (fun gb=>?_))
    refine zW ?_;intros
    first | refine Wp.freeze Zz (fun fz2 hl2 hb2=>?_) | refine Seq.freeze Zz (fun fz2 hl2 hb2=>?_)
    have hL3:Sl formulaL fz2 (some ⟨gb,0,none⟩) 3 3 [x.start,x.over,x.fin]:=Xg hb2 (ys:=[(x.start,[.string x.start.op,.string x.start.name,.slice B0 e0 j0,.slice B1 e1 j1,.slice B2 e2 j2,.slice B3 e3 j3]),(x.over,[.string x.over.op,.string x.over.name,.slice B4 e4 j4,.slice B5 e5 j5,.slice B6 e6 j6,.slice B7 e7 j7]),(x.fin,[.string x.fin.op,.string x.fin.name,.slice B8 e8 j8,.slice B9 e9 j9,.slice B10 e10 j10,.slice B11 e11 j11])]) rfl rfl (by
     intro q hq
     simp only [List.mem_cons,List.not_mem_nil,or_false] at hq
     rcases hq with rfl | rfl | rfl
     ·exact YX (hst.mono hl2)
     ·exact YX (hov.mono hl2)
     ·exact YX (hfi.mono hl2)) rfl Zh
    have h2:=h1.mono hl2
    have ip2:=ip.mono hl2
    have hcg:=hl2 _ _ hc
    refine zV ?_;intros
    refine Yk (fun q σ fz' H'=>∃ k:Nat,k≤3∧q=3 - k∧σ=[(71,.int .i64 k),(70,.int .i64 3),(69,.slice (some ⟨gb,0,none⟩) 3 3),(9,.pointer (some ⟨g,0,none⟩)),(59,.int .i64 K),(58,.int .i64 n6),(57,.slice A6 n6 b6),(0,.pointer (some ⟨gc,0,none⟩))]∧fz2=fz'∧H'=[(g,.cells #[.string x.name,.slice Ap np cp,.int .i64 x.duration,.string x.start.op,.string x.start.name,.slice B0 e0 j0,.slice B1 e1 j1,.slice B2 e2 j2,.slice B3 e3 j3,.string x.over.op,.string x.over.name,.slice B4 e4 j4,.slice B5 e5 j5,.slice B6 e6 j6,.slice B7 e7 j7,.string x.fin.op,.string x.fin.name,.slice B8 e8 j8,.slice B9 e9 j9,.slice B10 e10 j10,.slice B11 e11 j11,.slice B12 e12 j12,.slice B13 e13 j13] 106 (0,0))]∧(∀ i,i<k→∀ f,[x.start,x.over,x.fin][i]?=some f→WS d all x.params f=0)) ⟨0,Z0 _,rfl,rfl,rfl,rfl,fun i hi=>absurd hi Zi⟩ Zw Zb ?_
    rintro q σ fz' H' ⟨k,hk,rfl,rfl,rfl,rfl,hh3⟩
    refine zV ?_;intros
    refine zC (fun c3=>?_) (fun c3=>?_)
    ·obtain ⟨f,hf⟩:=Yg (l:=[x.start,x.over,x.fin]) (k:=k) (by show k<3;omega)
     have hfw:np+fW f≤1000000000:=by
      have:=Zm hf
      simp only [List.mem_cons,List.not_mem_nil,or_false] at this
      rcases this with rfl | rfl | rfl<;>omega
     obtain ⟨wn,hwn⟩:=Yg (l:=[YbI,YjT,wEnd]) (k:=k) (by show k<3;omega)
     have hwl:wn.size≤10:=by
      have:=Zm hwn
      simp only [List.mem_cons,List.not_mem_nil,or_false] at this
      rcases this with rfl | rfl | rfl<;>decide
     have hwv:([.string YbI,.string YjT,.string wEnd]:List Value)[k]?=some (.string wn):=by
      have:([.string YbI,.string YjT,.string wEnd]:List Value)=[YbI,YjT,wEnd].map Value.string:=rfl
      rw [this,List.getElem?_map,hwn];rfl
     refine zV ?_;intros
     refine zI hL3 hf (fun p3 hp3=>?_)
     refine zL hp3 ?_
     intro cs hcs
     obtain ⟨wa,wp,we,wk,rfl,hRf⟩:=YM hcs
     obtain ⟨E1',r1,q1,rfl,_⟩:=hRf.args
     obtain ⟨E2,r2,q2,rfl,_⟩:=hRf.params
     obtain ⟨E3,r3,q3,rfl,_⟩:=hRf.exprs
     obtain ⟨E4,r4,q4,rfl,_⟩:=hRf.kids
     refine zV ?_;intros
     refine zc (Ye0 h2 ip2 hRf hfw) ?_
     by_cases hz:WS d all x.params f=0
     ·rw [hz,show errV 0=.nilIface from rfl]
      refine zV ?_;intros
      exact YA ⟨k+1,by omega,rfl,rfl,rfl,rfl,YO hh3 hf hz⟩ Zi Zw Zb
     ·rw [YF hz]
      refine zV ?_;intros
      refine Wp.drawK (Hq:=[_,_]) T.mixed Zj Zj Zb ?_
      refine zW ?_;intros
      refine zG ?_;refine XC Zz Zz (Ych Zh Zi) ?_
      refine zW ?_;intros
      refine zG ?_;refine XC Zz Zz (Ych (Nat.le_trans (nm_le hxs (by decide:_≤1000)) Zh) Zh) ?_
      refine Ye ?_
      refine zW ?_;intros
      refine Ye ?_
      refine Ye ?_
      refine Ye ?_
      refine zW ?_;intros
      refine Ye ?_
      refine Ye ?_
      refine YD ⟨by kernel_rfl,?_⟩
      refine Yj (Yc T (cs:=[.string YbI,.string YjT,.string wEnd]) Zz Zz Zz Zz Zz Zz Zz Zz (fun gn=>⟨(⟨(Le.refl _),Zx⟩),?_⟩))
      refine Ch.qk (⟨(Le.refl _),Zx⟩) (Xu T Zz Zz Zz Zz Zz Zz Zi Zi ?_)
      refine Ch.qk (⟨(Le.refl _),Zx⟩) (Yt T 0 Zz Zz Zz Zz (by rw [Int.toNat_natCast];exact hwv) ?_)
      refine Ch.qk (⟨(Le.refl _),Zx⟩) (XC Zz Zz (Ych (nm3 hxs Zh Zh) Zi) ?_)
      refine Ch.qk (⟨(Le.refl _),Zx⟩) (Yz Zz ?_)
      refine Ch.qk (⟨(Le.refl _),Zx⟩) (Yz Zz ?_)
      refine Ch.done ?_
      refine zV ?_;intros
      refine ret2 rfl rfl rfl Zb ?_
      have e2:Xa idN (durL d all x++r')=(((Xn++x.name)++YiX)++wn,WS d all x.params f):=by
       rw [durL]
       simp only [List.cons_append]
       obtain rfl | rfl | rfl:k=0∨k=1∨k=2:=by omega
       ·simp at hf hwn;subst hf;subst hwn;rw [YaL hz]
       ·simp at hf hwn;subst hf;subst hwn;rw [WR (hh3 0 Zi _ rfl),YaL hz]
       ·simp at hf hwn;subst hf;subst hwn;rw [WR (hh3 0 Zi _ rfl),WR (hh3 1 Zi _ rfl),YaL hz]
      rw [E1,e2,resV,YF hz];rfl
    ·have hA:=Xf hh3 (by show 3≤k;omega)
     refine zV ?_;intros
     exact midN ⟨rfl,hl2,rfl,hA⟩ Zw Zb
   ·rintro σ fz2 H' ⟨rfl,hl2,rfl,hA⟩
    have h2:=h1.mono hl2
    have ip2:=ip.mono hl2
    have hcg:=hl2 _ _ hc
    have z1:WS d all x.params x.start=0:=hA _ (by simp)
    have z2:WS d all x.params x.over=0:=hA _ (by simp)
    have z3:WS d all x.params x.fin=0:=hA _ (by simp)
    refine zV ?_;intros
    refine Yb Zz (Yc T (cs:=[.slice B12 e12 j12,.slice B13 e13 j13]) Zz Zz Zz Zz Zz Zz Zz Zz (fun gl=>?_))
    refine zW ?_;intros
    refine Yk (fun q σ fz' H'=>∃ k:Nat,k≤2∧q=2 - k∧σ=[(100,.int .i64 k),(99,.int .i64 2),(98,.slice (some ⟨gl,0,none⟩) 2 2),(9,.pointer (some ⟨g,0,none⟩)),(59,.int .i64 K),(58,.int .i64 n6),(57,.slice A6 n6 b6),(0,.pointer (some ⟨gc,0,none⟩))]∧fz2=fz'∧H'=[(gl,.cells #[.slice B12 e12 j12,.slice B13 e13 j13] 39 (0,0)),(g,.cells #[.string x.name,.slice Ap np cp,.int .i64 x.duration,.string x.start.op,.string x.start.name,.slice B0 e0 j0,.slice B1 e1 j1,.slice B2 e2 j2,.slice B3 e3 j3,.string x.over.op,.string x.over.name,.slice B4 e4 j4,.slice B5 e5 j5,.slice B6 e6 j6,.slice B7 e7 j7,.string x.fin.op,.string x.fin.name,.slice B8 e8 j8,.slice B9 e9 j9,.slice B10 e10 j10,.slice B11 e11 j11,.slice B12 e12 j12,.slice B13 e13 j13] 106 (0,0))]∧(∀ i,i<k→∀ l,[x.atStart,x.atEnd][i]?=some l→XV d all x.params l true=0)) ⟨0,Z0 _,rfl,rfl,rfl,rfl,fun i hi=>absurd hi Zi⟩ Zw Zb ?_
    rintro q σ fz' H' ⟨k,hk,rfl,rfl,rfl,rfl,hh2⟩
    refine zV ?_;intros
    refine zC (fun c3=>?_) (fun c3=>?_)
    ·obtain ⟨l,hl⟩:=Yg (l:=[x.atStart,x.atEnd]) (k:=k) (by show k<2;omega)
     have hlw:np+(l.map Xq).sum≤1000000000:=by
      have:=Zm hl
      simp only [List.mem_cons,List.not_mem_nil,or_false] at this
      rcases this with rfl | rfl<;>omega
     obtain ⟨wn,hwn⟩:=Yg (l:=[YbI,wEnd]) (k:=k) (by show k<2;omega)
     have hwl:wn.size≤10:=by
      have:=Zm hwn
      simp only [List.mem_cons,List.not_mem_nil,or_false] at this
      rcases this with rfl | rfl<;>decide
     have hwv:([.string YbI,.string wEnd]:List Value)[k]?=some (.string wn):=by
      have:([.string YbI,.string wEnd]:List Value)=[YbI,wEnd].map Value.string:=rfl
      rw [this,List.getElem?_map,hwn];rfl
     obtain ⟨Bl,nl,cl,hlv,il⟩:∃ Bl nl cl,([.slice B12 e12 j12,.slice B13 e13 j13]:List Value)[k]?=some (.slice Bl nl cl)∧Sl changeL fz2 Bl nl cl l:=by
      obtain rfl | rfl:k=0∨k=1:=by omega
      ·simp at hl;subst hl;exact ⟨_,_,_,rfl,i12.mono hl2⟩
      ·simp at hl;subst hl;exact ⟨_,_,_,rfl,i13.mono hl2⟩
     refine zV ?_;intros
     refine zG ?_;refine Xu T Zz Zz Zz Zz Zz Zz Zi Zi ?_
     rw [Int.toNat_natCast]
     refine zG ?_;refine Yt T 0 Zz Zz Zz Zz hlv ?_
     refine zV ?_;intros
     refine zc (YfO h2 ip2 il (YhY hlw)) ?_
     by_cases hz:XV d all x.params l true=0
     ·rw [hz,show errV 0=.nilIface from rfl]
      refine zV ?_;intros
      exact YA ⟨k+1,by omega,rfl,rfl,rfl,rfl,YO hh2 hl hz⟩ Zi Zw Zb
     ·rw [YF hz]
      refine zV ?_;intros
      refine Wp.drawK (Hq:=[_,_]) T.mixed Zj Zj Zb ?_
      refine zW ?_;intros
      refine zG ?_;refine XC Zz Zz (Ych Zh Zi) ?_
      refine zW ?_;intros
      refine zG ?_;refine XC Zz Zz (Ych (Nat.le_trans (nm_le hxs (by decide:_≤1000)) Zh) Zh) ?_
      refine Ye ?_
      refine zW ?_;intros
      refine Ye ?_
      refine Ye ?_
      refine Ye ?_
      refine zW ?_;intros
      refine Ye ?_
      refine Ye ?_
      refine YD ⟨by kernel_rfl,?_⟩
      refine Yj (Yc T (cs:=[.string YbI,.string wEnd]) Zz Zz Zz Zz Zz Zz Zz Zz (fun gn=>⟨(⟨(Le.refl _),Zx⟩),?_⟩))
      refine Ch.qk (⟨(Le.refl _),Zx⟩) (Xu T Zz Zz Zz Zz Zz Zz Zi Zi ?_)
      refine Ch.qk (⟨(Le.refl _),Zx⟩) (Yt T 0 Zz Zz Zz Zz (by rw [Int.toNat_natCast];exact hwv) ?_)
      refine Ch.qk (⟨(Le.refl _),Zx⟩) (XC Zz Zz (Ych (nm3 hxs Zh Zh) Zi) ?_)
      refine Ch.qk (⟨(Le.refl _),Zx⟩) (Yz Zz ?_)
      refine Ch.qk (⟨(Le.refl _),Zx⟩) (Yz Zz ?_)
      refine Ch.done ?_
      refine zV ?_;intros
      refine ret2 rfl rfl rfl Zb ?_
      have e2:Xa idN (durL d all x++r')=(((Xn++x.name)++wAt)++wn,XV d all x.params l true):=by
       rw [durL]
       simp only [List.cons_append]
       rw [WR z1,WR z2,WR z3]
       obtain rfl | rfl:k=0∨k=1:=by omega
       ·simp at hl hwn;subst hl;subst hwn;rw [YaL hz]
       ·simp at hl hwn;subst hl;subst hwn;rw [WR (hh2 0 Zi _ rfl),YaL hz]
      rw [E1,e2,resV,YF hz];rfl
    ·have hB:=Xf hh2 (by show 2≤k;omega)
     have y1:XV d all x.params x.atStart true=0:=hB _ (by simp)
     have y2:XV d all x.params x.atEnd true=0:=hB _ (by simp)
     refine zV ?_;intros
     exact YA ⟨K+1,by omega,rfl,rfl,hlK.trans hl2,rfl,YO hhK hx (by intro q hq;simp only [durL,List.mem_cons,List.not_mem_nil,or_false] at hq;rcases hq with rfl | rfl | rfl | rfl | rfl<;>first | exact z1 | exact z2 | exact z3 | exact y1 | exact y2)⟩ Zi Zw Zb
  ·have hzd:∀ x∈d.duratives,Zer (durL d all x):=Xf hhK Zi
   refine zV ?_;intros
   exact ret2 rfl rfl rfl Zb (by rw [e0,Ygu hzd];rfl)
end Go.Proofs.YtbnpeechpebmeaaGreatDoor
namespace Go.Proofs.YtbnpeechpebmeaaGreatDoor
open Go.Lx Go.RowKit
variable {w w':World}
theorem fr_below (h:Below w.heap.size w w'):Fr [] w w':=⟨h.os,h.tape,h.output,h.size,fun b hb _=>h.block b hb,fun h=>h.elim⟩
end Go.Proofs.YtbnpeechpebmeaaGreatDoor
namespace Go.Proofs
open Go.Shelf
def Tryz.lays156_ren:Go.Shelf.Ren:=⟨fun | 156=>155 | 165=>196 | 166=>197 | 169=>198 | 240=>216 | 241=>217 | 276=>227 | 277=>228 | n=>n,fun | 31=>24 | 9=>9 | 3=>3 | 4=>4 | 0=>0 | 20=>20 | 72=>264 | 76=>266 | 70=>262 | 37=>22 | 75=>54 | 127=>279 | 164=>289 | 5=>5 | 80=>268 | n=>n,fun | n=>n⟩
theorem Tryz.lays156:Go.Proofs.Lays.n156 Tryz.prog Tryz.lays156_ren:={
 mixed:=by kernel_rfl
 f156:=Tryz.func155.trans (congrArg some (by kernel_rfl))
 f165:=Tryz.func196.trans (congrArg some (by kernel_rfl))
 f166:=Tryz.func197.trans (congrArg some (by kernel_rfl))
 f169:=Tryz.func198.trans (congrArg some (by kernel_rfl))
 f240:=Tryz.func216.trans (congrArg some (by kernel_rfl))
 f241:=Tryz.func217.trans (congrArg some (by kernel_rfl))
 f276:=Tryz.func227.trans (congrArg some (by kernel_rfl))
 f277:=Tryz.func228.trans (congrArg some (by kernel_rfl))
 t0:=Tryz.underlying0
 a0:=Tryz.isAgg0
 z0:=Tryz.sizeOf0
 v0:=Tryz.zeroValue0
 t3:=Tryz.underlying3
 a3:=Tryz.isAgg3
 z3:=Tryz.sizeOf3
 v3:=Tryz.zeroValue3
 t4:=Tryz.underlying4
 a4:=Tryz.isAgg4
 z4:=Tryz.sizeOf4
 v4:=Tryz.zeroValue4
 t9:=Tryz.underlying9
 a9:=Tryz.isAgg9
 z9:=Tryz.sizeOf9
 v9:=Tryz.zeroValue9
 t20:=Tryz.underlying20
 a20:=Tryz.isAgg20
 z20:=Tryz.sizeOf20
 v20:=Tryz.zeroValue20
 t31:=Tryz.underlying24
 a31:=Tryz.isAgg24
 z31:=Tryz.sizeOf24
 v31:=Tryz.zeroValue24
 t37:=Tryz.underlying22
 a37:=Tryz.isAgg22
 z37:=Tryz.sizeOf22
 v37:=Tryz.zeroValue22
 t70:=Tryz.underlying262
 a70:=Tryz.isAgg262
 z70:=Tryz.sizeOf262
 v70:=Tryz.zeroValue262
 t72:=Tryz.underlying264
 a72:=Tryz.isAgg264
 z72:=Tryz.sizeOf264
 v72:=Tryz.zeroValue264
 t75:=Tryz.underlying54
 a75:=Tryz.isAgg54
 z75:=Tryz.sizeOf54
 v75:=Tryz.zeroValue54
 t76:=Tryz.underlying266
 a76:=Tryz.isAgg266
 z76:=Tryz.sizeOf266
 v76:=Tryz.zeroValue266
 t127:=Tryz.underlying279
 a127:=Tryz.isAgg279
 z127:=Tryz.sizeOf279
 v127:=Tryz.zeroValue279
 t164:=Tryz.underlying289
 a164:=Tryz.isAgg289
 z164:=Tryz.sizeOf289
 v164:=Tryz.zeroValue289}
theorem Tryz.Builder_Extra_156:Builder.Extra Tryz.prog Tryz.lays156_ren:={
 sizeBuilder:=by kernel_rfl
 liesBuilder:=by kernel_rfl
 t5:=Tryz.underlying5
 a5:=Tryz.isAgg5
 z5:=Tryz.sizeOf5
 v5:=Tryz.zeroValue5
 infoByte:=by kernel_rfl
 cellsByte:=by kernel_rfl
 sizeByte:=by kernel_rfl
 neB5:=by decide}
open Go.RowKit in
/-- No element: the empty string; the world is as1 it was. (Whatever the slice's address and capacity: a nil slice too.) (LAID: no walk: one application.) -/
theorem Tryz.strings_Join_none (a:Option Addr) (c:Nat) (sep:ByteArray) (w:World):
 Calls Tryz.prog 155 #[.slice a 0 c,.string sep] w fun e w'=>e=.returned (.string ⟨#[]⟩)∧w'=w:=Any.strings_Join_none Tryz.lays156 Tryz.Builder_Extra_156 a c sep w
open Go.RowKit in
/-- strings.Join: "Join concatenates the elements of its first argument to create a single string. The separator string sep is placed between elements in the resulting string.": HOWEVER MANY ELEMENTS. Below the heap's end the world is as1 it was. (LAID: no walk: one application.) -/
theorem Tryz.strings_Join (bk o c:Nat) (xs:List ByteArray) (sep:ByteArray) (w:World) (hcells:∀ (j:Nat) x,xs[j]?=some x→w.cell? ⟨bk,o+j,none⟩=some (.string x)) (hbk:bk<w.heap.size) (hN:xs.length≤140737488355328) (hcap:xs.length≤c) (hlen:(Lib.join (xs.map (·.data.toList)) sep.data.toList).length≤140737488355328):
 Calls Tryz.prog 155 #[.slice (some ⟨bk,o,none⟩) xs.length c,.string sep] w fun e w'=>e=.returned (.string ⟨(Lib.join (xs.map (·.data.toList)) sep.data.toList).toArray⟩)∧Below w.heap.size w w':=Any.strings_Join Tryz.lays156 Tryz.Builder_Extra_156 bk o c xs sep w hcells hbk hN hcap hlen
end Go.Proofs
namespace Go.Proofs.YtbnpeechpebmeaaGreatDoor
open Go.Lx Go.RowKit
attribute [local instance 10] Classical.propDecidable
open Go.Proofs.Tryz (prog)
variable {A:Option Addr} {c n:Nat} {fz:FZ}
theorem joinS_q {l:List Bs} (h:Sl strL fz A n c l) (hlen:(Lib.join (l.map (·.data.toList)) [32]).length≤1000000000):
 QFn prog 155 [.slice A n c,.string ⟨#[32]⟩] fz (.string (strOf (Lib.join (l.map (·.data.toList)) [32]))):=by
 unfold QFn
 refine ⟨⟨_,Tryz.func155,by decide,by decide⟩,fun w hw=>?_⟩
 have h1:=h.len
 have h2:=h.cap
 have h3:=h.short
 cases l with
 | nil=>
  simp at h1
  subst h1
  refine (Tryz.strings_Join_none A c ⟨#[32]⟩ w).mono fun e w' ⟨he,hb⟩=>⟨?_,by subst hb;exact Fr.refl _ _⟩
  rw [he];rfl
 | cons x r=>
  rcases h.elem with h0 | ⟨ad,rfl,hE⟩
  ·rw [h0] at h1;simp at h1
  ·have hc:∀ (j:Nat) y,(x::r)[j]?=some y→Ybj fz (ad.add j)=some (.string y):=fun j y hy=>by
    have h4:=hE j y hy
    rw [show strL.size=1 from rfl,Nat.mul_one] at h4
    obtain ⟨v,hv,hcell⟩:=h4.cell rfl
    obtain ⟨e,_⟩:=hv
    simp at e
    rw [hcell,e]
   have hc0:=hc 0 x rfl
   have ha0:ad.add 0=ad:=by unfold Addr.add;rw [if_pos rfl]
   rw [ha0] at hc0
   obtain ⟨g,off,sp⟩:=ad
   cases sp with
   | some s=>
    unfold Ybj at hc0
    split at hc0
    ·simp at hc0
    ·cases hc0
   | none=>
    have hcells:∀ (j:Nat) y,(x::r)[j]?=some y→w.cell? ⟨g,off+j,none⟩=some (.string y):=fun j y hy=>by
     rw [← YiP];exact hw.cell (hc j y hy)
    have hg:g<w.heap.size:=by
     have h9:=hcells 0 x rfl
     simp only [World.cell?] at h9
     split at h9
     ·rename_i hq;exact (Array.getElem?_eq_some_iff.1 hq).1
     ·cases h9
    have:=Tryz.strings_Join g off c (x::r) ⟨#[32]⟩ w hcells hg Zi Zi (Nat.le_trans hlen Zh)
    rw [h1] at this
    exact this.mono fun e w' ⟨he,hb⟩=>⟨he,fr_below hb⟩
def YkW (name:Bs) (args:List Bs):Bs:=(name++⟨#[32]⟩)++strOf (Lib.join (args.map (·.data.toList)) [32])
def NmsS (l:List Bs):Prop:=l.length≤64∧∀ x∈l,x.size≤1000
theorem jt_len:∀ (l:List (List UInt8)),(∀ x∈l,x.length≤1000)→(Lib.joinTail [32] l).length≤l.length*1001
 | [],_=>by simp [Lib.joinTail]
 | x::r,h=>by
  have h1:=h x (by simp)
  have h2:=jt_len r (fun z hz=>h z (by simp [hz]))
  have h3:Lib.joinTail [32] (x::r)=([32]++x)++Lib.joinTail [32] r:=by simp [Lib.joinTail]
  rw [h3,List.length_append,List.length_append]
  simp only [List.length_cons,List.length_nil]
  omega
theorem Yjt (l:List (List UInt8)) (h:∀ x∈l,x.length≤1000):(Lib.join l [32]).length≤l.length*1001:=by
 cases l with
 | nil=>simp [Lib.join_nil]
 | cons x r=>
  have h1:=h x (by simp)
  have h2:=jt_len r (fun z hz=>h z (by simp [hz]))
  rw [Lib.join_cons,List.length_append]
  simp only [List.length_cons]
  omega
theorem text_len {args:List Bs} (h:NmsS args):(Lib.join (args.map (·.data.toList)) [32]).length≤100000:=by
 have h1:=Yjt (args.map (·.data.toList)) (fun x hx=>by obtain ⟨y,hy,rfl⟩:=List.mem_map.1 hx;exact h.2 y hy)
 rw [List.length_map] at h1
 have:=h.1
 omega
theorem YkV {name:Bs} {args:List Bs} (h:Sl strL fz A n c args) (hn:name.size≤1000) (ha:NmsS args):
 QFn prog 108 [.string name,.slice A n c] fz (.string (YkW name args)):=by
 have ht:=text_len ha
 refine GFn.quiet ?_
 refine zF Tryz.func108 Tryz.ntmps108 (fun w0=>?_)
 refine zV ?_;intros
 refine zG ?_;refine XC Zz Zz (by show _+1≤_;omega) ?_
 refine zV ?_;intros
 ((refine zG ?_);refine YB Zz Zz (joinS_q h Zi) ?_)
 refine zV ?_;intros
 refine zG ?_;refine XC Zz Zz (by rw [ByteArray.size_append,W3];show _+1+_≤_;omega) ?_
 refine zV ?_;intros
 exact zR (h:=rfl)
def YdB (tys all:List Param) (ks:List Bs) (name:Bs):List Param→List Bs→Prop
 | [],args=>YkW name args ∉ ks
 | p::r,args=>∃ x∈ofT tys p.typ all,YdB tys all ks name r (args++ [x])
variable {all:List Param}
theorem of_mem {tys:List Param} {t x:Bs} (h:x∈ofT tys t all) (ha:∀ o∈all,o.name.size≤1000):x.size≤1000:=by
 unfold ofT at h
 obtain ⟨o,ho,rfl⟩:=List.mem_map.1 h
 exact ha o (List.mem_filter.1 ho).1
theorem Yks {l:List Bs} (h:Sl strL fz A n c l) (hn:n≤1000000000):
 GFn prog 30 [.slice A n c] fz [] (fun v fz' H'=>Grow strL 9 fz' v n H' l):=by
 have l1:=h.len
 refine zF Tryz.func30 Tryz.ntmps30 (fun w0=>?_)
 refine zV ?_;intros
 refine zG ?_;refine Wm T Zz Zz Zz Zz (fun eA=>?_) (fun eA=>?_)
 ·subst eA
  have hl:l=[]:=by
   rcases h.elem with h0 | ⟨_,h0,_⟩
   ·exact List.eq_nil_of_length_eq_zero Zi
   ·cases h0
  subst hl
  simp at l1
  subst l1
  refine zV ?_;intros
  refine YcD (H':=[]) (H2:=[]) rfl rfl (Zr _) (fun fz3 hle3 _=>Grow.nil _ _ _)
 ·refine zV ?_;intros
  refine Yb Zz (WO T Zz Zz Zz (fun gb=>?_))
  refine zV ?_;intros
  refine Yb Zz (X8 T (Hr:=[]) (n:=0) (l:=[]) Zz Zz Zz Zz Zz Zz Zz Zz (Zr _) (Grow.block (ys:=[]) rfl rfl (by intro p hp;cases hp) rfl Zh) YbM h (by show _*16≤_;omega) Zi (fun v' Hs' hO'=>?_))
  obtain ⟨Av',cv',rfl,_,_⟩:=hO'.form
  refine zV ?_;intros
  refine YcD (H':=Hs') (H2:=[]) rfl rfl (by simp) (fun fz3 hle3 _=>(hO'.mono hle3).of (by simp) Zi)
set_option maxHeartbeats 4000000 in
theorem Yhn:∀ (ps:List Param) {fz:FZ} {v:Value} {d:Domain} {p:Problem} {all params:List Param} {gm:Nat} {m:List (Bs × Value)} {ks args:List Bs} {name:Bs} {A B:Option Addr} {na ca n c:Nat},CkG fz v d p all→fz gm=some (mapS m)→Ycv m ks→Sl paramL fz B n c params→Sl strL fz A na ca args→params.drop na=ps→na≤n→n≤64→name.size≤1000→NmsS args→(∀ x∈all,x.name.size≤1000)→all.length≤1000000000→
 QFn prog 109 [v,.map (some gm),.string name,.slice B n c,.slice A na ca] fz (.bool (decide (YdB d.types all ks name ps args)))
 | ps,fz,v,d,p,all,params,gm,m,ks,args,name,A,B,na,ca,n,c,h,hgm,hks,h1,h2,hps,hnn,h64,hnm,hag,hal,hall0=>by
  have h0:=h
  obtain ⟨⟨vf,vpp,vg,vo,hck,hF,hPr,hFu,hO⟩,hw⟩:=h
  obtain ⟨gc,w1,w2,w3,w4,w5,w6,u1,u2,u3,u4,u5,u6,u7,Aa,nl,cl,rfl,hc,hD,hP,hall⟩:=hck
  have l1:=h1.len
  have l2:=h2.len
  have ll:=hall.len
  refine GFn.quiet ?_
  refine zF Tryz.func109 Tryz.ntmps109 (fun w0=>?_)
  refine zV ?_;intros
  refine zC (fun c1=>?_) (fun c1=>?_)
  ·have hnil:ps=[]:=by rw [← hps,List.drop_eq_nil_of_le Zi]
   subst hnil
   refine zV ?_;intros
   refine zc (YkV h2 hnm hag) ?_
   refine zV ?_;intros
   refine zG ?_;refine Wi (v:=.bool (decide (YkW name args∈ks))) T Zz Zz Zz Zz Zz Zz Zz hgm hks.get ?_
   refine zV ?_;intros
   (exact ret1 rfl rfl Zb (by
    by_cases h9:YkW name args∈ks
    ·rw [decide_eq_true h9,decide_eq_false (fun h8:YdB d.types all ks name [] args=>h8 h9)];rfl
    ·rw [decide_eq_false h9,decide_eq_true (show YdB d.types all ks name [] args from h9)];rfl))
  ·obtain ⟨x,hx⟩:=Yg (l:=params) (k:=na) Zi
   obtain ⟨r,hr⟩:∃ r,ps=x::r:=⟨params.drop (na+1),by rw [← hps];exact List.drop_eq_getElem_cons Zi |>.trans (by rw [(Zg hx).2])⟩
   have hr2:params.drop (na+1)=r:=by
    have h9:params.drop na=x::r:=by rw [hps,hr]
    rw [← List.drop_drop,h9];rfl
   rw [hr]
   refine zWN ?_;intros
   refine Wp.drawK (Hq:=[]) T.mixed Zj Zj Zb ?_
   refine zW ?_;intros
   refine zI h1 hx (fun p1 hp1=>?_)
   refine zW ?_;intros
   refine zH hp1.Param_typ (fun hxs=>?_)
   refine Ye ?_
   refine Ye ?_
   refine zW ?_;intros
   refine YD ⟨by kernel_rfl,?_⟩
   refine Yj (Yl [] [] Zz Zz Zz (of_q hF hw hall Zi) (fun v6 fz6 H6 hle6 hR6=>⟨(⟨hle6,by intro p hp;cases hp⟩),?_⟩))
   obtain ⟨rfl,B2,m2,c2,rfl,hof⟩:=hR6
   refine Ch.qk (⟨hle6,by intro p hp;cases hp⟩) (Xt T Zz Zz Zz ?_)
   refine Ch.done ?_
   have lo:=hof.len
   have so:=hof.short
   refine zV ?_;intros
   refine Yk (fun q σ fz' H'=>∃ k:Nat,k≤m2∧q=m2 - k∧σ=[(40,.int .i64 k),(39,.int .i64 m2),(38,.slice B2 m2 c2),(0,.pointer (some ⟨gc,0,none⟩)),(1,.map (some gm)),(2,.string name),(3,.slice B n c),(4,.slice A na ca)]∧Le fz6 fz'∧H'=[]∧(∀ i,i<k→∀ y,(ofT d.types x.typ all)[i]?=some y→¬YdB d.types all ks name r (args++ [y]))) ⟨0,Z0 _,rfl,rfl,Le.refl _,rfl,fun i hi=>absurd hi Zi⟩ Zw Zb ?_
   rintro q σ fz1 H' ⟨k,hk,rfl,rfl,hl1,rfl,hh⟩
   have hle:=hle6.trans hl1
   refine zV ?_;intros
   refine zC (fun c2=>?_) (fun c2=>?_)
   ·obtain ⟨y,hy⟩:=Yg (l:=ofT d.types x.typ all) (k:=k) Zi
    have hof1:=hof.mono hl1
    have h21:=h2.mono hle
    have hag':NmsS (args++ [y]):=⟨by rw [List.length_append];simp;omega,fun z hz=>by
     rcases List.mem_append.1 hz with hz | hz
     ·exact hag.2 z hz
     ·simp at hz;subst hz;exact of_mem (Zm hy) hal⟩
    refine zV ?_;intros
    refine zI hof1 hy (fun p2 hp2=>?_)
    refine zH hp2 (fun hys=>?_)
    refine zV ?_;intros
    refine Yb Zz (Yl [] [] Zz Zz Zz (Yks h21 Zi) (fun v7 fz7 H7 hle7 hR7=>?_))
    obtain ⟨Av,cv,rfl,_,_⟩:=hR7.form
    have hR8:Grow strL 9 fz7 (.slice Av na cv) na (H7++ []) args:=by rw [List.append_nil];exact hR7
    refine zV ?_;intros
    refine Yb Zz (Yc T (cs:=[.string y]) Zz Zz Zz Zz Zz Zz Zz Zz (fun gb=>?_))
    refine Yb Zz (YK T (Hr:=[_]) (n:=na) (d:=y) Zz Zz Zz Zz Zz Zz Zz Zz (Zr _) hR8 YbM (.head _) ⟨rfl,hys⟩ (by show _*16≤_;omega) Zi (fun v' Hs' hO'=>?_))
    obtain ⟨Av',cv',rfl,_,_⟩:=hO'.form
    refine Seq.freezeAll (H1:=[]) (Zr _) (fun fz8 hle8 hf8=>?_)
    obtain ⟨A8,c8,e8,h8⟩:=hO'.sl hle8 (fun q hq=>hf8 q (by simp [hq])) Zi
    injection e8 with e81 e82 e83
    subst e81
    subst e83
    have hle9:=hle.trans (hle7.trans hle8)
    ((refine zG ?_);refine XY Zz Zz (Yhn r (h0.mono hle9) (hle9 _ _ hgm) hks (h1.mono hle9) h8 hr2 Zi h64 hnm hag' hal hall0) (fun f1=>?_) (fun f1=>?_))
    ·refine zV ?_;intros
     exact ret1 rfl rfl Zb (YC (by rw [YdB];exact ⟨y,Zm hy,Zt f1⟩))
    ·refine zV ?_;intros
     exact YA ⟨k+1,by omega,rfl,rfl,hl1.trans (hle7.trans hle8),rfl,YO (p:=fun y=>¬YdB d.types all ks name r (args++ [y])) hh hy (Zf f1)⟩ Zi Zw Zb
   ·have hA:=Xf (p:=fun y=>¬YdB d.types all ks name r (args++ [y])) hh Zi
    refine zV ?_;intros
    exact ret1 rfl rfl Zb (Ym (by rw [YdB];rintro ⟨y,hy,h9⟩;exact hA y hy h9))
 termination_by ps=>ps.length
 decreasing_by rw [hr];simp
def YiW:Bs:=⟨#[100,111,109,97,105,110]⟩
def Ycz:Bs:=⟨#[112,114,111,98,108,101,109]⟩
def wInitP:Bs:=⟨#[105,110,105,116]⟩
def YdW:Bs:=⟨#[118,97,108,117,101,115]⟩
def YkH:Bs:=⟨#[103,111,97,108]⟩
def YiV:Bs:=⟨#[108,105,109,105,116,115]⟩
def YkG:Bs:=⟨#[116,121,112,101,115]⟩
def txtV (v:Value_):Bs:=YkW v.fluent.name v.fluent.args
def OutV (d:Domain) (v:Value_):Prop:=∃ f,fstF d.functions v.fluent.name=some f∧(v.n<f.lo∨f.hi<v.n)
def YfW (d:Domain) (all:List Param):List Bs→List Value_→Int
 | _,[]=>0
 | ks,v::r=>
  if fluM d all [] v.fluent.name v.fluent.args≠0 then fluM d all [] v.fluent.name v.fluent.args
  else if OutV d v then 14
  else if txtV v∈ks then 4
  else YfW d all (ks++ [txtV v]) r
def Wj (d:Domain) (all:List Param) (p:Problem):Bs × Int:=
 if p.domain≠d.name then (Ycz,8)
 else if Yai (fun a=>atomM d all [] a.name a.args) p.init≠0 then (wInitP,Yai (fun a=>atomM d all [] a.name a.args) p.init)
 else if YfW d all [] p.values≠0 then (YdW,YfW d all [] p.values)
 else if ∃ f∈d.functions,YdB d.types all (p.values.map txtV) f.name f.params [] then (YdW,3)
 else (⟨#[]⟩,0)
variable {d:Domain} {vars:List Param}
theorem Yl3 {name:Bs} {args:List Bs} (h:fluM d all vars name args=0):∃ f,fstF d.functions name=some f∧args.length=f.params.length:=by
 unfold fluM at h
 cases hf:fstF d.functions name with
 | none=>rw [hf] at h;cases h
 | some f=>
  rw [hf] at h
  refine ⟨f,rfl,Classical.byContradiction fun h0=>?_⟩
  simp only [YiN] at h
  rw [if_pos h0] at h
  cases h
theorem fstF_mem {l:List Function} {x:Bs} {f:Function} (h:fstF l x=some f):f∈l:=List.mem_of_find?_eq_some h
variable {p:Problem} {v:Value}
set_option maxHeartbeats 16000000 in
theorem Ykr (h:CkG fz v d p all) (hs:NmS d all) (hpf:∀ f∈d.functions,f.params.length≤64) (hvs:∀ x∈p.values,x.fluent.name.size≤1000∧∀ a∈x.fluent.args,a.size≤1000) (hal:all.length≤1000000000):
 QFn prog 68 [v] fz (resV (Wj d all p)):=by
 have h0:=h
 obtain ⟨⟨vf,vpp,vg,vo,hck,hF,hPr,hFu,hO⟩,hw⟩:=h
 obtain ⟨gc,v1,v2,v3,v4,v5,v6,u1,u2,u3,u4,u5,u6,u7,Aa,na,ca,rfl,hc,hD,hP,hall⟩:=hck
 obtain ⟨A4,n4,b4,rfl,i4⟩:=hD.functions
 obtain ⟨B2,m2,d2,rfl,i2⟩:=hP.init
 obtain ⟨B3,m3,d3,rfl,i3⟩:=hP.values
 obtain ⟨gf,mf,rfl,hgf,hmf⟩:=hFu
 have l4:=i4.len
 have l2:=i2.len
 have l3:=i3.len
 have s4:=i4.short
 have s2:=i2.short
 have s3:=i3.short
 refine GFn.quiet ?_
 refine zF Tryz.func68 Tryz.ntmps68 (fun w0=>?_)
 refine zV ?_;intros
 refine zC (fun x1=>?_) (fun x1=>?_)
 ·refine zV ?_;intros
  exact ret2 rfl rfl rfl Zb (by rw [Wj,if_pos x1];rfl)
 ·have hdn:¬p.domain≠d.name:=fun h=>h x1
  refine zV ?_;intros
  refine Yk (fun q σ fz' H'=>∃ k:Nat,k≤m2∧q=m2 - k∧σ=[(32,.int .i64 k),(31,.int .i64 m2),(30,.slice B2 m2 d2),(0,.pointer (some ⟨gc,0,none⟩))]∧fz=fz'∧H'=[]∧(∀ i,i<k→∀ a,p.init[i]?=some a→atomM d all [] a.name a.args=0)) ⟨0,Z0 _,rfl,rfl,rfl,rfl,fun i hi=>absurd hi Zi⟩ Zw Zb ?_
  rintro q σ fz' H' ⟨k,hk,rfl,rfl,rfl,rfl,hh⟩
  refine zV ?_;intros
  refine zC (fun c1=>?_) (fun c1=>?_)
  ·obtain ⟨x,hx⟩:=Yg (l:=p.init) (k:=k) Zi
   refine zV ?_;intros
   refine zI i2 hx (fun p1 hp=>?_)
   refine zL hp ?_
   intro cs hcs
   obtain ⟨va,rfl,hR⟩:=WF hcs
   obtain ⟨Ap,np,cp,rfl,ia⟩:=hR.args
   refine zV ?_;intros
   ((refine zG ?_);refine YB Zz Zz (YiL h0 (Sl.nil (A:=none) (c:=0) Zi) ia) ?_)
   by_cases hz:atomM d all [] x.name x.args=0
   ·rw [hz,show errV 0=.nilIface from rfl]
    refine zV ?_;intros
    exact YA ⟨k+1,by omega,rfl,rfl,rfl,rfl,YO (p:=fun a:Atom=>atomM d all [] a.name a.args=0) hh hx hz⟩ Zi Zw Zb
   ·rw [YF hz]
    have e1:Yai (fun a:Atom=>atomM d all [] a.name a.args) p.init=atomM d all [] x.name x.args:=YeS (E:=fun a:Atom=>atomM d all [] a.name a.args) hx hh hz
    refine zV ?_;intros
    exact ret2 rfl rfl rfl Zb (by rw [Wj,if_neg hdn,e1,if_pos hz,resV,YF hz];rfl)
  ·have hA:=Xf hh Zi
   have e1:Yai (fun a:Atom=>atomM d all [] a.name a.args) p.init=0:=Ycr hA
   refine zV ?_;intros
   refine Yb Zz (Xo (fun gm=>?_))
   refine zV ?_;intros
   refine Yk (fun q σ fz' H'=>∃ (k:Nat) (ms:List (Bs × Value)),k≤m3∧q=m3 - k∧σ=[(53,.int .i64 k),(52,.int .i64 m3),(51,.slice B3 m3 d3),(7,.map (some gm)),(0,.pointer (some ⟨gc,0,none⟩))]∧fz=fz'∧H'=[(gm,mapS ms)]∧Ycv ms ((p.values.take k).map txtV)∧YfW d all [] p.values=YfW d all ((p.values.take k).map txtV) (p.values.drop k)) ⟨0,[],Z0 _,rfl,rfl,rfl,rfl,Ycv.nil,rfl⟩ Zw Zb ?_
   rintro q σ fz' H' ⟨k,ms,hk,rfl,rfl,rfl,rfl,hS,hV⟩
   refine zV ?_;intros
   refine zC (fun c2=>?_) (fun c2=>?_)
   ·obtain ⟨x,hx⟩:=Yg (l:=p.values) (k:=k) Zi
    have hxm:=Zm hx
    obtain ⟨hx1,hx2⟩:=hvs x hxm
    have hdr:p.values.drop k=x::p.values.drop (k+1):=by
     rw [List.drop_eq_getElem_cons Zi,(Zg hx).2]
    rw [hdr,YfW] at hV
    refine zV ?_;intros
    refine zI i3 hx (fun p1 hp=>?_)
    refine zL hp ?_
    intro cs hcs
    obtain ⟨va,rfl,hR⟩:=Ycj hcs
    obtain ⟨Ap,np,cp,rfl,ia⟩:=hR.fluent.args
    have la:=ia.len
    refine zV ?_;intros
    ((refine zG ?_);refine YB Zz Zz (Ye1 h0 (Sl.nil (A:=none) (c:=0) Zi) ia) ?_)
    by_cases hz:fluM d all [] x.fluent.name x.fluent.args=0
    ·obtain ⟨f,hf,hfl⟩:=Yl3 hz
     have hfp:=hpf f (fstF_mem hf)
     have hag:NmsS x.fluent.args:=⟨by omega,hx2⟩
     obtain ⟨C,n5,c5,hv5,h5⟩:=(hmf x.fluent.name).2 f hf
     rw [hz,show errV 0=.nilIface from rfl]
     rw [hz,if_neg Zh] at hV
     refine zWN ?_;intros
     refine Wp.drawK (Hq:=[_,_]) T.mixed Zj Zj Zb ?_
     refine zW ?_;intros
     refine zG ?_;refine Wi (v:=.agg #[.string f.name,.slice C n5 c5,.int .i64 f.lo,.int .i64 f.hi]) T Zz Zz Zz Zz Zz Zz Zz hgf (by rw [Yfi,hv5];rfl) ?_
     refine Ye ?_
     refine Ye ?_
     refine YD ⟨by kernel_rfl,?_⟩
     refine Yj (YI T Zz Zz (fun gv=>⟨(⟨(Le.refl _),Zx⟩),?_⟩))
     refine Ch.hard0 Zj (Yy T Zz Zz Zz Zz Zz Zz ?_)
     refine Ch.done ?_
     have hout:∀ {z:Int},OutV d x→YfW d all [] p.values=14:=fun ho=>by rw [hV,if_pos ho]
     have hnz:(14:Int)≠0:=by decide
     refine zW ?_;intros
     refine zC (fun c3=>?_) (fun c3=>?_)
     ·have e3:=hout (z:=0) ⟨f,hf,.inl c3⟩
      refine zV ?_;intros
      exact ret2 rfl rfl rfl Zb (by rw [Wj,if_neg hdn,e1,if_neg Zh,e3,if_pos Zh];rfl)
     ·refine zW ?_;intros
      refine zC (fun c4=>?_) (fun c4=>?_)
      ·have e3:=hout (z:=0) ⟨f,hf,.inr c4⟩
       refine zV ?_;intros
       exact ret2 rfl rfl rfl Zb (by rw [Wj,if_neg hdn,e1,if_neg Zh,e3,if_pos Zh];rfl)
      ·have hno:¬OutV d x:=by
        rintro ⟨f',hf',h9⟩
        rw [hf] at hf'
        injection hf' with hf'
        subst hf'
        exact h9.elim c3 c4
       rw [if_neg hno] at hV
       refine zV ?_;intros
       refine zc (YkV ia hx1 hag) ?_
       refine zV ?_;intros
       refine zG ?_;refine Ya4 (v:=.bool (decide (txtV x∈(p.values.take k).map txtV))) T 2 Zz Zz Zz Zz Zz Zz Zz Zz hS.get ?_
       by_cases hm:txtV x∈(p.values.take k).map txtV
       ·rw [if_pos hm] at hV
        rw [decide_eq_true hm]
        refine zV ?_;intros
        exact ret2 rfl rfl rfl Zb (by rw [Wj,if_neg hdn,e1,if_neg Zh,hV,if_pos Zh];rfl)
       ·rw [if_neg hm] at hV
        rw [decide_eq_false hm]
        refine zV ?_;intros
        refine zc (YkV ia hx1 hag) ?_
        refine zV ?_;intros
        refine YJ (Xv T (pre:=[_,_]) Zz Zz Zz Zz Zz Zz Zz (Zr _) ?_)
        refine zV ?_;intros
        have htk:(p.values.take (k+1)).map txtV=(p.values.take k).map txtV++ [txtV x]:=by rw [List.take_add_one,hx];simp
        exact YA ⟨k+1,_,by omega,rfl,rfl,rfl,rfl,by rw [htk];exact hS.add (txtV x),by rw [htk];exact hV⟩ Zi Zw Zb
    ·rw [YF hz]
     rw [if_pos hz] at hV
     refine zV ?_;intros
     exact ret2 rfl rfl rfl Zb (by rw [Wj,if_neg hdn,e1,if_neg Zh,hV,if_pos hz,resV,YF hz];rfl)
   ·have hk3:k=m3:=by omega
    rw [List.drop_eq_nil_of_le Zi,YfW] at hV
    rw [Zl Zi] at hS
    refine zVX ?_;intros
    first | refine Wp.freeze Zz (fun fz2 hl2 hm2=>?_) | refine Seq.freeze Zz (fun fz2 hl2 hm2=>?_)
    have h2:=h0.mono hl2
    have i42:=i4.mono hl2
    have hc2:=hl2 _ _ hc
    refine zV ?_;intros
    refine Yk (fun q σ fz' H'=>∃ k:Nat,k≤n4∧q=n4 - k∧σ=[(114,.int .i64 k),(113,.int .i64 n4),(112,.slice A4 n4 b4),(7,.map (some gm)),(0,.pointer (some ⟨gc,0,none⟩))]∧fz2=fz'∧H'=[]∧(∀ i,i<k→∀ f,d.functions[i]?=some f→¬YdB d.types all (p.values.map txtV) f.name f.params [])) ⟨0,Z0 _,rfl,rfl,rfl,rfl,fun i hi=>absurd hi Zi⟩ Zw Zb ?_
    rintro q σ fz' H' ⟨k,hk,rfl,rfl,rfl,rfl,hh⟩
    refine zV ?_;intros
    refine zC (fun c3=>?_) (fun c3=>?_)
    ·obtain ⟨x,hx⟩:=Yg (l:=d.functions) (k:=k) Zi
     have hxm:=Zm hx
     refine zV ?_;intros
     refine zI i42 hx (fun p1 hp=>?_)
     refine zL hp ?_
     intro cs hcs
     obtain ⟨va,rfl,hR⟩:=XD hcs
     obtain ⟨Ap,np,cp,rfl,ia⟩:=hR.params
     have la:=ia.len
     have hfp:=hpf x hxm
     refine zV ?_;intros
     ((refine zG ?_);refine XY Zz Zz (Yhn x.params h2 hm2 hS ia (Sl.nil (A:=none) (c:=0) Zi) rfl Zi Zi (hs.f x hxm) ⟨by simp,by simp⟩ hs.o hal) (fun f1=>?_) (fun f1=>?_))
     ·refine zV ?_;intros
      exact ret2 rfl rfl rfl Zb (by rw [Wj,if_neg hdn,e1,if_neg Zh,hV,if_neg Zh,if_pos ⟨x,hxm,Zt f1⟩];rfl)
     ·refine zV ?_;intros
      exact YA ⟨k+1,by omega,rfl,rfl,rfl,rfl,YO (p:=fun f:Function=>¬YdB d.types all (p.values.map txtV) f.name f.params []) hh hx (Zf f1)⟩ Zi Zw Zb
    ·have hM:=Xf (p:=fun f:Function=>¬YdB d.types all (p.values.map txtV) f.name f.params []) hh Zi
     refine zV ?_;intros
     exact ret2 rfl rfl rfl Zb (by rw [Wj,if_neg hdn,e1,if_neg Zh,hV,if_neg Zh,if_neg (fun ⟨f,hf,h9⟩=>hM f hf h9)];rfl)
def Ygo (d:Domain) (all:List Param) (p:Problem):Bs × Int:=
 let e:=if d.duratives=[] then formM d all [] p.goal else WS d all [] p.goal
 if e≠0 then (YkH,e) else (⟨#[]⟩,0)
theorem Yju {e:Int} (he:(if d.duratives=[] then formM d all [] p.goal else WS d all [] p.goal)=e) (h:e≠0):resV (Ygo d all p)=.tuple #[.string YkH,errV e]:=by
 simp only [Ygo,he];rw [if_pos h];rfl
theorem Yjv {e:Int} (he:(if d.duratives=[] then formM d all [] p.goal else WS d all [] p.goal)=e) (h:e=0):resV (Ygo d all p)=.tuple #[.string ⟨#[]⟩,.nilIface]:=by
 simp only [Ygo,he];rw [if_neg (by rw [h];decide)];rfl
set_option maxHeartbeats 4000000 in
theorem cgoal_q (h:CkG fz v d p all) (hW:fW p.goal≤1000000000):
 QFn prog 69 [v] fz (resV (Ygo d all p)):=by
 have h0:=h
 obtain ⟨⟨vf,vpp,vg,vo,hck,hF,hPr,hFu,hO⟩,hw⟩:=h
 obtain ⟨gc,v1,v2,v3,v4,v5,v6,u1,u2,u3,u4,u5,u6,u7,Aa,na,ca,rfl,hc,hD,hP,hall⟩:=hck
 obtain ⟨A6,n6,b6,rfl,i6⟩:=hD.duratives
 have hg:=hP.goal
 obtain ⟨B0,e0,j0,rfl,_⟩:=hP.goal.args
 obtain ⟨B1,e1,j1,rfl,_⟩:=hP.goal.params
 obtain ⟨B2,e2,j2,rfl,_⟩:=hP.goal.exprs
 obtain ⟨B3,e3,j3,rfl,_⟩:=hP.goal.kids
 have l6:=i6.len
 refine GFn.quiet ?_
 refine zF Tryz.func69 Tryz.ntmps69 (fun w0=>?_)
 refine zV ?_;intros
 refine zG ?_;refine Xs Zz Zz ?_
 refine zV ?_;intros
 refine zC (fun x1=>?_) (fun x1=>?_)
 ·have e5:(if d.duratives=[] then formM d all [] p.goal else WS d all [] p.goal)=WS d all [] p.goal:=if_neg (by intro h9;rw [h9] at l6;simp at l6;omega)
  refine zV ?_;intros
  refine zG ?_;refine Xs Zz Zz ?_
  refine zV ?_;intros
  refine zG ?_;refine Yar (vs:=[.string p.goal.op,.string p.goal.name,.slice B0 e0 j0,.slice B1 e1 j1,.slice B2 e2 j2,.slice B3 e3 j3]) T Zz Zz Zz hc Zz Zz ?_
  refine zV ?_;intros
  ((refine zG ?_);refine YaG Zz Zz Zz (Ye0 h0 (Sl.nil (A:=none) (c:=0) Zi) hg Zi) ?_)
  by_cases hz:WS d all [] p.goal=0
  ·rw [hz,show errV 0=.nilIface from rfl]
   refine zV ?_;intros
   exact ret2 rfl rfl rfl Zb (by rw [Yjv e5 hz])
  ·rw [YF hz]
   refine zV ?_;intros
   exact ret2 rfl rfl rfl Zb (by rw [Yju e5 hz,YF hz];rfl)
 ·have e5:(if d.duratives=[] then formM d all [] p.goal else WS d all [] p.goal)=formM d all [] p.goal:=if_pos (List.eq_nil_of_length_eq_zero Zi)
  refine zV ?_;intros
  refine zG ?_;refine Yar (vs:=[.string p.goal.op,.string p.goal.name,.slice B0 e0 j0,.slice B1 e1 j1,.slice B2 e2 j2,.slice B3 e3 j3]) T Zz Zz Zz hc Zz Zz ?_
  refine zV ?_;intros
  ((refine zG ?_);refine YaG Zz Zz Zz (YgF h0 (Sl.nil (A:=none) (c:=0) Zi) hg Zi) ?_)
  by_cases hz:formM d all [] p.goal=0
  ·rw [hz,show errV 0=.nilIface from rfl]
   refine zV ?_;intros
   exact ret2 rfl rfl rfl Zb (by rw [Yjv e5 hz])
  ·rw [YF hz]
   refine zV ?_;intros
   exact ret2 rfl rfl rfl Zb (by rw [Yju e5 hz,YF hz];rfl)
end Go.Proofs.YtbnpeechpebmeaaGreatDoor
