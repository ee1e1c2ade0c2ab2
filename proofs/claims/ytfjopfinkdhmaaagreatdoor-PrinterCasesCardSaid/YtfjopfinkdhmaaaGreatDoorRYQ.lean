/- The texts YA, YB, YC, YD, PFr, Shelf, PWalkU, YE, PWt, PCnt, laid together. Conditions: none. -/
import Derived.Test.YtfjopfinkdhmaaaGreatDoorRYP
import Derived.Shelf.Strings.OnBuilder
import Derived.Shelf.Strings.Repeat
import Derived.Shelf.Strconv.Itoa3
import Derived.Below
set_option linter.all false
noncomputable section
set_option maxRecDepth 20000
namespace Go.Proofs.YtfjopfinkdhmaaaGreatDoor
open Go.Lx Go.RowKit
attribute [local instance 10] Classical.propDecidable
open Go.Proofs.Tryz (prog)
def nmdM (want:Bs) (x:Sexpr):Except Int Bs:=match XF x with
 | none=>.error 2
 | some (w,r)=>match r with
  | [y]=>if w=want∧y.kind=1 then (if Y5 y.text then .ok y.text else .error 8) else .error 2
  | _=>.error 2
theorem YjG {x:Sexpr} {c:Int} {want:Bs} (h:nmdM want x=.error c):c≠0:=by
 unfold nmdM at h
 split at h
 ·injection h with h;omega
 ·split at h
  ·split at h
   ·split at h
    ·cases h
    ·injection h with h;omega
   ·injection h with h;omega
  ·injection h with h;omega
theorem YlK {x:Sexpr} {s want:Bs} (h:nmdM want x=.ok s):Short s:=by
 unfold nmdM at h
 split at h
 ·cases h
 ·split at h
  ·split at h
   ·split at h
    ·rename_i hn
     injection h with h
     subst h
     have:=hn.2.2.1;unfold Short;omega
    ·cases h
   ·cases h
  ·cases h
variable {fz:FZ} {vk:Value}
theorem YlL {x:Sexpr} {want:Bs} (h:YW fz x vk):QFn prog 98 [.agg #[.int .i64 x.kind,.int .i64 x.value,.int .i64 x.line,.int .i64 x.column,.string x.text,vk],.string want] fz (strV (nmdM want x)):=by
 have hM:nmdM want x=match XF x with
 | none=>.error 2
 | some (w,r)=>match r with
  | [y]=>if w=want∧y.kind=1 then (if Y5 y.text then .ok y.text else .error 8) else .error 2
  | _=>.error 2:=rfl
 have hRx:=h
 obtain ⟨A,n,c,rfl,ik⟩:=h.kids
 refine GFn.quiet ?_
 refine zF Tryz.func98 Tryz.ntmps98 (fun w0=>?_)
 refine zW ?_;intros
 refine Ya Zz (Ym [] _ Zz Zz Zz (YeE hRx) (fun r1 fz1 H1 hle1 hR1=>?_))
 obtain ⟨rfl,rfl,hR1⟩:=hR1
 unfold YcU at hR1
 cases hh:XF x with
 | none=>
  rw [hh] at hM hR1
  subst hR1
  rw [hM]
  refine zW ?_;intros
  exact ret2 rfl rfl rfl Zb rfl
 | some wr=>
  obtain ⟨w,r⟩:=wr
  rw [hh] at hM hR1
  obtain ⟨A',n',c',rfl,ir,hw⟩:=hR1
  simp only at hM
  have hrl:=ir.len
  refine zW ?_;intros
  refine zC (fun c2=>?_) (fun c2=>?_)
  ·have hM2:nmdM want x=.error 2:=by
    rw [hM]
    split
    ·rw [if_neg (fun h=>c2 h.1)]
    ·rfl
   rw [hM2]
   refine zW ?_;intros
   exact ret2 rfl rfl rfl Zb rfl
  ·refine zW ?_;intros
   refine zC (fun c3=>?_) (fun c3=>?_)
   ·have hM2:nmdM want x=.error 2:=by
     rw [hM]
     split
     ·simp at hrl;omega
     ·rfl
    rw [hM2]
    refine zW ?_;intros
    exact ret2 rfl rfl rfl Zb rfl
   ·obtain ⟨y,rfl⟩:∃ y,r=[y]:=by
     have h3:r.length=1:=by omega
     match r,h3 with
     | [y],_=>exact ⟨y,rfl⟩
    simp only at hM
    have hy: [y][0]?=some y:=rfl
    refine zW ?_;intros
    refine zI ir hy (fun p hp=>?_)
    refine zW ?_;intros
    ((refine zG ?_);refine Xy T Zz Zz Zz hp.Sexpr_kind (fun i1=>?_))
    refine zC (fun c4=>?_) (fun c4=>?_)
    ·rw [if_neg (fun h=>c4 h.2)] at hM
     rw [hM]
     refine zW ?_;intros
     exact ret2 rfl rfl rfl Zb rfl
    ·rw [if_pos ⟨c2,c4⟩] at hM
     refine zW ?_;intros
     refine zI ir hy (fun p2 hp2=>?_)
     refine zW ?_;intros
     refine zH hp2.Sexpr_text (fun hst=>?_)
     refine zW ?_;intros
     refine zb (Wk hst) (fun f1=>?_) (fun f1=>?_)
     ·rw [if_pos (Zt f1)] at hM
      rw [hM]
      refine zW ?_;intros
      refine zI ir hy (fun p3 hp3=>?_)
      refine zW ?_;intros
      refine zH hp3.Sexpr_text (fun hst3=>?_)
      refine zW ?_;intros
      exact ret2 rfl rfl rfl Zb rfl
     ·rw [if_neg (Zf f1)] at hM
      rw [hM]
      refine zW ?_;intros
      exact ret2 rfl rfl rfl Zb rfl
def Yd6:List Sexpr→Except Int (List Bs)
 | []=>.ok []
 | x::r=>if x.kind≠1 then .error 2 else if ¬Y5 x.text then .error 8 else exA [x.text] (Yd6 r)
def patM (w:Bs) (r:List Sexpr):Except Int Atom:=if Y5 w then (match Yd6 r with
 | .error c=>.error c
 | .ok a=>.ok ⟨w,a⟩) else .error 8
def zeroAt:Atom:=⟨⟨#[]⟩,[]⟩
theorem Ydo:atomL.rep fz zeroAt [.string ⟨#[]⟩,.slice none 0 0]:=YdQ (x:=zeroAt) ⟨XQ,IsSl.nil⟩
theorem Yj3:∀ {l:List Sexpr} {a:List Bs},Yd6 l=.ok a→a.length=l.length
 | [],a,h=>by rw [Yd6] at h;injection h with h;subst h;rfl
 | x::r,a,h=>by
  rw [Yd6] at h
  split at h
  ·cases h
  ·split at h
   ·cases h
   ·obtain ⟨b,h1,rfl⟩:=YhW h
    rw [List.length_append,Yj3 h1,List.length_cons,List.length_cons,List.length_nil];omega
variable {A:Option Addr} {c n:Nat}
set_option maxHeartbeats 4000000 in
theorem Yly {r:List Sexpr} {w:Bs} (hw:Short w) (h:Sl Yy fz A n c r) (hn:n≤1000000):
 GFn prog 188 [.string w,.slice A n c] fz [] (fun v fz' H'=>H'=[]∧ResL atomL fz' (patM w r) v):=by
 have hM:patM w r=if Y5 w then (match Yd6 r with
 | .error c=>.error c
 | .ok a=>.ok ⟨w,a⟩) else .error 8:=rfl
 have hl:=h.len
 refine zF Tryz.func188 Tryz.ntmps188 (fun w0=>?_)
 refine zW ?_;intros
 refine zb (Wk hw) (fun f1=>?_) (fun f1=>?_)
 ·rw [if_pos (Zt f1)] at hM
  refine zW ?_;intros
  rename_i g4 g6
  refine Yl (fun q σ fz' H'=>∃ (k:Nat) (v:Value) (Hs:HP) (out:List Bs),k≤n∧q=n - k∧σ=[(18,.int .i64 k),(17,.int .i64 n),(16,.slice A n c),(6,.pointer (some ⟨g6,0,none⟩)),(4,.pointer (some ⟨g4,0,none⟩))]∧fz=fz'∧H'=(g6,.cells #[.string w,v] 114 (0,0))::(g4,.cells #[.string ⟨#[]⟩,.slice none 0 0] 114 (0,0))::Hs∧Grow strL 9 fz v k Hs out∧Yd6 r=exA out (Yd6 (r.drop k))) ⟨0,_,[],[],Z0 _,rfl,rfl,rfl,rfl,Grow.nil _ _ _,by rw [Ycg];rfl⟩ Zw Zb ?_
  rintro q σ fz' H' ⟨k,v,Hs,out,hk,rfl,rfl,rfl,rfl,hG,hT⟩
  obtain ⟨Av,cv,rfl,_,_⟩:=hG.form
  refine zW ?_;intros
  refine zC (fun c1=>?_) (fun c1=>?_)
  ·obtain ⟨z,hz⟩:=Yn (l:=r) (k:=k) Zi
   rw [Ybj hz,Yd6] at hT
   refine zW ?_;intros
   refine zI h hz (fun p2 hp2=>?_)
   refine zL hp2 ?_
   intro cs hcs
   obtain ⟨vz,rfl,hRz⟩:=Yh hcs
   obtain ⟨Az,nz,cz,rfl,iz⟩:=hRz.kids
   refine zW ?_;intros
   rename_i g8
   refine zC (fun c2=>?_) (fun c2=>?_)
   ·rw [if_pos c2] at hT
    rw [show Yd6 r=.error 2 from hT] at hM
    refine zW ?_;intros
    exact YQ T (vs:=[.agg #[.string ⟨#[]⟩,.slice none 0 0],.iface 65 (.int .i64 2)]) Zz ⟨⟨_,_,2,_,_,_,rfl,rfl,rfl,rfl,rfl,rfl⟩,rfl,trivial⟩ (fun fz3 hle3 hf3=>⟨rfl,ResL.err hM Zh Ydo⟩)
   ·rw [if_neg (Classical.not_not.2 c2)] at hT
    refine zW ?_;intros
    refine zb (Wk hRz.text) (fun f2=>?_) (fun f2=>?_)
    ·rw [if_neg (Classical.not_not.2 (Zt f2)),Ye6] at hT
     refine zW ?_;intros
     refine Ya Zz (Yc T (cs:=[.string z.text]) Zz Zz Zz Zz Zz Zz Zz Zz (fun gb=>?_))
     refine Ya Zz (YS T (d:=z.text) (cs:=[.string z.text]) (Hr:=[(gb,_),(g8,_),(g6,_),(g4,_)]) Zz Zz Zz Zz Zz Zz Zz Zz (Zr _) hG Ycn (.head _) ⟨rfl,hRz.text⟩ (by show _*16≤_;omega) Zi (fun v' Hs' hG'=>?_))
     obtain ⟨Av',cv',rfl,_,_⟩:=hG'.form
     refine zW ?_;intros
     exact Yz (H':=(g6,_)::(g4,_)::Hs') ⟨k+1,_,Hs',out++ [z.text],by omega,rfl,rfl,rfl,rfl,hG',hT⟩ Zi Zw Zb
    ·rw [if_pos (Zf f2)] at hT
     rw [show Yd6 r=.error 8 from hT] at hM
     refine zW ?_;intros
     exact YQ T (vs:=[.agg #[.string ⟨#[]⟩,.slice none 0 0],.iface 65 (.int .i64 8)]) Zz ⟨⟨_,_,2,_,_,_,rfl,rfl,rfl,rfl,rfl,rfl⟩,rfl,trivial⟩ (fun fz3 hle3 hf3=>⟨rfl,ResL.err hM Zh Ydo⟩)
  ·rw [List.drop_eq_nil_of_le Zi,Yd6,exA,List.append_nil] at hT
   rw [hT] at hM
   refine zW ?_;intros
   refine YQ T (vs:=[.agg #[.string w,.slice Av k cv],.nilIface]) Zz ⟨⟨_,_,1,_,_,_,rfl,rfl,rfl,rfl,rfl,rfl⟩,rfl,trivial⟩ (fun fz3 hle3 hf3=>⟨rfl,ResL.fine hM (YdQ (x:=⟨w,out⟩) ⟨hw,?_⟩)⟩)
   obtain ⟨A1,c1',hv1,hS1⟩:=hG.sl hle3 (fun p hp=>hf3 p (List.mem_cons_of_mem _ (List.mem_cons_of_mem _ hp))) Zi
   exact ⟨_,_,_,hv1,hS1⟩
 ·rw [if_neg (Zf f1)] at hM
  refine zW ?_;intros
  exact YQ T (vs:=[.agg #[.string ⟨#[]⟩,.slice none 0 0],.iface 65 (.int .i64 8)]) Zz ⟨⟨_,_,0,_,_,_,rfl,rfl,rfl,rfl,rfl,rfl⟩,rfl,trivial⟩ (fun fz3 hle3 hf3=>⟨rfl,ResL.err hM Zh Ydo⟩)
theorem at_one:OneC atomL:=by
 intro fz d cs h u hu
 obtain ⟨v1,rfl,hR⟩:=Ww h
 obtain ⟨A1,n1,c1,rfl,_⟩:=hR.args
 simp at hu
 rcases hu with rfl | rfl<;>rfl
theorem val_one:OneC valueL:=by
 intro fz d cs h u hu
 obtain ⟨v1,rfl,hR⟩:=Yae h
 obtain ⟨A1,n1,c1,rfl,_⟩:=hR.fluent.args
 simp at hu
 rcases hu with rfl | rfl | rfl<;>rfl
def PrbS (fz:FZ) (g:Nat) (p:Problem) (H:HP):Prop:=
 ∃ vo vi vv a1 a2 a3 a4 Hi Hv,H.Perm ((g,.cells #[.string p.name,.string p.domain,vo,vi,vv,.string p.goal.op,.string p.goal.name,a1,a2,a3,a4] 40 (0,0))::(Hi++Hv))∧Short p.name∧Short p.domain∧IsSl paramL fz vo p.objects∧
  Grow atomL 114 fz vi p.init.length Hi p.init∧Grow valueL 116 fz vv p.values.length Hv p.values∧FormulaR fz p.goal a1 a2 a3 a4
variable {H:HP} {fz':FZ} {p:Problem}
theorem PrbS.mono {g:Nat} (h:PrbS fz g p H) (hle:Le fz fz'):PrbS fz' g p H:=by
 obtain ⟨vo,vi,vv,a1,a2,a3,a4,Hi,Hv,hp,h1,h2,h3,h4,h5,h6⟩:=h
 exact ⟨vo,vi,vv,a1,a2,a3,a4,Hi,Hv,hp,h1,h2,h3.mono hle,h4.mono hle,h5.mono hle,h6.mono hle⟩
def ElmR (g:Nat) (m:Except Int Problem) (v:Value) (fz:FZ) (H:HP):Prop:=match m with
 | .error c=>v=errV c∧c≠0∧∃ p,PrbS fz g p H∧p.init.length≤200000000∧p.values.length≤200000000
 | .ok p=>v=.nilIface∧PrbS fz g p H
theorem Yam {g:Nat} {m:Except Int Problem} {c:Int} (h:m=.error c) (hc:c≠0) (hp:PrbS fz g p H) (b1:p.init.length≤200000000) (b2:p.values.length≤200000000):ElmR g m (.iface 65 (.int .i64 c)) fz H:=by rw [h];exact ⟨(Yj hc).symm,hc,p,hp,b1,b2⟩
def elmB (p:Problem) (w:Bs) (r:List Sexpr):Except Int Problem:=if w=kEq then (match r with
 | [y,z]=>if z.kind=2 then (match XF y with
  | none=>.error 2
  | some (nm,l)=>match patM nm l with
   | .error c=>.error c
   | .ok a=>.ok {p with values:=p.values++ [⟨a,z.value⟩]}) else .error 2
 | _=>.error 2) else (match patM w r with
 | .error c=>.error c
 | .ok a=>.ok {p with init:=p.init++ [a]})
def elmM (p:Problem) (x:Sexpr):Except Int Problem:=match XF x with
 | none=>.error 2
 | some (w,r)=>elmB p w r
set_option maxHeartbeats 16000000 in
theorem Ymi {g:Nat} {x:Sexpr} (hs:XSm x) (hD:PrbS fz g p H) (hR:YW fz x vk) (b1:p.init.length≤100000000) (b2:p.values.length≤100000000):
 GFn prog 147 [.pointer (some ⟨g,0,none⟩),.agg #[.int .i64 x.kind,.int .i64 x.value,.int .i64 x.line,.int .i64 x.column,.string x.text,vk]] fz H (fun v fz' H'=>Le fz fz'∧ElmR g (elmM p x) v fz' H'):=by
 obtain ⟨vo,vi,vv,a1,a2,a3,a4,Hi,Hv,hperm,hn1,hn2,ho,hgi,hgv,hgo⟩:=hD
 have hRx:=hR
 obtain ⟨A,n,c,rfl,ik⟩:=hR.kids
 have hl:=ik.len
 obtain ⟨Xi,xi,rfl,_,_⟩:=hgi.form
 obtain ⟨Xv,xv,rfl,_,_⟩:=hgv.form
 generalize hM:elmM p x=M
 unfold elmM at hM
 have keep:∀ fz',Le fz fz'→PrbS fz' g p ((g,.cells #[.string p.name,.string p.domain,vo,.slice Xi p.init.length xi,.slice Xv p.values.length xv,.string p.goal.op,.string p.goal.name,a1,a2,a3,a4] 40 (0,0))::(Hi++Hv)):=fun fz' hle=>⟨vo,_,_,a1,a2,a3,a4,Hi,Hv,Zr _,hn1,hn2,ho.mono hle,hgi.mono hle,hgv.mono hle,hgo.mono hle⟩
 refine zF Tryz.func147 Tryz.ntmps147 (fun w0=>?_)
 refine Wp.perm hperm.symm ?_
 refine zW ?_;intros
 rename_i g3
 refine Ya Zz (Ym [] _ Zz Zz Zz (YeE hRx) (fun r1 fz1 H1 hle1 hR1=>?_))
 obtain ⟨rfl,rfl,hR1⟩:=hR1
 unfold YcU at hR1
 rw [List.nil_append]
 cases hh:XF x with
 | none=>
  rw [hh] at hM hR1
  subst hR1
  subst hM
  refine zW ?_;intros
  exact ret1 (H':=(g,_)::(Hi++Hv)) rfl rfl Zb ⟨Le.refl _,Yam rfl Zh (keep _ (Le.refl _)) Zi Zi⟩
 | some wr=>
  obtain ⟨w,r⟩:=wr
  rw [hh] at hM hR1
  obtain ⟨A',n',c',rfl,ir,hw⟩:=hR1
  simp only at hM
  unfold elmB at hM
  have hrl:=ir.len
  have hrs:=Wm hs hh
  refine zW ?_;intros
  refine zC (fun c2=>?_) (fun c2=>?_)
  ·rw [if_neg (show ¬w=kEq from c2)] at hM
   refine zW ?_;intros
   refine Ya Zz (Ym [] _ Zz Zz Zz (Yly hw ir Zi) (fun r5 fz5 H5 hle5 hR5=>?_))
   obtain ⟨rfl,y,cs5,hy5,hR5⟩:=hR5
   rw [List.nil_append]
   obtain ⟨x1,rfl,hY⟩:=Ww hy5
   obtain ⟨E1,e1,q1,rfl,_⟩:=hY.args
   cases hx:patM w r with
   | error c=>
    rw [hx] at hM hR5
    obtain ⟨rfl,hc⟩:=hR5
    subst hM
    rw [Yj hc]
    refine zW ?_;intros
    exact ret1 (H':=(g,_)::(Hi++Hv)) rfl rfl Zb ⟨hle5,Yam rfl hc (keep _ hle5) Zi Zi⟩
   | ok y2=>
    rw [hx] at hM hR5
    obtain ⟨rfl,rfl⟩:=hR5
    subst hM
    have hG:=hgi.mono hle5
    refine zWN ?_;intros
    rename_i g8
    refine Wp.perm (List.Perm.cons _ (List.Perm.cons _ (List.Perm.cons _ (Zq (l₁:=Hv) (l₂:=Hi))))) ?_
    refine Wp.drawP [8,9] (Hq:=[_,_,_]) T.mixed Zj Zj Zb ?_
    refine zW ?_;intros
    refine Ye ?_
    refine Ye ?_
    refine PK.p Zz (fun fz'=>by first | exact X5 Zz rfl | exact Xx Zz rfl | exact YZ T Zz Zz Zz Zz Zz Zz rfl | exact Yaf Zz Zz (Xw Zi) rfl | exact YU T Zz Zz Zz rfl) ?_
    refine PK.p Zz (fun fz'=>by first | exact X5 Zz rfl | exact Xx Zz rfl | exact YZ T Zz Zz Zz Zz Zz Zz rfl | exact Yaf Zz Zz (Xw Zi) rfl | exact YU T Zz Zz Zz rfl) ?_
    refine Ye ?_
    refine PK.done ⟨by kernel_rfl,?_⟩
    refine Yb Zz Zz ?_
    refine Yd (Yc T (cs:=[.string y2.name,.slice E1 e1 q1]) Zz Zz Zz Zz Zz Zz Zz Zz (fun gb=>⟨(⟨(Le.refl _),Zx⟩),?_⟩))
    refine Yb Zz Zz ?_
    refine Yd (YS T (d:=y2) (cs:=[.string y2.name,.slice E1 e1 q1]) (Hr:=(gb,_)::(g8,_)::(g3,_)::(g,_)::Hv) Zz Zz Zz Zz Zz Zz Zz Zz (Zr _) hG at_one (.head _) hy5 (by show _*40≤_;omega) Zi (fun v' Hs' hG'=>⟨(⟨(Le.refl _),Zx⟩),?_⟩))
    obtain ⟨Av',cv',rfl,_,_⟩:=hG'.form
    refine Yb Zz Zz ?_
    refine PoS.hard0 Zj (Wl T Zz Zz Zz Zz Zz Zz ?_)
    refine Po.done ?_
    refine zW ?_;intros
    have hlen:=hG'.len
    rw [← hlen] at hG' ⊢
    exact ret1 (H':=(g,_)::(Hv++Hs')) rfl rfl Zb ⟨hle5,rfl,vo,_,_,a1,a2,a3,a4,Hs',Hv,List.Perm.cons _ Zq,hn1,hn2,ho.mono hle5,hG',hgv.mono hle5,hgo.mono hle5⟩
  ·rw [if_pos (show w=kEq from c2)] at hM
   refine zW ?_;intros
   refine zC (fun c3=>?_) (fun c3=>?_)
   ·have hM2:M=.error 2:=by
     rw [← hM]
     split
     ·simp at hrl;omega
     ·rfl
    refine zW ?_;intros
    exact ret1 (H':=(g,_)::(Hi++Hv)) rfl rfl Zb ⟨Le.refl _,Yam hM2 Zh (keep _ (Le.refl _)) Zi Zi⟩
   ·obtain ⟨y,z,rfl⟩:∃ y z,r=[y,z]:=by
     have h3:r.length=2:=by omega
     match r,h3 with
     | [y,z],_=>exact ⟨y,z,rfl⟩
    simp only at hM
    have hy: [y,z][0]?=some y:=rfl
    have hz: [y,z][1]?=some z:=rfl
    have hsy:=X7 hs hh (y:=y) (by simp)
    refine zW ?_;intros
    refine zI ir hz (fun p1 hp1=>?_)
    refine zW ?_;intros
    ((refine zG ?_);refine Xy T Zz Zz Zz hp1.Sexpr_kind (fun i1=>?_))
    refine zC (fun c4=>?_) (fun c4=>?_)
    ·rw [if_neg c4] at hM
     refine zW ?_;intros
     exact ret1 (H':=(g,_)::(Hi++Hv)) rfl rfl Zb ⟨Le.refl _,Yam hM.symm Zh (keep _ (Le.refl _)) Zi Zi⟩
    ·rw [if_pos c4] at hM
     refine zW ?_;intros
     refine zI ir hy (fun p2 hp2=>?_)
     refine zL hp2 ?_
     intro cs2 hcs2
     obtain ⟨vy,rfl,hRy⟩:=Yh hcs2
     refine Ya Zz (Ym [] _ Zz Zz Zz (YeE hRy) (fun r6 fz6 H6 hle6 hR6=>?_))
     obtain ⟨rfl,rfl,hR6⟩:=hR6
     unfold YcU at hR6
     rw [List.nil_append]
     cases hhy:XF y with
     | none=>
      rw [hhy] at hM hR6
      subst hR6
      refine zW ?_;intros
      exact ret1 (H':=(g,_)::(Hi++Hv)) rfl rfl Zb ⟨Le.refl _,Yam hM.symm Zh (keep _ (Le.refl _)) Zi Zi⟩
     | some nl=>
      obtain ⟨nm,l⟩:=nl
      rw [hhy] at hM hR6
      obtain ⟨A7,n7,c7,rfl,il,hnm⟩:=hR6
      simp only at hM
      have hll:=il.len
      have hls:=Wm hsy hhy
      refine zW ?_;intros
      refine Ya Zz (Ym [] _ Zz Zz Zz (Yly hnm il Zi) (fun r5 fz5 H5 hle5 hR5=>?_))
      obtain ⟨rfl,y2,cs5,hy5,hR5⟩:=hR5
      rw [List.nil_append]
      obtain ⟨x1,rfl,hY⟩:=Ww hy5
      have hY':=hY
      obtain ⟨E1,e1,q1,rfl,_⟩:=hY.args
      cases hx:patM nm l with
      | error c=>
       rw [hx] at hM hR5
       obtain ⟨rfl,hc⟩:=hR5
       rw [Yj hc]
       refine zW ?_;intros
       exact ret1 (H':=(g,_)::(Hi++Hv)) rfl rfl Zb ⟨hle5,Yam hM.symm hc (keep _ hle5) Zi Zi⟩
      | ok y3=>
       rw [hx] at hM hR5
       obtain ⟨rfl,rfl⟩:=hR5
       subst hM
       have hG:=hgv.mono hle5
       refine zWN ?_;intros
       rename_i g12
       refine Wp.drawP [13,14] (Hq:=[_,_,_]) T.mixed Zj Zj Zb ?_
       refine zW ?_;intros
       refine zI (ir.mono hle5) hz (fun p8 hp8=>?_)
       refine zW ?_;intros
       ((refine zG ?_);refine Xy T Zz Zz Zz hp8.Sexpr_value (fun i8=>?_))
       refine zW ?_;intros
       refine Ye ?_
       refine Ye ?_
       refine PK.p Zz (fun fz'=>by first | exact X5 Zz rfl | exact Xx Zz rfl | exact YZ T Zz Zz Zz Zz Zz Zz rfl | exact Yaf Zz Zz (Xw Zi) rfl | exact YU T Zz Zz Zz rfl) ?_
       refine PK.p Zz (fun fz'=>by first | exact X5 Zz rfl | exact Xx Zz rfl | exact YZ T Zz Zz Zz Zz Zz Zz rfl | exact Yaf Zz Zz (Xw Zi) rfl | exact YU T Zz Zz Zz rfl) ?_
       refine Ye ?_
       refine PK.done ⟨by kernel_rfl,?_⟩
       refine Yb Zz Zz ?_
       refine Yd (Yc T (cs:=[.string y3.name,.slice E1 e1 q1,.int .i64 z.value]) Zz Zz Zz Zz Zz Zz Zz Zz (fun gb=>⟨(⟨(Le.refl _),Zx⟩),?_⟩))
       refine Yb Zz Zz ?_
       refine Yd (YS T (d:=⟨y3,z.value⟩) (cs:=[.string y3.name,.slice E1 e1 q1,.int .i64 z.value]) (Hr:=(gb,_)::(g12,_)::(g3,_)::(g,_)::Hi) Zz Zz Zz Zz Zz Zz Zz Zz (Zr _) hG val_one (.head _) (Yif (x:=⟨y3,z.value⟩) ⟨hY',i8⟩) (by show _*48≤_;omega) Zi (fun v' Hs' hG'=>⟨(⟨(Le.refl _),Zx⟩),?_⟩))
       obtain ⟨Av',cv',rfl,_,_⟩:=hG'.form
       refine Yb Zz Zz ?_
       refine PoS.hard0 Zj (Wl T Zz Zz Zz Zz Zz Zz ?_)
       refine Po.done ?_
       refine zW ?_;intros
       have hlen:=hG'.len
       rw [← hlen] at hG' ⊢
       exact ret1 (H':=(g,_)::(Hi++Hs')) rfl rfl Zb ⟨hle5,rfl,vo,_,_,a1,a2,a3,a4,Hi,Hs',Zr _,hn1,hn2,ho.mono hle5,hgi.mono hle5,hG',hgo.mono hle5⟩
def YhM {α:Type} (S:α→Sexpr→Except Int α):α→List Sexpr→Except Int α
 | a,[]=>.ok a
 | a,x::r=>match S a x with
  | .error c=>.error c
  | .ok b=>YhM S b r
def Yiu (p:Problem) (w:Bs) (r:List Sexpr):Except Int Problem:=
 if w=XI then (match parM false r [] [] with | .error c=>.error c | .ok l=>.ok {p with objects:=l})
 else if w=Yce then YhM elmM p r
 else match r with
  | [y]=>(match WN y with | .error c=>.error c | .ok f=>.ok {p with goal:=f})
  | _=>.error 2
theorem Ymh {p':Problem} {x:Sexpr} (h:elmM p x=.ok p'):p'.init.length≤p.init.length+1∧p'.values.length≤p.values.length+1:=by
 unfold elmM at h
 split at h
 ·cases h
 ·unfold elmB at h
  split at h
  ·split at h
   ·split at h
    ·split at h
     ·cases h
     ·split at h
      ·cases h
      ·injection h with h;subst h;exact ⟨Nat.le_succ _,by show (p.values++_).length≤_;rw [List.length_append];exact Zs _⟩
    ·cases h
   ·cases h
  ·split at h
   ·cases h
   ·injection h with h;subst h;exact ⟨by show (p.init++_).length≤_;rw [List.length_append];exact Zs _,Nat.le_succ _⟩
set_option maxHeartbeats 16000000 in
theorem Ykh {g:Nat} {r:List Sexpr} {w:Bs} (hs:∀ y∈r,XSm y) (hD:PrbS fz g p H) (ir:Sl Yy fz A n c r) (hn:n≤1000000) (b1:p.init.length+n≤100000000) (b2:p.values.length+n≤100000000):
 GFn prog 99 [.pointer (some ⟨g,0,none⟩),.string w,.slice A n c] fz H (fun v fz' H'=>Le fz fz'∧ElmR g (Yiu p w r) v fz' H'):=by
 generalize hM:Yiu p w r=M
 unfold Yiu at hM
 have hrl:=ir.len
 refine zF Tryz.func99 Tryz.ntmps99 (fun w0=>?_)
 refine zW ?_;intros
 refine zC (fun c1=>?_) (fun c1=>?_)
 ·rw [if_pos (show w=XI from c1)] at hM
  obtain ⟨vo,vi,vv,a1,a2,a3,a4,Hi,Hv,hperm,hn1,hn2,ho,hgi,hgv,hgo⟩:=hD
  refine Seq.perm hperm.symm ?_
  refine zW ?_;intros
  refine Ya Zz (Ym [] _ Zz Zz Zz (Yar (b:=false) ir Zi) (fun r5 fz5 H5 hle5 hR5=>?_))
  obtain ⟨rfl,hR5⟩:=hR5
  rw [List.nil_append]
  cases hps:parM false r [] [] with
  | error c=>
   rw [hps] at hM hR5
   obtain ⟨rfl,hc⟩:=hR5
   rw [Yj hc]
   refine zW ?_;intros
   exact ret1 (H':=(g,_)::(Hi++Hv)) rfl rfl Zb ⟨hle5,Yam (p:={p with objects:=[]}) hM.symm hc ⟨_,vi,vv,a1,a2,a3,a4,Hi,Hv,Zr _,hn1,hn2,IsSl.nil,hgi.mono hle5,hgv.mono hle5,hgo.mono hle5⟩ (by show p.init.length≤_;omega) (by show p.values.length≤_;omega)⟩
  | ok l=>
   rw [hps] at hM hR5
   obtain ⟨A5,n5,c5,rfl,il⟩:=hR5
   subst hM
   refine zW ?_;intros
   exact ret1 (H':=(g,_)::(Hi++Hv)) rfl rfl Zb ⟨hle5,rfl,_,vi,vv,a1,a2,a3,a4,Hi,Hv,Zr _,hn1,hn2,⟨_,_,_,rfl,il⟩,hgi.mono hle5,hgv.mono hle5,hgo.mono hle5⟩
 ·rw [if_neg (show ¬w=XI from c1)] at hM
  refine zW ?_;intros
  refine zC (fun c2=>?_) (fun c2=>?_)
  ·rw [if_pos (show w=Yce from c2)] at hM
   refine zW ?_;intros
   refine Yl (fun q σ fz' H'=>∃ (k:Nat) (p2:Problem),k≤n∧q=n - k∧σ=[(40,.int .i64 k),(39,.int .i64 n),(38,.slice A n c),(7,.nilIface),(0,.pointer (some ⟨g,0,none⟩))]∧Le fz fz'∧PrbS fz' g p2 H'∧p2.init.length≤p.init.length+k∧p2.values.length≤p.values.length+k∧M=YhM elmM p2 (r.drop k)) ⟨0,p,Z0 _,rfl,rfl,Le.refl _,hD,Zs _,Zs _,hM.symm⟩ Zw (List.Sublist.refl _) ?_
   rintro q σ fz' H' ⟨k,p2,hk,rfl,rfl,hle,hD2,hl1,hl2,hF⟩
   refine zW ?_;intros
   refine zC (fun c3=>?_) (fun c3=>?_)
   ·obtain ⟨z,hz⟩:=Yn (l:=r) (k:=k) Zi
    have hsz:=hs z (Zm hz)
    rw [Ybj hz,YhM] at hF
    refine zW ?_;intros
    refine zI (ir.mono hle) hz (fun p1 hp1=>?_)
    refine zL hp1 ?_
    intro cs hcs
    obtain ⟨vz,rfl,hRz⟩:=Yh hcs
    have hRz':=hRz
    obtain ⟨Az,nz,cz,rfl,iz⟩:=hRz.kids
    refine zW ?_;intros
    rename_i g9
    refine Ya Zz (Does.perm (Zq (l₁:=H') (l₂:=[(g9,_)])) (Ym H' [(g9,_)] Zz Zz Zz (Ymi hsz hD2 hRz' Zi Zi) (fun v6 fz6 H6 hle6 hR6=>?_)))
    obtain ⟨_,hR6⟩:=hR6
    refine Seq.perm (H':=[(g9,_)]++H6) Zq ?_
    cases hx:elmM p2 z with
    | error c'=>
     rw [hx] at hR6 hF
     obtain ⟨rfl,hc,p3,hp3,hb3,hb4⟩:=hR6
     rw [Yj hc]
     refine zW ?_;intros
     exact ret1 (H':=H6) rfl rfl (List.Sublist.cons _ (List.Sublist.refl _)) ⟨hle.trans hle6,Yam hF hc hp3 hb3 hb4⟩
    | ok d2=>
     rw [hx] at hR6 hF
     obtain ⟨rfl,hD6⟩:=hR6
     have hel:=Ymh hx
     refine zW ?_;intros
     exact Yz (H':=H6) ⟨k+1,d2,by omega,rfl,rfl,hle.trans hle6,hD6,by omega,by omega,hF⟩ Zi Zw (List.Sublist.cons _ (List.Sublist.refl _))
   ·rw [List.drop_eq_nil_of_le Zi,YhM] at hF
    refine zW ?_;intros
    exact ret1 (H':=H') rfl rfl (List.Sublist.refl _) ⟨hle,by rw [hF];exact ⟨rfl,hD2⟩⟩
  ·rw [if_neg (show ¬w=Yce from c2)] at hM
   refine zW ?_;intros
   refine zC (fun c3=>?_) (fun c3=>?_)
   ·have hM2:M=.error 2:=by
     rw [← hM]
     split
     ·simp at hrl;omega
     ·rfl
    refine zW ?_;intros
    exact ret1 (H':=H) rfl rfl (List.Sublist.refl _) ⟨Le.refl _,Yam hM2 Zh hD Zi Zi⟩
   ·obtain ⟨y,rfl⟩:∃ y,r=[y]:=by
     have h3:r.length=1:=by omega
     match r,h3 with
     | [y],_=>exact ⟨y,rfl⟩
    simp only at hM
    have hy: [y][0]?=some y:=rfl
    obtain ⟨vo,vi,vv,a1,a2,a3,a4,Hi,Hv,hperm,hn1,hn2,ho,hgi,hgv,hgo⟩:=hD
    refine Seq.perm hperm.symm ?_
    refine zW ?_;intros
    refine zI ir hy (fun p1 hp1=>?_)
    refine zL hp1 ?_
    intro cs hcs
    obtain ⟨vy,rfl,hRy⟩:=Yh hcs
    refine Ya Zz (Ym [] _ Zz Zz Zz (Yct hRy) (fun r5 fz5 H5 hle5 hR5=>?_))
    obtain ⟨rfl,f5,cs5,hr5,hR5⟩:=hR5
    rw [List.nil_append]
    obtain ⟨y1,y2,y3,y4,rfl,hE5⟩:=YK hr5
    have hE6:=hE5
    obtain ⟨B1,m1,d1,rfl,_⟩:=hE5.args
    obtain ⟨B2,m2,d2,rfl,_⟩:=hE5.params
    obtain ⟨B3,m3,d3,rfl,_⟩:=hE5.exprs
    obtain ⟨B4,m4,d4,rfl,_⟩:=hE5.kids
    cases hx:WN y with
    | error c=>
     rw [hx] at hM hR5
     obtain ⟨rfl,hc⟩:=hR5
     rw [Yj hc]
     refine zW ?_;intros
     exact ret1 (H':=(g,_)::(Hi++Hv)) rfl rfl Zb ⟨hle5,Yam (p:={p with goal:=f5}) hM.symm hc ⟨_,vi,vv,_,_,_,_,Hi,Hv,Zr _,hn1,hn2,ho.mono hle5,hgi.mono hle5,hgv.mono hle5,hE6⟩ (by show p.init.length≤_;omega) (by show p.values.length≤_;omega)⟩
    | ok f=>
     rw [hx] at hM hR5
     obtain ⟨rfl,rfl⟩:=hR5
     subst hM
     refine zW ?_;intros
     exact ret1 (H':=(g,_)::(Hi++Hv)) rfl rfl Zb ⟨hle5,rfl,_,vi,vv,_,_,_,_,Hi,Hv,Zr _,hn1,hn2,ho.mono hle5,hgi.mono hle5,hgv.mono hle5,hE6⟩
def Ygj:List Bs→Problem→List Sexpr→Except Int Problem
 | _,p,[]=>.ok p
 | kw,p,s::r=>match XF s with
  | none=>.error 2
  | some (w,l)=>if 0≤kwI kw w then (match Yiu p w l with
   | .error c=>.error c
   | .ok p'=>Ygj (kw.drop ((kwI kw w).toNat+1)) p' r) else .error 2
def kwP3:List Bs:=[XI,Yce,YbU]
def pPar (x:Sexpr):Except Int Problem:=match XF x with
 | none=>.error 2
 | some (w,r)=>if w=YB then (match r with
  | []=>.error 2
  | y::r1=>match nmdM Xe y with
   | .error c=>.error c
   | .ok nm=>match r1 with
    | []=>.error 2
    | z::r2=>match nmdM YI z with
     | .error c=>.error c
     | .ok dm=>Ygj kwP3 ⟨nm,dm,[],[],[],XJ⟩ r2) else .error 2
def YcB (x:Sexpr):Except Int Problem:=if XVal x then (match pPar x with
 | .error c=>.error c
 | .ok p=>if FVal p.goal∧YcA p∧XVal (prbX p) then .ok p else .error 5) else .error 2
structure PrbT (k:Nat) (p:Problem):Prop where
 o:p.objects.length≤1000000
 i:p.init.length≤k*4096
 ii:∀ a∈p.init,a.args.length≤1000000
 v:p.values.length≤k*4096
 vv:∀ a∈p.values,a.fluent.args.length≤1000000
 g:FSm p.goal
theorem pat_sm {w:Bs} {l:List Sexpr} {a:Atom} (hl:l.length≤1000000) (h:patM w l=.ok a):a.args.length≤1000000:=by
 unfold patM at h
 split at h
 ·split at h
  ·cases h
  ·rename_i b hb
   injection h with h;subst h
   show b.length≤_
   rw [Yj3 hb];exact hl
 ·cases h
theorem Ymz {α:Type} {q:α→Prop} {l m:List α} (h1:∀ x∈l,q x) (h2:∀ x∈m,q x):∀ x∈l++m,q x:=fun x hx=>by
 rcases List.mem_append.1 hx with hx | hx
 ·exact h1 x hx
 ·exact h2 x hx
def PrbU (p:Problem):Prop:=p.objects.length≤1000000∧(∀ a∈p.init,a.args.length≤1000000)∧(∀ a∈p.values,a.fluent.args.length≤1000000)∧FSm p.goal
theorem elm_sm {p':Problem} {x:Sexpr} (hs:XSm x) (h:elmM p x=.ok p') (hp:PrbU p):PrbU p':=by
 obtain ⟨h1,h2,h3,h4⟩:=hp
 unfold elmM at h
 split at h
 ·cases h
 ·rename_i w r hh
  have hr:=Wm hs hh
  unfold elmB at h
  split at h
  ·split at h
   ·rename_i y z
    split at h
    ·split at h
     ·cases h
     ·rename_i nm l hhy
      have:=Wm (X7 hs hh (y:=y) (by simp)) hhy
      split at h
      ·cases h
      ·rename_i a ha
       injection h with h;subst h
       exact ⟨h1,h2,Ymz h3 (by intro u hu;simp at hu;subst hu;exact pat_sm this ha),h4⟩
    ·cases h
   ·cases h
  ·split at h
   ·cases h
   ·rename_i a ha
    injection h with h;subst h
    exact ⟨h1,Ymz h2 (by intro u hu;simp at hu;subst hu;exact pat_sm hr ha),h3,h4⟩
theorem Ymg:∀ {r:List Sexpr} {p p':Problem},(∀ y∈r,XSm y)→YhM elmM p r=.ok p'→PrbU p→PrbU p'∧p'.init.length≤p.init.length+r.length∧p'.values.length≤p.values.length+r.length
 | [],p,p',_,h,hp=>by rw [YhM] at h;injection h with h;subst h;exact ⟨hp,Zs _,Zs _⟩
 | x::r,p,p',hs,h,hp=>by
  rw [YhM] at h
  split at h
  ·cases h
  ·rename_i q hq
   have h1:=Ymh hq
   have h2:=elm_sm (hs x (by simp)) hq hp
   obtain ⟨h3,h4,h5⟩:=Ymg (fun y hy=>hs y (List.mem_cons_of_mem _ hy)) h h2
   rw [List.length_cons]
   exact ⟨h3,by omega,by omega⟩
variable {k:Nat}
theorem PrbT.step {p':Problem} {w:Bs} {r:List Sexpr} (h:PrbT k p) (hr:∀ y∈r,XSm y) (hl:r.length≤4096) (e:Yiu p w r=.ok p'):PrbT (k+1) p':=by
 have h1:k*4096+4096=(k+1)*4096:=(Nat.succ_mul _ _).symm
 obtain ⟨o,i,ii,v,vv,g⟩:=h
 unfold Yiu at e
 split at e
 ·split at e
  ·cases e
  ·rename_i l hl2
   have:=YdA hl2
   injection e with e;subst e
   exact ⟨by show l.length≤_;omega,by show p.init.length≤_;omega,ii,by show p.values.length≤_;omega,vv,g⟩
 ·split at e
  ·obtain ⟨⟨o2,ii2,vv2,g2⟩,h4,h5⟩:=Ymg hr e ⟨o,ii,vv,g⟩
   exact ⟨o2,by omega,ii2,by omega,vv2,g2⟩
  ·split at e
   ·split at e
    ·cases e
    ·rename_i f hf
     injection e with e;subst e
     exact ⟨o,by show p.init.length≤_;omega,ii,by show p.values.length≤_;omega,vv,Ybu hf⟩
   ·cases e
theorem PrbT.sm (h:PrbT k p) (hk:k≤5000):PrbSm p:=by
 obtain ⟨o,i,ii,v,vv,g⟩:=h
 have:k*4096≤5000*4096:=Nat.mul_le_mul_right _ hk
 exact ⟨by omega,by omega,fun x hx=>Nat.le_trans (ii x hx) Zh,by omega,fun x hx=>Nat.le_trans (vv x hx) Zh,g⟩
theorem Ygm {fz3:FZ} {vo vi vv a1 a2 a3 a4:Value} {Hi Hv:HP} (hn1:Short p.name) (hn2:Short p.domain) (ho:IsSl paramL fz vo p.objects) (hgi:Grow atomL 114 fz vi p.init.length Hi p.init) (hgv:Grow valueL 116 fz vv p.values.length Hv p.values) (hgo:FormulaR fz p.goal a1 a2 a3 a4)
 (hle:Le fz fz3) (hf:∀ q∈Hi++Hv,fz3 q.1=some q.2) (b1:p.init.length≤200000000) (b2:p.values.length≤200000000):ProblemR fz3 p vo vi vv a1 a2 a3 a4:=
 ⟨hn1,hn2,ho.mono hle,Grow.fzv hgi hle (fun q hq=>hf q (List.mem_append_left _ hq)) Zi,Grow.fzv hgv hle (fun q hq=>hf q (List.mem_append_right _ hq)) Zi,hgo.mono hle⟩
theorem PrbS.new {g:Nat} {nm dm:Bs} (h:Short nm) (h2:Short dm):PrbS fz g ⟨nm,dm,[],[],[],XJ⟩ [(g,.cells #[.string nm,.string dm,.slice none 0 0,.slice none 0 0,.slice none 0 0,.string kAnd,.string ⟨#[]⟩,.slice none 0 0,.slice none 0 0,.slice none 0 0,.slice none 0 0] 40 (0,0))]:=
 ⟨_,_,_,_,_,_,_,[],[],Zr _,h,h2,IsSl.nil,Grow.nil _ _ _,Grow.nil _ _ _,Ycm⟩
theorem YdC {nm dm:Bs} (h:Short nm) (h2:Short dm):W7.rep fz ⟨nm,dm,[],[],[],XJ⟩ [.string nm,.string dm,.slice none 0 0,.slice none 0 0,.slice none 0 0,.string kAnd,.string ⟨#[]⟩,.slice none 0 0,.slice none 0 0,.slice none 0 0,.slice none 0 0]:=X9 (x:=⟨nm,dm,[],[],[],XJ⟩) ⟨h,h2,IsSl.nil,IsSl.nil,IsSl.nil,Ycm⟩
set_option maxHeartbeats 16000000 in
theorem pparse_f {x:Sexpr} (hv:XVal x) (hR:YW fz x vk):
 GFn prog 40 [.agg #[.int .i64 x.kind,.int .i64 x.value,.int .i64 x.line,.int .i64 x.column,.string x.text,vk]] fz [] (fun r fz' H'=>H'=[]∧ResL W7 fz' (pPar x) r∧∀ p,pPar x=.ok p→PrbSm p):=by
 have hRx:=hR
 have hcx:=hv.2.2
 have hsx:=hv.sm
 obtain ⟨A,n,c,rfl,ik⟩:=hR.kids
 have hP:pPar x=match XF x with
 | none=>.error 2
 | some (w,r)=>if w=YB then (match r with
  | []=>.error 2
  | y::r1=>match nmdM Xe y with
   | .error c=>.error c
   | .ok nm=>match r1 with
    | []=>.error 2
    | z::r2=>match nmdM YI z with
     | .error c=>.error c
     | .ok dm=>Ygj kwP3 ⟨nm,dm,[],[],[],XJ⟩ r2) else .error 2:=rfl
 have bad:∀ {c:Int} {fz':FZ} {v:Value},pPar x=.error c→ResL W7 fz' (pPar x) v→([]:HP)=[]∧ResL W7 fz' (pPar x) v∧∀ p,pPar x=.ok p→PrbSm p:=fun e h=>⟨rfl,h,fun p hp=>by rw [e] at hp;cases hp⟩
 refine zF Tryz.func40 Tryz.ntmps40 (fun w0=>?_)
 refine zW ?_;intros
 rename_i g1 g2 g4
 refine Ya Zz (Ym [] _ Zz Zz Zz (YeE hRx) (fun r1 fz1 H1 hle1 hR1=>?_))
 obtain ⟨rfl,rfl,hR1⟩:=hR1
 rw [List.nil_append]
 unfold YcU at hR1
 cases hh:XF x with
 | none=>
  rw [hh] at hP hR1
  subst hR1
  refine zW ?_;intros
  exact YQ T (vs:=[.agg #[.string ⟨#[]⟩,.string ⟨#[]⟩,.slice none 0 0,.slice none 0 0,.slice none 0 0,.string kAnd,.string ⟨#[]⟩,.slice none 0 0,.slice none 0 0,.slice none 0 0,.slice none 0 0],.iface 65 (.int .i64 2)]) Zz ⟨⟨_,_,1,_,_,_,rfl,rfl,rfl,rfl,rfl,rfl⟩,rfl,trivial⟩ (fun fz3 hle3 hf3=>bad hP (ResL.err hP Zh (YdC XQ XQ)))
 | some wr=>
  obtain ⟨w,r⟩:=wr
  rw [hh] at hP hR1
  obtain ⟨A',n',c',rfl,ir,hw⟩:=hR1
  simp only at hP
  obtain ⟨y0,hk,rfl,hk3,hk1⟩:=XL hh
  have hrl:=ir.len
  have hcx2:=Xj x
  rw [hk,xcountL] at hcx2
  have hrc:=X4 (l:=r)
  have hn4:n'≤4096:=by omega
  have hrs:∀ y∈r,XSm y:=fun y hy=>X7 hsx hh hy
  refine zW ?_;intros
  refine zC (fun c2=>?_) (fun c2=>?_)
  ·rw [if_neg (show ¬y0.text=YB from c2)] at hP
   refine zW ?_;intros
   exact YQ T (vs:=[.agg #[.string ⟨#[]⟩,.string ⟨#[]⟩,.slice none 0 0,.slice none 0 0,.slice none 0 0,.string kAnd,.string ⟨#[]⟩,.slice none 0 0,.slice none 0 0,.slice none 0 0,.slice none 0 0],.iface 65 (.int .i64 2)]) Zz ⟨⟨_,_,1,_,_,_,rfl,rfl,rfl,rfl,rfl,rfl⟩,rfl,trivial⟩ (fun fz3 hle3 hf3=>bad hP (ResL.err hP Zh (YdC XQ XQ)))
  ·rw [if_pos (show y0.text=YB from c2)] at hP
   refine zW ?_;intros
   refine zC (fun c3=>?_) (fun c3=>?_)
   ·have hr0:r=[]:=List.eq_nil_of_length_eq_zero Zi
    rw [hr0] at hP
    refine zW ?_;intros
    exact YQ T (vs:=[.agg #[.string ⟨#[]⟩,.string ⟨#[]⟩,.slice none 0 0,.slice none 0 0,.slice none 0 0,.string kAnd,.string ⟨#[]⟩,.slice none 0 0,.slice none 0 0,.slice none 0 0,.slice none 0 0],.iface 65 (.int .i64 2)]) Zz ⟨⟨_,_,1,_,_,_,rfl,rfl,rfl,rfl,rfl,rfl⟩,rfl,trivial⟩ (fun fz3 hle3 hf3=>bad hP (ResL.err hP Zh (YdC XQ XQ)))
   ·obtain ⟨y,r1,rfl⟩:∃ y r1,r=y::r1:=by
     cases r with
     | nil=>simp at hrl;omega
     | cons y r1=>exact ⟨y,r1,rfl⟩
    simp only at hP
    have hy:(y::r1)[0]?=some y:=rfl
    rw [List.length_cons] at hrl
    refine zW ?_;intros
    refine zI ir hy (fun p2 hp2=>?_)
    refine zL hp2 ?_
    intro cs hcs
    obtain ⟨vy,rfl,hRy⟩:=Yh hcs
    have hnq:=YlL (want:=Xe) hRy
    cases hn:nmdM Xe y with
    | error c'=>
     rw [hn] at hP hnq
     have hc:=YjG hn
     refine zc hnq ?_
     unfold strV
     refine zW ?_;intros
     exact YQ T (vs:=[.agg #[.string ⟨#[]⟩,.string ⟨#[]⟩,.slice none 0 0,.slice none 0 0,.slice none 0 0,.string kAnd,.string ⟨#[]⟩,.slice none 0 0,.slice none 0 0,.slice none 0 0,.slice none 0 0],.iface 65 (.int .i64 c')]) Zz ⟨⟨_,_,1,_,_,_,rfl,rfl,rfl,rfl,rfl,rfl⟩,rfl,trivial⟩ (fun fz3 hle3 hf3=>bad hP (ResL.err hP hc (YdC XQ XQ)))
    | ok nm=>
     rw [hn] at hP hnq
     have hnm:=YlK hn
     simp only at hP
     refine zc hnq ?_
     unfold strV
     refine zW ?_;intros
     refine zC (fun c4=>?_) (fun c4=>?_)
     ·have hr0:r1=[]:=List.eq_nil_of_length_eq_zero Zi
      rw [hr0] at hP
      refine zW ?_;intros
      exact YQ T (vs:=[.agg #[.string nm,.string ⟨#[]⟩,.slice none 0 0,.slice none 0 0,.slice none 0 0,.string kAnd,.string ⟨#[]⟩,.slice none 0 0,.slice none 0 0,.slice none 0 0,.slice none 0 0],.iface 65 (.int .i64 2)]) Zz ⟨⟨_,_,1,_,_,_,rfl,rfl,rfl,rfl,rfl,rfl⟩,rfl,trivial⟩ (fun fz3 hle3 hf3=>bad hP (ResL.err hP Zh (YdC hnm XQ)))
     ·obtain ⟨z,r2,rfl⟩:∃ z r2,r1=z::r2:=by
       cases r1 with
       | nil=>simp at hrl;omega
       | cons y r1=>exact ⟨y,r1,rfl⟩
      simp only at hP
      have hz:(y::z::r2)[1]?=some z:=rfl
      rw [List.length_cons] at hrl
      refine zW ?_;intros
      refine zI ir hz (fun p3 hp3=>?_)
      refine zL hp3 ?_
      intro cs3 hcs3
      obtain ⟨vz,rfl,hRz⟩:=Yh hcs3
      have hnq2:=YlL (want:=YI) hRz
      cases hn2:nmdM YI z with
      | error c'=>
       rw [hn2] at hP hnq2
       have hc:=YjG hn2
       refine zc hnq2 ?_
       unfold strV
       refine zW ?_;intros
       exact YQ T (vs:=[.agg #[.string nm,.string ⟨#[]⟩,.slice none 0 0,.slice none 0 0,.slice none 0 0,.string kAnd,.string ⟨#[]⟩,.slice none 0 0,.slice none 0 0,.slice none 0 0,.slice none 0 0],.iface 65 (.int .i64 c')]) Zz ⟨⟨_,_,1,_,_,_,rfl,rfl,rfl,rfl,rfl,rfl⟩,rfl,trivial⟩ (fun fz3 hle3 hf3=>bad hP (ResL.err hP hc (YdC hnm XQ)))
      | ok dm=>
       rw [hn2] at hP hnq2
       have hdm:=YlK hn2
       simp only at hP
       refine zc hnq2 ?_
       unfold strV
       refine zW ?_;intros
       refine Ya Zz (Yc T (cs:=[.string XI,.string Yce,.string YbU]) Zz Zz Zz Zz Zz Zz Zz Zz (fun gb=>?_))
       first | refine Wp.freeze Zz (fun fz2 hle2 hg2=>?_) | refine Seq.freeze Zz (fun fz2 hle2 hg2=>?_)
       have hkw:Sl strL fz2 (some ⟨gb,0,none⟩) 3 3 kwP3:=Xt (ys:=[(XI,[.string XI]),(Yce,[.string Yce]),(YbU,[.string YbU])]) hg2 rfl rfl (by intro p hp;simp only [List.mem_cons,List.not_mem_nil,_root_.or_false] at hp;rcases hp with rfl | rfl | rfl<;>exact ⟨rfl,by show _≤_;decide⟩) rfl Zh
       refine zW ?_;intros
       refine zG ?_;refine Xu (j:=2) T Zz Zz Zz Zz Zz Zz (ir.mono hle2) Zi (fun A2 hA2=>?_)
       rw [List.drop_succ_cons,List.drop_succ_cons,List.drop_zero] at hA2
       refine zW ?_;intros
       refine Wp.perm (List.Perm.swap _ _ _) ?_
       refine Yl (fun q σ fz' H'=>∃ (k:Nat) (p:Problem) (HD:HP) (K:Option Addr) (kn kc:Nat) (kw:List Bs),k≤n' - 2∧q=n' - 2 - k∧σ=[(71,.int .i64 k),(70,.int .i64 (n' - 2:Nat)),(69,.slice A2 (n' - 2) (c' - 2)),(9,.slice K kn kc),(4,.pointer (some ⟨g4,0,none⟩)),(2,.pointer (some ⟨g2,0,none⟩))]∧Le fz2 fz'∧H'=(g2,.cells #[.string ⟨#[]⟩,.string ⟨#[]⟩,.slice none 0 0,.slice none 0 0,.slice none 0 0,.string ⟨#[]⟩,.string ⟨#[]⟩,.slice none 0 0,.slice none 0 0,.slice none 0 0,.slice none 0 0] 40 (0,0))::HD∧PrbS fz' g4 p HD∧Sl strL fz' K kn kc kw∧PrbT k p∧pPar x=Ygj kw p (r2.drop k)) ⟨0,_,_,_,_,_,kwP3,Z0 _,rfl,rfl,Le.refl _,rfl,PrbS.new hnm hdm,hkw,⟨by show 0≤_;omega,by show 0≤_;omega,by simp,by show 0≤_;omega,by simp,Ycl⟩,hP⟩ Zw Zb ?_
       rintro q σ fz' H' ⟨k,p,HD,K,kn,kc,kw,hkn,rfl,rfl,hle,rfl,⟨vo,vi,vv,a1,a2,a3,a4,Hi,Hv,hperm,hn1,hn2,ho,hgi,hgv,hgo⟩,hK,hT,hF⟩
       have ho':=ho
       have hgo':=hgo
       have hbi:p.init.length≤20000000:=by have:=hT.i;have:k*4096≤4096*4096:=Nat.mul_le_mul_right _ Zi;omega
       have hbv:p.values.length≤20000000:=by have:=hT.v;have:k*4096≤4096*4096:=Nat.mul_le_mul_right _ Zi;omega
       have hD':PrbS fz' g4 p ((g4,.cells #[.string p.name,.string p.domain,vo,vi,vv,.string p.goal.op,.string p.goal.name,a1,a2,a3,a4] 40 (0,0))::(Hi++Hv)):=⟨_,_,_,_,_,_,_,Hi,Hv,Zr _,hn1,hn2,ho,hgi,hgv,hgo⟩
       obtain ⟨O1,o1,z1,rfl,_⟩:=ho
       obtain ⟨Xi,xi,rfl,_,_⟩:=hgi.form
       obtain ⟨Xv,xv,rfl,_,_⟩:=hgv.form
       obtain ⟨B1,m1,d1,rfl,_⟩:=hgo.args
       obtain ⟨B2,m2,d2,rfl,_⟩:=hgo.params
       obtain ⟨B3,m3,d3,rfl,_⟩:=hgo.exprs
       obtain ⟨B4,m4,d4,rfl,_⟩:=hgo.kids
       refine Wp.perm (List.Perm.cons _ hperm.symm) ?_
       have hKl:=hK.len
       have hKs:=hK.short
       refine zW ?_;intros
       refine zC (fun c5=>?_) (fun c5=>?_)
       ·obtain ⟨s,hs⟩:=Yn (l:=r2) (k:=k) Zi
        have hsm:=Zm hs
        have hss:XSm s:=hrs s (by simp [hsm])
        have hcs2:=XT hsm
        simp only [xcountL] at hcx2
        rw [Ybj hs,Ygj] at hF
        refine zW ?_;intros
        refine zI (hA2.mono hle) hs (fun p5 hp5=>?_)
        refine zL hp5 ?_
        intro cs5 hcs5
        obtain ⟨vs,rfl,hRs⟩:=Yh hcs5
        have hRs':=hRs
        obtain ⟨As,ns,cs,rfl,is⟩:=hRs.kids
        refine zW ?_;intros
        rename_i g11
        refine Ya Zz (Ym [] _ Zz Zz Zz (YeE hRs') (fun r6 fz6 H6 hle6 hR6=>?_))
        obtain ⟨rfl,rfl,hR6⟩:=hR6
        rw [List.nil_append]
        unfold YcU at hR6
        cases hhs:XF s with
        | none=>
         rw [hhs] at hF hR6
         subst hR6
         refine zW ?_;intros
         ((refine zG ?_);refine Yw Zz Zz (Yej (x:=⟨#[]⟩) hK) ?_)
         refine zW ?_;intros
         exact YQ T (vs:=[.agg #[.string p.name,.string p.domain,.slice O1 o1 z1,.slice Xi p.init.length xi,.slice Xv p.values.length xv,.string p.goal.op,.string p.goal.name,.slice B1 m1 d1,.slice B2 m2 d2,.slice B3 m3 d3,.slice B4 m4 d4],.iface 65 (.int .i64 2)]) Zz ⟨⟨_,_,1,_,_,_,rfl,rfl,rfl,rfl,rfl,rfl⟩,rfl,trivial⟩ (fun fz3 hle3 hf3=>bad (hF) (ResL.err (hF) Zh (X9 (Ygm hn1 hn2 ho' hgi hgv hgo' hle3 (fun q hq=>hf3 q (by simp only [List.mem_cons];simp only [List.mem_append] at hq ⊢;simp [hq])) Zi Zi))))
        | some wl=>
         obtain ⟨w,l⟩:=wl
         rw [hhs] at hF hR6
         obtain ⟨A6,n6,c6,rfl,il,hw6⟩:=hR6
         simp only at hF
         obtain ⟨y6,hk6,rfl,hk7,hk8⟩:=XL hhs
         have htl:l.length≤4096:=by
          have h1:=Xj s
          have h2:=X4 (l:=s.kids)
          rw [hk6,List.length_cons] at h2
          rw [hk6] at h1
          omega
         have hll:=il.len
         have hkI:=kwI_lt (kw:=kw) (s:=y6.text)
         refine zW ?_;intros
         refine zc (Yej (x:=y6.text) hK) ?_
         refine zW ?_;intros
         refine zC (fun c6=>?_) (fun c6=>?_)
         ·rw [if_neg (fun h=>absurd (show kwI kw y6.text<0 from c6) Zi)] at hF
          refine zW ?_;intros
          exact YQ T (vs:=[.agg #[.string p.name,.string p.domain,.slice O1 o1 z1,.slice Xi p.init.length xi,.slice Xv p.values.length xv,.string p.goal.op,.string p.goal.name,.slice B1 m1 d1,.slice B2 m2 d2,.slice B3 m3 d3,.slice B4 m4 d4],.iface 65 (.int .i64 2)]) Zz ⟨⟨_,_,1,_,_,_,rfl,rfl,rfl,rfl,rfl,rfl⟩,rfl,trivial⟩ (fun fz3 hle3 hf3=>bad (hF) (ResL.err (hF) Zh (X9 (Ygm hn1 hn2 ho' hgi hgv hgo' hle3 (fun q hq=>hf3 q (by simp only [List.mem_cons];simp only [List.mem_append] at hq ⊢;simp [hq])) Zi Zi))))
         ·have c6':0≤kwI kw y6.text:=by have:¬kwI kw y6.text<0:=c6;omega
          rw [if_pos c6'] at hF
          obtain ⟨kk,hkk⟩:=Int.eq_ofNat_of_zero_le c6'
          rw [hkk,Int.toNat_natCast] at hF
          rw [hkk] at hkI
          have hkk2:Wt (fun y=>y6.text=y) kw 0=(kk:Int):=hkk
          rw [hkk2]
          refine zW ?_;intros
          refine zG ?_;refine Xu (j:=kk+1) T Zz Zz Zz Zz Zz Zz hK Zi (fun K2 hK2=>?_)
          refine zW ?_;intros
          refine Ya Zz (Does.perm (Zq (l₁:=(g4,_)::(Hi++Hv)) (l₂:=[(g11,_),(g2,_)])) (Ym ((g4,_)::(Hi++Hv)) [(g11,_),(g2,_)] Zz Zz Zz (Ykh (fun y hy=>X7 hss hhs hy) hD' il Zi Zi Zi) (fun v7 fz7 H7 hle7 hR7=>?_)))
          obtain ⟨_,hR7⟩:=hR7
          refine Seq.perm (H':=[(g11,_),(g2,_)]++H7) Zq ?_
          cases hx:Yiu p y6.text l with
          | error c'=>
           rw [hx] at hR7 hF
           obtain ⟨rfl,hc,p3,⟨vo3,vi3,vv3,a13,a23,a33,a43,Hi3,Hv3,hperm3,hn13,hn23,ho3,hgi3,hgv3,hgo3⟩,hb3,hb4⟩:=hR7
           have ho'3:=ho3
           have hgo'3:=hgo3
           obtain ⟨O13,o13,z13,rfl,_⟩:=ho3
           obtain ⟨Xi3,xi3,rfl,_,_⟩:=hgi3.form
           obtain ⟨Xv3,xv3,rfl,_,_⟩:=hgv3.form
           obtain ⟨B13,m13,d13,rfl,_⟩:=hgo3.args
           obtain ⟨B23,m23,d23,rfl,_⟩:=hgo3.params
           obtain ⟨B33,m33,d33,rfl,_⟩:=hgo3.exprs
           obtain ⟨B43,m43,d43,rfl,_⟩:=hgo3.kids
           refine Seq.perm (List.Perm.cons _ (List.Perm.cons _ hperm3.symm)) ?_
           rw [Yj hc]
           refine zW ?_;intros
           exact YQ T (vs:=[.agg #[.string p3.name,.string p3.domain,.slice O13 o13 z13,.slice Xi3 p3.init.length xi3,.slice Xv3 p3.values.length xv3,.string p3.goal.op,.string p3.goal.name,.slice B13 m13 d13,.slice B23 m23 d23,.slice B33 m33 d33,.slice B43 m43 d43],.iface 65 (.int .i64 c')]) Zz ⟨⟨_,_,1,_,_,_,rfl,rfl,rfl,rfl,rfl,rfl⟩,rfl,trivial⟩ (fun fz3 hle3 hf3=>bad (hF) (ResL.err (hF) hc (X9 (Ygm hn13 hn23 ho'3 hgi3 hgv3 hgo'3 hle3 (fun q hq=>hf3 q (by simp only [List.mem_cons];simp only [List.mem_append] at hq ⊢;simp [hq])) hb3 hb4))))
          | ok d2=>
           rw [hx] at hR7 hF
           obtain ⟨rfl,hD7⟩:=hR7
           have hT2:=hT.step (fun y hy=>X7 hss hhs hy) htl hx
           refine zW ?_;intros
           exact Yz (H':=(g2,_)::H7) ⟨k+1,d2,H7,_,_,_,_,by omega,rfl,rfl,hle.trans hle7,rfl,hD7,hK2.mono hle7,hT2,hF⟩ Zi Zw Zb
       ·rw [List.drop_eq_nil_of_le Zi,Ygj] at hF
        refine zW ?_;intros
        exact YQ T (vs:=[.agg #[.string p.name,.string p.domain,.slice O1 o1 z1,.slice Xi p.init.length xi,.slice Xv p.values.length xv,.string p.goal.op,.string p.goal.name,.slice B1 m1 d1,.slice B2 m2 d2,.slice B3 m3 d3,.slice B4 m4 d4],.nilIface]) Zz ⟨⟨_,_,0,_,_,_,rfl,rfl,rfl,rfl,rfl,rfl⟩,rfl,trivial⟩ (fun fz3 hle3 hf3=>⟨rfl,ResL.fine hF (X9 (Ygm hn1 hn2 ho' hgi hgv hgo' hle3 (fun q hq=>hf3 q (by simp only [List.mem_cons];simp only [List.mem_append] at hq ⊢;simp [hq])) Zi Zi)),fun p' hp'=>by rw [hF] at hp';injection hp' with hp';subst hp';exact hT.sm Zi⟩)
def YkC:Problem:=⟨⟨#[]⟩,⟨#[]⟩,[],[],[],.mk ⟨#[]⟩ ⟨#[]⟩ [] [] [] []⟩
theorem YcV:W7.rep fz YkC [.string ⟨#[]⟩,.string ⟨#[]⟩,.slice none 0 0,.slice none 0 0,.slice none 0 0,.string ⟨#[]⟩,.string ⟨#[]⟩,.slice none 0 0,.slice none 0 0,.slice none 0 0,.slice none 0 0]:=X9 (x:=YkC) ⟨XQ,XQ,IsSl.nil,IsSl.nil,IsSl.nil,⟨XQ,XQ,IsSl.nil,IsSl.nil,IsSl.nil,IsSl.nil⟩⟩
set_option maxHeartbeats 4000000 in
theorem pParse_f {x:Sexpr} (hR:YW fz x vk):
 GFn prog 17 [.agg #[.int .i64 x.kind,.int .i64 x.value,.int .i64 x.line,.int .i64 x.column,.string x.text,vk]] fz [] (fun r fz' H'=>H'=[]∧ResL W7 fz' (YcB x) r):=by
 have hRx:=hR
 obtain ⟨A,n,c,rfl,ik⟩:=hR.kids
 have hM:YcB x=if XVal x then (match pPar x with
 | .error c=>.error c
 | .ok p=>if FVal p.goal∧YcA p∧XVal (prbX p) then .ok p else .error 5) else .error 2:=rfl
 refine zF Tryz.func17 Tryz.ntmps17 (fun w0=>?_)
 refine zW ?_;intros
 refine zb (WH hRx) (fun f1=>?_) (fun f1=>?_)
 ·have hv:=Zt f1
  rw [if_pos hv] at hM
  refine zW ?_;intros
  refine Ya Zz (Ym [] _ Zz Zz Zz (pparse_f hv hRx) (fun r4 fz4 H4 hle4 hR4=>?_))
  obtain ⟨rfl,⟨p,cs4,hr4,hR4⟩,hsm⟩:=hR4
  obtain ⟨vo,vi,vv,a1,a2,a3,a4,rfl,hPR⟩:=XP hr4
  have hPR':=hPR
  obtain ⟨O1,o1,z1,rfl,_⟩:=hPR.objects
  obtain ⟨O2,o2,z2,rfl,_⟩:=hPR.init
  obtain ⟨O3,o3,z3,rfl,_⟩:=hPR.values
  obtain ⟨O4,o4,z4,rfl,_⟩:=hPR.goal.args
  obtain ⟨O5,o5,z5,rfl,_⟩:=hPR.goal.params
  obtain ⟨O6,o6,z6,rfl,_⟩:=hPR.goal.exprs
  obtain ⟨O7,o7,z7,rfl,_⟩:=hPR.goal.kids
  cases hx:pPar x with
  | error c'=>
   rw [hx] at hM hR4
   obtain ⟨rfl,hc⟩:=hR4
   rw [Yj hc]
   refine zW ?_;intros
   exact YQ T (vs:=[.agg #[.string ⟨#[]⟩,.string ⟨#[]⟩,.slice none 0 0,.slice none 0 0,.slice none 0 0,.string ⟨#[]⟩,.string ⟨#[]⟩,.slice none 0 0,.slice none 0 0,.slice none 0 0,.slice none 0 0],.iface 65 (.int .i64 c')]) Zz ⟨⟨_,_,1,_,_,_,rfl,rfl,rfl,rfl,rfl,rfl⟩,rfl,trivial⟩ (fun fz3 hle3 hf3=>⟨rfl,ResL.err hM hc YcV⟩)
  | ok p2=>
   rw [hx] at hM hR4
   obtain ⟨rfl,rfl⟩:=hR4
   simp only at hM
   have hsm:=hsm p2 hx
   refine zW ?_;intros
   refine Ya Zz (Ym [] _ Zz Zz Zz (YjD hPR' hsm) (fun r6 fz6 H6 hle6 hR6=>?_))
   obtain ⟨rfl,u6,y6,rfl,⟨cs6,rfl,hr6⟩,hy6⟩:=hR6
   obtain ⟨vk6,rfl,hX6⟩:=Yh hr6
   obtain ⟨A6,n6,c6,rfl,_⟩:=hX6.kids
   by_cases hOk:FVal p2.goal∧YcA p2∧XVal (prbX p2)
   ·rw [if_pos hOk] at hM ⊢
    rw [show errV 0=.nilIface from rfl]
    refine zW ?_;intros
    exact YQ T (vs:=[.agg #[.string p2.name,.string p2.domain,.slice O1 o1 z1,.slice O2 o2 z2,.slice O3 o3 z3,.string p2.goal.op,.string p2.goal.name,.slice O4 o4 z4,.slice O5 o5 z5,.slice O6 o6 z6,.slice O7 o7 z7],.nilIface]) Zz ⟨⟨_,_,2,_,_,_,rfl,rfl,rfl,rfl,rfl,rfl⟩,rfl,trivial⟩ (fun fz3 hle3 hf3=>⟨rfl,ResL.fine hM (X9 (hPR'.mono (hle6.trans hle3)))⟩)
   ·rw [if_neg hOk] at hM ⊢
    rw [Yj Zh]
    refine zW ?_;intros
    exact YQ T (vs:=[.agg #[.string ⟨#[]⟩,.string ⟨#[]⟩,.slice none 0 0,.slice none 0 0,.slice none 0 0,.string ⟨#[]⟩,.string ⟨#[]⟩,.slice none 0 0,.slice none 0 0,.slice none 0 0,.slice none 0 0],.iface 65 (.int .i64 5)]) Zz ⟨⟨_,_,2,_,_,_,rfl,rfl,rfl,rfl,rfl,rfl⟩,rfl,trivial⟩ (fun fz3 hle3 hf3=>⟨rfl,ResL.err hM Zh YcV⟩)
 ·rw [if_neg (Zf f1)] at hM
  refine zW ?_;intros
  exact YQ T (vs:=[.agg #[.string ⟨#[]⟩,.string ⟨#[]⟩,.slice none 0 0,.slice none 0 0,.slice none 0 0,.string ⟨#[]⟩,.string ⟨#[]⟩,.slice none 0 0,.slice none 0 0,.slice none 0 0,.slice none 0 0],.iface 65 (.int .i64 2)]) Zz ⟨⟨_,_,0,_,_,_,rfl,rfl,rfl,rfl,rfl,rfl⟩,rfl,trivial⟩ (fun fz3 hle3 hf3=>⟨rfl,ResL.err hM Zh YcV⟩)
end Go.Proofs.YtfjopfinkdhmaaaGreatDoor
namespace Go.Proofs.YtfjopfinkdhmaaaGreatDoor
open Go.Lx Go.RowKit
variable {w w':World}
theorem Ygz (h:Below w.heap.size w w'):Fr [] w w':=⟨h.os,h.tape,h.output,h.size,fun b hb _=>h.block b hb,fun h=>h.elim⟩
end Go.Proofs.YtfjopfinkdhmaaaGreatDoor
namespace Go.Proofs
open Go.Shelf
def Tryz.lays156_ren:Go.Shelf.Ren:=⟨fun | 156=>170 | 165=>202 | 166=>174 | 169=>176 | 240=>203 | 241=>231 | 276=>232 | 277=>243 | n=>n,fun | 31=>34 | 9=>9 | 3=>3 | 4=>4 | 0=>0 | 20=>20 | 72=>249 | 76=>217 | 70=>247 | 37=>64 | 75=>42 | 127=>278 | 164=>299 | 5=>5 | 80=>252 | n=>n,fun | n=>n⟩
theorem Tryz.lays156:Go.Proofs.Lays.n156 Tryz.prog Tryz.lays156_ren:={
 mixed:=by kernel_rfl
 f156:=Tryz.func170.trans (congrArg some (by kernel_rfl))
 f165:=Tryz.func202.trans (congrArg some (by kernel_rfl))
 f166:=Tryz.func174.trans (congrArg some (by kernel_rfl))
 f169:=Tryz.func176.trans (congrArg some (by kernel_rfl))
 f240:=Tryz.func203.trans (congrArg some (by kernel_rfl))
 f241:=Tryz.func231.trans (congrArg some (by kernel_rfl))
 f276:=Tryz.func232.trans (congrArg some (by kernel_rfl))
 f277:=Tryz.func243.trans (congrArg some (by kernel_rfl))
 t0:=Tryz.underlying0
 a0:=Tryz.isAgg0
 z0:=Tryz.sizeOf0
 v0:=Tryz.zeroValue0
 t3:=Tryz.underlying3
 a3:=Tryz.isAgg3
 z3:=Tryz.sizeOf3
 v3:=Tryz.zeroValue3
 t4:=Tryz.underlying4
 a4:=Tryz.isAgg4
 z4:=Tryz.sizeOf4
 v4:=Tryz.zeroValue4
 t9:=Tryz.underlying9
 a9:=Tryz.isAgg9
 z9:=Tryz.sizeOf9
 v9:=Tryz.zeroValue9
 t20:=Tryz.underlying20
 a20:=Tryz.isAgg20
 z20:=Tryz.sizeOf20
 v20:=Tryz.zeroValue20
 t31:=Tryz.underlying34
 a31:=Tryz.isAgg34
 z31:=Tryz.sizeOf34
 v31:=Tryz.zeroValue34
 t37:=Tryz.underlying64
 a37:=Tryz.isAgg64
 z37:=Tryz.sizeOf64
 v37:=Tryz.zeroValue64
 t70:=Tryz.underlying247
 a70:=Tryz.isAgg247
 z70:=Tryz.sizeOf247
 v70:=Tryz.zeroValue247
 t72:=Tryz.underlying249
 a72:=Tryz.isAgg249
 z72:=Tryz.sizeOf249
 v72:=Tryz.zeroValue249
 t75:=Tryz.underlying42
 a75:=Tryz.isAgg42
 z75:=Tryz.sizeOf42
 v75:=Tryz.zeroValue42
 t76:=Tryz.underlying217
 a76:=Tryz.isAgg217
 z76:=Tryz.sizeOf217
 v76:=Tryz.zeroValue217
 t127:=Tryz.underlying278
 a127:=Tryz.isAgg278
 z127:=Tryz.sizeOf278
 v127:=Tryz.zeroValue278
 t164:=Tryz.underlying299
 a164:=Tryz.isAgg299
 z164:=Tryz.sizeOf299
 v164:=Tryz.zeroValue299}
theorem Tryz.Builder_Extra_156:Builder.Extra Tryz.prog Tryz.lays156_ren:={
 sizeBuilder:=by kernel_rfl
 liesBuilder:=by kernel_rfl
 t5:=Tryz.underlying5
 a5:=Tryz.isAgg5
 z5:=Tryz.sizeOf5
 v5:=Tryz.zeroValue5
 infoByte:=by kernel_rfl
 cellsByte:=by kernel_rfl
 sizeByte:=by kernel_rfl
 neB5:=by decide}
open Go.RowKit in
/-- No element: the empty string; the world is as1 it was. (Whatever the slice's address and capacity: a nil slice too.) (LAID: no walk: one application.) -/
theorem Tryz.strings_Join_none (a:Option Addr) (c:Nat) (sep:ByteArray) (w:World):
 Calls Tryz.prog 170 #[.slice a 0 c,.string sep] w fun e w'=>e=.returned (.string ⟨#[]⟩)∧w'=w:=Any.strings_Join_none Tryz.lays156 Tryz.Builder_Extra_156 a c sep w
open Go.RowKit in
/-- strings.Join: "Join concatenates the elements of its first argument to create a single string. The separator string sep is placed between elements in the resulting string.": HOWEVER MANY ELEMENTS. Below the heap's end the world is as1 it was. (LAID: no walk: one application.) -/
theorem Tryz.strings_Join (bk o c:Nat) (xs:List ByteArray) (sep:ByteArray) (w:World) (hcells:∀ (j:Nat) x,xs[j]?=some x→w.cell? ⟨bk,o+j,none⟩=some (.string x)) (hbk:bk<w.heap.size) (hN:xs.length≤140737488355328) (hcap:xs.length≤c) (hlen:(Lib.join (xs.map (·.data.toList)) sep.data.toList).length≤140737488355328):
 Calls Tryz.prog 170 #[.slice (some ⟨bk,o,none⟩) xs.length c,.string sep] w fun e w'=>e=.returned (.string ⟨(Lib.join (xs.map (·.data.toList)) sep.data.toList).toArray⟩)∧Below w.heap.size w w':=Any.strings_Join Tryz.lays156 Tryz.Builder_Extra_156 bk o c xs sep w hcells hbk hN hcap hlen
def Tryz.laysM171_ren:Go.Shelf.Ren:=⟨fun | 171=>34 | 243=>87 | 246=>136 | 283=>179 | 284=>180 | 285=>181 | 286=>182 | 129=>209 | 317=>208 | 318=>210 | 319=>211 | 320=>212 | 337=>237 | 338=>238 | n=>n,fun | 3=>3 | 9=>9 | 2=>2 | 4=>4 | 171=>256 | 0=>0 | 53=>257 | 37=>64 | 5=>5 | 173=>260 | 212=>282 | 51=>283 | 20=>20 | 213=>284 | 46=>274 | 232=>310 | 233=>311 | n=>n,fun | 17=>0 | 18=>2 | 19=>3 | n=>n⟩
theorem Tryz.laysM171:Go.Proofs.LaysM.n171 Tryz.prog Tryz.laysM171_ren:={
 mixed:=by kernel_rfl
 f129:=Tryz.func209.trans (congrArg some (by kernel_rfl))
 f171:=Tryz.func34.trans (congrArg some (by kernel_rfl))
 f243:=Tryz.func87.trans (congrArg some (by kernel_rfl))
 f246:=Tryz.func136.trans (congrArg some (by kernel_rfl))
 f283:=Tryz.func179.trans (congrArg some (by kernel_rfl))
 f284:=Tryz.func180.trans (congrArg some (by kernel_rfl))
 f285:=Tryz.func181.trans (congrArg some (by kernel_rfl))
 f286:=Tryz.func182.trans (congrArg some (by kernel_rfl))
 f317:=Tryz.func208.trans (congrArg some (by kernel_rfl))
 f318:=Tryz.func210.trans (congrArg some (by kernel_rfl))
 f319:=Tryz.func211.trans (congrArg some (by kernel_rfl))
 f320:=Tryz.func212.trans (congrArg some (by kernel_rfl))
 f337:=Tryz.func237.trans (congrArg some (by kernel_rfl))
 f338:=Tryz.func238.trans (congrArg some (by kernel_rfl))
 t0:=Tryz.underlying0
 a0:=Tryz.isAgg0
 z0:=Tryz.sizeOf0
 v0:=Tryz.zeroValue0
 t2:=Tryz.underlying2
 a2:=Tryz.isAgg2
 z2:=Tryz.sizeOf2
 v2:=Tryz.zeroValue2
 t3:=Tryz.underlying3
 a3:=Tryz.isAgg3
 z3:=Tryz.sizeOf3
 v3:=Tryz.zeroValue3
 t4:=Tryz.underlying4
 a4:=Tryz.isAgg4
 z4:=Tryz.sizeOf4
 v4:=Tryz.zeroValue4
 t5:=Tryz.underlying5
 a5:=Tryz.isAgg5
 z5:=Tryz.sizeOf5
 v5:=Tryz.zeroValue5
 t9:=Tryz.underlying9
 a9:=Tryz.isAgg9
 z9:=Tryz.sizeOf9
 v9:=Tryz.zeroValue9
 t20:=Tryz.underlying20
 a20:=Tryz.isAgg20
 z20:=Tryz.sizeOf20
 v20:=Tryz.zeroValue20
 t37:=Tryz.underlying64
 a37:=Tryz.isAgg64
 z37:=Tryz.sizeOf64
 v37:=Tryz.zeroValue64
 t46:=Tryz.underlying274
 a46:=Tryz.isAgg274
 z46:=Tryz.sizeOf274
 v46:=Tryz.zeroValue274
 t51:=Tryz.underlying283
 a51:=Tryz.isAgg283
 z51:=Tryz.sizeOf283
 v51:=Tryz.zeroValue283
 t53:=Tryz.underlying257
 a53:=Tryz.isAgg257
 z53:=Tryz.sizeOf257
 v53:=Tryz.zeroValue257
 t171:=Tryz.underlying256
 a171:=Tryz.isAgg256
 z171:=Tryz.sizeOf256
 v171:=Tryz.zeroValue256
 t173:=Tryz.underlying260
 a173:=Tryz.isAgg260
 z173:=Tryz.sizeOf260
 v173:=Tryz.zeroValue260
 t212:=Tryz.underlying282
 a212:=Tryz.isAgg282
 z212:=Tryz.sizeOf282
 v212:=Tryz.zeroValue282
 t213:=Tryz.underlying284
 a213:=Tryz.isAgg284
 z213:=Tryz.sizeOf284
 t232:=Tryz.underlying310
 a232:=Tryz.isAgg310
 z232:=Tryz.sizeOf310
 v232:=Tryz.zeroValue310
 t233:=Tryz.underlying311
 a233:=Tryz.isAgg311
 z233:=Tryz.sizeOf311
 v233:=Tryz.zeroValue311
 g17:=by kernel_rfl
 g18:=by kernel_rfl
 g19:=by kernel_rfl
 i0:=by kernel_rfl
 i2:=by kernel_rfl
 i3:=by kernel_rfl
 i4:=by kernel_rfl
 i5:=by kernel_rfl
 i9:=by kernel_rfl
 i20:=by kernel_rfl
 i37:=by kernel_rfl
 i46:=by kernel_rfl
 i51:=by kernel_rfl
 i53:=by kernel_rfl
 i171:=by kernel_rfl
 i173:=by kernel_rfl
 i212:=by kernel_rfl
 i232:=by kernel_rfl
 i233:=by kernel_rfl
 m17:=by kernel_rfl
 m18:=by kernel_rfl
 m19:=by kernel_rfl}
open Go.RowKit Go.Sort Go.Lib in
/-- strconv.Itoa: "Itoa is equivalent to FormatInt(int64(i), 10).": i's DECIMAL NUMERAL ('Lib.itoa': a '-' where i is negative, then the digits), FOR EVERY int. The world behind the call: the world before it, new blocks behind the heap (the library's 'var a [24]byte'), draws. (LAID: no walk: one application.) -/
theorem Tryz.strconv_Itoa (n:Int) (h0: -9223372036854775808≤n) (h1:n≤9223372036854775807) (w:World) (htab:Lib.TabIs Tryz.prog w "internal/strconv.uint64pow10" .u64 Lib.pow10Tab):
 Calls Tryz.prog 34 #[.int .i64 n] w fun e w'=>e=.returned (.string ⟨(Lib.itoa n).toArray⟩)∧∃ k os,w'=grow (w.drewN k) os:=Any.strconv_Itoa Tryz.laysM171 n h0 h1 w htab
def Tryz.lays105_ren:Go.Shelf.Ren:=⟨fun | 105=>175 | 212=>204 | 99=>198 | 165=>202 | 166=>174 | 170=>205 | 169=>176 | 263=>233 | 264=>234 | 206=>229 | 240=>203 | 241=>231 | 276=>232 | 277=>243 | n=>n,fun | 9=>9 | 3=>3 | 4=>4 | 20=>20 | 0=>0 | 46=>274 | 109=>275 | 5=>5 | 72=>249 | 76=>217 | 51=>283 | 146=>301 | 53=>257 | 148=>303 | 70=>247 | 37=>64 | 75=>42 | 127=>278 | 164=>299 | 80=>252 | n=>n,fun | n=>n⟩
theorem Tryz.lays105:Go.Proofs.Lays.n105 Tryz.prog Tryz.lays105_ren:={
 mixed:=by kernel_rfl
 f99:=Tryz.func198.trans (congrArg some (by kernel_rfl))
 f105:=Tryz.func175.trans (congrArg some (by kernel_rfl))
 f165:=Tryz.func202.trans (congrArg some (by kernel_rfl))
 f166:=Tryz.func174.trans (congrArg some (by kernel_rfl))
 f169:=Tryz.func176.trans (congrArg some (by kernel_rfl))
 f170:=Tryz.func205.trans (congrArg some (by kernel_rfl))
 f206:=Tryz.func229.trans (congrArg some (by kernel_rfl))
 f212:=Tryz.func204.trans (congrArg some (by kernel_rfl))
 f240:=Tryz.func203.trans (congrArg some (by kernel_rfl))
 f241:=Tryz.func231.trans (congrArg some (by kernel_rfl))
 f263:=Tryz.func233.trans (congrArg some (by kernel_rfl))
 f264:=Tryz.func234.trans (congrArg some (by kernel_rfl))
 f276:=Tryz.func232.trans (congrArg some (by kernel_rfl))
 f277:=Tryz.func243.trans (congrArg some (by kernel_rfl))
 t0:=Tryz.underlying0
 a0:=Tryz.isAgg0
 z0:=Tryz.sizeOf0
 v0:=Tryz.zeroValue0
 t3:=Tryz.underlying3
 a3:=Tryz.isAgg3
 z3:=Tryz.sizeOf3
 v3:=Tryz.zeroValue3
 t4:=Tryz.underlying4
 a4:=Tryz.isAgg4
 z4:=Tryz.sizeOf4
 v4:=Tryz.zeroValue4
 t5:=Tryz.underlying5
 a5:=Tryz.isAgg5
 z5:=Tryz.sizeOf5
 v5:=Tryz.zeroValue5
 t9:=Tryz.underlying9
 a9:=Tryz.isAgg9
 z9:=Tryz.sizeOf9
 v9:=Tryz.zeroValue9
 t20:=Tryz.underlying20
 a20:=Tryz.isAgg20
 z20:=Tryz.sizeOf20
 v20:=Tryz.zeroValue20
 t37:=Tryz.underlying64
 a37:=Tryz.isAgg64
 z37:=Tryz.sizeOf64
 v37:=Tryz.zeroValue64
 t46:=Tryz.underlying274
 a46:=Tryz.isAgg274
 z46:=Tryz.sizeOf274
 v46:=Tryz.zeroValue274
 t51:=Tryz.underlying283
 a51:=Tryz.isAgg283
 z51:=Tryz.sizeOf283
 v51:=Tryz.zeroValue283
 t53:=Tryz.underlying257
 a53:=Tryz.isAgg257
 z53:=Tryz.sizeOf257
 v53:=Tryz.zeroValue257
 t70:=Tryz.underlying247
 a70:=Tryz.isAgg247
 z70:=Tryz.sizeOf247
 v70:=Tryz.zeroValue247
 t72:=Tryz.underlying249
 a72:=Tryz.isAgg249
 z72:=Tryz.sizeOf249
 v72:=Tryz.zeroValue249
 t75:=Tryz.underlying42
 a75:=Tryz.isAgg42
 z75:=Tryz.sizeOf42
 v75:=Tryz.zeroValue42
 t76:=Tryz.underlying217
 a76:=Tryz.isAgg217
 z76:=Tryz.sizeOf217
 v76:=Tryz.zeroValue217
 t109:=Tryz.underlying275
 a109:=Tryz.isAgg275
 z109:=Tryz.sizeOf275
 v109:=Tryz.zeroValue275
 t127:=Tryz.underlying278
 a127:=Tryz.isAgg278
 z127:=Tryz.sizeOf278
 v127:=Tryz.zeroValue278
 t146:=Tryz.underlying301
 a146:=Tryz.isAgg301
 z146:=Tryz.sizeOf301
 v146:=Tryz.zeroValue301
 t148:=Tryz.underlying303
 a148:=Tryz.isAgg303
 z148:=Tryz.sizeOf303
 v148:=Tryz.zeroValue303
 t164:=Tryz.underlying299
 a164:=Tryz.isAgg299
 z164:=Tryz.sizeOf299
 v164:=Tryz.zeroValue299}
theorem Tryz.Builder_Extra_105:Builder.Extra Tryz.prog Tryz.lays105_ren:={
 sizeBuilder:=by kernel_rfl
 liesBuilder:=by kernel_rfl
 t5:=Tryz.underlying5
 a5:=Tryz.isAgg5
 z5:=Tryz.sizeOf5
 v5:=Tryz.zeroValue5
 infoByte:=by kernel_rfl
 cellsByte:=by kernel_rfl
 sizeByte:=by kernel_rfl
 neB5:=by decide}
open Go.RowKit Go.Lib in
/-- **strings.Repeat: count ≥ 0, the result within one allocation: count copies of s.** (LAID: no walk: one application.) -/
theorem Tryz.strings_Repeat (s:ByteArray) (c:Nat) (w:World) (hc:c≤9223372036854775807) (hlen:s.size*c≤140737488355328):
 Calls Tryz.prog 175 #[.string s,.int .i64 c] w fun e w'=>e=.returned (.string ⟨(Lib.repeatL s.data.toList c).toArray⟩)∧Below w.heap.size w w':=Any.strings_Repeat Tryz.lays105 Tryz.Builder_Extra_105 s c w hc hlen
end Go.Proofs
namespace Go.Proofs.YtfjopfinkdhmaaaGreatDoor
open Go.Lx Go.RowKit
attribute [local instance 10] Classical.propDecidable
open Go.Proofs.Tryz (prog)
def TabF (fz:FZ):Prop:=∀ w,Hp fz [] w→Lib.TabIs prog w "internal/strconv.uint64pow10" .u64 Lib.pow10Tab
variable {fz fz':FZ}
theorem TabF.mono (hle:Le fz fz') (h:TabF fz):TabF fz':=fun w hw=>h w ⟨fun b o hb=>hw.keep b o (hle b o hb),by simp,by simp⟩
theorem YlW {n:Int} (hT:TabF fz) (h:Ya3 n):QFn prog 34 [.int .i64 n] fz (.string (strOf (Lib.itoa n))):=by
 unfold QFn
 refine ⟨⟨_,Tryz.func34,by decide,by decide⟩,fun w hw=>?_⟩
 unfold Ya3 at h
 refine (Tryz.strconv_Itoa n Zi Zi w (hT w hw)).mono fun e w' ⟨he,k,os,hw'⟩=>⟨he,?_⟩
 subst hw'
 exact ⟨rfl,rfl,rfl,by show w.heap.size≤(w.heap++os).size;rw [Array.size_append];omega,fun b hb _=>Sort.heap_grow_old (w.drewN k) os hb,fun h=>h.elim⟩
variable {n:Nat}
theorem repeat_q (h:n≤1000000000):QFn prog 175 [.string ⟨#[32]⟩,.int .i64 n] fz (.string (strOf (List.replicate n 32))):=by
 unfold QFn
 refine ⟨⟨_,Tryz.func175,by decide,by decide⟩,fun w hw=>?_⟩
 refine (Tryz.strings_Repeat ⟨#[32]⟩ n w Zi (by show 1*n≤_;omega)).mono fun e w' ⟨he,hb⟩=>⟨?_,Ygz hb⟩
 rw [he,← Yhi]
 rfl
variable {Hs:HP}
theorem join_q {v:Value} {l:List (List UInt8)} (hg:Grow strL 9 fz v n Hs (l.map strOf)) (hf:∀ p∈Hs,fz' p.1=some p.2) (hn:n≤1000000000) (hlen:(Lib.join l [32]).length≤1000000000):
 QFn prog 170 [v,.string ⟨#[32]⟩] fz' (.string (strOf (Lib.join l [32]))):=by
 unfold QFn
 refine ⟨⟨_,Tryz.func170,by decide,by decide⟩,fun w hw=>?_⟩
 have hd:(l.map strOf).map (fun x=>x.data.toList)=l:=by
  rw [List.map_map]
  calc l.map _=l.map id:=List.map_congr_left fun t _=>Yds t
   _=l:=List.map_id l
 obtain ⟨xs,h1,h2,h3,h4⟩:=hg
 rcases h4.2 with ⟨rfl,h0,_⟩ | ⟨g,cap,cur,rfl,hH,h6,h7,h8,h9⟩
 ·have hl:l=[]:=List.eq_nil_of_length_eq_zero (by have:=h3;rw [List.length_map] at this;omega)
  subst hl
  refine (Tryz.strings_Join_none none 0 ⟨#[32]⟩ w).mono fun e w' ⟨he,hb⟩=>⟨?_,by subst hb;exact Fr.refl _ _⟩
  rw [he];rfl
 ·have hb:=hw.keep _ _ (hf (g,.cells cur 9 (0,0)) (by rw [hH];simp))
  have hsh:∀ p∈xs,p.2=[Value.string p.1]:=fun p hp=>(h2 p hp).1
  have hfl:xs.flatMap Prod.snd=(l.map strOf).map Value.string:=by
   rw [← h1,List.map_map]
   clear h1 h3 h4 h9 h2
   induction xs with
   | nil=>rfl
   | cons a r ih=>rw [List.flatMap_cons,hsh a (by simp),ih (fun p hp=>hsh p (by simp [hp]))];rfl
  have hcells:∀ (j:Nat) x,(l.map strOf)[j]?=some x→w.cell? ⟨g,0+j,none⟩=some (.string x):=by
   intro j x hx
   have hj:j<n:=by have:=(Zg hx).1;omega
   have h10:(cur.toList.take (n*1))[j]?=some (.string x):=by
    have h9':cur.toList.take (n*1)=xs.flatMap Prod.snd:=h9
    rw [h9',hfl,List.getElem?_map,hx];rfl
   rw [List.getElem?_take,if_pos Zi] at h10
   rw [Nat.zero_add]
   simp only [World.cell?,hb]
   simpa using h10
  have hll:(l.map strOf).length=n:=h3
  have:=Tryz.strings_Join g 0 cap (l.map strOf) ⟨#[32]⟩ w hcells (lt_of_heap hb) Zi Zi (by rw [hd];exact Nat.le_trans hlen Zh)
  rw [hd,hll] at this
  exact this.mono fun e w' ⟨he,hb⟩=>⟨he,Ygz hb⟩
def bldO (p v:Value):Obj:=.cells #[p,v] 249 (0,0)
def Bld (b:Nat) (l:List UInt8) (H:HP):Prop:=∃ (p v:Value) (Hs:HP),H=(b,bldO p v)::Hs∧(p=.pointer none∨p=.pointer (some ⟨b,0,none⟩))∧OwnS 5 1 v l.length (l.map Ybn) Hs
theorem Bld.new (b:Nat):Bld b [] [(b,bldO (.pointer none) (.slice none 0 0))]:=⟨_,_,_,rfl,.inl rfl,OwnS.nil _ _⟩
theorem YiX {b:Nat} {p v:Value} (hp:p=.pointer none∨p=.pointer (some ⟨b,0,none⟩)):
 GFn prog 203 [.pointer (some ⟨b,0,none⟩)] fz [(b,bldO p v)] (fun r fz' H'=>r=.tuple #[]∧fz=fz'∧H'=[(b,bldO (.pointer (some ⟨b,0,none⟩)) v)]):=by
 refine GFn.of ⟨_,Tryz.func203,by decide,by decide⟩ fun w hw=>?_
 obtain ⟨hb,hz⟩:=hw.own (b,bldO p v) (by simp)
 simp only at hb hz
 have c0:w.cell? ⟨b,0,none⟩=some p:=by simp [World.cell?,hb,bldO]
 rcases hp with rfl | rfl
 ·refine (Any.Builder_copyCheck_fresh (ρ:=Tryz.lays156_ren) {Tryz.lays156 with} Tryz.Builder_Extra_156.toX72 b w c0 (by simp [World.shape?,hb,bldO];rfl) (by simp [World.frozen?,hb,bldO])).mono fun e w' ⟨he,hw'⟩=>?_
  subst hw'
  refine ⟨_,fz,_,he,⟨rfl,rfl,rfl⟩,⟨fun k o hk=>?_,fun q hq=>?_,by simp⟩,⟨rfl,rfl,rfl,by simp [World.setCell],fun k _ hn=>?_,fun h=>h.elim⟩,⟨fun _ _ h=>h,fun _ _ _=>rfl,fun q hq=>.inl (by simp at hq;subst hq;simp)⟩⟩
  ·rw [Below.heap_setCell _ _ _ _ (fun h=>by subst h;rw [hz] at hk;cases hk)]
   exact hw.keep k o hk
  ·simp only [List.mem_singleton] at hq
   subst hq
   refine ⟨?_,hz⟩
   simp [World.setCell,Array.getElem?_modify,hb,bldO]
  ·exact Below.heap_setCell _ _ _ _ (fun h=>hn (by simp [h]))
 ·refine (Any.Builder_copyCheck_used (ρ:=Tryz.lays156_ren) {Tryz.lays156 with} Tryz.Builder_Extra_156.toX72 b w c0).mono fun e w' ⟨he,hw'⟩=>?_
  subst hw'
  exact ⟨_,fz,_,he,⟨rfl,rfl,rfl⟩,hw,Fr.refl _ _,⟨fun _ _ h=>h,fun _ _ _=>rfl,fun q hq=>.inl (by simp at hq;subst hq;simp)⟩⟩
variable {H:HP}
set_option maxHeartbeats 1000000 in
theorem YfB {b:Nat} {l:List UInt8} {s:Bs} (hb:Bld b l H) (hs:l.length+s.size≤1000000000):
 GFn prog 174 [.pointer (some ⟨b,0,none⟩),.string s] fz H (fun r fz' H'=>fz=fz'∧r=.tuple #[.int .i64 s.size,.nilIface]∧Bld b (l++s.data.toList) H'):=by
 obtain ⟨p,v,Hs,rfl,hp,hO⟩:=hb
 refine zF Tryz.func174 Tryz.ntmps174 (fun w0=>?_)
 refine zW ?_;intros
 refine Ya Zz (Ym [_] _ Zz Zz Zz (YiX hp) (fun r1 fz1 H1 hle1 hR1=>?_))
 obtain ⟨rfl,rfl,rfl⟩:=hR1
 unfold bldO
 refine zW ?_;intros
 refine Ya Zz (YiK T (Hr:=[_]) Zz Zz Zz Zz Zz Zz Zz Zz Zz Zz (Zr _) hO Zi (fun v' Hs' hO'=>?_))
 obtain ⟨A',c',rfl,_,_⟩:=hO'.form
 refine zW ?_;intros
 refine ret2 rfl rfl rfl (List.Sublist.refl _) ⟨rfl,rfl,_,_,Hs',rfl,.inr rfl,?_⟩
 have e:(l++s.data.toList).length=l.length+s.size:=by rw [List.length_append,Array.length_toList];rfl
 rw [e,List.map_append]
 exact hO'
set_option maxHeartbeats 1000000 in
theorem YmA {b:Nat} {l:List UInt8} (hb:Bld b l H) (h0:l≠ []) (hn:l.length≤1000000000):
 GFn prog 176 [.pointer (some ⟨b,0,none⟩)] fz H (fun r fz' H'=>fz=fz'∧r=.string (strOf l)∧H'=[]):=by
 obtain ⟨p,v,Hs,rfl,hp,hO⟩:=hb
 have hl0:l.length≠0:=by simpa using h0
 rcases hO.2 with ⟨_,h1,_⟩ | ⟨g,cap,cur,rfl,rfl,h3,h4,h5,h6⟩
 ·exact absurd h1 hl0
 ·obtain ⟨curl,rfl⟩:∃ cl:List Value,cur=cl.toArray:=⟨cur.toList,by simp⟩
  unfold bldO
  refine zF Tryz.func176 Tryz.ntmps176 (fun w0=>?_)
  refine zWO ?_;intros
  refine Yk (Yr ?_)
  refine zWO ?_;intros
  refine Yk ?_
  refine Wp.drawK (Hq:=[_]) T.mixed Zj Zj Zb ?_
  refine zW ?_;intros
  refine zG ?_;refine Yhl Zz Zi ?_
  refine zW ?_;intros
  refine Yf ?_
  refine Yf ?_
  refine YM ⟨by kernel_rfl,?_⟩
  refine Yt (Yft T (pre:=[_]) (post:=[]) Zz Zz Zz Zz Zz Zz h0 (by simp at h5;omega) Zi (by simpa using h6) ⟨(⟨Le.refl _,Zx⟩),?_⟩)
  refine Ch.qk (⟨Le.refl _,Zx⟩) (YJ Zz ?_)
  refine Ch.done ?_
  refine zW ?_;intros
  exact ret1 rfl rfl (List.nil_sublist _) ⟨rfl,rfl,rfl⟩
def PlcB (p q:Int):Prop:=0≤p∧0≤q∧p≤100000∧q≤100000
theorem Ylw {t:Bs} (ht:t.size≤65536) (a:Nat):PlcB (posA t a).1 (posA t a).2:=by
 have:=YeD t a
 unfold PlcB;omega
theorem next_pl {t:Bs} {a a' n':Nat} {st st':List Lev} (ht:t.size≤65536) (h:Ya7 t a n st=.ok (a',n',st')) (hs:∀ e∈st,PlcB e.l e.c):∀ e∈st',PlcB e.l e.c:=by
 unfold Ya7 at h
 split at h
 ·cases h
 ·split at h
  ·split at h
   ·cases h
   ·injection h with h
    injection h with h2 h3
    injection h3 with h3 h4
    subst h4
    intro e he
    rcases List.mem_cons.1 he with rfl | he
    ·exact Ylw ht a
    ·exact hs e he
  ·split at h
   ·split at h
    ·rename_i e1 e2 r
     injection h with h
     injection h with h2 h3
     injection h3 with h3 h4
     subst h4
     intro e he
     rcases List.mem_cons.1 he with rfl | he
     ·exact hs e2 (by simp)
     ·exact hs e (by simp [he])
    ·cases h
   ·unfold tokM at h
    split at h
    ·cases h
    ·split at h
     ·cases h
     ·unfold addM at h
      split at h
      ·cases h
      ·rename_i e1 r
       injection h with h
       injection h with h2 h3
       injection h3 with h3 h4
       subst h4
       intro e he
       rcases List.mem_cons.1 he with rfl | he
       ·exact hs e1 (by simp)
       ·exact hs e (by simp [he])
theorem Yjw {t:Bs} (ht:t.size≤65536):∀ (f a n:Nat) (st:List Lev) {l c e:Int},(∀ e∈st,PlcB e.l e.c)→YbI t f a n st=.error (l,c,e)→PlcB l c
 | 0,a,n,st,l,c,e,_,h=>by rw [YbI] at h;injection h with h;injection h with h1 h2;injection h2 with h2 h3;subst h1 h2;unfold PlcB;omega
 | f+1,a,n,st,l,c,e,hs,h=>by
  rw [W1] at h
  split at h
  ·unfold endM at h
   split at h
   ·injection h with h;injection h with h1 h2;injection h2 with h2 h3;subst h1 h2;unfold PlcB;omega
   ·cases h
   ·injection h with h;injection h with h1 h2;injection h2 with h2 h3;subst h1 h2;exact hs _ (by simp)
  ·split at h
   ·injection h with h;injection h with h1 h2;injection h2 with h2 h3;subst h1 h2;exact Ylw ht _
   ·rename_i a' n' st' hn
    exact Yjw ht f a' n' st' (next_pl ht hn hs) h
theorem readM_pl {t:Bs} {l c e:Int} (h:YcH t=.error (l,c,e)):PlcB l c:=by
 unfold YcH at h
 split at h
 ·injection h with h;injection h with h1 h2;injection h2 with h2 h3;subst h1 h2;unfold PlcB;omega
 ·exact Yjw Zi _ _ _ _ (by intro e he;simp at he;subst he;unfold PlcB;decide) h
def prdM (t:Bs):Except Int Sexpr:=match YcH t with
 | .error (_,_,e)=>.error e
 | .ok l=>match l with
  | [x]=>.ok x
  | _=>.error 2
def PrdX (fz:FZ) (m:Except Int Sexpr) (v:Value):Prop:=∃ x cs pl,Yy.rep fz x cs∧match m with
 | .error c=>v=.tuple #[.agg cs.toArray,.string pl,errV c]∧c≠0
 | .ok y=>y=x∧v=.tuple #[.agg cs.toArray,.string ⟨#[]⟩,.nilIface]
theorem Yjz {m:Except Int Sexpr} {c:Int} {pl:Bs} (h:m=.error c) (hc:c≠0):PrdX fz m (.tuple #[.agg #[.int .i64 0,.int .i64 0,.int .i64 0,.int .i64 0,.string ⟨#[]⟩,.slice none 0 0],.string pl,.iface 65 (.int .i64 c)]):=by
 rw [h]
 exact ⟨zroX,zroC,pl,Yi7,by rw [Yj hc];rfl,hc⟩
set_option maxHeartbeats 4000000 in
theorem Ylt {k t:Bs} (hT:TabF fz) (hk:k.size≤100):
 GFn prog 15 [.string k,.string t] fz [] (fun r fz' H'=>H'=[]∧PrdX fz' (prdM t) r):=by
 have hM:prdM t=match YcH t with
 | .error (_,_,e)=>.error e
 | .ok l=>match l with
  | [x]=>.ok x
  | _=>.error 2:=rfl
 refine zF Tryz.func15 Tryz.ntmps15 (fun w0=>?_)
 refine zW ?_;intros
 refine Ya Zz (Ym [] _ Zz Zz Zz (read_f (t:=t)) (fun r4 fz4 H4 hle4 hR4=>?_))
 obtain ⟨rfl,hR4⟩:=hR4
 cases hx:YcH t with
 | error lce=>
  obtain ⟨l,c,e⟩:=lce
  have hp:=readM_pl hx
  unfold PlcB at hp
  rw [hx] at hM hR4
  obtain ⟨rfl,he,hi1,hi2⟩:=hR4
  rw [Yj he]
  have z1:=itoa_len (n:=l) (by unfold Ya3;omega)
  have z2:=itoa_len (n:=c) (by unfold Ya3;omega)
  refine zW ?_;intros
  refine zG ?_;refine XK Zz Zz (by show k.size+1≤_;omega) ?_
  refine zW ?_;intros
  ((refine zG ?_);refine Yw Zz Zz (YlW (hT.mono hle4) (by unfold Ya3;omega)) ?_)
  refine zG ?_;refine XK Zz Zz (by rw [ByteArray.size_append,Wo];show k.size+1+_≤_;omega) ?_
  refine zG ?_;refine XK Zz Zz (by rw [ByteArray.size_append,ByteArray.size_append,Wo];show k.size+1+_+1≤_;omega) ?_
  refine zW ?_;intros
  ((refine zG ?_);refine Yw Zz Zz (YlW (hT.mono hle4) (by unfold Ya3;omega)) ?_)
  refine zG ?_;refine XK Zz Zz (by rw [ByteArray.size_append,ByteArray.size_append,ByteArray.size_append,Wo,Wo];show k.size+1+_+1+_≤_;omega) ?_
  refine zW ?_;intros
  refine YQ T (vs:=[.agg #[.int .i64 0,.int .i64 0,.int .i64 0,.int .i64 0,.string ⟨#[]⟩,.slice none 0 0],_,.iface 65 (.int .i64 e)]) Zz ⟨⟨_,_,0,_,_,_,rfl,rfl,rfl,rfl,rfl,rfl⟩,rfl,rfl,trivial⟩ (fun fz3 hle3 hf3=>⟨rfl,Yjz hM he⟩)
 | ok l=>
  rw [hx] at hM hR4
  obtain ⟨A,n,c,rfl,il⟩:=hR4
  simp only at hM
  have hl:=il.len
  refine zW ?_;intros
  refine zC (fun c1=>?_) (fun c1=>?_)
  ·have hM2:prdM t=.error 2:=by
    rw [hM]
    split
    ·simp at hl;omega
    ·rfl
   refine zW ?_;intros
   refine YQ T (vs:=[.agg #[.int .i64 0,.int .i64 0,.int .i64 0,.int .i64 0,.string ⟨#[]⟩,.slice none 0 0],.string k,.iface 65 (.int .i64 2)]) Zz ⟨⟨_,_,0,_,_,_,rfl,rfl,rfl,rfl,rfl,rfl⟩,rfl,rfl,trivial⟩ (fun fz3 hle3 hf3=>⟨rfl,Yjz hM2 Zh⟩)
  ·obtain ⟨y,rfl⟩:∃ y,l=[y]:=by
    have h3:l.length=1:=by omega
    match l,h3 with
    | [y],_=>exact ⟨y,rfl⟩
   simp only at hM
   have hy: [y][0]?=some y:=rfl
   refine zW ?_;intros
   refine zI il hy (fun p hp=>?_)
   refine zL hp ?_
   intro cs hcs
   obtain ⟨vy,rfl,hRy⟩:=Yh hcs
   obtain ⟨Ay,ny,cy,rfl,iy⟩:=hRy.kids
   refine zW ?_;intros
   refine YQ T (vs:=[.agg #[.int .i64 y.kind,.int .i64 y.value,.int .i64 y.line,.int .i64 y.column,.string y.text,.slice Ay ny cy],.string ⟨#[]⟩,.nilIface]) Zz ⟨⟨_,_,0,_,_,_,rfl,rfl,rfl,rfl,rfl,rfl⟩,rfl,rfl,trivial⟩ (fun fz3 hle3 hf3=>⟨rfl,y,_,⟨#[]⟩,Yy.mono hle3 hcs,?_⟩)
   rw [hM]
   exact ⟨rfl,rfl⟩
end Go.Proofs.YtfjopfinkdhmaaaGreatDoor
namespace Go.Lx
mutual
def eW:Expr→Nat
 | .mk _ _ _ args kids=>1+args.length+eWL kids
def eWL:List Expr→Nat
 | []=>0
 | k::r=>eW k+eWL r
end
mutual
def fW:Formula→Nat
 | .mk _ _ args params exprs kids=>1+args.length+params.length+eWL exprs+fWL kids
def fWL:List Formula→Nat
 | []=>0
 | k::r=>fW k+fWL r
end
theorem Ymm (l:List Expr):eWL l=(l.map eW).sum:=by
 induction l with
 | nil=>rfl
 | cons a r ih=>simp [eWL,ih]
theorem fWL_sum (l:List Formula):fWL l=(l.map fW).sum:=by
 induction l with
 | nil=>rfl
 | cons a r ih=>simp [fWL,ih]
def WZ (c:Change):Nat:=1+c.params.length+fW c.when_+c.args.length+eW c.value
def actW (a:Action):Nat:=1+a.params.length+fW a.pre+(a.changes.map WZ).sum
def durW (a:Durative):Nat:=1+a.params.length+fW a.start+fW a.over+fW a.fin+(a.atStart.map WZ).sum+(a.atEnd.map WZ).sum
theorem eW_eq (e:Expr):eW e=1+e.args.length+(e.kids.map eW).sum:=by cases e;rw [eW,Ymm];rfl
theorem fW_eq (f:Formula):fW f=1+f.args.length+f.params.length+(f.exprs.map eW).sum+(f.kids.map fW).sum:=by cases f;rw [fW,Ymm,fWL_sum];rfl
theorem Yin {α:Type} {w:α→Nat}:∀ {l:List α} {x:α},x∈l→w x≤(l.map w).sum
 | [],_,h=>by cases h
 | a::r,x,h=>by
  simp only [List.map_cons,List.sum_cons]
  rcases List.mem_cons.1 h with rfl | h
  ·omega
  ·have:=Yin (w:=w) h;omega
end Go.Lx
namespace Go.Proofs.YtfjopfinkdhmaaaGreatDoor
open Go.Lx Go.RowKit
attribute [local instance 10] Classical.propDecidable
theorem YaJ (s:Bs):xcount (Yi s)=1:=by simp [Yi,xcount,xcountL]
theorem cnt_num (n:Int):xcount (numE n)=1:=by simp [numE,xcount,xcountL]
theorem WB (l:List Sexpr):xcount (YF l)=1+xcountL l:=by simp [YF,xcount]
theorem Yh4 {α:Type} (f:α→Bs) (l:List α):xcountL (l.map fun x=>Yi (f x))=l.length:=by
 induction l with
 | nil=>rfl
 | cons a r ih=>simp only [List.map_cons,xcountL,YaJ,ih,List.length_cons];omega
theorem Yah (f:Bs) (l:List Bs):xcount (W0 f l)=2+l.length:=by
 have:=Yh4 id l
 simp only [id] at this
 rw [W0,WB,xcountL,YaJ]
 rw [show l.map Yi=l.map fun x=>Yi x from rfl,this];omega
theorem YgS (l:List Param):xcountL (WJ l)=3*l.length:=by
 have:=Yh4 id (l.flatMap W2)
 simp only [id,Ycq] at this
 exact this
end Go.Proofs.YtfjopfinkdhmaaaGreatDoor
