/- The texts RL, RM, PWalkJ, PWalkK, laid together. Conditions: none. -/
import Derived.Test.YtfjopfinkdhmaaaGreatDoorRYI
import Derived.Laws.StructEq
import Derived.Tactics
set_option linter.all false
noncomputable section
set_option maxRecDepth 20000
namespace Go.Proofs.YtfjopfinkdhmaaaGreatDoor
open Go.Lx Go.RowKit
attribute [local instance 10] Classical.propDecidable
open Go.Proofs.Tryz (prog)
def OpQ (w:Bs):Prop:=w=XZ∨w=WX
def OpB (w:Bs):Prop:=w=kNot∨w=YlU∨w=kAnd∨w=kOr
def OpC (w:Bs):Prop:=w=kEq∨w=kLt∨w=kLe∨w=kGt∨w=kGe
def YeX (P:Sexpr→Except Int Formula) (w:Bs) (r:List Sexpr):Except Int Formula:=
 if OpQ w then match r with
  | []=>.error 2
  | y::r'=>if y.kind≠3 then .error 2 else match parM true y.kids [] [] with
   | .error c=>.error c
   | .ok ps=>match mapE P r' with
    | .error c=>.error c
    | .ok ks=>.ok (.mk w ⟨#[]⟩ [] ps [] ks)
 else if OpB w then match mapE P r with
  | .error c=>.error c
  | .ok ks=>.ok (.mk w ⟨#[]⟩ [] [] [] ks)
 else if OpC w then match r with
  | [y,z]=>cmpM w y z
  | _=>.error 2
 else if Y5 w then match Yao r with
  | .error c=>.error c
  | .ok a=>.ok (.mk kAtom w a [] [] [])
 else .error 8
section
variable {P:Sexpr→Except Int Formula} {w:Bs} {r:List Sexpr} {y z:Sexpr}
theorem formB_Q (h:OpQ w):YeX P w (y::r)=if y.kind≠3 then .error 2 else match parM true y.kids [] [] with
 | .error c=>.error c
 | .ok ps=>match mapE P r with
  | .error c=>.error c
  | .ok ks=>.ok (.mk w ⟨#[]⟩ [] ps [] ks):=by unfold YeX;rw [if_pos h]
theorem formB_B (h0:¬OpQ w) (h:OpB w):YeX P w r=match mapE P r with
 | .error c=>.error c
 | .ok ks=>.ok (.mk w ⟨#[]⟩ [] [] [] ks):=by unfold YeX;rw [if_neg h0,if_pos h]
theorem formB_C (h0:¬OpQ w) (h1:¬OpB w) (h:OpC w):YeX P w [y,z]=cmpM w y z:=by unfold YeX;rw [if_neg h0,if_neg h1,if_pos h]
theorem formB_N (h0:¬OpQ w) (h1:¬OpB w) (h2:¬OpC w):YeX P w r=if Y5 w then match Yao r with
 | .error c=>.error c
 | .ok a=>.ok (.mk kAtom w a [] [] [])
 else .error 8:=by unfold YeX;rw [if_neg h0,if_neg h1,if_neg h2]
end
def YaU:Nat→Sexpr→Except Int Formula
 | 0,_=>.error 2
 | d+1,x=>if x.kind=3∧x.kids=[] then .ok (.mk kAnd ⟨#[]⟩ [] [] [] []) else match XF x with
  | none=>.error 2
  | some (w,r)=>if 0≤cntM w∧cntM w≠r.length then .error 2 else YeX (YaU d) w r
theorem YeG {d:Nat} {x:Sexpr}:YaU (d+1) x=if x.kind=3∧x.kids=[] then .ok (.mk kAnd ⟨#[]⟩ [] [] [] []) else match XF x with
 | none=>.error 2
 | some (w,r)=>if 0≤cntM w∧cntM w≠r.length then .error 2 else YeX (YaU d) w r:=rfl
def ParseW (d:Nat):Prop:=∀ (fz:FZ) (x:Sexpr) (vk:Value),SizeOf.sizeOf x≤d→XSm x→YW fz x vk→
 GFn prog 185 [.agg #[.int .i64 x.kind,.int .i64 x.value,.int .i64 x.line,.int .i64 x.column,.string x.text,vk]] fz [] (fun r fz' H'=>H'=[]∧ResL Y1 fz' (YaU d x) r)
variable {A:Option Addr} {c n:Nat} {fz:FZ}
set_option maxHeartbeats 8000000 in
theorem kids_f {d:Nat} (ih:ParseW d) {l:List Sexpr} (h:Sl Yy fz A n c l) (hn:n≤1000000) (hz:∀ y∈l,SizeOf.sizeOf y≤d∧XSm y):
 GFn prog 216 [.slice A n c] fz [] (fun r fz' H'=>H'=[]∧ResS Y1 fz' (mapE (YaU d) l) r):=by
 have hl:=h.len
 refine zF Tryz.func216 Tryz.ntmps216 (fun w0=>?_)
 refine zW ?_;intros
 refine Yl (fun q σ fz' H'=>∃ (k:Nat) (v:Value) (Hs:HP) (out:List Formula),k≤n∧q=n - k∧σ=[(11,.int .i64 k),(10,.int .i64 n),(9,.slice A n c),(4,v)]∧Le fz fz'∧H'=Hs∧Grow Y1 38 fz' v k Hs out∧mapE (YaU d) l=exA out (mapE (YaU d) (l.drop k))) ⟨0,_,[],[],Z0 _,rfl,rfl,Le.refl _,rfl,Grow.nil _ _ _,by rw [Ycg];rfl⟩ Zw Zb ?_
 rintro q σ fz' H' ⟨k,v,Hs,out,hk,rfl,rfl,hle,rfl,hG,hM⟩
 obtain ⟨Av,cv,rfl,_,_⟩:=hG.form
 refine zW ?_;intros
 refine zC (fun c1=>?_) (fun c1=>?_)
 ·obtain ⟨y,hy⟩:=Yn (l:=l) (k:=k) Zi
  have hyz:=hz y (Zm hy)
  refine zW ?_;intros
  refine zI (h.mono hle) hy (fun p hp=>?_)
  refine zL hp ?_
  intro cs hcs
  obtain ⟨vy,rfl,hRy⟩:=Yh hcs
  obtain ⟨Ay,ny,cy,rfl,iy⟩:=hRy.kids
  refine zW ?_;intros
  rename_i g6
  refine Ya Zz (Ym [] _ Zz Zz Zz (ih _ _ _ hyz.1 hyz.2 hRy) (fun r2 fz2 H2 hle2 hR2=>?_))
  obtain ⟨rfl,de,cs2,hr2,hR2⟩:=hR2
  obtain ⟨v1,v2,v3,v4,rfl,hE2⟩:=YK hr2
  obtain ⟨A1,n1,b1,rfl,j1⟩:=hE2.args
  obtain ⟨A2,n2,b2,rfl,j2⟩:=hE2.params
  obtain ⟨A3,n3,b3,rfl,j3⟩:=hE2.exprs
  obtain ⟨A4,n4,b4,rfl,j4⟩:=hE2.kids
  cases hx:YaU d y with
  | error c'=>
   rw [hx] at hR2
   obtain ⟨rfl,hc⟩:=hR2
   have hm:=Yed hy hM hx
   rw [Yj hc]
   refine zW ?_;intros
   exact ret2 (H':=[]) rfl rfl rfl Zb ⟨rfl,by rw [hm];exact ⟨by rw [Yj hc];rfl,hc⟩⟩
  | ok z=>
   rw [hx] at hR2
   obtain ⟨rfl,rfl⟩:=hR2
   have hm:=Ygr hy hM hx
   refine zW ?_;intros
   rename_i g7
   refine Ya Zz (Yc T (cs:=[.string z.op,.string z.name,.slice A1 n1 b1,.slice A2 n2 b2,.slice A3 n3 b3,.slice A4 n4 b4]) Zz Zz Zz Zz Zz Zz Zz Zz (fun gb=>?_))
   refine Ya Zz (YS T (d:=z) (cs:=[.string z.op,.string z.name,.slice A1 n1 b1,.slice A2 n2 b2,.slice A3 n3 b3,.slice A4 n4 b4]) (Hr:=(gb,_)::(g7,_):: [(g6,_)]) Zz Zz Zz Zz Zz Zz Zz Zz (Zr _) (hG.mono hle2) Ydf (.head _) hr2 (by show _*128≤_;omega) Zi (fun v' Hs' hG'=>?_))
   refine zW ?_;intros
   exact Yz ⟨k+1,v',Hs',out++ [z],by omega,rfl,rfl,hle.trans hle2,rfl,hG',hm⟩ Zi Zw Zb
 ·have hm:=Yee Zi hM
  refine zW ?_;intros
  refine Yiq rfl rfl rfl (fun fz3 hle3 hf3=>⟨rfl,?_⟩)
  obtain ⟨A1,c1',hv1,hS1⟩:=hG.sl hle3 hf3 Zi
  injection hv1 with hv1 hv2 hv3
  subst hv1 hv3
  rw [hm]
  exact ⟨_,_,_,rfl,hS1⟩
def FrmR (fz:FZ) (m:Except Int Formula) (ev:Value) (cs:List Value):Prop:=
 (∃ a1 a2 A1 n1 c1 A2 n2 c2 A3 n3 c3 A4 n4 c4,cs=[.string a1,.string a2,.slice A1 n1 c1,.slice A2 n2 c2,.slice A3 n3 c3,.slice A4 n4 c4])∧
 ((∃ c,c≠0∧m=.error c∧ev=.iface 65 (.int .i64 c))∨∃ f,m=.ok f∧ev=.nilIface∧Y1.rep fz f cs)
set_option maxHeartbeats 16000000 in
theorem fparse_f (d:Nat):ParseW d:=by
 induction d with
 | zero=>intro fz x vk hz _ _;cases x;simp at hz
 | succ d ih=>
  intro fz x vk hz hs hR
  obtain ⟨A,n,c,rfl,ik⟩:=hR.kids
  have hl:=ik.len
  have hM:=YeG (d:=d) (x:=x)
  refine zF Tryz.func185 Tryz.ntmps185 (fun w0=>?_)
  refine zWX ?_;intros
  refine Yk ?_
  refine zWX ?_;intros
  rename_i g1 g2
  refine Yk ?_
  refine Yk (Wp.mid (fun σ fz' H'=>∃ bb:Bool,σ=[(18,.bool bb),(2,.pointer (some ⟨g2,0,none⟩)),(1,.pointer (some ⟨g1,0,none⟩))]∧fz=fz'∧H'=[(g2,.cells #[.string ⟨#[]⟩,.string ⟨#[]⟩,.slice none 0 0,.slice none 0 0,.slice none 0 0,.slice none 0 0] 38 (0,0)),(g1,.cells #[.int .i64 x.kind,.int .i64 x.value,.int .i64 x.line,.int .i64 x.column,.string x.text,.slice A n c] 57 (0,0))]∧(bb=true↔x.kind=3∧x.kids=[])) ?_ ?_)
  ·refine zW ?_;intros
   refine zC (fun c1=>?_) (fun c1=>?_)
   ·refine zW ?_;intros
    refine zC (fun c2=>?_) (fun c2=>?_)
    ·refine zW ?_;intros
     exact midN ⟨true,rfl,rfl,rfl,iff_of_true rfl ⟨c1,List.eq_nil_of_length_eq_zero Zi⟩⟩ Zw Zb
    ·refine zW ?_;intros
     exact midN ⟨false,rfl,rfl,rfl,iff_of_false Zh (fun h=>c2 (by rw [h.2] at hl;simp at hl;omega))⟩ Zw Zb
   ·refine zW ?_;intros
    exact midN ⟨false,rfl,rfl,rfl,iff_of_false Zh (fun h=>c1 h.1)⟩ Zw Zb
  rintro σ fz' H' ⟨bb,rfl,rfl,rfl,hb⟩
  cases bb with
  | true=>
   rw [if_pos (hb.1 rfl)] at hM
   refine zW ?_;intros
   exact YQ T (vs:=[.agg #[.string kAnd,.string ⟨#[]⟩,.slice none 0 0,.slice none 0 0,.slice none 0 0,.slice none 0 0],.nilIface]) Zz ⟨⟨_,_,0,_,_,_,rfl,rfl,rfl,rfl,rfl,rfl⟩,rfl,trivial⟩ (fun fz3 hle3 hf3=>⟨rfl,ResL.fine hM (Yal (by unfold Short;decide) XQ IsSl.nil IsSl.nil IsSl.nil IsSl.nil)⟩)
  | false=>
   rw [if_neg (fun h=>absurd (hb.2 h) Zh)] at hM
   refine zW ?_;intros
   refine Ya Zz (Ym [] _ Zz Zz Zz (head_f hR) (fun r1 fz1 H1 hle1 hR1=>?_))
   obtain ⟨rfl,rfl,hR1⟩:=hR1
   unfold YcU at hR1
   cases hh:XF x with
   | none=>
    rw [hh] at hR1 hM
    subst hR1
    refine zW ?_;intros
    exact YQ T (vs:=[.agg #[.string ⟨#[]⟩,.string ⟨#[]⟩,.slice none 0 0,.slice none 0 0,.slice none 0 0,.slice none 0 0],.iface 65 (.int .i64 2)]) Zz ⟨⟨_,_,0,_,_,_,rfl,rfl,rfl,rfl,rfl,rfl⟩,rfl,trivial⟩ (fun fz3 hle3 hf3=>⟨rfl,ResL.err hM Zh Yaj⟩)
   | some wr=>
    obtain ⟨w,r⟩:=wr
    rw [hh] at hR1 hM
    obtain ⟨A',n',c',rfl,ir,hw⟩:=hR1
    simp only at hM
    have hrl:=ir.len
    have hrs:=Wm hs hh
    have hrz:∀ y∈r,SizeOf.sizeOf y≤d∧XSm y:=fun y hy=>⟨by have:=YiM hh hy;omega,X7 hs hh hy⟩
    refine zW ?_;intros
    refine zc (count_q (w:=w)) ?_
    refine zWX ?_;intros
    refine Yk (Wp.mid (fun σ fz' H'=>∃ bb:Bool,σ=[(39,.bool bb),(5,.slice A' n' c'),(4,.string w),(2,.pointer (some ⟨g2,0,none⟩))]∧fz1=fz'∧H'=[(g2,.cells #[.string ⟨#[]⟩,.string ⟨#[]⟩,.slice none 0 0,.slice none 0 0,.slice none 0 0,.slice none 0 0] 38 (0,0))]∧(bb=true↔0≤cntM w∧cntM w≠r.length)) ?_ ?_)
    ·refine zW ?_;intros
     refine zC (fun c3=>?_) (fun c3=>?_)
     ·refine zW ?_;intros
      refine zC (fun c4=>?_) (fun c4=>?_)
      ·refine zW ?_;intros
       exact midN ⟨true,rfl,rfl,rfl,iff_of_true rfl ⟨c3,by rw [hrl];exact c4⟩⟩ Zw Zb
      ·refine zW ?_;intros
       exact midN ⟨false,rfl,rfl,rfl,iff_of_false Zh (fun h=>h.2 (by rw [hrl];exact c4))⟩ Zw Zb
     ·refine zW ?_;intros
      exact midN ⟨false,rfl,rfl,rfl,iff_of_false Zh (fun h=>c3 h.1)⟩ Zw Zb
    rintro σ fz' H' ⟨bb,rfl,rfl,rfl,hb39⟩
    cases bb with
    | true=>
     rw [if_pos (hb39.1 rfl)] at hM
     refine zW ?_;intros
     exact YQ T (vs:=[.agg #[.string ⟨#[]⟩,.string ⟨#[]⟩,.slice none 0 0,.slice none 0 0,.slice none 0 0,.slice none 0 0],.iface 65 (.int .i64 2)]) Zz ⟨⟨_,_,0,_,_,_,rfl,rfl,rfl,rfl,rfl,rfl⟩,rfl,trivial⟩ (fun fz3 hle3 hf3=>⟨rfl,ResL.err hM Zh Yaj⟩)
    | false=>
     have hcnt:¬(0≤cntM w∧cntM w≠r.length):=fun h=>absurd (hb39.2 h) Zh
     rw [if_neg hcnt] at hM
     have two:Cnt2 w→¬w=kNot→∃ y z,r=[y,z]:=fun h1 h2=>by
      unfold cntM at hcnt
      rw [if_neg h2,if_pos h1] at hcnt
      have h3:r.length=2:=by omega
      match r,h3 with
      | [y,z],_=>exact ⟨y,z,rfl⟩
     refine zWX ?_;intros
     refine Yk ?_
     refine zWX ?_;intros
     rename_i g8
     refine Yk ?_
     refine zWX ?_;intros
     refine Yk (Wp.mid (fun σ fz' H'=>∃ ev cs,σ=[(9,ev),(8,.pointer (some ⟨g8,0,none⟩)),(2,.pointer (some ⟨g2,0,none⟩))]∧Le fz1 fz'∧H'=[(g8,.cells (List.toArray cs) 38 (0,0)),(g2,.cells #[.string ⟨#[]⟩,.string ⟨#[]⟩,.slice none 0 0,.slice none 0 0,.slice none 0 0,.slice none 0 0] 38 (0,0))]∧FrmR fz' (YaU (d+1) x) ev cs) ?_ ?_)
     ·refine zWX ?_;intros
      refine Yk ?_
      refine zWX ?_;intros
      refine Yk (Wp.mid (fun σ fz' H'=>∃ bb:Bool,σ=[(59,.bool bb),(44,.string w),(9,.nilIface),(8,.pointer (some ⟨g8,0,none⟩)),(5,.slice A' n' c'),(4,.string w),(2,.pointer (some ⟨g2,0,none⟩))]∧fz1=fz'∧H'=[(g8,.cells #[.string w,.string ⟨#[]⟩,.slice none 0 0,.slice none 0 0,.slice none 0 0,.slice none 0 0] 38 (0,0)),(g2,.cells #[.string ⟨#[]⟩,.string ⟨#[]⟩,.slice none 0 0,.slice none 0 0,.slice none 0 0,.slice none 0 0] 38 (0,0))]∧(bb=true↔OpQ w)) ?_ ?_)
      ·refine zW ?_;intros
       refine zC (fun c5=>?_) (fun c5=>?_)
       ·refine zW ?_;intros
        exact midN ⟨true,rfl,rfl,rfl,iff_of_true rfl (.inl c5)⟩ Zw Zb
       ·refine zW ?_;intros
        refine zC (fun c6=>?_) (fun c6=>?_)
        ·refine zW ?_;intros
         exact midN ⟨true,rfl,rfl,rfl,iff_of_true rfl (.inr c6)⟩ Zw Zb
        ·refine zW ?_;intros
         exact midN ⟨false,rfl,rfl,rfl,iff_of_false Zh (fun h=>h.elim c5 c6)⟩ Zw Zb
      rintro σ fz' H' ⟨bb,rfl,rfl,rfl,hbQ⟩
      cases bb with
      | true=>
       have hQ:=hbQ.1 rfl
       obtain ⟨y,z,rfl⟩:=two (by rcases hQ with h | h;exact .inr (.inl h);exact .inr (.inr (.inl h))) (by rcases hQ with rfl | rfl<;>exact fun h=>absurd (congrArg ByteArray.size h) Zh)
       simp only [List.length_cons,List.length_nil] at hrl
       rw [formB_Q hQ] at hM
       have hy0: [y,z][0]?=some y:=rfl
       refine zW ?_;intros
       refine zI ir hy0 (fun p hp=>?_)
       refine zW ?_;intros
       ((refine zG ?_);refine Xy T Zz Zz Zz hp.Sexpr_kind (fun i1=>?_))
       refine zC (fun c7=>?_) (fun c7=>?_)
       ·rw [if_pos c7] at hM
        refine zW ?_;intros
        exact YQ T (vs:=[.agg #[.string ⟨#[]⟩,.string ⟨#[]⟩,.slice none 0 0,.slice none 0 0,.slice none 0 0,.slice none 0 0],.iface 65 (.int .i64 2)]) Zz ⟨⟨_,_,1,_,_,_,rfl,rfl,rfl,rfl,rfl,rfl⟩,rfl,trivial⟩ (fun fz3 hle3 hf3=>⟨rfl,ResL.err hM Zh Yaj⟩)
       ·rw [if_neg (Classical.not_not.2 c7)] at hM
        have hys:=(hrz y (by simp)).2
        have hyl:y.kids.length≤1000000:=(Y8.1 hys).1
        refine zW ?_;intros
        refine zI ir hy0 (fun p2 hp2=>?_)
        refine zW ?_;intros
        ((refine zG ?_);refine Yc4 T Zz Zz Zz hp2.Sexpr_kids (fun Ay ny cy iy=>?_))
        have hyn:=iy.len
        refine Ya Zz (Ym [] _ Zz Zz Zz (Yar (b:=true) iy Zi) (fun r2 fz2 H2 hle2 hR2=>?_))
        obtain ⟨rfl,hR2⟩:=hR2
        cases hps:parM true y.kids [] [] with
        | error c1=>
         rw [hps] at hM hR2
         obtain ⟨rfl,hc⟩:=hR2
         rw [Yj hc]
         refine zW ?_;intros
         exact midN ⟨_,_,rfl,hle2,rfl,⟨_,_,_,_,_,_,_,_,_,_,_,_,_,_,rfl⟩,.inl ⟨c1,hc,hM,rfl⟩⟩ Zw Zb
        | ok ps=>
         rw [hps] at hM hR2
         obtain ⟨A3,n3,c3,rfl,ia⟩:=hR2
         simp only at hM
         refine zW ?_;intros
         refine zG ?_;refine Xu (j:=1) T Zz Zz Zz Zz Zz Zz (ir.mono hle2) Zi (fun A4 hA4=>?_)
         refine Ya Zz (Ym [] _ Zz Zz Zz (kids_f ih hA4 Zi (fun k hk=>hrz k (List.mem_of_mem_drop hk))) (fun r5 fz5 H5 hle5 hR5=>?_))
         obtain ⟨rfl,hR5⟩:=hR5
         have hdr: [y,z].drop 1=[z]:=rfl
         rw [hdr] at hR5
         cases hks:mapE (YaU d) [z] with
         | error c1=>
          rw [hks] at hM hR5
          obtain ⟨rfl,hc⟩:=hR5
          rw [Yj hc]
          refine zW ?_;intros
          exact midN ⟨_,_,rfl,hle2.trans hle5,rfl,⟨_,_,_,_,_,_,_,_,_,_,_,_,_,_,rfl⟩,.inl ⟨c1,hc,hM,rfl⟩⟩ Zw Zb
         | ok ks=>
          rw [hks] at hM hR5
          obtain ⟨A6,n6,c6,rfl,ik6⟩:=hR5
          refine zW ?_;intros
          exact midN ⟨_,_,rfl,hle2.trans hle5,rfl,⟨_,_,_,_,_,_,_,_,_,_,_,_,_,_,rfl⟩,.inr ⟨_,hM,rfl,Yal hw XQ IsSl.nil ⟨_,_,_,rfl,ia.mono hle5⟩ IsSl.nil ⟨_,_,_,rfl,ik6⟩⟩⟩ Zw Zb
      | false=>
       have hQ:¬OpQ w:=fun h=>absurd (hbQ.2 h) Zh
       refine zWX ?_;intros
       refine Yk (Wp.mid (fun σ fz' H'=>∃ bb:Bool,σ=[(87,.bool bb),(44,.string w),(9,.nilIface),(8,.pointer (some ⟨g8,0,none⟩)),(5,.slice A' n' c'),(4,.string w),(2,.pointer (some ⟨g2,0,none⟩))]∧fz1=fz'∧H'=[(g8,.cells #[.string w,.string ⟨#[]⟩,.slice none 0 0,.slice none 0 0,.slice none 0 0,.slice none 0 0] 38 (0,0)),(g2,.cells #[.string ⟨#[]⟩,.string ⟨#[]⟩,.slice none 0 0,.slice none 0 0,.slice none 0 0,.slice none 0 0] 38 (0,0))]∧(bb=true↔OpB w)) ?_ ?_)
       ·refine zW ?_;intros
        refine zC (fun c5=>?_) (fun c5=>?_)
        ·refine zW ?_;intros
         exact midN ⟨true,rfl,rfl,rfl,iff_of_true rfl (.inl c5)⟩ Zw Zb
        refine zW ?_;intros
        refine zC (fun c6=>?_) (fun c6=>?_)
        ·refine zW ?_;intros
         exact midN ⟨true,rfl,rfl,rfl,iff_of_true rfl (.inr (.inl c6))⟩ Zw Zb
        refine zW ?_;intros
        refine zC (fun c7=>?_) (fun c7=>?_)
        ·refine zW ?_;intros
         exact midN ⟨true,rfl,rfl,rfl,iff_of_true rfl (.inr (.inr (.inl c7)))⟩ Zw Zb
        refine zW ?_;intros
        refine zC (fun c8=>?_) (fun c8=>?_)
        ·refine zW ?_;intros
         exact midN ⟨true,rfl,rfl,rfl,iff_of_true rfl (.inr (.inr (.inr c8)))⟩ Zw Zb
        ·refine zW ?_;intros
         exact midN ⟨false,rfl,rfl,rfl,iff_of_false Zh (fun h=>by rcases h with h | h | h | h;exact c5 h;exact c6 h;exact c7 h;exact c8 h)⟩ Zw Zb
       rintro σ fz' H' ⟨bb,rfl,rfl,rfl,hbB⟩
       cases bb with
       | true=>
        rw [formB_B hQ (hbB.1 rfl)] at hM
        refine zW ?_;intros
        refine Ya Zz (Ym [] _ Zz Zz Zz (kids_f ih ir Zi hrz) (fun r5 fz5 H5 hle5 hR5=>?_))
        obtain ⟨rfl,hR5⟩:=hR5
        cases hks:mapE (YaU d) r with
        | error c1=>
         rw [hks] at hM hR5
         obtain ⟨rfl,hc⟩:=hR5
         rw [Yj hc]
         refine zW ?_;intros
         exact midN ⟨_,_,rfl,hle5,rfl,⟨_,_,_,_,_,_,_,_,_,_,_,_,_,_,rfl⟩,.inl ⟨c1,hc,hM,rfl⟩⟩ Zw Zb
        | ok ks=>
         rw [hks] at hM hR5
         obtain ⟨A6,n6,c6,rfl,ik6⟩:=hR5
         refine zW ?_;intros
         exact midN ⟨_,_,rfl,hle5,rfl,⟨_,_,_,_,_,_,_,_,_,_,_,_,_,_,rfl⟩,.inr ⟨_,hM,rfl,Yal hw XQ IsSl.nil IsSl.nil IsSl.nil ⟨_,_,_,rfl,ik6⟩⟩⟩ Zw Zb
       | false=>
        have hB:¬OpB w:=fun h=>absurd (hbB.2 h) Zh
        refine zWX ?_;intros
        refine Yk (Wp.mid (fun σ fz' H'=>∃ bb:Bool,σ=[(98,.bool bb),(44,.string w),(9,.nilIface),(8,.pointer (some ⟨g8,0,none⟩)),(5,.slice A' n' c'),(4,.string w),(2,.pointer (some ⟨g2,0,none⟩))]∧fz1=fz'∧H'=[(g8,.cells #[.string w,.string ⟨#[]⟩,.slice none 0 0,.slice none 0 0,.slice none 0 0,.slice none 0 0] 38 (0,0)),(g2,.cells #[.string ⟨#[]⟩,.string ⟨#[]⟩,.slice none 0 0,.slice none 0 0,.slice none 0 0,.slice none 0 0] 38 (0,0))]∧(bb=true↔OpC w)) ?_ ?_)
        ·refine zW ?_;intros
         refine zC (fun c5=>?_) (fun c5=>?_)
         ·refine zW ?_;intros
          exact midN ⟨true,rfl,rfl,rfl,iff_of_true rfl (.inl c5)⟩ Zw Zb
         refine zW ?_;intros
         refine zC (fun c6=>?_) (fun c6=>?_)
         ·refine zW ?_;intros
          exact midN ⟨true,rfl,rfl,rfl,iff_of_true rfl (.inr (.inl c6))⟩ Zw Zb
         refine zW ?_;intros
         refine zC (fun c7=>?_) (fun c7=>?_)
         ·refine zW ?_;intros
          exact midN ⟨true,rfl,rfl,rfl,iff_of_true rfl (.inr (.inr (.inl c7)))⟩ Zw Zb
         refine zW ?_;intros
         refine zC (fun c8=>?_) (fun c8=>?_)
         ·refine zW ?_;intros
          exact midN ⟨true,rfl,rfl,rfl,iff_of_true rfl (.inr (.inr (.inr (.inl c8))))⟩ Zw Zb
         refine zW ?_;intros
         refine zC (fun c9=>?_) (fun c9=>?_)
         ·refine zW ?_;intros
          exact midN ⟨true,rfl,rfl,rfl,iff_of_true rfl (.inr (.inr (.inr (.inr c9))))⟩ Zw Zb
         ·refine zW ?_;intros
          exact midN ⟨false,rfl,rfl,rfl,iff_of_false Zh (fun h=>by rcases h with h | h | h | h | h;exact c5 h;exact c6 h;exact c7 h;exact c8 h;exact c9 h)⟩ Zw Zb
        rintro σ fz' H' ⟨bb,rfl,rfl,rfl,hbC⟩
        cases bb with
        | true=>
         have hC:=hbC.1 rfl
         obtain ⟨y,z,rfl⟩:=two (by rcases hC with h | h | h | h | h;exact .inr (.inr (.inr (.inl h)));exact .inr (.inr (.inr (.inr (.inl h))));exact .inr (.inr (.inr (.inr (.inr (.inl h)))));exact .inr (.inr (.inr (.inr (.inr (.inr (.inl h))))));exact .inr (.inr (.inr (.inr (.inr (.inr (.inr h))))))) (by rcases hC with rfl | rfl | rfl | rfl | rfl<;>exact fun h=>absurd (congrArg ByteArray.size h) Zh)
         simp only [List.length_cons,List.length_nil] at hrl
         rw [formB_C hQ hB hC] at hM
         have hy0: [y,z][0]?=some y:=rfl
         have hz1: [y,z][1]?=some z:=rfl
         refine zWX ?_;intros
         refine Wp.drawP [] (Hq:=[_,_]) T.mixed Zj Zj Zb ?_
         refine zW ?_;intros
         refine zI ir hy0 (fun p hp=>?_)
         refine zL hp ?_
         intro cs hcs
         obtain ⟨vy,rfl,hRy⟩:=Yh hcs
         refine zW ?_;intros
         refine zI ir hz1 (fun p2 hp2=>?_)
         refine zL hp2 ?_
         intro cs2 hcs2
         obtain ⟨vz,rfl,hRz⟩:=Yh hcs2
         refine Ye ?_
         refine Ye ?_
         refine Ye ?_
         refine Ye ?_
         refine Ye ?_
         refine Ye ?_
         refine PK.done ⟨by kernel_rfl,?_⟩
         refine Yb Zz Zz ?_
         refine Yd (Ym [] [_,_] Zz Zz Zz (Ykr hw (hrz y (by simp)).2 (hrz z (by simp)).2 hRy hRz) (fun r4 fz4 H4 hle4 hR4=>?_))
         obtain ⟨rfl,f4,cs4,hr4,hR4⟩:=hR4
         obtain ⟨v1,v2,v3,v4,rfl,hE4⟩:=YK hr4
         obtain ⟨B1,m1,d1,rfl,j1⟩:=hE4.args
         obtain ⟨B2,m2,d2,rfl,j2⟩:=hE4.params
         obtain ⟨B3,m3,d3,rfl,j3⟩:=hE4.exprs
         obtain ⟨B4,m4,d4,rfl,j4⟩:=hE4.kids
         obtain ⟨ev,rfl,hF⟩:∃ ev,r4=.tuple #[.agg #[.string f4.op,.string f4.name,.slice B1 m1 d1,.slice B2 m2 d2,.slice B3 m3 d3,.slice B4 m4 d4],ev]∧FrmR fz4 (YaU (d+1) x) ev [.string f4.op,.string f4.name,.slice B1 m1 d1,.slice B2 m2 d2,.slice B3 m3 d3,.slice B4 m4 d4]:=by
          rw [hM]
          cases hc4:cmpM w y z with
          | error c1=>
           rw [hc4] at hR4
           exact ⟨_,hR4.1,⟨_,_,_,_,_,_,_,_,_,_,_,_,_,_,rfl⟩,.inl ⟨c1,hR4.2,rfl,Yj hR4.2⟩⟩
          | ok f5=>
           rw [hc4] at hR4
           exact ⟨_,hR4.2,⟨_,_,_,_,_,_,_,_,_,_,_,_,_,_,rfl⟩,.inr ⟨f5,rfl,rfl,hR4.1 ▸ hr4⟩⟩
         refine ⟨(⟨hle4,Zp2⟩),?_⟩
         refine Yb Zz Zz ?_
         refine PoS.qk (⟨hle4,Zp2⟩) (X5 Zz ?_)
         refine YG Zz Zz Zz ?_ ?_
         ·refine PoS.qk (⟨hle4,Zp2⟩) (YY Zz Zz ?_)
          refine YG Zz Zz Zz ?_ ?_
          ·refine PoS.qk (⟨hle4,Zp2⟩) (YY Zz Zz ?_)
           refine Yb Zz Zz ?_
           refine PoS.hard0 Zj (YP T Zz Zz Zz Zz Zz Zz ?_)
           refine Yb Zz Zz ?_
           refine PoS.hard Zj (DoesQ.does (YJ Zz ?_))
           refine Po.done ?_
           refine zW ?_;intros
           exact midN ⟨_,_,rfl,hle4,rfl,hF⟩ Zw Zb
          ·refine PoS.hard0 Zj (YP T Zz Zz Zz Zz Zz Zz ?_)
           refine Yb Zz Zz ?_
           refine PoS.hard Zj (DoesQ.does (YY Zz Zz ?_))
           refine Yb Zz Zz ?_
           refine PoS.hard Zj (DoesQ.does (YJ Zz ?_))
           refine Po.done ?_
           refine zW ?_;intros
           exact midN ⟨_,_,rfl,hle4,rfl,hF⟩ Zw Zb
         ·refine PoS.qk (⟨hle4,Zp2⟩) (YY Zz Zz ?_)
          refine Yb Zz Zz ?_
          refine PoS.qk (⟨hle4,Zp2⟩) (YY Zz Zz ?_)
          refine Yb Zz Zz ?_
          refine PoS.hard0 Zj (YP T Zz Zz Zz Zz Zz Zz ?_)
          refine Yb Zz Zz ?_
          refine PoS.hard Zj (DoesQ.does (YJ Zz ?_))
          refine Po.done ?_
          refine zW ?_;intros
          exact midN ⟨_,_,rfl,hle4,rfl,hF⟩ Zw Zb
        | false=>
         rw [formB_N hQ hB (fun h=>absurd (hbC.2 h) Zh)] at hM
         refine zW ?_;intros
         refine zb (Wk hw) (fun f1=>?_) (fun f1=>?_)
         ·rw [if_pos (Zt f1)] at hM
          refine zW ?_;intros
          refine Ya Zz (Ym [] _ Zz Zz Zz (Yim ir Zi) (fun r2 fz2 H2 hle2 hR2=>?_))
          obtain ⟨rfl,hR2⟩:=hR2
          cases ht:Yao r with
          | error c1=>
           rw [ht] at hM hR2
           obtain ⟨rfl,hc⟩:=hR2
           rw [Yj hc]
           refine zW ?_;intros
           exact midN ⟨_,_,rfl,hle2,rfl,⟨_,_,_,_,_,_,_,_,_,_,_,_,_,_,rfl⟩,.inl ⟨c1,hc,hM,rfl⟩⟩ Zw Zb
          | ok a=>
           rw [ht] at hM hR2
           obtain ⟨A6,n6,c6,rfl,ia⟩:=hR2
           refine zW ?_;intros
           exact midN ⟨_,_,rfl,hle2,rfl,⟨_,_,_,_,_,_,_,_,_,_,_,_,_,_,rfl⟩,.inr ⟨_,hM,rfl,Yal (by unfold Short;decide) hw ⟨_,_,_,rfl,ia⟩ IsSl.nil IsSl.nil IsSl.nil⟩⟩ Zw Zb
         ·rw [if_neg (Zf f1)] at hM
          refine zW ?_;intros
          exact YQ T (vs:=[.agg #[.string ⟨#[]⟩,.string ⟨#[]⟩,.slice none 0 0,.slice none 0 0,.slice none 0 0,.slice none 0 0],.iface 65 (.int .i64 8)]) Zz ⟨⟨_,_,1,_,_,_,rfl,rfl,rfl,rfl,rfl,rfl⟩,rfl,trivial⟩ (fun fz3 hle3 hf3=>⟨rfl,ResL.err hM Zh Yaj⟩)
     ·rintro σ fz' H' ⟨ev,cs,rfl,hle,rfl,⟨a1,a2,B1,m1,d1,B2,m2,d2,B3,m3,d3,B4,m4,d4,rfl⟩,hF⟩
      rcases hF with ⟨c1,hc,hm,rfl⟩ | ⟨f,hm,rfl,hr⟩
      ·refine zW ?_;intros
       exact YQ T (vs:=[.agg #[.string ⟨#[]⟩,.string ⟨#[]⟩,.slice none 0 0,.slice none 0 0,.slice none 0 0,.slice none 0 0],.iface 65 (.int .i64 c1)]) Zz ⟨⟨_,_,1,_,_,_,rfl,rfl,rfl,rfl,rfl,rfl⟩,rfl,trivial⟩ (fun fz3 hle3 hf3=>⟨rfl,ResL.err hm hc Yaj⟩)
      ·refine zW ?_;intros
       exact YQ T (vs:=[.agg #[.string a1,.string a2,.slice B1 m1 d1,.slice B2 m2 d2,.slice B3 m3 d3,.slice B4 m4 d4],.nilIface]) Zz ⟨⟨_,_,1,_,_,_,rfl,rfl,rfl,rfl,rfl,rfl⟩,rfl,trivial⟩ (fun fz3 hle3 hf3=>⟨rfl,ResL.fine hm (Y1.mono hle3 hr)⟩)
theorem YhW {α:Type} {o l:List α} {x:Except Int (List α)} (h:exA o x=.ok l):∃ r,x=.ok r∧l=o++r:=by
 cases x with
 | error c=>cases h
 | ok r=>injection h with h;exact ⟨r,rfl,h.symm⟩
theorem YcZ:∀ {l:List Sexpr} {a:List Bs},Yao l=.ok a→a.length=l.length
 | [],a,h=>by rw [Yao] at h;injection h with h;subst h;rfl
 | x::r,a,h=>by
  rw [Yao] at h
  split at h
  ·cases h
  ·split at h
   ·cases h
   ·obtain ⟨b,h1,rfl⟩:=YhW h
    rw [List.length_append,YcZ h1,List.length_cons,List.length_cons,List.length_nil];omega
theorem Ycr {α β:Type} {f:α→Except Int β}:∀ {l:List α} {a:List β},mapE f l=.ok a→a.length=l.length∧∀ z∈a,∃ y∈l,f y=.ok z
 | [],a,h=>by rw [mapE] at h;injection h with h;subst h;exact ⟨rfl,fun z hz=>by cases hz⟩
 | x::r,a,h=>by
  rw [mapE] at h
  split at h
  ·cases h
  ·rename_i y hy
   obtain ⟨b,h1,rfl⟩:=YhW h
   obtain ⟨h2,h3⟩:=Ycr h1
   refine ⟨by rw [List.length_append,h2,List.length_cons,List.length_cons,List.length_nil];omega,fun z hz=>?_⟩
   rcases List.mem_append.1 hz with hz | hz
   ·simp at hz;subst hz;exact ⟨x,by simp,hy⟩
   ·obtain ⟨u,h4,h5⟩:=h3 z hz
    exact ⟨u,List.mem_cons_of_mem _ h4,h5⟩
theorem Ydz {b:Bool}:∀ {l:List Sexpr} {done:List Param} {opn:List Bs} {a:List Param},parM b l done opn=.ok a→a.length≤done.length+opn.length+l.length
 | [],done,opn,a,h=>by rw [parM] at h;injection h with h;subst h;simp [parT]
 | x::r,done,opn,a,h=>by
  rw [Yhw] at h
  split at h
  ·cases h
  ·split at h
   ·split at h
    ·cases h
    ·have:=Ydz h
     rw [List.length_append,List.length_singleton] at this
     rw [List.length_cons];omega
   ·match r,h with
    | [],h=>cases h
    | y::r',h=>
     simp only at h
     split at h
     ·cases h
     ·split at h
      ·cases h
      ·have:=Ydz h
       rw [List.length_append] at this
       simp only [parT,List.length_map,List.length_nil] at this
       simp only [List.length_cons];omega
theorem xsm_of:∀ (s:Nat) {x:Sexpr},SizeOf.sizeOf x≤s→xcount x≤4096→XSm x
 | 0,x,h,_=>by cases x;simp at h
 | s+1,x,h,hc=>by
  have e:=Xj x
  have:=X4 (l:=x.kids)
  refine Y8.2 ⟨by show x.kids.length≤1000000;omega,fun k hk=>?_⟩
  have:=Sexpr.kids_lt hk
  have:=XT hk
  exact xsm_of s Zi Zi
theorem XVal.sm {x:Sexpr} (h:XVal x):XSm x:=xsm_of _ (Zs _) h.2.2
theorem Yc5:∀ (d:Nat) {x:Sexpr} {e:Lx.Expr},XSm x→Yc7 d x=.ok e→ESm e
 | 0,x,e,_,h=>by cases h
 | d+1,x,e,hs,h=>by
  rw [YeH] at h
  split at h
  ·injection h with h;subst h;exact Yaa.2 ⟨by show 0≤_;omega,fun k hk=>by cases hk⟩
  ·split at h
   ·cases h
   ·rename_i w r hh
    have hl:=Wm hs hh
    split at h
    ·split at h
     ·cases h
     ·split at h
      ·cases h
      ·rename_i l hm
       injection h with h
       subst h
       obtain ⟨_,h2⟩:=Ycr hm
       refine Yaa.2 ⟨by show 0≤_;omega,fun k hk=>?_⟩
       obtain ⟨y,h3,h4⟩:=h2 k hk
       exact Yc5 d (X7 hs hh h3) h4
    ·split at h
     ·split at h
      ·cases h
      ·rename_i a hm
       injection h with h
       subst h
       refine Yaa.2 ⟨by show a.length≤_;rw [YcZ hm];omega,fun k hk=>by cases hk⟩
     ·cases h
variable {f:Formula}
theorem cmp_sm {w:Bs} {y z:Sexpr} (hy:XSm y) (hz:XSm z) (h:cmpM w y z=.ok f):FSm f:=by
 unfold cmpM at h
 split at h
 ·split at h
  ·cases h
  ·rename_i a hm
   injection h with h
   subst h
   have:=YcZ hm
   exact Wv.2 ⟨⟨by show a.length≤_;rw [this,List.length_cons,List.length_cons,List.length_nil];omega,by show 0≤_;omega,by show 0≤_;omega⟩,fun e he=>(by cases he),fun k hk=>by cases hk⟩
 ·split at h
  ·cases h
  ·rename_i a ha
   split at h
   ·cases h
   ·rename_i b hb
    injection h with h
    have h1:=Yc5 _ hy ha
    have h2:=Yc5 _ hz hb
    have key:∀ (v:Bs) (l:List Lx.Expr),(∀ e∈l,ESm e)→FSm (.mk v ⟨#[]⟩ [] [] l []):=fun v l hl=>Wv.2 ⟨⟨by show 0≤_;omega,by show 0≤_;omega,by show 0≤_;omega⟩,hl,fun k hk=>by cases hk⟩
    unfold cmpF2 at h
    split at h
    ·subst h;exact key _ _ (by intro e he;simp at he;rcases he with rfl | rfl;exact h2;exact h1)
    ·split at h
     ·subst h;exact key _ _ (by intro e he;simp at he;rcases he with rfl | rfl;exact h2;exact h1)
     ·subst h;exact key _ _ (by intro e he;simp at he;rcases he with rfl | rfl;exact h1;exact h2)
theorem Yec:∀ (d:Nat) {x:Sexpr} {f:Formula},XSm x→YaU d x=.ok f→FSm f
 | 0,x,f,_,h=>by cases h
 | d+1,x,f,hs,h=>by
  have zero:∀ (w v:Bs) (a:List Bs) (p:List Param) (k:List Formula),a.length≤1000000→p.length≤1000000→k.length≤1000000→(∀ y∈k,FSm y)→FSm (.mk w v a p [] k):=fun w v a p k h1 h2 h3 h4=>Wv.2 ⟨⟨by show a.length≤_;omega,by show p.length≤_;omega,by show k.length≤_;omega⟩,fun e he=>(by cases he),h4⟩
  rw [YeG] at h
  split at h
  ·injection h with h;subst h;exact zero _ _ _ _ _ Zh Zh Zh (fun y hy=>by cases hy)
  ·split at h
   ·cases h
   ·rename_i w r hh
    have hl:=Wm hs hh
    split at h
    ·cases h
    ·unfold YeX at h
     split at h
     ·split at h
      ·cases h
      ·rename_i y r' _
       split at h
       ·cases h
       ·split at h
        ·cases h
        ·rename_i ps hp
         split at h
         ·cases h
         ·rename_i ks hk
          injection h with h
          subst h
          obtain ⟨h1,h2⟩:=Ycr hk
          have h3:=Ydz hp
          have h4:=(Y8.1 (X7 hs hh (y:=y) (by simp))).1
          unfold XSmN at h4
          rw [List.length_cons] at hl
          refine zero _ _ _ _ _ Zh (by simpa using Nat.le_trans h3 (by simpa using h4)) Zi (fun u hu=>?_)
          obtain ⟨v,h5,h6⟩:=h2 u hu
          exact Yec d (X7 hs hh (List.mem_cons_of_mem _ h5)) h6
     ·split at h
      ·split at h
       ·cases h
       ·rename_i ks hk
        injection h with h
        subst h
        obtain ⟨h1,h2⟩:=Ycr hk
        refine zero _ _ _ _ _ Zh Zh Zi (fun u hu=>?_)
        obtain ⟨v,h5,h6⟩:=h2 u hu
        exact Yec d (X7 hs hh h5) h6
      ·split at h
       ·split at h
        ·rename_i y z
         exact cmp_sm (X7 hs hh (by simp)) (X7 hs hh (by simp)) h
        ·cases h
       ·split at h
        ·split at h
         ·cases h
         ·rename_i a ha
          injection h with h
          subst h
          exact zero _ _ _ _ _ (by rw [YcZ ha];omega) Zh Zh (fun y hy=>by cases hy)
        ·cases h
def pForm (x:Sexpr):Except Int Formula:=YaU (SizeOf.sizeOf x) x
def WN (x:Sexpr):Except Int Formula:=if XVal x then match pForm x with
 | .error c=>.error c
 | .ok f=>if FVal f then .ok f else .error 5
 else .error 2
def YeF (x:Sexpr):Except Int Lx.Expr:=if XVal x then match Yfq x with
 | .error c=>.error c
 | .ok e=>if EVal e then .ok e else .error 5
 else .error 2
variable {vk:Value}
set_option maxHeartbeats 4000000 in
theorem Yct {x:Sexpr} (hR:YW fz x vk):
 GFn prog 145 [.agg #[.int .i64 x.kind,.int .i64 x.value,.int .i64 x.line,.int .i64 x.column,.string x.text,vk]] fz [] (fun r fz' H'=>H'=[]∧ResL Y1 fz' (WN x) r):=by
 obtain ⟨A,n,c,rfl,ik⟩:=hR.kids
 have hM:WN x=if XVal x then match pForm x with
  | .error c=>.error c
  | .ok f=>if FVal f then .ok f else .error 5
 else .error 2:=rfl
 refine zF Tryz.func145 Tryz.ntmps145 (fun w0=>?_)
 refine zW ?_;intros
 refine zb (WH hR) (fun f1=>?_) (fun f1=>?_)
 ·have hv:=Zt f1
  rw [if_pos hv] at hM
  refine zW ?_;intros
  refine Ya Zz (Ym [] _ Zz Zz Zz (fparse_f _ _ _ _ (Zs _) hv.sm hR) (fun r4 fz4 H4 hle4 hR4=>?_))
  obtain ⟨rfl,f4,cs4,hr4,hR4⟩:=hR4
  obtain ⟨v1,v2,v3,v4,rfl,hE4⟩:=YK hr4
  obtain ⟨B1,m1,d1,rfl,j1⟩:=hE4.args
  obtain ⟨B2,m2,d2,rfl,j2⟩:=hE4.params
  obtain ⟨B3,m3,d3,rfl,j3⟩:=hE4.exprs
  obtain ⟨B4,m4,d4,rfl,j4⟩:=hE4.kids
  cases hp:YaU (SizeOf.sizeOf x) x with
  | error c1=>
   rw [hp] at hR4
   rw [show pForm x=.error c1 from hp] at hM
   obtain ⟨rfl,hc⟩:=hR4
   rw [Yj hc]
   refine zW ?_;intros
   exact YQ T (vs:=[.agg #[.string ⟨#[]⟩,.string ⟨#[]⟩,.slice none 0 0,.slice none 0 0,.slice none 0 0,.slice none 0 0],.iface 65 (.int .i64 c1)]) Zz ⟨⟨_,_,1,_,_,_,rfl,rfl,rfl,rfl,rfl,rfl⟩,rfl,trivial⟩ (fun fz3 hle3 hf3=>⟨rfl,ResL.err hM hc Yaj⟩)
  | ok f=>
   rw [hp] at hR4
   rw [show pForm x=.ok f from hp] at hM
   obtain ⟨rfl,rfl⟩:=hR4
   simp only at hM
   refine zW ?_;intros
   ((refine zG ?_);refine Wf Zz Zz (YjQ hE4 (Yec _ hv.sm hp)) (fun f2=>?_) (fun f2=>?_))
   ·rw [if_pos (Zt f2)] at hM
    refine zW ?_;intros
    exact YQ T (vs:=[.agg #[.string f.op,.string f.name,.slice B1 m1 d1,.slice B2 m2 d2,.slice B3 m3 d3,.slice B4 m4 d4],.nilIface]) Zz ⟨⟨_,_,1,_,_,_,rfl,rfl,rfl,rfl,rfl,rfl⟩,rfl,trivial⟩ (fun fz3 hle3 hf3=>⟨rfl,ResL.fine hM (Y1.mono hle3 hr4)⟩)
   ·rw [if_neg (Zf f2)] at hM
    refine zW ?_;intros
    exact YQ T (vs:=[.agg #[.string ⟨#[]⟩,.string ⟨#[]⟩,.slice none 0 0,.slice none 0 0,.slice none 0 0,.slice none 0 0],.iface 65 (.int .i64 5)]) Zz ⟨⟨_,_,1,_,_,_,rfl,rfl,rfl,rfl,rfl,rfl⟩,rfl,trivial⟩ (fun fz3 hle3 hf3=>⟨rfl,ResL.err hM Zh Yaj⟩)
 ·rw [if_neg (Zf f1)] at hM
  refine zW ?_;intros
  exact YQ T (vs:=[.agg #[.string ⟨#[]⟩,.string ⟨#[]⟩,.slice none 0 0,.slice none 0 0,.slice none 0 0,.slice none 0 0],.iface 65 (.int .i64 2)]) Zz ⟨⟨_,_,0,_,_,_,rfl,rfl,rfl,rfl,rfl,rfl⟩,rfl,trivial⟩ (fun fz3 hle3 hf3=>⟨rfl,ResL.err hM Zh Yaj⟩)
set_option maxHeartbeats 4000000 in
theorem eParse_f {x:Sexpr} (hR:YW fz x vk):
 GFn prog 240 [.agg #[.int .i64 x.kind,.int .i64 x.value,.int .i64 x.line,.int .i64 x.column,.string x.text,vk]] fz [] (fun r fz' H'=>H'=[]∧ResL exprL fz' (YeF x) r):=by
 obtain ⟨A,n,c,rfl,ik⟩:=hR.kids
 have hM:YeF x=if XVal x then match Yfq x with
  | .error c=>.error c
  | .ok f=>if EVal f then .ok f else .error 5
 else .error 2:=rfl
 refine zF Tryz.func240 Tryz.ntmps240 (fun w0=>?_)
 refine zW ?_;intros
 refine zb (WH hR) (fun f1=>?_) (fun f1=>?_)
 ·have hv:=Zt f1
  rw [if_pos hv] at hM
  refine zW ?_;intros
  refine Ya Zz (Ym [] _ Zz Zz Zz (YiA hv.sm hR) (fun r4 fz4 H4 hle4 hR4=>?_))
  obtain ⟨rfl,f4,cs4,hr4,hR4⟩:=hR4
  obtain ⟨v1,v2,rfl,hE4⟩:=YT hr4
  obtain ⟨B1,m1,d1,rfl,j1⟩:=hE4.args
  obtain ⟨B2,m2,d2,rfl,j2⟩:=hE4.kids
  cases hp:Yfq x with
  | error c1=>
   rw [hp] at hR4 hM
   obtain ⟨rfl,hc⟩:=hR4
   rw [Yj hc]
   refine zW ?_;intros
   exact YQ T (vs:=[.agg #[.string ⟨#[]⟩,.string ⟨#[]⟩,.int .i64 0,.slice none 0 0,.slice none 0 0],.iface 65 (.int .i64 c1)]) Zz ⟨⟨_,_,1,_,_,_,rfl,rfl,rfl,rfl,rfl,rfl⟩,rfl,trivial⟩ (fun fz3 hle3 hf3=>⟨rfl,ResL.err hM hc YaA⟩)
  | ok f=>
   rw [hp] at hR4 hM
   obtain ⟨rfl,rfl⟩:=hR4
   simp only at hM
   refine zW ?_;intros
   ((refine zG ?_);refine Wf Zz Zz (Yj0 hE4 (Yc5 _ hv.sm hp)) (fun f2=>?_) (fun f2=>?_))
   ·rw [if_pos (Zt f2)] at hM
    refine zW ?_;intros
    exact YQ T (vs:=[.agg #[.string f.op,.string f.name,.int .i64 f.n,.slice B1 m1 d1,.slice B2 m2 d2],.nilIface]) Zz ⟨⟨_,_,1,_,_,_,rfl,rfl,rfl,rfl,rfl,rfl⟩,rfl,trivial⟩ (fun fz3 hle3 hf3=>⟨rfl,ResL.fine hM (exprL.mono hle3 hr4)⟩)
   ·rw [if_neg (Zf f2)] at hM
    refine zW ?_;intros
    exact YQ T (vs:=[.agg #[.string ⟨#[]⟩,.string ⟨#[]⟩,.int .i64 0,.slice none 0 0,.slice none 0 0],.iface 65 (.int .i64 5)]) Zz ⟨⟨_,_,1,_,_,_,rfl,rfl,rfl,rfl,rfl,rfl⟩,rfl,trivial⟩ (fun fz3 hle3 hf3=>⟨rfl,ResL.err hM Zh YaA⟩)
 ·rw [if_neg (Zf f1)] at hM
  refine zW ?_;intros
  exact YQ T (vs:=[.agg #[.string ⟨#[]⟩,.string ⟨#[]⟩,.int .i64 0,.slice none 0 0,.slice none 0 0],.iface 65 (.int .i64 2)]) Zz ⟨⟨_,_,0,_,_,_,rfl,rfl,rfl,rfl,rfl,rfl⟩,rfl,trivial⟩ (fun fz3 hle3 hf3=>⟨rfl,ResL.err hM Zh YaA⟩)
theorem toList_inj {a b:Bs}:a.toList=b.toList↔a=b:=by
 constructor
 ·intro h
  rw [ByteArray.toList_eq,ByteArray.toList_eq] at h
  cases a;cases b
  simp only [ByteArray.mk.injEq]
  exact Array.toList_inj.1 h
 ·intro h;rw [h]
theorem eq_param (a b c d:Bs) (w:World):(Op.equalIn 10000 110 (.agg #[.string a,.string b]) (.agg #[.string c,.string d])).run prog w=.ok (decide (a=c∧b=d)) w:=by
 have u3:=Tryz.underlying9
 have a3:=Tryz.isAgg9
 have z3:=Tryz.sizeOf9
 have hS:prog.underlying 110=some (.struct (prog.fieldsOf 110)):=by kernel_rfl
 rw [show (10000:Nat)=9999+1 from rfl,run_equalIn_agg w 9999 110 _ _ hS Zj]
 simp only [Program.fieldsOf,Tryz.underlying110]
 go_simp
 by_cases h1:a=c<;>by_cases h2:b=d<;>simp [h1,h2,toList_inj]
variable {H:HP} {x y:Operand}
theorem Yez {cx:Cx} {r:Operand→Option Value} {V:Value→Prop} {dst:Option Nat} {ty t':TypeId} {pos:String} {af:Array Edge} {gd:Option (Nat × Bool)} {a b:Param} (hx:r x=some (.agg #[.string a.name,.string a.typ])) (hy:r y=some (.agg #[.string b.name,.string b.typ]))
 (ht:a≠b→V (.bool true)) (hf:a=b→V (.bool false)):DoesQ prog cx ⟨dst,.binOp .neq 110 x y t',ty,pos,af,gd⟩ r fz H V:=by
 have hab:a=b↔(a.name=b.name∧a.typ=b.typ):=by
  cases a;cases b;simp
 have hV:V (.bool (!decide (a.name=b.name∧a.typ=b.typ))):=by
  by_cases h:a=b
  ·rw [decide_eq_true (hab.1 h)];exact hf h
  ·rw [decide_eq_false (fun h0=>h (hab.2 h0))];exact ht h
 refine DoesQ.of hV fun ρ w hr hw=>?_
 have hg:=run_eqGuard_agg (P:=prog) w .neq 110 x y #[.string a.name,.string a.typ] #[.string b.name,.string b.typ] Zj
 have hb:=run_neq_struct (P:=prog) w 110 #[.string a.name,.string a.typ] #[.string b.name,.string b.typ]
 rw [eq_param,Result.andThen_ok] at hb
 have:(execOp ρ ⟨dst,.binOp .neq 110 x y t',ty,pos,af,gd⟩).run prog w=.ok (.value (.bool (!decide (a.name=b.name∧a.typ=b.typ)))) w:=by
  simp only [execOp,hr _ _ hx,hr _ _ hy,Sem.run_bind,hg,hb,Result.andThen_ok,Sem.run_pure]
 rw [this]
 exact ⟨rfl,Fr.refl _ _⟩
theorem Yco {α:Type} {l m:List α} (hl:l.length=m.length) (h:∀ i,i<l.length→∀ x,l[i]?=some x→m[i]?=some x):l=m:=by
 apply List.ext_getElem?
 intro i
 by_cases hi:i<l.length
 ·have hx:l[i]?=some l[i]:=List.getElem?_eq_getElem hi
  rw [hx,h i hi _ hx]
 ·rw [List.getElem?_eq_none Zi,List.getElem?_eq_none Zi]
variable {k:Nat}
theorem Ya2 {α:Type} {p:Nat→α→Prop} {l:List α} {x:α} (h:∀ i,i<k→∀ x,l[i]?=some x→p i x) (hx:l[k]?=some x) (hp:p k x):∀ i,i<k+1→∀ x,l[i]?=some x→p i x:=fun i hi y hy=>by
 by_cases he:i=k
 ·subst he;rw [hx] at hy;cases hy;exact hp
 ·exact h i Zi y hy
theorem Yj1 {fz:FZ} {A B:Option Addr} {n c m d:Nat} {l1 l2} (h1:Sl strL fz A n c l1) (h2:Sl strL fz B m d l2):
 QFn prog 148 [.slice A n c,.slice B m d] fz (.bool (decide (l1=l2))):=by
 refine GFn.quiet ?_
 have k1:=h1.len
 have k2:=h2.len
 have k3:=h1.short
 have k4:=h2.short
 refine zF Tryz.func148 Tryz.ntmps148 (fun w0=>?_)
 refine zW ?_;intros
 refine zC (fun c1=>?_) (fun c1=>?_)
 ·refine zW ?_;intros
  exact ret1 rfl rfl Zb (Yo (fun h=>c1 (by rw [← k1,← k2,h])))
 ·refine zW ?_;intros
  refine Yl (fun q σ fz' H'=>∃ k:Nat,k≤n∧q=n - k∧σ=[(13,.int .i64 k),(12,.int .i64 n),(0,.slice A n c),(1,.slice B m d)]∧fz=fz'∧H'=[]∧(∀ i,i<k→∀ x,l1[i]?=some x→l2[i]?=some x)) ⟨0,Z0 _,rfl,rfl,rfl,rfl,fun i hi=>absurd hi Zi⟩ Zw Zb ?_
  rintro q σ fz' H' ⟨k,hk,rfl,rfl,rfl,rfl,hh⟩
  refine zW ?_;intros
  refine zC (fun c2=>?_) (fun c2=>?_)
  ·obtain ⟨x,hx⟩:=Yn (l:=l1) (k:=k) Zi
   obtain ⟨y,hy⟩:=Yn (l:=l2) (k:=k) Zi
   refine zW ?_;intros
   refine zI h1 hx (fun a ha=>?_)
   refine zH ha (fun sx=>?_)
   refine zW ?_;intros
   refine zI h2 hy (fun b hb=>?_)
   refine zH hb (fun sy=>?_)
   refine zW ?_;intros
   refine zC (fun e1=>?_) (fun e1=>?_)
   ·refine zW ?_;intros
    exact ret1 rfl rfl Zb (Yo (fun h=>e1 (by rw [h,hy] at hx;exact (Option.some.inj hx).symm)))
   ·refine zW ?_;intros
    exact Yz ⟨k+1,by omega,rfl,rfl,rfl,rfl,Ya2 hh hx (by rw [hy,e1])⟩ Zi Zw Zb
  ·refine zW ?_;intros
   exact ret1 rfl rfl Zb (Yv (Yco Zi (fun i hi x hx=>hh i Zi x hx)))
theorem equalP_q {fz:FZ} {A B:Option Addr} {n c m d:Nat} {l1 l2} (h1:Sl paramL fz A n c l1) (h2:Sl paramL fz B m d l2):
 QFn prog 149 [.slice A n c,.slice B m d] fz (.bool (decide (l1=l2))):=by
 refine GFn.quiet ?_
 have k1:=h1.len
 have k2:=h2.len
 have k3:=h1.short
 have k4:=h2.short
 refine zF Tryz.func149 Tryz.ntmps149 (fun w0=>?_)
 refine zW ?_;intros
 refine zC (fun c1=>?_) (fun c1=>?_)
 ·refine zW ?_;intros
  exact ret1 rfl rfl Zb (Yo (fun h=>c1 (by rw [← k1,← k2,h])))
 ·refine zW ?_;intros
  refine Yl (fun q σ fz' H'=>∃ k:Nat,k≤n∧q=n - k∧σ=[(13,.int .i64 k),(12,.int .i64 n),(0,.slice A n c),(1,.slice B m d)]∧fz=fz'∧H'=[]∧(∀ i,i<k→∀ x,l1[i]?=some x→l2[i]?=some x)) ⟨0,Z0 _,rfl,rfl,rfl,rfl,fun i hi=>absurd hi Zi⟩ Zw Zb ?_
  rintro q σ fz' H' ⟨k,hk,rfl,rfl,rfl,rfl,hh⟩
  refine zW ?_;intros
  refine zC (fun c2=>?_) (fun c2=>?_)
  ·obtain ⟨x,hx⟩:=Yn (l:=l1) (k:=k) Zi
   obtain ⟨y,hy⟩:=Yn (l:=l2) (k:=k) Zi
   refine zW ?_;intros
   refine zI h1 hx (fun a ha=>?_)
   ((refine zL ha ?_;intro cs1 hcs1;obtain ⟨rfl,hR1⟩:=YV hcs1))
   refine zW ?_;intros
   refine zI h2 hy (fun b hb=>?_)
   ((refine zL hb ?_;intro cs2 hcs2;obtain ⟨rfl,hR2⟩:=YV hcs2))
   refine zW ?_;intros
   (((refine zG ?_);refine Yez Zz Zz (fun e1=>?_) (fun e1=>?_)))
   ·refine zW ?_;intros
    exact ret1 rfl rfl Zb (Yo (fun h=>e1 (by rw [h,hy] at hx;exact (Option.some.inj hx).symm)))
   ·refine zW ?_;intros
    exact Yz ⟨k+1,by omega,rfl,rfl,rfl,rfl,Ya2 hh hx (by rw [hy,e1])⟩ Zi Zw Zb
  ·refine zW ?_;intros
   exact ret1 rfl rfl Zb (Yv (Yco Zi (fun i hi x hx=>hh i Zi x hx)))
variable {B:Option Addr}
theorem eqfE_q {m d:Nat} {l1 l2:List Lx.Expr} {ff:FuncId} (h1:Sl exprL fz A n c l1) (h2:Sl exprL fz B m d l2) (hq:∀ x y cs ds,x∈l1→exprL.rep fz x cs→exprL.rep fz y ds→QFn prog ff [.agg (List.toArray cs),.agg (List.toArray ds)] fz (.bool (decide (x=y)))):
 QFn prog 150 [.slice A n c,.slice B m d,.func (.func ff) #[] #[]] fz (.bool (decide (l1=l2))):=by
 refine GFn.quiet ?_
 have k1:=h1.len
 have k2:=h2.len
 have k3:=h1.short
 have k4:=h2.short
 refine zF Tryz.func150 Tryz.ntmps150 (fun w0=>?_)
 refine zW ?_;intros
 refine zC (fun c1=>?_) (fun c1=>?_)
 ·refine zW ?_;intros
  exact ret1 rfl rfl Zb (Yo (fun h=>c1 (by rw [← k1,← k2,h])))
 ·refine zW ?_;intros
  refine Yl (fun q σ fz' H'=>∃ k:Nat,k≤n∧q=n - k∧σ=[(17,.int .i64 k),(16,.int .i64 n),(15,.slice A n c),(2,.func (.func ff) #[] #[]),(1,.slice B m d)]∧fz=fz'∧H'=[]∧(∀ i,i<k→∀ x,l1[i]?=some x→l2[i]?=some x)) ⟨0,Z0 _,rfl,rfl,rfl,rfl,fun i hi=>absurd hi Zi⟩ Zw Zb ?_
  rintro q σ fz' H' ⟨k,hk,rfl,rfl,rfl,rfl,hh⟩
  refine zW ?_;intros
  refine zC (fun c2=>?_) (fun c2=>?_)
  ·obtain ⟨x,hx⟩:=Yn (l:=l1) (k:=k) Zi
   obtain ⟨y,hy⟩:=Yn (l:=l2) (k:=k) Zi
   refine zW ?_;intros
   refine zI h1 hx (fun a ha=>?_)
   refine zL ha ?_
   intro cs1 hcs1
   have hq1:=fun y ds=>hq x y cs1 ds (Zm hx) hcs1
   obtain ⟨u1,u2,rfl,hR1⟩:=YT hcs1
   ((obtain ⟨A1,n1,c1',rfl,ia1⟩:=hR1.args;obtain ⟨A2,n2,c2',rfl,ik1⟩:=hR1.kids))
   refine zW ?_;intros
   refine zI h2 hy (fun b hb=>?_)
   refine zL hb ?_
   intro cs2 hcs2
   have hq2:=hq1 y cs2 hcs2
   obtain ⟨w1,w2,rfl,hR2⟩:=YT hcs2
   ((obtain ⟨A3,n3,c3',rfl,ia2⟩:=hR2.args;obtain ⟨A4,n4,c4',rfl,ik2⟩:=hR2.kids))
   refine zW ?_;intros
   ((refine zG ?_);refine WQ Zz Zz Zz hq2 (fun e1=>?_) (fun e1=>?_))
   ·refine zW ?_;intros
    exact Yz ⟨k+1,by omega,rfl,rfl,rfl,rfl,Ya2 hh hx (by rw [hy,e1])⟩ Zi Zw Zb
   ·refine zW ?_;intros
    exact ret1 rfl rfl Zb (Yo (fun h=>e1 (by rw [h,hy] at hx;exact (Option.some.inj hx).symm)))
  ·refine zW ?_;intros
   exact ret1 rfl rfl Zb (Yv (Yco Zi (fun i hi x hx=>hh i Zi x hx)))
theorem eqfF_q {m d:Nat} {l1 l2:List Lx.Formula} {ff:FuncId} (h1:Sl Y1 fz A n c l1) (h2:Sl Y1 fz B m d l2) (hq:∀ x y cs ds,x∈l1→Y1.rep fz x cs→Y1.rep fz y ds→QFn prog ff [.agg (List.toArray cs),.agg (List.toArray ds)] fz (.bool (decide (x=y)))):
 QFn prog 152 [.slice A n c,.slice B m d,.func (.func ff) #[] #[]] fz (.bool (decide (l1=l2))):=by
 refine GFn.quiet ?_
 have k1:=h1.len
 have k2:=h2.len
 have k3:=h1.short
 have k4:=h2.short
 refine zF Tryz.func152 Tryz.ntmps152 (fun w0=>?_)
 refine zW ?_;intros
 refine zC (fun c1=>?_) (fun c1=>?_)
 ·refine zW ?_;intros
  exact ret1 rfl rfl Zb (Yo (fun h=>c1 (by rw [← k1,← k2,h])))
 ·refine zW ?_;intros
  refine Yl (fun q σ fz' H'=>∃ k:Nat,k≤n∧q=n - k∧σ=[(17,.int .i64 k),(16,.int .i64 n),(15,.slice A n c),(2,.func (.func ff) #[] #[]),(1,.slice B m d)]∧fz=fz'∧H'=[]∧(∀ i,i<k→∀ x,l1[i]?=some x→l2[i]?=some x)) ⟨0,Z0 _,rfl,rfl,rfl,rfl,fun i hi=>absurd hi Zi⟩ Zw Zb ?_
  rintro q σ fz' H' ⟨k,hk,rfl,rfl,rfl,rfl,hh⟩
  refine zW ?_;intros
  refine zC (fun c2=>?_) (fun c2=>?_)
  ·obtain ⟨x,hx⟩:=Yn (l:=l1) (k:=k) Zi
   obtain ⟨y,hy⟩:=Yn (l:=l2) (k:=k) Zi
   refine zW ?_;intros
   refine zI h1 hx (fun a ha=>?_)
   refine zL ha ?_
   intro cs1 hcs1
   have hq1:=fun y ds=>hq x y cs1 ds (Zm hx) hcs1
   obtain ⟨u1,u2,u3,u4,rfl,hR1⟩:=YK hcs1
   ((obtain ⟨A1,n1,c1',rfl,ia1⟩:=hR1.args;obtain ⟨A2,n2,c2',rfl,ip1⟩:=hR1.params;obtain ⟨A3,n3,c3',rfl,ie1⟩:=hR1.exprs;obtain ⟨A4,n4,c4',rfl,ik1⟩:=hR1.kids))
   refine zW ?_;intros
   refine zI h2 hy (fun b hb=>?_)
   refine zL hb ?_
   intro cs2 hcs2
   have hq2:=hq1 y cs2 hcs2
   obtain ⟨w1,w2,w3,w4,rfl,hR2⟩:=YK hcs2
   ((obtain ⟨A5,n5,c5',rfl,ia2⟩:=hR2.args;obtain ⟨A6,n6,c6',rfl,ip2⟩:=hR2.params;obtain ⟨A7,n7,c7',rfl,ie2⟩:=hR2.exprs;obtain ⟨A8,n8,c8',rfl,ik2⟩:=hR2.kids))
   refine zW ?_;intros
   ((refine zG ?_);refine WQ Zz Zz Zz hq2 (fun e1=>?_) (fun e1=>?_))
   ·refine zW ?_;intros
    exact Yz ⟨k+1,by omega,rfl,rfl,rfl,rfl,Ya2 hh hx (by rw [hy,e1])⟩ Zi Zw Zb
   ·refine zW ?_;intros
    exact ret1 rfl rfl Zb (Yo (fun h=>e1 (by rw [h,hy] at hx;exact (Option.some.inj hx).symm)))
  ·refine zW ?_;intros
   exact ret1 rfl rfl Zb (Yv (Yco Zi (fun i hi x hx=>hh i Zi x hx)))
theorem Ycu {a b:Lx.Expr}:a=b↔a.op=b.op∧a.name=b.name∧a.n=b.n∧a.args=b.args∧a.kids=b.kids:=by
 cases a;cases b;simp only [Lx.Expr.op,Lx.Expr.name,Lx.Expr.n,Lx.Expr.args,Lx.Expr.kids,Lx.Expr.mk.injEq]
theorem YbW {a b:Formula}:a=b↔a.op=b.op∧a.name=b.name∧a.args=b.args∧a.params=b.params∧a.exprs=b.exprs∧a.kids=b.kids:=by
 cases a;cases b;simp only [Formula.op,Formula.name,Formula.args,Formula.params,Formula.exprs,Formula.kids,Formula.mk.injEq]
theorem YfF:∀ (s:Nat) {fz:FZ} {a b:Lx.Expr} {va vk wa wk:Value},SizeOf.sizeOf a≤s→ExprR fz a va vk→ExprR fz b wa wk→
 QFn prog 151 [.agg #[.string a.op,.string a.name,.int .i64 a.n,va,vk],.agg #[.string b.op,.string b.name,.int .i64 b.n,wa,wk]] fz (.bool (decide (a=b)))
 | 0,_,e,_,_,_,_,_,hs,_,_=>by cases e;simp at hs
 | s+1,fz,a,b,va,vk,wa,wk,hs,hR1,hR2=>by
  refine GFn.quiet ?_
  ((obtain ⟨A1,n1,c1',rfl,ia1⟩:=hR1.args;obtain ⟨A2,n2,c2',rfl,ik1⟩:=hR1.kids))
  ((obtain ⟨A3,n3,c3',rfl,ia2⟩:=hR2.args;obtain ⟨A4,n4,c4',rfl,ik2⟩:=hR2.kids))
  refine zF Tryz.func151 Tryz.ntmps151 (fun w0=>?_)
  refine Yk (Yr (Ya Zz (Xc _ Zz Zz (fun g0=>?_))))
  refine Ya Zz (Xc _ Zz Zz (fun g1=>?_))
  refine zW ?_;intros
  (((refine zC (fun e1=>?_) (fun e1=>?_));rotate_left 1;((refine zW ?_;intros);(exact ret1 rfl rfl Zb (Yo (fun h=>e1 (Ycu.1 h).1))));(refine zW ?_;intros)))
  (((refine zC (fun e2=>?_) (fun e2=>?_));rotate_left 1;((refine zW ?_;intros);(exact ret1 rfl rfl Zb (Yo (fun h=>e2 (Ycu.1 h).2.1))));(refine zW ?_;intros)))
  (((refine zC (fun e3=>?_) (fun e3=>?_));rotate_left 1;((refine zW ?_;intros);(exact ret1 rfl rfl Zb (Yo (fun h=>e3 (Ycu.1 h).2.2.1))));(refine zW ?_;intros)))
  refine zb (Yj1 ia1 ia2) (fun f1=>?_) (fun f1=>?_)
  ·refine zW ?_;intros
   ((refine zG ?_);refine Wf Zz Zz (eqfE_q ik1 ik2 (fun x y cs ds hx h1 h2=>by
    obtain ⟨u1,u2,rfl,h3⟩:=YT h1
    obtain ⟨w1,w2,rfl,h4⟩:=YT h2
    exact YfF s (by have:=Lx.Expr.kids_lt hx;omega) h3 h4)) (fun f2=>?_) (fun f2=>?_))
   ·refine zW ?_;intros
    exact ret1 rfl rfl Zb (Yv (Ycu.2 ⟨e1,e2,e3,Zt f1,Zt f2⟩))
   ·refine zW ?_;intros
    exact ret1 rfl rfl Zb (Yo (fun h=>Zf f2 (Ycu.1 h).2.2.2.2))
  ·refine zW ?_;intros
   exact ret1 rfl rfl Zb (Yo (fun h=>Zf f1 (Ycu.1 h).2.2.2.1))
theorem same_f:∀ (s:Nat) {fz:FZ} {a b:Formula} {va vp ve vk wa wp we wk:Value},SizeOf.sizeOf a≤s→FormulaR fz a va vp ve vk→FormulaR fz b wa wp we wk→
 QFn prog 103 [.agg #[.string a.op,.string a.name,va,vp,ve,vk],.agg #[.string b.op,.string b.name,wa,wp,we,wk]] fz (.bool (decide (a=b)))
 | 0,_,e,_,_,_,_,_,_,_,_,_,hs,_,_=>by cases e;simp at hs
 | s+1,fz,a,b,va,vp,ve,vk,wa,wp,we,wk,hs,hR1,hR2=>by
  refine GFn.quiet ?_
  ((obtain ⟨A1,n1,c1',rfl,ia1⟩:=hR1.args;obtain ⟨A2,n2,c2',rfl,ip1⟩:=hR1.params;obtain ⟨A3,n3,c3',rfl,ie1⟩:=hR1.exprs;obtain ⟨A4,n4,c4',rfl,ik1⟩:=hR1.kids))
  ((obtain ⟨A5,n5,c5',rfl,ia2⟩:=hR2.args;obtain ⟨A6,n6,c6',rfl,ip2⟩:=hR2.params;obtain ⟨A7,n7,c7',rfl,ie2⟩:=hR2.exprs;obtain ⟨A8,n8,c8',rfl,ik2⟩:=hR2.kids))
  refine zF Tryz.func103 Tryz.ntmps103 (fun w0=>?_)
  refine Yk (Yr (Ya Zz (Xc _ Zz Zz (fun g0=>?_))))
  refine Ya Zz (Xc _ Zz Zz (fun g1=>?_))
  refine zW ?_;intros
  (((refine zC (fun e1=>?_) (fun e1=>?_));rotate_left 1;((refine zW ?_;intros);(exact ret1 rfl rfl Zb (Yo (fun h=>e1 (YbW.1 h).1))));(refine zW ?_;intros)))
  (((refine zC (fun e2=>?_) (fun e2=>?_));rotate_left 1;((refine zW ?_;intros);(exact ret1 rfl rfl Zb (Yo (fun h=>e2 (YbW.1 h).2.1))));(refine zW ?_;intros)))
  refine zb (Yj1 ia1 ia2) (fun f1=>?_) (fun f1=>?_)
  ·refine zW ?_;intros
   refine zb (equalP_q ip1 ip2) (fun f2=>?_) (fun f2=>?_)
   ·refine zW ?_;intros
    ((refine zG ?_);refine Wf Zz Zz (eqfE_q ie1 ie2 (fun x y cs ds hx h1 h2=>by
     obtain ⟨u1,u2,rfl,h3⟩:=YT h1
     obtain ⟨w1,w2,rfl,h4⟩:=YT h2
     exact YfF _ (Zs _) h3 h4)) (fun f3=>?_) (fun f3=>?_))
    ·refine zW ?_;intros
     ((refine zG ?_);refine Wf Zz Zz (eqfF_q ik1 ik2 (fun x y cs ds hx h1 h2=>by
      obtain ⟨u1,u2,u3,u4,rfl,h3⟩:=YK h1
      obtain ⟨w1,w2,w3,w4,rfl,h4⟩:=YK h2
      exact same_f s (by have:=Formula.kids_lt hx;omega) h3 h4)) (fun f4=>?_) (fun f4=>?_))
     ·refine zW ?_;intros
      exact ret1 rfl rfl Zb (Yv (YbW.2 ⟨e1,e2,Zt f1,Zt f2,Zt f3,Zt f4⟩))
     ·refine zW ?_;intros
      exact ret1 rfl rfl Zb (Yo (fun h=>Zf f4 (YbW.1 h).2.2.2.2.2))
    ·refine zW ?_;intros
     exact ret1 rfl rfl Zb (Yo (fun h=>Zf f3 (YbW.1 h).2.2.2.2.1))
   ·refine zW ?_;intros
    exact ret1 rfl rfl Zb (Yo (fun h=>Zf f2 (YbW.1 h).2.2.2.1))
  ·refine zW ?_;intros
   exact ret1 rfl rfl Zb (Yo (fun h=>Zf f1 (YbW.1 h).2.2.1))
variable {va ve vp:Value}
theorem Yew {a b:Formula} {wa wp we wk:Value} (hR1:FormulaR fz a va vp ve vk) (hR2:FormulaR fz b wa wp we wk):
 QFn prog 103 [.agg #[.string a.op,.string a.name,va,vp,ve,vk],.agg #[.string b.op,.string b.name,wa,wp,we,wk]] fz (.bool (decide (a=b))):=same_f _ (Zs _) hR1 hR2
def XJ:Formula:=.mk kAnd ⟨#[]⟩ [] [] [] []
theorem Yb5:FormulaR fz XJ (.slice none 0 0) (.slice none 0 0) (.slice none 0 0) (.slice none 0 0):=⟨by unfold Short XJ;decide,Xq,IsSl.nil,IsSl.nil,IsSl.nil,IsSl.nil⟩
def Ycw:Value:=.agg #[.string kAnd,.string ⟨#[]⟩,.slice none 0 0,.slice none 0 0,.slice none 0 0,.slice none 0 0]
theorem WU:QFn prog 104 [] fz Ycw:=by
 refine GFn.quiet ?_
 refine zF Tryz.func104 Tryz.ntmps104 (fun w0=>?_)
 refine zW ?_;intros
 exact WD T (i:=0) rfl Zz Zz Zz Zz Zz (fun _ hi=>⟨_,[],hi.forget (List.nil_sublist _),rfl⟩)
theorem YhV:ExprR fz (.mk ⟨#[]⟩ ⟨#[]⟩ 0 [] []) (.slice none 0 0) (.slice none 0 0):=⟨Xq,Xq,X6,IsSl.nil,IsSl.nil⟩
theorem Yfe {a b:Lx.Expr} {wa wk:Value} (hR1:ExprR fz a va vk) (hR2:ExprR fz b wa wk):
 QFn prog 190 [.agg #[.string a.op,.string a.name,.int .i64 a.n,va,vk],.agg #[.string b.op,.string b.name,.int .i64 b.n,wa,wk]] fz (.bool (decide (a=b))):=by
 refine GFn.quiet ?_
 ((obtain ⟨A1,n1,c1',rfl,ia1⟩:=hR1.args;obtain ⟨A2,n2,c2',rfl,ik1⟩:=hR1.kids))
 ((obtain ⟨A3,n3,c3',rfl,ia2⟩:=hR2.args;obtain ⟨A4,n4,c4',rfl,ik2⟩:=hR2.kids))
 refine zF Tryz.func190 Tryz.ntmps190 (fun w0=>?_)
 refine Yk (Yr (Ya Zz (Xc _ Zz Zz (fun g0=>?_))))
 refine Ya Zz (Xc _ Zz Zz (fun g1=>?_))
 refine zW ?_;intros
 refine Ya Zz (Yc T (cs:=[.string a.op,.string a.name,.int .i64 a.n,.slice A1 n1 c1',.slice A2 n2 c2']) Zz Zz Zz Zz Zz Zz Zz Zz (fun gA=>?_))
 refine zW ?_;intros
 refine Ya Zz (Yc T (cs:=[.string b.op,.string b.name,.int .i64 b.n,.slice A3 n3 c3',.slice A4 n4 c4']) Zz Zz Zz Zz Zz Zz Zz Zz (fun gB=>?_))
 refine zW ?_;intros
 first | refine Wp.freeze Zz (fun fz1 hl1 hg1=>?_) | refine Seq.freeze Zz (fun fz1 hl1 hg1=>?_)
 first | refine Wp.freeze Zz (fun fz2 hl2 hg2=>?_) | refine Seq.freeze Zz (fun fz2 hl2 hg2=>?_)
 have s1:Sl exprL fz2 (some ⟨gA,0,none⟩) 1 1 [a]:=Xt (ys:=[(a,_)]) hg2 (by simp;rfl) rfl (by simpa using YdK (hR1.mono (hl1.trans hl2))) rfl Zh
 have s2:Sl exprL fz2 (some ⟨gB,0,none⟩) 1 1 [b]:=Xt (ys:=[(b,_)]) (hl2 _ _ hg1) (by simp;rfl) rfl (by simpa using YdK (hR2.mono (hl1.trans hl2))) rfl Zh
 ((refine zG ?_);refine Yw Zz Zz (Yew (a:=.mk ⟨#[]⟩ ⟨#[]⟩ [] [] [a] []) (b:=.mk ⟨#[]⟩ ⟨#[]⟩ [] [] [b] []) ⟨Xq,Xq,IsSl.nil,IsSl.nil,s1.is,IsSl.nil⟩ ⟨Xq,Xq,IsSl.nil,IsSl.nil,s2.is,IsSl.nil⟩) ?_)
 refine zW ?_;intros
 exact zR (h:=by simp)
def wrO (b:Bool):Obj:=.cells #[.bool b] 126 (0,0)
def MkR (g:Nat) (b:Bool) (P:Prop) (x:Sexpr) (fz:FZ) (v:Value) (fz':FZ) (H':HP):Prop:=Le fz fz'∧∃ (b':Bool) (y:Sexpr),H'=[(g,wrO b')]∧SxIs fz' v y∧(b'=false↔b=false∧P)∧(b'=false→y=x)
variable {g:Nat}
theorem YbC {b:Bool} {s:Bs} (hs:Short s):GFn prog 48 [.pointer (some ⟨g,0,none⟩),.string s] fz [(g,wrO b)] (fun v fz' H'=>Le fz fz'∧v=sxV 1 0 s (.slice none 0 0)∧∃ b':Bool,H'=[(g,wrO b')]∧(b'=false↔b=false∧Y5 s)):=by
 unfold wrO
 refine zF Tryz.func48 Tryz.ntmps48 (fun w0=>?_)
 cases b
 ·refine zW ?_;intros
  refine zb (Wk hs) (fun f1=>?_) (fun f1=>?_)
  ·refine zW ?_;intros
   refine zc (WY (s:=s)) ?_
   unfold sxV
   refine zW ?_;intros
   refine W6 T (i:=0) (H':=[(g,wrO false)]) rfl Zz Zz Zz Zz Zz Zb ?_
   exact ⟨Le.refl _,rfl,false,rfl,iff_of_true rfl ⟨rfl,Zt f1⟩⟩
  ·refine zW ?_;intros
   refine zc (WY (s:=s)) ?_
   unfold sxV
   refine zW ?_;intros
   refine W6 T (i:=0) (H':=[(g,wrO true)]) rfl Zz Zz Zz Zz Zz Zb ?_
   exact ⟨Le.refl _,rfl,true,rfl,iff_of_false (by simp) (fun h=>Zf f1 h.2)⟩
 ·refine zW ?_;intros
  refine zc (WY (s:=s)) ?_
  unfold sxV
  refine zW ?_;intros
  refine W6 T (i:=0) (H':=[(g,wrO true)]) rfl Zz Zz Zz Zz Zz Zb ?_
  exact ⟨Le.refl _,rfl,true,rfl,iff_of_false (by simp) (fun h=>by cases h.1)⟩
def Wz (vars:Bool) (p:Param):Prop:=(if vars=true then VarP p.name else Y5 p.name)∧YcE p.typ
set_option maxHeartbeats 1000000 in
theorem W4 {b vars:Bool} {l:List Param} (h1:Sl paramL fz A n c l) (hn:n≤1000000000):
 GFn prog 50 [.pointer (some ⟨g,0,none⟩),.slice A n c,.bool vars] fz [(g,wrO b)] (fun v fz' H'=>Le fz fz'∧(∃ B cc,v=.slice B (3*n) cc∧Sl Yy fz' B (3*n) cc ((l.flatMap W2).map Yi))∧∃ b':Bool,H'=[(g,wrO b')]∧(b'=false↔b=false∧∀ p∈l,Wz vars p)):=by
 have l1:=h1.len
 refine zF Tryz.func50 Tryz.ntmps50 (fun w0=>?_)
 refine zW ?_;intros
 refine Yl (fun q σ fz' H'=>∃ (k:Nat) (b':Bool),k≤n∧q=n - k∧σ=[(12,.int .i64 k),(11,.int .i64 n),(10,.slice A n c),(2,.bool vars),(1,.slice A n c),(0,.pointer (some ⟨g,0,none⟩))]∧fz=fz'∧H'=[(g,wrO b')]∧(b'=false↔b=false∧∀ i,i<k→∀ p,l[i]?=some p→Wz vars p)) ⟨0,b,Z0 _,rfl,rfl,rfl,rfl,⟨fun h=>⟨h,fun i hi=>absurd hi Zi⟩,fun h=>h.1⟩⟩ Zw Zb ?_
 rintro q σ fz' H' ⟨k,b',hk,rfl,rfl,rfl,rfl,hb⟩
 refine zW ?_;intros
 refine zC (fun c1=>?_) (fun c1=>?_)
 ·obtain ⟨x,hx⟩:=Yn (l:=l) (k:=k) Zi
  have step:∀ b2:Bool,(b2=false↔b'=false∧Wz vars x)→(b2=false↔b=false∧∀ i,i<k+1→∀ p,l[i]?=some p→Wz vars p):=fun b2 h=>by
   rw [h,hb]
   exact ⟨fun h0=>⟨h0.1.1,YL h0.1.2 hx h0.2⟩,fun h0=>⟨⟨h0.1,fun i hi=>h0.2 i Zi⟩,h0.2 k Zi x hx⟩⟩
  refine zW ?_;intros
  refine zI h1 hx (fun p hp=>?_)
  refine zL hp ?_
  intro cs hcs
  obtain ⟨rfl,hR⟩:=YV hcs
  cases vars
  ·refine zW ?_;intros
   rename_i g5
   refine zb (Wk hR.name) (fun f1=>?_) (fun f1=>?_)
   ·refine zW ?_;intros
    cases b'
    ·refine zW ?_;intros
     refine zC (fun e1=>?_) (fun e1=>?_)
     ·refine zW ?_;intros
      refine zb (Wk hR.typ) (fun f2=>?_) (fun f2=>?_)
      ·refine zW ?_;intros
       exact Yz ⟨k+1,false,by omega,rfl,rfl,rfl,rfl,step false (iff_of_true rfl ⟨rfl,Zt f1,.inl (Zt f2)⟩)⟩ Zi Zw Zb
      ·refine zW ?_;intros
       exact Yz ⟨k+1,true,by omega,rfl,rfl,rfl,rfl,step true (iff_of_false (by simp) (fun h=>h.2.2.elim (Zf f2) e1))⟩ Zi Zw Zb
     ·refine zW ?_;intros
      exact Yz ⟨k+1,false,by omega,rfl,rfl,rfl,rfl,step false (iff_of_true rfl ⟨rfl,Zt f1,.inr e1⟩)⟩ Zi Zw Zb
    ·refine zW ?_;intros
     exact Yz ⟨k+1,true,by omega,rfl,rfl,rfl,rfl,step true (iff_of_false (by simp) (fun h=>by cases h.1))⟩ Zi Zw Zb
   ·refine zW ?_;intros
    cases b'
    ·refine zW ?_;intros
     exact Yz ⟨k+1,true,by omega,rfl,rfl,rfl,rfl,step true (iff_of_false (by simp) (fun h=>Zf f1 h.2.1))⟩ Zi Zw Zb
    ·refine zW ?_;intros
     exact Yz ⟨k+1,true,by omega,rfl,rfl,rfl,rfl,step true (iff_of_false (by simp) (fun h=>by cases h.1))⟩ Zi Zw Zb
  ·refine zW ?_;intros
   rename_i g5
   refine zc (Wk hR.name) ?_
   refine zW ?_;intros
   refine zb (Ybr hR.name) (fun f1=>?_) (fun f1=>?_)
   ·refine zW ?_;intros
    cases b'
    ·refine zW ?_;intros
     refine zC (fun e1=>?_) (fun e1=>?_)
     ·refine zW ?_;intros
      refine zb (Wk hR.typ) (fun f2=>?_) (fun f2=>?_)
      ·refine zW ?_;intros
       exact Yz ⟨k+1,false,by omega,rfl,rfl,rfl,rfl,step false (iff_of_true rfl ⟨rfl,Zt f1,.inl (Zt f2)⟩)⟩ Zi Zw Zb
      ·refine zW ?_;intros
       exact Yz ⟨k+1,true,by omega,rfl,rfl,rfl,rfl,step true (iff_of_false (by simp) (fun h=>h.2.2.elim (Zf f2) e1))⟩ Zi Zw Zb
     ·refine zW ?_;intros
      exact Yz ⟨k+1,false,by omega,rfl,rfl,rfl,rfl,step false (iff_of_true rfl ⟨rfl,Zt f1,.inr e1⟩)⟩ Zi Zw Zb
    ·refine zW ?_;intros
     exact Yz ⟨k+1,true,by omega,rfl,rfl,rfl,rfl,step true (iff_of_false (by simp) (fun h=>by cases h.1))⟩ Zi Zw Zb
   ·refine zW ?_;intros
    cases b'
    ·refine zW ?_;intros
     exact Yz ⟨k+1,true,by omega,rfl,rfl,rfl,rfl,step true (iff_of_false (by simp) (fun h=>Zf f1 h.2.1))⟩ Zi Zw Zb
    ·refine zW ?_;intros
     exact Yz ⟨k+1,true,by omega,rfl,rfl,rfl,rfl,step true (iff_of_false (by simp) (fun h=>by cases h.1))⟩ Zi Zw Zb
 ·have hk1:k=n:=by omega
  subst hk1
  refine zW ?_;intros
  refine Ya Zz (Ym [] _ Zz Zz Zz (Yc6 h1 hn) (fun v2 fz2 H2 hle2 hR2=>?_))
  obtain ⟨rfl,B2,cc2,rfl,hsl2⟩:=hR2
  refine zW ?_;intros
  exact ret1 rfl rfl Zb ⟨hle2,⟨B2,cc2,rfl,hsl2⟩,b',rfl,by rw [hb];exact ⟨fun h=>⟨h.1,Xs h.2 Zi⟩,fun h=>⟨h.1,fun i _ p hp=>h.2 p (Zm hp)⟩⟩⟩
theorem Ybq {b:Bool} (h:FormulaR fz f va vp ve vk) (hs:FSm f):GFn prog 105 [.pointer (some ⟨g,0,none⟩),.agg #[.string f.op,.string f.name,va,vp,ve,vk]] fz [(g,wrO b)] (MkR g b (FVal f) (Xh f) fz):=by
 obtain ⟨A,n,ca,rfl,ha⟩:=h.args
 obtain ⟨B,m,cb,rfl,hp⟩:=h.params
 obtain ⟨C,r,cr,rfl,he⟩:=h.exprs
 obtain ⟨D,q,cq,rfl,hk⟩:=h.kids
 refine zF Tryz.func105 Tryz.ntmps105 (fun w0=>?_)
 refine Yk (Yr (Ya Zz (Xc _ Zz Zz (fun g0=>?_))))
 refine zW ?_;intros
 rename_i g1
 refine Ya Zz (Ym [] _ Zz Zz Zz (YjW h hs) (fun v6 fz6 H6 hle6 hR6=>?_))
 obtain ⟨rfl,u,y,rfl,⟨cs,rfl,hr⟩,hyx⟩:=hR6
 obtain ⟨vk6,rfl,hX⟩:=Yh hr
 obtain ⟨A6,n6,b6,rfl,_⟩:=hX.kids
 by_cases hP:FVal f
 ·rw [if_pos hP]
  cases b
  ·refine zW ?_;intros
   refine W6 T (i:=1) (H':=[(g,wrO false)]) rfl Zz Zz Zz Zz Zz Zb ?_
   exact ⟨hle6,false,y,rfl,⟨_,rfl,Yg hX⟩,iff_of_true rfl ⟨rfl,hP⟩,fun _=>hyx hP⟩
  ·refine zW ?_;intros
   refine W6 T (i:=1) (H':=[(g,wrO true)]) rfl Zz Zz Zz Zz Zz Zb ?_
   exact ⟨hle6,true,y,rfl,⟨_,rfl,Yg hX⟩,iff_of_false (by simp) (fun h0=>by cases h0.1),fun h0=>by cases h0⟩
 ·rw [if_neg hP]
  cases b
  ·refine zW ?_;intros
   refine W6 T (i:=1) (H':=[(g,wrO true)]) rfl Zz Zz Zz Zz Zz Zb ?_
   exact ⟨hle6,true,y,rfl,⟨_,rfl,Yg hX⟩,iff_of_false (by simp) (fun h0=>hP h0.2),fun h0=>by cases h0⟩
  ·refine zW ?_;intros
   refine W6 T (i:=1) (H':=[(g,wrO true)]) rfl Zz Zz Zz Zz Zz Zb ?_
   exact ⟨hle6,true,y,rfl,⟨_,rfl,Yg hX⟩,iff_of_false (by simp) (fun h0=>by cases h0.1),fun h0=>by cases h0⟩
def Yf0 (name:Bs) (args:List Bs):Prop:=Y5 name∧∀ a∈args,YdR a
set_option maxHeartbeats 2000000 in
theorem watom_q {b:Bool} {f0:Bs} {l:List Bs} (hf:Short f0) (h1:Sl strL fz A n c l) (hn:n≤1000000000):
 GFn prog 189 [.pointer (some ⟨g,0,none⟩),.string f0,.slice A n c] fz [(g,wrO b)] (MkR g b (Yf0 f0 l) (W0 f0 l) fz):=by
 have l1:=h1.len
 refine zF Tryz.func189 Tryz.ntmps189 (fun w0=>?_)
 refine zW ?_;intros
 rename_i g4
 first | refine Wp.perm (List.Perm.swap _ _ _) ?_ | refine Seq.perm (List.Perm.swap _ _ _) ?_
 refine Ya Zz (Ym [_] [_] Zz Zz Zz (YbC hf) (fun v6 fz6 H6 hle6 hR6=>?_))
 obtain ⟨_,rfl,b1,rfl,hb1⟩:=hR6
 unfold sxV
 refine Ya Zz (Yc T (cs:=Yq f0) Zz Zz Zz Zz Zz Zz Zz Zz (fun gb=>?_))
 refine zc Xk ?_
 unfold sxV
 refine zW ?_;intros
 rename_i g5
 refine Wp.perm (List.Perm.cons _ (List.reverse_perm [_,_,_])) ?_
 refine Yl (fun q σ fz' H'=>∃ (k:Nat) (v:Value) (Hs:HP) (b':Bool),k≤n∧q=n - k∧σ=[(17,.int .i64 k),(16,.int .i64 n),(15,.slice A n c),(7,.pointer (some ⟨g5,0,none⟩)),(6,.pointer (some ⟨g4,0,none⟩)),(0,.pointer (some ⟨g,0,none⟩))]∧fz6=fz'∧
  H'=(g5,.cells #[.int .i64 3,.int .i64 0,.int .i64 0,.int .i64 0,.string ⟨#[]⟩,v] 57 (0,0))::(g4,.cells #[.int .i64 0,.int .i64 0,.int .i64 0,.int .i64 0,.string ⟨#[]⟩,.slice none 0 0] 57 (0,0))::(g,wrO b')::Hs∧Grow Yy 57 fz' v (k+1) Hs (Yi f0::(l.take k).map Yi)∧(b'=false↔b=false∧Y5 f0∧∀ i,i<k→∀ a,l[i]?=some a→YdR a))
  ⟨0,_,[_],b1,Z0 _,rfl,rfl,rfl,rfl,Grow.block (ys:=[(Yi f0,Yq f0)]) rfl rfl (by simpa using Yu hf) rfl Zh,by rw [hb1];exact ⟨fun h=>⟨h.1,h.2,fun i hi=>absurd hi Zi⟩,fun h=>⟨h.1,h.2.1⟩⟩⟩ Zw Zb ?_
 rintro q σ fz' H' ⟨k,v,Hs,b',hk,rfl,rfl,rfl,rfl,hG,hb⟩
 obtain ⟨Av,cv,rfl,_,_⟩:=hG.form
 have h2:=h1.mono hle6
 refine zW ?_;intros
 refine zC (fun c1=>?_) (fun c1=>?_)
 ·obtain ⟨x,hx⟩:=Yn (l:=l) (k:=k) Zi
  have step:∀ b2:Bool,(b2=false↔b'=false∧YdR x)→(b2=false↔b=false∧Y5 f0∧∀ i,i<k+1→∀ a,l[i]?=some a→YdR a):=fun b2 h=>by
   rw [h,hb]
   exact ⟨fun h0=>⟨h0.1.1,h0.1.2.1,YL h0.1.2.2 hx h0.2⟩,fun h0=>⟨⟨h0.1,h0.2.1,fun i hi=>h0.2.2 i Zi⟩,h0.2.2 k Zi x hx⟩⟩
  refine zW ?_;intros
  refine zI h2 hx (fun p hp=>?_)
  refine zH hp (fun ix=>?_)
  refine zWO ?_;intros
  refine Yk (Wp.mid (fun σ fz' H'=>∃ b2:Bool,σ=[(9,.string x),(17,.int .i64 k),(16,.int .i64 n),(15,.slice A n c),(7,.pointer (some ⟨g5,0,none⟩)),(6,.pointer (some ⟨g4,0,none⟩)),(0,.pointer (some ⟨g,0,none⟩))]∧fz6=fz'∧
   H'=(g5,.cells #[.int .i64 3,.int .i64 0,.int .i64 0,.int .i64 0,.string ⟨#[]⟩,.slice Av (k+1) cv] 57 (0,0))::(g4,.cells #[.int .i64 0,.int .i64 0,.int .i64 0,.int .i64 0,.string ⟨#[]⟩,.slice none 0 0] 57 (0,0))::(g,wrO b2)::Hs∧(b2=false↔b'=false∧YdR x)) ?_ ?_)
  ·cases b'
   ·refine zW ?_;intros
    refine zb (Ymn ix) (fun f1=>?_) (fun f1=>?_)
    ·refine zW ?_;intros
     exact midN ⟨false,rfl,rfl,rfl,iff_of_true rfl ⟨rfl,Zt f1⟩⟩ Zw Zb
    ·refine zW ?_;intros
     exact midN ⟨true,rfl,rfl,rfl,iff_of_false (by simp) (fun h=>Zf f1 h.2)⟩ Zw Zb
   ·refine zW ?_;intros
    exact midN ⟨true,rfl,rfl,rfl,iff_of_false (by simp) (fun h=>by cases h.1)⟩ Zw Zb
  ·rintro σ fz' H' ⟨b2,rfl,rfl,rfl,hb2⟩
   refine Wp.drawK (Hq:=[_,_,_]) T.mixed Zj Zj Zb ?_
   refine zW ?_;intros
   refine Yf ?_
   refine Yf ?_
   refine Yf ?_
   refine zW ?_;intros
   refine Yf ?_
   refine YM ⟨by kernel_rfl,?_⟩
   refine Ch.qk (⟨Le.refl _,Zx⟩) (Yw Zz Zz (WY (s:=x)) ?_)
   refine Yt (Yc T (cs:=Yq x) Zz Zz Zz Zz Zz Zz Zz Zz (fun gb=>⟨(⟨Le.refl _,Zx⟩),?_⟩))
   refine Yt (YS T (Hr:=[_,_,_,_]) Zz Zz Zz Zz Zz Zz Zz Zz (Zr _) hG Ys (.head _) (Yu ix) (by show _*72≤_;omega) Zi (fun v' Hs' hO'=>⟨(⟨Le.refl _,Zx⟩),?_⟩))
   obtain ⟨Av',cv',rfl,_,_⟩:=hO'.form
   refine Ch.hard0 Zj (YN T Zz Zz Zz Zz Zz Zz ?_)
   refine Ch.done ?_
   refine zW ?_;intros
   exact Yz ⟨k+1,_,Hs',b2,by omega,rfl,rfl,rfl,rfl,hO'.of (by rw [List.take_add_one,hx];simp) rfl,step b2 hb2⟩ Zi Zw Zb
 ·have hk1:k=n:=by omega
  subst hk1
  rw [Zl Zi] at hG
  refine zW ?_;intros
  refine Yc3 T (i:=1) (H':=[(g,wrO b')]) rfl Zz Zz Zz Zz Zz (@List.perm_middle _ _ [_,_] _).symm (fun fz3 hle3 hf3=>?_)
  obtain ⟨A',c',he,hsl⟩:=hG.sl hle3 (fun p hp=>hf3 p (by simp [hp])) Zi
  injection he with he1 he2 he3
  subst he1 he3
  exact ⟨hle6.trans hle3,b',_,rfl,WS hsl,by rw [hb];exact ⟨fun h=>⟨h.1,h.2.1,Xs h.2.2 Zi⟩,fun h=>⟨h.1,h.2.1,fun i _ a ha=>h.2.2 a (Zm ha)⟩⟩,fun _=>rfl⟩
end Go.Proofs.YtfjopfinkdhmaaaGreatDoor
