/- The texts RQ, RR, RS, PWalkN, laid together. Conditions: none. -/
import Derived.Test.YtfjopfinkdhmaaaGreatDoorRYL
set_option linter.all false
noncomputable section
set_option maxRecDepth 20000
namespace Go.Proofs.YtfjopfinkdhmaaaGreatDoor
open Go.Lx Go.RowKit
attribute [local instance 10] Classical.propDecidable
open Go.Proofs.Tryz (prog)
theorem YlS {w:Bs}:I64 (Yc9 w):=by unfold Yc9 I64;split;omega;split;omega;split<;>omega
section
variable {α β:Type} {f:α→Except Int (List β)} {l:List α} {k:Nat} {x:α} {o y:List β} {m:Except Int (List β)} {c:Int}
theorem mapC_err (hx:l[k]?=some x) (hm:m=exA o (mapC f (l.drop k))) (hf:f x=.error c):m=.error c:=by rw [hm,Ybj hx,mapC,hf];rfl
theorem mapC_ok (hx:l[k]?=some x) (hm:m=exA o (mapC f (l.drop k))) (hf:f x=.ok y):m=exA (o++y) (mapC f (l.drop (k+1))):=by rw [hm,Ybj hx,mapC,hf,Ye6]
theorem mapC_end (hk:l.length≤k) (hm:m=exA o (mapC f (l.drop k))):m=.ok o:=by rw [hm,List.drop_eq_nil_of_le hk,mapC,exA,List.append_nil]
end
theorem YjK {β:Type} {f:Sexpr→Except Int (List β)} (hf:∀ y z,f y=.ok z→z.length≤xcount y):∀ {l:List Sexpr} {o:List β},mapC f l=.ok o→o.length≤xcountL l
 | [],o,h=>by rw [mapC] at h;injection h with h;subst h;exact Z0 _
 | x::r,o,h=>by
  rw [mapC] at h
  split at h
  ·cases h
  ·rename_i y hy
   obtain ⟨b,h1,rfl⟩:=YhW h
   have:=hf _ _ hy
   have:=YjK hf h1
   rw [List.length_append,xcountL];omega
theorem YdM:∀ (d:Nat) {ps:List Param} {ws:List Formula} {x:Sexpr} {l:List Change},effD d ps ws x=.ok l→l.length≤xcount x
 | 0,_,_,_,_,h=>by cases h
 | d+1,ps,ws,x,l,h=>by
  rw [Yfd] at h
  have hx:=Xj x
  split at h
  ·injection h with h;subst h;exact Z0 _
  ·split at h
   ·cases h
   ·rename_i w r hh
    obtain ⟨u,hk,_⟩:=XL hh
    rw [hk,xcountL] at hx
    have one:∀ {m:Except Int (Bs × List Bs)} {g:Bs→List Bs→Change},(match m with | .error c=>.error c | .ok (nm,a)=>.ok [g nm a]:Except Int (List Change))=.ok l→l.length≤1:=fun {m g} e=>by
     split at e
     ·cases e
     ·injection e with e;subst e;exact Zs _
    unfold effB at h
    split at h
    ·unfold numM at h
     split at h
     ·split at h
      ·cases h
      ·split at h
       ·cases h
       ·injection h with h;subst h;simp;omega
     ·cases h
    ·split at h
     ·unfold whnM at h
      split at h
      ·split at h
       ·cases h
       ·have:=YdM d h
        simp only [xcountL] at hx;omega
      ·cases h
     ·split at h
      ·unfold allM at h
       split at h
       ·split at h
        ·cases h
        ·split at h
         ·cases h
         ·have:=YdM d h
          simp only [xcountL] at hx;omega
       ·cases h
      ·split at h
       ·have:=YjK (fun y z e=>YdM d e) h
        omega
       ·split at h
        ·split at h
         ·have:=one h;omega
         ·cases h
        ·have:=one h;omega
variable {fz:FZ}
theorem Yi8:ExprR fz YfA (.slice none 0 0) (.slice none 0 0):=by
 obtain ⟨v1,v2,e,h⟩:=YT (YaA (fz:=fz))
 injection e with _ e;injection e with _ e;injection e with _ e;injection e with e1 e;injection e with e2 e
 subst e1 e2
 exact h
set_option maxHeartbeats 8000000 in
theorem effect_f (d:Nat):EffW d:=by
 induction d with
 | zero=>intro fz Ap Aw np cp nw cw ps ws x vk hz;cases x;simp at hz
 | succ d ih=>
  intro fz Ap Aw np cp nw cw ps ws x vk hz hs hR hp hw hnp hnw
  have hM:=Yfd (d:=d) (ps:=ps) (ws:=ws) (x:=x)
  have hbeg:=YbZ hR
  have hRx:=hR
  obtain ⟨A,n,c,rfl,ik⟩:=hR.kids
  have hl:=ik.len
  refine zF Tryz.func186 Tryz.ntmps186 (fun w0=>?_)
  refine zWX ?_;intros
  refine Yk ?_
  refine zWX ?_;intros
  rename_i g2 g3
  refine Yk ?_
  refine Yk (Wp.mid (fun σ fz' H'=>∃ bb:Bool,σ=[(27,.bool bb),(3,.pointer (some ⟨g3,0,none⟩)),(2,.pointer (some ⟨g2,0,none⟩))]∧fz=fz'∧H'=[(g3,.cells #[.int .i64 x.kind,.int .i64 x.value,.int .i64 x.line,.int .i64 x.column,.string x.text,.slice A n c] 57 (0,0)),(g2,.cells #[.slice Ap np cp,.slice Aw nw cw] 264 (0,0))]∧(bb=true↔x.kind=3∧x.kids=[])) ?_ ?_)
  ·refine zW ?_;intros
   refine zC (fun c1=>?_) (fun c1=>?_)
   ·refine zW ?_;intros
    refine zC (fun c2=>?_) (fun c2=>?_)
    ·refine zW ?_;intros
     exact midN ⟨true,rfl,rfl,rfl,iff_of_true rfl ⟨c1,List.eq_nil_of_length_eq_zero Zi⟩⟩ Zw Zb
    ·refine zW ?_;intros
     exact midN ⟨false,rfl,rfl,rfl,iff_of_false Zh (fun h=>c2 (by rw [h.2] at hl;simp at hl;omega))⟩ Zw Zb
   ·refine zW ?_;intros
    exact midN ⟨false,rfl,rfl,rfl,iff_of_false Zh (fun h=>c1 h.1)⟩ Zw Zb
  rintro σ fz' H' ⟨bb,rfl,rfl,rfl,hb⟩
  cases bb with
  | true=>
   rw [if_pos (hb.1 rfl)] at hM
   refine zW ?_;intros
   exact ret2 (H':=[]) rfl rfl rfl Zb ⟨rfl,by rw [hM];exact ⟨_,_,_,rfl,Sl.nil Zh⟩⟩
  | false=>
   rw [if_neg (fun h=>absurd (hb.2 h) Zh)] at hM
   refine zW ?_;intros
   cases hh:XF x with
   | none=>
    rw [hh] at hM hbeg
    refine zc hbeg ?_
    refine zW ?_;intros
    exact ret2 (H':=[]) rfl rfl rfl Zb ⟨rfl,by rw [hM];exact ⟨rfl,by decide⟩⟩
   | some wr=>
    obtain ⟨w,r⟩:=wr
    rw [hh] at hM hbeg
    simp only at hM
    obtain ⟨y,hk,rfl,hk3,hk1⟩:=XL hh
    have hrs:=Wm hs hh
    have hk0:x.kids[0]?=some y:=by rw [hk];rfl
    have hrz:∀ u∈r,SizeOf.sizeOf u≤d:=fun u hu=>by have:=YiM hh hu;omega
    have hcx:=Xj x
    rw [hk,xcountL] at hcx
    rw [hk,List.length_cons] at hl
    refine zc hbeg ?_
    refine zW ?_;intros
    refine zI ik hk0 (fun p hp0=>?_)
    refine zW ?_;intros
    refine zH hp0.Sexpr_text (fun hst=>?_)
    refine zW ?_;intros
    refine zc (kinds_q (w:=y.text)) ?_
    refine zW ?_;intros
    refine zC (fun c1=>?_) (fun c1=>?_)
    ·unfold effB at hM
     rw [if_pos c1] at hM
     refine zW ?_;intros
     refine Ya Zz (Ym [] _ Zz Zz Zz (YlG hk YlS hs hRx hp hw Zi Zi) (fun r4 fz4 H4 hle4 hR4=>?_))
     obtain ⟨rfl,hR4⟩:=hR4
     obtain ⟨ra,rb,rfl⟩:=hR4.form
     refine zW ?_;intros
     exact ret2 (H':=[]) rfl rfl rfl Zb ⟨rfl,by rw [hM];exact hR4⟩
    ·unfold effB at hM
     rw [if_neg c1] at hM
     refine zW ?_;intros
     refine zC (fun c2=>?_) (fun c2=>?_)
     ·rw [if_pos (show y.text=YhH from c2)] at hM
      refine zW ?_;intros
      refine Ya Zz (Ym [] _ Zz Zz Zz (when_f ih hk hrz hs hRx hp hw Zi Zi) (fun r4 fz4 H4 hle4 hR4=>?_))
      obtain ⟨rfl,hR4⟩:=hR4
      obtain ⟨ra,rb,rfl⟩:=hR4.form
      refine zW ?_;intros
      exact ret2 (H':=[]) rfl rfl rfl Zb ⟨rfl,by rw [hM];exact hR4⟩
     ·rw [if_neg (show ¬y.text=YhH from c2)] at hM
      refine zW ?_;intros
      refine zC (fun c3=>?_) (fun c3=>?_)
      ·rw [if_pos (show y.text=XZ from c3)] at hM
       refine zW ?_;intros
       refine Ya Zz (Ym [] _ Zz Zz Zz (forall_f ih hk hrz hs hRx hp hw Zi Zi) (fun r4 fz4 H4 hle4 hR4=>?_))
       obtain ⟨rfl,hR4⟩:=hR4
       obtain ⟨ra,rb,rfl⟩:=hR4.form
       refine zW ?_;intros
       exact ret2 (H':=[]) rfl rfl rfl Zb ⟨rfl,by rw [hM];exact hR4⟩
      ·rw [if_neg (show ¬y.text=XZ from c3)] at hM
       refine zW ?_;intros
       refine zC (fun c4=>?_) (fun c4=>?_)
       ·rw [if_pos (show y.text=kAnd from c4)] at hM
        refine zW ?_;intros
        refine zG ?_;refine Xu (j:=1) T Zz Zz Zz Zz Zz Zz ik Zi (fun A' hA'=>?_)
        rw [hk,List.drop_one,List.tail_cons] at hA'
        have hdr:=hA'.len
        refine zW ?_;intros
        refine Yl (fun q σ fz' H'=>∃ (k:Nat) (v:Value) (Hs:HP) (out:List Change),k≤n - 1∧q=n - 1 - k∧σ=[(71,.int .i64 k),(70,.int .i64 (n - 1:Nat)),(69,.slice A' (n - 1) (c - 1)),(8,v),(2,.pointer (some ⟨g2,0,none⟩))]∧Le fz fz'∧H'=(g2,.cells #[.slice Ap np cp,.slice Aw nw cw] 264 (0,0))::Hs∧Grow changeL 123 fz' v out.length Hs out∧out.length+xcountL (r.drop k)≤xcountL r∧effD (d+1) ps ws x=exA out (mapC (effD d ps ws) (r.drop k))) ⟨0,_,[],[],Z0 _,rfl,rfl,Le.refl _,rfl,Grow.nil _ _ _,by simp,by rw [Ycg];exact hM⟩ Zw Zb ?_
        rintro q σ fz' H' ⟨k,v,Hs,out,hkn,rfl,rfl,hle,rfl,hG,hcn,hT⟩
        obtain ⟨Av,cv,rfl,_,_⟩:=hG.form
        refine zW ?_;intros
        refine zC (fun c5=>?_) (fun c5=>?_)
        ·obtain ⟨z,hzk⟩:=Yn (l:=r) (k:=k) Zi
         have hzr:=Zm hzk
         rw [Ybj hzk,xcountL] at hcn
         have hcz:=XT hzr
         refine zW ?_;intros
         refine zI (hA'.mono hle) hzk (fun p2 hp2=>?_)
         refine zL hp2 ?_
         intro cs hcs
         obtain ⟨vz,rfl,hRz⟩:=Yh hcs
         obtain ⟨Az,nz,cz,rfl,iz⟩:=hRz.kids
         refine zW ?_;intros
         refine Ya Zz (Ym [] _ Zz Zz Zz (ih _ _ _ _ _ _ _ _ _ _ _ (hrz z hzr) (X7 hs hh hzr) hRz (hp.mono hle) (hw.mono hle) Zi Zi) (fun r4 fz4 H4 hle4 hR4=>?_))
         obtain ⟨rfl,hR4⟩:=hR4
         cases hx:effD d ps ws z with
         | error c'=>
          rw [hx] at hR4
          obtain ⟨rfl,hc⟩:=hR4
          have hm:=mapC_err hzk hT hx
          rw [Yj hc]
          refine zW ?_;intros
          exact ret2 (H':=[]) rfl rfl rfl Zb ⟨rfl,by rw [hm];exact ⟨by rw [Yj hc];rfl,hc⟩⟩
         | ok zl=>
          rw [hx] at hR4
          obtain ⟨A5,n5,c5',rfl,il⟩:=hR4
          have hm:=mapC_ok hzk hT hx
          have hel:=YdM d hx
          have hn5:=il.len
          refine zW ?_;intros
          rename_i g10
          refine Ya Zz (WF T (Hr:=[(g10,_),(g2,_)]) Zz Zz Zz Zz Zz Zz Zz Zz (Zr _) (hG.mono hle4) chg_one il (by show _*288≤_;omega) Zi (fun v' Hs' hG'=>?_))
          refine zW ?_;intros
          exact Yz ⟨k+1,v',Hs',out++zl,by omega,rfl,rfl,hle.trans hle4,rfl,hG'.of rfl (by rw [List.length_append];omega),by rw [List.length_append];omega,hm⟩ Zi Zw Zb
        ·have hm:=mapC_end Zi hT
         refine zW ?_;intros
         refine Yiq rfl rfl rfl (fun fz3 hle3 hf3=>⟨rfl,?_⟩)
         obtain ⟨A1,c1',hv1,hS1⟩:=hG.sl hle3 (fun p hp=>hf3 p (List.mem_cons_of_mem _ hp)) Zi
         injection hv1 with hv1 hv2 hv3
         subst hv1 hv3
         rw [hm]
         exact ⟨_,_,_,rfl,hS1⟩
       ·rw [if_neg (show ¬y.text=kAnd from c4)] at hM
        refine zW ?_;intros
        refine zC (fun c5=>?_) (fun c5=>?_)
        ·rw [if_pos (show y.text=kNot from c5)] at hM
         refine zW ?_;intros
         refine zC (fun c6=>?_) (fun c6=>?_)
         ·have hM2:effD (d+1) ps ws x=.error 2:=hM.trans (by
           split
           ·simp at hl;omega
           ·rfl)
          refine zW ?_;intros
          exact ret2 (H':=[]) rfl rfl rfl Zb ⟨rfl,by rw [hM2];exact ⟨rfl,by decide⟩⟩
         ·obtain ⟨u,rfl⟩:∃ u,r=[u]:=by
           have h3:r.length=1:=by omega
           match r,h3 with
           | [u],_=>exact ⟨u,rfl⟩
          simp only at hM
          have hu:x.kids[1]?=some u:=by rw [hk];rfl
          have hsu:=X7 hs hh (y:=u) (by simp)
          refine zW ?_;intros
          refine zI ik hu (fun p2 hp2=>?_)
          refine zL hp2 ?_
          intro cs hcs
          obtain ⟨vu,rfl,hRu⟩:=Yh hcs
          refine Ya Zz (Ym [] _ Zz Zz Zz (YiW hsu hRu) (fun r1 fz1 H1 hle1 hR1=>?_))
          obtain ⟨rfl,hR1⟩:=hR1
          cases ha:Ybt u with
          | error c=>
           rw [ha] at hM hR1
           obtain ⟨rfl,hc⟩:=hR1
           refine zW ?_;intros
           exact ret2 (H':=[]) rfl rfl rfl Zb ⟨rfl,by rw [hM];exact ⟨by rw [Yj hc];rfl,hc⟩⟩
          | ok na=>
           obtain ⟨nm,a⟩:=na
           rw [ha] at hM hR1
           obtain ⟨A3,n3,c3',rfl,ia,hnm⟩:=hR1
           simp only at hM
           refine zW ?_;intros
           refine Ya Zz (Ym [] _ Zz Zz Zz (YgT (hp.mono hle1) Zi (hw.mono hle1) Zi (by unfold I64;omega) hnm ia Yi8) (fun r5 fz5 H5 hle5 hR5=>?_))
           obtain ⟨rfl,cs5,rfl,hr5⟩:=hR5
           generalize hchg:chgM ps ws 2 nm a YfA=ch at*
           have hr5':=hr5
           obtain ⟨u1,u2,u3,u4,u5,u6,u7,u8,rfl,hC⟩:=XH hr5;obtain ⟨C1,o1,q1,rfl,_⟩:=hC.params;obtain ⟨C2,o2,q2,rfl,_⟩:=hC.when_.args;obtain ⟨C3,o3,q3,rfl,_⟩:=hC.when_.params;obtain ⟨C4,o4,q4,rfl,_⟩:=hC.when_.exprs;obtain ⟨C5,o5,q5,rfl,_⟩:=hC.when_.kids;obtain ⟨C6,o6,q6,rfl,_⟩:=hC.args;obtain ⟨C7,o7,q7,rfl,_⟩:=hC.value.args;obtain ⟨C8,o8,q8,rfl,_⟩:=hC.value.kids
           refine Ya Zz (Yc T (cs:=([.int .i64 ch.kind,.slice C1 o1 q1,.string ch.when_.op,.string ch.when_.name,.slice C2 o2 q2,.slice C3 o3 q3,.slice C4 o4 q4,.slice C5 o5 q5,.string ch.name,.slice C6 o6 q6,.string ch.value.op,.string ch.value.name,.int .i64 ch.value.n,.slice C7 o7 q7,.slice C8 o8 q8])) Zz Zz Zz Zz Zz Zz Zz Zz (fun gb=>?_))
           refine zW ?_;intros
           exact Yiq rfl rfl rfl (fun fz3 hle3 hf3=>⟨rfl,YiD hM hle3 hr5' (hf3 (gb,_) (.head _))⟩)
        ·rw [if_neg (show ¬y.text=kNot from c5)] at hM
         refine zW ?_;intros
         refine Ya Zz (Ym [] _ Zz Zz Zz (YiW hs hRx) (fun r1 fz1 H1 hle1 hR1=>?_))
         obtain ⟨rfl,hR1⟩:=hR1
         cases ha:Ybt x with
         | error c=>
          rw [ha] at hM hR1
          obtain ⟨rfl,hc⟩:=hR1
          refine zW ?_;intros
          exact ret2 (H':=[]) rfl rfl rfl Zb ⟨rfl,by rw [hM];exact ⟨by rw [Yj hc];rfl,hc⟩⟩
         | ok na=>
          obtain ⟨nm,a⟩:=na
          rw [ha] at hM hR1
          obtain ⟨A3,n3,c3',rfl,ia,hnm⟩:=hR1
          simp only at hM
          refine zW ?_;intros
          refine Ya Zz (Ym [] _ Zz Zz Zz (YgT (hp.mono hle1) Zi (hw.mono hle1) Zi (by unfold I64;omega) hnm ia Yi8) (fun r5 fz5 H5 hle5 hR5=>?_))
          obtain ⟨rfl,cs5,rfl,hr5⟩:=hR5
          generalize hchg:chgM ps ws 1 nm a YfA=ch at*
          have hr5':=hr5
          obtain ⟨u1,u2,u3,u4,u5,u6,u7,u8,rfl,hC⟩:=XH hr5;obtain ⟨C1,o1,q1,rfl,_⟩:=hC.params;obtain ⟨C2,o2,q2,rfl,_⟩:=hC.when_.args;obtain ⟨C3,o3,q3,rfl,_⟩:=hC.when_.params;obtain ⟨C4,o4,q4,rfl,_⟩:=hC.when_.exprs;obtain ⟨C5,o5,q5,rfl,_⟩:=hC.when_.kids;obtain ⟨C6,o6,q6,rfl,_⟩:=hC.args;obtain ⟨C7,o7,q7,rfl,_⟩:=hC.value.args;obtain ⟨C8,o8,q8,rfl,_⟩:=hC.value.kids
          refine Ya Zz (Yc T (cs:=([.int .i64 ch.kind,.slice C1 o1 q1,.string ch.when_.op,.string ch.when_.name,.slice C2 o2 q2,.slice C3 o3 q3,.slice C4 o4 q4,.slice C5 o5 q5,.string ch.name,.slice C6 o6 q6,.string ch.value.op,.string ch.value.name,.int .i64 ch.value.n,.slice C7 o7 q7,.slice C8 o8 q8])) Zz Zz Zz Zz Zz Zz Zz Zz (fun gb=>?_))
          refine zW ?_;intros
          exact Yiq rfl rfl rfl (fun fz3 hle3 hf3=>⟨rfl,YiD hM hle3 hr5' (hf3 (gb,_) (.head _))⟩)
theorem whenM_sm {ws:List Formula} (hw:ws.length≤1000000) (hf:∀ f∈ws,FSm f):FSm (whenM ws):=by
 match ws,hw,hf with
 | [],_,_=>exact Wv.2 ⟨⟨by show 0≤_;omega,by show 0≤_;omega,by show 0≤_;omega⟩,fun e he=>(by cases he),fun k hk=>by cases hk⟩
 | [f],_,hf=>exact hf f (by simp)
 | f::g::r,hw,hf=>exact Wv.2 ⟨⟨by show 0≤_;omega,by show 0≤_;omega,by show (f::g::r).length≤_;omega⟩,fun e he=>(by cases he),hf⟩
theorem YgY:ESm YfA:=Yaa.2 ⟨by show 0≤_;omega,fun k hk=>by cases hk⟩
theorem Ymu {ps:List Param} {ws:List Formula} {kind:Int} {nm:Bs} {a:List Bs} {e:Lx.Expr} (hp:ps.length≤1000000) (hw:ws.length≤1000000) (hf:∀ f∈ws,FSm f) (ha:a.length≤1000000) (he:ESm e):ChSm (chgM ps ws kind nm a e):=
 ⟨by show ps.length≤_;omega,by show a.length≤_;omega,whenM_sm hw hf,he⟩
theorem Ydu {x:Sexpr} {w:Bs} {a:List Bs} (hs:XSm x) (h:Ybt x=.ok (w,a)):a.length≤1000000:=by
 unfold Ybt at h
 split at h
 ·cases h
 ·rename_i w' r hh
  split at h
  ·split at h
   ·cases h
   ·rename_i a' ha
    injection h with h
    injection h with h1 h2
    subst h2
    rw [YcZ ha]
    exact Wm hs hh
  ·cases h
variable {f:Formula}
theorem Ybu {x:Sexpr} (h:WN x=.ok f):FSm f:=by
 unfold WN at h
 split at h
 ·rename_i hv
  split at h
  ·cases h
  ·rename_i f' hf
   split at h
   ·injection h with h;subst h;exact Yec _ hv.sm hf
   ·cases h
 ·cases h
theorem YlA {x:Sexpr} {e:Lx.Expr} (h:YeF x=.ok e):ESm e:=by
 unfold YeF at h
 split at h
 ·rename_i hv
  split at h
  ·cases h
  ·rename_i f' hf
   split at h
   ·injection h with h;subst h;exact Yc5 _ hv.sm hf
   ·cases h
 ·cases h
theorem YjJ {α β:Type} {f:α→Except Int (List β)}:∀ {l:List α} {o:List β},mapC f l=.ok o→∀ z∈o,∃ y∈l,∃ u,f y=.ok u∧z∈u
 | [],o,h,z,hz=>by rw [mapC] at h;injection h with h;subst h;cases hz
 | x::r,o,h,z,hz=>by
  rw [mapC] at h
  split at h
  ·cases h
  ·rename_i y hy
   obtain ⟨b,h1,rfl⟩:=YhW h
   rcases List.mem_append.1 hz with hz | hz
   ·exact ⟨x,by simp,y,hy,hz⟩
   ·obtain ⟨y',h2,h3⟩:=YjJ h1 z hz
    exact ⟨y',List.mem_cons_of_mem _ h2,h3⟩
theorem YhX:∀ (d:Nat) {ps:List Param} {ws:List Formula} {x:Sexpr} {l:List Change},XSm x→ps.length+xcount x≤1000000→ws.length+xcount x≤1000000→(∀ f∈ws,FSm f)→effD d ps ws x=.ok l→∀ c∈l,ChSm c
 | 0,_,_,_,_,_,_,_,_,h=>by cases h
 | d+1,ps,ws,x,l,hs,hp,hw,hf,h=>by
  rw [Yfd] at h
  have hx:=Xj x
  split at h
  ·injection h with h;subst h;intro c hc;cases hc
  ·split at h
   ·cases h
   ·rename_i w r hh
    obtain ⟨u,hk,_⟩:=XL hh
    rw [hk,xcountL] at hx
    have hsr:∀ {y},y∈r→XSm y:=fun hy=>X7 hs hh hy
    unfold effB at h
    split at h
    ·unfold numM at h
     split at h
     ·split at h
      ·cases h
      ·rename_i nm a ha
       split at h
       ·cases h
       ·rename_i e he
        injection h with h;subst h
        intro c hc
        simp at hc;subst hc
        exact Ymu Zi Zi hf (Ydu (hsr (by simp)) ha) (YlA he)
     ·cases h
    ·split at h
     ·unfold whnM at h
      split at h
      ·split at h
       ·cases h
       ·rename_i f hpf
        simp only [xcountL] at hx
        exact YhX d (hsr (by simp)) Zi (by rw [List.length_append,List.length_singleton];omega) (fun g hg=>by rcases List.mem_append.1 hg with hg | hg;exact hf g hg;simp at hg;subst hg;exact Ybu hpf) h
      ·cases h
     ·split at h
      ·unfold allM at h
       split at h
       ·split at h
        ·cases h
        ·split at h
         ·cases h
         ·rename_i y z _ _ ps' hps
          have h1:=Ydz hps
          have h2:=Xj y
          have h3:=X4 (l:=y.kids)
          simp only [xcountL,List.length_nil] at hx h1
          exact YhX d (hsr (by simp)) (by rw [List.length_append];omega) Zi hf h
       ·cases h
      ·split at h
       ·intro c hc
        obtain ⟨y,hy,u',h1,h2⟩:=YjJ h c hc
        have:=XT hy
        exact YhX d (hsr hy) Zi Zi hf h1 c h2
       ·split at h
        ·split at h
         ·split at h
          ·cases h
          ·rename_i nm a ha
           injection h with h;subst h
           intro c hc
           simp at hc;subst hc
           exact Ymu Zi Zi hf (Ydu (hsr (by simp)) ha) YgY
         ·cases h
        ·split at h
         ·cases h
         ·rename_i nm a ha
          injection h with h;subst h
          intro c hc
          simp at hc;subst hc
          exact Ymu Zi Zi hf (Ydu hs ha) YgY
def WI (x:Sexpr):Except Int (List Change):=if XVal x then match effD (SizeOf.sizeOf x) [] [] x with
 | .error c=>.error c
 | .ok l=>if Ya8 l∧XVal (effX l) then .ok l else .error 5
 else .error 2
theorem YcJ {x:Sexpr} {l:List Change} (h:WI x=.ok l):Yi6 l:=by
 unfold WI at h
 split at h
 ·rename_i hv
  have hc:=hv.2.2
  split at h
  ·cases h
  ·rename_i l' hl
   split at h
   ·injection h with h
    subst h
    have:=YdM _ hl
    exact ⟨by omega,YhX _ hv.sm (by simp;omega) (by simp;omega) (by simp) hl⟩
   ·cases h
 ·cases h
variable {A:Option Addr} {c n:Nat}
theorem YkK {l:List Change} (h1:Sl changeL fz A n c l) (hs:Yi6 l):
 GFn prog 187 [.slice A n c] fz [] (WrR (Ya8 l∧XVal (effX l)) (effX l)):=by
 refine zF Tryz.func187 Tryz.ntmps187 (fun w0=>?_)
 refine zW ?_;intros
 rename_i g2 g7
 refine Ya Zz (Ym [(g7,wrO false)] [(g2,_)] Zz Zz Zz (YcX (b:=false) h1 hs) (fun v10 fz1 H1 hle1 hR1=>?_))
 obtain ⟨_,b1,y,rfl,⟨cs,rfl,hr⟩,hb,hy⟩:=hR1
 obtain ⟨vk,rfl,hX⟩:=Yh hr
 obtain ⟨A6,n6,c6,rfl,_⟩:=hX.kids
 unfold wrO
 cases b1
 ·have hy:=hy rfl
  subst hy
  have hOk:=(hb.1 rfl).2
  refine zW ?_;intros
  refine zb (WH hX) (fun f1=>?_) (fun f1=>?_)
  ·have hP:Ya8 l∧XVal (effX l):=⟨hOk,Zt f1⟩
   refine zW ?_;intros
   refine YQ T (vs:=[.agg #[_,_,_,_,_,_],.nilIface]) Zz ⟨⟨_,_,2,_,_,_,rfl,rfl,rfl,rfl,rfl,rfl⟩,rfl,trivial⟩ (fun fz3 hle3 hf3=>?_)
   exact ⟨rfl,_,_,by rw [if_pos hP];rfl,SxIs.mono hle3 ⟨_,rfl,Yg hX⟩,fun _=>rfl⟩
  ·have hP:¬(Ya8 l∧XVal (effX l)):=fun h0=>Zf f1 h0.2
   refine zW ?_;intros
   refine YQ T (vs:=[.agg #[_,_,_,_,_,_],_]) Zz ⟨⟨_,_,2,_,_,_,rfl,rfl,rfl,rfl,rfl,rfl⟩,rfl,trivial⟩ (fun fz3 hle3 hf3=>?_)
   exact ⟨rfl,_,_,by rw [if_neg hP,Yj Zh];rfl,YaB,fun h0=>absurd h0 hP⟩
 ·have hP:¬(Ya8 l∧XVal (effX l)):=fun h0=>by simpa using hb.2 ⟨rfl,h0.1⟩
  refine zW ?_;intros
  refine YQ T (vs:=[.agg #[_,_,_,_,_,_],_]) Zz ⟨⟨_,_,2,_,_,_,rfl,rfl,rfl,rfl,rfl,rfl⟩,rfl,trivial⟩ (fun fz3 hle3 hf3=>?_)
  exact ⟨rfl,_,_,by rw [if_neg hP,Yj Zh];rfl,YaB,fun h0=>absurd h0 hP⟩
variable {vk:Value}
set_option maxHeartbeats 4000000 in
theorem Ydy {x:Sexpr} (hR:YW fz x vk):
 GFn prog 146 [.agg #[.int .i64 x.kind,.int .i64 x.value,.int .i64 x.line,.int .i64 x.column,.string x.text,vk]] fz [] (fun r fz' H'=>H'=[]∧ResS changeL fz' (WI x) r):=by
 have hRx:=hR
 obtain ⟨A,n,c,rfl,ik⟩:=hR.kids
 have hM:WI x=if XVal x then match effD (SizeOf.sizeOf x) [] [] x with
  | .error c=>.error c
  | .ok l=>if Ya8 l∧XVal (effX l) then .ok l else .error 5
 else .error 2:=rfl
 refine zF Tryz.func146 Tryz.ntmps146 (fun w0=>?_)
 refine zW ?_;intros
 refine zb (WH hRx) (fun f1=>?_) (fun f1=>?_)
 ·have hv:=Zt f1
  have hc:=hv.2.2
  rw [if_pos hv] at hM
  refine zW ?_;intros
  refine Ya Zz (Ym [] _ Zz Zz Zz (effect_f _ _ _ _ _ _ _ _ [] [] _ _ (Zs _) hv.sm hRx (Sl.nil Zh) (Sl.nil Zh) Zi Zi) (fun r4 fz4 H4 hle4 hR4=>?_))
  obtain ⟨rfl,hR4⟩:=hR4
  cases hx:effD (SizeOf.sizeOf x) [] [] x with
  | error c'=>
   rw [hx] at hM hR4
   obtain ⟨rfl,hc⟩:=hR4
   rw [Yj hc]
   refine zW ?_;intros
   exact ret2 (H':=[]) rfl rfl rfl Zb ⟨rfl,by rw [hM];exact ⟨by rw [Yj hc];rfl,hc⟩⟩
  | ok l=>
   rw [hx] at hM hR4
   obtain ⟨A5,n5,c5,rfl,il⟩:=hR4
   simp only at hM
   have hel:=YdM _ hx
   have hes:Yi6 l:=⟨by omega,YhX _ hv.sm (by simp;omega) (by simp;omega) (by simp) hx⟩
   refine zW ?_;intros
   refine Ya Zz (Ym [] _ Zz Zz Zz (YkK il hes) (fun r6 fz6 H6 hle6 hR6=>?_))
   obtain ⟨rfl,u,y,rfl,⟨cs,rfl,hr⟩,hy⟩:=hR6
   obtain ⟨vk6,rfl,hX⟩:=Yh hr
   obtain ⟨A6,n6,c6,rfl,_⟩:=hX.kids
   by_cases hP:Ya8 l∧XVal (effX l)
   ·rw [if_pos hP] at hM ⊢
    rw [show errV 0=.nilIface from rfl]
    refine zW ?_;intros
    exact ret2 (H':=[]) rfl rfl rfl Zb ⟨rfl,by rw [hM];exact ⟨_,_,_,rfl,il.mono hle6⟩⟩
   ·rw [if_neg hP] at hM ⊢
    rw [Yj Zh]
    refine zW ?_;intros
    exact ret2 (H':=[]) rfl rfl rfl Zb ⟨rfl,by rw [hM];exact ⟨rfl,by decide⟩⟩
 ·rw [if_neg (Zf f1)] at hM
  refine zW ?_;intros
  exact ret2 (H':=[]) rfl rfl rfl Zb ⟨rfl,by rw [hM];exact ⟨rfl,by decide⟩⟩
end Go.Proofs.YtfjopfinkdhmaaaGreatDoor
namespace Go.Lx
open Go.RowKit
section
variable {P:Program} {cx:Cx} {r:Operand→Option Value} {fz:FZ} {H:HP} {V:Value→Prop} {dst:Option Nat} {ty:TypeId} {pos:String} {af:Array Edge} {gd:Option (Nat × Bool)}
variable {A:Option Addr} {X Y:Ty} {c j n:Nat} {t:TypeId} {x:Operand}
theorem Yis (T:Tab P) {α:Type} {L:Lay α} {e:TypeId} {i u:Operand} {m:Nat} {mi:Int} {xs:List α} (hT:T.inf t=some X) (hd:X.desc=.slice e) (hY:T.inf e=some Y) (hz:Y.size=L.size)
 (hx:r x=some (.slice A n c)) (hi:r i=some (.int .i64 j)) (hu:r u=some (.int .i64 mi)) (hmi:mi=m) (hs:Sl L fz A n c xs) (hj:j≤m) (hm:m≤n) (h:∀ A',Sl L fz A' (m - j) (c - j) ((xs.drop j).take (m - j))→V (.slice A' (m - j) (c - j))):DoesQ P cx ⟨dst,.slice t x (some i) (some u) none,ty,pos,af,gd⟩ r fz H V:=by
 subst hmi
 have h1:=hs.cap
 have h2:=hs.max
 have h3:=hs.short
 have h4:=hs.len
 refine YH (v:=.slice (if c=j then A else A.map (·.add (j*Y.size))) (m - j) (c - j)) (fun ρ w hr=>by
  have hud:=run_underlying (und_plain T hT hd rfl) w
  have hs:=Lx.run_sizeOf T hY w
  have hmc:m≤c:=by omega
  simp [execOp,hr _ _ hx,hr _ _ hi,hr _ _ hu,Instr.sliceAt,Instr.slice,Instr.sliceBounds,Instr.sliceBound,asIntOf,hud,hs,hj,hmc]
  try omega) (h _ ?_)
 refine ⟨by rw [List.length_take,List.length_drop,h4];omega,by omega,by omega,by omega,?_⟩
 rcases hs.elem with h0 | ⟨ad,h5,h6⟩
 ·exact .inl Zi
 ·by_cases hn:m - j=0
  ·exact .inl hn
  ·refine .inr ⟨ad.add (j*L.size),?_,fun i d hd=>?_⟩
   ·rw [if_neg Zi,h5,hz];rfl
   ·rw [List.getElem?_take] at hd
    split at hd
    ·rw [List.getElem?_drop] at hd
     have:=h6 (j+i) d hd
     have e:(ad.add (j*L.size)).add (i*L.size)=ad.add ((j+i)*L.size):=by
      rw [Nat.add_mul]
      unfold Addr.add
      by_cases h7:j*L.size=0
      ·rw [h7];simp
      ·by_cases h8:i*L.size=0
       ·rw [h8];simp
       ·simp [h7,h8,Nat.add_assoc]
     rw [e];exact this
    ·cases hd
end
end Go.Lx
namespace Go.Proofs.YtfjopfinkdhmaaaGreatDoor
open Go.Lx Go.RowKit
attribute [local instance 10] Classical.propDecidable
open Go.Proofs.Tryz (prog)
def hdrM (x:Sexpr):Except Int Bs:=match x.kids with
 | _::y::_=>if y.kind=1 then (if Y5 y.text then .ok y.text else .error 8) else .error 2
 | _=>.error 2
def strV (m:Except Int Bs):Value:=match m with
 | .error c=>.tuple #[.string ⟨#[]⟩,.iface 65 (.int .i64 c)]
 | .ok s=>.tuple #[.string s,.nilIface]
variable {fz:FZ} {vk:Value}
theorem YjN {x:Sexpr} (h:YW fz x vk):QFn prog 141 [.agg #[.int .i64 x.kind,.int .i64 x.value,.int .i64 x.line,.int .i64 x.column,.string x.text,vk]] fz (strV (hdrM x)):=by
 obtain ⟨A,n,c,rfl,ik⟩:=h.kids
 have hl:=ik.len
 refine GFn.quiet ?_
 refine zF Tryz.func141 Tryz.ntmps141 (fun w0=>?_)
 refine zW ?_;intros
 refine zC (fun c1=>?_) (fun c1=>?_)
 ·have hM:hdrM x=.error 2:=by
   unfold hdrM
   split
   ·rename_i hk;rw [hk] at hl;simp at hl;omega
   ·rfl
  rw [hM]
  refine zW ?_;intros
  exact ret2 rfl rfl rfl Zb rfl
 ·obtain ⟨w,y,r,hk⟩:∃ w y r,x.kids=w::y::r:=by
   match hx:x.kids,(show 2≤x.kids.length by omega) with
   | w::y::r,_=>exact ⟨w,y,r,rfl⟩
  have hM:hdrM x=if y.kind=1 then (if Y5 y.text then .ok y.text else .error 8) else .error 2:=by unfold hdrM;rw [hk]
  have hk1:x.kids[1]?=some y:=by rw [hk];rfl
  refine zW ?_;intros
  refine zI ik hk1 (fun p hp=>?_)
  refine zL hp ?_
  intro cs hcs
  obtain ⟨vw,rfl,hw⟩:=Yh hcs
  refine zb Ydc (fun f1=>?_) (fun f1=>?_)
  ·rw [if_pos (Zt f1)] at hM
   refine zW ?_;intros
   refine zI ik hk1 (fun p2 hp2=>?_)
   refine zW ?_;intros
   refine zH hp2.Sexpr_text (fun hst=>?_)
   refine zW ?_;intros
   refine zb (Wk hst) (fun f2=>?_) (fun f2=>?_)
   ·rw [if_pos (Zt f2)] at hM
    rw [hM]
    refine zW ?_;intros
    refine zI ik hk1 (fun p3 hp3=>?_)
    refine zW ?_;intros
    refine zH hp3.Sexpr_text (fun hst3=>?_)
    refine zW ?_;intros
    exact ret2 rfl rfl rfl Zb rfl
   ·rw [if_neg (Zf f2)] at hM
    rw [hM]
    refine zW ?_;intros
    exact ret2 rfl rfl rfl Zb rfl
  ·rw [if_neg (Zf f1)] at hM
   rw [hM]
   refine zW ?_;intros
   exact ret2 rfl rfl rfl Zb rfl
def Yff (x:Sexpr):Except Int (List Param):=if x.kind=3 then parM true x.kids [] [] else .error 2
theorem dpar_f {x:Sexpr} (hs:XSm x) (h:YW fz x vk):GFn prog 143 [.agg #[.int .i64 x.kind,.int .i64 x.value,.int .i64 x.line,.int .i64 x.column,.string x.text,vk]] fz [] (fun r fz' H'=>H'=[]∧ResS paramL fz' (Yff x) r):=by
 obtain ⟨A,n,c,rfl,ik⟩:=h.kids
 have hl:=ik.len
 have hs1:x.kids.length≤1000000:=(Y8.1 hs).1
 refine zF Tryz.func143 Tryz.ntmps143 (fun w0=>?_)
 refine zW ?_;intros
 refine zC (fun c1=>?_) (fun c1=>?_)
 ·refine zW ?_;intros
  exact ret2 (H':=[]) rfl rfl rfl Zb ⟨rfl,by rw [Yff,if_neg c1];exact ⟨rfl,by decide⟩⟩
 ·refine zW ?_;intros
  refine Ya Zz (Ym [] _ Zz Zz Zz (Yar (b:=true) ik Zi) (fun r4 fz4 H4 hle4 hR4=>?_))
  obtain ⟨rfl,hR4⟩:=hR4
  obtain ⟨ra,rb,rfl⟩:=hR4.form
  refine zW ?_;intros
  exact ret2 (H':=[]) rfl rfl rfl Zb ⟨rfl,by rw [Yff,if_pos c1];exact hR4⟩
def YdB (x:Sexpr):Except Int Int:=if x.kind=2 then .ok x.value else .error 2
def intV (m:Except Int Int):Value:=match m with
 | .error c=>.tuple #[.int .i64 0,.iface 65 (.int .i64 c)]
 | .ok s=>.tuple #[.int .i64 s,.nilIface]
theorem YjE {x:Sexpr}:QFn prog 144 [.agg #[.int .i64 x.kind,.int .i64 x.value,.int .i64 x.line,.int .i64 x.column,.string x.text,vk]] fz (intV (YdB x)):=by
 refine GFn.quiet ?_
 refine zF Tryz.func144 Tryz.ntmps144 (fun w0=>?_)
 refine zW ?_;intros
 refine zC (fun c1=>?_) (fun c1=>?_)
 ·rw [YdB,if_neg c1]
  refine zW ?_;intros
  exact ret2 rfl rfl rfl Zb rfl
 ·rw [YdB,if_pos c1]
  refine zW ?_;intros
  exact ret2 rfl rfl rfl Zb rfl
def zeroPr:Predicate:=⟨⟨#[]⟩,[]⟩
theorem Yfz:predicateL.rep fz zeroPr [.string ⟨#[]⟩,.slice none 0 0]:=YaS (x:=zeroPr) ⟨XQ,IsSl.nil⟩
def Yix (x:Sexpr):Except Int Predicate:=match XF x with
 | none=>.error 2
 | some (w,r)=>if Y5 w then match parM true r [] [] with
  | .error c=>.error c
  | .ok l=>.ok ⟨w,l⟩
  else .error 8
theorem Yiw {x:Sexpr} (hs:XSm x) (h:YW fz x vk):GFn prog 93 [.agg #[.int .i64 x.kind,.int .i64 x.value,.int .i64 x.line,.int .i64 x.column,.string x.text,vk]] fz [] (fun r fz' H'=>H'=[]∧ResL predicateL fz' (Yix x) r):=by
 have hbeg:=YbZ h
 obtain ⟨A,n,c,rfl,ik⟩:=h.kids
 have hl:=ik.len
 have hM:Yix x=match XF x with
 | none=>.error 2
 | some (w,r)=>if Y5 w then match parM true r [] [] with
  | .error c=>.error c
  | .ok l=>.ok ⟨w,l⟩
  else .error 8:=rfl
 refine zF Tryz.func93 Tryz.ntmps93 (fun w0=>?_)
 refine zW ?_;intros
 cases hh:XF x with
 | none=>
  rw [hh] at hM hbeg
  refine zc hbeg ?_
  refine zW ?_;intros
  exact YQ T (vs:=[.agg #[.string ⟨#[]⟩,.slice none 0 0],.iface 65 (.int .i64 2)]) Zz ⟨⟨_,_,0,_,_,_,rfl,rfl,rfl,rfl,rfl,rfl⟩,rfl,trivial⟩ (fun fz3 hle3 hf3=>⟨rfl,ResL.err hM Zh Yfz⟩)
 | some wr=>
  obtain ⟨w,r⟩:=wr
  rw [hh] at hM hbeg
  simp only at hM
  obtain ⟨y,hk,rfl,hk3,hk1⟩:=XL hh
  have hrs:=Wm hs hh
  have hk0:x.kids[0]?=some y:=by rw [hk];rfl
  rw [hk,List.length_cons] at hl
  refine zc hbeg ?_
  refine zW ?_;intros
  refine zI ik hk0 (fun p hp=>?_)
  refine zW ?_;intros
  refine zH hp.Sexpr_text (fun hst=>?_)
  refine zW ?_;intros
  refine zb (Wk hst) (fun f1=>?_) (fun f1=>?_)
  ·rw [if_pos (Zt f1)] at hM
   refine zW ?_;intros
   refine zG ?_;refine Xu (j:=1) T Zz Zz Zz Zz Zz Zz ik Zi (fun A' hA'=>?_)
   rw [hk,List.drop_one,List.tail_cons] at hA'
   refine zW ?_;intros
   refine Ya Zz (Ym [] _ Zz Zz Zz (Yar (b:=true) hA' Zi) (fun r4 fz4 H4 hle4 hR4=>?_))
   obtain ⟨rfl,hR4⟩:=hR4
   cases hps:parM true r [] [] with
   | error c=>
    rw [hps] at hM hR4
    obtain ⟨rfl,hc⟩:=hR4
    rw [Yj hc]
    refine zW ?_;intros
    refine zI (ik.mono hle4) hk0 (fun p2 hp2=>?_)
    refine zW ?_;intros
    refine zH hp2.Sexpr_text (fun hst2=>?_)
    refine zW ?_;intros
    exact YQ T (vs:=[.agg #[.string y.text,.slice none 0 0],.iface 65 (.int .i64 c)]) Zz ⟨⟨_,_,0,_,_,_,rfl,rfl,rfl,rfl,rfl,rfl⟩,rfl,trivial⟩ (fun fz3 hle3 hf3=>⟨rfl,ResL.err hM hc (YaS (x:=⟨y.text,[]⟩) ⟨hst,IsSl.nil⟩)⟩)
   | ok l=>
    rw [hps] at hM hR4
    obtain ⟨A5,n5,c5,rfl,il⟩:=hR4
    refine zW ?_;intros
    refine zI (ik.mono hle4) hk0 (fun p2 hp2=>?_)
    refine zW ?_;intros
    refine zH hp2.Sexpr_text (fun hst2=>?_)
    refine zW ?_;intros
    exact YQ T (vs:=[.agg #[.string y.text,.slice A5 n5 c5],.nilIface]) Zz ⟨⟨_,_,0,_,_,_,rfl,rfl,rfl,rfl,rfl,rfl⟩,rfl,trivial⟩ (fun fz3 hle3 hf3=>⟨rfl,ResL.fine hM (YaS (x:=⟨y.text,l⟩) ⟨hst,⟨_,_,_,rfl,il.mono hle3⟩⟩)⟩)
  ·rw [if_neg (Zf f1)] at hM
   refine zW ?_;intros
   exact YQ T (vs:=[.agg #[.string ⟨#[]⟩,.slice none 0 0],.iface 65 (.int .i64 8)]) Zz ⟨⟨_,_,0,_,_,_,rfl,rfl,rfl,rfl,rfl,rfl⟩,rfl,trivial⟩ (fun fz3 hle3 hf3=>⟨rfl,ResL.err hM Zh Yfz⟩)
def zeroFu:Function:=⟨⟨#[]⟩,[],0,0⟩
theorem Ybo:functionL.rep fz zeroFu [.string ⟨#[]⟩,.slice none 0 0,.int .i64 0,.int .i64 0]:=Ybi (x:=zeroFu) ⟨XQ,IsSl.nil,i64z,i64z⟩
def funB (w:Bs) (r:List Sexpr) (u v:Sexpr):Except Int Function:=
 if u.kind=2∧v.kind=2 then (if Y5 w then match parM true (r.take (r.length - 2)) [] [] with
  | .error c=>.error c
  | .ok l=>.ok ⟨w,l,u.value,v.value⟩
  else .error 8) else .error 2
def funM (x:Sexpr):Except Int Function:=match XF x with
 | none=>.error 2
 | some (w,r)=>match r.reverse with
  | v::u::_=>funB w r u v
  | _=>.error 2
theorem rev_two {α:Type} {r:List α} {u v:α} (h1:r[r.length - 2]?=some u) (h2:r[r.length - 1]?=some v) (hl:2≤r.length):∃ t,r.reverse=v::u::t:=by
 have e1:r.reverse[0]?=some v:=by rw [List.getElem?_reverse Zi];exact h2
 have e2:r.reverse[1]?=some u:=by rw [List.getElem?_reverse Zi,show r.length - 1 - 1=r.length - 2 by omega];exact h1
 match hr:r.reverse with
 | []=>rw [hr] at e1;cases e1
 | [a]=>rw [hr] at e2;cases e2
 | a::b::t=>
  rw [hr] at e1 e2
  simp at e1 e2
  exact ⟨t,by rw [e1,e2]⟩
set_option maxHeartbeats 4000000 in
theorem Yko {x:Sexpr} (hs:XSm x) (h:YW fz x vk):GFn prog 94 [.agg #[.int .i64 x.kind,.int .i64 x.value,.int .i64 x.line,.int .i64 x.column,.string x.text,vk]] fz [] (fun r fz' H'=>H'=[]∧ResL functionL fz' (funM x) r):=by
 have hbeg:=YbZ h
 obtain ⟨A,n,c,rfl,ik⟩:=h.kids
 have hl:=ik.len
 have hM:funM x=match XF x with
 | none=>.error 2
 | some (w,r)=>match r.reverse with
  | v::u::_=>funB w r u v
  | _=>.error 2:=rfl
 refine zF Tryz.func94 Tryz.ntmps94 (fun w0=>?_)
 refine zW ?_;intros
 cases hh:XF x with
 | none=>
  rw [hh] at hM hbeg
  refine zc hbeg ?_
  refine zW ?_;intros
  exact YQ T (vs:=[.agg #[.string ⟨#[]⟩,.slice none 0 0,.int .i64 0,.int .i64 0],.iface 65 (.int .i64 2)]) Zz ⟨⟨_,_,0,_,_,_,rfl,rfl,rfl,rfl,rfl,rfl⟩,rfl,trivial⟩ (fun fz3 hle3 hf3=>⟨rfl,ResL.err hM Zh Ybo⟩)
 | some wr=>
  obtain ⟨w,r⟩:=wr
  rw [hh] at hM hbeg
  simp only at hM
  obtain ⟨y,hk,rfl,hk3,hk1⟩:=XL hh
  have hrs:=Wm hs hh
  have hk0:x.kids[0]?=some y:=by rw [hk];rfl
  have hl2:r.length+1=n:=by rw [hk,List.length_cons] at hl;omega
  refine zc hbeg ?_
  refine zW ?_;intros
  refine zC (fun c1=>?_) (fun c1=>?_)
  ·have hM2:funM x=.error 2:=by
    rw [hM]
    split
    ·rename_i e
     have:=congrArg List.length e
     rw [List.length_reverse] at this
     simp at this;omega
    ·rfl
   refine zW ?_;intros
   exact YQ T (vs:=[.agg #[.string ⟨#[]⟩,.slice none 0 0,.int .i64 0,.int .i64 0],.iface 65 (.int .i64 2)]) Zz ⟨⟨_,_,0,_,_,_,rfl,rfl,rfl,rfl,rfl,rfl⟩,rfl,trivial⟩ (fun fz3 hle3 hf3=>⟨rfl,ResL.err hM2 Zh Ybo⟩)
  ·obtain ⟨u,hu⟩:=Yn (l:=x.kids) (k:=n - 2) Zi
   obtain ⟨v,hv⟩:=Yn (l:=x.kids) (k:=n - 1) Zi
   have hu':r[r.length - 2]?=some u:=by rw [hk,show n - 2=(r.length - 2)+1 by omega,List.getElem?_cons_succ] at hu;exact hu
   have hv':r[r.length - 1]?=some v:=by rw [hk,show n - 1=(r.length - 1)+1 by omega,List.getElem?_cons_succ] at hv;exact hv
   obtain ⟨t,ht⟩:=rev_two hu' hv' Zi
   rw [ht] at hM
   simp only at hM
   refine zW ?_;intros
   refine zI ik hu (fun p hp=>?_)
   refine zW ?_;intros
   ((refine zG ?_);refine Xy T Zz Zz Zz hp.Sexpr_kind (fun i1=>?_))
   refine zC (fun c2=>?_) (fun c2=>?_)
   ·have hM2:funM x=.error 2:=by rw [hM,funB,if_neg (fun h=>c2 h.1)]
    refine zW ?_;intros
    exact YQ T (vs:=[.agg #[.string ⟨#[]⟩,.slice none 0 0,.int .i64 0,.int .i64 0],.iface 65 (.int .i64 2)]) Zz ⟨⟨_,_,0,_,_,_,rfl,rfl,rfl,rfl,rfl,rfl⟩,rfl,trivial⟩ (fun fz3 hle3 hf3=>⟨rfl,ResL.err hM2 Zh Ybo⟩)
   ·refine zW ?_;intros
    refine zI ik hv (fun p2 hp2=>?_)
    refine zW ?_;intros
    ((refine zG ?_);refine Xy T Zz Zz Zz hp2.Sexpr_kind (fun i2=>?_))
    refine zC (fun c3=>?_) (fun c3=>?_)
    ·have hM2:funM x=.error 2:=by rw [hM,funB,if_neg (fun h=>c3 h.2)]
     refine zW ?_;intros
     exact YQ T (vs:=[.agg #[.string ⟨#[]⟩,.slice none 0 0,.int .i64 0,.int .i64 0],.iface 65 (.int .i64 2)]) Zz ⟨⟨_,_,0,_,_,_,rfl,rfl,rfl,rfl,rfl,rfl⟩,rfl,trivial⟩ (fun fz3 hle3 hf3=>⟨rfl,ResL.err hM2 Zh Ybo⟩)
    ·rw [funB,if_pos ⟨c2,c3⟩] at hM
     refine zW ?_;intros
     refine zI ik hk0 (fun p3 hp3=>?_)
     refine zW ?_;intros
     refine zH hp3.Sexpr_text (fun hst=>?_)
     refine zW ?_;intros
     refine zb (Wk hst) (fun f1=>?_) (fun f1=>?_)
     ·rw [if_pos (Zt f1)] at hM
      refine zW ?_;intros
      refine zG ?_;refine Yis (j:=1) (m:=n - 2) T Zz Zz Zz Zz Zz Zz Zz Zi ik Zi Zi (fun A' hA'=>?_)
      rw [hk,List.drop_one,List.tail_cons] at hA'
      have hA':Sl Yy fz A' (n - 2 - 1) (c - 1) (r.take (r.length - 2)):=by rw [show r.length - 2=n - 2 - 1 by omega];exact hA'
      refine zW ?_;intros
      refine Ya Zz (Ym [] _ Zz Zz Zz (Yar (b:=true) hA' Zi) (fun r4 fz4 H4 hle4 hR4=>?_))
      obtain ⟨rfl,hR4⟩:=hR4
      cases hps:parM true (r.take (r.length - 2)) [] [] with
      | error c=>
       rw [hps] at hM hR4
       obtain ⟨rfl,hc⟩:=hR4
       rw [Yj hc]
       refine zW ?_;intros
       refine Wp.drawP [21] (Hq:=[_,_]) T.mixed Zj Zj Zb ?_
       refine zW ?_;intros
       refine zI (ik.mono hle4) hk0 (fun p5 hp5=>?_)
       refine zW ?_;intros
       refine zH hp5.Sexpr_text (fun hst5=>?_)
       refine zW ?_;intros
       refine zI (ik.mono hle4) hu (fun p6 hp6=>?_)
       refine zW ?_;intros
       ((refine zG ?_);refine Xy T Zz Zz Zz hp6.Sexpr_value (fun i6=>?_))
       refine zW ?_;intros
       refine zI (ik.mono hle4) hv (fun p7 hp7=>?_)
       refine zW ?_;intros
       ((refine zG ?_);refine Xy T Zz Zz Zz hp7.Sexpr_value (fun i7=>?_))
       refine zW ?_;intros
       refine PK.p Zz (fun fz'=>by first | exact X5 Zz rfl | exact Xx Zz rfl | exact YZ T Zz Zz Zz Zz Zz Zz rfl | exact Yaf Zz Zz (Xw Zi) rfl | exact YU T Zz Zz Zz rfl) ?_
       refine Ye ?_
       refine Ye ?_
       refine PK.done ⟨by kernel_rfl,?_⟩
       refine Yb Zz Zz ?_
       refine PoS.hard0 Zj (YP T Zz Zz Zz Zz Zz Zz ?_)
       refine Yb Zz Zz ?_
       refine PoS.hard Zj (DoesQ.does (YJ Zz ?_))
       refine Po.done ?_
       refine zW ?_;intros
       exact YQ T (vs:=[.agg #[.string y.text,.slice none 0 0,.int .i64 u.value,.int .i64 v.value],.iface 65 (.int .i64 c)]) Zz ⟨⟨_,_,0,_,_,_,rfl,rfl,rfl,rfl,rfl,rfl⟩,rfl,trivial⟩ (fun fz3 hle3 hf3=>⟨rfl,ResL.err hM hc (Ybi (x:=⟨y.text,[],u.value,v.value⟩) ⟨hst,IsSl.nil,i6,i7⟩)⟩)
      | ok l=>
       rw [hps] at hM hR4
       obtain ⟨A5,n5,c5,rfl,il⟩:=hR4
       refine zW ?_;intros
       refine Wp.drawP [21] (Hq:=[_,_]) T.mixed Zj Zj Zb ?_
       refine zW ?_;intros
       refine zI (ik.mono hle4) hk0 (fun p5 hp5=>?_)
       refine zW ?_;intros
       refine zH hp5.Sexpr_text (fun hst5=>?_)
       refine zW ?_;intros
       refine zI (ik.mono hle4) hu (fun p6 hp6=>?_)
       refine zW ?_;intros
       ((refine zG ?_);refine Xy T Zz Zz Zz hp6.Sexpr_value (fun i6=>?_))
       refine zW ?_;intros
       refine zI (ik.mono hle4) hv (fun p7 hp7=>?_)
       refine zW ?_;intros
       ((refine zG ?_);refine Xy T Zz Zz Zz hp7.Sexpr_value (fun i7=>?_))
       refine zW ?_;intros
       refine PK.p Zz (fun fz'=>by first | exact X5 Zz rfl | exact Xx Zz rfl | exact YZ T Zz Zz Zz Zz Zz Zz rfl | exact Yaf Zz Zz (Xw Zi) rfl | exact YU T Zz Zz Zz rfl) ?_
       refine Ye ?_
       refine Ye ?_
       refine PK.done ⟨by kernel_rfl,?_⟩
       refine Yb Zz Zz ?_
       refine PoS.hard0 Zj (YP T Zz Zz Zz Zz Zz Zz ?_)
       refine Yb Zz Zz ?_
       refine PoS.hard Zj (DoesQ.does (YJ Zz ?_))
       refine Po.done ?_
       refine zW ?_;intros
       exact YQ T (vs:=[.agg #[.string y.text,.slice A5 n5 c5,.int .i64 u.value,.int .i64 v.value],.nilIface]) Zz ⟨⟨_,_,0,_,_,_,rfl,rfl,rfl,rfl,rfl,rfl⟩,rfl,trivial⟩ (fun fz3 hle3 hf3=>⟨rfl,ResL.fine hM (Ybi (x:=⟨y.text,l,u.value,v.value⟩) ⟨hst,⟨_,_,_,rfl,il.mono hle3⟩,i6,i7⟩)⟩)
     ·rw [if_neg (Zf f1)] at hM
      refine zW ?_;intros
      exact YQ T (vs:=[.agg #[.string ⟨#[]⟩,.slice none 0 0,.int .i64 0,.int .i64 0],.iface 65 (.int .i64 8)]) Zz ⟨⟨_,_,0,_,_,_,rfl,rfl,rfl,rfl,rfl,rfl⟩,rfl,trivial⟩ (fun fz3 hle3 hf3=>⟨rfl,ResL.err hM Zh Ybo⟩)
def kwI (kw:List Bs) (s:Bs):Int:=Wt (fun y=>s=y) kw 0
theorem YhO {α:Type} {p:α→Prop}:∀ {l:List α} {k:Int},0≤k→Wt p l k<k+l.length
 | [],k,h=>by rw [Wt];simp;omega
 | x::r,k,h=>by
  have:=YhO (p:=p) (l:=r) (k:=k+1) Zi
  rw [Wt,List.length_cons]
  split<;>push_cast<;>omega
theorem YhP {α:Type} {p:α→Prop}:∀ {l:List α} {k:Int},0≤k→ -1≤Wt p l k
 | [],k,h=>by rw [Wt];omega
 | x::r,k,h=>by
  have:=YhP (p:=p) (l:=r) (k:=k+1) Zi
  rw [Wt]
  split<;>omega
theorem kwI_lt {kw:List Bs} {s:Bs}:kwI kw s<kw.length∧ -1≤kwI kw s:=by
 have h1:=YhO (p:=fun y=>s=y) (l:=kw) (Int.le_refl 0)
 have h2:=YhP (p:=fun y=>s=y) (l:=kw) (Int.le_refl 0)
 unfold kwI
 exact ⟨by omega,h2⟩
def prtM:List Bs→List Sexpr→List (Bs × Sexpr) × Bool
 | _,[]=>([],true)
 | _,[_]=>([],false)
 | kw,x::v::r=>if x.kind=1∧0≤kwI kw x.text then ((x.text,v)::(prtM (kw.drop ((kwI kw x.text).toNat+1)) r).1,(prtM (kw.drop ((kwI kw x.text).toNat+1)) r).2) else ([],false)
def preP (a:List (Bs × Sexpr)) (m:List (Bs × Sexpr) × Bool):List (Bs × Sexpr) × Bool:=(a++m.1,m.2)
def kwP (kw:List Bs) (x:Sexpr):Int:=if x.kind=1 then kwI kw x.text else -1
theorem Yls {kw:List Bs}:prtM kw []=([],true):=by unfold prtM;rfl
theorem Yjy {kw:List Bs} {x:Sexpr} {r:List Sexpr} (h:kwP kw x<0∨r=[]):prtM kw (x::r)=([],false):=by
 match r with
 | []=>rfl
 | v::r=>
  rw [prtM,if_neg]
  rintro ⟨h1,h2⟩
  rcases h with h | h
  ·rw [kwP,if_pos h1] at h;omega
  ·cases h
theorem Ylr {kw:List Bs} {x v:Sexpr} {r:List Sexpr} (h:0≤kwP kw x):prtM kw (x::v::r)=preP [(x.text,v)] (prtM (kw.drop ((kwP kw x).toNat+1)) r):=by
 unfold kwP at h ⊢
 split at h
 ·rename_i h1
  rw [if_pos h1,prtM,if_pos ⟨h1,h⟩];rfl
 ·omega
theorem Ylu {a b:List (Bs × Sexpr)} {m:List (Bs × Sexpr) × Bool}:preP a (preP b m)=preP (a++b) m:=by simp [preP]
def PrtR (fz:FZ) (m:List (Bs × Sexpr) × Bool) (v:Value):Prop:=∃ A n c A2 c2,v=.tuple #[.slice A n c,.slice A2 n c2,errV (if m.2 then 0 else 2)]∧Sl strL fz A n c (m.1.map Prod.fst)∧Sl Yy fz A2 n c2 (m.1.map Prod.snd)
variable {fz':FZ} {n:Nat}
theorem Yiv {vn vv:Value} {Hn Hv:HP} {out:List (Bs × Sexpr)} {m:List (Bs × Sexpr) × Bool} (hn:Grow strL 9 fz vn n Hn (out.map Prod.fst)) (hv:Grow Yy 57 fz vv n Hv (out.map Prod.snd)) (hle:Le fz fz') (hf:∀ p∈Hn++Hv,fz' p.1=some p.2) (hb:n≤1000000) (hm:m.1=out):PrtR fz' m (.tuple #[vn,vv,errV (if m.2 then 0 else 2)]):=by
 obtain ⟨A1,c1,rfl,h1⟩:=hn.sl hle (fun p hp=>hf p (List.mem_append_left _ hp)) Zi
 obtain ⟨A2,c2,rfl,h2⟩:=hv.sl hle (fun p hp=>hf p (List.mem_append_right _ hp)) Zi
 exact ⟨_,_,_,_,_,rfl,by rw [hm];exact h1,by rw [hm];exact h2⟩
variable {A:Option Addr} {c:Nat}
set_option maxHeartbeats 8000000 in
theorem Ylz {K:Option Addr} {kn kc:Nat} {l:List Sexpr} {kw:List Bs} (h:Sl Yy fz A n c l) (hk:Sl strL fz K kn kc kw) (hn:n≤1000000) (hkn:kn≤1000):
 GFn prog 142 [.slice A n c,.slice K kn kc] fz [] (fun r fz' H'=>H'=[]∧PrtR fz' (prtM kw l) r):=by
 have hl:=h.len
 have hkl:=hk.len
 refine zF Tryz.func142 Tryz.ntmps142 (fun w0=>?_)
 refine zW ?_;intros
 refine Yl (fun q σ fz' H'=>∃ (i nx:Nat) (vn vv:Value) (Hn Hv:HP) (out:List (Bs × Sexpr)),i≤n∧q=n - i∧σ=[(10,.int .i64 i),(9,.int .i64 nx),(8,vv),(7,vn),(1,.slice K kn kc),(0,.slice A n c)]∧fz=fz'∧H'=Hn++Hv∧Grow strL 9 fz vn out.length Hn (out.map Prod.fst)∧Grow Yy 57 fz vv out.length Hv (out.map Prod.snd)∧out.length≤i∧nx≤kn∧prtM kw l=preP out (prtM (kw.drop nx) (l.drop i))) ⟨0,0,_,_,[],[],[],Z0 _,rfl,rfl,rfl,rfl,Grow.nil _ _ _,Grow.nil _ _ _,Zs _,Z0 _,rfl⟩ Zw Zb ?_
 rintro q σ fz' H' ⟨i,nx,vn,vv,Hn,Hv,out,hi,rfl,rfl,rfl,rfl,hGn,hGv,hol,hnx,hM⟩
 obtain ⟨An,cn,rfl,_,_⟩:=hGn.form
 obtain ⟨Av,cv,rfl,_,_⟩:=hGv.form
 refine zW ?_;intros
 refine zC (fun c1=>?_) (fun c1=>?_)
 ·obtain ⟨x,hx⟩:=Yn (l:=l) (k:=i) Zi
  rw [Ybj hx] at hM
  refine zWX ?_;intros
  refine Yk ?_
  refine zWX ?_;intros
  refine Yk ?_
  refine zWX ?_;intros
  refine Yk (Wp.mid (fun σ fz' H'=>σ=[(11,.int .i64 (kwP (kw.drop nx) x)),(10,.int .i64 i),(9,.int .i64 nx),(8,.slice Av out.length cv),(7,.slice An out.length cn),(1,.slice K kn kc),(0,.slice A n c)]∧fz=fz'∧H'=Hn++Hv) ?_ ?_)
  ·refine zW ?_;intros
   refine zI h hx (fun p hp=>?_)
   refine zL hp ?_
   intro cs hcs
   obtain ⟨vx,rfl,hRx⟩:=Yh hcs
   refine zb Ydc (fun f1=>?_) (fun f1=>?_)
   ·refine zW ?_;intros
    refine zG ?_;refine Xu (j:=nx) T Zz Zz Zz Zz Zz Zz hk Zi (fun K' hK'=>?_)
    refine zW ?_;intros
    refine zI h hx (fun p2 hp2=>?_)
    refine zW ?_;intros
    refine zH hp2.Sexpr_text (fun hst2=>?_)
    refine zW ?_;intros
    refine zc (Yej (x:=x.text) hK') ?_
    refine zW ?_;intros
    exact midN ⟨by rw [kwP,if_pos (Zt f1),kwI],rfl,rfl⟩ Zw Zb
   ·refine zW ?_;intros
    exact midN ⟨by rw [kwP,if_neg (Zf f1)],rfl,rfl⟩ Zw Zb
  rintro σ fz' H' ⟨rfl,rfl,rfl⟩
  have hkI:=kwI_lt (kw:=kw.drop nx) (s:=x.text)
  rw [List.length_drop,hkl] at hkI
  have hkP:kwP (kw.drop nx) x<(kn - nx:Nat)∧ -1≤kwP (kw.drop nx) x:=by
   unfold kwP
   split
   ·exact hkI
   ·omega
  refine zW ?_;intros
  refine zC (fun c2=>?_) (fun c2=>?_)
  ·have hM2:prtM kw l=(out,false):=by rw [hM,Yjy (.inl c2)];simp [preP]
   refine zW ?_;intros
   refine YQ T (vs:=[.slice An out.length cn,.slice Av out.length cv,.iface 65 (.int .i64 2)]) Zz ⟨rfl,rfl,rfl,trivial⟩ (fun fz3 hle3 hf3=>⟨rfl,?_⟩)
   have:=Yiv hGn hGv hle3 hf3 Zi (m:=prtM kw l) (by rw [hM2])
   rw [hM2] at this ⊢
   exact this
  ·obtain ⟨kk,hkk⟩:=Int.eq_ofNat_of_zero_le (show 0≤kwP (kw.drop nx) x by omega)
   refine zW ?_;intros
   refine zC (fun c3=>?_) (fun c3=>?_)
   ·have hM2:prtM kw l=(out,false):=by rw [hM,Yjy (.inr (List.drop_eq_nil_of_le Zi))];simp [preP]
    refine zW ?_;intros
    refine YQ T (vs:=[.slice An out.length cn,.slice Av out.length cv,.iface 65 (.int .i64 2)]) Zz ⟨rfl,rfl,rfl,trivial⟩ (fun fz3 hle3 hf3=>⟨rfl,?_⟩)
    have:=Yiv hGn hGv hle3 hf3 Zi (m:=prtM kw l) (by rw [hM2])
    rw [hM2] at this ⊢
    exact this
   ·obtain ⟨y,hy⟩:=Yn (l:=l) (k:=i+1) Zi
    rw [Ybj hy,Ylr Zi,Ylu,List.drop_drop,hkk,Int.toNat_natCast] at hM
    rw [hkk]
    refine zWN ?_;intros
    refine Wp.drawP [] (Hq:=[]) T.mixed Zj Zj Zb ?_
    refine zW ?_;intros
    refine zI h hx (fun p3 hp3=>?_)
    refine zW ?_;intros
    refine zH hp3.Sexpr_text (fun hst3=>?_)
    refine zW ?_;intros
    refine Ye ?_
    refine Ye ?_
    refine zW ?_;intros
    refine zI h hy (fun p4 hp4=>?_)
    refine zL hp4 ?_
    intro cs4 hcs4
    obtain ⟨vy,rfl,hRy⟩:=Yh hcs4
    obtain ⟨Ay,ny,cy,rfl,_⟩:=hRy.kids
    refine Ye ?_
    refine Ye ?_
    refine Ye ?_
    refine Ye ?_
    refine PK.done ⟨by kernel_rfl,?_⟩
    refine YG Zz Zz Zz ?_ ?_
    ·refine Yd (Yc T (cs:=[.string x.text]) Zz Zz Zz Zz Zz Zz Zz Zz (fun gb=>⟨(⟨(Le.refl _),by intro p hp;cases hp⟩),?_⟩))
     refine YG Zz Zz Zz ?_ ?_
     ·refine Yd (YS T (d:=x.text) (cs:=[.string x.text]) (Hr:=(gb,_)::Hv) Zz Zz Zz Zz Zz Zz Zz Zz (List.Perm.cons _ Zq) hGn Ycn (.head _) ⟨rfl,hst3⟩ (by show _*16≤_;omega) Zi (fun v1 Hs1 hG1=>⟨(⟨(Le.refl _),by intro p hp;cases hp⟩),?_⟩))
      refine Yb Zz Zz ?_
      refine Yd (Yc T (cs:=[.int .i64 y.kind,.int .i64 y.value,.int .i64 y.line,.int .i64 y.column,.string y.text,.slice Ay ny cy]) Zz Zz Zz Zz Zz Zz Zz Zz (fun gc=>⟨(⟨(Le.refl _),by intro p hp;cases hp⟩),?_⟩))
      refine Yb Zz Zz ?_
      refine Yd (YS T (d:=y) (cs:=[.int .i64 y.kind,.int .i64 y.value,.int .i64 y.line,.int .i64 y.column,.string y.text,.slice Ay ny cy]) (Hr:=(gc,_)::(gb,_)::Hs1) Zz Zz Zz Zz Zz Zz Zz Zz (List.Perm.cons _ (List.Perm.cons _ Zq)) hGv Yet (.head _) hcs4 (by show _*72≤_;omega) Zi (fun v2 Hs2 hG2=>⟨(⟨(Le.refl _),by intro p hp;cases hp⟩),?_⟩))
      refine Yb Zz Zz ?_
      refine PoS.qk (⟨(Le.refl _),by intro p hp;cases hp⟩) (YJ Zz ?_)
      refine Yb Zz Zz ?_
      refine PoS.qk (⟨(Le.refl _),by intro p hp;cases hp⟩) (YJ Zz ?_)
      refine Po.done ?_
      refine zW ?_;intros
      exact Yz (H':=Hs1++Hs2) ⟨i+2,nx+(kk+1),v1,v2,Hs1,Hs2,out++ [(x.text,y)],by omega,rfl,rfl,rfl,rfl,hG1.of (by simp) (by simp),hG2.of (by simp) (by simp),by simp;omega,by omega,hM⟩ Zi Zw Zb
     ·refine Yd (Yc T (cs:=[.int .i64 y.kind,.int .i64 y.value,.int .i64 y.line,.int .i64 y.column,.string y.text,.slice Ay ny cy]) Zz Zz Zz Zz Zz Zz Zz Zz (fun gc=>⟨(⟨(Le.refl _),by intro p hp;cases hp⟩),?_⟩))
      refine Yb Zz Zz ?_
      refine Yd (YS T (d:=x.text) (cs:=[.string x.text]) (Hr:=(gc,_)::(gb,_)::Hv) Zz Zz Zz Zz Zz Zz Zz Zz (List.Perm.cons _ (List.Perm.cons _ Zq)) hGn Ycn (.tail _ (.head _)) ⟨rfl,hst3⟩ (by show _*16≤_;omega) Zi (fun v1 Hs1 hG1=>⟨(⟨(Le.refl _),by intro p hp;cases hp⟩),?_⟩))
      refine Yb Zz Zz ?_
      refine Yd (YS T (d:=y) (cs:=[.int .i64 y.kind,.int .i64 y.value,.int .i64 y.line,.int .i64 y.column,.string y.text,.slice Ay ny cy]) (Hr:=(gc,_)::(gb,_)::Hs1) Zz Zz Zz Zz Zz Zz Zz Zz (List.Perm.cons _ (List.Perm.cons _ Zq)) hGv Yet (.head _) hcs4 (by show _*72≤_;omega) Zi (fun v2 Hs2 hG2=>⟨(⟨(Le.refl _),by intro p hp;cases hp⟩),?_⟩))
      refine Yb Zz Zz ?_
      refine PoS.qk (⟨(Le.refl _),by intro p hp;cases hp⟩) (YJ Zz ?_)
      refine Yb Zz Zz ?_
      refine PoS.qk (⟨(Le.refl _),by intro p hp;cases hp⟩) (YJ Zz ?_)
      refine Po.done ?_
      refine zW ?_;intros
      exact Yz (H':=Hs1++Hs2) ⟨i+2,nx+(kk+1),v1,v2,Hs1,Hs2,out++ [(x.text,y)],by omega,rfl,rfl,rfl,rfl,hG1.of (by simp) (by simp),hG2.of (by simp) (by simp),by simp;omega,by omega,hM⟩ Zi Zw Zb
    ·refine Yd (Yc T (cs:=[.int .i64 y.kind,.int .i64 y.value,.int .i64 y.line,.int .i64 y.column,.string y.text,.slice Ay ny cy]) Zz Zz Zz Zz Zz Zz Zz Zz (fun gc=>⟨(⟨(Le.refl _),by intro p hp;cases hp⟩),?_⟩))
     refine Yb Zz Zz ?_
     refine Yd (Yc T (cs:=[.string x.text]) Zz Zz Zz Zz Zz Zz Zz Zz (fun gb=>⟨(⟨(Le.refl _),by intro p hp;cases hp⟩),?_⟩))
     refine Yb Zz Zz ?_
     refine Yd (YS T (d:=x.text) (cs:=[.string x.text]) (Hr:=(gb,_)::(gc,_)::Hv) Zz Zz Zz Zz Zz Zz Zz Zz (List.Perm.cons _ (List.Perm.cons _ Zq)) hGn Ycn (.head _) ⟨rfl,hst3⟩ (by show _*16≤_;omega) Zi (fun v1 Hs1 hG1=>⟨(⟨(Le.refl _),by intro p hp;cases hp⟩),?_⟩))
     refine Yb Zz Zz ?_
     refine Yd (YS T (d:=y) (cs:=[.int .i64 y.kind,.int .i64 y.value,.int .i64 y.line,.int .i64 y.column,.string y.text,.slice Ay ny cy]) (Hr:=(gb,_)::(gc,_)::Hs1) Zz Zz Zz Zz Zz Zz Zz Zz (List.Perm.cons _ (List.Perm.cons _ Zq)) hGv Yet (.tail _ (.head _)) hcs4 (by show _*72≤_;omega) Zi (fun v2 Hs2 hG2=>⟨(⟨(Le.refl _),by intro p hp;cases hp⟩),?_⟩))
     refine Yb Zz Zz ?_
     refine PoS.qk (⟨(Le.refl _),by intro p hp;cases hp⟩) (YJ Zz ?_)
     refine Yb Zz Zz ?_
     refine PoS.qk (⟨(Le.refl _),by intro p hp;cases hp⟩) (YJ Zz ?_)
     refine Po.done ?_
     refine zW ?_;intros
     exact Yz (H':=Hs1++Hs2) ⟨i+2,nx+(kk+1),v1,v2,Hs1,Hs2,out++ [(x.text,y)],by omega,rfl,rfl,rfl,rfl,hG1.of (by simp) (by simp),hG2.of (by simp) (by simp),by simp;omega,by omega,hM⟩ Zi Zw Zb
 ·rw [show l.drop i=[] from List.drop_eq_nil_of_le Zi,Yls] at hM
  refine zW ?_;intros
  refine YQ T (vs:=[.slice An out.length cn,.slice Av out.length cv,.nilIface]) Zz ⟨rfl,rfl,rfl,trivial⟩ (fun fz3 hle3 hf3=>⟨rfl,?_⟩)
  have:=Yiv hGn hGv hle3 hf3 Zi (m:=prtM kw l) (by rw [hM];simp [preP])
  rw [hM] at this ⊢
  exact this
def lsO (v:Value):Obj:=.cells #[.int .i64 3,.int .i64 0,.int .i64 0,.int .i64 0,.string ⟨#[]⟩,v] 57 (0,0)
def Ybp:List Value:=[.int .i64 0,.int .i64 0,.int .i64 0,.int .i64 0,.string ⟨#[]⟩,.slice none 0 0]
theorem WG:Yy.rep fz YgX Ybp:=Yg (x:=YgX) ⟨X6,X6,X6,X6,Xq,IsSl.nil⟩
theorem set2 {α:Type} {l:List α} {z w y:α} (hn:l.length=n):((l++ [z,z]).set n w).set (n+1) y=l++ [w,y]:=by
 subst hn
 rw [List.set_append_right _ _ (Zs _),Nat.sub_self,List.set_append_right _ _ Zi,Nat.add_sub_cancel_left]
 rfl
theorem set1 {α:Type} {l:List α} {z w:α} (hn:l.length=n):(l++ [z]).set n w=l++ [w]:=by
 subst hn
 rw [List.set_append_right _ _ (Zs _),Nat.sub_self]
 rfl
def PartR (gx n:Nat) (l:List Sexpr) (fz:FZ) (v:Value) (fz':FZ) (H':HP):Prop:=v=.tuple #[]∧Le fz fz'∧∃ (v':Value) (n':Nat) (Hs':HP),H'=(gx,lsO v')::Hs'∧Grow Yy 57 fz' v' n' Hs' l∧n'≤n+2
variable {Hs:HP} {v:Value}
set_option maxHeartbeats 2000000 in
theorem Yca {gx:Nat} {vy:Value} {l:List Sexpr} {mi:Bool} {kw:Bs} {y:Sexpr} (hG:Grow Yy 57 fz v n Hs l) (hY:YW fz y vy) (hkw:Short kw) (hn:n≤100000000000):
 GFn prog 102 [.pointer (some ⟨gx,0,none⟩),.bool mi,.string kw,.agg #[.int .i64 y.kind,.int .i64 y.value,.int .i64 y.line,.int .i64 y.column,.string y.text,vy]] fz ((gx,lsO v)::Hs) (PartR gx n (l++if mi=true then [] else [Yi kw,y]) fz):=by
 obtain ⟨Ay,ny,cy,rfl,_⟩:=hY.kids
 have hlen:=hG.len
 obtain ⟨Av,cv,rfl,_,_⟩:=hG.form
 unfold lsO
 refine zF Tryz.func102 Tryz.ntmps102 (fun w0=>?_)
 cases mi
 ·refine Yk (Yr (Ya Zz (Xc _ Zz Zz (fun g7=>?_))))
  refine zW ?_;intros
  refine Wp.drawP [12,15,16] (Hq:=[(g7,_),(gx,_)]) T.mixed Zj Zj Zb ?_
  refine zW ?_;intros
  refine zc (WY (s:=kw)) ?_
  refine zW ?_;intros
  refine Ye ?_
  refine Ye ?_
  refine Ye ?_
  refine Ye ?_
  refine PK.p Zz (fun fz'=>by first | exact X5 Zz rfl | exact Xx Zz rfl | exact YZ T Zz Zz Zz Zz Zz Zz rfl | exact Yaf Zz Zz (Xw Zi) rfl | exact YU T Zz Zz Zz rfl) ?_
  refine Ye ?_
  refine Ye ?_
  refine PK.p Zz (fun fz'=>by first | exact X5 Zz rfl | exact Xx Zz rfl | exact YZ T Zz Zz Zz Zz Zz Zz rfl | exact Yaf Zz Zz (Xw Zi) rfl | exact YU T Zz Zz Zz rfl) ?_
  refine PK.p Zz (fun fz'=>by first | exact X5 Zz rfl | exact Xx Zz rfl | exact YZ T Zz Zz Zz Zz Zz Zz rfl | exact Yaf Zz Zz (Xw Zi) rfl | exact YU T Zz Zz Zz rfl) ?_
  refine Ye ?_
  refine PK.done ⟨by kernel_rfl,?_⟩
  refine Yb Zz Zz ?_
  refine Yd (Yc T (cs:=Ybp++Ybp) Zz Zz Zz Zz Zz Zz Zz Zz (fun gb=>⟨(⟨Le.refl _,Zx⟩),?_⟩))
  refine Yb Zz Zz ?_
  refine Yd (YhG T (Hr:=[_,_,_]) (ys:=[(YgX,Ybp),(YgX,Ybp)]) (l2:=[YgX,YgX]) (m:=2) Zz Zz Zz Zz Zz Zz Zz Zz (Zr _) hG Ys (.head _) rfl rfl (by intro p hp;simp at hp;subst hp;exact WG) rfl (by show _*72≤_;omega) Zi (fun v' Hs' hO'=>⟨(⟨Le.refl _,Zx⟩),?_⟩))
  obtain ⟨gk,cap,cur,rfl,rfl,hB⟩:=hO'.b Zi
  refine YG Zz Zz Zz ?_ ?_
  ·refine PoS.hard Zj (DoesQ.does (YC T Zz Zz Zz Zz Zz rfl Zi Zi ?_))
   refine YG Zz Zz Zz ?_ ?_
   ·refine PoS.hard0 Zj (Yx T (pre:=[_,_,_]) (L:=Yy) (j:=n) Zz Zz Zz rfl rfl Zz Ys (Yu hkw) hB Zi (fun cur1 hB1=>?_))
    refine YG Zz Zz Zz ?_ ?_
    ·refine PoS.hard Zj (DoesQ.does (YC T Zz Zz Zz Zz Zz rfl Zi Zi ?_))
     refine YG Zz Zz Zz ?_ ?_
     ·refine PoS.hard0 Zj (Yx T (pre:=[_,_,_]) (L:=Yy) (j:=n+1) Zz Zz Zz rfl rfl Zz Ys (Yg hY) hB1 Zi (fun cur2 hB2=>?_))
      refine Yb Zz Zz ?_
      refine PoS.hard0 Zj (Wa T Zz Zz Zz Zz Zz Zz ?_)
      refine Po.done ?_
      refine zW ?_;intros
      exact Yap rfl (H':=[(gx,lsO _),(gk,.cells (List.toArray cur2) 57 (0,0))]) Zb ⟨rfl,Le.refl _,_,_,[_],rfl,hB2.grow.of (by rw [set2 hlen];rfl) rfl,by omega⟩
     ·refine PoS.hard0 Zj (Wa T Zz Zz Zz Zz Zz Zz ?_)
      refine Yb Zz Zz ?_
      refine PoS.hard0 Zj (Yx T (pre:=[_,_,_]) (L:=Yy) (j:=n+1) Zz Zz Zz rfl rfl Zz Ys (Yg hY) hB1 Zi (fun cur2 hB2=>?_))
      refine Po.done ?_
      refine zW ?_;intros
      exact Yap rfl (H':=[(gx,lsO _),(gk,.cells (List.toArray cur2) 57 (0,0))]) Zb ⟨rfl,Le.refl _,_,_,[_],rfl,hB2.grow.of (by rw [set2 hlen];rfl) rfl,by omega⟩
    ·refine PoS.hard0 Zj (Wa T Zz Zz Zz Zz Zz Zz ?_)
     refine Yb Zz Zz ?_
     refine PoS.hard Zj (DoesQ.does (YC T Zz Zz Zz Zz Zz rfl Zi Zi ?_))
     refine Yb Zz Zz ?_
     refine PoS.hard0 Zj (Yx T (pre:=[_,_,_]) (L:=Yy) (j:=n+1) Zz Zz Zz rfl rfl Zz Ys (Yg hY) hB1 Zi (fun cur2 hB2=>?_))
     refine Po.done ?_
     refine zW ?_;intros
     exact Yap rfl (H':=[(gx,lsO _),(gk,.cells (List.toArray cur2) 57 (0,0))]) Zb ⟨rfl,Le.refl _,_,_,[_],rfl,hB2.grow.of (by rw [set2 hlen];rfl) rfl,by omega⟩
   ·refine PoS.hard0 Zj (Wa T Zz Zz Zz Zz Zz Zz ?_)
    refine Yb Zz Zz ?_
    refine PoS.hard0 Zj (Yx T (pre:=[_,_,_]) (L:=Yy) (j:=n) Zz Zz Zz rfl rfl Zz Ys (Yu hkw) hB Zi (fun cur1 hB1=>?_))
    refine Yb Zz Zz ?_
    refine PoS.hard Zj (DoesQ.does (YC T Zz Zz Zz Zz Zz rfl Zi Zi ?_))
    refine Yb Zz Zz ?_
    refine PoS.hard0 Zj (Yx T (pre:=[_,_,_]) (L:=Yy) (j:=n+1) Zz Zz Zz rfl rfl Zz Ys (Yg hY) hB1 Zi (fun cur2 hB2=>?_))
    refine Po.done ?_
    refine zW ?_;intros
    exact Yap rfl (H':=[(gx,lsO _),(gk,.cells (List.toArray cur2) 57 (0,0))]) Zb ⟨rfl,Le.refl _,_,_,[_],rfl,hB2.grow.of (by rw [set2 hlen];rfl) rfl,by omega⟩
  ·refine PoS.hard0 Zj (Wa T Zz Zz Zz Zz Zz Zz ?_)
   refine Yb Zz Zz ?_
   refine PoS.hard Zj (DoesQ.does (YC T Zz Zz Zz Zz Zz rfl Zi Zi ?_))
   refine Yb Zz Zz ?_
   refine PoS.hard0 Zj (Yx T (pre:=[_,_,_]) (L:=Yy) (j:=n) Zz Zz Zz rfl rfl Zz Ys (Yu hkw) hB Zi (fun cur1 hB1=>?_))
   refine Yb Zz Zz ?_
   refine PoS.hard Zj (DoesQ.does (YC T Zz Zz Zz Zz Zz rfl Zi Zi ?_))
   refine Yb Zz Zz ?_
   refine PoS.hard0 Zj (Yx T (pre:=[_,_,_]) (L:=Yy) (j:=n+1) Zz Zz Zz rfl rfl Zz Ys (Yg hY) hB1 Zi (fun cur2 hB2=>?_))
   refine Po.done ?_
   refine zW ?_;intros
   exact Yap rfl (H':=[(gx,lsO _),(gk,.cells (List.toArray cur2) 57 (0,0))]) Zb ⟨rfl,Le.refl _,_,_,[_],rfl,hB2.grow.of (by rw [set2 hlen];rfl) rfl,by omega⟩
 ·refine Yk (Yr (Ya Zz (Xc _ Zz Zz (fun g7=>?_))))
  refine zW ?_;intros
  exact Yap rfl (H':=(gx,lsO _)::Hs) Zb ⟨rfl,Le.refl _,_,_,Hs,rfl,hG.of (by simp) rfl,by omega⟩
variable {B:Option Addr}
set_option maxHeartbeats 2000000 in
theorem Ygw {gx m:Nat} {l ks:List Sexpr} {kw:Bs} (hG:Grow Yy 57 fz v n Hs l) (hK:Sl Yy fz B m c ks) (hkw:Short kw) (hn:n≤100000000000) (hm:m≤100000000000):
 GFn prog 49 [.pointer (some ⟨gx,0,none⟩),.string kw,.slice B m c] fz ((gx,lsO v)::Hs) (PartR gx n (l++if ks=[] then [] else [YF (Yi kw::ks)]) fz):=by
 have hlen:=hG.len
 obtain ⟨Av,cv,rfl,_,_⟩:=hG.form
 unfold lsO
 refine zF Tryz.func49 Tryz.ntmps49 (fun w0=>?_)
 refine zW ?_;intros
 refine zC (fun c0=>?_) (fun c0=>?_)
 ·have hks:ks≠ []:=(Yag hK.len).1 c0
  refine zW ?_;intros
  refine Wp.drawP [15,16] (Hq:=[(gx,_)]) T.mixed Zj Zj Zb ?_
  refine zW ?_;intros
  refine zc (WY (s:=kw)) ?_
  refine Ye ?_
  refine zW ?_;intros
  refine Ye ?_
  refine Ye ?_
  refine zW ?_;intros
  refine Ye ?_
  refine Ye ?_
  refine Ye ?_
  refine Ye ?_
  refine PK.p Zz (fun fz'=>by first | exact X5 Zz rfl | exact Xx Zz rfl | exact YZ T Zz Zz Zz Zz Zz Zz rfl | exact Yaf Zz Zz (Xw Zi) rfl | exact YU T Zz Zz Zz rfl) ?_
  refine PK.p Zz (fun fz'=>by first | exact X5 Zz rfl | exact Xx Zz rfl | exact YZ T Zz Zz Zz Zz Zz Zz rfl | exact Yaf Zz Zz (Xw Zi) rfl | exact YU T Zz Zz Zz rfl) ?_
  refine Ye ?_
  refine PK.done ⟨by kernel_rfl,?_⟩
  refine YG Zz Zz Zz ?_ ?_
  ·refine Yd (Yc T (cs:=Yq kw) Zz Zz Zz Zz Zz Zz Zz Zz (fun gb1=>⟨(⟨Le.refl _,Zx⟩),?_⟩))
   refine YG Zz Zz Zz ?_ ?_
   ·refine Yd (WF T (n:=1) (l:=[Yi kw]) (Hr:=(gx,_)::Hs) (Hs:=[(gb1,_)]) Zz Zz Zz Zz Zz Zz Zz Zz (List.perm_append_singleton _ _).symm (Grow.block (ys:=[(Yi kw,Yq kw)]) rfl rfl (by simpa using Yu hkw) rfl Zh) Ys hK (by show _*72≤_;omega) Zi (fun v1 Hs1 hO1=>⟨(⟨Le.refl _,Zx⟩),?_⟩))
    obtain ⟨A1,c1,rfl,_,_⟩:=hO1.form
    refine YG Zz Zz Zz ?_ ?_
    ·refine PoS.qk (⟨Le.refl _,Zx⟩) (Yw Zz Zz Xk ?_)
     unfold sxV
     refine Yb Zz Zz ?_
     refine Yd (Yc T (cs:=Ybp) Zz Zz Zz Zz Zz Zz Zz Zz (fun gz=>⟨(⟨Le.refl _,Zx⟩),?_⟩))
     refine Yb Zz Zz ?_
     refine PoS.hard Zj (Does.freezeAll (H1:=(gz,_)::(gx,_)::Hs) (H2:=Hs1) (Zr _) (fun fz2 hl2 hf2=>YS T (Hr:=[_,_]) Zz Zz Zz Zz Zz Zz Zz Zz (Zr _) (hG.mono hl2) Ys (.head _) WG (by show _*72≤_;omega) Zi (fun v' Hs' hO'=>?_)))
     obtain ⟨gk,cap,cur,rfl,rfl,hB⟩:=hO'.b Zi
     obtain ⟨A2,c2,he2,hsl⟩:=hO1.sl hl2 hf2 Zi
     injection he2 with e1 e2 e3
     subst e1 e3
     have hX:YW fz2 (YF (Yi kw::ks)) (.slice A1 (1+m) c1):=⟨YeT,X6,X6,X6,Xq,hsl.is⟩
     refine YG Zz Zz Zz ?_ ?_
     ·refine PoS.hard Zj (DoesQ.does (YC T Zz Zz Zz Zz Zz rfl Zi Zi ?_))
      refine YG Zz Zz Zz ?_ ?_
      ·refine PoS.hard0 Zj (Yx T (pre:=[_,_]) (L:=Yy) (j:=n) Zz Zz Zz rfl rfl Zz Ys (Yg (x:=YF (Yi kw::ks)) hX) hB Zi (fun cur1 hB1=>?_))
       refine Yb Zz Zz ?_
       refine PoS.hard0 Zj (YN T Zz Zz Zz Zz Zz Zz ?_)
       refine Po.done ?_
       refine zW ?_;intros
       exact Yap rfl (H':=[(gx,lsO _),(gk,.cells (List.toArray cur1) 57 (0,0))]) Zb ⟨rfl,hl2,_,_,[_],rfl,hB1.grow.of (by rw [set1 hlen,if_neg hks]) rfl,by omega⟩
      ·refine PoS.hard0 Zj (YN T Zz Zz Zz Zz Zz Zz ?_)
       refine Yb Zz Zz ?_
       refine PoS.hard0 Zj (Yx T (pre:=[_,_]) (L:=Yy) (j:=n) Zz Zz Zz rfl rfl Zz Ys (Yg (x:=YF (Yi kw::ks)) hX) hB Zi (fun cur1 hB1=>?_))
       refine Po.done ?_
       refine zW ?_;intros
       exact Yap rfl (H':=[(gx,lsO _),(gk,.cells (List.toArray cur1) 57 (0,0))]) Zb ⟨rfl,hl2,_,_,[_],rfl,hB1.grow.of (by rw [set1 hlen,if_neg hks]) rfl,by omega⟩
     ·refine PoS.hard0 Zj (YN T Zz Zz Zz Zz Zz Zz ?_)
      refine Yb Zz Zz ?_
      refine PoS.hard Zj (DoesQ.does (YC T Zz Zz Zz Zz Zz rfl Zi Zi ?_))
      refine Yb Zz Zz ?_
      refine PoS.hard0 Zj (Yx T (pre:=[_,_]) (L:=Yy) (j:=n) Zz Zz Zz rfl rfl Zz Ys (Yg (x:=YF (Yi kw::ks)) hX) hB Zi (fun cur1 hB1=>?_))
      refine Po.done ?_
      refine zW ?_;intros
      exact Yap rfl (H':=[(gx,lsO _),(gk,.cells (List.toArray cur1) 57 (0,0))]) Zb ⟨rfl,hl2,_,_,[_],rfl,hB1.grow.of (by rw [set1 hlen,if_neg hks]) rfl,by omega⟩
    ·refine Yd (Yc T (cs:=Ybp) Zz Zz Zz Zz Zz Zz Zz Zz (fun gz=>⟨(⟨Le.refl _,Zx⟩),?_⟩))
     refine Yb Zz Zz ?_
     refine PoS.qk (⟨Le.refl _,Zx⟩) (Yw Zz Zz Xk ?_)
     unfold sxV
     refine Yb Zz Zz ?_
     refine PoS.hard Zj (Does.freezeAll (H1:=(gz,_)::(gx,_)::Hs) (H2:=Hs1) (Zr _) (fun fz2 hl2 hf2=>YS T (Hr:=[_,_]) Zz Zz Zz Zz Zz Zz Zz Zz (Zr _) (hG.mono hl2) Ys (.head _) WG (by show _*72≤_;omega) Zi (fun v' Hs' hO'=>?_)))
     obtain ⟨gk,cap,cur,rfl,rfl,hB⟩:=hO'.b Zi
     obtain ⟨A2,c2,he2,hsl⟩:=hO1.sl hl2 hf2 Zi
     injection he2 with e1 e2 e3
     subst e1 e3
     have hX:YW fz2 (YF (Yi kw::ks)) (.slice A1 (1+m) c1):=⟨YeT,X6,X6,X6,Xq,hsl.is⟩
     refine YG Zz Zz Zz ?_ ?_
     ·refine PoS.hard Zj (DoesQ.does (YC T Zz Zz Zz Zz Zz rfl Zi Zi ?_))
      refine YG Zz Zz Zz ?_ ?_
      ·refine PoS.hard0 Zj (Yx T (pre:=[_,_]) (L:=Yy) (j:=n) Zz Zz Zz rfl rfl Zz Ys (Yg (x:=YF (Yi kw::ks)) hX) hB Zi (fun cur1 hB1=>?_))
       refine Yb Zz Zz ?_
       refine PoS.hard0 Zj (YN T Zz Zz Zz Zz Zz Zz ?_)
       refine Po.done ?_
       refine zW ?_;intros
       exact Yap rfl (H':=[(gx,lsO _),(gk,.cells (List.toArray cur1) 57 (0,0))]) Zb ⟨rfl,hl2,_,_,[_],rfl,hB1.grow.of (by rw [set1 hlen,if_neg hks]) rfl,by omega⟩
      ·refine PoS.hard0 Zj (YN T Zz Zz Zz Zz Zz Zz ?_)
       refine Yb Zz Zz ?_
       refine PoS.hard0 Zj (Yx T (pre:=[_,_]) (L:=Yy) (j:=n) Zz Zz Zz rfl rfl Zz Ys (Yg (x:=YF (Yi kw::ks)) hX) hB Zi (fun cur1 hB1=>?_))
       refine Po.done ?_
       refine zW ?_;intros
       exact Yap rfl (H':=[(gx,lsO _),(gk,.cells (List.toArray cur1) 57 (0,0))]) Zb ⟨rfl,hl2,_,_,[_],rfl,hB1.grow.of (by rw [set1 hlen,if_neg hks]) rfl,by omega⟩
     ·refine PoS.hard0 Zj (YN T Zz Zz Zz Zz Zz Zz ?_)
      refine Yb Zz Zz ?_
      refine PoS.hard Zj (DoesQ.does (YC T Zz Zz Zz Zz Zz rfl Zi Zi ?_))
      refine Yb Zz Zz ?_
      refine PoS.hard0 Zj (Yx T (pre:=[_,_]) (L:=Yy) (j:=n) Zz Zz Zz rfl rfl Zz Ys (Yg (x:=YF (Yi kw::ks)) hX) hB Zi (fun cur1 hB1=>?_))
      refine Po.done ?_
      refine zW ?_;intros
      exact Yap rfl (H':=[(gx,lsO _),(gk,.cells (List.toArray cur1) 57 (0,0))]) Zb ⟨rfl,hl2,_,_,[_],rfl,hB1.grow.of (by rw [set1 hlen,if_neg hks]) rfl,by omega⟩
   ·refine Yd (Yc T (cs:=Ybp) Zz Zz Zz Zz Zz Zz Zz Zz (fun gz=>⟨(⟨Le.refl _,Zx⟩),?_⟩))
    refine Yb Zz Zz ?_
    refine Yd (WF T (n:=1) (l:=[Yi kw]) (Hr:=(gz,_)::(gx,_)::Hs) (Hs:=[(gb1,_)]) Zz Zz Zz Zz Zz Zz Zz Zz (List.Perm.cons _ (List.perm_append_singleton _ _).symm) (Grow.block (ys:=[(Yi kw,Yq kw)]) rfl rfl (by simpa using Yu hkw) rfl Zh) Ys hK (by show _*72≤_;omega) Zi (fun v1 Hs1 hO1=>⟨(⟨Le.refl _,Zx⟩),?_⟩))
    obtain ⟨A1,c1,rfl,_,_⟩:=hO1.form
    refine Yb Zz Zz ?_
    refine PoS.qk (⟨Le.refl _,Zx⟩) (Yw Zz Zz Xk ?_)
    unfold sxV
    refine Yb Zz Zz ?_
    refine PoS.hard Zj (Does.freezeAll (H1:=(gz,_)::(gx,_)::Hs) (H2:=Hs1) (Zr _) (fun fz2 hl2 hf2=>YS T (Hr:=[_,_]) Zz Zz Zz Zz Zz Zz Zz Zz (Zr _) (hG.mono hl2) Ys (.head _) WG (by show _*72≤_;omega) Zi (fun v' Hs' hO'=>?_)))
    obtain ⟨gk,cap,cur,rfl,rfl,hB⟩:=hO'.b Zi
    obtain ⟨A2,c2,he2,hsl⟩:=hO1.sl hl2 hf2 Zi
    injection he2 with e1 e2 e3
    subst e1 e3
    have hX:YW fz2 (YF (Yi kw::ks)) (.slice A1 (1+m) c1):=⟨YeT,X6,X6,X6,Xq,hsl.is⟩
    refine YG Zz Zz Zz ?_ ?_
    ·refine PoS.hard Zj (DoesQ.does (YC T Zz Zz Zz Zz Zz rfl Zi Zi ?_))
     refine YG Zz Zz Zz ?_ ?_
     ·refine PoS.hard0 Zj (Yx T (pre:=[_,_]) (L:=Yy) (j:=n) Zz Zz Zz rfl rfl Zz Ys (Yg (x:=YF (Yi kw::ks)) hX) hB Zi (fun cur1 hB1=>?_))
      refine Yb Zz Zz ?_
      refine PoS.hard0 Zj (YN T Zz Zz Zz Zz Zz Zz ?_)
      refine Po.done ?_
      refine zW ?_;intros
      exact Yap rfl (H':=[(gx,lsO _),(gk,.cells (List.toArray cur1) 57 (0,0))]) Zb ⟨rfl,hl2,_,_,[_],rfl,hB1.grow.of (by rw [set1 hlen,if_neg hks]) rfl,by omega⟩
     ·refine PoS.hard0 Zj (YN T Zz Zz Zz Zz Zz Zz ?_)
      refine Yb Zz Zz ?_
      refine PoS.hard0 Zj (Yx T (pre:=[_,_]) (L:=Yy) (j:=n) Zz Zz Zz rfl rfl Zz Ys (Yg (x:=YF (Yi kw::ks)) hX) hB Zi (fun cur1 hB1=>?_))
      refine Po.done ?_
      refine zW ?_;intros
      exact Yap rfl (H':=[(gx,lsO _),(gk,.cells (List.toArray cur1) 57 (0,0))]) Zb ⟨rfl,hl2,_,_,[_],rfl,hB1.grow.of (by rw [set1 hlen,if_neg hks]) rfl,by omega⟩
    ·refine PoS.hard0 Zj (YN T Zz Zz Zz Zz Zz Zz ?_)
     refine Yb Zz Zz ?_
     refine PoS.hard Zj (DoesQ.does (YC T Zz Zz Zz Zz Zz rfl Zi Zi ?_))
     refine Yb Zz Zz ?_
     refine PoS.hard0 Zj (Yx T (pre:=[_,_]) (L:=Yy) (j:=n) Zz Zz Zz rfl rfl Zz Ys (Yg (x:=YF (Yi kw::ks)) hX) hB Zi (fun cur1 hB1=>?_))
     refine Po.done ?_
     refine zW ?_;intros
     exact Yap rfl (H':=[(gx,lsO _),(gk,.cells (List.toArray cur1) 57 (0,0))]) Zb ⟨rfl,hl2,_,_,[_],rfl,hB1.grow.of (by rw [set1 hlen,if_neg hks]) rfl,by omega⟩
  ·refine Yd (Yc T (cs:=Ybp) Zz Zz Zz Zz Zz Zz Zz Zz (fun gz=>⟨(⟨Le.refl _,Zx⟩),?_⟩))
   refine Yb Zz Zz ?_
   refine Yd (Yc T (cs:=Yq kw) Zz Zz Zz Zz Zz Zz Zz Zz (fun gb1=>⟨(⟨Le.refl _,Zx⟩),?_⟩))
   refine Yb Zz Zz ?_
   refine Yd (WF T (n:=1) (l:=[Yi kw]) (Hr:=(gz,_)::(gx,_)::Hs) (Hs:=[(gb1,_)]) Zz Zz Zz Zz Zz Zz Zz Zz (List.perm_append_singleton _ _).symm (Grow.block (ys:=[(Yi kw,Yq kw)]) rfl rfl (by simpa using Yu hkw) rfl Zh) Ys hK (by show _*72≤_;omega) Zi (fun v1 Hs1 hO1=>⟨(⟨Le.refl _,Zx⟩),?_⟩))
   obtain ⟨A1,c1,rfl,_,_⟩:=hO1.form
   refine Yb Zz Zz ?_
   refine PoS.qk (⟨Le.refl _,Zx⟩) (Yw Zz Zz Xk ?_)
   unfold sxV
   refine Yb Zz Zz ?_
   refine PoS.hard Zj (Does.freezeAll (H1:=(gz,_)::(gx,_)::Hs) (H2:=Hs1) (Zr _) (fun fz2 hl2 hf2=>YS T (Hr:=[_,_]) Zz Zz Zz Zz Zz Zz Zz Zz (Zr _) (hG.mono hl2) Ys (.head _) WG (by show _*72≤_;omega) Zi (fun v' Hs' hO'=>?_)))
   obtain ⟨gk,cap,cur,rfl,rfl,hB⟩:=hO'.b Zi
   obtain ⟨A2,c2,he2,hsl⟩:=hO1.sl hl2 hf2 Zi
   injection he2 with e1 e2 e3
   subst e1 e3
   have hX:YW fz2 (YF (Yi kw::ks)) (.slice A1 (1+m) c1):=⟨YeT,X6,X6,X6,Xq,hsl.is⟩
   refine YG Zz Zz Zz ?_ ?_
   ·refine PoS.hard Zj (DoesQ.does (YC T Zz Zz Zz Zz Zz rfl Zi Zi ?_))
    refine YG Zz Zz Zz ?_ ?_
    ·refine PoS.hard0 Zj (Yx T (pre:=[_,_]) (L:=Yy) (j:=n) Zz Zz Zz rfl rfl Zz Ys (Yg (x:=YF (Yi kw::ks)) hX) hB Zi (fun cur1 hB1=>?_))
     refine Yb Zz Zz ?_
     refine PoS.hard0 Zj (YN T Zz Zz Zz Zz Zz Zz ?_)
     refine Po.done ?_
     refine zW ?_;intros
     exact Yap rfl (H':=[(gx,lsO _),(gk,.cells (List.toArray cur1) 57 (0,0))]) Zb ⟨rfl,hl2,_,_,[_],rfl,hB1.grow.of (by rw [set1 hlen,if_neg hks]) rfl,by omega⟩
    ·refine PoS.hard0 Zj (YN T Zz Zz Zz Zz Zz Zz ?_)
     refine Yb Zz Zz ?_
     refine PoS.hard0 Zj (Yx T (pre:=[_,_]) (L:=Yy) (j:=n) Zz Zz Zz rfl rfl Zz Ys (Yg (x:=YF (Yi kw::ks)) hX) hB Zi (fun cur1 hB1=>?_))
     refine Po.done ?_
     refine zW ?_;intros
     exact Yap rfl (H':=[(gx,lsO _),(gk,.cells (List.toArray cur1) 57 (0,0))]) Zb ⟨rfl,hl2,_,_,[_],rfl,hB1.grow.of (by rw [set1 hlen,if_neg hks]) rfl,by omega⟩
   ·refine PoS.hard0 Zj (YN T Zz Zz Zz Zz Zz Zz ?_)
    refine Yb Zz Zz ?_
    refine PoS.hard Zj (DoesQ.does (YC T Zz Zz Zz Zz Zz rfl Zi Zi ?_))
    refine Yb Zz Zz ?_
    refine PoS.hard0 Zj (Yx T (pre:=[_,_]) (L:=Yy) (j:=n) Zz Zz Zz rfl rfl Zz Ys (Yg (x:=YF (Yi kw::ks)) hX) hB Zi (fun cur1 hB1=>?_))
    refine Po.done ?_
    refine zW ?_;intros
    exact Yap rfl (H':=[(gx,lsO _),(gk,.cells (List.toArray cur1) 57 (0,0))]) Zb ⟨rfl,hl2,_,_,[_],rfl,hB1.grow.of (by rw [set1 hlen,if_neg hks]) rfl,by omega⟩
 ·have hks:ks=[]:=Classical.byContradiction fun h0=>c0 ((Yag hK.len).2 h0)
  refine zW ?_;intros
  exact Yap rfl (H':=(gx,lsO _)::Hs) Zb ⟨rfl,Le.refl _,_,_,Hs,rfl,hG.of (by rw [if_pos hks,List.append_nil]) rfl,by omega⟩
end Go.Proofs.YtfjopfinkdhmaaaGreatDoor
