/- The texts RQ, Slm, RR, RS, RT, RU, laid together. Conditions: none. -/
import Derived.Test.YtiligkgjcmokbaaGreatDoorKSU
set_option linter.all false
set_option maxHeartbeats 16000000
noncomputable section
set_option maxRecDepth 20000
open Go.Lx Go.RowKit
attribute [local instance 10] Classical.propDecidable
open Go.Proofs.Tryz (prog)
namespace Go.Proofs.YtiligkgjcmokbaaGreatDoor
variable {fz:FZ} {f:Formula} {A:Option Addr} {c n:Nat} {vk:Value}
theorem YpR {w:Bs}:I64 (YeU w):=by unfold YeU I64;split;omega;split;omega;split<;>omega
section
variable {α β:Type} {f:α->Except Int (List β)} {l:List α} {k:Nat} {x:α} {o y:List β} {m:Except Int (List β)} {c:Int}
theorem mapC_err (hx:l[k]?=some x) (hm:m=exA o (mapC f (l.drop k))) (hf:f x=.error c):m=.error c:=by rw [hm,Ycn hx,mapC,hf];rfl
theorem mapC_ok (hx:l[k]?=some x) (hm:m=exA o (mapC f (l.drop k))) (hf:f x=.ok y):m=exA (o++y) (mapC f (l.drop (k+1))):=by rw [hm,Ycn hx,mapC,hf,Yhn]
theorem mapC_end (hk:l.length<=k) (hm:m=exA o (mapC f (l.drop k))):m=.ok o:=by rw [hm,List.drop_eq_nil_of_le hk,mapC,exA,List.append_nil]
end
theorem Ync {β:Type} {f:Sexpr->Except Int (List β)} (hf:∀ y z,f y=.ok z->z.length<=xcount y):∀ {l:List Sexpr} {o:List β},mapC f l=.ok o->o.length<=xcountL l
 | [],o,h=>by rw [mapC] at h;injection h with h;subst h;exact Z0 _
 | x::r,o,h=>by
  rw [mapC] at h;split at h
  ·cases h
  rename_i y hy;obtain ⟨b,h1,rfl⟩:=Yk6 h;have:=hf _ _ hy;have:=Ync hf h1;rw [List.length_append,xcountL];omega
theorem YfN:∀ (d:Nat) {ps:List Param} {ws:List Formula} {x:Sexpr} {l:List Change},effD d ps ws x=.ok l->l.length<=xcount x
 | 0,_,_,_,_,h=>by cases h
 | d+1,ps,ws,x,l,h=>by
  rw [Yhu] at h;have hx:=Xj x;split at h
  ·injection h with h;subst h;exact Z0 _
  split at h
  ·cases h
  rename_i w r hh;obtain ⟨u,hk,_⟩:=XW hh;rw [hk,xcountL] at hx;have one:∀ {m:Except Int (Bs × List Bs)} {g:Bs->List Bs->Change},(match m with | .error c=>.error c | .ok (nm,a)=>.ok [g nm a]:Except Int (List Change))=.ok l->l.length<=1:=fun {m g} e=>by
   split at e
   ·cases e
   injection e with e;subst e;exact Zs _
  unfold effB at h;split at h
  ·unfold numM at h;split at h
   ·split at h
    ·cases h
    split at h
    ·cases h
    injection h with h;subst h;simp;omega
   cases h
  split at h
  ·unfold whnM at h;split at h
   ·split at h
    ·cases h
    have:=YfN d h;simp only [xcountL] at hx;omega
   cases h
  split at h
  ·unfold allM at h;split at h
   ·split at h
    ·cases h
    split at h
    ·cases h
    have:=YfN d h;simp only [xcountL] at hx;omega
   cases h
  split at h
  ·have:=Ync (fun y z e=>YfN d e) h;omega
  split at h
  ·split at h
   ·have:=one h;omega
   cases h
  have:=one h;omega
theorem YmA:ExprR fz Yh5 Zn Zn:=by
 obtain ⟨v1,v2,e,h⟩:=YD (YbB (fz:=fz));injection e with _ e;injection e with _ e;injection e with _ e;injection e with e1 e;injection e with e2 e
 subst e1 e2;exact h
theorem effect_f (d:Nat):EffW d:=by
 induction d with
 | zero=>intro fz Ap Aw np cp nw cw ps ws x vk hz;cases x;simp at hz
 | succ d ih=>
  intro fz Ap Aw np cp nw cw ps ws x vk hz hs hR hp hw hnp hnw;have hM:=Yhu (d:=d) (ps:=ps) (ws:=ws) (x:=x);have hbeg:=Ydh hR;have hRx:=hR;obtain ⟨A,n,c,rfl,ik⟩:=hR.kids;have hl:=ik.len;refine zF Tryz.func286 Tryz.ntmps286 (fun w0=>?_);refine zWX ?_;refine Yr ?_;refine zWX ?_;intros;rename_i g2 g3;refine Yr ?_;refine Yr (YY (fun σ fz' H'=>∃ bb:Bool,σ=[(27,Zo bb),(3,Zp g3),(2,Zp g2)]/\fz=fz'/\H'=[(g3,Zu #[Zk x.kind,Zk x.value,Zk x.line,Zk x.column,Zy x.text,Zc A n c] 86),(g2,Zu #[Zc Ap np cp,Zc Aw nw cw] 337)]/\(bb=true↔x.kind=3/\x.kids=[])) ?_ ?_)
  ·refine wC ?_ ?_<;>intro c1
   ·refine wC ?_ ?_<;>intro c2
    ·exact wN (h:=by exact ⟨true,rfl,rfl,rfl,iff_of_true rfl ⟨c1,List.eq_nil_of_length_eq_zero Zi⟩⟩)
    exact wN (h:=by exact ⟨false,rfl,rfl,rfl,iff_of_false Zh (fun h=>c2 (by rw [h.2] at hl;simp at hl;omega))⟩)
   exact wN (h:=by exact ⟨false,rfl,rfl,rfl,iff_of_false Zh (fun h=>c1 h.1)⟩)
  rintro σ fz' H' ⟨bb,rfl,rfl,rfl,hb⟩;cases bb with
  | true=>
   rw [if_pos (hb.1 rfl)] at hM;exact wS (h:=by exact ⟨rfl,by rw [hM];exact ⟨_,_,_,rfl,Sl.nil (hc:=by decide)⟩⟩)
  | false=>
   rw [if_neg (fun h=>absurd (hb.2 h) Zh)] at hM;refine zW ?_;cases hh:XP x with
   | none=>
    rw [hh] at hM hbeg;refine zc hbeg ?_;exact wS (h:=by exact ⟨rfl,by rw [hM];exact ⟨rfl,by decide⟩⟩)
   | some wr=>
    obtain ⟨w,r⟩:=wr;rw [hh] at hM hbeg;simp only at hM;obtain ⟨y,hk,rfl,hk3,hk1⟩:=XW hh;have hrs:=WU hs hh;have hk0:x.kids[0]?=some y:=by rw [hk];rfl
    have hrz:∀ u∈r,SizeOf.sizeOf u<=d:=fun u hu=>by have:=Yl6 hh hu;omega
    have hcx:=Xj x;rw [hk,xcountL] at hcx;rw [hk,List.length_cons] at hl;refine zc hbeg ?_;refine wI ik hk0 (fun p hp0=>?_);refine wH hp0.Sexpr_text (fun hst=>?_);refine wc (kinds_q (w:=y.text)) ?_;refine wC ?_ ?_<;>intro c1
    ·unfold effB at hM;rw [if_pos c1] at hM;refine wK (q:=Ypy hk YpR hs hRx hp hw Zi Zi) (h:=fun r4 fz4 H4 hle4 hR4=>?_);obtain ⟨rfl,hR4⟩:=hR4;obtain ⟨ra,rb,rfl⟩:=hR4.form;exact wS (h:=by exact ⟨rfl,by rw [hM];exact hR4⟩)
    unfold effB at hM;rw [if_neg c1] at hM;refine wC ?_ ?_<;>intro c2
    ·rw [if_pos (show y.text=YkO from c2)] at hM;refine wK (q:=when_f ih hk hrz hs hRx hp hw Zi Zi) (h:=fun r4 fz4 H4 hle4 hR4=>?_);obtain ⟨rfl,hR4⟩:=hR4;obtain ⟨ra,rb,rfl⟩:=hR4.form;exact wS (h:=by exact ⟨rfl,by rw [hM];exact hR4⟩)
    rw [if_neg (show ¬y.text=YkO from c2)] at hM;refine wC ?_ ?_<;>intro c3
    ·rw [if_pos (show y.text=kForall from c3)] at hM;refine wK (q:=forall_f ih hk hrz hs hRx hp hw Zi Zi) (h:=fun r4 fz4 H4 hle4 hR4=>?_);obtain ⟨rfl,hR4⟩:=hR4;obtain ⟨ra,rb,rfl⟩:=hR4.form;exact wS (h:=by exact ⟨rfl,by rw [hM];exact hR4⟩)
    rw [if_neg (show ¬y.text=kForall from c3)] at hM;refine wC ?_ ?_<;>intro c4
    ·rw [if_pos (show y.text=kAnd from c4)] at hM;refine wG ?_;refine Xy (j:=1) ik (fun A' hA'=>?_);rw [hk,List.drop_one,List.tail_cons] at hA';have hdr:=hA'.len;refine zW ?_;refine Yi (fun q σ fz' H'=>∃ (k:Nat) (v:Value) (Hs:HP) (out:List Change),k<=n - 1/\q=n - 1 - k/\σ=[(71,Zk k),(70,Zk (n - 1:Nat)),(69,Zc A' (n - 1) (c - 1)),(8,v),(2,Zp g2)]/\Le fz fz'/\H'=(g2,Zu #[Zc Ap np cp,Zc Aw nw cw] 337)::Hs/\Grow changeL 114 fz' v out.length Hs out/\out.length+xcountL (r.drop k)<=xcountL r/\effD (d+1) ps ws x=exA out (mapC (effD d ps ws) (r.drop k))) ⟨0,_,[],[],Z0 _,rfl,rfl,Zd,rfl,Grow.nil _ _ _,by simp,by rw [YdL];exact hM⟩ Zw Zb ?_;rintro q σ fz' H' ⟨k,v,Hs,out,hkn,rfl,rfl,hle,rfl,hG,hcn,hT⟩;obtain ⟨Av,cv,rfl,_,_⟩:=hG.form;refine wC ?_ ?_<;>intro c5
     ·obtain ⟨z,hzk⟩:=Ye (l:=r) (k:=k) Zi;have hzr:=Zm hzk;rw [Ycn hzk,xcountL] at hcn;have hcz:=Wg hzr;refine wI (hA'.mono hle) hzk (fun p2 hp2=>?_);refine zL hp2 ?_;intro cs hcs;obtain ⟨vz,rfl,hRz⟩:=Yf hcs;obtain ⟨Az,nz,cz,rfl,iz⟩:=hRz.kids;refine zW ?_;intros;refine wK (q:=ih _ _ _ _ _ _ _ _ _ _ _ (hrz z hzr) (Ww hs hh hzr) hRz (hp.mono hle) (hw.mono hle) Zi Zi) (h:=fun r4 fz4 H4 hle4 hR4=>?_);obtain ⟨rfl,hR4⟩:=hR4;cases hx:effD d ps ws z with
      | error c'=>
       rw [hx] at hR4;obtain ⟨rfl,hc⟩:=hR4;have hm:=mapC_err hzk hT hx;rw [Yg hc];exact wS (h:=by exact ⟨rfl,by rw [hm];exact ⟨by rw [Yg hc];rfl,hc⟩⟩)
      | ok zl=>
       rw [hx] at hR4;obtain ⟨A5,n5,c5',rfl,il⟩:=hR4;have hm:=mapC_ok hzk hT hx;have hel:=YfN d hx;have hn5:=il.len;refine zW ?_;rename_i g10;refine Ya (WZ T (Hr:=[(g10,_),(g2,_)]) Zz Zz Zz Zz Zz Zz Zz Zz (Zr _) (hG.mono hle4) chg_one il (by show _*288<=_;omega) Zi (fun v' Hs' hG'=>?_));exact wP (h:=by exact ⟨k+1,v',Hs',out++zl,by omega,rfl,rfl,hle.trans hle4,rfl,hG'.of rfl (by rw [List.length_append];omega),by rw [List.length_append];omega,hm⟩)
     have hm:=mapC_end Zi hT;refine zW ?_;refine YlG rfl rfl rfl (fun fz3 hle3 hf3=>⟨rfl,?_⟩);obtain ⟨A1,c1',hv1,hS1⟩:=hG.sl hle3 (fun p hp=>hf3 p (List.mem_cons_of_mem _ hp)) Zi;injection hv1 with hv1 hv2 hv3
     subst hv1 hv3;rw [hm];exact ⟨_,_,_,rfl,hS1⟩
    rw [if_neg (show ¬y.text=kAnd from c4)] at hM;refine wC ?_ ?_<;>intro c5
    ·rw [if_pos (show y.text=kNot from c5)] at hM;refine wC ?_ ?_<;>intro c6
     ·have hM2:effD (d+1) ps ws x=.error 2:=hM.trans (by
       split
       ·simp at hl;omega
       rfl)
      exact wS (h:=by exact ⟨rfl,by rw [hM2];exact ⟨rfl,by decide⟩⟩)
     obtain ⟨u,rfl⟩:∃ u,r=[u]:=by
      have h3:r.length=1:=by omega
      match r,h3 with
      | [u],_=>exact ⟨u,rfl⟩
     simp only at hM;have hu:x.kids[1]?=some u:=by rw [hk];rfl
     have hsu:=Ww hs hh (y:=u) (by simp);refine wI ik hu (fun p2 hp2=>?_);refine zL hp2 ?_;intro cs hcs;obtain ⟨vu,rfl,hRu⟩:=Yf hcs;refine wK (q:=Yme hsu hRu) (h:=fun r1 fz1 H1 hle1 hR1=>?_);obtain ⟨rfl,hR1⟩:=hR1;cases ha:Ycz u with
     | error c=>
      rw [ha] at hM hR1;obtain ⟨rfl,hc⟩:=hR1;exact wS (h:=by exact ⟨rfl,by rw [hM];exact ⟨by rw [Yg hc];rfl,hc⟩⟩)
     | ok na=>
      obtain ⟨nm,a⟩:=na;rw [ha] at hM hR1;obtain ⟨A3,n3,c3',rfl,ia,hnm⟩:=hR1;simp only at hM;refine wK (q:=YjH (kind:=2) (hp.mono hle1) Zi (hw.mono hle1) Zi (by unfold I64;omega) hnm ia YmA) (h:=fun r5 fz5 H5 hle5 hR5=>?_);obtain ⟨rfl,cs5,rfl,hr5⟩:=hR5;generalize hchg:chgM ps ws 2 nm a Yh5=ch at*;have hr5':=hr5;obtain ⟨u1,u2,u3,u4,u5,u6,u7,u8,rfl,hC⟩:=Y8 hr5;obtain ⟨C1,o1,q1,rfl,_⟩:=hC.params;obtain ⟨C2,o2,q2,rfl,_⟩:=hC.when_.args;obtain ⟨C3,o3,q3,rfl,_⟩:=hC.when_.params;obtain ⟨C4,o4,q4,rfl,_⟩:=hC.when_.exprs;obtain ⟨C5,o5,q5,rfl,_⟩:=hC.when_.kids;obtain ⟨C6,o6,q6,rfl,_⟩:=hC.args;obtain ⟨C7,o7,q7,rfl,_⟩:=hC.value.args;obtain ⟨C8,o8,q8,rfl,_⟩:=hC.value.kids;refine Ya (Yb (cs:=([Zk ch.kind,Zc C1 o1 q1,Zy ch.when_.op,Zy ch.when_.name,Zc C2 o2 q2,Zc C3 o3 q3,Zc C4 o4 q4,Zc C5 o5 q5,Zy ch.name,Zc C6 o6 q6,Zy ch.value.op,Zy ch.value.name,Zk ch.value.n,Zc C7 o7 q7,Zc C8 o8 q8])) (fun gb=>?_));refine zW ?_;exact YlG rfl rfl rfl (fun fz3 hle3 hf3=>⟨rfl,YlV hM hle3 hr5' (hf3 (gb,_) (.head _))⟩)
    rw [if_neg (show ¬y.text=kNot from c5)] at hM;refine wK (q:=Yme hs hRx) (h:=fun r1 fz1 H1 hle1 hR1=>?_);obtain ⟨rfl,hR1⟩:=hR1;cases ha:Ycz x with
    | error c=>
     rw [ha] at hM hR1;obtain ⟨rfl,hc⟩:=hR1;exact wS (h:=by exact ⟨rfl,by rw [hM];exact ⟨by rw [Yg hc];rfl,hc⟩⟩)
    | ok na=>
     obtain ⟨nm,a⟩:=na;rw [ha] at hM hR1;obtain ⟨A3,n3,c3',rfl,ia,hnm⟩:=hR1;simp only at hM;refine wK (q:=YjH (kind:=1) (hp.mono hle1) Zi (hw.mono hle1) Zi (by unfold I64;omega) hnm ia YmA) (h:=fun r5 fz5 H5 hle5 hR5=>?_);obtain ⟨rfl,cs5,rfl,hr5⟩:=hR5;generalize hchg:chgM ps ws 1 nm a Yh5=ch at*;have hr5':=hr5;obtain ⟨u1,u2,u3,u4,u5,u6,u7,u8,rfl,hC⟩:=Y8 hr5;obtain ⟨C1,o1,q1,rfl,_⟩:=hC.params;obtain ⟨C2,o2,q2,rfl,_⟩:=hC.when_.args;obtain ⟨C3,o3,q3,rfl,_⟩:=hC.when_.params;obtain ⟨C4,o4,q4,rfl,_⟩:=hC.when_.exprs;obtain ⟨C5,o5,q5,rfl,_⟩:=hC.when_.kids;obtain ⟨C6,o6,q6,rfl,_⟩:=hC.args;obtain ⟨C7,o7,q7,rfl,_⟩:=hC.value.args;obtain ⟨C8,o8,q8,rfl,_⟩:=hC.value.kids;refine Ya (Yb (cs:=([Zk ch.kind,Zc C1 o1 q1,Zy ch.when_.op,Zy ch.when_.name,Zc C2 o2 q2,Zc C3 o3 q3,Zc C4 o4 q4,Zc C5 o5 q5,Zy ch.name,Zc C6 o6 q6,Zy ch.value.op,Zy ch.value.name,Zk ch.value.n,Zc C7 o7 q7,Zc C8 o8 q8])) (fun gb=>?_));refine zW ?_;exact YlG rfl rfl rfl (fun fz3 hle3 hf3=>⟨rfl,YlV hM hle3 hr5' (hf3 (gb,_) (.head _))⟩)
theorem whenM_sm {ws:List Formula} (hw:ws.length<=1000000) (hf:∀ f∈ws,FSm f):FSm (whenM ws):=by
 match ws,hw,hf with
 | [],_,_=>exact WV.2 ⟨⟨by show 0<=_;omega,by show 0<=_;omega,by show 0<=_;omega⟩,fun e he=>(by cases he),fun k hk=>by cases hk⟩
 | [f],_,hf=>exact hf f (by simp)
 | f::g::r,hw,hf=>exact WV.2 ⟨⟨by show 0<=_;omega,by show 0<=_;omega,by show (f::g::r).length<=_;omega⟩,fun e he=>(by cases he),hf⟩
theorem YjV:ESm Yh5:=YaN.2 ⟨by show 0<=_;omega,fun k hk=>by cases hk⟩
theorem YqF {ps:List Param} {ws:List Formula} {kind:Int} {nm:Bs} {a:List Bs} {e:Lx.Expr} (hp:ps.length<=1000000) (hw:ws.length<=1000000) (hf:∀ f∈ws,FSm f) (ha:a.length<=1000000) (he:ESm e):ChSm (chgM ps ws kind nm a e):=
 ⟨by show ps.length<=_;omega,by show a.length<=_;omega,whenM_sm hw hf,he⟩
theorem Yfn {x:Sexpr} {w:Bs} {a:List Bs} (hs:XSm x) (h:Ycz x=.ok (w,a)):a.length<=1000000:=by
 unfold Ycz at h;split at h
 ·cases h
 rename_i w' r hh;split at h
 ·split at h
  ·cases h
  rename_i a' ha;injection h with h
  injection h with h1 h2
  subst h2;rw [YeH ha];exact WU hs hh
 cases h
theorem YcA {x:Sexpr} (h:YaF x=.ok f):FSm f:=by
 unfold YaF at h;split at h
 ·rename_i hv;split at h
  ·cases h
  rename_i f' hf;split at h
  ·injection h with h;subst h;exact Ygq _ hv.sm hf
  cases h
 cases h
theorem Ypr {x:Sexpr} {e:Lx.Expr} (h:YgW x=.ok e):ESm e:=by
 unfold YgW at h;split at h
 ·rename_i hv;split at h
  ·cases h
  rename_i f' hf;split at h
  ·injection h with h;subst h;exact YeP _ hv.sm hf
  cases h
 cases h
theorem Ynb {α β:Type} {f:α->Except Int (List β)}:∀ {l:List α} {o:List β},mapC f l=.ok o->∀ z∈o,∃ y∈l,∃ u,f y=.ok u/\z∈u
 | [],o,h,z,hz=>by rw [mapC] at h;injection h with h;subst h;cases hz
 | x::r,o,h,z,hz=>by
  rw [mapC] at h;split at h
  ·cases h
  rename_i y hy;obtain ⟨b,h1,rfl⟩:=Yk6 h;rcases List.mem_append.1 hz with hz | hz
  ·exact ⟨x,by simp,y,hy,hz⟩
  obtain ⟨y',h2,h3⟩:=Ynb h1 z hz;exact ⟨y',List.mem_cons_of_mem _ h2,h3⟩
theorem Yk7:∀ (d:Nat) {ps:List Param} {ws:List Formula} {x:Sexpr} {l:List Change},XSm x->ps.length+xcount x<=1000000->ws.length+xcount x<=1000000->(∀ f∈ws,FSm f)->effD d ps ws x=.ok l->∀ c∈l,ChSm c
 | 0,_,_,_,_,_,_,_,_,h=>by cases h
 | d+1,ps,ws,x,l,hs,hp,hw,hf,h=>by
  rw [Yhu] at h;have hx:=Xj x;split at h
  ·injection h with h;subst h;intro c hc;cases hc
  split at h
  ·cases h
  rename_i w r hh;obtain ⟨u,hk,_⟩:=XW hh;rw [hk,xcountL] at hx;have hsr:∀ {y},y∈r->XSm y:=fun hy=>Ww hs hh hy
  unfold effB at h;split at h
  ·unfold numM at h;split at h
   ·split at h
    ·cases h
    rename_i nm a ha;split at h
    ·cases h
    rename_i e he;injection h with h;subst h
    intro c hc;simp at hc;subst hc;exact YqF Zi Zi hf (Yfn (hsr (by simp)) ha) (Ypr he)
   cases h
  split at h
  ·unfold whnM at h;split at h
   ·split at h
    ·cases h
    rename_i f hpf;simp only [xcountL] at hx;exact Yk7 d (hsr (by simp)) Zi (by rw [List.length_append,List.length_singleton];omega) (fun g hg=>by rcases List.mem_append.1 hg with hg | hg;exact hf g hg;simp at hg;subst hg;exact YcA hpf) h
   cases h
  split at h
  ·unfold allM at h;split at h
   ·split at h
    ·cases h
    split at h
    ·cases h
    rename_i y z _ _ ps' hps;have h1:=Yfw hps;have h2:=Xj y;have h3:=Wt (l:=y.kids);simp only [xcountL,List.length_nil] at hx h1;exact Yk7 d (hsr (by simp)) (by rw [List.length_append];omega) Zi hf h
   cases h
  split at h
  ·intro c hc;obtain ⟨y,hy,u',h1,h2⟩:=Ynb h c hc;have:=Wg hy;exact Yk7 d (hsr hy) Zi Zi hf h1 c h2
  split at h
  ·split at h
   ·split at h
    ·cases h
    rename_i nm a ha;injection h with h;subst h
    intro c hc;simp at hc;subst hc;exact YqF Zi Zi hf (Yfn (hsr (by simp)) ha) YjV
   cases h
  split at h
  ·cases h
  rename_i nm a ha;injection h with h;subst h
  intro c hc;simp at hc;subst hc;exact YqF Zi Zi hf (Yfn hs ha) YjV
def Yau (x:Sexpr):Except Int (List Change):=if XVal x then match effD (SizeOf.sizeOf x) [] [] x with
 | .error c=>.error c
 | .ok l=>if Ycd l/\XVal (effX l) then .ok l else .error 5
 else .error 2
theorem Yeo {x:Sexpr} {l:List Change} (h:Yau x=.ok l):Ylr l:=by
 unfold Yau at h;split at h
 ·rename_i hv;have hc:=hv.2.2;split at h
  ·cases h
  rename_i l' hl;split at h
  ·injection h with h
   subst h;have:=YfN _ hl;exact ⟨by omega,Yk7 _ hv.sm (by simp;omega) (by simp;omega) (by simp) hl⟩
  cases h
 cases h
theorem Yoz {l:List Change} (h1:Sl changeL fz A n c l) (hs:Ylr l):
 GFn prog 287 [Zc A n c] fz [] (WrR (Ycd l/\XVal (effX l)) (effX l)):=by
 refine zF Tryz.func287 Tryz.ntmps287 (fun w0=>?_);refine zW ?_;intros;rename_i g2 g7;refine Ya (Ym [(g7,wrO false)] [(g2,_)] Zz (YeE (b:=false) h1 hs) (fun v10 fz1 H1 hle1 hR1=>?_));obtain ⟨_,b1,y,rfl,⟨cs,rfl,hr⟩,hb,hy⟩:=hR1;obtain ⟨vk,rfl,hX⟩:=Yf hr;obtain ⟨A6,n6,c6,rfl,_⟩:=hX.kids;unfold wrO;cases b1
 ·have hy:=hy rfl;subst hy;have hOk:=(hb.1 rfl).2;refine zW ?_;intros;refine zb (Yat hX) (fun f1=>?_) (fun f1=>?_)
  ·have hP:Ycd l/\XVal (effX l):=⟨hOk,Zt f1⟩;refine zW ?_;refine YS T (vs:=[.agg #[_,_,_,_,_,_],.nilIface]) ⟨⟨_,_,2,_,_,_,rfl,rfl,rfl,rfl,rfl,rfl⟩,rfl,trivial⟩ (fun fz3 hle3 hf3=>?_);exact ⟨rfl,_,_,by rw [if_pos hP];rfl,SxIs.mono hle3 ⟨_,rfl,Ys hX⟩,fun _=>rfl⟩
  have hP:¬(Ycd l/\XVal (effX l)):=fun h0=>Zf f1 h0.2
  refine zW ?_;refine YS T (vs:=[.agg #[_,_,_,_,_,_],_]) ⟨⟨_,_,2,_,_,_,rfl,rfl,rfl,rfl,rfl,rfl⟩,rfl,trivial⟩ (fun fz3 hle3 hf3=>?_);exact ⟨rfl,_,_,by rw [if_neg hP,Yg Zh];rfl,YbC,fun h0=>absurd h0 hP⟩
 have hP:¬(Ycd l/\XVal (effX l)):=fun h0=>by simpa using hb.2 ⟨rfl,h0.1⟩
 refine zW ?_;intros;refine YS T (vs:=[.agg #[_,_,_,_,_,_],_]) ⟨⟨_,_,2,_,_,_,rfl,rfl,rfl,rfl,rfl,rfl⟩,rfl,trivial⟩ (fun fz3 hle3 hf3=>?_);exact ⟨rfl,_,_,by rw [if_neg hP,Yg Zh];rfl,YbC,fun h0=>absurd h0 hP⟩
theorem Yfu {x:Sexpr} (hR:YT fz x vk):
 GFn prog 246 [.agg #[Zk x.kind,Zk x.value,Zk x.line,Zk x.column,Zy x.text,vk]] fz [] (fun r fz' H'=>H'=[]/\ResS changeL fz' (Yau x) r):=by
 have hRx:=hR;obtain ⟨A,n,c,rfl,ik⟩:=hR.kids;have hM:Yau x=if XVal x then match effD (SizeOf.sizeOf x) [] [] x with
  | .error c=>.error c
  | .ok l=>if Ycd l/\XVal (effX l) then .ok l else .error 5
 else .error 2:=rfl
 refine zF Tryz.func246 Tryz.ntmps246 (fun w0=>?_);refine zW ?_;intros;refine zb (Yat hRx) (fun f1=>?_) (fun f1=>?_)
 ·have hv:=Zt f1;have hc:=hv.2.2;rw [if_pos hv] at hM;refine wK (q:=effect_f _ _ _ _ _ _ _ _ [] [] _ _ (Zs _) hv.sm hRx (Sl.nil (c:=0)) (Sl.nil (c:=0)) Zi Zi) (h:=fun r4 fz4 H4 hle4 hR4=>?_);obtain ⟨rfl,hR4⟩:=hR4;cases hx:effD (SizeOf.sizeOf x) [] [] x with
  | error c'=>
   rw [hx] at hM hR4;obtain ⟨rfl,hc⟩:=hR4;rw [Yg hc];exact wS (h:=by exact ⟨rfl,by rw [hM];exact ⟨by rw [Yg hc];rfl,hc⟩⟩)
  | ok l=>
   rw [hx] at hM hR4;obtain ⟨A5,n5,c5,rfl,il⟩:=hR4;simp only at hM;have hel:=YfN _ hx;have hes:Ylr l:=⟨by omega,Yk7 _ hv.sm (by simp;omega) (by simp;omega) (by simp) hx⟩;refine wK (q:=Yoz il hes) (h:=fun r6 fz6 H6 hle6 hR6=>?_);obtain ⟨rfl,u,y,rfl,⟨cs,rfl,hr⟩,hy⟩:=hR6;obtain ⟨vk6,rfl,hX⟩:=Yf hr;obtain ⟨A6,n6,c6,rfl,_⟩:=hX.kids;by_cases hP:Ycd l/\XVal (effX l)
   ·rw [if_pos hP] at hM ⊢;rw [show errV 0=.nilIface from rfl];refine zW ?_;intros;exact wS (h:=by exact ⟨rfl,by rw [hM];exact ⟨_,_,_,rfl,il.mono hle6⟩⟩)
   rw [if_neg hP] at hM ⊢;rw [Yg Zh];refine zW ?_;intros;exact wS (h:=by exact ⟨rfl,by rw [hM];exact ⟨rfl,by decide⟩⟩)
 rw [if_neg (Zf f1)] at hM;exact wS (h:=by exact ⟨rfl,by rw [hM];exact ⟨rfl,by decide⟩⟩)
end Go.Proofs.YtiligkgjcmokbaaGreatDoor
namespace Go.Lx
open Go.RowKit
section
variable {P:Program} {cx:Cx} {r:Operand->Option Value} {fz:FZ} {H:HP} {V:Value->Prop} {dst:Option Nat} {ty:TypeId} {pos:String} {af:Array Edge} {gd:Option (Nat × Bool)}
theorem YlJ {α:Type} {L:Lay α} {t e:TypeId} {x i u:Operand} {X Y:Ty} {A:Option Addr} {n c j m:Nat} {mi:Int} {xs:List α}
 (hs:Sl L fz A n c xs) (h:∀ A',Sl L fz A' (m - j) (c - j) ((xs.drop j).take (m - j))->V (.slice A' (m - j) (c - j))) (T:Tab P:=by exact T) (hT:T.inf t=some X:=by exact rfl) (hd:X.desc=.slice e:=by exact rfl) (hY:T.inf e=some Y:=by exact rfl) (hz:Y.size=L.size:=by exact rfl) (hx:r x=some (.slice A n c):=by exact rfl) (hi:r i=some (Zk j):=by exact rfl) (hu:r u=some (Zk mi):=by exact rfl) (hmi:mi=m:=by omega) (hj:j<=m:=by omega) (hm:m<=n:=by omega):DoesQ P cx ⟨dst,.slice t x (some i) (some u) none,ty,pos,af,gd⟩ r fz H V:=by
  subst hmi;have h1:=hs.cap;have h2:=hs.max;have h3:=hs.short;have h4:=hs.len;refine YC (v:=.slice (if c=j then A else A.map (·.add (j*Y.size))) (m - j) (c - j)) (fun ρ w hr=>by
   have hud:=run_underlying (und_plain T hT hd rfl) w;have hs:=Lx.run_sizeOf T hY w;have hmc:m<=c:=by omega
   simp [execOp,hr _ _ hx,hr _ _ hi,hr _ _ hu,Instr.sliceAt,Instr.slice,Instr.sliceBounds,Instr.sliceBound,asIntOf,hud,hs,hj,hmc]
   try omega) (h _ ?_)
  refine ⟨by rw [List.length_take,List.length_drop,h4];omega,by omega,by omega,by omega,?_⟩;rcases hs.elem with h0 | ⟨ad,h5,h6⟩
  ·exact .inl Zi
  by_cases hn:m - j=0
  ·exact .inl hn
  refine .inr ⟨ad.add (j*L.size),?_,fun i d hd=>?_⟩
  ·rw [if_neg Zi,h5,hz];rfl
  rw [List.getElem?_take] at hd;split at hd
  ·rw [List.getElem?_drop] at hd;have:=h6 (j+i) d hd;have e:(ad.add (j*L.size)).add (i*L.size)=ad.add ((j+i)*L.size):=by
    rw [Nat.add_mul];unfold Addr.add;by_cases h7:j*L.size=0
    ·rw [h7];simp
    by_cases h8:i*L.size=0
    ·rw [h8];simp
    simp [h7,h8,Nat.add_assoc]
   rw [e];exact this
  cases hd
end
end Go.Lx
namespace Go.Proofs.YtiligkgjcmokbaaGreatDoor
variable {α:Type} {fz fz':FZ} {vk:Value} {s:Bs} {n c:Nat} {A:Option Addr}
def hdrM (x:Sexpr):Except Int Bs:=match x.kids with
 | _::y::_=>if y.kind=1 then (if Xc y.text then .ok y.text else .error 8) else .error 2
 | _=>.error 2
def strV (m:Except Int Bs):Value:=match m with
 | .error c=>.tuple #[.string ⟨#[]⟩,.iface 89 (.int .i64 c)]
 | .ok s=>.tuple #[.string s,.nilIface]
theorem Yni {x:Sexpr} (h:YT fz x vk):QFn prog 241 [.agg #[Zk x.kind,Zk x.value,Zk x.line,Zk x.column,Zy x.text,vk]] fz (strV (hdrM x)):=by
 obtain ⟨A,n,c,rfl,ik⟩:=h.kids;have hl:=ik.len;refine qF Tryz.func241 Tryz.ntmps241 (fun w0=>?_);refine zW ?_;intros;refine zC ?_ ?_<;>intro c1
 ·have hM:hdrM x=.error 2:=by
   unfold hdrM;split
   ·rename_i hk;rw [hk] at hl;simp at hl;omega
   rfl
  rw [hM];exact wS (h:=rfl)
 obtain ⟨w,y,r,hk⟩:∃ w y r,x.kids=w::y::r:=by
  match hx:x.kids,(show 2<=x.kids.length by omega) with
  | w::y::r,_=>exact ⟨w,y,r,rfl⟩
 have hM:hdrM x=if y.kind=1 then (if Xc y.text then .ok y.text else .error 8) else .error 2:=by unfold hdrM;rw [hk]
 have hk1:x.kids[1]?=some y:=by rw [hk];rfl
 refine wI ik hk1 (fun p hp=>?_);refine zL hp ?_;intro cs hcs;obtain ⟨vw,rfl,hw⟩:=Yf hcs;refine zb YeY (fun f1=>?_) (fun f1=>?_)
 ·rw [if_pos (Zt f1)] at hM;refine wI ik hk1 (fun p2 hp2=>?_);refine wH hp2.Sexpr_text (fun hst=>?_);refine wb (WN hst) (fun f2=>?_) (fun f2=>?_)
  ·rw [if_pos (Zt f2)] at hM;rw [hM];refine wI ik hk1 (fun p3 hp3=>?_);refine wH hp3.Sexpr_text (fun hst3=>?_);exact wS (h:=rfl)
  rw [if_neg (Zf f2)] at hM;rw [hM];exact wS (h:=rfl)
 rw [if_neg (Zf f1)] at hM;rw [hM];exact wS (h:=rfl)
def Yhw (x:Sexpr):Except Int (List Param):=if x.kind=3 then parM true x.kids [] [] else .error 2
theorem dpar_f {x:Sexpr} (hs:XSm x) (h:YT fz x vk):GFn prog 243 [.agg #[Zk x.kind,Zk x.value,Zk x.line,Zk x.column,Zy x.text,vk]] fz [] (fun r fz' H'=>H'=[]/\ResS paramL fz' (Yhw x) r):=by
 obtain ⟨A,n,c,rfl,ik⟩:=h.kids;have hl:=ik.len;have hs1:x.kids.length<=1000000:=(Xe.1 hs).1;refine zF Tryz.func243 Tryz.ntmps243 (fun w0=>?_);refine zW ?_;intros;refine zC ?_ ?_<;>intro c1
 ·exact wS (h:=by exact ⟨rfl,by rw [Yhw,if_neg c1];exact ⟨rfl,by decide⟩⟩)
 refine wK (q:=Ybn (b:=true) ik) (h:=fun r4 fz4 H4 hle4 hR4=>?_);obtain ⟨rfl,hR4⟩:=hR4;obtain ⟨ra,rb,rfl⟩:=hR4.form;exact wS (h:=by exact ⟨rfl,by rw [Yhw,if_pos c1];exact hR4⟩)
def Yfz (x:Sexpr):Except Int Int:=if x.kind=2 then .ok x.value else .error 2
def intV (m:Except Int Int):Value:=match m with
 | .error c=>.tuple #[.int .i64 0,.iface 89 (.int .i64 c)]
 | .ok s=>.tuple #[.int .i64 s,.nilIface]
theorem Ym6 {x:Sexpr}:QFn prog 244 [.agg #[Zk x.kind,Zk x.value,Zk x.line,Zk x.column,Zy x.text,vk]] fz (intV (Yfz x)):=by
 refine qF Tryz.func244 Tryz.ntmps244 (fun w0=>?_);refine zW ?_;intros;refine zC ?_ ?_<;>intro c1
 ·rw [Yfz,if_neg c1];exact wS (h:=rfl)
 rw [Yfz,if_pos c1];exact wS (h:=rfl)
def zeroPr:Predicate:=⟨⟨#[]⟩,[]⟩
theorem Yh4:predicateL.rep fz zeroPr [Ze,Zn]:=YaZ (x:=zeroPr) ⟨Wc,IsSl.nil⟩
def YlQ (x:Sexpr):Except Int Predicate:=match XP x with
 | none=>.error 2
 | some (w,r)=>if Xc w then match parM true r [] [] with
  | .error c=>.error c
  | .ok l=>.ok ⟨w,l⟩
  else .error 8
theorem YlO {x:Sexpr} (hs:XSm x) (h:YT fz x vk):GFn prog 180 [.agg #[Zk x.kind,Zk x.value,Zk x.line,Zk x.column,Zy x.text,vk]] fz [] (fun r fz' H'=>H'=[]/\ResL predicateL fz' (YlQ x) r):=by
 have hbeg:=Ydh h;obtain ⟨A,n,c,rfl,ik⟩:=h.kids;have hl:=ik.len;have hM:YlQ x=match XP x with
 | none=>.error 2
 | some (w,r)=>if Xc w then match parM true r [] [] with
  | .error c=>.error c
  | .ok l=>.ok ⟨w,l⟩
  else .error 8:=rfl
 refine zF Tryz.func180 Tryz.ntmps180 (fun w0=>?_);refine zW ?_;intros;cases hh:XP x with
 | none=>
  rw [hh] at hM hbeg;refine zc hbeg ?_;refine zW ?_;exact YS T (vs:=[.agg #[Ze,Zn],.iface 89 (Zk 2)]) ⟨⟨_,_,0,_,_,_,rfl,rfl,rfl,rfl,rfl,rfl⟩,rfl,trivial⟩ (fun fz3 hle3 hf3=>⟨rfl,YA hM Zh Yh4⟩)
 | some wr=>
  obtain ⟨w,r⟩:=wr;rw [hh] at hM hbeg;simp only at hM;obtain ⟨y,hk,rfl,hk3,hk1⟩:=XW hh;have hrs:=WU hs hh;have hk0:x.kids[0]?=some y:=by rw [hk];rfl
  rw [hk,List.length_cons] at hl;refine zc hbeg ?_;refine wI ik hk0 (fun p hp=>?_);refine wH hp.Sexpr_text (fun hst=>?_);refine wb (WN hst) (fun f1=>?_) (fun f1=>?_)
  ·rw [if_pos (Zt f1)] at hM;refine wG ?_;refine Xy (j:=1) ik (fun A' hA'=>?_);rw [hk,List.drop_one,List.tail_cons] at hA';refine wK (q:=Ybn (b:=true) hA') (h:=fun r4 fz4 H4 hle4 hR4=>?_);obtain ⟨rfl,hR4⟩:=hR4;cases hps:parM true r [] [] with
   | error c=>
    rw [hps] at hM hR4;obtain ⟨rfl,hc⟩:=hR4;rw [Yg hc];refine wI (ik.mono hle4) hk0 (fun p2 hp2=>?_);refine wH hp2.Sexpr_text (fun hst2=>?_);refine zW ?_;exact YS T (vs:=[.agg #[Zy y.text,Zn],.iface 89 (Zk c)]) ⟨⟨_,_,0,_,_,_,rfl,rfl,rfl,rfl,rfl,rfl⟩,rfl,trivial⟩ (fun fz3 hle3 hf3=>⟨rfl,YA hM hc (YaZ (x:=⟨y.text,[]⟩) ⟨hst,IsSl.nil⟩)⟩)
   | ok l=>
    rw [hps] at hM hR4;obtain ⟨A5,n5,c5,rfl,il⟩:=hR4;refine wI (ik.mono hle4) hk0 (fun p2 hp2=>?_);refine wH hp2.Sexpr_text (fun hst2=>?_);refine zW ?_;exact YS T (vs:=[.agg #[Zy y.text,Zc A5 n5 c5],.nilIface]) ⟨⟨_,_,0,_,_,_,rfl,rfl,rfl,rfl,rfl,rfl⟩,rfl,trivial⟩ (fun fz3 hle3 hf3=>⟨rfl,XQ hM (YaZ (x:=⟨y.text,l⟩) ⟨hst,⟨_,_,_,rfl,il.mono hle3⟩⟩)⟩)
  rw [if_neg (Zf f1)] at hM;refine zW ?_;exact YS T (vs:=[.agg #[Ze,Zn],.iface 89 (Zk 8)]) ⟨⟨_,_,0,_,_,_,rfl,rfl,rfl,rfl,rfl,rfl⟩,rfl,trivial⟩ (fun fz3 hle3 hf3=>⟨rfl,YA hM Zh Yh4⟩)
def zeroFu:Function:=⟨⟨#[]⟩,[],0,0⟩
theorem Ycr:functionL.rep fz zeroFu [Ze,Zn,Zk 0,Zk 0]:=Ybg (x:=zeroFu) ⟨Wc,IsSl.nil,i64z,i64z⟩
def funB (w:Bs) (r:List Sexpr) (u v:Sexpr):Except Int Function:=
 if u.kind=2/\v.kind=2 then (if Xc w then match parM true (r.take (r.length - 2)) [] [] with
  | .error c=>.error c
  | .ok l=>.ok ⟨w,l,u.value,v.value⟩
  else .error 8) else .error 2
def funM (x:Sexpr):Except Int Function:=match XP x with
 | none=>.error 2
 | some (w,r)=>match r.reverse with
  | v::u::_=>funB w r u v
  | _=>.error 2
theorem rev_two {r:List α} {u v:α} (h1:r[r.length - 2]?=some u) (h2:r[r.length - 1]?=some v) (hl:2<=r.length):∃ t,r.reverse=v::u::t:=by
 have e1:r.reverse[0]?=some v:=by rw [List.getElem?_reverse Zi];exact h2
 have e2:r.reverse[1]?=some u:=by rw [List.getElem?_reverse Zi,show r.length - 1 - 1=r.length - 2 by omega];exact h1
 match hr:r.reverse with
 | []=>rw [hr] at e1;cases e1
 | [a]=>rw [hr] at e2;cases e2
 | a::b::t=>
  rw [hr] at e1 e2;simp at e1 e2;exact ⟨t,by rw [e1,e2]⟩
theorem Yn9 {x:Sexpr} (hs:XSm x) (h:YT fz x vk):GFn prog 181 [.agg #[Zk x.kind,Zk x.value,Zk x.line,Zk x.column,Zy x.text,vk]] fz [] (fun r fz' H'=>H'=[]/\ResL functionL fz' (funM x) r):=by
 have hbeg:=Ydh h;obtain ⟨A,n,c,rfl,ik⟩:=h.kids;have hl:=ik.len;have hM:funM x=match XP x with
 | none=>.error 2
 | some (w,r)=>match r.reverse with
  | v::u::_=>funB w r u v
  | _=>.error 2:=rfl
 refine zF Tryz.func181 Tryz.ntmps181 (fun w0=>?_);refine zW ?_;intros;cases hh:XP x with
 | none=>
  rw [hh] at hM hbeg;refine zc hbeg ?_;refine zW ?_;exact YS T (vs:=[.agg #[Ze,Zn,Zk 0,Zk 0],.iface 89 (Zk 2)]) ⟨⟨_,_,0,_,_,_,rfl,rfl,rfl,rfl,rfl,rfl⟩,rfl,trivial⟩ (fun fz3 hle3 hf3=>⟨rfl,YA hM Zh Ycr⟩)
 | some wr=>
  obtain ⟨w,r⟩:=wr;rw [hh] at hM hbeg;simp only at hM;obtain ⟨y,hk,rfl,hk3,hk1⟩:=XW hh;have hrs:=WU hs hh;have hk0:x.kids[0]?=some y:=by rw [hk];rfl
  have hl2:r.length+1=n:=by rw [hk,List.length_cons] at hl;omega
  refine zc hbeg ?_;refine wC ?_ ?_<;>intro c1
  ·have hM2:funM x=.error 2:=by
    rw [hM];split
    ·rename_i e;have:=congrArg List.length e;rw [List.length_reverse] at this;simp at this;omega
    rfl
   refine zW ?_;exact YS T (vs:=[.agg #[Ze,Zn,Zk 0,Zk 0],.iface 89 (Zk 2)]) ⟨⟨_,_,0,_,_,_,rfl,rfl,rfl,rfl,rfl,rfl⟩,rfl,trivial⟩ (fun fz3 hle3 hf3=>⟨rfl,YA hM2 Zh Ycr⟩)
  obtain ⟨u,hu⟩:=Ye (l:=x.kids) (k:=n - 2) Zi;obtain ⟨v,hv⟩:=Ye (l:=x.kids) (k:=n - 1) Zi;have hu':r[r.length - 2]?=some u:=by rw [hk,show n - 2=(r.length - 2)+1 by omega,List.getElem?_cons_succ] at hu;exact hu
  have hv':r[r.length - 1]?=some v:=by rw [hk,show n - 1=(r.length - 1)+1 by omega,List.getElem?_cons_succ] at hv;exact hv
  obtain ⟨t,ht⟩:=rev_two hu' hv' Zi;rw [ht] at hM;simp only at hM;refine wI ik hu (fun p hp=>?_);refine wG ?_;refine Xz T Zz Zz Zz hp.Sexpr_kind (fun i1=>?_);refine zC ?_ ?_<;>intro c2
  ·have hM2:funM x=.error 2:=by rw [hM,funB,if_neg (fun h=>c2 h.1)]
   refine zW ?_;exact YS T (vs:=[.agg #[Ze,Zn,Zk 0,Zk 0],.iface 89 (Zk 2)]) ⟨⟨_,_,0,_,_,_,rfl,rfl,rfl,rfl,rfl,rfl⟩,rfl,trivial⟩ (fun fz3 hle3 hf3=>⟨rfl,YA hM2 Zh Ycr⟩)
  refine wI ik hv (fun p2 hp2=>?_);refine wG ?_;refine Xz T Zz Zz Zz hp2.Sexpr_kind (fun i2=>?_);refine zC ?_ ?_<;>intro c3
  ·have hM2:funM x=.error 2:=by rw [hM,funB,if_neg (fun h=>c3 h.2)]
   refine zW ?_;exact YS T (vs:=[.agg #[Ze,Zn,Zk 0,Zk 0],.iface 89 (Zk 2)]) ⟨⟨_,_,0,_,_,_,rfl,rfl,rfl,rfl,rfl,rfl⟩,rfl,trivial⟩ (fun fz3 hle3 hf3=>⟨rfl,YA hM2 Zh Ycr⟩)
  rw [funB,if_pos ⟨c2,c3⟩] at hM;refine wI ik hk0 (fun p3 hp3=>?_);refine wH hp3.Sexpr_text (fun hst=>?_);refine wb (WN hst) (fun f1=>?_) (fun f1=>?_)
  ·rw [if_pos (Zt f1)] at hM;refine wG ?_;refine YlJ (j:=1) (m:=n - 2) ik (fun A' hA'=>?_);rw [hk,List.drop_one,List.tail_cons] at hA';have hA':Sl YE fz A' (n - 2 - 1) (c - 1) (r.take (r.length - 2)):=by rw [show r.length - 2=n - 2 - 1 by omega];exact hA'
   refine wK (q:=Ybn (b:=true) hA') (h:=fun r4 fz4 H4 hle4 hR4=>?_);obtain ⟨rfl,hR4⟩:=hR4;cases hps:parM true (r.take (r.length - 2)) [] [] with
   | error c=>
    rw [hps] at hM hR4;obtain ⟨rfl,hc⟩:=hR4;rw [Yg hc];refine zW ?_;refine WP [21] [_,_] ?_;refine wI (ik.mono hle4) hk0 (fun p5 hp5=>?_);refine wH hp5.Sexpr_text (fun hst5=>?_);refine wI (ik.mono hle4) hu (fun p6 hp6=>?_);refine wG ?_;refine Xz T Zz Zz Zz hp6.Sexpr_value (fun i6=>?_);refine wI (ik.mono hle4) hv (fun p7 hp7=>?_);refine wG ?_;refine Xz T Zz Zz Zz hp7.Sexpr_value (fun i7=>?_);refine zW ?_;refine PK.p Zz (fun fz'=>by first | exact XC rfl | exact YU Zz rfl | exact Yt rfl | exact W4 Zz Zz (YQ Zi) rfl | exact Yw rfl) ?_;refine pT ?_;refine Yh ?_;refine PoS.hard0 (YG ?_);refine pD ?_;refine zW ?_;exact YS T (vs:=[.agg #[Zy y.text,Zn,Zk u.value,Zk v.value],.iface 89 (Zk c)]) ⟨⟨_,_,0,_,_,_,rfl,rfl,rfl,rfl,rfl,rfl⟩,rfl,trivial⟩ (fun fz3 hle3 hf3=>⟨rfl,YA hM hc (Ybg (x:=⟨y.text,[],u.value,v.value⟩) ⟨hst,IsSl.nil,i6,i7⟩)⟩)
   | ok l=>
    rw [hps] at hM hR4;obtain ⟨A5,n5,c5,rfl,il⟩:=hR4;refine zW ?_;refine WP [21] [_,_] ?_;refine wI (ik.mono hle4) hk0 (fun p5 hp5=>?_);refine wH hp5.Sexpr_text (fun hst5=>?_);refine wI (ik.mono hle4) hu (fun p6 hp6=>?_);refine wG ?_;refine Xz T Zz Zz Zz hp6.Sexpr_value (fun i6=>?_);refine wI (ik.mono hle4) hv (fun p7 hp7=>?_);refine wG ?_;refine Xz T Zz Zz Zz hp7.Sexpr_value (fun i7=>?_);refine zW ?_;refine PK.p Zz (fun fz'=>by first | exact XC rfl | exact YU Zz rfl | exact Yt rfl | exact W4 Zz Zz (YQ Zi) rfl | exact Yw rfl) ?_;refine pT ?_;refine Yh ?_;refine PoS.hard0 (YG ?_);refine pD ?_;refine zW ?_;exact YS T (vs:=[.agg #[Zy y.text,Zc A5 n5 c5,Zk u.value,Zk v.value],.nilIface]) ⟨⟨_,_,0,_,_,_,rfl,rfl,rfl,rfl,rfl,rfl⟩,rfl,trivial⟩ (fun fz3 hle3 hf3=>⟨rfl,XQ hM (Ybg (x:=⟨y.text,l,u.value,v.value⟩) ⟨hst,⟨_,_,_,rfl,il.mono hle3⟩,i6,i7⟩)⟩)
  rw [if_neg (Zf f1)] at hM;refine zW ?_;exact YS T (vs:=[.agg #[Ze,Zn,Zk 0,Zk 0],.iface 89 (Zk 8)]) ⟨⟨_,_,0,_,_,_,rfl,rfl,rfl,rfl,rfl,rfl⟩,rfl,trivial⟩ (fun fz3 hle3 hf3=>⟨rfl,YA hM Zh Ycr⟩)
def kwI (kw:List Bs) (s:Bs):Int:=W6 (fun y=>s=y) kw 0
theorem Yk0 {α:Type} {p:α->Prop}:∀ {l:List α} {k:Int},0<=k->W6 p l k<k+l.length
 | [],k,h=>by rw [W6];simp;omega
 | x::r,k,h=>by
  have:=Yk0 (p:=p) (l:=r) (k:=k+1) Zi;rw [W6,List.length_cons];split<;>push_cast<;>omega
theorem Yk1 {α:Type} {p:α->Prop}:∀ {l:List α} {k:Int},0<=k-> -1<=W6 p l k
 | [],k,h=>by rw [W6];omega
 | x::r,k,h=>by
  have:=Yk1 (p:=p) (l:=r) (k:=k+1) Zi;rw [W6];split<;>omega
theorem kwI_lt {kw:List Bs}:kwI kw s<kw.length/\ -1<=kwI kw s:=by
 have h1:=Yk0 (p:=fun y=>s=y) (l:=kw) (Int.le_refl 0);have h2:=Yk1 (p:=fun y=>s=y) (l:=kw) (Int.le_refl 0);unfold kwI;exact ⟨by omega,h2⟩
def prtM:List Bs->List Sexpr->List (Bs × Sexpr) × Bool
 | _,[]=>([],true)
 | _,[_]=>([],false)
 | kw,x::v::r=>if x.kind=1/\0<=kwI kw x.text then ((x.text,v)::(prtM (kw.drop ((kwI kw x.text).toNat+1)) r).1,(prtM (kw.drop ((kwI kw x.text).toNat+1)) r).2) else ([],false)
def preP (a:List (Bs × Sexpr)) (m:List (Bs × Sexpr) × Bool):List (Bs × Sexpr) × Bool:=(a++m.1,m.2)
def kwP (kw:List Bs) (x:Sexpr):Int:=if x.kind=1 then kwI kw x.text else -1
theorem Ypj {kw:List Bs}:prtM kw []=([],true):=by unfold prtM;rfl
theorem YmY {kw:List Bs} {x:Sexpr} {r:List Sexpr} (h:kwP kw x<0\/r=[]):prtM kw (x::r)=([],false):=by
 match r with
 | []=>rfl
 | v::r=>
  rw [prtM,if_neg];rintro ⟨h1,h2⟩;rcases h with h | h
  ·rw [kwP,if_pos h1] at h;omega
  cases h
theorem Ypi {kw:List Bs} {x v:Sexpr} {r:List Sexpr} (h:0<=kwP kw x):prtM kw (x::v::r)=preP [(x.text,v)] (prtM (kw.drop ((kwP kw x).toNat+1)) r):=by
 unfold kwP at h ⊢;split at h
 ·rename_i h1;rw [if_pos h1,prtM,if_pos ⟨h1,h⟩];rfl
 omega
theorem Ypl {a b:List (Bs × Sexpr)} {m:List (Bs × Sexpr) × Bool}:preP a (preP b m)=preP (a++b) m:=by simp [preP]
def PrtR (fz:FZ) (m:List (Bs × Sexpr) × Bool) (v:Value):Prop:=∃ A n c A2 c2,v=.tuple #[Zc A n c,Zc A2 n c2,errV (if m.2 then 0 else 2)]/\Sl strL fz A n c (m.1.map Prod.fst)/\Sl YE fz A2 n c2 (m.1.map Prod.snd)
theorem YlN {vn vv:Value} {Hn Hv:HP} {out:List (Bs × Sexpr)} {m:List (Bs × Sexpr) × Bool} (hn:Grow strL 9 fz vn n Hn (out.map Prod.fst)) (hv:Grow YE 86 fz vv n Hv (out.map Prod.snd)) (hle:Le fz fz') (hf:∀ p∈Hn++Hv,fz' p.1=some p.2) (hb:n<=1000000) (hm:m.1=out):PrtR fz' m (.tuple #[vn,vv,errV (if m.2 then 0 else 2)]):=by
 obtain ⟨A1,c1,rfl,h1⟩:=hn.sl hle (fun p hp=>hf p (List.mem_append_left _ hp)) Zi;obtain ⟨A2,c2,rfl,h2⟩:=hv.sl hle (fun p hp=>hf p (List.mem_append_right _ hp)) Zi;exact ⟨_,_,_,_,_,rfl,by rw [hm];exact h1,by rw [hm];exact h2⟩
theorem Ypq {K:Option Addr} {kn kc:Nat} {l:List Sexpr} {kw:List Bs} (h:Sl YE fz A n c l) (hk:Sl strL fz K kn kc kw) (hn:n<=1000000:=by omega) (hkn:kn<=1000:=by omega):
 GFn prog 242 [Zc A n c,Zc K kn kc] fz [] (fun r fz' H'=>H'=[]/\PrtR fz' (prtM kw l) r):=by
 have hl:=h.len;have hkl:=hk.len;refine zF Tryz.func242 Tryz.ntmps242 (fun w0=>?_);refine zW ?_;refine Yi (fun q σ fz' H'=>∃ (i nx:Nat) (vn vv:Value) (Hn Hv:HP) (out:List (Bs × Sexpr)),i<=n/\q=n - i/\σ=[(10,Zk i),(9,Zk nx),(8,vv),(7,vn),(1,Zc K kn kc),(0,Zc A n c)]/\fz=fz'/\H'=Hn++Hv/\Grow strL 9 fz vn out.length Hn (out.map Prod.fst)/\Grow YE 86 fz vv out.length Hv (out.map Prod.snd)/\out.length<=i/\nx<=kn/\prtM kw l=preP out (prtM (kw.drop nx) (l.drop i))) ⟨0,0,_,_,[],[],[],Z0 _,rfl,rfl,rfl,rfl,Grow.nil _ _ _,Grow.nil _ _ _,Zs _,Z0 _,rfl⟩ Zw Zb ?_;rintro q σ fz' H' ⟨i,nx,vn,vv,Hn,Hv,out,hi,rfl,rfl,rfl,rfl,hGn,hGv,hol,hnx,hM⟩;obtain ⟨An,cn,rfl,_,_⟩:=hGn.form;obtain ⟨Av,cv,rfl,_,_⟩:=hGv.form;refine wC ?_ ?_<;>intro c1
 ·obtain ⟨x,hx⟩:=Ye (l:=l) (k:=i) Zi;rw [Ycn hx] at hM;refine zWX ?_;refine Yr ?_;refine zWX ?_;refine Yr ?_;refine zWX ?_;refine Yr (YY (fun σ fz' H'=>σ=[(11,Zk (kwP (kw.drop nx) x)),(10,Zk i),(9,Zk nx),(8,Zc Av out.length cv),(7,Zc An out.length cn),(1,Zc K kn kc),(0,Zc A n c)]/\fz=fz'/\H'=Hn++Hv) ?_ ?_)
  ·refine wI h hx (fun p hp=>?_);refine zL hp ?_;intro cs hcs;obtain ⟨vx,rfl,hRx⟩:=Yf hcs;refine zb YeY (fun f1=>?_) (fun f1=>?_)
   ·refine wG ?_;refine Xy (j:=nx) hk (fun K' hK'=>?_);refine wI h hx (fun p2 hp2=>?_);refine wH hp2.Sexpr_text (fun hst2=>?_);refine wc (Ygy (x:=x.text) hK') ?_;exact wN (h:=by exact ⟨by rw [kwP,if_pos (Zt f1),kwI],rfl,rfl⟩)
   exact wN (h:=by exact ⟨by rw [kwP,if_neg (Zf f1)],rfl,rfl⟩)
  rintro σ fz' H' ⟨rfl,rfl,rfl⟩;have hkI:=kwI_lt (kw:=kw.drop nx) (s:=x.text);rw [List.length_drop,hkl] at hkI;have hkP:kwP (kw.drop nx) x<(kn - nx:Nat)/\ -1<=kwP (kw.drop nx) x:=by
   unfold kwP;split
   ·exact hkI
   omega
  refine wC ?_ ?_<;>intro c2
  ·have hM2:prtM kw l=(out,false):=by rw [hM,YmY (.inl c2)];simp [preP]
   refine zW ?_;refine YS T (vs:=[Zc An out.length cn,Zc Av out.length cv,.iface 89 (Zk 2)]) ⟨rfl,rfl,rfl,trivial⟩ (fun fz3 hle3 hf3=>⟨rfl,?_⟩);have:=YlN hGn hGv hle3 hf3 Zi (m:=prtM kw l) (by rw [hM2]);rw [hM2] at this ⊢;exact this
  obtain ⟨kk,hkk⟩:=Int.eq_ofNat_of_zero_le (show 0<=kwP (kw.drop nx) x by omega);refine wC ?_ ?_<;>intro c3
  ·have hM2:prtM kw l=(out,false):=by rw [hM,YmY (.inr (List.drop_eq_nil_of_le Zi))];simp [preP]
   refine zW ?_;refine YS T (vs:=[Zc An out.length cn,Zc Av out.length cv,.iface 89 (Zk 2)]) ⟨rfl,rfl,rfl,trivial⟩ (fun fz3 hle3 hf3=>⟨rfl,?_⟩);have:=YlN hGn hGv hle3 hf3 Zi (m:=prtM kw l) (by rw [hM2]);rw [hM2] at this ⊢;exact this
  obtain ⟨y,hy⟩:=Ye (l:=l) (k:=i+1) Zi;rw [Ycn hy,Ypi Zi,Ypl,List.drop_drop,hkk,Int.toNat_natCast] at hM;rw [hkk];refine zWN ?_;refine WP [] [] ?_;refine wI h hx (fun p3 hp3=>?_);refine wH hp3.Sexpr_text (fun hst3=>?_);refine zW ?_;refine Yn (Yn ?_);refine wI h hy (fun p4 hp4=>?_);refine zL hp4 ?_;intro cs4 hcs4;obtain ⟨vy,rfl,hRy⟩:=Yf hcs4;obtain ⟨Ay,ny,cy,rfl,_⟩:=hRy.kids;refine pT ?_;refine XD ?_ ?_
  ·refine Yd (Yb (cs:=[Zy x.text]) (fun gb=>⟨⟨Zd,by intro p hp;cases hp⟩,?_⟩));refine XD ?_ ?_
   ·refine Yd (YN (d:=x.text) (cs:=[Zy x.text]) (Hr:=(gb,_)::Hv) (List.Perm.cons _ Zq) hGn YdW (.head _) ⟨rfl,hst3⟩ (fun v1 Hs1 hG1=>⟨⟨Zd,by intro p hp;cases hp⟩,?_⟩));refine Yh ?_;refine Yd (Yb (cs:=[Zk y.kind,Zk y.value,Zk y.line,Zk y.column,Zy y.text,Zc Ay ny cy]) (fun gc=>⟨⟨Zd,by intro p hp;cases hp⟩,?_⟩));refine Yh ?_;refine Yd (YN (d:=y) (cs:=[Zk y.kind,Zk y.value,Zk y.line,Zk y.column,Zy y.text,Zc Ay ny cy]) (Hr:=(gc,_)::(gb,_)::Hs1) (List.Perm.cons _ (List.Perm.cons _ Zq)) hGv YgH (.head _) hcs4 (fun v2 Hs2 hG2=>⟨⟨Zd,by intro p hp;cases hp⟩,?_⟩));refine Yh ?_;refine PoS.qk ⟨Zd,by intro p hp;cases hp⟩ (YV ?_);refine Yh ?_;refine PoS.qk ⟨Zd,by intro p hp;cases hp⟩ (YV ?_);refine Po.done ?_;refine zW ?_;exact Wj (H':=Hs1++Hs2) ⟨i+2,nx+(kk+1),v1,v2,Hs1,Hs2,out++ [(x.text,y)],by omega,rfl,rfl,rfl,rfl,hG1.of (by simp) (by simp),hG2.of (by simp) (by simp),by simp;omega,by omega,hM⟩ Zi Zw Zb
   refine Yd (Yb (cs:=[Zk y.kind,Zk y.value,Zk y.line,Zk y.column,Zy y.text,Zc Ay ny cy]) (fun gc=>⟨⟨Zd,by intro p hp;cases hp⟩,?_⟩));refine Yh ?_;refine Yd (YN (d:=x.text) (cs:=[Zy x.text]) (Hr:=(gc,_)::(gb,_)::Hv) (List.Perm.cons _ (List.Perm.cons _ Zq)) hGn YdW (.tail _ (.head _)) ⟨rfl,hst3⟩ (fun v1 Hs1 hG1=>⟨⟨Zd,by intro p hp;cases hp⟩,?_⟩));refine Yh ?_;refine Yd (YN (d:=y) (cs:=[Zk y.kind,Zk y.value,Zk y.line,Zk y.column,Zy y.text,Zc Ay ny cy]) (Hr:=(gc,_)::(gb,_)::Hs1) (List.Perm.cons _ (List.Perm.cons _ Zq)) hGv YgH (.head _) hcs4 (fun v2 Hs2 hG2=>⟨⟨Zd,by intro p hp;cases hp⟩,?_⟩));refine Yh ?_;refine PoS.qk ⟨Zd,by intro p hp;cases hp⟩ (YV ?_);refine Yh ?_;refine PoS.qk ⟨Zd,by intro p hp;cases hp⟩ (YV ?_);refine Po.done ?_;refine zW ?_;exact Wj (H':=Hs1++Hs2) ⟨i+2,nx+(kk+1),v1,v2,Hs1,Hs2,out++ [(x.text,y)],by omega,rfl,rfl,rfl,rfl,hG1.of (by simp) (by simp),hG2.of (by simp) (by simp),by simp;omega,by omega,hM⟩ Zi Zw Zb
  refine Yd (Yb (cs:=[Zk y.kind,Zk y.value,Zk y.line,Zk y.column,Zy y.text,Zc Ay ny cy]) (fun gc=>⟨⟨Zd,by intro p hp;cases hp⟩,?_⟩));refine Yh ?_;refine Yd (Yb (cs:=[Zy x.text]) (fun gb=>⟨⟨Zd,by intro p hp;cases hp⟩,?_⟩));refine Yh ?_;refine Yd (YN (d:=x.text) (cs:=[Zy x.text]) (Hr:=(gb,_)::(gc,_)::Hv) (List.Perm.cons _ (List.Perm.cons _ Zq)) hGn YdW (.head _) ⟨rfl,hst3⟩ (fun v1 Hs1 hG1=>⟨⟨Zd,by intro p hp;cases hp⟩,?_⟩));refine Yh ?_;refine Yd (YN (d:=y) (cs:=[Zk y.kind,Zk y.value,Zk y.line,Zk y.column,Zy y.text,Zc Ay ny cy]) (Hr:=(gb,_)::(gc,_)::Hs1) (List.Perm.cons _ (List.Perm.cons _ Zq)) hGv YgH (.tail _ (.head _)) hcs4 (fun v2 Hs2 hG2=>⟨⟨Zd,by intro p hp;cases hp⟩,?_⟩));refine Yh ?_;refine PoS.qk ⟨Zd,by intro p hp;cases hp⟩ (YV ?_);refine Yh ?_;refine PoS.qk ⟨Zd,by intro p hp;cases hp⟩ (YV ?_);refine Po.done ?_;refine zW ?_;exact Wj (H':=Hs1++Hs2) ⟨i+2,nx+(kk+1),v1,v2,Hs1,Hs2,out++ [(x.text,y)],by omega,rfl,rfl,rfl,rfl,hG1.of (by simp) (by simp),hG2.of (by simp) (by simp),by simp;omega,by omega,hM⟩ Zi Zw Zb
 rw [show l.drop i=[] from List.drop_eq_nil_of_le Zi,Ypj] at hM;refine zW ?_;refine YS T (vs:=[Zc An out.length cn,Zc Av out.length cv,.nilIface]) ⟨rfl,rfl,rfl,trivial⟩ (fun fz3 hle3 hf3=>⟨rfl,?_⟩);have:=YlN hGn hGv hle3 hf3 Zi (m:=prtM kw l) (by rw [hM];simp [preP]);rw [hM] at this ⊢;exact this
def YfI {α:Type} (S:α->Bs->Sexpr->Except Int α):α->List (Bs × Sexpr)->Except Int α
 | a,[]=>.ok a
 | a,p::r=>match S a p.1 p.2 with
  | .error c=>.error c
  | .ok b=>YfI S b r
def finS {α:Type} (S:α->Bs->Sexpr->Except Int α) (kw:List Bs) (a:α) (x:Sexpr):Except Int α:=match YfI S a (prtM kw (x.kids.drop 2)).1 with
 | .error c=>.error c
 | .ok b=>if (prtM kw (x.kids.drop 2)).2 then .ok b else .error 2
def ErrA {α:Type} (m:Except Int α) (ev:Value) (a:α):Prop:=match m with
 | .error c=>ev=errV c/\c≠0
 | .ok b=>ev=.nilIface/\a=b
theorem Yi0 {p:Bs × Sexpr}:∀ {r:List Sexpr} {kw:List Bs},p∈(prtM kw r).1->p.2∈r
 | [],kw,h=>by rw [Ypj] at h;cases h
 | [x],kw,h=>by rw [YmY (.inr rfl)] at h;cases h
 | x::v::r,kw,h=>by
  by_cases hk:0<=kwP kw x
  ·rw [Ypi hk] at h;rcases List.mem_append.1 h with h | h
   ·simp at h;subst h;simp
   exact List.mem_cons_of_mem _ (List.mem_cons_of_mem _ (Yi0 h))
  rw [YmY (.inl Zi)] at h;cases h
theorem YpZ {x:Sexpr} {c:Int} (h:hdrM x=.error c):c≠0:=by
 unfold hdrM at h;split at h
 ·split at h
  ·split at h
   ·cases h
   injection h with h;omega
  injection h with h;omega
 injection h with h;omega
theorem hdr_ok {x:Sexpr} (h:hdrM x=.ok s) (hR:YT fz x vk):Short s/\2<=x.kids.length:=by
 unfold hdrM at h;split at h
 ·rename_i w y r hk;split at h
  ·split at h
   ·rename_i hn;injection h with h
    subst h;exact ⟨by have:=hn.2.2.1;unfold Short;omega,by rw [hk];simp⟩
   cases h
  cases h
 cases h
theorem Ym7 {x:Sexpr} {c:Int} (h:Yfz x=.error c):c≠0:=by
 unfold Yfz at h;split at h
 ·cases h
 injection h with h;omega
theorem YpA {x:Sexpr} {n:Int} (h:Yfz x=.ok n) (hR:YT fz x vk):I64 n:=by
 unfold Yfz at h;split at h
 ·injection h with h;rw [<- h];exact hR.value
 cases h
theorem YdV:FormulaR fz XV Zn Zn Zn Zn:=Ydr
def setA (a:Action) (w:Bs) (v:Sexpr):Except Int Action:=if w=YB then (match Yhw v with | .error c=>.error c | .ok y=>.ok {a with params:=y}) else if w=YeV then (match Yfz v with | .error c=>.error c | .ok y=>if y<0 then .error 1 else .ok {a with cost:=y}) else if w=Xl then (match YaF v with | .error c=>.error c | .ok y=>.ok {a with pre:=y}) else (match Yau v with | .error c=>.error c | .ok y=>.ok {a with changes:=y})
theorem Yo4 {a:Action} {w:Bs} {v:Sexpr}:setA a w v=if w=YB then (match Yhw v with | .error c=>.error c | .ok y=>.ok {a with params:=y}) else if w=YeV then (match Yfz v with | .error c=>.error c | .ok y=>if y<0 then .error 1 else .ok {a with cost:=y}) else if w=Xl then (match YaF v with | .error c=>.error c | .ok y=>.ok {a with pre:=y}) else (match Yau v with | .error c=>.error c | .ok y=>.ok {a with changes:=y}):=rfl
def act0 (nm:Bs):Action:=⟨nm,[],1,XV,[]⟩
theorem Yke {nm:Bs} (h:Short nm):actionL.rep fz (act0 nm) [Zy nm,Zn,Zk 1,Zy kAnd,Ze,Zn,Zn,Zn,Zn,Zn]:=We (x:=act0 nm) ⟨h,IsSl.nil,by show I64 1;unfold I64;omega,YdV,IsSl.nil⟩
def kwA:List Bs:=[YB,YeV,Xl,Yc9]
def actM (x:Sexpr):Except Int Action:=match hdrM x with | .error c=>.error c | .ok nm=>finS setA kwA (act0 nm) x
theorem action_f {x:Sexpr} (hs:XSm x) (h:YT fz x vk):GFn prog 182 [.agg #[Zk x.kind,Zk x.value,Zk x.line,Zk x.column,Zy x.text,vk]] fz [] (fun r fz' H'=>H'=[]/\ResL actionL fz' (actM x) r):=by
 have hhd:=Yni h;obtain ⟨A,n,c,rfl,ik⟩:=h.kids;have hl:=ik.len;have hsl:x.kids.length<=1000000:=(Xe.1 hs).1;have hM:actM x=match hdrM x with | .error c=>.error c | .ok nm=>finS setA kwA (act0 nm) x:=rfl
 refine zF Tryz.func182 Tryz.ntmps182 (fun w0=>?_);refine zW ?_;intros;refine zc YaK ?_;refine zW ?_;intros;rename_i g1 g2 g4;cases hd:hdrM x with
 | error c=>
  rw [hd] at hM hhd;have hc:c≠0:=YpZ hd;refine zc hhd ?_;unfold strV;refine zW ?_;exact YS T (vs:=[.agg #[Ze,Zn,Zk 1,Zy kAnd,Ze,Zn,Zn,Zn,Zn,Zn],.iface 89 (Zk c)]) ⟨⟨_,_,1,_,_,_,rfl,rfl,rfl,rfl,rfl,rfl⟩,rfl,trivial⟩ (fun fz3 hle3 hf3=>⟨rfl,YA hM hc (Yke Wc)⟩)
 | ok nm=>
  rw [hd] at hhd;have hM:actM x=finS setA kwA (act0 nm) x:=by rw [actM,hd]
  obtain ⟨hnm,hn2⟩:=hdr_ok hd h;refine zc hhd ?_;unfold strV;refine wG ?_;refine Xy (j:=2) ik (fun A' hA'=>?_);refine zW ?_;refine Ya (Yb (cs:=[Zy YB,Zy YeV,Zy Xl,Zy Yc9]) (fun gb=>?_))
  first | refine Wp.freeze Zz (fun fz2 hle2 hg2=>?_) | refine Seq.freeze Zz (fun fz2 hle2 hg2=>?_)
  have hkw:Sl strL fz2 (some ⟨gb,0,none⟩) 4 4 kwA:=Wb (ys:=[(YB,[Zy YB]),(YeV,[Zy YeV]),(Xl,[Zy Xl]),(Yc9,[Zy Yc9])]) hg2 rfl rfl (by intro p hp;simp only [List.mem_cons,List.not_mem_nil,_root_.or_false] at hp;rcases hp with rfl | rfl | rfl | rfl<;>exact ⟨rfl,by show _<=_;decide⟩) rfl Zh;refine wK (q:=Ypq (hA'.mono hle2) hkw) (h:=fun r4 fz4 H4 hle4 hR4=>?_);obtain ⟨rfl,A1,n1,c1,A2,c2,rfl,i1,i2⟩:=hR4;generalize hlv:errV (if (prtM kwA (x.kids.drop 2)).2=true then 0 else 2)=lv at*;have hmem:∀ p∈(prtM kwA (x.kids.drop 2)).1,XSm p.2:=fun p hp=>(Xe.1 hs).2 _ (List.mem_of_mem_drop (Yi0 hp))
  unfold finS at hM;generalize hpl:(prtM kwA (x.kids.drop 2)).1=l at*;have hl1:=i1.len;have hs1:=i1.short;rw [List.length_map] at hl1;rw [List.nil_append];refine zW ?_;refine Yi (fun q σ fz' H'=>∃ (k:Nat) (a:Action) (cs:List Value),k<=n1/\q=n1 - k/\σ=[(34,Zk k),(33,Zk n1),(32,Zc A2 n1 c2),(8,lv),(6,Zc A1 n1 c1),(4,Zp g4),(2,Zp g2)]/\Le fz4 fz'/\H'=[(g4,Zu (List.toArray cs) 52),(g2,Zu #[Ze,Zn,Zk 0,Ze,Ze,Zn,Zn,Zn,Zn,Zn] 52)]/\actionL.rep fz' a cs/\YfI setA (act0 nm) l=YfI setA a (l.drop k)) ⟨0,act0 nm,_,Z0 _,rfl,rfl,Zd,rfl,Yke hnm,rfl⟩ Zw Zb ?_;rintro q σ fz' H' ⟨k,a,cs,hk,rfl,rfl,hle,rfl,hA,hF⟩;obtain ⟨x1,x2,x3,x4,x5,x6,rfl,hR⟩:=Xh hA;obtain ⟨U2,u2,w2,rfl,j2⟩:=hR.params;obtain ⟨⟨U4a,u4a,w4a,rfl,_⟩,⟨U4b,u4b,w4b,rfl,_⟩,⟨U4c,u4c,w4c,rfl,_⟩,⟨U4d,u4d,w4d,rfl,_⟩⟩:=hR.pre.sls;obtain ⟨U5,u5,w5,rfl,j5⟩:=hR.changes;refine wC ?_ ?_<;>intro c3
  ·obtain ⟨⟨w,v⟩,hp⟩:=Ye (l:=l) (k:=k) Zi;have hw:(l.map Prod.fst)[k]?=some w:=by rw [List.getElem?_map,hp];rfl
   have hv:(l.map Prod.snd)[k]?=some v:=by rw [List.getElem?_map,hp];rfl
   have hsv:=hmem _ (Zm hp);rw [Ycn hp,YfI] at hF;refine zWX ?_;refine Yr ?_;refine zWX ?_;refine Yr ?_;refine zWX ?_;refine Yr ?_;refine zWX ?_;refine zI (i2.mono hle) hv (fun p1 hp1=>?_);refine zL hp1 ?_;intro cs1 hcs1;obtain ⟨vv,rfl,hRv⟩:=Yf hcs1;have hRv':=hRv;obtain ⟨Av,nv,cv,rfl,iv⟩:=hRv.kids;refine zWX ?_;intros;rename_i g10;refine Yr ?_;refine zWX ?_;refine YY (fun σ fz' H'=>∃ (ev:Value) (cs:List Value) (a2:Action),σ=[(34,Zk k),(33,Zk n1),(32,Zc A2 n1 c2),(8,lv),(6,Zc A1 n1 c1),(5,ev),(4,Zp g4),(2,Zp g2)]/\Le fz4 fz'/\H'=[(g4,Zu (List.toArray cs) 52),(g2,Zu #[Ze,Zn,Zk 0,Ze,Ze,Zn,Zn,Zn,Zn,Zn] 52)]/\actionL.rep fz' a2 cs/\ErrA (setA a w v) ev a2) ?_ ?_
   ·have hS:=Yo4 (a:=a) (w:=w) (v:=v);refine wI (i1.mono hle) hw (fun p2 hp2=>?_);refine wH hp2 (fun hs2=>?_);refine wC ?_ ?_<;>intro b0
    ·rw [if_pos (show w=YB from b0)] at hS;refine wK (q:=dpar_f hsv hRv') (h:=fun r5 fz5 H5 hle5 hR5=>?_);obtain ⟨rfl,hR5⟩:=hR5;cases hx:Yhw v with
     | error c=>
      rw [hx] at hR5 hS;obtain ⟨rfl,hc⟩:=hR5;rw [Yg hc];exact wN (h:=by exact ⟨_,_,{a with params:=[]},rfl,hle.trans hle5,rfl,We ⟨(hR.mono hle5).name,IsSl.nil,(hR.mono hle5).cost,(hR.mono hle5).pre,(hR.mono hle5).changes⟩,by rw [hS];exact ⟨(Yg hc).symm,hc⟩⟩)
     | ok y=>
      rw [hx] at hR5 hS;obtain ⟨A5,n5,c5,rfl,il⟩:=hR5;exact wN (h:=by exact ⟨_,_,{a with params:=y},rfl,hle.trans hle5,rfl,We ⟨(hR.mono hle5).name,⟨_,_,_,rfl,il⟩,(hR.mono hle5).cost,(hR.mono hle5).pre,(hR.mono hle5).changes⟩,by rw [hS];exact ⟨rfl,rfl⟩⟩)
    rw [if_neg (show ¬w=YB from b0)] at hS;refine wC ?_ ?_<;>intro b1
    ·rw [if_pos (show w=YeV from b1)] at hS;refine zW ?_;have hnq:=Ym6 (fz:=fz') (x:=v) (vk:=Zc Av nv cv);cases hx:Yfz v with
     | error c=>
      rw [hx] at hS hnq;have hc:c≠0:=Ym7 hx;refine zc hnq ?_;unfold intV;exact wN (h:=by exact ⟨_,_,{a with cost:=0},rfl,hle,rfl,We ⟨(hR.mono Zd).name,(hR.mono Zd).params,i64z,(hR.mono Zd).pre,(hR.mono Zd).changes⟩,by rw [hS];exact ⟨(Yg hc).symm,hc⟩⟩)
     | ok y=>
      rw [hx] at hS hnq;have hy:I64 y:=YpA hx hRv';refine zc hnq ?_;unfold intV;refine zW ?_;simp only at hS;refine zC ?_ ?_<;>intro c5
      ·rw [if_pos c5] at hS;exact wN (h:=by exact ⟨_,_,{a with cost:=y},rfl,hle,rfl,We ⟨(hR.mono Zd).name,(hR.mono Zd).params,hy,(hR.mono Zd).pre,(hR.mono Zd).changes⟩,by rw [hS];exact ⟨(Yg Zh).symm,by decide⟩⟩)
      rw [if_neg c5] at hS;exact wN (h:=by exact ⟨_,_,{a with cost:=y},rfl,hle,rfl,We ⟨(hR.mono Zd).name,(hR.mono Zd).params,hy,(hR.mono Zd).pre,(hR.mono Zd).changes⟩,by rw [hS];exact ⟨rfl,rfl⟩⟩)
    rw [if_neg (show ¬w=YeV from b1)] at hS;refine wC ?_ ?_<;>intro b2
    ·rw [if_pos (show w=Xl from b2)] at hS;refine wK (q:=Yd4 hRv') (h:=fun r5 fz5 H5 hle5 hR5=>?_);obtain ⟨rfl,f5,cs5,hr5,hR5⟩:=hR5;obtain ⟨y1,y2,y3,y4,rfl,hE5⟩:=Yv hr5;obtain ⟨⟨B1,m1,d1,rfl,_⟩,⟨B2,m2,d2,rfl,_⟩,⟨B3,m3,d3,rfl,_⟩,⟨B4,m4,d4,rfl,_⟩⟩:=hE5.sls;cases hx:YaF v with
     | error c=>
      rw [hx] at hR5 hS;obtain ⟨rfl,hc⟩:=hR5;rw [Yg hc];exact wN (h:=by exact ⟨_,_,{a with pre:=f5},rfl,hle.trans hle5,rfl,We ⟨(hR.mono hle5).name,(hR.mono hle5).params,(hR.mono hle5).cost,hE5,(hR.mono hle5).changes⟩,by rw [hS];exact ⟨(Yg hc).symm,hc⟩⟩)
     | ok y=>
      rw [hx] at hR5 hS;obtain ⟨rfl,rfl⟩:=hR5;exact wN (h:=by exact ⟨_,_,{a with pre:=y},rfl,hle.trans hle5,rfl,We ⟨(hR.mono hle5).name,(hR.mono hle5).params,(hR.mono hle5).cost,hE5,(hR.mono hle5).changes⟩,by rw [hS];exact ⟨rfl,rfl⟩⟩)
    rw [if_neg (show ¬w=Xl from b2)] at hS;refine wK (q:=Yfu hRv') (h:=fun r5 fz5 H5 hle5 hR5=>?_);obtain ⟨rfl,hR5⟩:=hR5;cases hx:Yau v with
    | error c=>
     rw [hx] at hR5 hS;obtain ⟨rfl,hc⟩:=hR5;rw [Yg hc];exact wN (h:=by exact ⟨_,_,{a with changes:=[]},rfl,hle.trans hle5,rfl,We ⟨(hR.mono hle5).name,(hR.mono hle5).params,(hR.mono hle5).cost,(hR.mono hle5).pre,IsSl.nil⟩,by rw [hS];exact ⟨(Yg hc).symm,hc⟩⟩)
    | ok y=>
     rw [hx] at hR5 hS;obtain ⟨A5,n5,c5,rfl,il⟩:=hR5;exact wN (h:=by exact ⟨_,_,{a with changes:=y},rfl,hle.trans hle5,rfl,We ⟨(hR.mono hle5).name,(hR.mono hle5).params,(hR.mono hle5).cost,(hR.mono hle5).pre,⟨_,_,_,rfl,il⟩⟩,by rw [hS];exact ⟨rfl,rfl⟩⟩)
   rintro σ fz' H' ⟨ev,cs,a2,rfl,hle5,rfl,hA5,hS⟩;obtain ⟨x1,x2,x3,x4,x5,x6,rfl,hR'⟩:=Xh hA5;obtain ⟨U2,u2,w2,rfl,j2⟩:=hR'.params;obtain ⟨⟨U4a,u4a,w4a,rfl,_⟩,⟨U4b,u4b,w4b,rfl,_⟩,⟨U4c,u4c,w4c,rfl,_⟩,⟨U4d,u4d,w4d,rfl,_⟩⟩:=hR'.pre.sls;obtain ⟨U5,u5,w5,rfl,j5⟩:=hR'.changes;cases hx:setA a w v with
   | error c=>
    rw [hx] at hS hF;obtain ⟨rfl,hc⟩:=hS;rw [hF] at hM;rw [Yg hc];refine zW ?_;exact YS T (vs:=[.agg #[Zy a2.name,Zc U2 u2 w2,Zk a2.cost,Zy a2.pre.op,Zy a2.pre.name,Zc U4a u4a w4a,Zc U4b u4b w4b,Zc U4c u4c w4c,Zc U4d u4d w4d,Zc U5 u5 w5],.iface 89 (Zk c)]) ⟨⟨_,_,1,_,_,_,rfl,rfl,rfl,rfl,rfl,rfl⟩,rfl,trivial⟩ (fun fz3 hle3 hf3=>⟨rfl,YA hM hc (actionL.mono hle3 hA5)⟩)
   | ok b=>
    rw [hx] at hS hF;obtain ⟨rfl,rfl⟩:=hS;exact wP (h:=by exact ⟨k+1,a2,_,by omega,rfl,rfl,hle5,rfl,hA5,hF⟩)
  rw [List.drop_eq_nil_of_le Zi,YfI] at hF;rw [hF] at hM;refine zW ?_;cases hb:(prtM kwA (x.kids.drop 2)).2 with
  | true=>
   rw [hb] at hM hlv;subst hlv;exact YS T (vs:=[.agg #[Zy a.name,Zc U2 u2 w2,Zk a.cost,Zy a.pre.op,Zy a.pre.name,Zc U4a u4a w4a,Zc U4b u4b w4b,Zc U4c u4c w4c,Zc U4d u4d w4d,Zc U5 u5 w5],.nilIface]) ⟨⟨_,_,1,_,_,_,rfl,rfl,rfl,rfl,rfl,rfl⟩,rfl,trivial⟩ (fun fz3 hle3 hf3=>⟨rfl,XQ hM (actionL.mono hle3 hA)⟩)
  | false=>
   rw [hb] at hM hlv;subst hlv;exact YS T (vs:=[.agg #[Zy a.name,Zc U2 u2 w2,Zk a.cost,Zy a.pre.op,Zy a.pre.name,Zc U4a u4a w4a,Zc U4b u4b w4b,Zc U4c u4c w4c,Zc U4d u4d w4d,Zc U5 u5 w5],.iface 89 (Zk 2)]) ⟨⟨_,_,1,_,_,_,rfl,rfl,rfl,rfl,rfl,rfl⟩,rfl,trivial⟩ (fun fz3 hle3 hf3=>⟨rfl,YA hM Zh (actionL.mono hle3 hA)⟩)
def setD (a:Durative) (w:Bs) (v:Sexpr):Except Int Durative:=if w=YB then (match Yhw v with | .error c=>.error c | .ok y=>.ok {a with params:=y}) else if w=Wd then (match Yfz v with | .error c=>.error c | .ok y=>.ok {a with duration:=y}) else if w=Ybq then (match YaF v with | .error c=>.error c | .ok y=>.ok {a with start:=y}) else if w=Yea then (match YaF v with | .error c=>.error c | .ok y=>.ok {a with over:=y}) else if w=kEnd then (match YaF v with | .error c=>.error c | .ok y=>.ok {a with fin:=y}) else if w=Yai then (match Yau v with | .error c=>.error c | .ok y=>.ok {a with atStart:=y}) else (match Yau v with | .error c=>.error c | .ok y=>.ok {a with atEnd:=y})
theorem Yo3 {a:Durative} {w:Bs} {v:Sexpr}:setD a w v=if w=YB then (match Yhw v with | .error c=>.error c | .ok y=>.ok {a with params:=y}) else if w=Wd then (match Yfz v with | .error c=>.error c | .ok y=>.ok {a with duration:=y}) else if w=Ybq then (match YaF v with | .error c=>.error c | .ok y=>.ok {a with start:=y}) else if w=Yea then (match YaF v with | .error c=>.error c | .ok y=>.ok {a with over:=y}) else if w=kEnd then (match YaF v with | .error c=>.error c | .ok y=>.ok {a with fin:=y}) else if w=Yai then (match Yau v with | .error c=>.error c | .ok y=>.ok {a with atStart:=y}) else (match Yau v with | .error c=>.error c | .ok y=>.ok {a with atEnd:=y}):=rfl
def dur0 (nm:Bs):Durative:=⟨nm,[],1,XV,XV,XV,[],[]⟩
theorem Ykd {nm:Bs} (h:Short nm):durativeL.rep fz (dur0 nm) [Zy nm,Zn,Zk 1,Zy kAnd,Ze,Zn,Zn,Zn,Zn,Zy kAnd,Ze,Zn,Zn,Zn,Zn,Zy kAnd,Ze,Zn,Zn,Zn,Zn,Zn,Zn]:=YX (x:=dur0 nm) ⟨h,IsSl.nil,by show I64 1;unfold I64;omega,YdV,YdV,YdV,IsSl.nil,IsSl.nil⟩
def kwD:List Bs:=[YB,Wd,Ybq,Yea,kEnd,Yai,YeW]
def durM (x:Sexpr):Except Int Durative:=match hdrM x with | .error c=>.error c | .ok nm=>finS setD kwD (dur0 nm) x
theorem Yof {x:Sexpr} (hs:XSm x) (h:YT fz x vk):GFn prog 183 [.agg #[Zk x.kind,Zk x.value,Zk x.line,Zk x.column,Zy x.text,vk]] fz [] (fun r fz' H'=>H'=[]/\ResL durativeL fz' (durM x) r):=by
 have hhd:=Yni h;obtain ⟨A,n,c,rfl,ik⟩:=h.kids;have hl:=ik.len;have hsl:x.kids.length<=1000000:=(Xe.1 hs).1;have hM:durM x=match hdrM x with | .error c=>.error c | .ok nm=>finS setD kwD (dur0 nm) x:=rfl
 refine zF Tryz.func183 Tryz.ntmps183 (fun w0=>?_);refine zW ?_;intros;refine zc YaK ?_;refine wc YaK ?_;refine wc YaK ?_;refine zW ?_;intros;rename_i g1 g2 g4;cases hd:hdrM x with
 | error c=>
  rw [hd] at hM hhd;have hc:c≠0:=YpZ hd;refine zc hhd ?_;unfold strV;refine zW ?_;exact YS T (vs:=[.agg #[Ze,Zn,Zk 1,Zy kAnd,Ze,Zn,Zn,Zn,Zn,Zy kAnd,Ze,Zn,Zn,Zn,Zn,Zy kAnd,Ze,Zn,Zn,Zn,Zn,Zn,Zn],.iface 89 (Zk c)]) ⟨⟨_,_,1,_,_,_,rfl,rfl,rfl,rfl,rfl,rfl⟩,rfl,trivial⟩ (fun fz3 hle3 hf3=>⟨rfl,YA hM hc (Ykd Wc)⟩)
 | ok nm=>
  rw [hd] at hhd;have hM:durM x=finS setD kwD (dur0 nm) x:=by rw [durM,hd]
  obtain ⟨hnm,hn2⟩:=hdr_ok hd h;refine zc hhd ?_;unfold strV;refine wG ?_;refine Xy (j:=2) ik (fun A' hA'=>?_);refine zW ?_;refine Ya (Yb (cs:=[Zy YB,Zy Wd,Zy Ybq,Zy Yea,Zy kEnd,Zy Yai,Zy YeW]) (fun gb=>?_))
  first | refine Wp.freeze Zz (fun fz2 hle2 hg2=>?_) | refine Seq.freeze Zz (fun fz2 hle2 hg2=>?_)
  have hkw:Sl strL fz2 (some ⟨gb,0,none⟩) 7 7 kwD:=Wb (ys:=[(YB,[Zy YB]),(Wd,[Zy Wd]),(Ybq,[Zy Ybq]),(Yea,[Zy Yea]),(kEnd,[Zy kEnd]),(Yai,[Zy Yai]),(YeW,[Zy YeW])]) hg2 rfl rfl (by intro p hp;simp only [List.mem_cons,List.not_mem_nil,_root_.or_false] at hp;rcases hp with rfl | rfl | rfl | rfl | rfl | rfl | rfl<;>exact ⟨rfl,by show _<=_;decide⟩) rfl Zh;refine wK (q:=Ypq (hA'.mono hle2) hkw) (h:=fun r4 fz4 H4 hle4 hR4=>?_);obtain ⟨rfl,A1,n1,c1,A2,c2,rfl,i1,i2⟩:=hR4;generalize hlv:errV (if (prtM kwD (x.kids.drop 2)).2=true then 0 else 2)=lv at*;have hmem:∀ p∈(prtM kwD (x.kids.drop 2)).1,XSm p.2:=fun p hp=>(Xe.1 hs).2 _ (List.mem_of_mem_drop (Yi0 hp))
  unfold finS at hM;generalize hpl:(prtM kwD (x.kids.drop 2)).1=l at*;have hl1:=i1.len;have hs1:=i1.short;rw [List.length_map] at hl1;rw [List.nil_append];refine zW ?_;refine Yi (fun q σ fz' H'=>∃ (k:Nat) (a:Durative) (cs:List Value),k<=n1/\q=n1 - k/\σ=[(36,Zk k),(35,Zk n1),(34,Zc A2 n1 c2),(8,lv),(6,Zc A1 n1 c1),(4,Zp g4),(2,Zp g2)]/\Le fz4 fz'/\H'=[(g4,Zu (List.toArray cs) 55),(g2,Zu #[Ze,Zn,Zk 0,Ze,Ze,Zn,Zn,Zn,Zn,Ze,Ze,Zn,Zn,Zn,Zn,Ze,Ze,Zn,Zn,Zn,Zn,Zn,Zn] 55)]/\durativeL.rep fz' a cs/\YfI setD (dur0 nm) l=YfI setD a (l.drop k)) ⟨0,dur0 nm,_,Z0 _,rfl,rfl,Zd,rfl,Ykd hnm,rfl⟩ Zw Zb ?_;rintro q σ fz' H' ⟨k,a,cs,hk,rfl,rfl,hle,rfl,hA,hF⟩;obtain ⟨x1,x2,x3,x4,x5,x6,x7,x8,x9,x10,x11,x12,x13,x14,x15,rfl,hR⟩:=YZ hA;obtain ⟨U2,u2,w2,rfl,j2⟩:=hR.params;obtain ⟨⟨U4a,u4a,w4a,rfl,_⟩,⟨U4b,u4b,w4b,rfl,_⟩,⟨U4c,u4c,w4c,rfl,_⟩,⟨U4d,u4d,w4d,rfl,_⟩⟩:=hR.start.sls;obtain ⟨⟨U5a,u5a,w5a,rfl,_⟩,⟨U5b,u5b,w5b,rfl,_⟩,⟨U5c,u5c,w5c,rfl,_⟩,⟨U5d,u5d,w5d,rfl,_⟩⟩:=hR.over.sls;obtain ⟨⟨U6a,u6a,w6a,rfl,_⟩,⟨U6b,u6b,w6b,rfl,_⟩,⟨U6c,u6c,w6c,rfl,_⟩,⟨U6d,u6d,w6d,rfl,_⟩⟩:=hR.fin.sls;obtain ⟨U7,u7,w7,rfl,j7⟩:=hR.atStart;obtain ⟨U8,u8,w8,rfl,j8⟩:=hR.atEnd;refine wC ?_ ?_<;>intro c3
  ·obtain ⟨⟨w,v⟩,hp⟩:=Ye (l:=l) (k:=k) Zi;have hw:(l.map Prod.fst)[k]?=some w:=by rw [List.getElem?_map,hp];rfl
   have hv:(l.map Prod.snd)[k]?=some v:=by rw [List.getElem?_map,hp];rfl
   have hsv:=hmem _ (Zm hp);rw [Ycn hp,YfI] at hF;refine zWX ?_;refine Yr ?_;refine zWX ?_;refine Yr ?_;refine zWX ?_;refine Yr ?_;refine zWX ?_;refine zI (i2.mono hle) hv (fun p1 hp1=>?_);refine zL hp1 ?_;intro cs1 hcs1;obtain ⟨vv,rfl,hRv⟩:=Yf hcs1;have hRv':=hRv;obtain ⟨Av,nv,cv,rfl,iv⟩:=hRv.kids;refine zWX ?_;intros;rename_i g10;refine Yr ?_;refine zWX ?_;refine YY (fun σ fz' H'=>∃ (ev:Value) (cs:List Value) (a2:Durative),σ=[(36,Zk k),(35,Zk n1),(34,Zc A2 n1 c2),(8,lv),(6,Zc A1 n1 c1),(5,ev),(4,Zp g4),(2,Zp g2)]/\Le fz4 fz'/\H'=[(g4,Zu (List.toArray cs) 55),(g2,Zu #[Ze,Zn,Zk 0,Ze,Ze,Zn,Zn,Zn,Zn,Ze,Ze,Zn,Zn,Zn,Zn,Ze,Ze,Zn,Zn,Zn,Zn,Zn,Zn] 55)]/\durativeL.rep fz' a2 cs/\ErrA (setD a w v) ev a2) ?_ ?_
   ·have hS:=Yo3 (a:=a) (w:=w) (v:=v);refine wI (i1.mono hle) hw (fun p2 hp2=>?_);refine wH hp2 (fun hs2=>?_);refine wC ?_ ?_<;>intro b0
    ·rw [if_pos (show w=YB from b0)] at hS;refine wK (q:=dpar_f hsv hRv') (h:=fun r5 fz5 H5 hle5 hR5=>?_);obtain ⟨rfl,hR5⟩:=hR5;cases hx:Yhw v with
     | error c=>
      rw [hx] at hR5 hS;obtain ⟨rfl,hc⟩:=hR5;rw [Yg hc];exact wN (h:=by exact ⟨_,_,{a with params:=[]},rfl,hle.trans hle5,rfl,YX ⟨(hR.mono hle5).name,IsSl.nil,(hR.mono hle5).duration,(hR.mono hle5).start,(hR.mono hle5).over,(hR.mono hle5).fin,(hR.mono hle5).atStart,(hR.mono hle5).atEnd⟩,by rw [hS];exact ⟨(Yg hc).symm,hc⟩⟩)
     | ok y=>
      rw [hx] at hR5 hS;obtain ⟨A5,n5,c5,rfl,il⟩:=hR5;exact wN (h:=by exact ⟨_,_,{a with params:=y},rfl,hle.trans hle5,rfl,YX ⟨(hR.mono hle5).name,⟨_,_,_,rfl,il⟩,(hR.mono hle5).duration,(hR.mono hle5).start,(hR.mono hle5).over,(hR.mono hle5).fin,(hR.mono hle5).atStart,(hR.mono hle5).atEnd⟩,by rw [hS];exact ⟨rfl,rfl⟩⟩)
    rw [if_neg (show ¬w=YB from b0)] at hS;refine wC ?_ ?_<;>intro b1
    ·rw [if_pos (show w=Wd from b1)] at hS;refine zW ?_;have hnq:=Ym6 (fz:=fz') (x:=v) (vk:=Zc Av nv cv);cases hx:Yfz v with
     | error c=>
      rw [hx] at hS hnq;have hc:c≠0:=Ym7 hx;refine zc hnq ?_;unfold intV;exact wN (h:=by exact ⟨_,_,{a with duration:=0},rfl,hle,rfl,YX ⟨(hR.mono Zd).name,(hR.mono Zd).params,i64z,(hR.mono Zd).start,(hR.mono Zd).over,(hR.mono Zd).fin,(hR.mono Zd).atStart,(hR.mono Zd).atEnd⟩,by rw [hS];exact ⟨(Yg hc).symm,hc⟩⟩)
     | ok y=>
      rw [hx] at hS hnq;have hy:I64 y:=YpA hx hRv';refine zc hnq ?_;unfold intV;exact wN (h:=by exact ⟨_,_,{a with duration:=y},rfl,hle,rfl,YX ⟨(hR.mono Zd).name,(hR.mono Zd).params,hy,(hR.mono Zd).start,(hR.mono Zd).over,(hR.mono Zd).fin,(hR.mono Zd).atStart,(hR.mono Zd).atEnd⟩,by rw [hS];exact ⟨rfl,rfl⟩⟩)
    rw [if_neg (show ¬w=Wd from b1)] at hS;refine wC ?_ ?_<;>intro b2
    ·rw [if_pos (show w=Ybq from b2)] at hS;refine wK (q:=Yd4 hRv') (h:=fun r5 fz5 H5 hle5 hR5=>?_);obtain ⟨rfl,f5,cs5,hr5,hR5⟩:=hR5;obtain ⟨y1,y2,y3,y4,rfl,hE5⟩:=Yv hr5;obtain ⟨⟨B1,m1,d1,rfl,_⟩,⟨B2,m2,d2,rfl,_⟩,⟨B3,m3,d3,rfl,_⟩,⟨B4,m4,d4,rfl,_⟩⟩:=hE5.sls;cases hx:YaF v with
     | error c=>
      rw [hx] at hR5 hS;obtain ⟨rfl,hc⟩:=hR5;rw [Yg hc];exact wN (h:=by exact ⟨_,_,{a with start:=f5},rfl,hle.trans hle5,rfl,YX ⟨(hR.mono hle5).name,(hR.mono hle5).params,(hR.mono hle5).duration,hE5,(hR.mono hle5).over,(hR.mono hle5).fin,(hR.mono hle5).atStart,(hR.mono hle5).atEnd⟩,by rw [hS];exact ⟨(Yg hc).symm,hc⟩⟩)
     | ok y=>
      rw [hx] at hR5 hS;obtain ⟨rfl,rfl⟩:=hR5;exact wN (h:=by exact ⟨_,_,{a with start:=y},rfl,hle.trans hle5,rfl,YX ⟨(hR.mono hle5).name,(hR.mono hle5).params,(hR.mono hle5).duration,hE5,(hR.mono hle5).over,(hR.mono hle5).fin,(hR.mono hle5).atStart,(hR.mono hle5).atEnd⟩,by rw [hS];exact ⟨rfl,rfl⟩⟩)
    rw [if_neg (show ¬w=Ybq from b2)] at hS;refine wC ?_ ?_<;>intro b3
    ·rw [if_pos (show w=Yea from b3)] at hS;refine wK (q:=Yd4 hRv') (h:=fun r5 fz5 H5 hle5 hR5=>?_);obtain ⟨rfl,f5,cs5,hr5,hR5⟩:=hR5;obtain ⟨y1,y2,y3,y4,rfl,hE5⟩:=Yv hr5;obtain ⟨⟨B1,m1,d1,rfl,_⟩,⟨B2,m2,d2,rfl,_⟩,⟨B3,m3,d3,rfl,_⟩,⟨B4,m4,d4,rfl,_⟩⟩:=hE5.sls;cases hx:YaF v with
     | error c=>
      rw [hx] at hR5 hS;obtain ⟨rfl,hc⟩:=hR5;rw [Yg hc];exact wN (h:=by exact ⟨_,_,{a with over:=f5},rfl,hle.trans hle5,rfl,YX ⟨(hR.mono hle5).name,(hR.mono hle5).params,(hR.mono hle5).duration,(hR.mono hle5).start,hE5,(hR.mono hle5).fin,(hR.mono hle5).atStart,(hR.mono hle5).atEnd⟩,by rw [hS];exact ⟨(Yg hc).symm,hc⟩⟩)
     | ok y=>
      rw [hx] at hR5 hS;obtain ⟨rfl,rfl⟩:=hR5;exact wN (h:=by exact ⟨_,_,{a with over:=y},rfl,hle.trans hle5,rfl,YX ⟨(hR.mono hle5).name,(hR.mono hle5).params,(hR.mono hle5).duration,(hR.mono hle5).start,hE5,(hR.mono hle5).fin,(hR.mono hle5).atStart,(hR.mono hle5).atEnd⟩,by rw [hS];exact ⟨rfl,rfl⟩⟩)
    rw [if_neg (show ¬w=Yea from b3)] at hS;refine wC ?_ ?_<;>intro b4
    ·rw [if_pos (show w=kEnd from b4)] at hS;refine wK (q:=Yd4 hRv') (h:=fun r5 fz5 H5 hle5 hR5=>?_);obtain ⟨rfl,f5,cs5,hr5,hR5⟩:=hR5;obtain ⟨y1,y2,y3,y4,rfl,hE5⟩:=Yv hr5;obtain ⟨⟨B1,m1,d1,rfl,_⟩,⟨B2,m2,d2,rfl,_⟩,⟨B3,m3,d3,rfl,_⟩,⟨B4,m4,d4,rfl,_⟩⟩:=hE5.sls;cases hx:YaF v with
     | error c=>
      rw [hx] at hR5 hS;obtain ⟨rfl,hc⟩:=hR5;rw [Yg hc];exact wN (h:=by exact ⟨_,_,{a with fin:=f5},rfl,hle.trans hle5,rfl,YX ⟨(hR.mono hle5).name,(hR.mono hle5).params,(hR.mono hle5).duration,(hR.mono hle5).start,(hR.mono hle5).over,hE5,(hR.mono hle5).atStart,(hR.mono hle5).atEnd⟩,by rw [hS];exact ⟨(Yg hc).symm,hc⟩⟩)
     | ok y=>
      rw [hx] at hR5 hS;obtain ⟨rfl,rfl⟩:=hR5;exact wN (h:=by exact ⟨_,_,{a with fin:=y},rfl,hle.trans hle5,rfl,YX ⟨(hR.mono hle5).name,(hR.mono hle5).params,(hR.mono hle5).duration,(hR.mono hle5).start,(hR.mono hle5).over,hE5,(hR.mono hle5).atStart,(hR.mono hle5).atEnd⟩,by rw [hS];exact ⟨rfl,rfl⟩⟩)
    rw [if_neg (show ¬w=kEnd from b4)] at hS;refine wC ?_ ?_<;>intro b5
    ·rw [if_pos (show w=Yai from b5)] at hS;refine wK (q:=Yfu hRv') (h:=fun r5 fz5 H5 hle5 hR5=>?_);obtain ⟨rfl,hR5⟩:=hR5;cases hx:Yau v with
     | error c=>
      rw [hx] at hR5 hS;obtain ⟨rfl,hc⟩:=hR5;rw [Yg hc];exact wN (h:=by exact ⟨_,_,{a with atStart:=[]},rfl,hle.trans hle5,rfl,YX ⟨(hR.mono hle5).name,(hR.mono hle5).params,(hR.mono hle5).duration,(hR.mono hle5).start,(hR.mono hle5).over,(hR.mono hle5).fin,IsSl.nil,(hR.mono hle5).atEnd⟩,by rw [hS];exact ⟨(Yg hc).symm,hc⟩⟩)
     | ok y=>
      rw [hx] at hR5 hS;obtain ⟨A5,n5,c5,rfl,il⟩:=hR5;exact wN (h:=by exact ⟨_,_,{a with atStart:=y},rfl,hle.trans hle5,rfl,YX ⟨(hR.mono hle5).name,(hR.mono hle5).params,(hR.mono hle5).duration,(hR.mono hle5).start,(hR.mono hle5).over,(hR.mono hle5).fin,⟨_,_,_,rfl,il⟩,(hR.mono hle5).atEnd⟩,by rw [hS];exact ⟨rfl,rfl⟩⟩)
    rw [if_neg (show ¬w=Yai from b5)] at hS;refine wK (q:=Yfu hRv') (h:=fun r5 fz5 H5 hle5 hR5=>?_);obtain ⟨rfl,hR5⟩:=hR5;cases hx:Yau v with
    | error c=>
     rw [hx] at hR5 hS;obtain ⟨rfl,hc⟩:=hR5;rw [Yg hc];exact wN (h:=by exact ⟨_,_,{a with atEnd:=[]},rfl,hle.trans hle5,rfl,YX ⟨(hR.mono hle5).name,(hR.mono hle5).params,(hR.mono hle5).duration,(hR.mono hle5).start,(hR.mono hle5).over,(hR.mono hle5).fin,(hR.mono hle5).atStart,IsSl.nil⟩,by rw [hS];exact ⟨(Yg hc).symm,hc⟩⟩)
    | ok y=>
     rw [hx] at hR5 hS;obtain ⟨A5,n5,c5,rfl,il⟩:=hR5;exact wN (h:=by exact ⟨_,_,{a with atEnd:=y},rfl,hle.trans hle5,rfl,YX ⟨(hR.mono hle5).name,(hR.mono hle5).params,(hR.mono hle5).duration,(hR.mono hle5).start,(hR.mono hle5).over,(hR.mono hle5).fin,(hR.mono hle5).atStart,⟨_,_,_,rfl,il⟩⟩,by rw [hS];exact ⟨rfl,rfl⟩⟩)
   rintro σ fz' H' ⟨ev,cs,a2,rfl,hle5,rfl,hA5,hS⟩;obtain ⟨x1,x2,x3,x4,x5,x6,x7,x8,x9,x10,x11,x12,x13,x14,x15,rfl,hR'⟩:=YZ hA5;obtain ⟨U2,u2,w2,rfl,j2⟩:=hR'.params;obtain ⟨⟨U4a,u4a,w4a,rfl,_⟩,⟨U4b,u4b,w4b,rfl,_⟩,⟨U4c,u4c,w4c,rfl,_⟩,⟨U4d,u4d,w4d,rfl,_⟩⟩:=hR'.start.sls;obtain ⟨⟨U5a,u5a,w5a,rfl,_⟩,⟨U5b,u5b,w5b,rfl,_⟩,⟨U5c,u5c,w5c,rfl,_⟩,⟨U5d,u5d,w5d,rfl,_⟩⟩:=hR'.over.sls;obtain ⟨⟨U6a,u6a,w6a,rfl,_⟩,⟨U6b,u6b,w6b,rfl,_⟩,⟨U6c,u6c,w6c,rfl,_⟩,⟨U6d,u6d,w6d,rfl,_⟩⟩:=hR'.fin.sls;obtain ⟨U7,u7,w7,rfl,j7⟩:=hR'.atStart;obtain ⟨U8,u8,w8,rfl,j8⟩:=hR'.atEnd;cases hx:setD a w v with
   | error c=>
    rw [hx] at hS hF;obtain ⟨rfl,hc⟩:=hS;rw [hF] at hM;rw [Yg hc];refine zW ?_;exact YS T (vs:=[.agg #[Zy a2.name,Zc U2 u2 w2,Zk a2.duration,Zy a2.start.op,Zy a2.start.name,Zc U4a u4a w4a,Zc U4b u4b w4b,Zc U4c u4c w4c,Zc U4d u4d w4d,Zy a2.over.op,Zy a2.over.name,Zc U5a u5a w5a,Zc U5b u5b w5b,Zc U5c u5c w5c,Zc U5d u5d w5d,Zy a2.fin.op,Zy a2.fin.name,Zc U6a u6a w6a,Zc U6b u6b w6b,Zc U6c u6c w6c,Zc U6d u6d w6d,Zc U7 u7 w7,Zc U8 u8 w8],.iface 89 (Zk c)]) ⟨⟨_,_,1,_,_,_,rfl,rfl,rfl,rfl,rfl,rfl⟩,rfl,trivial⟩ (fun fz3 hle3 hf3=>⟨rfl,YA hM hc (durativeL.mono hle3 hA5)⟩)
   | ok b=>
    rw [hx] at hS hF;obtain ⟨rfl,rfl⟩:=hS;exact wP (h:=by exact ⟨k+1,a2,_,by omega,rfl,rfl,hle5,rfl,hA5,hF⟩)
  rw [List.drop_eq_nil_of_le Zi,YfI] at hF;rw [hF] at hM;refine zW ?_;cases hb:(prtM kwD (x.kids.drop 2)).2 with
  | true=>
   rw [hb] at hM hlv;subst hlv;exact YS T (vs:=[.agg #[Zy a.name,Zc U2 u2 w2,Zk a.duration,Zy a.start.op,Zy a.start.name,Zc U4a u4a w4a,Zc U4b u4b w4b,Zc U4c u4c w4c,Zc U4d u4d w4d,Zy a.over.op,Zy a.over.name,Zc U5a u5a w5a,Zc U5b u5b w5b,Zc U5c u5c w5c,Zc U5d u5d w5d,Zy a.fin.op,Zy a.fin.name,Zc U6a u6a w6a,Zc U6b u6b w6b,Zc U6c u6c w6c,Zc U6d u6d w6d,Zc U7 u7 w7,Zc U8 u8 w8],.nilIface]) ⟨⟨_,_,1,_,_,_,rfl,rfl,rfl,rfl,rfl,rfl⟩,rfl,trivial⟩ (fun fz3 hle3 hf3=>⟨rfl,XQ hM (durativeL.mono hle3 hA)⟩)
  | false=>
   rw [hb] at hM hlv;subst hlv;exact YS T (vs:=[.agg #[Zy a.name,Zc U2 u2 w2,Zk a.duration,Zy a.start.op,Zy a.start.name,Zc U4a u4a w4a,Zc U4b u4b w4b,Zc U4c u4c w4c,Zc U4d u4d w4d,Zy a.over.op,Zy a.over.name,Zc U5a u5a w5a,Zc U5b u5b w5b,Zc U5c u5c w5c,Zc U5d u5d w5d,Zy a.fin.op,Zy a.fin.name,Zc U6a u6a w6a,Zc U6b u6b w6b,Zc U6c u6c w6c,Zc U6d u6d w6d,Zc U7 u7 w7,Zc U8 u8 w8],.iface 89 (Zk 2)]) ⟨⟨_,_,1,_,_,_,rfl,rfl,rfl,rfl,rfl,rfl⟩,rfl,trivial⟩ (fun fz3 hle3 hf3=>⟨rfl,YA hM Zh (durativeL.mono hle3 hA)⟩)
end Go.Proofs.YtiligkgjcmokbaaGreatDoor
