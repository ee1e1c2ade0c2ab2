/- The texts RP, RQ, RR, RS, laid together. Conditions: none. -/
import Derived.Test.YtfjopfinkdhmaaaGreatDoorRZQ
set_option linter.all false
noncomputable section
set_option maxRecDepth 20000
namespace Go.Proofs.YtfjopfinkdhmaaaGreatDoor
open Go.Lx Go.RowKit
attribute [local instance 10] Classical.propDecidable
open Go.Proofs.Tryz (prog)
def Ygp:Lx.Expr:=.mk ⟨#[]⟩ ⟨#[]⟩ 0 [] []
def numM (ps:List Param) (ws:List Formula) (kind:Int):List Sexpr->Except Int (List Change)
 | [y,z]=>match Ybg y with
  | .error c=>.error c
  | .ok (nm,a)=>match YdJ z with
   | .error c=>.error c
   | .ok e=>.ok [chgM ps ws kind nm a e]
 | _=>.error 2
def whnM (E:List Param->List Formula->Sexpr->Except Int (List Change)) (ps:List Param) (ws:List Formula):List Sexpr->Except Int (List Change)
 | [y,z]=>match WU y with
  | .error c=>.error c
  | .ok f=>E ps (ws++ [f]) z
 | _=>.error 2
def allM (E:List Param->List Formula->Sexpr->Except Int (List Change)) (ps:List Param) (ws:List Formula):List Sexpr->Except Int (List Change)
 | [y,z]=>if y.kind≠3 then .error 2 else match parM true y.kids [] [] with
  | .error c=>.error c
  | .ok l=>E (ps++l) ws z
 | _=>.error 2
def mapC {α β:Type} (f:α->Except Int (List β)):List α->Except Int (List β)
 | []=>.ok []
 | x::r=>match f x with
  | .error c=>.error c
  | .ok y=>exA y (mapC f r)
def effB (E:List Param->List Formula->Sexpr->Except Int (List Change)) (ps:List Param) (ws:List Formula) (w:Bs) (r:List Sexpr) (x:Sexpr):Except Int (List Change):=
 if 0<WW w then numM ps ws (WW w) r
 else if w=Ygj then whnM E ps ws r
 else if w=XL then allM E ps ws r
 else if w=kAnd then mapC (E ps ws) r
 else if w=kNot then match r with
  | [y]=>match Ybg y with
   | .error c=>.error c
   | .ok (nm,a)=>.ok [chgM ps ws 2 nm a Ygp]
  | _=>.error 2
 else match Ybg x with
  | .error c=>.error c
  | .ok (nm,a)=>.ok [chgM ps ws 1 nm a Ygp]
def effD:Nat->List Param->List Formula->Sexpr->Except Int (List Change)
 | 0,_,_,_=>.error 2
 | d+1,ps,ws,x=>if x.kind=3/\x.kids=[] then .ok [] else match Xw x with
  | none=>.error 2
  | some (w,r)=>effB (effD d) ps ws w r x
theorem YfY {d:Nat} {ps:List Param} {ws:List Formula} {x:Sexpr}:effD (d+1) ps ws x=if x.kind=3/\x.kids=[] then .ok [] else match Xw x with
 | none=>.error 2
 | some (w,r)=>effB (effD d) ps ws w r x:=rfl
theorem chg_one:OneC changeL:=by
 intro fz d cs h u hu;obtain ⟨v1,v2,v3,v4,v5,v6,v7,v8,rfl,hR⟩:=Xj h;obtain ⟨A1,n1,c1,rfl,_⟩:=hR.params;obtain ⟨A2,n2,c2,rfl,_⟩:=hR.when_.args;obtain ⟨A3,n3,c3,rfl,_⟩:=hR.when_.params;obtain ⟨A4,n4,c4,rfl,_⟩:=hR.when_.exprs;obtain ⟨A5,n5,c5,rfl,_⟩:=hR.when_.kids;obtain ⟨A6,n6,c6,rfl,_⟩:=hR.args;obtain ⟨A7,n7,c7,rfl,_⟩:=hR.value.args;obtain ⟨A8,n8,c8,rfl,_⟩:=hR.value.kids;simp at hu;rcases hu with rfl | rfl | rfl | rfl | rfl | rfl | rfl | rfl | rfl | rfl | rfl | rfl | rfl | rfl | rfl<;>rfl
variable {fz:FZ} {v:Value}
theorem ResS.form {α:Type} {L:Lay α} {m:Except Int (List α)} (h:ResS L fz m v):∃ a b,v=.tuple #[a,b]:=by
 cases m with
 | error c=>exact ⟨_,_,h.1⟩
 | ok l=>obtain ⟨A,n,c,h,_⟩:=h;exact ⟨_,_,h⟩
variable {H:HP}
theorem YkK {a b c d:Nat × Obj}:([a,b]++(c::d::H)).Perm ([c,d,a,b]++H):=by
 refine List.Perm.append_right H (l₁:=[a,b,c,d]) (l₂:=[c,d,a,b]) ?_;exact Zq (l₁:=[a,b]) (l₂:=[c,d])
variable {cs:List Value}
theorem YjN {fz3:FZ} {gb:Nat} {m:Except Int (List Change)} {ch:Change} (hM:m=.ok [ch]) (hle:Le fz fz3) (hr:changeL.rep fz ch cs) (hg:fz3 gb=some (.cells cs.toArray 123 (0,0))):ResS changeL fz3 m (.tuple #[Zv gb 1 1,.nilIface]):=by
 rw [hM];exact ⟨_,_,_,rfl,Xz (m:=1) (ys:=[(ch,cs)]) hg (by simp) rfl (by intro p hp;simp only [List.mem_cons,List.not_mem_nil,or_false] at hp;subst hp;exact changeL.mono hle hr) rfl Zh⟩
def EffW (d:Nat):Prop:=∀ (fz:FZ) (Ap Aw:Option Addr) (np cp nw cw:Nat) (ps:List Param) (ws:List Formula) (x:Sexpr) (vk:Value),SizeOf.sizeOf x<=d->XSm x->YS fz x vk->Sl paramL fz Ap np cp ps->Sl YW fz Aw nw cw ws->np+xcount x<=100000000->nw+xcount x<=100000000->
 GFn prog 186 [.agg #[.slice Ap np cp,.slice Aw nw cw],.agg #[Zk x.kind,Zk x.value,Zk x.line,Zk x.column,.string x.text,vk]] fz [] (fun r fz' H'=>H'=[]/\ResS changeL fz' (effD d ps ws x) r)
variable {vk:Value}
set_option maxHeartbeats 8000000 in
theorem Ym1 {Ap Aw:Option Addr} {np cp nw cw:Nat} {ps:List Param} {ws:List Formula} {x w0:Sexpr} {r:List Sexpr} {kind:Int} (hk:x.kids=w0::r) (hkind:I64 kind) (hs:XSm x) (hR:YS fz x vk) (hp:Sl paramL fz Ap np cp ps) (hw:Sl YW fz Aw nw cw ws) (hnp:np<=1000000000) (hnw:nw<=1000000000):
 GFn prog 220 [.agg #[.slice Ap np cp,.slice Aw nw cw],Zk kind,.agg #[Zk x.kind,Zk x.value,Zk x.line,Zk x.column,.string x.text,vk]] fz [] (fun r2 fz' H'=>H'=[]/\ResS changeL fz' (numM ps ws kind r) r2):=by
 obtain ⟨A,n,c,rfl,ik⟩:=hR.kids;have hl:=ik.len;rw [hk,List.length_cons] at hl;refine zF Tryz.func220 Tryz.ntmps220 (fun w0=>?_);refine zW ?_;intros;refine zC (fun c1=>?_) (fun c1=>?_)
 ·have hM:numM ps ws kind r=.error 2:=by
   unfold numM;split
   ·simp at hl;omega
   rfl
  exact wS (h:=by exact ⟨rfl,by rw [hM];exact ⟨rfl,by decide⟩⟩)
 obtain ⟨y,z,rfl⟩:∃ y z,r=[y,z]:=by
  have h3:r.length=2:=by omega
  match r,h3 with
  | [y,z],_=>exact ⟨y,z,rfl⟩
 have hM:numM ps ws kind [y,z]=match Ybg y with
  | .error c=>.error c
  | .ok (nm,a)=>match YdJ z with
   | .error c=>.error c
   | .ok e=>.ok [chgM ps ws kind nm a e]:=rfl
 have hy:x.kids[1]?=some y:=by rw [hk];rfl
 have hz:x.kids[2]?=some z:=by rw [hk];rfl
 have hsy:=(Y2.1 hs).2 y (Zm hy);refine wI ik hy (fun p hp1=>?_);refine zL hp1 ?_;intro cs hcs;obtain ⟨vy,rfl,hRy⟩:=Yi hcs;refine wK (q:=Yj7 hsy hRy) (h:=fun r1 fz1 H1 hle1 hR1=>?_);obtain ⟨rfl,hR1⟩:=hR1;cases ha:Ybg y with
 | error c=>
  rw [ha] at hM hR1;obtain ⟨rfl,hc⟩:=hR1;exact wS (h:=by exact ⟨rfl,by rw [hM];exact ⟨by rw [Yk hc];rfl,hc⟩⟩)
 | ok na=>
  obtain ⟨nm,a⟩:=na;rw [ha] at hM hR1;obtain ⟨A3,n3,c3,rfl,ia,hnm⟩:=hR1;simp only at hM;refine wI (ik.mono hle1) hz (fun p2 hp2=>?_);refine zL hp2 ?_;intro cs2 hcs2;obtain ⟨vz,rfl,hRz⟩:=Yi hcs2;refine wK (q:=eParse_f hRz) (h:=fun r4 fz4 H4 hle4 hR4=>?_);obtain ⟨rfl,e4,cs4,hr4,hR4⟩:=hR4;obtain ⟨v1,v2,rfl,hE4⟩:=YK hr4;obtain ⟨B1,m1,d1,rfl,j1⟩:=hE4.args;obtain ⟨B2,m2,d2,rfl,j2⟩:=hE4.kids;cases he:YdJ z with
  | error c=>
   rw [he] at hM hR4;obtain ⟨rfl,hc⟩:=hR4;rw [Yk hc];refine zW ?_;intros;exact wS (h:=by exact ⟨rfl,by rw [hM];exact ⟨by rw [Yk hc];rfl,hc⟩⟩)
  | ok e=>
   rw [he] at hM hR4;obtain ⟨rfl,rfl⟩:=hR4;refine zW ?_;intros;refine wK (q:=YhU (hp.mono (hle1.trans hle4)) hnp (hw.mono (hle1.trans hle4)) hnw hkind hnm (ia.mono hle4) hE4) (h:=fun r5 fz5 H5 hle5 hR5=>?_);obtain ⟨rfl,cs5,rfl,hr5⟩:=hR5;simp only at hM;generalize hchg:chgM ps ws kind nm a e=ch at*;have hr5':=hr5;obtain ⟨u1,u2,u3,u4,u5,u6,u7,u8,rfl,hC⟩:=Xj hr5;obtain ⟨C1,o1,q1,rfl,_⟩:=hC.params;obtain ⟨C2,o2,q2,rfl,_⟩:=hC.when_.args;obtain ⟨C3,o3,q3,rfl,_⟩:=hC.when_.params;obtain ⟨C4,o4,q4,rfl,_⟩:=hC.when_.exprs;obtain ⟨C5,o5,q5,rfl,_⟩:=hC.when_.kids;obtain ⟨C6,o6,q6,rfl,_⟩:=hC.args;obtain ⟨C7,o7,q7,rfl,_⟩:=hC.value.args;obtain ⟨C8,o8,q8,rfl,_⟩:=hC.value.kids;refine Ya Zz (Yb T (cs:=([Zk ch.kind,.slice C1 o1 q1,.string ch.when_.op,.string ch.when_.name,.slice C2 o2 q2,.slice C3 o3 q3,.slice C4 o4 q4,.slice C5 o5 q5,.string ch.name,.slice C6 o6 q6,.string ch.value.op,.string ch.value.name,Zk ch.value.n,.slice C7 o7 q7,.slice C8 o8 q8])) Zz Zz Zz Zz Zz Zz Zz Zz (fun gb=>?_));refine zW ?_;exact YjC rfl rfl rfl (fun fz3 hle3 hf3=>⟨rfl,YjN hM hle3 hr5' (hf3 (gb,_) (.head _))⟩)
set_option maxHeartbeats 8000000 in
theorem when_f {d:Nat} (ih:EffW d) {Ap Aw:Option Addr} {np cp nw cw:Nat} {ps:List Param} {ws:List Formula} {x w0:Sexpr} {r:List Sexpr} (hk:x.kids=w0::r) (hsz:∀ y∈r,SizeOf.sizeOf y<=d) (hs:XSm x) (hR:YS fz x vk) (hp:Sl paramL fz Ap np cp ps) (hw:Sl YW fz Aw nw cw ws) (hnp:np+xcount x<=100000000) (hnw:nw+xcount x<=100000000):
 GFn prog 221 [.agg #[.slice Ap np cp,.slice Aw nw cw],.agg #[Zk x.kind,Zk x.value,Zk x.line,Zk x.column,.string x.text,vk]] fz [] (fun r2 fz' H'=>H'=[]/\ResS changeL fz' (whnM (effD d) ps ws r) r2):=by
 obtain ⟨A,n,c,rfl,ik⟩:=hR.kids;have hl:=ik.len;rw [hk,List.length_cons] at hl;refine zF Tryz.func221 Tryz.ntmps221 (fun w0=>?_);refine zW ?_;intros;refine zC (fun c1=>?_) (fun c1=>?_)
 ·have hM:whnM (effD d) ps ws r=.error 2:=by
   unfold whnM;split
   ·simp at hl;omega
   rfl
  exact wS (h:=by exact ⟨rfl,by rw [hM];exact ⟨rfl,by decide⟩⟩)
 obtain ⟨y,z,rfl⟩:∃ y z,r=[y,z]:=by
  have h3:r.length=2:=by omega
  match r,h3 with
  | [y,z],_=>exact ⟨y,z,rfl⟩
 have hM:whnM (effD d) ps ws [y,z]=match WU y with
  | .error c=>.error c
  | .ok f=>effD d ps (ws++ [f]) z:=rfl
 have hy:x.kids[1]?=some y:=by rw [hk];rfl
 have hz:x.kids[2]?=some z:=by rw [hk];rfl
 have hsz2:=(Y2.1 hs).2 z (Zm hz);have hcx:=Y4 x;rw [hk] at hcx;have hcy:=Y4 y;simp only [xcountL] at hcx;refine zW ?_;rename_i g2 g3;refine zI ik hy (fun p hp1=>?_);refine zL hp1 ?_;intro cs hcs;obtain ⟨vy,rfl,hRy⟩:=Yi hcs;refine wK (q:=Yc3 hRy) (h:=fun r4 fz4 H4 hle4 hR4=>?_);obtain ⟨rfl,f4,cs4,hr4,hR4⟩:=hR4;obtain ⟨v1,v2,v3,v4,rfl,hE4⟩:=YA hr4;obtain ⟨B1,m1,d1,rfl,j1⟩:=hE4.args;obtain ⟨B2,m2,d2,rfl,j2⟩:=hE4.params;obtain ⟨B3,m3,d3,rfl,j3⟩:=hE4.exprs;obtain ⟨B4,m4,d4,rfl,j4⟩:=hE4.kids;cases he:WU y with
 | error c=>
  rw [he] at hM hR4;obtain ⟨rfl,hc⟩:=hR4;rw [Yk hc];refine zW ?_;intros;exact wS (h:=by exact ⟨rfl,by rw [hM];exact ⟨by rw [Yk hc];rfl,hc⟩⟩)
 | ok f=>
  rw [he] at hM hR4;obtain ⟨rfl,rfl⟩:=hR4;simp only at hM;rw [List.nil_append];refine zWX ?_;intros;refine Yj ?_;refine zWX ?_;rename_i g6;refine Yj ?_;refine zWX ?_;refine Yj (Wp.mid (fun σ fz' H'=>∃ Aw2 cw2,σ=[(3,Zp g3),(2,Zp g2)]/\Le fz4 fz'/\H'=[(g3,.cells #[Zk x.kind,Zk x.value,Zk x.line,Zk x.column,.string x.text,.slice A n c] 57 (0,0)),(g2,.cells #[.slice Ap np cp,.slice Aw2 (nw+1) cw2] 264 (0,0))]/\Sl YW fz' Aw2 (nw+1) cw2 (ws++ [f])) ?_ ?_)
  ·refine Wp.drawP [6] (Hq:=[_,_,_]) T.mixed Zj Zj Zb ?_;refine zW ?_;refine Ye ?_;refine zW ?_;refine Ye ?_;refine Ye ?_;refine PK.p Zz (fun fz'=>by first | exact WH Zz rfl | exact XE Zz rfl | exact YT T Zz Zz Zz Zz Zz Zz rfl | exact Yaz Zz Zz (XD Zi) rfl | exact YQ T Zz Zz Zz rfl) ?_;refine Ye ?_;refine PK.done ⟨by kernel_rfl,?_⟩;refine YI Zz Zz Zz ?_ ?_
   ·refine Yd (Yx [] [(g6,_),(g3,_),(g2,_)] Zz Zz Zz (Yf2 (hw.mono hle4) Zi) (fun v26 fz6 Hc hle6 hR6=>⟨⟨hle6,by intro p hp;exact List.mem_append_right _ hp⟩,?_⟩));obtain ⟨Aw2,cw2,rfl,_,_⟩:=hR6.form;refine Yc Zz Zz ?_;refine Yd (Yb T (cs:=[.string f.op,.string f.name,.slice B1 m1 d1,.slice B2 m2 d2,.slice B3 m3 d3,.slice B4 m4 d4]) Zz Zz Zz Zz Zz Zz Zz Zz (fun gb=>⟨⟨hle6,by intro p hp;exact List.mem_cons_of_mem _ (List.mem_append_right _ hp)⟩,?_⟩));refine Yc Zz Zz ?_;refine Yd (YP T (d:=f) (cs:=[.string f.op,.string f.name,.slice B1 m1 d1,.slice B2 m2 d2,.slice B3 m3 d3,.slice B4 m4 d4]) (Hr:=(gb,_)::(g6,_)::(g3,_):: [(g2,_)]) Zz Zz Zz Zz Zz Zz Zz Zz (List.Perm.cons _ Zq) hR6 YdT (.head _) (YW.mono hle6 hr4) (by show _*128<=_;omega) Zi (fun v' Hs' hG'=>⟨⟨hle6,by intro p hp;exact List.mem_append_left _ (List.mem_cons_of_mem _ hp)⟩,?_⟩));obtain ⟨Aw3,cw3,rfl,_,_⟩:=hG'.form;refine Yc Zz Zz ?_;refine PoS.hard0 Zj (Wz T Zz Zz Zz Zz Zz Zz ?_);refine Po.done ?_;refine zW ?_;exact midF (H':=[(g3,_),(g2,_)]) (H2:=(gb,_)::(g6,_)::Hs') (by exact YkK) (fun fz7 hle7 hf7=>⟨Aw3,cw3,rfl,hle6.trans hle7,rfl,hG'.fz hle7 (fun p hp=>hf7 p (List.mem_cons_of_mem _ (List.mem_cons_of_mem _ hp))) Zi⟩) Zw
   refine Yd (Yb T (cs:=[.string f.op,.string f.name,.slice B1 m1 d1,.slice B2 m2 d2,.slice B3 m3 d3,.slice B4 m4 d4]) Zz Zz Zz Zz Zz Zz Zz Zz (fun gb=>⟨⟨(Le.refl _),by intro p hp;exact List.mem_cons_of_mem _ hp⟩,?_⟩));refine Yc Zz Zz ?_;refine Yd (Yx [] [(gb,_),(g6,_),(g3,_),(g2,_)] Zz Zz Zz (Yf2 (hw.mono hle4) Zi) (fun v26 fz6 Hc hle6 hR6=>⟨⟨hle6,by intro p hp;exact List.mem_append_right _ (List.mem_cons_of_mem _ hp)⟩,?_⟩));obtain ⟨Aw2,cw2,rfl,_,_⟩:=hR6.form;refine Yc Zz Zz ?_;refine Yd (YP T (d:=f) (cs:=[.string f.op,.string f.name,.slice B1 m1 d1,.slice B2 m2 d2,.slice B3 m3 d3,.slice B4 m4 d4]) (Hr:=(gb,_)::(g6,_)::(g3,_):: [(g2,_)]) Zz Zz Zz Zz Zz Zz Zz Zz Zq hR6 YdT (List.mem_append_right _ (.head _)) (YW.mono hle6 hr4) (by show _*128<=_;omega) Zi (fun v' Hs' hG'=>⟨⟨hle6,by intro p hp;exact List.mem_append_left _ (List.mem_cons_of_mem _ hp)⟩,?_⟩));obtain ⟨Aw3,cw3,rfl,_,_⟩:=hG'.form;refine Yc Zz Zz ?_;refine PoS.hard0 Zj (Wz T Zz Zz Zz Zz Zz Zz ?_);refine Po.done ?_;refine zW ?_;exact midF (H':=[(g3,_),(g2,_)]) (H2:=(gb,_)::(g6,_)::Hs') (by exact YkK) (fun fz7 hle7 hf7=>⟨Aw3,cw3,rfl,hle6.trans hle7,rfl,hG'.fz hle7 (fun p hp=>hf7 p (List.mem_cons_of_mem _ (List.mem_cons_of_mem _ hp))) Zi⟩) Zw
  rintro σ fz' H' ⟨Aw2,cw2,rfl,hle5,rfl,hw5⟩;refine Yj ?_;refine Wp.drawP [] (Hq:=[_,_]) T.mixed Zj Zj Zb ?_;refine wI (ik.mono (hle4.trans hle5)) hz (fun p2 hp2=>?_);refine zL hp2 ?_;intro cs2 hcs2;obtain ⟨vz,rfl,hRz⟩:=Yi hcs2;refine Ye ?_;refine Ye ?_;refine Ye ?_;refine Ye ?_;refine Ye ?_;refine PK.done ⟨by kernel_rfl,?_⟩;refine Yc Zz Zz ?_;refine Yd (Yx [] [_,_] Zz Zz Zz (ih _ _ _ _ _ _ _ _ _ _ _ (hsz z (by simp)) hsz2 hRz (hp.mono (hle4.trans hle5)) hw5 Zi Zi) (fun r8 fz8 H8 hle8 hR8=>?_));obtain ⟨rfl,hR8⟩:=hR8;obtain ⟨ra,rb,rfl⟩:=hR8.form;rw [<- hM] at hR8;refine ⟨(⟨hle8,Zp2⟩),?_⟩;refine YI Zz Zz Zz ?_ ?_
  ·refine PoS.qk (⟨hle8,Zp2⟩) (Wh Zz Zz ?_);refine Yc Zz Zz ?_;refine PoS.qk (⟨hle8,Zp2⟩) (Wh Zz Zz ?_);refine Yc Zz Zz ?_;refine PoS.qk (⟨hle8,Zp2⟩) (YY Zz ?_);refine Yc Zz Zz ?_;refine PoS.qk (⟨hle8,Zp2⟩) (YY Zz ?_);refine Po.done ?_;exact wS (h:=by exact ⟨rfl,hR8⟩)
  refine PoS.qk (⟨hle8,Zp2⟩) (Wh Zz Zz ?_);refine Yc Zz Zz ?_;refine PoS.qk (⟨hle8,Zp2⟩) (Wh Zz Zz ?_);refine Yc Zz Zz ?_;refine PoS.qk (⟨hle8,Zp2⟩) (YY Zz ?_);refine Yc Zz Zz ?_;refine PoS.qk (⟨hle8,Zp2⟩) (YY Zz ?_);refine Po.done ?_;exact wS (h:=by exact ⟨rfl,hR8⟩)
set_option maxHeartbeats 8000000 in
theorem forall_f {d:Nat} (ih:EffW d) {Ap Aw:Option Addr} {np cp nw cw:Nat} {ps:List Param} {ws:List Formula} {x w0:Sexpr} {r:List Sexpr} (hk:x.kids=w0::r) (hsz:∀ y∈r,SizeOf.sizeOf y<=d) (hs:XSm x) (hR:YS fz x vk) (hp:Sl paramL fz Ap np cp ps) (hw:Sl YW fz Aw nw cw ws) (hnp:np+xcount x<=100000000) (hnw:nw+xcount x<=100000000):
 GFn prog 222 [.agg #[.slice Ap np cp,.slice Aw nw cw],.agg #[Zk x.kind,Zk x.value,Zk x.line,Zk x.column,.string x.text,vk]] fz [] (fun r2 fz' H'=>H'=[]/\ResS changeL fz' (allM (effD d) ps ws r) r2):=by
 obtain ⟨A,n,c,rfl,ik⟩:=hR.kids;have hl:=ik.len;rw [hk,List.length_cons] at hl;have bad:(∀ y z,r=[y,z]->y.kind≠3)->allM (effD d) ps ws r=.error 2:=fun h=>by
  unfold allM;split
  ·rename_i y z;rw [if_pos (h y z rfl)]
  rfl
 refine zF Tryz.func222 Tryz.ntmps222 (fun w0=>?_);refine zW ?_;intros;refine zC (fun c1=>?_) (fun c1=>?_)
 ·exact wS (h:=by exact ⟨rfl,by rw [bad (fun y z e=>by rw [e] at hl;simp at hl;omega)];exact ⟨rfl,by decide⟩⟩)
 obtain ⟨y,z,rfl⟩:∃ y z,r=[y,z]:=by
  have h3:r.length=2:=by omega
  match r,h3 with
  | [y,z],_=>exact ⟨y,z,rfl⟩
 have hM:allM (effD d) ps ws [y,z]=if y.kind≠3 then .error 2 else match parM true y.kids [] [] with
  | .error c=>.error c
  | .ok l=>effD d (ps++l) ws z:=rfl
 have hy:x.kids[1]?=some y:=by rw [hk];rfl
 have hz:x.kids[2]?=some z:=by rw [hk];rfl
 have hsz2:=(Y2.1 hs).2 z (Zm hz);have hsy:=(Y2.1 hs).2 y (Zm hy);have hyl:y.kids.length<=1000000:=(Y2.1 hsy).1;have hcx:=Y4 x;rw [hk] at hcx;have hcy:=Y4 y;have hcyl:=X9 (l:=y.kids);simp only [xcountL] at hcx;refine zW ?_;rename_i g2 g3;refine zI ik hy (fun p hp1=>?_);refine wG ?_;refine XG T Zz Zz Zz hp1.Sexpr_kind (fun i1=>?_);refine zC (fun c2=>?_) (fun c2=>?_)
 ·rw [if_pos c2] at hM;exact wS (h:=by exact ⟨rfl,by rw [hM];exact ⟨rfl,by decide⟩⟩)
 rw [if_neg (Classical.not_not.2 c2)] at hM;refine wI ik hy (fun p3 hp3=>?_);refine wG ?_;refine Ybh T Zz Zz Zz hp3.Sexpr_kids (fun Ay ny cy iy=>?_);have hyn:=iy.len;refine wK (q:=YaN (b:=true) iy Zi) (h:=fun r4 fz4 H4 hle4 hR4=>?_);obtain ⟨rfl,hR4⟩:=hR4;cases hps:parM true y.kids [] [] with
 | error c=>
  rw [hps] at hM hR4;obtain ⟨rfl,hc⟩:=hR4;rw [Yk hc];exact wS (h:=by exact ⟨rfl,by rw [hM];exact ⟨by rw [Yk hc];rfl,hc⟩⟩)
 | ok l=>
  rw [hps] at hM hR4;obtain ⟨A5,n5,c5,rfl,il⟩:=hR4;have hll:=Yeh hps;have hn5:=il.len;simp only [List.length_nil] at hll;simp only at hM;rw [List.nil_append];refine wK (q:=Ybc (hp.mono hle4) Zi) (h:=fun r6 fz6 Hc hle6 hR6=>?_);obtain ⟨Ap2,cp2,rfl,_,_⟩:=hR6.form;refine zW ?_;refine Ya Zz (WX T (Hr:=[(g3,_),(g2,_)]) Zz Zz Zz Zz Zz Zz Zz Zz Zq hR6 WV (il.mono hle6) (by show _*32<=_;omega) Zi (fun v' Hs' hG'=>?_));obtain ⟨Ap3,cp3,rfl,_,_⟩:=hG'.form;refine zWN ?_;refine Wp.freezeAll (H1:=[(g3,_),(g2,_)]) (H2:=Hs') (Zr _) (fun fz7 hle7 hf7=>?_);have hp7:=hG'.fz hle7 hf7 Zi;have hle5:=hle6.trans hle7;refine Wp.drawP [] (Hq:=[_,_]) T.mixed Zj Zj Zb ?_;refine wI (ik.mono (hle4.trans hle5)) hz (fun p2 hp2=>?_);refine zL hp2 ?_;intro cs2 hcs2;obtain ⟨vz,rfl,hRz⟩:=Yi hcs2;refine Ye ?_;refine Ye ?_;refine Ye ?_;refine Ye ?_;refine Ye ?_;refine PK.done ⟨by kernel_rfl,?_⟩;refine Yc Zz Zz ?_;refine Yd (Yx [] [_,_] Zz Zz Zz (ih _ _ _ _ _ _ _ _ _ _ _ (hsz z (by simp)) hsz2 hRz hp7 (hw.mono (hle4.trans hle5)) Zi Zi) (fun r8 fz8 H8 hle8 hR8=>?_));obtain ⟨rfl,hR8⟩:=hR8;obtain ⟨ra,rb,rfl⟩:=hR8.form;rw [<- hM] at hR8;refine ⟨(⟨hle8,Zp2⟩),?_⟩;refine YI Zz Zz Zz ?_ ?_
  ·refine PoS.qk (⟨hle8,Zp2⟩) (Wh Zz Zz ?_);refine Yc Zz Zz ?_;refine PoS.qk (⟨hle8,Zp2⟩) (Wh Zz Zz ?_);refine Yc Zz Zz ?_;refine PoS.qk (⟨hle8,Zp2⟩) (YY Zz ?_);refine Yc Zz Zz ?_;refine PoS.qk (⟨hle8,Zp2⟩) (YY Zz ?_);refine Po.done ?_;exact wS (h:=by exact ⟨rfl,hR8⟩)
  refine PoS.qk (⟨hle8,Zp2⟩) (Wh Zz Zz ?_);refine Yc Zz Zz ?_;refine PoS.qk (⟨hle8,Zp2⟩) (Wh Zz Zz ?_);refine Yc Zz Zz ?_;refine PoS.qk (⟨hle8,Zp2⟩) (YY Zz ?_);refine Yc Zz Zz ?_;refine PoS.qk (⟨hle8,Zp2⟩) (YY Zz ?_);refine Po.done ?_;exact wS (h:=by exact ⟨rfl,hR8⟩)
theorem Ynh {w:Bs}:I64 (WW w):=by unfold WW I64;split;omega;split;omega;split<;>omega
section
variable {α β:Type} {f:α->Except Int (List β)} {l:List α} {k:Nat} {x:α} {o y:List β} {m:Except Int (List β)} {c:Int}
theorem mapC_err (hx:l[k]?=some x) (hm:m=exA o (mapC f (l.drop k))) (hf:f x=.error c):m=.error c:=by rw [hm,YbG hx,mapC,hf];rfl
theorem mapC_ok (hx:l[k]?=some x) (hm:m=exA o (mapC f (l.drop k))) (hf:f x=.ok y):m=exA (o++y) (mapC f (l.drop (k+1))):=by rw [hm,YbG hx,mapC,hf,YfU]
theorem mapC_end (hk:l.length<=k) (hm:m=exA o (mapC f (l.drop k))):m=.ok o:=by rw [hm,List.drop_eq_nil_of_le hk,mapC,exA,List.append_nil]
end
theorem YkT {β:Type} {f:Sexpr->Except Int (List β)} (hf:∀ y z,f y=.ok z->z.length<=xcount y):∀ {l:List Sexpr} {o:List β},mapC f l=.ok o->o.length<=xcountL l
 | [],o,h=>by rw [mapC] at h;injection h with h;subst h;exact Z0 _
 | x::r,o,h=>by
  rw [mapC] at h;split at h
  ·cases h
  rename_i y hy;obtain ⟨b,h1,rfl⟩:=Yi4 h;have:=hf _ _ hy;have:=YkT hf h1;rw [List.length_append,xcountL];omega
theorem Yet:∀ (d:Nat) {ps:List Param} {ws:List Formula} {x:Sexpr} {l:List Change},effD d ps ws x=.ok l->l.length<=xcount x
 | 0,_,_,_,_,h=>by cases h
 | d+1,ps,ws,x,l,h=>by
  rw [YfY] at h;have hx:=Y4 x;split at h
  ·injection h with h;subst h;exact Z0 _
  split at h
  ·cases h
  rename_i w r hh;obtain ⟨u,hk,_⟩:=XR hh;rw [hk,xcountL] at hx;have one:∀ {m:Except Int (Bs × List Bs)} {g:Bs->List Bs->Change},(match m with | .error c=>.error c | .ok (nm,a)=>.ok [g nm a]:Except Int (List Change))=.ok l->l.length<=1:=fun {m g} e=>by
   split at e
   ·cases e
   injection e with e;subst e;exact Zs _
  unfold effB at h;split at h
  ·unfold numM at h;split at h
   ·split at h
    ·cases h
    split at h
    ·cases h
    injection h with h;subst h;simp;omega
   cases h
  split at h
  ·unfold whnM at h;split at h
   ·split at h
    ·cases h
    have:=Yet d h;simp only [xcountL] at hx;omega
   cases h
  split at h
  ·unfold allM at h;split at h
   ·split at h
    ·cases h
    split at h
    ·cases h
    have:=Yet d h;simp only [xcountL] at hx;omega
   cases h
  split at h
  ·have:=YkT (fun y z e=>Yet d e) h;omega
  split at h
  ·split at h
   ·have:=one h;omega
   cases h
  have:=one h;omega
theorem Yki:ExprR fz Ygp Zn Zn:=by
 obtain ⟨v1,v2,e,h⟩:=YK (YaW (fz:=fz));injection e with _ e;injection e with _ e;injection e with _ e;injection e with e1 e;injection e with e2 e
 subst e1 e2;exact h
set_option maxHeartbeats 8000000 in
theorem effect_f (d:Nat):EffW d:=by
 induction d with
 | zero=>intro fz Ap Aw np cp nw cw ps ws x vk hz;cases x;simp at hz
 | succ d ih=>
  intro fz Ap Aw np cp nw cw ps ws x vk hz hs hR hp hw hnp hnw;have hM:=YfY (d:=d) (ps:=ps) (ws:=ws) (x:=x);have hbeg:=Ycp hR;have hRx:=hR;obtain ⟨A,n,c,rfl,ik⟩:=hR.kids;have hl:=ik.len;refine zF Tryz.func186 Tryz.ntmps186 (fun w0=>?_);refine zWX ?_;refine Yj ?_;refine zWX ?_;intros;rename_i g2 g3;refine Yj ?_;refine Yj (Wp.mid (fun σ fz' H'=>∃ bb:Bool,σ=[(27,.bool bb),(3,Zp g3),(2,Zp g2)]/\fz=fz'/\H'=[(g3,.cells #[Zk x.kind,Zk x.value,Zk x.line,Zk x.column,.string x.text,.slice A n c] 57 (0,0)),(g2,.cells #[.slice Ap np cp,.slice Aw nw cw] 264 (0,0))]/\(bb=true↔x.kind=3/\x.kids=[])) ?_ ?_)
  ·refine wC (fun c1=>?_) (fun c1=>?_)
   ·refine wC (fun c2=>?_) (fun c2=>?_)
    ·exact wN (h:=by exact ⟨true,rfl,rfl,rfl,iff_of_true rfl ⟨c1,List.eq_nil_of_length_eq_zero Zi⟩⟩)
    exact wN (h:=by exact ⟨false,rfl,rfl,rfl,iff_of_false Zh (fun h=>c2 (by rw [h.2] at hl;simp at hl;omega))⟩)
   exact wN (h:=by exact ⟨false,rfl,rfl,rfl,iff_of_false Zh (fun h=>c1 h.1)⟩)
  rintro σ fz' H' ⟨bb,rfl,rfl,rfl,hb⟩;cases bb with
  | true=>
   rw [if_pos (hb.1 rfl)] at hM;exact wS (h:=by exact ⟨rfl,by rw [hM];exact ⟨_,_,_,rfl,Sl.nil Zh⟩⟩)
  | false=>
   rw [if_neg (fun h=>absurd (hb.2 h) Zh)] at hM;refine zW ?_;cases hh:Xw x with
   | none=>
    rw [hh] at hM hbeg;refine zc hbeg ?_;exact wS (h:=by exact ⟨rfl,by rw [hM];exact ⟨rfl,by decide⟩⟩)
   | some wr=>
    obtain ⟨w,r⟩:=wr;rw [hh] at hM hbeg;simp only at hM;obtain ⟨y,hk,rfl,hk3,hk1⟩:=XR hh;have hrs:=WA hs hh;have hk0:x.kids[0]?=some y:=by rw [hk];rfl
    have hrz:∀ u∈r,SizeOf.sizeOf u<=d:=fun u hu=>by have:=YjX hh hu;omega
    have hcx:=Y4 x;rw [hk,xcountL] at hcx;rw [hk,List.length_cons] at hl;refine zc hbeg ?_;refine wI ik hk0 (fun p hp0=>?_);refine wH hp0.Sexpr_text (fun hst=>?_);refine wc (kinds_q (w:=y.text)) ?_;refine wC (fun c1=>?_) (fun c1=>?_)
    ·unfold effB at hM;rw [if_pos c1] at hM;refine wK (q:=Ym1 hk Ynh hs hRx hp hw Zi Zi) (h:=fun r4 fz4 H4 hle4 hR4=>?_);obtain ⟨rfl,hR4⟩:=hR4;obtain ⟨ra,rb,rfl⟩:=hR4.form;exact wS (h:=by exact ⟨rfl,by rw [hM];exact hR4⟩)
    unfold effB at hM;rw [if_neg c1] at hM;refine wC (fun c2=>?_) (fun c2=>?_)
    ·rw [if_pos (show y.text=Ygj from c2)] at hM;refine wK (q:=when_f ih hk hrz hs hRx hp hw Zi Zi) (h:=fun r4 fz4 H4 hle4 hR4=>?_);obtain ⟨rfl,hR4⟩:=hR4;obtain ⟨ra,rb,rfl⟩:=hR4.form;exact wS (h:=by exact ⟨rfl,by rw [hM];exact hR4⟩)
    rw [if_neg (show ¬y.text=Ygj from c2)] at hM;refine wC (fun c3=>?_) (fun c3=>?_)
    ·rw [if_pos (show y.text=XL from c3)] at hM;refine wK (q:=forall_f ih hk hrz hs hRx hp hw Zi Zi) (h:=fun r4 fz4 H4 hle4 hR4=>?_);obtain ⟨rfl,hR4⟩:=hR4;obtain ⟨ra,rb,rfl⟩:=hR4.form;exact wS (h:=by exact ⟨rfl,by rw [hM];exact hR4⟩)
    rw [if_neg (show ¬y.text=XL from c3)] at hM;refine wC (fun c4=>?_) (fun c4=>?_)
    ·rw [if_pos (show y.text=kAnd from c4)] at hM;refine wG ?_;refine XC (j:=1) T Zz Zz Zz Zz Zz Zz ik Zi (fun A' hA'=>?_);rw [hk,List.drop_one,List.tail_cons] at hA';have hdr:=hA'.len;refine zW ?_;refine Ym (fun q σ fz' H'=>∃ (k:Nat) (v:Value) (Hs:HP) (out:List Change),k<=n - 1/\q=n - 1 - k/\σ=[(71,Zk k),(70,Zk (n - 1:Nat)),(69,.slice A' (n - 1) (c - 1)),(8,v),(2,Zp g2)]/\Le fz fz'/\H'=(g2,.cells #[.slice Ap np cp,.slice Aw nw cw] 264 (0,0))::Hs/\Grow changeL 123 fz' v out.length Hs out/\out.length+xcountL (r.drop k)<=xcountL r/\effD (d+1) ps ws x=exA out (mapC (effD d ps ws) (r.drop k))) ⟨0,_,[],[],Z0 _,rfl,rfl,Le.refl _,rfl,Grow.nil _ _ _,by simp,by rw [YcL];exact hM⟩ Zw Zb ?_;rintro q σ fz' H' ⟨k,v,Hs,out,hkn,rfl,rfl,hle,rfl,hG,hcn,hT⟩;obtain ⟨Av,cv,rfl,_,_⟩:=hG.form;refine wC (fun c5=>?_) (fun c5=>?_)
     ·obtain ⟨z,hzk⟩:=Yl (l:=r) (k:=k) Zi;have hzr:=Zm hzk;rw [YbG hzk,xcountL] at hcn;have hcz:=XX hzr;refine wI (hA'.mono hle) hzk (fun p2 hp2=>?_);refine zL hp2 ?_;intro cs hcs;obtain ⟨vz,rfl,hRz⟩:=Yi hcs;obtain ⟨Az,nz,cz,rfl,iz⟩:=hRz.kids;refine zW ?_;intros;refine wK (q:=ih _ _ _ _ _ _ _ _ _ _ _ (hrz z hzr) (Wf hs hh hzr) hRz (hp.mono hle) (hw.mono hle) Zi Zi) (h:=fun r4 fz4 H4 hle4 hR4=>?_);obtain ⟨rfl,hR4⟩:=hR4;cases hx:effD d ps ws z with
      | error c'=>
       rw [hx] at hR4;obtain ⟨rfl,hc⟩:=hR4;have hm:=mapC_err hzk hT hx;rw [Yk hc];exact wS (h:=by exact ⟨rfl,by rw [hm];exact ⟨by rw [Yk hc];rfl,hc⟩⟩)
      | ok zl=>
       rw [hx] at hR4;obtain ⟨A5,n5,c5',rfl,il⟩:=hR4;have hm:=mapC_ok hzk hT hx;have hel:=Yet d hx;have hn5:=il.len;refine zW ?_;rename_i g10;refine Ya Zz (WX T (Hr:=[(g10,_),(g2,_)]) Zz Zz Zz Zz Zz Zz Zz Zz (Zr _) (hG.mono hle4) chg_one il (by show _*288<=_;omega) Zi (fun v' Hs' hG'=>?_));exact wP (h:=by exact ⟨k+1,v',Hs',out++zl,by omega,rfl,rfl,hle.trans hle4,rfl,hG'.of rfl (by rw [List.length_append];omega),by rw [List.length_append];omega,hm⟩)
     have hm:=mapC_end Zi hT;refine zW ?_;refine YjC rfl rfl rfl (fun fz3 hle3 hf3=>⟨rfl,?_⟩);obtain ⟨A1,c1',hv1,hS1⟩:=hG.sl hle3 (fun p hp=>hf3 p (List.mem_cons_of_mem _ hp)) Zi;injection hv1 with hv1 hv2 hv3
     subst hv1 hv3;rw [hm];exact ⟨_,_,_,rfl,hS1⟩
    rw [if_neg (show ¬y.text=kAnd from c4)] at hM;refine wC (fun c5=>?_) (fun c5=>?_)
    ·rw [if_pos (show y.text=kNot from c5)] at hM;refine wC (fun c6=>?_) (fun c6=>?_)
     ·have hM2:effD (d+1) ps ws x=.error 2:=hM.trans (by
       split
       ·simp at hl;omega
       rfl)
      exact wS (h:=by exact ⟨rfl,by rw [hM2];exact ⟨rfl,by decide⟩⟩)
     obtain ⟨u,rfl⟩:∃ u,r=[u]:=by
      have h3:r.length=1:=by omega
      match r,h3 with
      | [u],_=>exact ⟨u,rfl⟩
     simp only at hM;have hu:x.kids[1]?=some u:=by rw [hk];rfl
     have hsu:=Wf hs hh (y:=u) (by simp);refine wI ik hu (fun p2 hp2=>?_);refine zL hp2 ?_;intro cs hcs;obtain ⟨vu,rfl,hRu⟩:=Yi hcs;refine wK (q:=Yj7 hsu hRu) (h:=fun r1 fz1 H1 hle1 hR1=>?_);obtain ⟨rfl,hR1⟩:=hR1;cases ha:Ybg u with
     | error c=>
      rw [ha] at hM hR1;obtain ⟨rfl,hc⟩:=hR1;exact wS (h:=by exact ⟨rfl,by rw [hM];exact ⟨by rw [Yk hc];rfl,hc⟩⟩)
     | ok na=>
      obtain ⟨nm,a⟩:=na;rw [ha] at hM hR1;obtain ⟨A3,n3,c3',rfl,ia,hnm⟩:=hR1;simp only at hM;refine wK (q:=YhU (hp.mono hle1) Zi (hw.mono hle1) Zi (by unfold I64;omega) hnm ia Yki) (h:=fun r5 fz5 H5 hle5 hR5=>?_);obtain ⟨rfl,cs5,rfl,hr5⟩:=hR5;generalize hchg:chgM ps ws 2 nm a Ygp=ch at*;have hr5':=hr5;obtain ⟨u1,u2,u3,u4,u5,u6,u7,u8,rfl,hC⟩:=Xj hr5;obtain ⟨C1,o1,q1,rfl,_⟩:=hC.params;obtain ⟨C2,o2,q2,rfl,_⟩:=hC.when_.args;obtain ⟨C3,o3,q3,rfl,_⟩:=hC.when_.params;obtain ⟨C4,o4,q4,rfl,_⟩:=hC.when_.exprs;obtain ⟨C5,o5,q5,rfl,_⟩:=hC.when_.kids;obtain ⟨C6,o6,q6,rfl,_⟩:=hC.args;obtain ⟨C7,o7,q7,rfl,_⟩:=hC.value.args;obtain ⟨C8,o8,q8,rfl,_⟩:=hC.value.kids;refine Ya Zz (Yb T (cs:=([Zk ch.kind,.slice C1 o1 q1,.string ch.when_.op,.string ch.when_.name,.slice C2 o2 q2,.slice C3 o3 q3,.slice C4 o4 q4,.slice C5 o5 q5,.string ch.name,.slice C6 o6 q6,.string ch.value.op,.string ch.value.name,Zk ch.value.n,.slice C7 o7 q7,.slice C8 o8 q8])) Zz Zz Zz Zz Zz Zz Zz Zz (fun gb=>?_));refine zW ?_;exact YjC rfl rfl rfl (fun fz3 hle3 hf3=>⟨rfl,YjN hM hle3 hr5' (hf3 (gb,_) (.head _))⟩)
    rw [if_neg (show ¬y.text=kNot from c5)] at hM;refine wK (q:=Yj7 hs hRx) (h:=fun r1 fz1 H1 hle1 hR1=>?_);obtain ⟨rfl,hR1⟩:=hR1;cases ha:Ybg x with
    | error c=>
     rw [ha] at hM hR1;obtain ⟨rfl,hc⟩:=hR1;exact wS (h:=by exact ⟨rfl,by rw [hM];exact ⟨by rw [Yk hc];rfl,hc⟩⟩)
    | ok na=>
     obtain ⟨nm,a⟩:=na;rw [ha] at hM hR1;obtain ⟨A3,n3,c3',rfl,ia,hnm⟩:=hR1;simp only at hM;refine wK (q:=YhU (hp.mono hle1) Zi (hw.mono hle1) Zi (by unfold I64;omega) hnm ia Yki) (h:=fun r5 fz5 H5 hle5 hR5=>?_);obtain ⟨rfl,cs5,rfl,hr5⟩:=hR5;generalize hchg:chgM ps ws 1 nm a Ygp=ch at*;have hr5':=hr5;obtain ⟨u1,u2,u3,u4,u5,u6,u7,u8,rfl,hC⟩:=Xj hr5;obtain ⟨C1,o1,q1,rfl,_⟩:=hC.params;obtain ⟨C2,o2,q2,rfl,_⟩:=hC.when_.args;obtain ⟨C3,o3,q3,rfl,_⟩:=hC.when_.params;obtain ⟨C4,o4,q4,rfl,_⟩:=hC.when_.exprs;obtain ⟨C5,o5,q5,rfl,_⟩:=hC.when_.kids;obtain ⟨C6,o6,q6,rfl,_⟩:=hC.args;obtain ⟨C7,o7,q7,rfl,_⟩:=hC.value.args;obtain ⟨C8,o8,q8,rfl,_⟩:=hC.value.kids;refine Ya Zz (Yb T (cs:=([Zk ch.kind,.slice C1 o1 q1,.string ch.when_.op,.string ch.when_.name,.slice C2 o2 q2,.slice C3 o3 q3,.slice C4 o4 q4,.slice C5 o5 q5,.string ch.name,.slice C6 o6 q6,.string ch.value.op,.string ch.value.name,Zk ch.value.n,.slice C7 o7 q7,.slice C8 o8 q8])) Zz Zz Zz Zz Zz Zz Zz Zz (fun gb=>?_));refine zW ?_;exact YjC rfl rfl rfl (fun fz3 hle3 hf3=>⟨rfl,YjN hM hle3 hr5' (hf3 (gb,_) (.head _))⟩)
theorem whenM_sm {ws:List Formula} (hw:ws.length<=1000000) (hf:∀ f∈ws,FSm f):FSm (whenM ws):=by
 match ws,hw,hf with
 | [],_,_=>exact Wc.2 ⟨⟨by show 0<=_;omega,by show 0<=_;omega,by show 0<=_;omega⟩,fun e he=>(by cases he),fun k hk=>by cases hk⟩
 | [f],_,hf=>exact hf f (by simp)
 | f::g::r,hw,hf=>exact Wc.2 ⟨⟨by show 0<=_;omega,by show 0<=_;omega,by show (f::g::r).length<=_;omega⟩,fun e he=>(by cases he),hf⟩
theorem Yh0:ESm Ygp:=W0.2 ⟨by show 0<=_;omega,fun k hk=>by cases hk⟩
theorem Yn3 {ps:List Param} {ws:List Formula} {kind:Int} {nm:Bs} {a:List Bs} {e:Lx.Expr} (hp:ps.length<=1000000) (hw:ws.length<=1000000) (hf:∀ f∈ws,FSm f) (ha:a.length<=1000000) (he:ESm e):ChSm (chgM ps ws kind nm a e):=
 ⟨by show ps.length<=_;omega,by show a.length<=_;omega,whenM_sm hw hf,he⟩
theorem Yeb {x:Sexpr} {w:Bs} {a:List Bs} (hs:XSm x) (h:Ybg x=.ok (w,a)):a.length<=1000000:=by
 unfold Ybg at h;split at h
 ·cases h
 rename_i w' r hh;split at h
 ·split at h
  ·cases h
  rename_i a' ha;injection h with h
  injection h with h1 h2
  subst h2;rw [YdC ha];exact WA hs hh
 cases h
variable {f:Formula}
theorem YbP {x:Sexpr} (h:WU x=.ok f):FSm f:=by
 unfold WU at h;split at h
 ·rename_i hv;split at h
  ·cases h
  rename_i f' hf;split at h
  ·injection h with h;subst h;exact YeZ _ hv.sm hf
  cases h
 cases h
theorem YmU {x:Sexpr} {e:Lx.Expr} (h:YdJ x=.ok e):ESm e:=by
 unfold YdJ at h;split at h
 ·rename_i hv;split at h
  ·cases h
  rename_i f' hf;split at h
  ·injection h with h;subst h;exact YdI _ hv.sm hf
  cases h
 cases h
theorem YkS {α β:Type} {f:α->Except Int (List β)}:∀ {l:List α} {o:List β},mapC f l=.ok o->∀ z∈o,∃ y∈l,∃ u,f y=.ok u/\z∈u
 | [],o,h,z,hz=>by rw [mapC] at h;injection h with h;subst h;cases hz
 | x::r,o,h,z,hz=>by
  rw [mapC] at h;split at h
  ·cases h
  rename_i y hy;obtain ⟨b,h1,rfl⟩:=Yi4 h;rcases List.mem_append.1 hz with hz | hz
  ·exact ⟨x,by simp,y,hy,hz⟩
  obtain ⟨y',h2,h3⟩:=YkS h1 z hz;exact ⟨y',List.mem_cons_of_mem _ h2,h3⟩
theorem Yi5:∀ (d:Nat) {ps:List Param} {ws:List Formula} {x:Sexpr} {l:List Change},XSm x->ps.length+xcount x<=1000000->ws.length+xcount x<=1000000->(∀ f∈ws,FSm f)->effD d ps ws x=.ok l->∀ c∈l,ChSm c
 | 0,_,_,_,_,_,_,_,_,h=>by cases h
 | d+1,ps,ws,x,l,hs,hp,hw,hf,h=>by
  rw [YfY] at h;have hx:=Y4 x;split at h
  ·injection h with h;subst h;intro c hc;cases hc
  split at h
  ·cases h
  rename_i w r hh;obtain ⟨u,hk,_⟩:=XR hh;rw [hk,xcountL] at hx;have hsr:∀ {y},y∈r->XSm y:=fun hy=>Wf hs hh hy
  unfold effB at h;split at h
  ·unfold numM at h;split at h
   ·split at h
    ·cases h
    rename_i nm a ha;split at h
    ·cases h
    rename_i e he;injection h with h;subst h
    intro c hc;simp at hc;subst hc;exact Yn3 Zi Zi hf (Yeb (hsr (by simp)) ha) (YmU he)
   cases h
  split at h
  ·unfold whnM at h;split at h
   ·split at h
    ·cases h
    rename_i f hpf;simp only [xcountL] at hx;exact Yi5 d (hsr (by simp)) Zi (by rw [List.length_append,List.length_singleton];omega) (fun g hg=>by rcases List.mem_append.1 hg with hg | hg;exact hf g hg;simp at hg;subst hg;exact YbP hpf) h
   cases h
  split at h
  ·unfold allM at h;split at h
   ·split at h
    ·cases h
    split at h
    ·cases h
    rename_i y z _ _ ps' hps;have h1:=Yeh hps;have h2:=Y4 y;have h3:=X9 (l:=y.kids);simp only [xcountL,List.length_nil] at hx h1;exact Yi5 d (hsr (by simp)) (by rw [List.length_append];omega) Zi hf h
   cases h
  split at h
  ·intro c hc;obtain ⟨y,hy,u',h1,h2⟩:=YkS h c hc;have:=XX hy;exact Yi5 d (hsr hy) Zi Zi hf h1 c h2
  split at h
  ·split at h
   ·split at h
    ·cases h
    rename_i nm a ha;injection h with h;subst h
    intro c hc;simp at hc;subst hc;exact Yn3 Zi Zi hf (Yeb (hsr (by simp)) ha) Yh0
   cases h
  split at h
  ·cases h
  rename_i nm a ha;injection h with h;subst h
  intro c hc;simp at hc;subst hc;exact Yn3 Zi Zi hf (Yeb hs ha) Yh0
def WI (x:Sexpr):Except Int (List Change):=if XVal x then match effD (SizeOf.sizeOf x) [] [] x with
 | .error c=>.error c
 | .ok l=>if Ybq l/\XVal (effX l) then .ok l else .error 5
 else .error 2
theorem Ydk {x:Sexpr} {l:List Change} (h:WI x=.ok l):Yjo l:=by
 unfold WI at h;split at h
 ·rename_i hv;have hc:=hv.2.2;split at h
  ·cases h
  rename_i l' hl;split at h
  ·injection h with h
   subst h;have:=Yet _ hl;exact ⟨by omega,Yi5 _ hv.sm (by simp;omega) (by simp;omega) (by simp) hl⟩
  cases h
 cases h
variable {A:Option Addr} {c n:Nat}
theorem YlY {l:List Change} (h1:Sl changeL fz A n c l) (hs:Yjo l):
 GFn prog 187 [.slice A n c] fz [] (WrR (Ybq l/\XVal (effX l)) (effX l)):=by
 refine zF Tryz.func187 Tryz.ntmps187 (fun w0=>?_);refine zW ?_;intros;rename_i g2 g7;refine Ya Zz (Yx [(g7,wrO false)] [(g2,_)] Zz Zz Zz (YdB (b:=false) h1 hs) (fun v10 fz1 H1 hle1 hR1=>?_));obtain ⟨_,b1,y,rfl,⟨cs,rfl,hr⟩,hb,hy⟩:=hR1;obtain ⟨vk,rfl,hX⟩:=Yi hr;obtain ⟨A6,n6,c6,rfl,_⟩:=hX.kids;unfold wrO;cases b1
 ·have hy:=hy rfl;subst hy;have hOk:=(hb.1 rfl).2;refine zW ?_;intros;refine zb (WZ hX) (fun f1=>?_) (fun f1=>?_)
  ·have hP:Ybq l/\XVal (effX l):=⟨hOk,Zt f1⟩;refine zW ?_;refine YN T (vs:=[.agg #[_,_,_,_,_,_],.nilIface]) Zz ⟨⟨_,_,2,_,_,_,rfl,rfl,rfl,rfl,rfl,rfl⟩,rfl,trivial⟩ (fun fz3 hle3 hf3=>?_);exact ⟨rfl,_,_,by rw [if_pos hP];rfl,SxIs.mono hle3 ⟨_,rfl,Yh hX⟩,fun _=>rfl⟩
  have hP:¬(Ybq l/\XVal (effX l)):=fun h0=>Zf f1 h0.2
  refine zW ?_;refine YN T (vs:=[.agg #[_,_,_,_,_,_],_]) Zz ⟨⟨_,_,2,_,_,_,rfl,rfl,rfl,rfl,rfl,rfl⟩,rfl,trivial⟩ (fun fz3 hle3 hf3=>?_);exact ⟨rfl,_,_,by rw [if_neg hP,Yk Zh];rfl,YaX,fun h0=>absurd h0 hP⟩
 have hP:¬(Ybq l/\XVal (effX l)):=fun h0=>by simpa using hb.2 ⟨rfl,h0.1⟩
 refine zW ?_;intros;refine YN T (vs:=[.agg #[_,_,_,_,_,_],_]) Zz ⟨⟨_,_,2,_,_,_,rfl,rfl,rfl,rfl,rfl,rfl⟩,rfl,trivial⟩ (fun fz3 hle3 hf3=>?_);exact ⟨rfl,_,_,by rw [if_neg hP,Yk Zh];rfl,YaX,fun h0=>absurd h0 hP⟩
set_option maxHeartbeats 4000000 in
theorem Yeg {x:Sexpr} (hR:YS fz x vk):
 GFn prog 146 [.agg #[Zk x.kind,Zk x.value,Zk x.line,Zk x.column,.string x.text,vk]] fz [] (fun r fz' H'=>H'=[]/\ResS changeL fz' (WI x) r):=by
 have hRx:=hR;obtain ⟨A,n,c,rfl,ik⟩:=hR.kids;have hM:WI x=if XVal x then match effD (SizeOf.sizeOf x) [] [] x with
  | .error c=>.error c
  | .ok l=>if Ybq l/\XVal (effX l) then .ok l else .error 5
 else .error 2:=rfl
 refine zF Tryz.func146 Tryz.ntmps146 (fun w0=>?_);refine zW ?_;intros;refine zb (WZ hRx) (fun f1=>?_) (fun f1=>?_)
 ·have hv:=Zt f1;have hc:=hv.2.2;rw [if_pos hv] at hM;refine wK (q:=effect_f _ _ _ _ _ _ _ _ [] [] _ _ (Zs _) hv.sm hRx (Sl.nil Zh) (Sl.nil Zh) Zi Zi) (h:=fun r4 fz4 H4 hle4 hR4=>?_);obtain ⟨rfl,hR4⟩:=hR4;cases hx:effD (SizeOf.sizeOf x) [] [] x with
  | error c'=>
   rw [hx] at hM hR4;obtain ⟨rfl,hc⟩:=hR4;rw [Yk hc];exact wS (h:=by exact ⟨rfl,by rw [hM];exact ⟨by rw [Yk hc];rfl,hc⟩⟩)
  | ok l=>
   rw [hx] at hM hR4;obtain ⟨A5,n5,c5,rfl,il⟩:=hR4;simp only at hM;have hel:=Yet _ hx;have hes:Yjo l:=⟨by omega,Yi5 _ hv.sm (by simp;omega) (by simp;omega) (by simp) hx⟩;refine wK (q:=YlY il hes) (h:=fun r6 fz6 H6 hle6 hR6=>?_);obtain ⟨rfl,u,y,rfl,⟨cs,rfl,hr⟩,hy⟩:=hR6;obtain ⟨vk6,rfl,hX⟩:=Yi hr;obtain ⟨A6,n6,c6,rfl,_⟩:=hX.kids;by_cases hP:Ybq l/\XVal (effX l)
   ·rw [if_pos hP] at hM ⊢;rw [show errV 0=.nilIface from rfl];refine zW ?_;intros;exact wS (h:=by exact ⟨rfl,by rw [hM];exact ⟨_,_,_,rfl,il.mono hle6⟩⟩)
   rw [if_neg hP] at hM ⊢;rw [Yk Zh];refine zW ?_;intros;exact wS (h:=by exact ⟨rfl,by rw [hM];exact ⟨rfl,by decide⟩⟩)
 rw [if_neg (Zf f1)] at hM;exact wS (h:=by exact ⟨rfl,by rw [hM];exact ⟨rfl,by decide⟩⟩)
end Go.Proofs.YtfjopfinkdhmaaaGreatDoor
namespace Go.Lx
open Go.RowKit
section
variable {P:Program} {cx:Cx} {r:Operand->Option Value} {fz:FZ} {H:HP} {V:Value->Prop} {dst:Option Nat} {ty:TypeId} {pos:String} {af:Array Edge} {gd:Option (Nat × Bool)}
variable {A:Option Addr} {X Y:Ty} {c j n:Nat} {t:TypeId} {x:Operand}
theorem YjF (T:Tab P) {α:Type} {L:Lay α} {e:TypeId} {i u:Operand} {m:Nat} {mi:Int} {xs:List α} (hT:T.inf t=some X) (hd:X.desc=.slice e) (hY:T.inf e=some Y) (hz:Y.size=L.size)
 (hx:r x=some (.slice A n c)) (hi:r i=some (Zk j)) (hu:r u=some (Zk mi)) (hmi:mi=m) (hs:Sl L fz A n c xs) (hj:j<=m) (hm:m<=n) (h:∀ A',Sl L fz A' (m - j) (c - j) ((xs.drop j).take (m - j))->V (.slice A' (m - j) (c - j))):DoesQ P cx ⟨dst,.slice t x (some i) (some u) none,ty,pos,af,gd⟩ r fz H V:=by
 subst hmi;have h1:=hs.cap;have h2:=hs.max;have h3:=hs.short;have h4:=hs.len;refine YJ (v:=.slice (if c=j then A else A.map (·.add (j*Y.size))) (m - j) (c - j)) (fun ρ w hr=>by
  have hud:=run_underlying (und_plain T hT hd rfl) w;have hs:=Lx.run_sizeOf T hY w;have hmc:m<=c:=by omega
  simp [execOp,hr _ _ hx,hr _ _ hi,hr _ _ hu,Instr.sliceAt,Instr.slice,Instr.sliceBounds,Instr.sliceBound,asIntOf,hud,hs,hj,hmc]
  try omega) (h _ ?_)
 refine ⟨by rw [List.length_take,List.length_drop,h4];omega,by omega,by omega,by omega,?_⟩;rcases hs.elem with h0 | ⟨ad,h5,h6⟩
 ·exact .inl Zi
 by_cases hn:m - j=0
 ·exact .inl hn
 refine .inr ⟨ad.add (j*L.size),?_,fun i d hd=>?_⟩
 ·rw [if_neg Zi,h5,hz];rfl
 rw [List.getElem?_take] at hd;split at hd
 ·rw [List.getElem?_drop] at hd;have:=h6 (j+i) d hd;have e:(ad.add (j*L.size)).add (i*L.size)=ad.add ((j+i)*L.size):=by
   rw [Nat.add_mul];unfold Addr.add;by_cases h7:j*L.size=0
   ·rw [h7];simp
   by_cases h8:i*L.size=0
   ·rw [h8];simp
   simp [h7,h8,Nat.add_assoc]
  rw [e];exact this
 cases hd
end
end Go.Lx
namespace Go.Proofs.YtfjopfinkdhmaaaGreatDoor
open Go.Lx Go.RowKit
attribute [local instance 10] Classical.propDecidable
open Go.Proofs.Tryz (prog)
def hdrM (x:Sexpr):Except Int Bs:=match x.kids with
 | _::y::_=>if y.kind=1 then (if YX y.text then .ok y.text else .error 8) else .error 2
 | _=>.error 2
def strV (m:Except Int Bs):Value:=match m with
 | .error c=>.tuple #[.string ⟨#[]⟩,.iface 65 (.int .i64 c)]
 | .ok s=>.tuple #[.string s,.nilIface]
variable {fz:FZ} {vk:Value}
theorem YkX {x:Sexpr} (h:YS fz x vk):QFn prog 141 [.agg #[Zk x.kind,Zk x.value,Zk x.line,Zk x.column,.string x.text,vk]] fz (strV (hdrM x)):=by
 obtain ⟨A,n,c,rfl,ik⟩:=h.kids;have hl:=ik.len;refine GFn.quiet ?_;refine zF Tryz.func141 Tryz.ntmps141 (fun w0=>?_);refine zW ?_;intros;refine zC (fun c1=>?_) (fun c1=>?_)
 ·have hM:hdrM x=.error 2:=by
   unfold hdrM;split
   ·rename_i hk;rw [hk] at hl;simp at hl;omega
   rfl
  rw [hM];exact wS (h:=rfl)
 obtain ⟨w,y,r,hk⟩:∃ w y r,x.kids=w::y::r:=by
  match hx:x.kids,(show 2<=x.kids.length by omega) with
  | w::y::r,_=>exact ⟨w,y,r,rfl⟩
 have hM:hdrM x=if y.kind=1 then (if YX y.text then .ok y.text else .error 8) else .error 2:=by unfold hdrM;rw [hk]
 have hk1:x.kids[1]?=some y:=by rw [hk];rfl
 refine wI ik hk1 (fun p hp=>?_);refine zL hp ?_;intro cs hcs;obtain ⟨vw,rfl,hw⟩:=Yi hcs;refine zb YdR (fun f1=>?_) (fun f1=>?_)
 ·rw [if_pos (Zt f1)] at hM;refine wI ik hk1 (fun p2 hp2=>?_);refine wH hp2.Sexpr_text (fun hst=>?_);refine wb (Ww hst) (fun f2=>?_) (fun f2=>?_)
  ·rw [if_pos (Zt f2)] at hM;rw [hM];refine wI ik hk1 (fun p3 hp3=>?_);refine wH hp3.Sexpr_text (fun hst3=>?_);exact wS (h:=rfl)
  rw [if_neg (Zf f2)] at hM;rw [hM];exact wS (h:=rfl)
 rw [if_neg (Zf f1)] at hM;rw [hM];exact wS (h:=rfl)
def Yeu (x:Sexpr):Except Int (List Param):=if x.kind=3 then parM true x.kids [] [] else .error 2
theorem dpar_f {x:Sexpr} (hs:XSm x) (h:YS fz x vk):GFn prog 143 [.agg #[Zk x.kind,Zk x.value,Zk x.line,Zk x.column,.string x.text,vk]] fz [] (fun r fz' H'=>H'=[]/\ResS paramL fz' (Yeu x) r):=by
 obtain ⟨A,n,c,rfl,ik⟩:=h.kids;have hl:=ik.len;have hs1:x.kids.length<=1000000:=(Y2.1 hs).1;refine zF Tryz.func143 Tryz.ntmps143 (fun w0=>?_);refine zW ?_;intros;refine zC (fun c1=>?_) (fun c1=>?_)
 ·exact wS (h:=by exact ⟨rfl,by rw [Yeu,if_neg c1];exact ⟨rfl,by decide⟩⟩)
 refine wK (q:=YaN (b:=true) ik Zi) (h:=fun r4 fz4 H4 hle4 hR4=>?_);obtain ⟨rfl,hR4⟩:=hR4;obtain ⟨ra,rb,rfl⟩:=hR4.form;exact wS (h:=by exact ⟨rfl,by rw [Yeu,if_pos c1];exact hR4⟩)
def Ydn (x:Sexpr):Except Int Int:=if x.kind=2 then .ok x.value else .error 2
def intV (m:Except Int Int):Value:=match m with
 | .error c=>.tuple #[.int .i64 0,.iface 65 (.int .i64 c)]
 | .ok s=>.tuple #[.int .i64 s,.nilIface]
theorem YkN {x:Sexpr}:QFn prog 144 [.agg #[Zk x.kind,Zk x.value,Zk x.line,Zk x.column,.string x.text,vk]] fz (intV (Ydn x)):=by
 refine GFn.quiet ?_;refine zF Tryz.func144 Tryz.ntmps144 (fun w0=>?_);refine zW ?_;intros;refine zC (fun c1=>?_) (fun c1=>?_)
 ·rw [Ydn,if_neg c1];exact wS (h:=rfl)
 rw [Ydn,if_pos c1];exact wS (h:=rfl)
def zeroPr:Predicate:=⟨⟨#[]⟩,[]⟩
theorem Ygo:predicateL.rep fz zeroPr [Ze,Zn]:=Ybi (x:=zeroPr) ⟨XV,IsSl.nil⟩
def Yhk (x:Sexpr):Except Int Predicate:=match Xw x with
 | none=>.error 2
 | some (w,r)=>if YX w then match parM true r [] [] with
  | .error c=>.error c
  | .ok l=>.ok ⟨w,l⟩
  else .error 8
theorem YjJ {x:Sexpr} (hs:XSm x) (h:YS fz x vk):GFn prog 93 [.agg #[Zk x.kind,Zk x.value,Zk x.line,Zk x.column,.string x.text,vk]] fz [] (fun r fz' H'=>H'=[]/\ResL predicateL fz' (Yhk x) r):=by
 have hbeg:=Ycp h;obtain ⟨A,n,c,rfl,ik⟩:=h.kids;have hl:=ik.len;have hM:Yhk x=match Xw x with
 | none=>.error 2
 | some (w,r)=>if YX w then match parM true r [] [] with
  | .error c=>.error c
  | .ok l=>.ok ⟨w,l⟩
  else .error 8:=rfl
 refine zF Tryz.func93 Tryz.ntmps93 (fun w0=>?_);refine zW ?_;intros;cases hh:Xw x with
 | none=>
  rw [hh] at hM hbeg;refine zc hbeg ?_;refine zW ?_;exact YN T (vs:=[.agg #[Ze,Zn],.iface 65 (Zk 2)]) Zz ⟨⟨_,_,0,_,_,_,rfl,rfl,rfl,rfl,rfl,rfl⟩,rfl,trivial⟩ (fun fz3 hle3 hf3=>⟨rfl,ResL.err hM Zh Ygo⟩)
 | some wr=>
  obtain ⟨w,r⟩:=wr;rw [hh] at hM hbeg;simp only at hM;obtain ⟨y,hk,rfl,hk3,hk1⟩:=XR hh;have hrs:=WA hs hh;have hk0:x.kids[0]?=some y:=by rw [hk];rfl
  rw [hk,List.length_cons] at hl;refine zc hbeg ?_;refine wI ik hk0 (fun p hp=>?_);refine wH hp.Sexpr_text (fun hst=>?_);refine wb (Ww hst) (fun f1=>?_) (fun f1=>?_)
  ·rw [if_pos (Zt f1)] at hM;refine wG ?_;refine XC (j:=1) T Zz Zz Zz Zz Zz Zz ik Zi (fun A' hA'=>?_);rw [hk,List.drop_one,List.tail_cons] at hA';refine wK (q:=YaN (b:=true) hA' Zi) (h:=fun r4 fz4 H4 hle4 hR4=>?_);obtain ⟨rfl,hR4⟩:=hR4;cases hps:parM true r [] [] with
   | error c=>
    rw [hps] at hM hR4;obtain ⟨rfl,hc⟩:=hR4;rw [Yk hc];refine wI (ik.mono hle4) hk0 (fun p2 hp2=>?_);refine wH hp2.Sexpr_text (fun hst2=>?_);refine zW ?_;exact YN T (vs:=[.agg #[.string y.text,Zn],.iface 65 (Zk c)]) Zz ⟨⟨_,_,0,_,_,_,rfl,rfl,rfl,rfl,rfl,rfl⟩,rfl,trivial⟩ (fun fz3 hle3 hf3=>⟨rfl,ResL.err hM hc (Ybi (x:=⟨y.text,[]⟩) ⟨hst,IsSl.nil⟩)⟩)
   | ok l=>
    rw [hps] at hM hR4;obtain ⟨A5,n5,c5,rfl,il⟩:=hR4;refine wI (ik.mono hle4) hk0 (fun p2 hp2=>?_);refine wH hp2.Sexpr_text (fun hst2=>?_);refine zW ?_;exact YN T (vs:=[.agg #[.string y.text,.slice A5 n5 c5],.nilIface]) Zz ⟨⟨_,_,0,_,_,_,rfl,rfl,rfl,rfl,rfl,rfl⟩,rfl,trivial⟩ (fun fz3 hle3 hf3=>⟨rfl,ResL.fine hM (Ybi (x:=⟨y.text,l⟩) ⟨hst,⟨_,_,_,rfl,il.mono hle3⟩⟩)⟩)
  rw [if_neg (Zf f1)] at hM;refine zW ?_;exact YN T (vs:=[.agg #[Ze,Zn],.iface 65 (Zk 8)]) Zz ⟨⟨_,_,0,_,_,_,rfl,rfl,rfl,rfl,rfl,rfl⟩,rfl,trivial⟩ (fun fz3 hle3 hf3=>⟨rfl,ResL.err hM Zh Ygo⟩)
def zeroFu:Function:=⟨⟨#[]⟩,[],0,0⟩
theorem YbK:functionL.rep fz zeroFu [Ze,Zn,Zk 0,Zk 0]:=YbF (x:=zeroFu) ⟨XV,IsSl.nil,i64z,i64z⟩
def funB (w:Bs) (r:List Sexpr) (u v:Sexpr):Except Int Function:=
 if u.kind=2/\v.kind=2 then (if YX w then match parM true (r.take (r.length - 2)) [] [] with
  | .error c=>.error c
  | .ok l=>.ok ⟨w,l,u.value,v.value⟩
  else .error 8) else .error 2
def funM (x:Sexpr):Except Int Function:=match Xw x with
 | none=>.error 2
 | some (w,r)=>match r.reverse with
  | v::u::_=>funB w r u v
  | _=>.error 2
theorem rev_two {α:Type} {r:List α} {u v:α} (h1:r[r.length - 2]?=some u) (h2:r[r.length - 1]?=some v) (hl:2<=r.length):∃ t,r.reverse=v::u::t:=by
 have e1:r.reverse[0]?=some v:=by rw [List.getElem?_reverse Zi];exact h2
 have e2:r.reverse[1]?=some u:=by rw [List.getElem?_reverse Zi,show r.length - 1 - 1=r.length - 2 by omega];exact h1
 match hr:r.reverse with
 | []=>rw [hr] at e1;cases e1
 | [a]=>rw [hr] at e2;cases e2
 | a::b::t=>
  rw [hr] at e1 e2;simp at e1 e2;exact ⟨t,by rw [e1,e2]⟩
set_option maxHeartbeats 4000000 in
theorem YlC {x:Sexpr} (hs:XSm x) (h:YS fz x vk):GFn prog 94 [.agg #[Zk x.kind,Zk x.value,Zk x.line,Zk x.column,.string x.text,vk]] fz [] (fun r fz' H'=>H'=[]/\ResL functionL fz' (funM x) r):=by
 have hbeg:=Ycp h;obtain ⟨A,n,c,rfl,ik⟩:=h.kids;have hl:=ik.len;have hM:funM x=match Xw x with
 | none=>.error 2
 | some (w,r)=>match r.reverse with
  | v::u::_=>funB w r u v
  | _=>.error 2:=rfl
 refine zF Tryz.func94 Tryz.ntmps94 (fun w0=>?_);refine zW ?_;intros;cases hh:Xw x with
 | none=>
  rw [hh] at hM hbeg;refine zc hbeg ?_;refine zW ?_;exact YN T (vs:=[.agg #[Ze,Zn,Zk 0,Zk 0],.iface 65 (Zk 2)]) Zz ⟨⟨_,_,0,_,_,_,rfl,rfl,rfl,rfl,rfl,rfl⟩,rfl,trivial⟩ (fun fz3 hle3 hf3=>⟨rfl,ResL.err hM Zh YbK⟩)
 | some wr=>
  obtain ⟨w,r⟩:=wr;rw [hh] at hM hbeg;simp only at hM;obtain ⟨y,hk,rfl,hk3,hk1⟩:=XR hh;have hrs:=WA hs hh;have hk0:x.kids[0]?=some y:=by rw [hk];rfl
  have hl2:r.length+1=n:=by rw [hk,List.length_cons] at hl;omega
  refine zc hbeg ?_;refine wC (fun c1=>?_) (fun c1=>?_)
  ·have hM2:funM x=.error 2:=by
    rw [hM];split
    ·rename_i e;have:=congrArg List.length e;rw [List.length_reverse] at this;simp at this;omega
    rfl
   refine zW ?_;exact YN T (vs:=[.agg #[Ze,Zn,Zk 0,Zk 0],.iface 65 (Zk 2)]) Zz ⟨⟨_,_,0,_,_,_,rfl,rfl,rfl,rfl,rfl,rfl⟩,rfl,trivial⟩ (fun fz3 hle3 hf3=>⟨rfl,ResL.err hM2 Zh YbK⟩)
  obtain ⟨u,hu⟩:=Yl (l:=x.kids) (k:=n - 2) Zi;obtain ⟨v,hv⟩:=Yl (l:=x.kids) (k:=n - 1) Zi;have hu':r[r.length - 2]?=some u:=by rw [hk,show n - 2=(r.length - 2)+1 by omega,List.getElem?_cons_succ] at hu;exact hu
  have hv':r[r.length - 1]?=some v:=by rw [hk,show n - 1=(r.length - 1)+1 by omega,List.getElem?_cons_succ] at hv;exact hv
  obtain ⟨t,ht⟩:=rev_two hu' hv' Zi;rw [ht] at hM;simp only at hM;refine wI ik hu (fun p hp=>?_);refine wG ?_;refine XG T Zz Zz Zz hp.Sexpr_kind (fun i1=>?_);refine zC (fun c2=>?_) (fun c2=>?_)
  ·have hM2:funM x=.error 2:=by rw [hM,funB,if_neg (fun h=>c2 h.1)]
   refine zW ?_;exact YN T (vs:=[.agg #[Ze,Zn,Zk 0,Zk 0],.iface 65 (Zk 2)]) Zz ⟨⟨_,_,0,_,_,_,rfl,rfl,rfl,rfl,rfl,rfl⟩,rfl,trivial⟩ (fun fz3 hle3 hf3=>⟨rfl,ResL.err hM2 Zh YbK⟩)
  refine wI ik hv (fun p2 hp2=>?_);refine wG ?_;refine XG T Zz Zz Zz hp2.Sexpr_kind (fun i2=>?_);refine zC (fun c3=>?_) (fun c3=>?_)
  ·have hM2:funM x=.error 2:=by rw [hM,funB,if_neg (fun h=>c3 h.2)]
   refine zW ?_;exact YN T (vs:=[.agg #[Ze,Zn,Zk 0,Zk 0],.iface 65 (Zk 2)]) Zz ⟨⟨_,_,0,_,_,_,rfl,rfl,rfl,rfl,rfl,rfl⟩,rfl,trivial⟩ (fun fz3 hle3 hf3=>⟨rfl,ResL.err hM2 Zh YbK⟩)
  rw [funB,if_pos ⟨c2,c3⟩] at hM;refine wI ik hk0 (fun p3 hp3=>?_);refine wH hp3.Sexpr_text (fun hst=>?_);refine wb (Ww hst) (fun f1=>?_) (fun f1=>?_)
  ·rw [if_pos (Zt f1)] at hM;refine wG ?_;refine YjF (j:=1) (m:=n - 2) T Zz Zz Zz Zz Zz Zz Zz Zi ik Zi Zi (fun A' hA'=>?_);rw [hk,List.drop_one,List.tail_cons] at hA';have hA':Sl Yz fz A' (n - 2 - 1) (c - 1) (r.take (r.length - 2)):=by rw [show r.length - 2=n - 2 - 1 by omega];exact hA'
   refine wK (q:=YaN (b:=true) hA' Zi) (h:=fun r4 fz4 H4 hle4 hR4=>?_);obtain ⟨rfl,hR4⟩:=hR4;cases hps:parM true (r.take (r.length - 2)) [] [] with
   | error c=>
    rw [hps] at hM hR4;obtain ⟨rfl,hc⟩:=hR4;rw [Yk hc];refine zW ?_;refine Wp.drawP [21] (Hq:=[_,_]) T.mixed Zj Zj Zb ?_;refine wI (ik.mono hle4) hk0 (fun p5 hp5=>?_);refine wH hp5.Sexpr_text (fun hst5=>?_);refine wI (ik.mono hle4) hu (fun p6 hp6=>?_);refine wG ?_;refine XG T Zz Zz Zz hp6.Sexpr_value (fun i6=>?_);refine wI (ik.mono hle4) hv (fun p7 hp7=>?_);refine wG ?_;refine XG T Zz Zz Zz hp7.Sexpr_value (fun i7=>?_);refine zW ?_;refine PK.p Zz (fun fz'=>by first | exact WH Zz rfl | exact XE Zz rfl | exact YT T Zz Zz Zz Zz Zz Zz rfl | exact Yaz Zz Zz (XD Zi) rfl | exact YQ T Zz Zz Zz rfl) ?_;refine Ye ?_;refine Ye ?_;refine PK.done ⟨by kernel_rfl,?_⟩;refine Yc Zz Zz ?_;refine PoS.hard0 Zj (YV T Zz Zz Zz Zz Zz Zz ?_);refine Yc Zz Zz ?_;refine PoS.hard Zj (DoesQ.does (YY Zz ?_));refine Po.done ?_;refine zW ?_;exact YN T (vs:=[.agg #[.string y.text,Zn,Zk u.value,Zk v.value],.iface 65 (Zk c)]) Zz ⟨⟨_,_,0,_,_,_,rfl,rfl,rfl,rfl,rfl,rfl⟩,rfl,trivial⟩ (fun fz3 hle3 hf3=>⟨rfl,ResL.err hM hc (YbF (x:=⟨y.text,[],u.value,v.value⟩) ⟨hst,IsSl.nil,i6,i7⟩)⟩)
   | ok l=>
    rw [hps] at hM hR4;obtain ⟨A5,n5,c5,rfl,il⟩:=hR4;refine zW ?_;refine Wp.drawP [21] (Hq:=[_,_]) T.mixed Zj Zj Zb ?_;refine wI (ik.mono hle4) hk0 (fun p5 hp5=>?_);refine wH hp5.Sexpr_text (fun hst5=>?_);refine wI (ik.mono hle4) hu (fun p6 hp6=>?_);refine wG ?_;refine XG T Zz Zz Zz hp6.Sexpr_value (fun i6=>?_);refine wI (ik.mono hle4) hv (fun p7 hp7=>?_);refine wG ?_;refine XG T Zz Zz Zz hp7.Sexpr_value (fun i7=>?_);refine zW ?_;refine PK.p Zz (fun fz'=>by first | exact WH Zz rfl | exact XE Zz rfl | exact YT T Zz Zz Zz Zz Zz Zz rfl | exact Yaz Zz Zz (XD Zi) rfl | exact YQ T Zz Zz Zz rfl) ?_;refine Ye ?_;refine Ye ?_;refine PK.done ⟨by kernel_rfl,?_⟩;refine Yc Zz Zz ?_;refine PoS.hard0 Zj (YV T Zz Zz Zz Zz Zz Zz ?_);refine Yc Zz Zz ?_;refine PoS.hard Zj (DoesQ.does (YY Zz ?_));refine Po.done ?_;refine zW ?_;exact YN T (vs:=[.agg #[.string y.text,.slice A5 n5 c5,Zk u.value,Zk v.value],.nilIface]) Zz ⟨⟨_,_,0,_,_,_,rfl,rfl,rfl,rfl,rfl,rfl⟩,rfl,trivial⟩ (fun fz3 hle3 hf3=>⟨rfl,ResL.fine hM (YbF (x:=⟨y.text,l,u.value,v.value⟩) ⟨hst,⟨_,_,_,rfl,il.mono hle3⟩,i6,i7⟩)⟩)
  rw [if_neg (Zf f1)] at hM;refine zW ?_;exact YN T (vs:=[.agg #[Ze,Zn,Zk 0,Zk 0],.iface 65 (Zk 8)]) Zz ⟨⟨_,_,0,_,_,_,rfl,rfl,rfl,rfl,rfl,rfl⟩,rfl,trivial⟩ (fun fz3 hle3 hf3=>⟨rfl,ResL.err hM Zh YbK⟩)
def kwI (kw:List Bs) (s:Bs):Int:=Wn (fun y=>s=y) kw 0
theorem YiY {α:Type} {p:α->Prop}:∀ {l:List α} {k:Int},0<=k->Wn p l k<k+l.length
 | [],k,h=>by rw [Wn];simp;omega
 | x::r,k,h=>by
  have:=YiY (p:=p) (l:=r) (k:=k+1) Zi;rw [Wn,List.length_cons];split<;>push_cast<;>omega
theorem YiZ {α:Type} {p:α->Prop}:∀ {l:List α} {k:Int},0<=k-> -1<=Wn p l k
 | [],k,h=>by rw [Wn];omega
 | x::r,k,h=>by
  have:=YiZ (p:=p) (l:=r) (k:=k+1) Zi;rw [Wn];split<;>omega
theorem kwI_lt {kw:List Bs} {s:Bs}:kwI kw s<kw.length/\ -1<=kwI kw s:=by
 have h1:=YiY (p:=fun y=>s=y) (l:=kw) (Int.le_refl 0);have h2:=YiZ (p:=fun y=>s=y) (l:=kw) (Int.le_refl 0);unfold kwI;exact ⟨by omega,h2⟩
def prtM:List Bs->List Sexpr->List (Bs × Sexpr) × Bool
 | _,[]=>([],true)
 | _,[_]=>([],false)
 | kw,x::v::r=>if x.kind=1/\0<=kwI kw x.text then ((x.text,v)::(prtM (kw.drop ((kwI kw x.text).toNat+1)) r).1,(prtM (kw.drop ((kwI kw x.text).toNat+1)) r).2) else ([],false)
def preP (a:List (Bs × Sexpr)) (m:List (Bs × Sexpr) × Bool):List (Bs × Sexpr) × Bool:=(a++m.1,m.2)
def kwP (kw:List Bs) (x:Sexpr):Int:=if x.kind=1 then kwI kw x.text else -1
theorem YmK {kw:List Bs}:prtM kw []=([],true):=by unfold prtM;rfl
theorem YkI {kw:List Bs} {x:Sexpr} {r:List Sexpr} (h:kwP kw x<0\/r=[]):prtM kw (x::r)=([],false):=by
 match r with
 | []=>rfl
 | v::r=>
  rw [prtM,if_neg];rintro ⟨h1,h2⟩;rcases h with h | h
  ·rw [kwP,if_pos h1] at h;omega
  cases h
theorem YmJ {kw:List Bs} {x v:Sexpr} {r:List Sexpr} (h:0<=kwP kw x):prtM kw (x::v::r)=preP [(x.text,v)] (prtM (kw.drop ((kwP kw x).toNat+1)) r):=by
 unfold kwP at h ⊢;split at h
 ·rename_i h1;rw [if_pos h1,prtM,if_pos ⟨h1,h⟩];rfl
 omega
theorem YmN {a b:List (Bs × Sexpr)} {m:List (Bs × Sexpr) × Bool}:preP a (preP b m)=preP (a++b) m:=by simp [preP]
def PrtR (fz:FZ) (m:List (Bs × Sexpr) × Bool) (v:Value):Prop:=∃ A n c A2 c2,v=.tuple #[.slice A n c,.slice A2 n c2,errV (if m.2 then 0 else 2)]/\Sl strL fz A n c (m.1.map Prod.fst)/\Sl Yz fz A2 n c2 (m.1.map Prod.snd)
variable {fz':FZ} {n:Nat}
theorem YjI {vn vv:Value} {Hn Hv:HP} {out:List (Bs × Sexpr)} {m:List (Bs × Sexpr) × Bool} (hn:Grow strL 9 fz vn n Hn (out.map Prod.fst)) (hv:Grow Yz 57 fz vv n Hv (out.map Prod.snd)) (hle:Le fz fz') (hf:∀ p∈Hn++Hv,fz' p.1=some p.2) (hb:n<=1000000) (hm:m.1=out):PrtR fz' m (.tuple #[vn,vv,errV (if m.2 then 0 else 2)]):=by
 obtain ⟨A1,c1,rfl,h1⟩:=hn.sl hle (fun p hp=>hf p (List.mem_append_left _ hp)) Zi;obtain ⟨A2,c2,rfl,h2⟩:=hv.sl hle (fun p hp=>hf p (List.mem_append_right _ hp)) Zi;exact ⟨_,_,_,_,_,rfl,by rw [hm];exact h1,by rw [hm];exact h2⟩
variable {A:Option Addr} {c:Nat}
set_option maxHeartbeats 8000000 in
theorem YmT {K:Option Addr} {kn kc:Nat} {l:List Sexpr} {kw:List Bs} (h:Sl Yz fz A n c l) (hk:Sl strL fz K kn kc kw) (hn:n<=1000000) (hkn:kn<=1000):
 GFn prog 142 [.slice A n c,.slice K kn kc] fz [] (fun r fz' H'=>H'=[]/\PrtR fz' (prtM kw l) r):=by
 have hl:=h.len;have hkl:=hk.len;refine zF Tryz.func142 Tryz.ntmps142 (fun w0=>?_);refine zW ?_;refine Ym (fun q σ fz' H'=>∃ (i nx:Nat) (vn vv:Value) (Hn Hv:HP) (out:List (Bs × Sexpr)),i<=n/\q=n - i/\σ=[(10,Zk i),(9,Zk nx),(8,vv),(7,vn),(1,.slice K kn kc),(0,.slice A n c)]/\fz=fz'/\H'=Hn++Hv/\Grow strL 9 fz vn out.length Hn (out.map Prod.fst)/\Grow Yz 57 fz vv out.length Hv (out.map Prod.snd)/\out.length<=i/\nx<=kn/\prtM kw l=preP out (prtM (kw.drop nx) (l.drop i))) ⟨0,0,_,_,[],[],[],Z0 _,rfl,rfl,rfl,rfl,Grow.nil _ _ _,Grow.nil _ _ _,Zs _,Z0 _,rfl⟩ Zw Zb ?_;rintro q σ fz' H' ⟨i,nx,vn,vv,Hn,Hv,out,hi,rfl,rfl,rfl,rfl,hGn,hGv,hol,hnx,hM⟩;obtain ⟨An,cn,rfl,_,_⟩:=hGn.form;obtain ⟨Av,cv,rfl,_,_⟩:=hGv.form;refine wC (fun c1=>?_) (fun c1=>?_)
 ·obtain ⟨x,hx⟩:=Yl (l:=l) (k:=i) Zi;rw [YbG hx] at hM;refine zWX ?_;refine Yj ?_;refine zWX ?_;refine Yj ?_;refine zWX ?_;refine Yj (Wp.mid (fun σ fz' H'=>σ=[(11,Zk (kwP (kw.drop nx) x)),(10,Zk i),(9,Zk nx),(8,.slice Av out.length cv),(7,.slice An out.length cn),(1,.slice K kn kc),(0,.slice A n c)]/\fz=fz'/\H'=Hn++Hv) ?_ ?_)
  ·refine wI h hx (fun p hp=>?_);refine zL hp ?_;intro cs hcs;obtain ⟨vx,rfl,hRx⟩:=Yi hcs;refine zb YdR (fun f1=>?_) (fun f1=>?_)
   ·refine wG ?_;refine XC (j:=nx) T Zz Zz Zz Zz Zz Zz hk Zi (fun K' hK'=>?_);refine wI h hx (fun p2 hp2=>?_);refine wH hp2.Sexpr_text (fun hst2=>?_);refine wc (Ye6 (x:=x.text) hK') ?_;exact wN (h:=by exact ⟨by rw [kwP,if_pos (Zt f1),kwI],rfl,rfl⟩)
   exact wN (h:=by exact ⟨by rw [kwP,if_neg (Zf f1)],rfl,rfl⟩)
  rintro σ fz' H' ⟨rfl,rfl,rfl⟩;have hkI:=kwI_lt (kw:=kw.drop nx) (s:=x.text);rw [List.length_drop,hkl] at hkI;have hkP:kwP (kw.drop nx) x<(kn - nx:Nat)/\ -1<=kwP (kw.drop nx) x:=by
   unfold kwP;split
   ·exact hkI
   omega
  refine wC (fun c2=>?_) (fun c2=>?_)
  ·have hM2:prtM kw l=(out,false):=by rw [hM,YkI (.inl c2)];simp [preP]
   refine zW ?_;refine YN T (vs:=[.slice An out.length cn,.slice Av out.length cv,.iface 65 (Zk 2)]) Zz ⟨rfl,rfl,rfl,trivial⟩ (fun fz3 hle3 hf3=>⟨rfl,?_⟩);have:=YjI hGn hGv hle3 hf3 Zi (m:=prtM kw l) (by rw [hM2]);rw [hM2] at this ⊢;exact this
  obtain ⟨kk,hkk⟩:=Int.eq_ofNat_of_zero_le (show 0<=kwP (kw.drop nx) x by omega);refine wC (fun c3=>?_) (fun c3=>?_)
  ·have hM2:prtM kw l=(out,false):=by rw [hM,YkI (.inr (List.drop_eq_nil_of_le Zi))];simp [preP]
   refine zW ?_;refine YN T (vs:=[.slice An out.length cn,.slice Av out.length cv,.iface 65 (Zk 2)]) Zz ⟨rfl,rfl,rfl,trivial⟩ (fun fz3 hle3 hf3=>⟨rfl,?_⟩);have:=YjI hGn hGv hle3 hf3 Zi (m:=prtM kw l) (by rw [hM2]);rw [hM2] at this ⊢;exact this
  obtain ⟨y,hy⟩:=Yl (l:=l) (k:=i+1) Zi;rw [YbG hy,YmJ Zi,YmN,List.drop_drop,hkk,Int.toNat_natCast] at hM;rw [hkk];refine zWN ?_;refine Wp.drawP [] (Hq:=[]) T.mixed Zj Zj Zb ?_;refine wI h hx (fun p3 hp3=>?_);refine wH hp3.Sexpr_text (fun hst3=>?_);refine zW ?_;refine Ye ?_;refine Ye ?_;refine wI h hy (fun p4 hp4=>?_);refine zL hp4 ?_;intro cs4 hcs4;obtain ⟨vy,rfl,hRy⟩:=Yi hcs4;obtain ⟨Ay,ny,cy,rfl,_⟩:=hRy.kids;refine Ye ?_;refine Ye ?_;refine Ye ?_;refine Ye ?_;refine PK.done ⟨by kernel_rfl,?_⟩;refine YI Zz Zz Zz ?_ ?_
  ·refine Yd (Yb T (cs:=[.string x.text]) Zz Zz Zz Zz Zz Zz Zz Zz (fun gb=>⟨(⟨(Le.refl _),by intro p hp;cases hp⟩),?_⟩));refine YI Zz Zz Zz ?_ ?_
   ·refine Yd (YP T (d:=x.text) (cs:=[.string x.text]) (Hr:=(gb,_)::Hv) Zz Zz Zz Zz Zz Zz Zz Zz (List.Perm.cons _ Zq) hGn YcX (.head _) ⟨rfl,hst3⟩ (by show _*16<=_;omega) Zi (fun v1 Hs1 hG1=>⟨(⟨(Le.refl _),by intro p hp;cases hp⟩),?_⟩));refine Yc Zz Zz ?_;refine Yd (Yb T (cs:=[Zk y.kind,Zk y.value,Zk y.line,Zk y.column,.string y.text,.slice Ay ny cy]) Zz Zz Zz Zz Zz Zz Zz Zz (fun gc=>⟨(⟨(Le.refl _),by intro p hp;cases hp⟩),?_⟩));refine Yc Zz Zz ?_;refine Yd (YP T (d:=y) (cs:=[Zk y.kind,Zk y.value,Zk y.line,Zk y.column,.string y.text,.slice Ay ny cy]) (Hr:=(gc,_)::(gb,_)::Hs1) Zz Zz Zz Zz Zz Zz Zz Zz (List.Perm.cons _ (List.Perm.cons _ Zq)) hGv Yfi (.head _) hcs4 (by show _*72<=_;omega) Zi (fun v2 Hs2 hG2=>⟨(⟨(Le.refl _),by intro p hp;cases hp⟩),?_⟩));refine Yc Zz Zz ?_;refine PoS.qk (⟨(Le.refl _),by intro p hp;cases hp⟩) (YY Zz ?_);refine Yc Zz Zz ?_;refine PoS.qk (⟨(Le.refl _),by intro p hp;cases hp⟩) (YY Zz ?_);refine Po.done ?_;refine zW ?_;exact WO (H':=Hs1++Hs2) ⟨i+2,nx+(kk+1),v1,v2,Hs1,Hs2,out++ [(x.text,y)],by omega,rfl,rfl,rfl,rfl,hG1.of (by simp) (by simp),hG2.of (by simp) (by simp),by simp;omega,by omega,hM⟩ Zi Zw Zb
   refine Yd (Yb T (cs:=[Zk y.kind,Zk y.value,Zk y.line,Zk y.column,.string y.text,.slice Ay ny cy]) Zz Zz Zz Zz Zz Zz Zz Zz (fun gc=>⟨(⟨(Le.refl _),by intro p hp;cases hp⟩),?_⟩));refine Yc Zz Zz ?_;refine Yd (YP T (d:=x.text) (cs:=[.string x.text]) (Hr:=(gc,_)::(gb,_)::Hv) Zz Zz Zz Zz Zz Zz Zz Zz (List.Perm.cons _ (List.Perm.cons _ Zq)) hGn YcX (.tail _ (.head _)) ⟨rfl,hst3⟩ (by show _*16<=_;omega) Zi (fun v1 Hs1 hG1=>⟨(⟨(Le.refl _),by intro p hp;cases hp⟩),?_⟩));refine Yc Zz Zz ?_;refine Yd (YP T (d:=y) (cs:=[Zk y.kind,Zk y.value,Zk y.line,Zk y.column,.string y.text,.slice Ay ny cy]) (Hr:=(gc,_)::(gb,_)::Hs1) Zz Zz Zz Zz Zz Zz Zz Zz (List.Perm.cons _ (List.Perm.cons _ Zq)) hGv Yfi (.head _) hcs4 (by show _*72<=_;omega) Zi (fun v2 Hs2 hG2=>⟨(⟨(Le.refl _),by intro p hp;cases hp⟩),?_⟩));refine Yc Zz Zz ?_;refine PoS.qk (⟨(Le.refl _),by intro p hp;cases hp⟩) (YY Zz ?_);refine Yc Zz Zz ?_;refine PoS.qk (⟨(Le.refl _),by intro p hp;cases hp⟩) (YY Zz ?_);refine Po.done ?_;refine zW ?_;exact WO (H':=Hs1++Hs2) ⟨i+2,nx+(kk+1),v1,v2,Hs1,Hs2,out++ [(x.text,y)],by omega,rfl,rfl,rfl,rfl,hG1.of (by simp) (by simp),hG2.of (by simp) (by simp),by simp;omega,by omega,hM⟩ Zi Zw Zb
  refine Yd (Yb T (cs:=[Zk y.kind,Zk y.value,Zk y.line,Zk y.column,.string y.text,.slice Ay ny cy]) Zz Zz Zz Zz Zz Zz Zz Zz (fun gc=>⟨(⟨(Le.refl _),by intro p hp;cases hp⟩),?_⟩));refine Yc Zz Zz ?_;refine Yd (Yb T (cs:=[.string x.text]) Zz Zz Zz Zz Zz Zz Zz Zz (fun gb=>⟨(⟨(Le.refl _),by intro p hp;cases hp⟩),?_⟩));refine Yc Zz Zz ?_;refine Yd (YP T (d:=x.text) (cs:=[.string x.text]) (Hr:=(gb,_)::(gc,_)::Hv) Zz Zz Zz Zz Zz Zz Zz Zz (List.Perm.cons _ (List.Perm.cons _ Zq)) hGn YcX (.head _) ⟨rfl,hst3⟩ (by show _*16<=_;omega) Zi (fun v1 Hs1 hG1=>⟨(⟨(Le.refl _),by intro p hp;cases hp⟩),?_⟩));refine Yc Zz Zz ?_;refine Yd (YP T (d:=y) (cs:=[Zk y.kind,Zk y.value,Zk y.line,Zk y.column,.string y.text,.slice Ay ny cy]) (Hr:=(gb,_)::(gc,_)::Hs1) Zz Zz Zz Zz Zz Zz Zz Zz (List.Perm.cons _ (List.Perm.cons _ Zq)) hGv Yfi (.tail _ (.head _)) hcs4 (by show _*72<=_;omega) Zi (fun v2 Hs2 hG2=>⟨(⟨(Le.refl _),by intro p hp;cases hp⟩),?_⟩));refine Yc Zz Zz ?_;refine PoS.qk (⟨(Le.refl _),by intro p hp;cases hp⟩) (YY Zz ?_);refine Yc Zz Zz ?_;refine PoS.qk (⟨(Le.refl _),by intro p hp;cases hp⟩) (YY Zz ?_);refine Po.done ?_;refine zW ?_;exact WO (H':=Hs1++Hs2) ⟨i+2,nx+(kk+1),v1,v2,Hs1,Hs2,out++ [(x.text,y)],by omega,rfl,rfl,rfl,rfl,hG1.of (by simp) (by simp),hG2.of (by simp) (by simp),by simp;omega,by omega,hM⟩ Zi Zw Zb
 rw [show l.drop i=[] from List.drop_eq_nil_of_le Zi,YmK] at hM;refine zW ?_;refine YN T (vs:=[.slice An out.length cn,.slice Av out.length cv,.nilIface]) Zz ⟨rfl,rfl,rfl,trivial⟩ (fun fz3 hle3 hf3=>⟨rfl,?_⟩);have:=YjI hGn hGv hle3 hf3 Zi (m:=prtM kw l) (by rw [hM];simp [preP]);rw [hM] at this ⊢;exact this
end Go.Proofs.YtfjopfinkdhmaaaGreatDoor
