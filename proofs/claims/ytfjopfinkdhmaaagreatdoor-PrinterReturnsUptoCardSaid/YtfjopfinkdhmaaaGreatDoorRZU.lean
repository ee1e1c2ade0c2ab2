/- The texts YF, YM, YH, PDag, PEag, YJ, YS, StrC, Rcm, PNum, laid together. Conditions: none. -/
import Derived.Test.YtfjopfinkdhmaaaGreatDoorRZT
set_option linter.all false
noncomputable section
set_option maxRecDepth 20000
namespace Go.Proofs.YtfjopfinkdhmaaaGreatDoor
open Go.Lx Go.RowKit
attribute [local instance 10] Classical.propDecidable
open Go.Proofs.Tryz (prog)
def YlA (a b:Bs):Except Int (Domain × Problem):=match prdM a with
 | .error c=>.error c
 | .ok x=>match Yby x with
  | .error c=>.error c
  | .ok d=>match prdM b with
   | .error c=>.error c
   | .ok y=>match Ycr y with
    | .error c=>.error c
    | .ok p=>if (Yaj d p).2=0 then .ok (d,p) else .error (Yaj d p).2
def LoadR (fz:FZ) (m:Except Int (Domain × Problem)) (v:Value):Prop:=∃ d p cd cp pl,Yev.rep fz d cd/\YaE.rep fz p cp/\match m with
 | .error c=>v=.tuple #[.agg cd.toArray,.agg cp.toArray,.string pl,errV c]/\c≠0/\d=zeroD/\p=zeroP
 | .ok (d',p')=>d'=d/\p'=p/\v=.tuple #[.agg cd.toArray,.agg cp.toArray,.string ⟨#[]⟩,.nilIface]
variable {fz:FZ}
theorem YcG {m:Except Int (Domain × Problem)} {c:Int} {pl:Bs} (h:m=.error c) (hc:c≠0):LoadR fz m (.tuple #[.agg #[Ze,Zn,Zn,Zn,Zn,Zn,Zn],.agg #[Ze,Ze,Zn,Zn,Zn,Ze,Ze,Zn,Zn,Zn,Zn],.string pl,.iface 65 (Zk c)]):=by
 rw [h];exact ⟨zeroD,zeroP,_,_,pl,W4,Ydz,by rw [Yk hc],hc,rfl,rfl⟩
set_option maxHeartbeats 16000000 in
theorem load_f {a b:Bs} (hT:TabF fz) (hX:MaxF fz):
 GFn prog 6 [.string a,.string b] fz [] (fun r fz' H'=>H'=[]/\LoadR fz' (YlA a b) r):=by
 have hM:YlA a b=match prdM a with
 | .error c=>.error c
 | .ok x=>match Yby x with
  | .error c=>.error c
  | .ok d=>match prdM b with
   | .error c=>.error c
   | .ok y=>match Ycr y with
    | .error c=>.error c
    | .ok p=>if (Yaj d p).2=0 then .ok (d,p) else .error (Yaj d p).2:=rfl
 refine zF Tryz.func6 Tryz.ntmps6 (fun w0=>?_);refine zW ?_;intros;refine wK (q:=YmL (t:=a) hT Zh) (h:=fun r1 fz1 H1 hle1 hR1=>?_);obtain ⟨rfl,x,cs1,pl1,hr1,hR1⟩:=hR1;rw [List.nil_append];obtain ⟨vk1,rfl,hX1⟩:=Yi hr1;have hX1':=hX1;obtain ⟨A1,n1,c1,rfl,_⟩:=hX1.kids;cases e1:prdM a with
 | error c=>
  rw [e1] at hM hR1;obtain ⟨rfl,hc⟩:=hR1;rw [Yk hc];refine zW ?_;intros;exact YN T (vs:=[.agg #[Ze,Zn,Zn,Zn,Zn,Zn,Zn],.agg #[Ze,Ze,Zn,Zn,Zn,Ze,Ze,Zn,Zn,Zn,Zn],.string pl1,.iface 65 (Zk c)]) Zz ⟨⟨_,_,2,_,_,_,rfl,rfl,rfl,rfl,rfl,rfl⟩,⟨_,_,1,_,_,_,rfl,rfl,rfl,rfl,rfl,rfl⟩,rfl,rfl,trivial⟩ (fun fz3 hle3 hf3=>⟨rfl,YcG hM hc⟩)
 | ok x'=>
  rw [e1] at hM hR1;obtain ⟨rfl,rfl⟩:=hR1;simp only at hM;refine zW ?_;intros;refine wK (q:=dParse_f hX1') (h:=fun r2 fz2 H2 hle2 hR2=>?_);obtain ⟨rfl,d,cs2,hr2,hR2⟩:=hR2;rw [List.nil_append];obtain ⟨v1,v2,v3,v4,v5,v6,rfl,hD⟩:=YcQ hr2;have hD':=hD;obtain ⟨T1,t1,z1,rfl,_⟩:=hD.types;obtain ⟨T2,t2,z2,rfl,_⟩:=hD.constants;obtain ⟨T3,t3,z3,rfl,_⟩:=hD.predicates;obtain ⟨T4,t4,z4,rfl,_⟩:=hD.functions;obtain ⟨T5,t5,z5,rfl,_⟩:=hD.actions;obtain ⟨T6,t6,z6,rfl,_⟩:=hD.duratives;cases e2:Yby x' with
  | error c=>
   rw [e2] at hM hR2;obtain ⟨rfl,hc⟩:=hR2;rw [Yk hc];refine zW ?_;intros;exact YN T (vs:=[.agg #[Ze,Zn,Zn,Zn,Zn,Zn,Zn],.agg #[Ze,Ze,Zn,Zn,Zn,Ze,Ze,Zn,Zn,Zn,Zn],.string _,.iface 65 (Zk c)]) Zz ⟨⟨_,_,3,_,_,_,rfl,rfl,rfl,rfl,rfl,rfl⟩,⟨_,_,2,_,_,_,rfl,rfl,rfl,rfl,rfl,rfl⟩,rfl,rfl,trivial⟩ (fun fz3 hle3 hf3=>⟨rfl,YcG hM hc⟩)
  | ok d'=>
   rw [e2] at hM hR2;obtain ⟨rfl,rfl⟩:=hR2;simp only at hM;refine zW ?_;intros;refine wK (q:=YmL (t:=b) ((hT.mono hle1).mono hle2) Zh) (h:=fun r3 fz3 H3 hle3 hR3=>?_);obtain ⟨rfl,y,cs3,pl3,hr3,hR3⟩:=hR3;rw [List.nil_append];obtain ⟨vk3,rfl,hX3⟩:=Yi hr3;have hX3':=hX3;obtain ⟨A3,n3,c3,rfl,_⟩:=hX3.kids;cases e3:prdM b with
   | error c=>
    rw [e3] at hM hR3;obtain ⟨rfl,hc⟩:=hR3;rw [Yk hc];refine zW ?_;exact YN T (vs:=[.agg #[Ze,Zn,Zn,Zn,Zn,Zn,Zn],.agg #[Ze,Ze,Zn,Zn,Zn,Ze,Ze,Zn,Zn,Zn,Zn],.string pl3,.iface 65 (Zk c)]) Zz ⟨⟨_,_,3,_,_,_,rfl,rfl,rfl,rfl,rfl,rfl⟩,⟨_,_,2,_,_,_,rfl,rfl,rfl,rfl,rfl,rfl⟩,rfl,rfl,trivial⟩ (fun fz3 hle3 hf3=>⟨rfl,YcG hM hc⟩)
   | ok y'=>
    rw [e3] at hM hR3;obtain ⟨rfl,rfl⟩:=hR3;simp only at hM;refine wK (q:=pParse_f hX3') (h:=fun r4 fz4 H4 hle4 hR4=>?_);obtain ⟨rfl,p,cs4,hr4,hR4⟩:=hR4;rw [List.nil_append];obtain ⟨w1,w2,w3,w4,w5,w6,w7,rfl,hP⟩:=Ya1 hr4;have hP':=hP;obtain ⟨O1,o1,k1,rfl,_⟩:=hP.objects;obtain ⟨O2,o2,k2,rfl,_⟩:=hP.init;obtain ⟨O3,o3,k3,rfl,_⟩:=hP.values;obtain ⟨O4,o4,k4,rfl,_⟩:=hP.goal.args;obtain ⟨O5,o5,k5,rfl,_⟩:=hP.goal.params;obtain ⟨O6,o6,k6,rfl,_⟩:=hP.goal.exprs;obtain ⟨O7,o7,k7,rfl,_⟩:=hP.goal.kids;cases e4:Ycr y' with
    | error c=>
     rw [e4] at hM hR4;obtain ⟨rfl,hc⟩:=hR4;rw [Yk hc];refine zW ?_;intros;refine YF (XZ T (pre:=[_,_,_,_]) Zz Zz Zz rfl Zz Zz Zz ?_);refine zW ?_;exact YN T (vs:=[.agg #[Ze,Zn,Zn,Zn,Zn,Zn,Zn],.agg #[Ze,Ze,Zn,Zn,Zn,Ze,Ze,Zn,Zn,Zn,Zn],.string _,.iface 65 (Zk c)]) Zz ⟨⟨_,_,4,_,_,_,rfl,rfl,rfl,rfl,rfl,rfl⟩,⟨_,_,3,_,_,_,rfl,rfl,rfl,rfl,rfl,rfl⟩,rfl,rfl,trivial⟩ (fun fz3 hle3 hf3=>⟨rfl,YcG hM hc⟩)
    | ok p'=>
     rw [e4] at hM hR4;obtain ⟨rfl,rfl⟩:=hR4;simp only at hM;have hle:=hle1.trans (hle2.trans (hle3.trans hle4));have hDD:=hD'.mono (hle3.trans hle4);have hck:=Yn4 (hX.mono hle) hDD hP' (chkS_of e2 e4);generalize Yaj d' p'=sc at*;obtain ⟨s,cc⟩:=sc;unfold resV at hck;refine zW ?_;intros;refine zc hck ?_;by_cases h0:cc=0
     ·rw [if_pos h0] at hM;subst h0;rw [show errV 0=.nilIface from rfl];refine zWN ?_;rename_i g12;refine Wp.drawP [] (Hq:=[_,_]) T.mixed Zj Zj Zb ?_;refine zW ?_;refine Ye ?_;refine Ye ?_;refine Ye ?_;refine Ye ?_;refine PK.done ⟨by kernel_rfl,?_⟩;refine Yc Zz Zz ?_;refine PoS.soft0 (XZ T (pre:=[_,_,_,_]) Zz Zz Zz rfl Zz Zz Zz ⟨(⟨(Le.refl _),Zx⟩),?_⟩);refine Yc Zz Zz ?_;refine PoS.hard0 Zj (Wz T Zz Zz Zz Zz Zz Zz ?_);refine Yc Zz Zz ?_;refine PoS.hard Zj (DoesQ.does (YY Zz ?_));refine Yc Zz Zz ?_;refine PoS.hard Zj (DoesQ.does (YY Zz ?_));refine Po.done ?_;refine zW ?_;refine YN T (vs:=[.agg #[.string d'.name,.slice T1 t1 z1,.slice T2 t2 z2,.slice T3 t3 z3,.slice T4 t4 z4,.slice T5 t5 z5,.slice T6 t6 z6],.agg #[.string p'.name,.string p'.domain,.slice O1 o1 k1,.slice O2 o2 k2,.slice O3 o3 k3,.string p'.goal.op,.string p'.goal.name,.slice O4 o4 k4,.slice O5 o5 k5,.slice O6 o6 k6,.slice O7 o7 k7],Ze,.nilIface]) Zz ⟨⟨_,_,4,_,_,_,rfl,rfl,rfl,rfl,rfl,rfl⟩,⟨_,_,3,_,_,_,rfl,rfl,rfl,rfl,rfl,rfl⟩,rfl,rfl,trivial⟩ (fun fz5 hle5 hf5=>⟨rfl,?_⟩);rw [hM];exact ⟨d',p',_,_,⟨#[]⟩,YcP (hDD.mono hle5),Wi (hP'.mono hle5),rfl,rfl,rfl⟩
     rw [if_neg h0] at hM;rw [Yk h0];refine zW ?_;refine YF (XZ T (pre:=[_,_,_,_]) Zz Zz Zz rfl Zz Zz Zz ?_);refine zW ?_;exact YN T (vs:=[.agg #[Ze,Zn,Zn,Zn,Zn,Zn,Zn],.agg #[Ze,Ze,Zn,Zn,Zn,Ze,Ze,Zn,Zn,Zn,Zn],.string s,.iface 65 (Zk cc)]) Zz ⟨⟨_,_,4,_,_,_,rfl,rfl,rfl,rfl,rfl,rfl⟩,⟨_,_,3,_,_,_,rfl,rfl,rfl,rfl,rfl,rfl⟩,rfl,rfl,trivial⟩ (fun fz3 hle3 hf3=>⟨rfl,YcG hM h0⟩)
end Go.Proofs.YtfjopfinkdhmaaaGreatDoor
namespace Go.Proofs.YtfjopfinkdhmaaaGreatDoor
open Go.Lx Go.RowKit
attribute [local instance 10] Classical.propDecidable
theorem Yhu {k:Bs} (h:k=W7\/k=Xn\/k=Xe\/k=Xm):k∈Yde:=by
 rcases h with rfl | rfl | rfl | rfl
 ·exact .head _
 ·exact .tail _ (.head _)
 ·exact .tail _ (.tail _ (.head _))
 exact .tail _ (.tail _ (.tail _ (.head _)))
theorem YkP {k:Bs} (h:k.data.toList ∉ Yde.map (·.data.toList)):k ∉ Yde:=fun h2=>h (List.mem_map.2 ⟨k,h2,rfl⟩)
variable {d:Domain}
theorem Yg9 {s:List Bs} {d':Domain} {x:Sexpr} {r l:List Sexpr} {w:Bs} (h:Xw x=some (w,l)) (hs:w ∉ s) (hb:secB d w l x=.ok d'):secL s d (x::r)=secL (if w∈Yde then s++ [w] else s) d' r:=by
 rw [secL,h];simp only;rw [if_neg (fun h=>hs h.2),hb]
theorem Yha {s:List Bs} {d':Domain} {k:Bs} {ks R l:List Sexpr} {z:Domain} (h:l.map nopl=(grp k ks++R).map nopl) (hv:∀ v∈l,XVal v) (hk:k∈Yde) (hs:k ∉ s)
 (h1:ks=[]->d=d') (h2:∀ x r,(∀ v∈r,XVal v)->r.map nopl=ks.map nopl->secB d k r x=.ok d') (h3:∀ m,m.map nopl=R.map nopl->(∀ v∈m,XVal v)->secL s d' m=.ok z/\secL (s++ [k]) d' m=.ok z):secL s d l=.ok z:=by
 unfold grp at h;by_cases hc:ks=[]
 ·rw [if_pos hc,List.nil_append] at h;rw [h1 hc];exact (h3 l h hv).1
 rw [if_neg hc] at h;obtain ⟨x,m,rfl,e1,h⟩:=YG h;obtain ⟨r',g1,g2,g3,g4,g5⟩:=XB e1;rw [Yg9 g1 hs (h2 x r' (fun v hv'=>Wb (hv x (by simp)) (g5 v hv')) g2),if_pos hk];exact (h3 m h (fun v hv'=>hv v (by simp [hv']))).2
theorem acts_p {s:List Bs} (hs:XO ∉ s):∀ {as':List Action} {l R:List Sexpr} {d:Domain},l.map nopl=(as'.map actX++R).map nopl->(∀ v∈l,XVal v)->(∀ a∈as',Yjk a)->
 ∃ m,m.map nopl=R.map nopl/\(∀ v∈m,XVal v)/\secL s d l=secL s {d with actions:=d.actions++as'} m
 | [],l,R,d,h,hv,_=>⟨l,h,hv,by rw [List.append_nil]⟩
 | a::as',l,R,d,h,hv,ha=>by
  obtain ⟨x,m,rfl,e1,h⟩:=YG h;have e1':=e1;unfold actX at e1';simp only [List.append_assoc] at e1';obtain ⟨_,_,_,_,g4⟩:=hdr_p e1' (ha a (by simp)).1;have hb:secB d XO (x.kids.drop 1) x=.ok {d with actions:=d.actions++ [a]}:=by
   rw [secB,if_neg Zh,if_neg Zh,if_neg Zh,if_neg Zh,if_neg Zh,if_pos rfl,act_p e1 (ha a (by simp)) (hv x (by simp))]
  obtain ⟨m',i1,i2,i3⟩:=acts_p hs (d:={d with actions:=d.actions++ [a]}) h (fun v hv'=>hv v (by simp [hv'])) (fun b hb=>ha b (by simp [hb]));refine ⟨m',i1,i2,?_⟩;rw [Yg9 g4 hs hb,if_neg (YkP Zh),i3];simp only [List.append_assoc,List.cons_append,List.nil_append]
theorem durs_p {s:List Bs} (hs:Y1 ∉ s):∀ {as':List Durative} {l R:List Sexpr} {d:Domain},l.map nopl=(as'.map durX++R).map nopl->(∀ v∈l,XVal v)->(∀ a∈as',Yi8 a)->
 ∃ m,m.map nopl=R.map nopl/\(∀ v∈m,XVal v)/\secL s d l=secL s {d with duratives:=d.duratives++as'} m
 | [],l,R,d,h,hv,_=>⟨l,h,hv,by rw [List.append_nil]⟩
 | a::as',l,R,d,h,hv,ha=>by
  obtain ⟨x,m,rfl,e1,h⟩:=YG h;have e1':=e1;unfold durX at e1';simp only [List.append_assoc] at e1';obtain ⟨_,_,_,_,g4⟩:=hdr_p e1' (ha a (by simp)).1;have hb:secB d Y1 (x.kids.drop 1) x=.ok {d with duratives:=d.duratives++ [a]}:=by
   rw [secB,if_neg Zh,if_neg Zh,if_neg Zh,if_neg Zh,if_neg Zh,if_neg Zh,if_pos rfl,dur_p e1 (ha a (by simp)) (hv x (by simp))]
  obtain ⟨m',i1,i2,i3⟩:=durs_p hs (d:={d with duratives:=d.duratives++ [a]}) h (fun v hv'=>hv v (by simp [hv'])) (fun b hb=>ha b (by simp [hb]));refine ⟨m',i1,i2,?_⟩;rw [Yg9 g4 hs hb,if_neg (YkP Zh),i3];simp only [List.append_assoc,List.cons_append,List.nil_append]
theorem nmd_p {want nm:Bs} {x:Sexpr} (h:nopl x=nopl (YD [Yg want,Yg nm])) (hn:YX nm):nmdM want x=.ok nm:=by
 obtain ⟨r',h1,h2,_⟩:=XB h;obtain ⟨y,m,rfl,e1,h2⟩:=YG h2;obtain rfl:=XA h2;obtain ⟨g1,g2⟩:=Yd9 e1;rw [nmdM,h1];simp only;rw [if_pos ⟨trivial,g1⟩,g2,if_pos hn]
theorem tit_p {nm:Bs} {x:Sexpr} (h:nopl x=nopl (YD [Yg Y7,Yg nm])) (hn:YX nm):titM x=.ok nm:=by
 obtain ⟨r',h1,h2,_⟩:=XB h;obtain ⟨y,m,rfl,e1,h2⟩:=YG h2;obtain rfl:=XA h2;obtain ⟨g1,g2⟩:=Yd9 e1;rw [titM,h1];simp only;rw [if_pos ⟨trivial,g1⟩,g2,if_pos hn]
theorem Yoa {k:Bs} {s:List Bs} (h:k.data.toList ∉ s.map (·.data.toList)):k ∉ s:=fun h2=>h (List.mem_map.2 ⟨k,h2,rfl⟩)
theorem dpar_dom {x:Sexpr} (h:nopl x=nopl (domX d)) (hd:Ybt d) (hv:XVal x):dPar x=.ok d:=by
 obtain ⟨k1,k2,k3,k4,k5,k6,k7⟩:=hd;unfold domX at h;simp only [List.append_assoc,List.cons_append,List.nil_append] at h;obtain ⟨r',g1,g2,g3,g4,g5⟩:=XB h;obtain ⟨y,m,rfl,e1,g2⟩:=YG g2;rw [dPar,g1];simp only;rw [if_pos trivial,tit_p e1 k1];simp only;have hv':∀ v∈m,XVal v:=fun v hv'=>Wb hv (g5 v (by simp [hv']))
 obtain ⟨nm,ty,cs,ps,fs,as',us⟩:=d;have nin:∀ {s ks:List Bs} {k:Bs},(∀ j∈s,j∈ks)->k.data.toList ∉ ks.map (·.data.toList)->k ∉ s:=fun hs hk h=>hk (List.mem_map.2 ⟨_,hs _ h,rfl⟩)
 have grow:∀ {s ks:List Bs} {k:Bs},(∀ j∈s,j∈ks)->(∀ j∈s,j∈k::ks)/\∀ j∈s++ [k],j∈k::ks:=fun hs=>⟨fun j hj=>List.mem_cons_of_mem _ (hs j hj),fun j hj=>by
  rcases List.mem_append.1 hj with hj | hj
  ·exact List.mem_cons_of_mem _ (hs j hj)
  rw [List.mem_singleton] at hj;subst hj;exact .head _⟩
 -- the actions
 have L5:∀ s:List Bs,(∀ j∈s,j∈ [Xm,Xe,Xn,W7])->∀ m:List Sexpr,m.map nopl=(as'.map actX++us.map durX).map nopl->(∀ v∈m,XVal v)->secL s ⟨nm,ty,cs,ps,fs,[],[]⟩ m=.ok ⟨nm,ty,cs,ps,fs,as',us⟩:=by
  intro s hs m hm hv;obtain ⟨m1,i1,i2,i3⟩:=acts_p (nin hs Zh) (d:=⟨nm,ty,cs,ps,fs,[],[]⟩) hm hv k6;obtain ⟨m2,j1,j2,j3⟩:=durs_p (nin hs Zh) (R:=[]) (d:=⟨nm,ty,cs,ps,fs,as',[]⟩) (by rw [List.append_nil];exact i1) i2 k7;rw [i3];show secL s ⟨nm,ty,cs,ps,fs,[]++as',[]⟩ m1=_;rw [List.nil_append,j3,XA j1,secL];rfl
 have L4:∀ s:List Bs,(∀ j∈s,j∈ [Xe,Xn,W7])->∀ m:List Sexpr,m.map nopl=(grp Xm (fs.map funX)++(as'.map actX++us.map durX)).map nopl->(∀ v∈m,XVal v)->secL s ⟨nm,ty,cs,ps,[],[],[]⟩ m=.ok ⟨nm,ty,cs,ps,fs,as',us⟩:=by
  intro s hs m hm hv;refine Yha (d':=⟨nm,ty,cs,ps,fs,[],[]⟩) hm hv (Yhu (.inr (.inr (.inr rfl)))) (nin hs Zh) (fun h=>by rw [List.map_eq_nil_iff.1 h]) (fun x r hv e=>?_) (fun m hm hv=>⟨L5 _ (grow hs).1 m hm hv,L5 _ (grow hs).2 m hm hv⟩);rw [secB,if_neg Zh,if_neg Zh,if_neg Zh,if_neg Zh,if_pos rfl,YgH e (fun k hk y hy hky=>fun_p hky (k5 y hy) (hv k hk))];rfl
 have L3:∀ s:List Bs,(∀ j∈s,j∈ [Xn,W7])->∀ m:List Sexpr,m.map nopl=(grp Xe (ps.map YeO)++(grp Xm (fs.map funX)++(as'.map actX++us.map durX))).map nopl->(∀ v∈m,XVal v)->secL s ⟨nm,ty,cs,[],[],[],[]⟩ m=.ok ⟨nm,ty,cs,ps,fs,as',us⟩:=by
  intro s hs m hm hv;refine Yha (d':=⟨nm,ty,cs,ps,[],[],[]⟩) hm hv (Yhu (.inr (.inr (.inl rfl)))) (nin hs Zh) (fun h=>by rw [List.map_eq_nil_iff.1 h]) (fun x r hv e=>?_) (fun m hm hv=>⟨L4 _ (grow hs).1 m hm hv,L4 _ (grow hs).2 m hm hv⟩);rw [secB,if_neg Zh,if_neg Zh,if_neg Zh,if_pos rfl,YgH e (fun k hk y hy hky=>pred_p hky (k4 y hy) (hv k hk))];rfl
 have pars0:∀ {l:List Param},WD l=[]->l=[]:=fun {l} h=>by
  cases l with
  | nil=>rfl
  | cons a r=>cases h
 have L2:∀ s:List Bs,(∀ j∈s,j∈ [W7])->∀ m:List Sexpr,m.map nopl=(grp Xn (WD cs)++(grp Xe (ps.map YeO)++(grp Xm (fs.map funX)++(as'.map actX++us.map durX)))).map nopl->(∀ v∈m,XVal v)->secL s ⟨nm,ty,[],[],[],[],[]⟩ m=.ok ⟨nm,ty,cs,ps,fs,as',us⟩:=by
  intro s hs m hm hv;refine Yha (d':=⟨nm,ty,cs,[],[],[],[]⟩) hm hv (Yhu (.inr (.inl rfl))) (nin hs Zh) (fun h=>by rw [pars0 h]) (fun x r hv e=>?_) (fun m hm hv=>⟨L3 _ (grow hs).1 m hm hv,L3 _ (grow hs).2 m hm hv⟩);rw [secB,if_neg Zh,if_neg Zh,if_pos rfl,Yhn (b:=false) (l:=cs) (done:=[]) e k3 hv];rfl
 refine Yha (d':=⟨nm,ty,[],[],[],[],[]⟩) g2 hv' (Yhu (.inl rfl)) (fun h=>by cases h) (fun h=>by rw [show ty=[] from pars0 h]) (fun x r hv e=>?_) (fun m hm hv=>⟨L2 _ (fun j hj=>by cases hj) m hm hv,L2 _ (fun j hj=>hj) m hm hv⟩);rw [secB,if_neg Zh,if_pos rfl,Yhn (b:=false) (l:=ty) (done:=[]) e k2 hv];rfl
theorem dparse_p {x:Sexpr} (h:nopl x=nopl (domX d)) (hd:Ybt d) (hv:XVal (domX d)):Yby x=.ok d:=by
 have hx:=YdA h hv;rw [Yby,if_pos hx,dpar_dom h hd hx];simp only;rw [if_pos ⟨hd,hv⟩]
variable {f:Formula}
theorem true_of (h:FOk f) (h1:f.op=kAnd) (h2:f.kids=[]):f=Y5:=by
 obtain ⟨⟨_,⟨k,hk,r1,r2,r3,r4⟩,_⟩,_⟩:=Wc.1 h;have e:=Yk3 f;unfold YcK at hk;rw [h1,if_neg Zh,if_neg (by unfold CmpOp;decide),if_pos (.inl rfl)] at hk;injection hk with hk
 subst hk;obtain ⟨n1,n2⟩:=r1 (by rw [h1];decide) (by rw [h1];decide);rw [h1,h2,n1,n2,r4 rfl,List.eq_nil_of_length_eq_zero r2] at e;exact e
theorem argn_p:∀ {a:List Bs} {l:List Sexpr},l.map nopl=(a.map Yg).map nopl->(∀ s∈a,YX s)->Ydw l=.ok a
 | [],l,h,_=>by rw [XA h,Ydw]
 | s::a,l,h,ht=>by
  rw [List.map_cons] at h;obtain ⟨y,m,rfl,h1,h2⟩:=YG h;obtain ⟨h3,h4⟩:=Yd9 h1;rw [Ydw,if_neg (by rw [h3];simp),if_neg (by rw [h4];exact fun h=>h (ht s (by simp))),argn_p h2 (fun s hs=>ht s (by simp [hs])),h4];rfl
theorem pat_p {a:Atom} {l:List Sexpr} (h:l.map nopl=(a.args.map Yg).map nopl) (ha:GrdA a):patM a.name l=.ok a:=by
 rw [patM,if_pos ha.1,argn_p h ha.2]
variable {p:Problem}
theorem elm_a {x:Sexpr} {a:Atom} (h:nopl x=nopl (Yaq a)) (ha:GrdA a):elmM p x=.ok {p with init:=p.init++ [a]}:=by
 obtain ⟨r',h1,h2,_⟩:=XB h;rw [elmM,h1];simp only;rw [elmB.eq_def,if_neg (Ydo ha.1 (by unfold LetP;decide) Zh),pat_p h2 ha]
theorem elm_v {x:Sexpr} {v:Value_} (h:nopl x=nopl (valX v)) (hv:Yog v):elmM p x=.ok {p with values:=p.values++ [v]}:=by
 obtain ⟨r',h1,h2,_⟩:=XB h;obtain ⟨y,m,rfl,e1,h2⟩:=YG h2;obtain ⟨z,m,rfl,e2,h2⟩:=YG h2;obtain rfl:=XA h2;obtain ⟨g1,g2⟩:=Ymo e2;obtain ⟨r2,f1,f2,_⟩:=XB e1;rw [elmM,h1];simp only;rw [elmB.eq_def,if_pos rfl];simp only;rw [if_pos g1,f1];simp only;rw [pat_p f2 hv.1,g2]
theorem elms_a:∀ {as':List Atom} {l R:List Sexpr} {p:Problem},l.map nopl=(as'.map Yaq++R).map nopl->(∀ a∈as',GrdA a)->∃ m,m.map nopl=R.map nopl/\YdU elmM p l=YdU elmM {p with init:=p.init++as'} m
 | [],l,R,p,h,_=>⟨l,h,by rw [List.append_nil]⟩
 | a::as',l,R,p,h,ha=>by
  obtain ⟨x,m,rfl,e1,h⟩:=YG h;obtain ⟨m',i1,i2⟩:=elms_a (p:={p with init:=p.init++ [a]}) h (fun b hb=>ha b (by simp [hb]));refine ⟨m',i1,?_⟩;rw [YdU,elm_a e1 (ha a (by simp))];simp only;rw [i2];simp only [List.append_assoc,List.cons_append,List.nil_append]
theorem elms_v:∀ {vs:List Value_} {l:List Sexpr} {p:Problem},l.map nopl=(vs.map valX).map nopl->(∀ v∈vs,Yog v)->YdU elmM p l=.ok {p with values:=p.values++vs}
 | [],l,p,h,_=>by rw [XA h,YdU,List.append_nil]
 | v::vs,l,p,h,hv=>by
  obtain ⟨x,m,rfl,e1,h⟩:=YG h;rw [YdU,elm_v e1 (hv v (by simp))];simp only;rw [elms_v h (fun b hb=>hv b (by simp [hb]))];simp only [List.append_assoc,List.cons_append,List.nil_append]
theorem Yiz {kw ks:List Bs} {k:Bs} {p':Problem} {x:Sexpr} {l r:List Sexpr} (hq:KwQ kw (k::ks)) (h:Xw x=some (k,l)) (hp:Yef p k l=.ok p'):Yc8 kw p (x::r)=Yc8 ks p' r:=by
 obtain ⟨q1,q2⟩:=hq.take;rw [Yc8,h];simp only;rw [if_pos q1,hp];simp only;rw [q2]
theorem YkG {kw ks:List Bs} {k:Bs} {p' z:Problem} {js R l:List Sexpr} (hq:KwQ kw (k::ks)) (hn0:k.data.toList ∉ ks.map (·.data.toList)) (h:l.map nopl=(grp k js++R).map nopl) (hv:∀ v∈l,XVal v)
 (h1:js=[]->p=p') (h2:∀ r,(∀ v∈r,XVal v)->r.map nopl=js.map nopl->Yef p k r=.ok p') (h3:∀ kw' m,KwQ kw' ks->m.map nopl=R.map nopl->(∀ v∈m,XVal v)->Yc8 kw' p' m=.ok z):Yc8 kw p l=.ok z:=by
 unfold grp at h;by_cases hc:js=[]
 ·rw [if_pos hc,List.nil_append] at h;rw [h1 hc];exact h3 kw l (hq.skip (Yoa hn0)) h hv
 rw [if_neg hc] at h;obtain ⟨x,m,rfl,e1,h⟩:=YG h;obtain ⟨r',g1,g2,g3,g4,g5⟩:=XB e1;rw [Yiz hq g1 (h2 r' (fun v hv'=>Wb (hv x (by simp)) (g5 v hv')) g2)];exact h3 ks m KwQ.self h (fun v hv'=>hv v (by simp [hv']))
theorem ppar_p {x:Sexpr} (h:nopl x=nopl (prbX p)) (hg:FVal p.goal) (hp:Ybs p) (hv:XVal x):pPar x=.ok p:=by
 obtain ⟨k1,k2,k3,k4,k5⟩:=hp;unfold prbX at h;simp only [List.append_assoc,List.cons_append,List.nil_append] at h;obtain ⟨r',g1,g2,g3,g4,g5⟩:=XB h;obtain ⟨y,m,rfl,e1,g2⟩:=YG g2;obtain ⟨z,m,rfl,e2,g2⟩:=YG g2;rw [pPar,g1];simp only;rw [if_pos trivial,nmd_p e1 k1];simp only;rw [nmd_p e2 k2];simp only;have hv':∀ v∈m,XVal v:=fun v hv'=>Wb hv (g5 v (by simp [hv']))
 obtain ⟨nm,dm,obs,ini,vals,goal⟩:=p;have pars0:∀ {l:List Param},WD l=[]->l=[]:=fun {l} h=>by
  cases l with
  | nil=>rfl
  | cons a r=>cases h
 refine YkG (p':=⟨nm,dm,obs,[],[],Y5⟩) KwQ.self Zh g2 hv' (fun h=>by rw [show obs=[] from pars0 h]) (fun r hv e=>?_) (fun kw m hq hm hv=>?_)
 ·rw [Yef.eq_def,if_pos rfl,Yhn (b:=false) (l:=obs) (done:=[]) e k3 hv];rfl
 refine YkG (p':=⟨nm,dm,obs,ini,vals,Y5⟩) hq Zh hm hv (fun h=>?_) (fun r hv e=>?_) (fun kw m hq hm hv=>?_)
 ·obtain ⟨a1,a2⟩:=List.append_eq_nil_iff.1 h;rw [show ini=[] from List.map_eq_nil_iff.1 a1,show vals=[] from List.map_eq_nil_iff.1 a2]
 ·rw [Yef.eq_def,if_neg Zh,if_pos rfl];obtain ⟨m',i1,i2⟩:=elms_a (p:=⟨nm,dm,obs,[],[],Y5⟩) e k5;rw [i2,elms_v i1 k4];rfl
 unfold YjZ at hm;by_cases hc:goal.op=kAnd/\goal.kids=[]
 ·rw [if_pos hc] at hm;rw [XA hm,Yc8,show goal=Y5 from true_of hg.1 hc.1 hc.2]
 rw [if_neg hc] at hm;obtain ⟨x,m,rfl,e1,hm⟩:=YG hm;obtain rfl:=XA hm;obtain ⟨r',q1,q2,_⟩:=XB e1;obtain ⟨y,m,rfl,e3,q2⟩:=YG q2;obtain rfl:=XA q2;have hs:Yef ⟨nm,dm,obs,ini,vals,Y5⟩ YbT [y]=.ok ⟨nm,dm,obs,ini,vals,goal⟩:=by
  rw [Yef.eq_def,if_neg Zh,if_neg Zh];simp only;rw [Yc0 e3 hg]
 rw [Yiz hq q1 hs,Yc8]
theorem pparse_p {x:Sexpr} (h:nopl x=nopl (prbX p)) (hg:FVal p.goal) (hp:Ybs p) (hv:XVal (prbX p)):Ycr x=.ok p:=by
 have hx:=YdA h hv;rw [Ycr,if_pos hx,ppar_p h hg hp hx];simp only;rw [if_pos ⟨hg,hp,hv⟩]
theorem YmO {x:Sexpr} (h:XVal x) (hl:(lay 80 x 0++ [10]).length<=65536):∃ x',nopl x'=nopl x/\prdM (strOf (lay 80 x 0++ [10]))=.ok x':=by
 obtain ⟨x',h1,h2⟩:=read_lay h hl;exact ⟨x',h1,by rw [prdM,h2]⟩
theorem Ync (hc:(Yaj d p).2=0) (ha:(lay 80 (domX d) 0++ [10]).length<=65536) (hb:(lay 80 (prbX p) 0++ [10]).length<=65536):
 YlA (strOf (lay 80 (domX d) 0++ [10])) (strOf (lay 80 (prbX p) 0++ [10]))=.ok (d,p):=by
 have hc':=hc;unfold Yaj at hc';have h1:Ybt d/\XVal (domX d):=Classical.byContradiction fun h=>by rw [if_pos h] at hc';exact absurd hc' Zh
 rw [if_neg (fun h=>h h1)] at hc';have h2:FVal p.goal/\Ybs p/\XVal (prbX p):=Classical.byContradiction fun h=>by rw [if_pos h] at hc';exact absurd hc' Zh
 obtain ⟨x,e1,f1⟩:=YmO h1.2 ha;obtain ⟨y,e2,f2⟩:=YmO h2.2.2 hb;rw [YlA,f1];simp only;rw [dparse_p e1 h1.1 h1.2];simp only;rw [f2];simp only;rw [pparse_p e2 h2.1 h2.2.1 h2.2.2];simp only;rw [if_pos hc]
def bD:Bs:=⟨#[100]⟩
def bP:Bs:=⟨#[112]⟩
def sD:Domain:=⟨bD,[],[],[],[],[],[]⟩
def sP:Problem:=⟨bP,bD,[],[],[],Y5⟩
def kTxD:Bs:=⟨#[40,100,101,102,105,110,101,32,40,100,111,109,97,105,110,32,100,41,41]⟩
def kTxP:Bs:=⟨#[40,100,101,102,105,110,101,32,40,112,114,111,98,108,101,109,32,112,41,32,40,58,100,111,109,97,105,110,32,100,41,41]⟩
theorem nilP {α:Type} {p:α->Prop}:∀ x∈([]:List α),p x:=fun _ h=>by cases h
theorem nm_ok {s:Bs} (h1:0<s.size) (h2:s.size<=32) (h3:∀ b∈s.data.toList,LetP b.toNat) (h4:s.data.toList ∉ XQ.map (·.data.toList)):YX s:=by
 refine ⟨fun i hi=>.inl ?_,fun h=>by rw [h] at h1;exact absurd h1 Zh,h2,fun h=>h4 (List.mem_map.2 ⟨s,h,rfl⟩)⟩;obtain ⟨b,hb,hb2⟩:=Wa (s:=s) (k:=i) hi;rw [hb2];refine h3 b ?_;have:=Ye7 hi;rw [getElem?_pos s i hi] at hb;injection hb with hb
 rw [hb] at this;exact Zm this
def WrdP (s:Bs):Prop:=0<s.size/\s.size<=32/\(∀ b∈s.data.toList,(97<=(b.toNat:Int)/\(b.toNat:Int)<=122)\/(48<=(b.toNat:Int)/\(b.toNat:Int)<=57)\/b∈SymL)/\¬PreP s Wm/\¬DigP (Yap s 0)
instance {s:Bs}:Decidable (WrdP s):=inferInstanceAs (Decidable (_/\_))
theorem YgX {s:Bs} (h:WrdP s):WordT s:=by
 obtain ⟨h1,h2,h3,h4,h5⟩:=h;refine ⟨fun h=>by rw [h] at h1;exact absurd h1 Zh,h2,h3,fun hn=>?_⟩;have h6:=hn.1 0 (by rw [W6,if_neg h4];exact h1);rw [W6,if_neg h4] at h6;exact h5 h6
theorem nD:YX bD:=nm_ok Zh Zh (by unfold LetP;decide) Zh
theorem nP:YX bP:=nm_ok Zh Zh (by unfold LetP;decide) Zh
theorem xl {k:Int} {l c:Int} {ks:List Sexpr} (hk:k=3) (h:∀ k∈ks,XOk k):XOk (.mk k 0 l c ⟨#[]⟩ ks):=Y2.2 ⟨.inr (.inr ⟨hk,rfl,rfl⟩),h⟩
theorem xw {s:Bs} {l c:Int} (h:WordT s):XOk (.mk 1 0 l c s []):=Y2.2 ⟨.inl ⟨rfl,h,rfl,rfl⟩,by intro k hk;cases hk⟩
theorem xc {k:Sexpr} {r:List Sexpr} (h:XOk k) (h2:∀ j∈r,XOk j):∀ j∈k::r,XOk j:=List.forall_mem_cons.2 ⟨h,h2⟩
theorem xk {s:Bs} {l c:Int} {r:List Sexpr} (h:WrdP s) (h2:∀ j∈r,XOk j):∀ j∈Sexpr.mk 1 0 l c s []::r,XOk j:=xc (xw (YgX h)) h2
theorem YlD:Xc Y5=YD []:=by
 rw [Ye8];have h1:¬kAnd=kAtom:=by decide
 have h2:¬kAnd=kSame:=by decide
 have h3:¬CmpOp kAnd:=by unfold CmpOp;decide
 have h4:¬(kAnd=XL\/kAnd=WJ):=by decide
 simp [Y5,Formula.op,Formula.kids,h1,h2,h3,h4]
theorem fok_true:FOk Y5:=by
 have h1:¬kAnd=kAtom:=by decide
 have h2:¬kAnd=kSame:=by decide
 have h3:¬CmpOp kAnd:=by unfold CmpOp;decide
 have o:Y5.op=kAnd:=rfl;refine Wc.2 ⟨⟨⟨fun h=>absurd h h1,fun h=>absurd h h2,fun h=>absurd h (by rw [o];decide)⟩,⟨(0,false,0),?_,fun _ _=>⟨rfl,rfl⟩,rfl,rfl,fun _=>rfl⟩,nilP⟩,nilP,nilP⟩;rw [YcK,o,if_neg Zh,if_neg h3,if_pos (.inl rfl)];rfl
theorem Ynv:FVal Y5:=⟨fok_true,by rw [YlD];exact ⟨xl rfl nilP,by decide,by decide⟩⟩
theorem sD_ok:Ybt sD:=⟨nD,nilP,nilP,nilP,nilP,nilP,nilP⟩
theorem sP_ok:Ybs sP:=⟨nP,nD,nilP,nilP,nilP⟩
theorem domX_s:domX sD=YD [Yg YB,YD [Yg Y7,Yg bD]]:=by
 simp [domX,sD,grp,WD]
theorem Ymv:XVal (domX sD):=by
 rw [domX_s];exact ⟨xl rfl (xk (by decide+kernel) (xc (xl rfl (xk (by decide+kernel) (xk (by decide+kernel) nilP))) nilP)),by decide,by decide⟩
theorem prbX_s:prbX sP=YD [Yg YB,YD [Yg Xk,Yg bP],YD [Yg YH,Yg bD]]:=by
 simp [prbX,sP,grp,WD,YjZ,Y5,Formula.op,Formula.kids]
theorem sP_val:XVal (prbX sP):=by
 rw [prbX_s];exact ⟨xl rfl (xk (by decide+kernel) (xc (xl rfl (xk (by decide+kernel) (xk (by decide+kernel) nilP))) (xc (xl rfl (xk (by decide+kernel) (xk (by decide+kernel) nilP))) nilP))),by decide,by decide⟩
theorem s_tw:¬TwP [] (parN []):=fun ⟨k,x,h,_⟩=>by simp [parN] at h
theorem s_ex:ExP [] []:=nilP
theorem s_names:Ybu sD []=none:=by simp [Ybu,YfB,YeH,YgF,sD,repM]
theorem s_true:formM sD [] [] Y5=0:=by
 have h4:¬(Yjl kAnd):=by unfold Yjl;decide
 rw [YhF,if_neg Zh,if_neg (by show ¬ownM sD [] [] kAnd [] []≠0;rw [ownM,if_neg Zh,if_neg h4];decide)];rw [if_neg (by show ¬exprML sD [] _ []≠0;rw [exprML];decide)];show formML sD [] _ []=0;rw [formML]
theorem s_long:¬LongP Y5:=by rw [Ye2];simp [Y5,Formula.params,Formula.kids]
theorem s_chk:(Yaj sD sP).2=0:=by
 have ho:Yar sD sP=[]:=rfl;have hl:¬Yd4 sD sP []:=by
  simp [Yd4,sD,sP,s_long]
 have hn:newM sD.types=0:=by
  show newM []=0;rw [newM,if_neg s_tw];simp
 have h0:(X1 sD [] sP 0).2=0:=by simp [X1,s_names]
 have h1:(X1 sD [] sP 1).2=0:=by simp [X1,YbR,sD,Xx]
 have h2:(X1 sD [] sP 2).2=0:=by simp [X1,YbR,sD,Xx,s_ex]
 have h3:(X1 sD [] sP 3).2=0:=rfl;have h4:(X1 sD [] sP 4).2=0:=by simp [X1,numsL,sD,Xx]
 have h5:(X1 sD [] sP 5).2=0:=by
  show (Xx idN (Ya6 sD [])).2=0;have:Ya6 sD []=[]:=by simp [Ya6,sD]
  rw [this];rfl
 have h6:(X1 sD [] sP 6).2=0:=by simp [X1,Yac,sD,sP,Ycs,YgY]
 have h7:(X1 sD [] sP 7).2=0:=by
  have e:(if sD.duratives=[] then formM sD [] [] sP.goal else YbH sD [] [] sP.goal)=0:=by rw [if_pos (show sD.duratives=[] from rfl)];exact s_true
  simp only [X1,YiU,e,ne_eq,not_true_eq_false,if_false]
 rw [Yaj,ho,if_neg (fun h=>h ⟨sD_ok,Ymv⟩),if_neg (fun h=>h ⟨Ynv,sP_ok,sP_val⟩),if_neg hl,if_neg (fun h=>h hn)];simp only [YfP,h0,h1,h2,h3,h4,h5,h6,h7,if_true,Nat.zero_add,Nat.reduceAdd]
variable {k n:Nat}
theorem YaL {t:Bs} {f a e:Nat} {b:UInt8} {s:Bs} {e0:Lev} {st:List Lev} (hk:XY false t a=k) (hb:t[k]?=some b) (h1:b≠40) (h2:b≠41) (he:tokE t k=e) (hs:t.extract k e=s) (hw:WordT s) (hn:n<4096):
 YaM t (f+1) a n (e0::st)=YaM t f e (n+1) (e0.add (.mk 1 0 (posA t k).1 (posA t k).2 s [])::st):=by
 have hl:k<t.size:=by
  rcases Nat.lt_or_ge k t.size with h | h
  ·exact h
  rw [getElem?_neg t k Zi] at hb;cases hb
 rw [Yay,hk,if_neg Zi];unfold YcF;rw [hb];simp only [if_neg h1,if_neg h2];rw [tokM,he,hs,Yku hw];simp only;rw [if_neg Zi];rfl
instance {b:UInt8}:Decidable (StopP b):=inferInstanceAs (Decidable (_\/_))
def tokC:List UInt8->Nat
 | []=>0
 | b::r=>if StopP b then 0 else 1+tokC r
theorem tok_c:∀ (l:List UInt8),tokL l=tokC l
 | []=>rfl
 | b::r=>by
  rw [tokL,tokC,tok_c r];by_cases h:StopP b
  ·rw [if_pos h,if_pos h]
  rw [if_neg h,if_neg h]
theorem YeE {t:Bs} {e:Nat} (h:k+tokC (t.data.toList.drop k)=e):tokE t k=e:=by
 rw [tokE,tok_c];exact h
theorem Yct {t:Bs} {b:UInt8} (h:t.data.toList[k]?=some b):t[k]?=some b:=by
 have hl:k<t.size:=by
  rcases Nat.lt_or_ge k t.size with h1 | h1
  ·exact h1
  rw [List.getElem?_eq_none (by rw [YaF];exact h1)] at h;cases h
 rw [Ye7 hl] at h;rw [getElem?_pos t k hl];exact h
def wE (l c:Int) (s:Bs):Sexpr:=.mk 1 0 l c s []
def lE (l c:Int) (ks:List Sexpr):Sexpr:=.mk 3 0 l c ⟨#[]⟩ ks
def xTD:Sexpr:=lE 1 1 [wE 1 2 YB,lE 1 9 [wE 1 10 Y7,wE 1 17 bD]]
theorem prd_D:prdM kTxD=.ok xTD:=by
 have h:YdH kTxD=.ok [xTD]:=by
  rw [YdH,if_neg Zh];show YaM kTxD (19+1) 0 0 _=_;rw [YbO (k:=0) (by decide+kernel) (Yct rfl) Zh Zh];rw [YaL (f:=18) (k:=1) (e:=7) (s:=YB) (by decide+kernel) (Yct rfl) Zh Zh (YeE (by decide+kernel)) (by decide+kernel) (YgX (by decide+kernel)) Zh];rw [YbO (f:=17) (k:=8) (by decide+kernel) (Yct rfl) Zh Zh];rw [YaL (f:=16) (k:=9) (e:=15) (s:=Y7) (by decide+kernel) (Yct rfl) Zh Zh (YeE (by decide+kernel)) (by decide+kernel) (YgX (by decide+kernel)) Zh];rw [YaL (f:=15) (k:=16) (e:=17) (s:=bD) (by decide+kernel) (Yct rfl) Zh Zh (YeE (by decide+kernel)) (by decide+kernel) (YgX (by decide+kernel)) Zh];rw [Ya7 (f:=14) (k:=17) (by decide+kernel) (Yct rfl)];rw [Ya7 (f:=13) (k:=18) (by decide+kernel) (Yct rfl)];rw [Yhc (f:=12) (by decide+kernel)];rfl
 rw [prdM,h]
def xTP:Sexpr:=lE 1 1 [wE 1 2 YB,lE 1 9 [wE 1 10 Xk,wE 1 18 bP],lE 1 21 [wE 1 22 YH,wE 1 30 bD]]
theorem prd_P:prdM kTxP=.ok xTP:=by
 have h:YdH kTxP=.ok [xTP]:=by
  rw [YdH,if_neg Zh];show YaM kTxP (32+1) 0 0 _=_;rw [YbO (k:=0) (by decide+kernel) (Yct rfl) Zh Zh];rw [YaL (f:=31) (k:=1) (e:=7) (s:=YB) (by decide+kernel) (Yct rfl) Zh Zh (YeE (by decide+kernel)) (by decide+kernel) (YgX (by decide+kernel)) Zh];rw [YbO (f:=30) (k:=8) (by decide+kernel) (Yct rfl) Zh Zh];rw [YaL (f:=29) (k:=9) (e:=16) (s:=Xk) (by decide+kernel) (Yct rfl) Zh Zh (YeE (by decide+kernel)) (by decide+kernel) (YgX (by decide+kernel)) Zh];rw [YaL (f:=28) (k:=17) (e:=18) (s:=bP) (by decide+kernel) (Yct rfl) Zh Zh (YeE (by decide+kernel)) (by decide+kernel) (YgX (by decide+kernel)) Zh];rw [Ya7 (f:=27) (k:=18) (by decide+kernel) (Yct rfl)];rw [YbO (f:=26) (k:=20) (by decide+kernel) (Yct rfl) Zh Zh];rw [YaL (f:=25) (k:=21) (e:=28) (s:=YH) (by decide+kernel) (Yct rfl) Zh Zh (YeE (by decide+kernel)) (by decide+kernel) (YgX (by decide+kernel)) Zh];rw [YaL (f:=24) (k:=29) (e:=30) (s:=bD) (by decide+kernel) (Yct rfl) Zh Zh (YeE (by decide+kernel)) (by decide+kernel) (YgX (by decide+kernel)) Zh];rw [Ya7 (f:=23) (k:=30) (by decide+kernel) (Yct rfl)];rw [Ya7 (f:=22) (k:=31) (by decide+kernel) (Yct rfl)];rw [Yhc (f:=21) (by decide+kernel)];rfl
 rw [prdM,h]
theorem xTD_val:XVal xTD:=⟨xl rfl (xk (by decide+kernel) (xc (xl rfl (xk (by decide+kernel) (xk (by decide+kernel) nilP))) nilP)),by decide,by decide⟩
theorem xTP_val:XVal xTP:=⟨xl rfl (xk (by decide+kernel) (xc (xl rfl (xk (by decide+kernel) (xk (by decide+kernel) nilP))) (xc (xl rfl (xk (by decide+kernel) (xk (by decide+kernel) nilP))) nilP))),by decide,by decide⟩
theorem YiT {l c l2 c2:Int} {w:Bs} {r:List Sexpr}:Xw (lE l c (wE l2 c2 w::r))=some (w,r):=by
 unfold Xw lE wE;simp [Sexpr.kids,Sexpr.kind,Sexpr.text]
theorem dParse_D:Yby xTD=.ok sD:=by
 have hp:dPar xTD=.ok sD:=by
  have ht:titM (lE 1 9 [wE 1 10 Y7,wE 1 17 bD])=.ok bD:=by
   rw [titM,YiT];simp only;rw [if_pos ⟨trivial,rfl⟩,if_pos (show YX (wE 1 17 bD).text from nD)];rfl
  rw [dPar,xTD,YiT];simp only [if_true];rw [ht];rfl
 rw [Yby,if_pos xTD_val,hp];simp only;rw [if_pos ⟨sD_ok,Ymv⟩]
theorem pParse_P:Ycr xTP=.ok sP:=by
 have hp:pPar xTP=.ok sP:=by
  have h1:nmdM Xk (lE 1 9 [wE 1 10 Xk,wE 1 18 bP])=.ok bP:=by
   rw [nmdM,YiT];simp only;rw [if_pos ⟨trivial,rfl⟩,if_pos (show YX (wE 1 18 bP).text from nP)];rfl
  have h2:nmdM YH (lE 1 21 [wE 1 22 YH,wE 1 30 bD])=.ok bD:=by
   rw [nmdM,YiT];simp only;rw [if_pos ⟨trivial,rfl⟩,if_pos (show YX (wE 1 30 bD).text from nD)];rfl
  rw [pPar,xTP,YiT];simp only [if_true];rw [h1];simp only;rw [h2];rfl
 rw [Ycr,if_pos xTP_val,hp];simp only;rw [if_pos ⟨Ynv,sP_ok,sP_val⟩]
theorem load_DP:YlA kTxD kTxP=.ok (sD,sP):=by
 rw [YlA,prd_D];simp only;rw [dParse_D];simp only;rw [prd_P];simp only;rw [pParse_P];simp only;rw [if_pos s_chk]
variable {fz:FZ}
theorem sD_R:DomainR fz sD Zn Zn Zn Zn Zn Zn:=
 ⟨by unfold Short sD bD;decide,IsSl.nil,IsSl.nil,IsSl.nil,IsSl.nil,IsSl.nil,IsSl.nil⟩
theorem sD_sm:DomSm sD:=⟨by decide,by decide,by decide,nilP,by decide,nilP,by decide,nilP,by decide,nilP⟩
theorem lay_s:lay 80 (domX sD) 0++ [10]=[40,100,101,102,105,110,101,32,40,100,111,109,97,105,110,32,100,41,41,10]:=by
 rw [domX_s,YdO (.inr (.inr Zh))];rfl
end Go.Proofs.YtfjopfinkdhmaaaGreatDoor
namespace Go.Lx
open Go.RowKit
section
variable {P:Program} {cx:Cx} {σ:Env} {fz:FZ} {H:HP} {Q:QQ}
def inI (l:List Nat) (i:Nat):Bool:=l.any fun j=>Nat.beq j i
theorem YmC {ops:List Oper} {o:Oper} {ve cv cv':Env} (hx:Sub cv' cv) (h2:∀ j,lk cv j≠none->lk ve j=none):∀ x v,rdc ops o σ ve cv' x=some v->rdc ops o σ ve cv x=some v:=by
 intro x v h;cases x with
 | tmp t=>
  unfold rdc at h ⊢;cases hw:YbC ops t 0 with
  | none=>simp only [hw] at h ⊢;exact h
  | some j=>
   simp only [hw] at h ⊢;cases hq:waits o j with
   | false=>simp only [hq] at h ⊢;exact h
   | true=>
    simp only [hq] at h ⊢;cases h1:lk cv' j with
    | some u=>
     simp only [h1] at h;have:=hx.lk_ j u h1;simp only [this];exact h
    | none=>
     simp only [h1] at h;cases h3:lk cv j with
     | none=>exact h
     | some u=>have:=h2 j (by rw [h3];simp);rw [this] at h;cases h
 | const c=>exact h
 | func f=>exact h
 | global g=>exact h
theorem Does.cv {ops:List Oper} {o:Oper} {ve cv cv':Env} {K:Value->FZ->HP->Prop} (hx:Sub cv' cv) (h2:∀ j,lk cv j≠none->lk ve j=none) (h:Does P cx o (rdc ops o σ ve cv') fz H K):Does P cx o (rdc ops o σ ve cv) fz H K:=
 Does.of fun ρ w hr hi=>h.run ρ w (fun x v hv=>hr x v (YmC hx h2 x v hv)) hi
theorem DoesQ.cv {ops:List Oper} {o:Oper} {ve cv cv':Env} {V:Value->Prop} (hx:Sub cv' cv) (h2:∀ j,lk cv j≠none->lk ve j=none) (h:DoesQ P cx o (rdc ops o σ ve cv') fz H V):DoesQ P cx o (rdc ops o σ ve cv) fz H V:=by
 unfold DoesQ at h ⊢;obtain ⟨v,h1,h3⟩:=h;exact ⟨v,h1,fun ρ w hr hi=>h3 ρ w (fun x u hu=>hr x u (YmC hx h2 x u hu)) hi⟩
theorem Does.post {r:Operand->Option Value} {o:Oper} {K:Value->FZ->HP->Prop} (h:Does P cx o r fz H fun v fz' H'=>∃ H1 H2,H'.Perm (H1++H2)/\∀ fz2,Le fz' fz2->(∀ p∈H2,fz2 p.1=some p.2)->K v fz2 H1):Does P cx o r fz H K:=
 Does.of fun ρ w hr hi=>(h.run ρ w hr hi).mono fun v w' hh=>by
  obtain ⟨fz',H',h1,H1,H2,hp,h2⟩:=hh;obtain ⟨fz2,h3,h4,h5⟩:=WK H2 fz' H1 (h1.perm hp.symm);exact ⟨fz2,H1,h5,h2 fz2 h3 h4⟩
variable {i:Nat} {v:Value}
theorem Ynq {ve cv:Env} (h:lk ve i=none) (h2:∀ j,lk cv j≠none->lk ve j=none):∀ j,lk ((i,v)::cv) j≠none->lk ve j=none:=fun j hj=>by
 by_cases he:i=j
 ·rw [<- he];exact h
 rw [YZ v cv he] at hj;exact h2 j hj
theorem rdc_ext {ops:List Oper} {o:Oper} {ve cv cv':Env} (hx:VExt cv' cv) (h2:∀ j,lk cv j≠none->lk ve j=none):∀ x v,rdc ops o σ ve cv' x=some v->rdc ops o σ ve cv x=some v:=by
 intro x v h;cases x with
 | tmp t=>
  unfold rdc at h ⊢;cases hw:YbC ops t 0 with
  | none=>simp only [hw] at h ⊢;exact h
  | some j=>
   simp only [hw] at h ⊢;cases hq:waits o j with
   | false=>simp only [hq] at h ⊢;exact h
   | true=>
    simp only [hq] at h ⊢;cases h1:lk cv' j with
    | some u=>
     simp only [h1] at h;have:=hx j u h1;simp only [this];exact h
    | none=>
     simp only [h1] at h;cases h3:lk cv j with
     | none=>exact h
     | some u=>have:=h2 j (by rw [h3];simp);rw [this] at h;cases h
 | const c=>exact h
 | func f=>exact h
 | global g=>exact h
theorem Yh5 {o:Oper} {ve cv cv':Env} {b:Bool} (hx:VExt cv' cv) (h2:∀ j,lk cv j≠none->lk ve j=none) (h:Ygb o ve cv'=some b):Ygb o ve cv=some b:=by
 unfold Ygb at h ⊢;split
 ·rename_i hg;simp only [hg] at h;exact h
 rename_i j c hg;simp only [hg] at h;cases hw:waits o j with
 | false=>simp only [hw] at h;cases h
 | true=>
  simp only [hw] at h ⊢;cases h1:lk cv' j with
  | some u=>
   simp only [h1] at h;have:=hx j u h1;simp only [this];exact h
  | none=>
   simp only [h1] at h;cases h3:lk cv j with
   | none=>simp only;exact h
   | some u=>have:=h2 j (by rw [h3];simp);simp only [this] at h;cases h
theorem Po.ext {ops:List Oper} {pu:List Nat} {ve:Env} {fz0:FZ} {Hq:HP} {all:List (Nat × Oper)}:∀ (m:Nat) {rest:List (Nat × Oper)} {dn:Bool} {cv cv' τ:Env} {fz:FZ} {H:HP},VExt cv' cv->(∀ j,lk cv j≠none->lk ve j=none)->(∀ p∈rest,lk ve p.1=none)->
 Po P cx ops pu σ ve fz0 Hq Q all m rest dn cv' τ fz H->Po P cx ops pu σ ve fz0 Hq Q all m rest dn cv τ fz H
 | 0,rest,dn,cv,cv',τ,fz,H,_,_,_,h=>by unfold Po at h ⊢;exact h
 | m+1,rest,dn,cv,cv',τ,fz,H,hx,h2,hr,h=>by
  unfold Po at h ⊢;intro p hp hf;have hx2:∀ u,VExt ((p.1,u)::cv') ((p.1,u)::cv):=fun u j w hj=>by
   by_cases he:p.1=j
   ·subst he;rw [Xh] at hj ⊢;exact hj
   rw [YZ u _ he] at hj ⊢;exact hx j w hj
  have hr2:∀ q∈rest.filter fun q=>!Nat.beq q.1 p.1,lk ve q.1=none:=fun q hq=>hr q (List.mem_filter.1 hq).1
  rcases h p hp hf with ⟨hw,hd⟩ | ⟨hw,hn⟩
  ·exact .inl ⟨Yh5 hx h2 hw,Does.of fun ρ w hrd hi=>(hd.run ρ w (fun x v hv=>hrd x v (rdc_ext hx h2 x v hv)) hi).mono fun v w' ⟨fz',H',h3,h4,h5⟩=>⟨fz',H',h3,h4,Po.ext m (hx2 v) (Ynq (hr p hp) h2) hr2 h5⟩⟩
  exact .inr ⟨Yh5 hx h2 hw,Po.ext m (hx2 undef) (Ynq (hr p hp) h2) hr2 hn⟩
theorem Po.cv {ops:List Oper} {pu:List Nat} {ve:Env} {fz0:FZ} {Hq:HP} {all:List (Nat × Oper)} {m:Nat} {rest:List (Nat × Oper)} {dn:Bool} {cv τ:Env} (cv':Env) (hx:Sub cv' cv) (h2:∀ j,lk cv j≠none->lk ve j=none) (hr:(rest.all fun p=>(lk ve p.1).isNone)=true)
 (h:Po P cx ops pu σ ve fz0 Hq Q all m rest dn cv' τ fz H):Po P cx ops pu σ ve fz0 Hq Q all m rest dn cv τ fz H:=
 Po.ext m (fun j v hj=>hx.lk_ j v hj) h2 (fun p hp=>by
  have:=List.all_eq_true.1 hr p hp;cases h0:lk ve p.1 with
  | none=>rfl
  | some u=>rw [h0] at this;cases this) h
def DagOps (P:Program) (cx:Cx) (ops:List Oper) (σ ve:Env) (fz:FZ) (H:HP) (idx:List Nat) (V:Nat->Value->FZ->Prop) (A:List (Nat × Oper)):Prop:=
 ∀ p∈A,∀ cv fz1,Le fz fz1->(∀ j,lk cv j≠none->lk ve j=none)->(∀ j,waits p.2 j=true->inI idx j=true->∃ v,lk cv j=some v/\V j v fz1)->
  Ygb p.2 ve cv=some true/\Does P cx p.2 (rdc ops p.2 σ ve cv) fz1 H fun v fz' H'=>H'=H/\Le fz1 fz'/\V p.1 v fz'
theorem DagOps.nil {ops:List Oper} {ve:Env} {idx:List Nat} {V:Nat->Value->FZ->Prop} {A:List (Nat × Oper)} (hA:A=[]):DagOps P cx ops σ ve fz H idx V A:=by
 subst hA;intro p hp;cases hp
theorem DagOps.step {ops:List Oper} {ve:Env} {idx:List Nat} {V:Nat->Value->FZ->Prop} {A r:List (Nat × Oper)} {d:Nat} {op:Op} {ty:TypeId} {pos:String} {af:Array Edge} (hA:A=(i,⟨some d,op,ty,pos,af,none⟩)::r)
 (h:∀ cv fz1,Le fz fz1->(∀ j,lk cv j≠none->lk ve j=none)->(∀ j,waits ⟨some d,op,ty,pos,af,none⟩ j=true->inI idx j=true->∃ v,lk cv j=some v/\V j v fz1)->
  Does P cx ⟨some d,op,ty,pos,af,none⟩ (rdc ops ⟨some d,op,ty,pos,af,none⟩ σ ve cv) fz1 H fun v fz' H'=>H'=H/\Le fz1 fz'/\V i v fz') (hr:DagOps P cx ops σ ve fz H idx V r):DagOps P cx ops σ ve fz H idx V A:=by
 subst hA;intro p hp cv fz1 hle h2 hd;rcases List.mem_cons.1 hp with rfl | hp
 ·exact ⟨rfl,h cv fz1 hle h2 hd⟩
 exact hr p hp cv fz1 hle h2 hd
end
attribute [irreducible] DagOps
section
variable {P:Program} {cx:Cx} {σ:Env} {Q:QQ}
variable {ops:List Oper} {pu:List Nat} {ve:Env} {fz0:FZ} {Hq:HP} {all:List (Nat × Oper)}
variable {H:HP} {fz:FZ}
theorem Po.succ {m:Nat} {rest:List (Nat × Oper)} {dn:Bool} {cv τ:Env}:Po P cx ops pu σ ve fz0 Hq Q all (m+1) rest dn cv τ fz H↔∀ p∈rest,(rest.all fun q=>!waits p.2 q.1)=true->PoS P cx ops pu σ ve fz0 Hq Q all m (rest.filter fun q=>!Nat.beq q.1 p.1) dn cv τ fz H p.1 p.2:=by
 unfold Po PoS;exact Iff.rfl
end
end Go.Lx
namespace Go.Proofs.YtfjopfinkdhmaaaGreatDoor
open Go.Lx Go.RowKit
attribute [local instance 10] Classical.propDecidable
open Go.Proofs.Tryz (prog)
variable {fz:FZ}
set_option maxHeartbeats 8000000 in
theorem Yjh (hT:TabF fz) (hX:MaxF fz):QFn prog 5 [] fz (.bool true):=by
 have hpd:=pdom_q (fz:=fz) sD_R sD_sm hT;have hP:Ybt sD/\XVal (domX sD):=⟨sD_ok,Ymv⟩;rw [Yiy,if_pos hP,if_pos hP,lay_s,show errV 0=.nilIface from rfl] at hpd;refine GFn.quiet ?_;refine zF Tryz.func5 Tryz.ntmps5 (fun w0=>?_);refine wc hpd ?_;refine wK (q:=load_f (a:=kTxD) (b:=kTxP) hT hX) (h:=fun r1 fz1 H1 hle1 hR1=>?_);obtain ⟨rfl,hR1⟩:=hR1;rw [load_DP] at hR1;obtain ⟨d,p,cd1,cp1,pl1,hd1,hp1,rfl,rfl,rfl⟩:=hR1;rw [List.nil_append];obtain ⟨v1,v2,v3,v4,v5,v6,rfl,hD1⟩:=YcQ hd1;obtain ⟨w1,w2,w3,w4,w5,w6,w7,rfl,hP1⟩:=Ya1 hp1;have hD1':=hD1;have hP1':=hP1;obtain ⟨aD0,ad0,az0,rfl,_⟩:=hD1.types;obtain ⟨aD1,ad1,az1,rfl,_⟩:=hD1.constants;obtain ⟨aD2,ad2,az2,rfl,_⟩:=hD1.predicates;obtain ⟨aD3,ad3,az3,rfl,_⟩:=hD1.functions;obtain ⟨aD4,ad4,az4,rfl,_⟩:=hD1.actions;obtain ⟨aD5,ad5,az5,rfl,_⟩:=hD1.duratives;obtain ⟨aP0,ap0,ay0,rfl,_⟩:=hP1.objects;obtain ⟨aP1,ap1,ay1,rfl,_⟩:=hP1.init;obtain ⟨aP2,ap2,ay2,rfl,_⟩:=hP1.values;obtain ⟨aP3,ap3,ay3,rfl,_⟩:=hP1.goal.args;obtain ⟨aP4,ap4,ay4,rfl,_⟩:=hP1.goal.params;obtain ⟨aP5,ap5,ay5,rfl,_⟩:=hP1.goal.exprs;obtain ⟨aP6,ap6,ay6,rfl,_⟩:=hP1.goal.kids;refine zW ?_;intros;refine zC (fun e1=>?_) (fun e1=>?_);rotate_left 1
 ·exact absurd rfl e1
 refine wC (fun e2=>?_) (fun e2=>?_);rotate_left 1
 ·exact absurd rfl e2
 refine wC (fun e3=>?_) (fun e3=>?_);rotate_left 1
 ·exact absurd rfl e3
 refine wC (fun e4=>?_) (fun e4=>?_);rotate_left 1
 ·exact absurd rfl e4
 exact wR (h:=rfl)
variable {A B:Option Addr} {c n:Nat}
theorem YnH {m d:Nat} {l:List Bs} (h1:Sl strL fz A n c l) (h2:Sl strL fz B m d l):QFn prog 43 [.slice A n c,.slice B m d] fz (.bool true):=by
 have k1:=h1.len;have k2:=h2.len;have k3:=h1.short;subst k1 k2;refine GFn.quiet ?_;refine zF Tryz.func43 Tryz.ntmps43 (fun w0=>?_);refine zW ?_
 (((refine zC (fun c1=>?_) (fun c1=>?_));(exact absurd rfl c1);(refine zW ?_)));refine Ym (fun q σ fz' H'=>∃ k:Nat,k<=l.length/\q=l.length - k/\σ=[(5,Zk k),(0,.slice A l.length c),(1,.slice B l.length d)]/\fz=fz'/\H'=[]) ⟨0,Z0 _,rfl,rfl,rfl,rfl⟩ Zw Zb ?_;rintro q σ fz' H' ⟨k,hk,rfl,rfl,rfl,rfl⟩;refine wC (fun c2=>?_) (fun c2=>?_)
 ·obtain ⟨x,hx⟩:=Yl (l:=l) (k:=k) Zi;refine wI h1 hx (fun a ha=>?_);refine zH ha (fun sx=>?_);refine wI h2 hx (fun b hb=>?_);refine zH hb (fun sy=>?_);refine zW ?_
  (((refine zC (fun e1=>?_) (fun e1=>?_));(exact absurd rfl e1);(refine zW ?_)));exact wP (h:=by exact ⟨k+1,by omega,rfl,rfl,rfl,rfl⟩)
 exact wR (h:=rfl)
theorem etexts9 {m d:Nat} {l:List Bs} (h1:Sl strL fz A n c l) (h2:Sl strL fz B m d l):QFn prog 100 [.slice A n c,.slice B m d] fz (.bool true):=by
 have k1:=h1.len;have k2:=h2.len;have k3:=h1.short;subst k1 k2;refine GFn.quiet ?_;refine zF Tryz.func100 Tryz.ntmps100 (fun w0=>?_);refine zW ?_
 (((refine zC (fun c1=>?_) (fun c1=>?_));(exact absurd rfl c1);(refine zW ?_)));refine Ym (fun q σ fz' H'=>∃ k:Nat,k<=l.length/\q=l.length - k/\σ=[(5,Zk k),(0,.slice A l.length c),(1,.slice B l.length d)]/\fz=fz'/\H'=[]) ⟨0,Z0 _,rfl,rfl,rfl,rfl⟩ Zw Zb ?_;rintro q σ fz' H' ⟨k,hk,rfl,rfl,rfl,rfl⟩;refine wC (fun c2=>?_) (fun c2=>?_)
 ·obtain ⟨x,hx⟩:=Yl (l:=l) (k:=k) Zi;refine wI h1 hx (fun a ha=>?_);refine zH ha (fun sx=>?_);refine wI h2 hx (fun b hb=>?_);refine zH hb (fun sy=>?_);refine zW ?_
  (((refine zC (fun e1=>?_) (fun e1=>?_));(exact absurd rfl e1);(refine zW ?_)));exact wP (h:=by exact ⟨k+1,by omega,rfl,rfl,rfl,rfl⟩)
 exact wR (h:=rfl)
theorem YhL {m d:Nat} {l:List Param} (h1:Sl paramL fz A n c l) (h2:Sl paramL fz B m d l):QFn prog 18 [.slice A n c,.slice B m d] fz (.bool true):=by
 have k1:=h1.len;have k2:=h2.len;have k3:=h1.short;subst k1 k2;refine GFn.quiet ?_;refine zF Tryz.func18 Tryz.ntmps18 (fun w0=>?_);refine zW ?_
 (((refine zC (fun c1=>?_) (fun c1=>?_));(exact absurd rfl c1);(refine zW ?_)));refine Ym (fun q σ fz' H'=>∃ k:Nat,k<=l.length/\q=l.length - k/\σ=[(5,Zk k),(0,.slice A l.length c),(1,.slice B l.length d)]/\fz=fz'/\H'=[]) ⟨0,Z0 _,rfl,rfl,rfl,rfl⟩ Zw Zb ?_;rintro q σ fz' H' ⟨k,hk,rfl,rfl,rfl,rfl⟩;refine wC (fun c2=>?_) (fun c2=>?_)
 ·obtain ⟨x,hx⟩:=Yl (l:=l) (k:=k) Zi;refine wI h1 hx (fun ha0 ha=>?_)
  ((refine zL ha ?_;intro cs1 hcs1;obtain ⟨rfl,hR1⟩:=YR hcs1));refine wI h2 hx (fun hb0 hb=>?_)
  ((refine zL hb ?_;intro cs2 hcs2;obtain ⟨rfl,hR2⟩:=YR hcs2));refine zW ?_
  (((refine zG ?_);refine Yfn Zz Zz (fun e1=>?_) (fun e1=>?_)))
  ·exact absurd rfl e1
  exact wP (h:=by exact ⟨k+1,by omega,rfl,rfl,rfl,rfl⟩)
 exact wR (h:=rfl)
theorem YnP:∀ (s:Nat) {fz:FZ} {a:Lx.Expr} {va vk wa wk:Value},SizeOf.sizeOf a<=s->ExprR fz a va vk->ExprR fz a wa wk->
 QFn prog 44 [.agg #[.string a.op,.string a.name,Zk a.n,va,vk],.agg #[.string a.op,.string a.name,Zk a.n,wa,wk]] fz (.bool true)
 | 0,_,e,_,_,_,_,hs,_,_=>by cases e;simp at hs
 | s+1,fz,a,va,vk,wa,wk,hs,hR1,hR2=>by
  refine GFn.quiet ?_
  ((obtain ⟨A1,n1,c1',rfl,ia1⟩:=hR1.args;obtain ⟨A2,n2,c2',rfl,ik1⟩:=hR1.kids))
  ((obtain ⟨A3,n3,c3',rfl,ia2⟩:=hR2.args;obtain ⟨A4,n4,c4',rfl,ik2⟩:=hR2.kids));have k1:=ik1.len;have k2:=ik2.len;have k3:=ik1.short;subst k1 k2;refine zF Tryz.func44 Tryz.ntmps44 (fun w0=>?_);refine Yj (Yq (Ya Zz (Xb _ Zz Zz (fun g0=>?_))));refine Ya Zz (Xb _ Zz Zz (fun g1=>?_));refine zW ?_
  (((refine zC (fun e1=>?_) (fun e1=>?_));(exact absurd rfl e1);(refine zW ?_)))
  (((refine zC (fun e2=>?_) (fun e2=>?_));(exact absurd rfl e2);(refine zW ?_)))
  (((refine zC (fun e3=>?_) (fun e3=>?_));(exact absurd rfl e3);(refine zW ?_)));refine zc (YnH ia1 ia2) ?_;refine zW ?_
  (((refine zC (fun e4=>?_) (fun e4=>?_));(exact absurd rfl e4);(refine zW ?_)));refine Ym (fun q σ fz' H'=>∃ k:Nat,k<=a.kids.length/\q=a.kids.length - k/\σ=[(5,Zk k),(3,Zp g1),(2,Zp g0)]/\fz=fz'/\H'=[(g1,.cells #[.string a.op,.string a.name,Zk a.n,.slice A3 n3 c3',.slice A4 a.kids.length c4'] 120 (0,0)),(g0,.cells #[.string a.op,.string a.name,Zk a.n,.slice A1 n1 c1',.slice A2 a.kids.length c2'] 120 (0,0))]) ⟨0,Z0 _,rfl,rfl,rfl,rfl⟩ Zw Zb ?_;rintro q σ fz' H' ⟨k,hk,rfl,rfl,rfl,rfl⟩;refine wC (fun c2=>?_) (fun c2=>?_)
  ·obtain ⟨x,hx⟩:=Yl (l:=a.kids) (k:=k) Zi;have hlt:=Lx.Expr.kids_lt (Zm hx);refine wI ik1 hx (fun p hp=>?_);refine zL hp ?_;intro cs1 hcs1;obtain ⟨u1,u2,rfl,h3⟩:=YK hcs1;refine wI ik2 hx (fun p2 hp2=>?_);refine zL hp2 ?_;intro cs2 hcs2;obtain ⟨w1,w2,rfl,h4⟩:=YK hcs2;refine wG ?_;refine Yv Zz Zz (YnP s Zi h3 h4) ?_;exact wP (h:=by exact ⟨k+1,by omega,rfl,rfl,rfl,rfl⟩)
  exact wR (h:=rfl)
variable {va vk:Value}
theorem eexpr {a:Lx.Expr} {wa wk:Value} (h1:ExprR fz a va vk) (h2:ExprR fz a wa wk):
 QFn prog 44 [.agg #[.string a.op,.string a.name,Zk a.n,va,vk],.agg #[.string a.op,.string a.name,Zk a.n,wa,wk]] fz (.bool true):=YnP _ (Zs _) h1 h2
set_option maxHeartbeats 2000000 in
theorem YnN:∀ (s:Nat) {fz:FZ} {a:Formula} {v1 v2 v3 v4 w1 w2 w3 w4:Value},SizeOf.sizeOf a<=s->FormulaR fz a v1 v2 v3 v4->FormulaR fz a w1 w2 w3 w4->
 QFn prog 23 [.agg #[.string a.op,.string a.name,v1,v2,v3,v4],.agg #[.string a.op,.string a.name,w1,w2,w3,w4]] fz (.bool true)
 | 0,_,e,_,_,_,_,_,_,_,_,hs,_,_=>by cases e;simp at hs
 | s+1,fz,a,v1,v2,v3,v4,w1,w2,w3,w4,hs,hR1,hR2=>by
  refine GFn.quiet ?_
  ((obtain ⟨A1,n1,c1',rfl,ia1⟩:=hR1.args;obtain ⟨A2,n2,c2',rfl,ip1⟩:=hR1.params;obtain ⟨A3,n3,c3',rfl,ie1⟩:=hR1.exprs;obtain ⟨A4,n4,c4',rfl,ik1⟩:=hR1.kids))
  ((obtain ⟨A5,n5,c5',rfl,ia2⟩:=hR2.args;obtain ⟨A6,n6,c6',rfl,ip2⟩:=hR2.params;obtain ⟨A7,n7,c7',rfl,ie2⟩:=hR2.exprs;obtain ⟨A8,n8,c8',rfl,ik2⟩:=hR2.kids));have k1:=ie1.len;have k2:=ie2.len;have k3:=ie1.short;subst k1 k2;have k4:=ik1.len;have k5:=ik2.len;have k6:=ik1.short;subst k4 k5;refine zF Tryz.func23 Tryz.ntmps23 (fun w0=>?_);refine Yj (Yq (Ya Zz (Xb _ Zz Zz (fun g0=>?_))));refine Ya Zz (Xb _ Zz Zz (fun g1=>?_));refine zW ?_
  (((refine zC (fun e1=>?_) (fun e1=>?_));(exact absurd rfl e1);(refine zW ?_)))
  (((refine zC (fun e2=>?_) (fun e2=>?_));(exact absurd rfl e2);(refine zW ?_)));refine zc (YnH ia1 ia2) ?_;refine wc (YhL ip1 ip2) ?_;refine zW ?_
  (((refine zC (fun e4=>?_) (fun e4=>?_));(exact absurd rfl e4);(refine zW ?_)))
  (((refine zC (fun e5=>?_) (fun e5=>?_));(exact absurd rfl e5);(refine zW ?_)));refine Ym (fun q σ fz' H'=>∃ k:Nat,k<=a.exprs.length/\q=a.exprs.length - k/\σ=[(5,Zk k),(3,Zp g1),(2,Zp g0)]/\fz=fz'/\H'=[(g1,.cells #[.string a.op,.string a.name,.slice A5 n5 c5',.slice A6 n6 c6',.slice A7 a.exprs.length c7',.slice A8 a.kids.length c8'] 38 (0,0)),(g0,.cells #[.string a.op,.string a.name,.slice A1 n1 c1',.slice A2 n2 c2',.slice A3 a.exprs.length c3',.slice A4 a.kids.length c4'] 38 (0,0))]) ⟨0,Z0 _,rfl,rfl,rfl,rfl⟩ Zw Zb ?_;rintro q σ fz' H' ⟨k,hk,rfl,rfl,rfl,rfl⟩;refine wC (fun c2=>?_) (fun c2=>?_)
  ·obtain ⟨x,hx⟩:=Yl (l:=a.exprs) (k:=k) Zi;refine wI ie1 hx (fun p hp=>?_);refine zL hp ?_;intro cs1 hcs1;obtain ⟨u1,u2,rfl,h3⟩:=YK hcs1;refine wI ie2 hx (fun p2 hp2=>?_);refine zL hp2 ?_;intro cs2 hcs2;obtain ⟨y1,y2,rfl,h4⟩:=YK hcs2;refine wc (eexpr h3 h4) ?_;exact wP (h:=by exact ⟨k+1,by omega,rfl,rfl,rfl,rfl⟩)
  refine zW ?_;refine Ym (fun q σ fz' H'=>∃ k:Nat,k<=a.kids.length/\q=a.kids.length - k/\σ=[(6,Zk k),(3,Zp g1),(2,Zp g0)]/\fz=fz'/\H'=[(g1,.cells #[.string a.op,.string a.name,.slice A5 n5 c5',.slice A6 n6 c6',.slice A7 a.exprs.length c7',.slice A8 a.kids.length c8'] 38 (0,0)),(g0,.cells #[.string a.op,.string a.name,.slice A1 n1 c1',.slice A2 n2 c2',.slice A3 a.exprs.length c3',.slice A4 a.kids.length c4'] 38 (0,0))]) ⟨0,Z0 _,rfl,rfl,rfl,rfl⟩ Zw Zb ?_;rintro q σ fz' H' ⟨k,hk,rfl,rfl,rfl,rfl⟩;refine wC (fun c3=>?_) (fun c3=>?_)
  ·obtain ⟨x,hx⟩:=Yl (l:=a.kids) (k:=k) Zi;have hlt:=Formula.kids_lt (Zm hx);refine wI ik1 hx (fun p hp=>?_);refine zL hp ?_;intro cs1 hcs1;obtain ⟨u1,u2,u3,u4,rfl,h3⟩:=YA hcs1;refine wI ik2 hx (fun p2 hp2=>?_);refine zL hp2 ?_;intro cs2 hcs2;obtain ⟨y1,y2,y3,y4,rfl,h4⟩:=YA hcs2;refine wG ?_;refine Yv Zz Zz (YnN s Zi h3 h4) ?_;exact wP (h:=by exact ⟨k+1,by omega,rfl,rfl,rfl,rfl⟩)
  exact wR (h:=rfl)
variable {v1 v2 v3 v4 w1 w2 w3:Value}
theorem YlH {a:Formula} {w4:Value} (h1:FormulaR fz a v1 v2 v3 v4) (h2:FormulaR fz a w1 w2 w3 w4):
 QFn prog 23 [.agg #[.string a.op,.string a.name,v1,v2,v3,v4],.agg #[.string a.op,.string a.name,w1,w2,w3,w4]] fz (.bool true):=YnN _ (Zs _) h1 h2
end Go.Proofs.YtfjopfinkdhmaaaGreatDoor
namespace Go.Proofs.YtfjopfinkdhmaaaGreatDoor
open Go.Lx Go.RowKit
attribute [local instance 10] Classical.propDecidable
def ltB (a b:Bs):Bool:=Op.bytesLess a.toList b.toList
section
set_option linter.unusedSectionVars false
variable [Dr]
section
variable {P:Program} {cx:Cx} {r:Operand->Option Value} {fz:FZ} {H:HP} {V:Value->Prop} {dst:Option Nat} {ty:TypeId} {pos:String} {af:Array Edge} {gd:Option (Nat × Bool)}
variable {t:TypeId} {x y:Operand}
theorem Ygz {t':TypeId} {u v:Bs} (hx:r x=some (.string u)) (hy:r y=some (.string v)) (ht:ltB u v=true->V (.bool true)) (hf:ltB u v=false->V (.bool false)):DoesQ P cx ⟨dst,.binOp .lss t x y t',ty,pos,af,gd⟩ r fz H V:=
 YJ (v:=.bool (ltB u v)) (fun ρ w hr=>by
  simp [execOp,hr _ _ hx,hr _ _ hy,binOp,Op.stringOp,eqGuard,ltB]) (by
  cases h:ltB u v with
  | true=>exact ht h
  | false=>exact hf h)
theorem Ylu {t':TypeId} {u v:Bs} (hx:r x=some (.string u)) (hy:r y=some (.string v)) (ht:ltB u v=false->u≠v->V (.bool true)) (hf:ltB u v=true\/u=v->V (.bool false)):DoesQ P cx ⟨dst,.binOp .gtr t x y t',ty,pos,af,gd⟩ r fz H V:=
 YJ (v:=.bool (!(ltB u v || decide (u=v)))) (fun ρ w hr=>by
  simp [execOp,hr _ _ hx,hr _ _ hy,binOp,Op.stringOp,eqGuard,ltB,Yjx]) (by
  cases h:ltB u v with
  | true=>exact hf (.inl h)
  | false=>
   by_cases e:u=v
   ·rw [decide_eq_true e];exact hf (.inr e)
   rw [decide_eq_false e];exact ht h e)
end
end
end Go.Proofs.YtfjopfinkdhmaaaGreatDoor
namespace Go.Proofs.YtfjopfinkdhmaaaGreatDoor
open Go.Lx Go.RowKit
attribute [local instance 10] Classical.propDecidable
open Go.Proofs.Tryz (prog)
def cmpT:List Bs->List Bs->Int
 | [],l=> -(l.length:Int)
 | x::xs,[]=>((x::xs).length:Int)
 | x::xs,y::ys=>if ltB x y=true then -1 else if x=y then cmpT xs ys else 1
def cmpR (a b:Atom):Int:=if a.name=b.name then cmpT a.args b.args else if ltB a.name b.name=true then -1 else 1
theorem ltB_irr (a:Bs):ltB a a=false:=by
 cases h:ltB a a with
 | false=>rfl
 | true=>
  have:∀ l:List UInt8,Op.bytesLess l l=false:=fun l=>by
   induction l with
   | nil=>rfl
   | cons x r ih=>simp [Op.bytesLess,ih]
  unfold ltB at h;rw [this] at h;cases h
theorem Yjc:∀ (l l':List Bs),cmpT l l'=0↔l=l'
 | [],[]=>by simp [cmpT]
 | [],_::_=>by simp [cmpT];omega
 | _::_,[]=>by simp [cmpT];omega
 | x::xs,y::ys=>by
  rw [cmpT];by_cases h:x=y
  ·subst h;rw [if_neg (by rw [ltB_irr];decide),if_pos rfl,Yjc xs ys];simp
  rw [if_neg h];constructor
  ·intro h1;split at h1<;>simp at h1
  intro h1;exact absurd (List.cons.inj h1).1 h
theorem Yn1 (a b:Atom):cmpR a b=0↔a=b:=by
 unfold cmpR;by_cases h:a.name=b.name
 ·rw [if_pos h,Yjc];cases a;cases b;simp at h ⊢;simp [h]
 rw [if_neg h];constructor
 ·intro h1;split at h1<;>simp at h1
 intro h1;exact absurd (by rw [h1]) h
variable {fz:FZ} {va vb:Value}
theorem rcmp_q {a b:Atom} (ha:AtomR fz a va) (hb:AtomR fz b vb):QFn prog 42 [.agg #[.string a.name,va],.agg #[.string b.name,vb]] fz (Zk (cmpR a b)):=by
 obtain ⟨A,n,c,rfl,ia⟩:=ha.args;obtain ⟨B,m,d,rfl,ib⟩:=hb.args;have la:=ia.len;have lb:=ib.len;have sa:=ia.short;have sb:=ib.short;refine GFn.quiet ?_;refine zF Tryz.func42 Tryz.ntmps42 (fun w0=>?_);refine Yj (Yq (Ya Zz (Xb _ Zz Zz (fun g0=>?_))));refine Ya Zz (Xb _ Zz Zz (fun g1=>?_));refine wC (fun c1=>?_) (fun c1=>?_)
 ·refine wG ?_;refine Ygz Zz Zz (fun h1=>?_) (fun h1=>?_)
  ·exact wR (h:=by rw [cmpR,if_neg c1,if_pos h1])
  exact wR (h:=by rw [cmpR,if_neg c1,if_neg (by rw [h1];decide)])
 have hv:cmpR a b=cmpT a.args b.args:=by rw [cmpR,if_pos c1]
 refine zW ?_;refine Ym (fun q σ fz' H'=>∃ k:Nat,k<=n/\q=n - k/\σ=[(5,Zk k),(3,Zp g1),(2,Zp g0)]/\fz=fz'/\H'=[(g1,.cells #[.string b.name,.slice B m d] 114 (0,0)),(g0,.cells #[.string a.name,.slice A n c] 114 (0,0))]/\k<=m/\cmpT (a.args.drop k) (b.args.drop k)=cmpT a.args b.args) ⟨0,Z0 _,rfl,rfl,rfl,rfl,⟨Z0 _,rfl⟩⟩ Zw Zb ?_;rintro q σ fz' H' ⟨k,hk,rfl,rfl,rfl,rfl,hh⟩;obtain ⟨hkm,hcm⟩:=hh;refine wC (fun c2=>?_) (fun c2=>?_)
 ·obtain ⟨x,hx⟩:=Yl (l:=a.args) (k:=k) Zi;have ex:a.args.drop k=x::a.args.drop (k+1):=by
   obtain ⟨h1,h2⟩:=Zg hx;rw [<- h2];exact List.drop_eq_getElem_cons h1
  refine wC (fun c3=>?_) (fun c3=>?_)
  ·obtain ⟨y,hy⟩:=Yl (l:=b.args) (k:=k) Zi;have ey:b.args.drop k=y::b.args.drop (k+1):=by
    obtain ⟨h1,h2⟩:=Zg hy;rw [<- h2];exact List.drop_eq_getElem_cons h1
   rw [ex,ey] at hcm;refine wI ia hx (fun p1 hp1=>?_);refine zH hp1 (fun hs1=>?_);refine wI ib hy (fun p2 hp2=>?_);refine zH hp2 (fun hs2=>?_);refine wG ?_;refine Ygz Zz Zz (fun h1=>?_) (fun h1=>?_)
   ·exact wR (h:=by rw [hv,<- hcm,cmpT,if_pos h1])
   refine wI ia hx (fun p3 hp3=>?_);refine zH hp3 (fun hs3=>?_);refine wI ib hy (fun p4 hp4=>?_);refine zH hp4 (fun hs4=>?_);refine wG ?_;refine Ylu Zz Zz (fun h2 h3=>?_) (fun h2=>?_)
   ·exact wR (h:=by rw [hv,<- hcm,cmpT,if_neg (by rw [h1];decide),if_neg h3])
   have h3:x=y:=h2.resolve_left (by rw [h1];decide);refine zW ?_;refine WO ⟨k+1,by omega,rfl,rfl,rfl,rfl,by omega,?_⟩ Zi Zw Zb;rw [<- hcm,cmpT,if_neg (by rw [h1];decide),if_pos h3]
  have ey:b.args.drop k=[]:=List.drop_eq_nil_of_le Zi;have hkm2:k=m:=by omega
  rw [ex,ey,cmpT,<- ex,List.length_drop] at hcm;exact wR (h:=by rw [hv,<- hcm];exact congrArg (Value.int .i64) Zi)
 have hk2:k=n:=by omega
 subst hk2;rw [List.drop_eq_nil_of_le Zi,cmpT,List.length_drop] at hcm;exact wR (h:=by rw [hv,<- hcm];exact congrArg (Value.int .i64) Zi)
end Go.Proofs.YtfjopfinkdhmaaaGreatDoor
namespace Go.Proofs.YtfjopfinkdhmaaaGreatDoor
open Go.Lx Go.RowKit
attribute [local instance 10] Classical.propDecidable
end Go.Proofs.YtfjopfinkdhmaaaGreatDoor
