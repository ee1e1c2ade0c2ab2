/- The texts RL, RM, RN, RO, RP, laid together. Conditions: none. -/
import Derived.Test.YtiligkgjcmokbaaGreatDoorKST
set_option linter.all false
set_option maxHeartbeats 16000000
noncomputable section
set_option maxRecDepth 20000
namespace Go.Proofs.YtiligkgjcmokbaaGreatDoor
open Go.Lx Go.RowKit
attribute [local instance 10] Classical.propDecidable
open Go.Proofs.Tryz (prog)
variable {α:Type} {A:Option Addr} {c n:Nat} {f:Formula} {vk v1 v2 v3 v4 v5 v6 v7 v:Value} {s:Bs} {H:HP} {cs:List Value} {l:List α} {L:Lay α}
def OpQ (w:Bs):Prop:=w=kForall\/w=YaA
def OpB (w:Bs):Prop:=w=kNot\/w=YpS\/w=kAnd\/w=kOr
def OpC (w:Bs):Prop:=w=kEq\/w=kLt\/w=kLe\/w=kGt\/w=kGe
def Yhg (P:Sexpr->Except Int Formula) (w:Bs) (r:List Sexpr):Except Int Formula:=
 if OpQ w then match r with
  | []=>.error 2
  | y::r'=>if y.kind≠3 then .error 2 else match parM true y.kids [] [] with
   | .error c=>.error c
   | .ok ps=>match mapE P r' with
    | .error c=>.error c
    | .ok ks=>.ok (.mk w ⟨#[]⟩ [] ps [] ks)
 else if OpB w then match mapE P r with
  | .error c=>.error c
  | .ok ks=>.ok (.mk w ⟨#[]⟩ [] [] [] ks)
 else if OpC w then match r with
  | [y,z]=>cmpM w y z
  | _=>.error 2
 else if Xc w then match Ybk r with
  | .error c=>.error c
  | .ok a=>.ok (.mk kAtom w a [] [] [])
 else .error 8
section
variable {P:Sexpr->Except Int Formula} {w:Bs} {r:List Sexpr} {y z:Sexpr}
theorem formB_Q (h:OpQ w):Yhg P w (y::r)=if y.kind≠3 then .error 2 else match parM true y.kids [] [] with
 | .error c=>.error c
 | .ok ps=>match mapE P r with
  | .error c=>.error c
  | .ok ks=>.ok (.mk w ⟨#[]⟩ [] ps [] ks):=by unfold Yhg;rw [if_pos h]
theorem formB_B (h0:¬OpQ w) (h:OpB w):Yhg P w r=match mapE P r with
 | .error c=>.error c
 | .ok ks=>.ok (.mk w ⟨#[]⟩ [] [] [] ks):=by unfold Yhg;rw [if_neg h0,if_pos h]
theorem formB_C (h0:¬OpQ w) (h1:¬OpB w) (h:OpC w):Yhg P w [y,z]=cmpM w y z:=by unfold Yhg;rw [if_neg h0,if_neg h1,if_pos h]
theorem formB_N (h0:¬OpQ w) (h1:¬OpB w) (h2:¬OpC w):Yhg P w r=if Xc w then match Ybk r with
 | .error c=>.error c
 | .ok a=>.ok (.mk kAtom w a [] [] [])
 else .error 8:=by unfold Yhg;rw [if_neg h0,if_neg h1,if_neg h2]
end
def Yb0:Nat->Sexpr->Except Int Formula
 | 0,_=>.error 2
 | d+1,x=>if x.kind=3/\x.kids=[] then .ok (.mk kAnd ⟨#[]⟩ [] [] [] []) else match XP x with
  | none=>.error 2
  | some (w,r)=>if 0<=cntM w/\cntM w≠r.length then .error 2 else Yhg (Yb0 d) w r
theorem YgX {d:Nat} {x:Sexpr}:Yb0 (d+1) x=if x.kind=3/\x.kids=[] then .ok (.mk kAnd ⟨#[]⟩ [] [] [] []) else match XP x with
 | none=>.error 2
 | some (w,r)=>if 0<=cntM w/\cntM w≠r.length then .error 2 else Yhg (Yb0 d) w r:=rfl
def ParseW (d:Nat):Prop:=∀ (fz:FZ) (x:Sexpr) (vk:Value),SizeOf.sizeOf x<=d->XSm x->YT fz x vk->
 GFn prog 285 [.agg #[Zk x.kind,Zk x.value,Zk x.line,Zk x.column,Zy x.text,vk]] fz [] (fun r fz' H'=>H'=[]/\ResL YK fz' (Yb0 d x) r)
theorem kids_f {d:Nat} (ih:ParseW d) {fz:FZ} {l:List Sexpr} (h:Sl YE fz A n c l) (hn:n<=1000000) (hz:∀ y∈l,SizeOf.sizeOf y<=d/\XSm y):
 GFn prog 310 [Zc A n c] fz [] (fun r fz' H'=>H'=[]/\ResS YK fz' (mapE (Yb0 d) l) r):=by
 have hl:=h.len;refine zF Tryz.func310 Tryz.ntmps310 (fun w0=>?_);refine zW ?_;refine Yi (fun q σ fz' H'=>∃ (k:Nat) (v:Value) (Hs:HP) (out:List Formula),k<=n/\q=n - k/\σ=[(11,Zk k),(10,Zk n),(9,Zc A n c),(4,v)]/\Le fz fz'/\H'=Hs/\Grow YK 35 fz' v k Hs out/\mapE (Yb0 d) l=exA out (mapE (Yb0 d) (l.drop k))) ⟨0,_,[],[],Z0 _,rfl,rfl,Zd,rfl,Grow.nil _ _ _,by rw [YdL];rfl⟩ Zw Zb ?_;rintro q σ fz' H' ⟨k,v,Hs,out,hk,rfl,rfl,hle,rfl,hG,hM⟩;obtain ⟨Av,cv,rfl,_,_⟩:=hG.form;refine wC ?_ ?_<;>intro c1
 ·obtain ⟨y,hy⟩:=Ye (l:=l) (k:=k) Zi;have hyz:=hz y (Zm hy);refine wI (h.mono hle) hy (fun p hp=>?_);refine zL hp ?_;intro cs hcs;obtain ⟨vy,rfl,hRy⟩:=Yf hcs;obtain ⟨Ay,ny,cy,rfl,iy⟩:=hRy.kids;refine zW ?_;intros;rename_i g6;refine wK (q:=ih _ _ _ hyz.1 hyz.2 hRy) (h:=fun r2 fz2 H2 hle2 hR2=>?_);obtain ⟨rfl,de,cs2,hr2,hR2⟩:=hR2;obtain ⟨v1,v2,v3,v4,rfl,hE2⟩:=Yv hr2;obtain ⟨⟨A1,n1,b1,rfl,j1⟩,⟨A2,n2,b2,rfl,j2⟩,⟨A3,n3,b3,rfl,j3⟩,⟨A4,n4,b4,rfl,j4⟩⟩:=hE2.sls;cases hx:Yb0 d y with
  | error c'=>
   rw [hx] at hR2;obtain ⟨rfl,hc⟩:=hR2;have hm:=Ygs hy hM hx;rw [Yg hc];refine zW ?_;intros;exact wS (h:=by exact ⟨rfl,by rw [hm];exact ⟨by rw [Yg hc];rfl,hc⟩⟩)
  | ok z=>
   rw [hx] at hR2;obtain ⟨rfl,rfl⟩:=hR2;have hm:=Yjb hy hM hx;refine zW ?_;intros;rename_i g7;refine Ya (Yb (cs:=[Zy z.op,Zy z.name,Zc A1 n1 b1,Zc A2 n2 b2,Zc A3 n3 b3,Zc A4 n4 b4]) (fun gb=>?_));refine Ya (YN (d:=z) (cs:=[Zy z.op,Zy z.name,Zc A1 n1 b1,Zc A2 n2 b2,Zc A3 n3 b3,Zc A4 n4 b4]) (Hr:=(gb,_)::(g7,_):: [(g6,_)]) (Zr _) (hG.mono hle2) Ye1 (.head _) hr2 (fun v' Hs' hG'=>?_));exact wP (h:=by exact ⟨k+1,v',Hs',out++ [z],by omega,rfl,rfl,hle.trans hle2,rfl,hG',hm⟩)
 have hm:=Ygt hM;refine zW ?_;refine YlG rfl rfl rfl (fun fz3 hle3 hf3=>⟨rfl,?_⟩);obtain ⟨A1,c1',hv1,hS1⟩:=hG.sl hle3 hf3 Zi;injection hv1 with hv1 hv2 hv3
 subst hv1 hv3;rw [hm];exact ⟨_,_,_,rfl,hS1⟩
def FrmR (fz:FZ) (m:Except Int Formula) (ev:Value) (cs:List Value):Prop:=
 (∃ a1 a2 A1 n1 c1 A2 n2 c2 A3 n3 c3 A4 n4 c4,cs=[Zy a1,Zy a2,Zc A1 n1 c1,Zc A2 n2 c2,Zc A3 n3 c3,Zc A4 n4 c4])/\
 ((∃ c,c≠0/\m=.error c/\ev=.iface 89 (Zk c))\/∃ f,m=.ok f/\ev=.nilIface/\YK.rep fz f cs)
theorem fparse_f (d:Nat):ParseW d:=by
 induction d with
 | zero=>intro fz x vk hz _ _;cases x;simp at hz
 | succ d ih=>
  intro fz x vk hz hs hR;obtain ⟨A,n,c,rfl,ik⟩:=hR.kids;have hl:=ik.len;have hM:=YgX (d:=d) (x:=x);refine zF Tryz.func285 Tryz.ntmps285 (fun w0=>?_);refine zWX ?_;refine Yr ?_;refine zWX ?_;intros;rename_i g1 g2;refine Yr ?_;refine Yr (YY (fun σ fz' H'=>∃ bb:Bool,σ=[(18,Zo bb),(2,Zp g2),(1,Zp g1)]/\fz=fz'/\H'=[(g2,Zu #[Ze,Ze,Zn,Zn,Zn,Zn] 35),(g1,Zu #[Zk x.kind,Zk x.value,Zk x.line,Zk x.column,Zy x.text,Zc A n c] 86)]/\(bb=true↔x.kind=3/\x.kids=[])) ?_ ?_)
  ·refine zW ?_;refine zC ?_ ?_<;>intro c1
   ·refine zW ?_;refine zC ?_ ?_<;>intro c2
    ·refine zW ?_;exact midN ⟨true,rfl,rfl,rfl,iff_of_true rfl ⟨c1,List.eq_nil_of_length_eq_zero Zi⟩⟩ Zw Zb
    refine zW ?_;exact midN ⟨false,rfl,rfl,rfl,iff_of_false Zh (fun h=>c2 (by rw [h.2] at hl;simp at hl;omega))⟩ Zw Zb
   refine zW ?_;exact midN ⟨false,rfl,rfl,rfl,iff_of_false Zh (fun h=>c1 h.1)⟩ Zw Zb
  rintro σ fz' H' ⟨bb,rfl,rfl,rfl,hb⟩;cases bb with
  | true=>
   rw [if_pos (hb.1 rfl)] at hM;refine zW ?_;exact YS T (vs:=[.agg #[Zy kAnd,Ze,Zn,Zn,Zn,Zn],.nilIface]) ⟨⟨_,_,0,_,_,_,rfl,rfl,rfl,rfl,rfl,rfl⟩,rfl,trivial⟩ (fun fz3 hle3 hf3=>⟨rfl,XQ hM (Ybh (by unfold Short;decide) Wc IsSl.nil IsSl.nil IsSl.nil IsSl.nil)⟩)
  | false=>
   rw [if_neg (fun h=>absurd (hb.2 h) Zh)] at hM;refine zW ?_;refine Ya (Ym [] _ Zz (head_f hR) (fun r1 fz1 H1 hle1 hR1=>?_));obtain ⟨rfl,rfl,hR1⟩:=hR1;unfold YeB at hR1;cases hh:XP x with
   | none=>
    rw [hh] at hR1 hM;subst hR1;refine zW ?_;exact YS T (vs:=[.agg #[Ze,Ze,Zn,Zn,Zn,Zn],.iface 89 (Zk 2)]) ⟨⟨_,_,0,_,_,_,rfl,rfl,rfl,rfl,rfl,rfl⟩,rfl,trivial⟩ (fun fz3 hle3 hf3=>⟨rfl,YA hM Zh Ybd⟩)
   | some wr=>
    obtain ⟨w,r⟩:=wr;rw [hh] at hR1 hM;obtain ⟨A',n',c',rfl,ir,hw⟩:=hR1;simp only at hM;have hrl:=ir.len;have hrs:=WU hs hh;have hrz:∀ y∈r,SizeOf.sizeOf y<=d/\XSm y:=fun y hy=>⟨by have:=Yl6 hh hy;omega,Ww hs hh hy⟩
    refine zW ?_;refine zc (count_q (w:=w)) ?_;refine zWX ?_;refine Yr (YY (fun σ fz' H'=>∃ bb:Bool,σ=[(39,Zo bb),(5,Zc A' n' c'),(4,Zy w),(2,Zp g2)]/\fz1=fz'/\H'=[(g2,Zu #[Ze,Ze,Zn,Zn,Zn,Zn] 35)]/\(bb=true↔0<=cntM w/\cntM w≠r.length)) ?_ ?_)
    ·refine zW ?_;refine zC ?_ ?_<;>intro c3
     ·refine zW ?_;refine zC ?_ ?_<;>intro c4
      ·refine zW ?_;exact midN ⟨true,rfl,rfl,rfl,iff_of_true rfl ⟨c3,by rw [hrl];exact c4⟩⟩ Zw Zb
      refine zW ?_;exact midN ⟨false,rfl,rfl,rfl,iff_of_false Zh (fun h=>h.2 (by rw [hrl];exact c4))⟩ Zw Zb
     refine zW ?_;exact midN ⟨false,rfl,rfl,rfl,iff_of_false Zh (fun h=>c3 h.1)⟩ Zw Zb
    rintro σ fz' H' ⟨bb,rfl,rfl,rfl,hb39⟩;cases bb with
    | true=>
     rw [if_pos (hb39.1 rfl)] at hM;refine zW ?_;exact YS T (vs:=[.agg #[Ze,Ze,Zn,Zn,Zn,Zn],.iface 89 (Zk 2)]) ⟨⟨_,_,0,_,_,_,rfl,rfl,rfl,rfl,rfl,rfl⟩,rfl,trivial⟩ (fun fz3 hle3 hf3=>⟨rfl,YA hM Zh Ybd⟩)
    | false=>
     have hcnt:¬(0<=cntM w/\cntM w≠r.length):=fun h=>absurd (hb39.2 h) Zh
     rw [if_neg hcnt] at hM;have two:Cnt2 w->¬w=kNot->∃ y z,r=[y,z]:=fun h1 h2=>by
      unfold cntM at hcnt;rw [if_neg h2,if_pos h1] at hcnt;have h3:r.length=2:=by omega
      match r,h3 with
      | [y,z],_=>exact ⟨y,z,rfl⟩
     refine zWX ?_;refine Yr ?_;refine zWX ?_;intros;rename_i g8;refine Yr ?_;refine zWX ?_;refine Yr (YY (fun σ fz' H'=>∃ ev cs,σ=[(9,ev),(8,Zp g8),(2,Zp g2)]/\Le fz1 fz'/\H'=[(g8,Zu (List.toArray cs) 35),(g2,Zu #[Ze,Ze,Zn,Zn,Zn,Zn] 35)]/\FrmR fz' (Yb0 (d+1) x) ev cs) ?_ ?_)
     ·refine zWX ?_;refine Yr ?_;refine zWX ?_;refine Yr (YY (fun σ fz' H'=>∃ bb:Bool,σ=[(59,Zo bb),(44,Zy w),(9,.nilIface),(8,Zp g8),(5,Zc A' n' c'),(4,Zy w),(2,Zp g2)]/\fz1=fz'/\H'=[(g8,Zu #[Zy w,Ze,Zn,Zn,Zn,Zn] 35),(g2,Zu #[Ze,Ze,Zn,Zn,Zn,Zn] 35)]/\(bb=true↔OpQ w)) ?_ ?_)
      ·refine zW ?_;refine zC ?_ ?_<;>intro c5
       ·refine zW ?_;exact midN ⟨true,rfl,rfl,rfl,iff_of_true rfl (.inl c5)⟩ Zw Zb
       refine zW ?_;refine zC ?_ ?_<;>intro c6
       ·refine zW ?_;exact midN ⟨true,rfl,rfl,rfl,iff_of_true rfl (.inr c6)⟩ Zw Zb
       refine zW ?_;exact midN ⟨false,rfl,rfl,rfl,iff_of_false Zh (fun h=>h.elim c5 c6)⟩ Zw Zb
      rintro σ fz' H' ⟨bb,rfl,rfl,rfl,hbQ⟩;cases bb with
      | true=>
       have hQ:=hbQ.1 rfl;obtain ⟨y,z,rfl⟩:=two (by rcases hQ with h | h;exact .inr (.inl h);exact .inr (.inr (.inl h))) (by rcases hQ with rfl | rfl<;>exact fun h=>absurd (congrArg ByteArray.size h) Zh);simp only [List.length_cons,List.length_nil] at hrl;rw [formB_Q hQ] at hM;have hy0: [y,z][0]?=some y:=rfl;refine zW ?_;refine zI ir hy0 (fun p hp=>?_);refine zW ?_
       ((refine zG ?_);refine Xz T Zz Zz Zz hp.Sexpr_kind (fun i1=>?_));refine zC ?_ ?_<;>intro c7
       ·rw [if_pos c7] at hM;refine zW ?_;exact YS T (vs:=[.agg #[Ze,Ze,Zn,Zn,Zn,Zn],.iface 89 (Zk 2)]) ⟨⟨_,_,1,_,_,_,rfl,rfl,rfl,rfl,rfl,rfl⟩,rfl,trivial⟩ (fun fz3 hle3 hf3=>⟨rfl,YA hM Zh Ybd⟩)
       rw [if_neg (Classical.not_not.2 c7)] at hM;have hys:=(hrz y (by simp)).2;have hyl:y.kids.length<=1000000:=(Xe.1 hys).1;refine zW ?_;refine zI ir hy0 (fun p2 hp2=>?_);refine zW ?_
       ((refine zG ?_);refine YbX hp2.Sexpr_kids (fun Ay ny cy iy=>?_));have hyn:=iy.len;refine Ya (Ym [] _ Zz (Ybn (b:=true) iy) (fun r2 fz2 H2 hle2 hR2=>?_));obtain ⟨rfl,hR2⟩:=hR2;cases hps:parM true y.kids [] [] with
       | error c1=>
        rw [hps] at hM hR2;obtain ⟨rfl,hc⟩:=hR2;rw [Yg hc];refine zW ?_;exact midN ⟨_,_,rfl,hle2,rfl,⟨_,_,_,_,_,_,_,_,_,_,_,_,_,_,rfl⟩,.inl ⟨c1,hc,hM,rfl⟩⟩ Zw Zb
       | ok ps=>
        rw [hps] at hM hR2;obtain ⟨A3,n3,c3,rfl,ia⟩:=hR2;simp only at hM;refine zW ?_;refine zG ?_;refine Xy (j:=1) (ir.mono hle2) (fun A4 hA4=>?_);refine Ya (Ym [] _ Zz (kids_f ih hA4 Zi (fun k hk=>hrz k (List.mem_of_mem_drop hk))) (fun r5 fz5 H5 hle5 hR5=>?_));obtain ⟨rfl,hR5⟩:=hR5;have hdr: [y,z].drop 1=[z]:=rfl;rw [hdr] at hR5;cases hks:mapE (Yb0 d) [z] with
        | error c1=>
         rw [hks] at hM hR5;obtain ⟨rfl,hc⟩:=hR5;rw [Yg hc];refine zW ?_;exact midN ⟨_,_,rfl,hle2.trans hle5,rfl,⟨_,_,_,_,_,_,_,_,_,_,_,_,_,_,rfl⟩,.inl ⟨c1,hc,hM,rfl⟩⟩ Zw Zb
        | ok ks=>
         rw [hks] at hM hR5;obtain ⟨A6,n6,c6,rfl,ik6⟩:=hR5;refine zW ?_;exact midN ⟨_,_,rfl,hle2.trans hle5,rfl,⟨_,_,_,_,_,_,_,_,_,_,_,_,_,_,rfl⟩,.inr ⟨_,hM,rfl,Ybh hw Wc IsSl.nil ⟨_,_,_,rfl,ia.mono hle5⟩ IsSl.nil ⟨_,_,_,rfl,ik6⟩⟩⟩ Zw Zb
      | false=>
       have hQ:¬OpQ w:=fun h=>absurd (hbQ.2 h) Zh
       refine zWX ?_;refine Yr (YY (fun σ fz' H'=>∃ bb:Bool,σ=[(87,Zo bb),(44,Zy w),(9,.nilIface),(8,Zp g8),(5,Zc A' n' c'),(4,Zy w),(2,Zp g2)]/\fz1=fz'/\H'=[(g8,Zu #[Zy w,Ze,Zn,Zn,Zn,Zn] 35),(g2,Zu #[Ze,Ze,Zn,Zn,Zn,Zn] 35)]/\(bb=true↔OpB w)) ?_ ?_)
       ·refine zW ?_;refine zC ?_ ?_<;>intro c5
        ·refine zW ?_;exact midN ⟨true,rfl,rfl,rfl,iff_of_true rfl (.inl c5)⟩ Zw Zb
        refine zW ?_;refine zC ?_ ?_<;>intro c6
        ·refine zW ?_;exact midN ⟨true,rfl,rfl,rfl,iff_of_true rfl (.inr (.inl c6))⟩ Zw Zb
        refine zW ?_;refine zC ?_ ?_<;>intro c7
        ·refine zW ?_;exact midN ⟨true,rfl,rfl,rfl,iff_of_true rfl (.inr (.inr (.inl c7)))⟩ Zw Zb
        refine zW ?_;refine zC ?_ ?_<;>intro c8
        ·refine zW ?_;exact midN ⟨true,rfl,rfl,rfl,iff_of_true rfl (.inr (.inr (.inr c8)))⟩ Zw Zb
        refine zW ?_;exact midN ⟨false,rfl,rfl,rfl,iff_of_false Zh (fun h=>by rcases h with h | h | h | h;exact c5 h;exact c6 h;exact c7 h;exact c8 h)⟩ Zw Zb
       rintro σ fz' H' ⟨bb,rfl,rfl,rfl,hbB⟩;cases bb with
       | true=>
        rw [formB_B hQ (hbB.1 rfl)] at hM;refine zW ?_;refine Ya (Ym [] _ Zz (kids_f ih ir Zi hrz) (fun r5 fz5 H5 hle5 hR5=>?_));obtain ⟨rfl,hR5⟩:=hR5;cases hks:mapE (Yb0 d) r with
        | error c1=>
         rw [hks] at hM hR5;obtain ⟨rfl,hc⟩:=hR5;rw [Yg hc];refine zW ?_;exact midN ⟨_,_,rfl,hle5,rfl,⟨_,_,_,_,_,_,_,_,_,_,_,_,_,_,rfl⟩,.inl ⟨c1,hc,hM,rfl⟩⟩ Zw Zb
        | ok ks=>
         rw [hks] at hM hR5;obtain ⟨A6,n6,c6,rfl,ik6⟩:=hR5;refine zW ?_;exact midN ⟨_,_,rfl,hle5,rfl,⟨_,_,_,_,_,_,_,_,_,_,_,_,_,_,rfl⟩,.inr ⟨_,hM,rfl,Ybh hw Wc IsSl.nil IsSl.nil IsSl.nil ⟨_,_,_,rfl,ik6⟩⟩⟩ Zw Zb
       | false=>
        have hB:¬OpB w:=fun h=>absurd (hbB.2 h) Zh
        refine zWX ?_;refine Yr (YY (fun σ fz' H'=>∃ bb:Bool,σ=[(98,Zo bb),(44,Zy w),(9,.nilIface),(8,Zp g8),(5,Zc A' n' c'),(4,Zy w),(2,Zp g2)]/\fz1=fz'/\H'=[(g8,Zu #[Zy w,Ze,Zn,Zn,Zn,Zn] 35),(g2,Zu #[Ze,Ze,Zn,Zn,Zn,Zn] 35)]/\(bb=true↔OpC w)) ?_ ?_)
        ·refine zW ?_;refine zC ?_ ?_<;>intro c5
         ·refine zW ?_;exact midN ⟨true,rfl,rfl,rfl,iff_of_true rfl (.inl c5)⟩ Zw Zb
         refine zW ?_;refine zC ?_ ?_<;>intro c6
         ·refine zW ?_;exact midN ⟨true,rfl,rfl,rfl,iff_of_true rfl (.inr (.inl c6))⟩ Zw Zb
         refine zW ?_;refine zC ?_ ?_<;>intro c7
         ·refine zW ?_;exact midN ⟨true,rfl,rfl,rfl,iff_of_true rfl (.inr (.inr (.inl c7)))⟩ Zw Zb
         refine zW ?_;refine zC ?_ ?_<;>intro c8
         ·refine zW ?_;exact midN ⟨true,rfl,rfl,rfl,iff_of_true rfl (.inr (.inr (.inr (.inl c8))))⟩ Zw Zb
         refine zW ?_;refine zC ?_ ?_<;>intro c9
         ·refine zW ?_;exact midN ⟨true,rfl,rfl,rfl,iff_of_true rfl (.inr (.inr (.inr (.inr c9))))⟩ Zw Zb
         refine zW ?_;exact midN ⟨false,rfl,rfl,rfl,iff_of_false Zh (fun h=>by rcases h with h | h | h | h | h;exact c5 h;exact c6 h;exact c7 h;exact c8 h;exact c9 h)⟩ Zw Zb
        rintro σ fz' H' ⟨bb,rfl,rfl,rfl,hbC⟩;cases bb with
        | true=>
         have hC:=hbC.1 rfl;obtain ⟨y,z,rfl⟩:=two (by rcases hC with h | h | h | h | h;exact .inr (.inr (.inr (.inl h)));exact .inr (.inr (.inr (.inr (.inl h))));exact .inr (.inr (.inr (.inr (.inr (.inl h)))));exact .inr (.inr (.inr (.inr (.inr (.inr (.inl h))))));exact .inr (.inr (.inr (.inr (.inr (.inr (.inr h))))))) (by rcases hC with rfl | rfl | rfl | rfl | rfl<;>exact fun h=>absurd (congrArg ByteArray.size h) Zh);simp only [List.length_cons,List.length_nil] at hrl;rw [formB_C hQ hB hC] at hM;have hy0: [y,z][0]?=some y:=rfl;have hz1: [y,z][1]?=some z:=rfl;refine zWX ?_;refine WP [] [_,_] ?_;refine zW ?_;refine zI ir hy0 (fun p hp=>?_);refine zL hp ?_;intro cs hcs;obtain ⟨vy,rfl,hRy⟩:=Yf hcs;refine zW ?_;refine zI ir hz1 (fun p2 hp2=>?_);refine zL hp2 ?_;intro cs2 hcs2;obtain ⟨vz,rfl,hRz⟩:=Yf hcs2;refine pT ?_;refine Yh ?_;refine Yd (Ym [] [_,_] Zz (Yoc hw (hrz y (by simp)).2 (hrz z (by simp)).2 hRy hRz) (fun r4 fz4 H4 hle4 hR4=>?_));obtain ⟨rfl,f4,cs4,hr4,hR4⟩:=hR4;obtain ⟨v1,v2,v3,v4,rfl,hE4⟩:=Yv hr4;obtain ⟨⟨B1,m1,d1,rfl,j1⟩,⟨B2,m2,d2,rfl,j2⟩,⟨B3,m3,d3,rfl,j3⟩,⟨B4,m4,d4,rfl,j4⟩⟩:=hE4.sls;obtain ⟨ev,rfl,hF⟩:∃ ev,r4=.tuple #[.agg #[Zy f4.op,Zy f4.name,Zc B1 m1 d1,Zc B2 m2 d2,Zc B3 m3 d3,Zc B4 m4 d4],ev]/\FrmR fz4 (Yb0 (d+1) x) ev [Zy f4.op,Zy f4.name,Zc B1 m1 d1,Zc B2 m2 d2,Zc B3 m3 d3,Zc B4 m4 d4]:=by
          rw [hM];cases hc4:cmpM w y z with
          | error c1=>
           rw [hc4] at hR4;exact ⟨_,hR4.1,⟨_,_,_,_,_,_,_,_,_,_,_,_,_,_,rfl⟩,.inl ⟨c1,hR4.2,rfl,Yg hR4.2⟩⟩
          | ok f5=>
           rw [hc4] at hR4;exact ⟨_,hR4.2,⟨_,_,_,_,_,_,_,_,_,_,_,_,_,_,rfl⟩,.inr ⟨f5,rfl,rfl,hR4.1 ▸ hr4⟩⟩
         refine ⟨⟨hle4,Zp2⟩,?_⟩;refine Yh ?_;refine PoS.qk ⟨hle4,Zp2⟩ (XC ?_);refine XD ?_ ?_
         ·refine PoS.qk ⟨hle4,Zp2⟩ (Wl ?_);refine XD ?_ ?_
          ·refine PoS.qk ⟨hle4,Zp2⟩ (Wl ?_);refine Yh ?_;refine PoS.hard0 (YG ?_);refine pD ?_;refine zW ?_;exact midN ⟨_,_,rfl,hle4,rfl,hF⟩ Zw Zb
          refine PoS.hard0 (YG ?_);refine Yh ?_;refine PoS.hard (DoesQ.does (Wl ?_));refine pD ?_;refine zW ?_;exact midN ⟨_,_,rfl,hle4,rfl,hF⟩ Zw Zb
         refine PoS.qk ⟨hle4,Zp2⟩ (Wl ?_);refine Yh ?_;refine PoS.qk ⟨hle4,Zp2⟩ (Wl ?_);refine Yh ?_;refine PoS.hard0 (YG ?_);refine pD ?_;refine zW ?_;exact midN ⟨_,_,rfl,hle4,rfl,hF⟩ Zw Zb
        | false=>
         rw [formB_N hQ hB (fun h=>absurd (hbC.2 h) Zh)] at hM;refine zW ?_;refine zb (WN hw) (fun f1=>?_) (fun f1=>?_)
         ·rw [if_pos (Zt f1)] at hM;refine zW ?_;refine Ya (Ym [] _ Zz (Ylz ir Zi) (fun r2 fz2 H2 hle2 hR2=>?_));obtain ⟨rfl,hR2⟩:=hR2;cases ht:Ybk r with
          | error c1=>
           rw [ht] at hM hR2;obtain ⟨rfl,hc⟩:=hR2;rw [Yg hc];refine zW ?_;exact midN ⟨_,_,rfl,hle2,rfl,⟨_,_,_,_,_,_,_,_,_,_,_,_,_,_,rfl⟩,.inl ⟨c1,hc,hM,rfl⟩⟩ Zw Zb
          | ok a=>
           rw [ht] at hM hR2;obtain ⟨A6,n6,c6,rfl,ia⟩:=hR2;exact wN (h:=by exact ⟨_,_,rfl,hle2,rfl,⟨_,_,_,_,_,_,_,_,_,_,_,_,_,_,rfl⟩,.inr ⟨_,hM,rfl,Ybh (by unfold Short;decide) hw ⟨_,_,_,rfl,ia⟩ IsSl.nil IsSl.nil IsSl.nil⟩⟩)
         rw [if_neg (Zf f1)] at hM;refine zW ?_;exact YS T (vs:=[.agg #[Ze,Ze,Zn,Zn,Zn,Zn],.iface 89 (Zk 8)]) ⟨⟨_,_,1,_,_,_,rfl,rfl,rfl,rfl,rfl,rfl⟩,rfl,trivial⟩ (fun fz3 hle3 hf3=>⟨rfl,YA hM Zh Ybd⟩)
     rintro σ fz' H' ⟨ev,cs,rfl,hle,rfl,⟨a1,a2,B1,m1,d1,B2,m2,d2,B3,m3,d3,B4,m4,d4,rfl⟩,hF⟩;rcases hF with ⟨c1,hc,hm,rfl⟩ | ⟨f,hm,rfl,hr⟩
     ·refine zW ?_;exact YS T (vs:=[.agg #[Ze,Ze,Zn,Zn,Zn,Zn],.iface 89 (Zk c1)]) ⟨⟨_,_,1,_,_,_,rfl,rfl,rfl,rfl,rfl,rfl⟩,rfl,trivial⟩ (fun fz3 hle3 hf3=>⟨rfl,YA hm hc Ybd⟩)
     refine zW ?_;exact YS T (vs:=[.agg #[Zy a1,Zy a2,Zc B1 m1 d1,Zc B2 m2 d2,Zc B3 m3 d3,Zc B4 m4 d4],.nilIface]) ⟨⟨_,_,1,_,_,_,rfl,rfl,rfl,rfl,rfl,rfl⟩,rfl,trivial⟩ (fun fz3 hle3 hf3=>⟨rfl,XQ hm (YK.mono hle3 hr)⟩)
theorem Yk6 {o:List α} {x:Except Int (List α)} (h:exA o x=.ok l):∃ r,x=.ok r/\l=o++r:=by
 cases x with
 | error c=>cases h
 | ok r=>injection h with h;exact ⟨r,rfl,h.symm⟩
theorem YeH:∀ {l:List Sexpr} {a:List Bs},Ybk l=.ok a->a.length=l.length
 | [],a,h=>by rw [Ybk] at h;injection h with h;subst h;rfl
 | x::r,a,h=>by
  rw [Ybk] at h;split at h
  ·cases h
  split at h
  ·cases h
  obtain ⟨b,h1,rfl⟩:=Yk6 h;rw [List.length_append,YeH h1,List.length_cons,List.length_cons,List.length_nil];omega
theorem Yd2 {α β:Type} {f:α->Except Int β}:∀ {l:List α} {a:List β},mapE f l=.ok a->a.length=l.length/\∀ z∈a,∃ y∈l,f y=.ok z
 | [],a,h=>by rw [mapE] at h;injection h with h;subst h;exact ⟨rfl,fun z hz=>by cases hz⟩
 | x::r,a,h=>by
  rw [mapE] at h;split at h
  ·cases h
  rename_i y hy;obtain ⟨b,h1,rfl⟩:=Yk6 h;obtain ⟨h2,h3⟩:=Yd2 h1;refine ⟨by rw [List.length_append,h2,List.length_cons,List.length_cons,List.length_nil];omega,fun z hz=>?_⟩;rcases List.mem_append.1 hz with hz | hz
  ·simp at hz;subst hz;exact ⟨x,by simp,hy⟩
  obtain ⟨u,h4,h5⟩:=h3 z hz;exact ⟨u,List.mem_cons_of_mem _ h4,h5⟩
theorem Yfw {b:Bool}:∀ {l:List Sexpr} {done:List Param} {opn:List Bs} {a:List Param},parM b l done opn=.ok a->a.length<=done.length+opn.length+l.length
 | [],done,opn,a,h=>by rw [parM] at h;injection h with h;subst h;simp [parT]
 | x::r,done,opn,a,h=>by
  rw [Yku] at h;split at h
  ·cases h
  split at h
  ·split at h
   ·cases h
   have:=Yfw h;rw [List.length_append,List.length_singleton] at this;rw [List.length_cons];omega
  match r,h with
  | [],h=>cases h
  | y::r',h=>
   simp only at h;split at h
   ·cases h
   split at h
   ·cases h
   have:=Yfw h;rw [List.length_append] at this;simp only [parT,List.length_map,List.length_nil] at this;simp only [List.length_cons];omega
theorem xsm_of:∀ (s:Nat) {x:Sexpr},SizeOf.sizeOf x<=s->xcount x<=4096->XSm x
 | 0,x,h,_=>by cases x;simp at h
 | s+1,x,h,hc=>by
  have e:=Xj x;have:=Wt (l:=x.kids);refine Xe.2 ⟨by show x.kids.length<=1000000;omega,fun k hk=>?_⟩;have:=Sexpr.kids_lt hk;have:=Wg hk;exact xsm_of s Zi Zi
theorem XVal.sm {x:Sexpr} (h:XVal x):XSm x:=xsm_of _ (Zs _) h.2.2
theorem YeP:∀ (d:Nat) {x:Sexpr} {e:Lx.Expr},XSm x->YeQ d x=.ok e->ESm e
 | 0,x,e,_,h=>by cases h
 | d+1,x,e,hs,h=>by
  rw [YgY] at h;split at h
  ·injection h with h;subst h;exact YaN.2 ⟨by show 0<=_;omega,fun k hk=>by cases hk⟩
  split at h
  ·cases h
  rename_i w r hh;have hl:=WU hs hh;split at h
  ·split at h
   ·cases h
   split at h
   ·cases h
   rename_i l hm;injection h with h
   subst h;obtain ⟨_,h2⟩:=Yd2 hm;refine YaN.2 ⟨by show 0<=_;omega,fun k hk=>?_⟩;obtain ⟨y,h3,h4⟩:=h2 k hk;exact YeP d (Ww hs hh h3) h4
  split at h
  ·split at h
   ·cases h
   rename_i a hm;injection h with h
   subst h;refine YaN.2 ⟨by show a.length<=_;rw [YeH hm];omega,fun k hk=>by cases hk⟩
  cases h
theorem cmp_sm {w:Bs} {y z:Sexpr} (hy:XSm y) (hz:XSm z) (h:cmpM w y z=.ok f):FSm f:=by
 unfold cmpM at h;split at h
 ·split at h
  ·cases h
  rename_i a hm;injection h with h
  subst h;have:=YeH hm;exact WV.2 ⟨⟨by show a.length<=_;rw [this,List.length_cons,List.length_cons,List.length_nil];omega,by show 0<=_;omega,by show 0<=_;omega⟩,fun e he=>(by cases he),fun k hk=>by cases hk⟩
 split at h
 ·cases h
 rename_i a ha;split at h
 ·cases h
 rename_i b hb;injection h with h
 have h1:=YeP _ hy ha;have h2:=YeP _ hz hb;have key:∀ (v:Bs) (l:List Lx.Expr),(∀ e∈l,ESm e)->FSm (.mk v ⟨#[]⟩ [] [] l []):=fun v l hl=>WV.2 ⟨⟨by show 0<=_;omega,by show 0<=_;omega,by show 0<=_;omega⟩,hl,fun k hk=>by cases hk⟩
 unfold cmpF2 at h;split at h
 ·subst h;exact key _ _ (by intro e he;simp at he;rcases he with rfl | rfl;exact h2;exact h1)
 split at h
 ·subst h;exact key _ _ (by intro e he;simp at he;rcases he with rfl | rfl;exact h2;exact h1)
 subst h;exact key _ _ (by intro e he;simp at he;rcases he with rfl | rfl;exact h1;exact h2)
theorem Ygq:∀ (d:Nat) {x:Sexpr} {f:Formula},XSm x->Yb0 d x=.ok f->FSm f
 | 0,x,f,_,h=>by cases h
 | d+1,x,f,hs,h=>by
  have zero:∀ (w v:Bs) (a:List Bs) (p:List Param) (k:List Formula),a.length<=1000000->p.length<=1000000->k.length<=1000000->(∀ y∈k,FSm y)->FSm (.mk w v a p [] k):=fun w v a p k h1 h2 h3 h4=>WV.2 ⟨⟨by show a.length<=_;omega,by show p.length<=_;omega,by show k.length<=_;omega⟩,fun e he=>(by cases he),h4⟩
  rw [YgX] at h;split at h
  ·injection h with h;subst h;exact zero _ _ _ _ _ Zh Zh Zh (fun y hy=>by cases hy)
  split at h
  ·cases h
  rename_i w r hh;have hl:=WU hs hh;split at h
  ·cases h
  unfold Yhg at h;split at h
  ·split at h
   ·cases h
   rename_i y r' _;split at h
   ·cases h
   split at h
   ·cases h
   rename_i ps hp;split at h
   ·cases h
   rename_i ks hk;injection h with h
   subst h;obtain ⟨h1,h2⟩:=Yd2 hk;have h3:=Yfw hp;have h4:=(Xe.1 (Ww hs hh (y:=y) (by simp))).1;unfold XSmN at h4;rw [List.length_cons] at hl;refine zero _ _ _ _ _ Zh (by simpa using Nat.le_trans h3 (by simpa using h4)) Zi (fun u hu=>?_);obtain ⟨v,h5,h6⟩:=h2 u hu;exact Ygq d (Ww hs hh (List.mem_cons_of_mem _ h5)) h6
  split at h
  ·split at h
   ·cases h
   rename_i ks hk;injection h with h
   subst h;obtain ⟨h1,h2⟩:=Yd2 hk;refine zero _ _ _ _ _ Zh Zh Zi (fun u hu=>?_);obtain ⟨v,h5,h6⟩:=h2 u hu;exact Ygq d (Ww hs hh h5) h6
  split at h
  ·split at h
   ·rename_i y z;exact cmp_sm (Ww hs hh (by simp)) (Ww hs hh (by simp)) h
   cases h
  split at h
  ·split at h
   ·cases h
   rename_i a ha;injection h with h
   subst h;exact zero _ _ _ _ _ (by rw [YeH ha];omega) Zh Zh (fun y hy=>by cases hy)
  cases h
def pForm (x:Sexpr):Except Int Formula:=Yb0 (SizeOf.sizeOf x) x
def YaF (x:Sexpr):Except Int Formula:=if XVal x then match pForm x with
 | .error c=>.error c
 | .ok f=>if FVal f then .ok f else .error 5
 else .error 2
def YgW (x:Sexpr):Except Int Lx.Expr:=if XVal x then match YhS x with
 | .error c=>.error c
 | .ok e=>if EVal e then .ok e else .error 5
 else .error 2
theorem Yd4 {fz:FZ} {x:Sexpr} (hR:YT fz x vk):
 GFn prog 245 [.agg #[Zk x.kind,Zk x.value,Zk x.line,Zk x.column,Zy x.text,vk]] fz [] (fun r fz' H'=>H'=[]/\ResL YK fz' (YaF x) r):=by
 obtain ⟨A,n,c,rfl,ik⟩:=hR.kids;have hM:YaF x=if XVal x then match pForm x with
  | .error c=>.error c
  | .ok f=>if FVal f then .ok f else .error 5
 else .error 2:=rfl
 refine zF Tryz.func245 Tryz.ntmps245 (fun w0=>?_);refine zW ?_;intros;refine zb (Yat hR) (fun f1=>?_) (fun f1=>?_)
 ·have hv:=Zt f1;rw [if_pos hv] at hM;refine wK (q:=fparse_f _ _ _ _ (Zs _) hv.sm hR) (h:=fun r4 fz4 H4 hle4 hR4=>?_);obtain ⟨rfl,f4,cs4,hr4,hR4⟩:=hR4;obtain ⟨v1,v2,v3,v4,rfl,hE4⟩:=Yv hr4;obtain ⟨⟨B1,m1,d1,rfl,j1⟩,⟨B2,m2,d2,rfl,j2⟩,⟨B3,m3,d3,rfl,j3⟩,⟨B4,m4,d4,rfl,j4⟩⟩:=hE4.sls;cases hp:Yb0 (SizeOf.sizeOf x) x with
  | error c1=>
   rw [hp] at hR4;rw [show pForm x=.error c1 from hp] at hM;obtain ⟨rfl,hc⟩:=hR4;rw [Yg hc];refine zW ?_;intros;exact YS T (vs:=[.agg #[Ze,Ze,Zn,Zn,Zn,Zn],.iface 89 (Zk c1)]) ⟨⟨_,_,1,_,_,_,rfl,rfl,rfl,rfl,rfl,rfl⟩,rfl,trivial⟩ (fun fz3 hle3 hf3=>⟨rfl,YA hM hc Ybd⟩)
  | ok f=>
   rw [hp] at hR4;rw [show pForm x=.ok f from hp] at hM;obtain ⟨rfl,rfl⟩:=hR4;simp only at hM;refine zW ?_;intros
   ((refine zG ?_);refine WJ (Ynm hE4 (Ygq _ hv.sm hp)) (fun f2=>?_) (fun f2=>?_))
   ·rw [if_pos (Zt f2)] at hM;refine zW ?_;exact YS T (vs:=[.agg #[Zy f.op,Zy f.name,Zc B1 m1 d1,Zc B2 m2 d2,Zc B3 m3 d3,Zc B4 m4 d4],.nilIface]) ⟨⟨_,_,1,_,_,_,rfl,rfl,rfl,rfl,rfl,rfl⟩,rfl,trivial⟩ (fun fz3 hle3 hf3=>⟨rfl,XQ hM (YK.mono hle3 hr4)⟩)
   rw [if_neg (Zf f2)] at hM;refine zW ?_;exact YS T (vs:=[.agg #[Ze,Ze,Zn,Zn,Zn,Zn],.iface 89 (Zk 5)]) ⟨⟨_,_,1,_,_,_,rfl,rfl,rfl,rfl,rfl,rfl⟩,rfl,trivial⟩ (fun fz3 hle3 hf3=>⟨rfl,YA hM Zh Ybd⟩)
 rw [if_neg (Zf f1)] at hM;refine zW ?_;exact YS T (vs:=[.agg #[Ze,Ze,Zn,Zn,Zn,Zn],.iface 89 (Zk 2)]) ⟨⟨_,_,0,_,_,_,rfl,rfl,rfl,rfl,rfl,rfl⟩,rfl,trivial⟩ (fun fz3 hle3 hf3=>⟨rfl,YA hM Zh Ybd⟩)
theorem eParse_f {fz:FZ} {x:Sexpr} (hR:YT fz x vk):
 GFn prog 327 [.agg #[Zk x.kind,Zk x.value,Zk x.line,Zk x.column,Zy x.text,vk]] fz [] (fun r fz' H'=>H'=[]/\ResL exprL fz' (YgW x) r):=by
 obtain ⟨A,n,c,rfl,ik⟩:=hR.kids;have hM:YgW x=if XVal x then match YhS x with
  | .error c=>.error c
  | .ok f=>if EVal f then .ok f else .error 5
 else .error 2:=rfl
 refine zF Tryz.func327 Tryz.ntmps327 (fun w0=>?_);refine zW ?_;intros;refine zb (Yat hR) (fun f1=>?_) (fun f1=>?_)
 ·have hv:=Zt f1;rw [if_pos hv] at hM;refine wK (q:=YlR hv.sm hR) (h:=fun r4 fz4 H4 hle4 hR4=>?_);obtain ⟨rfl,f4,cs4,hr4,hR4⟩:=hR4;obtain ⟨v1,v2,rfl,hE4⟩:=YD hr4;obtain ⟨⟨B1,m1,d1,rfl,j1⟩,⟨B2,m2,d2,rfl,j2⟩⟩:=hE4.sls;cases hp:YhS x with
  | error c1=>
   rw [hp] at hR4 hM;obtain ⟨rfl,hc⟩:=hR4;rw [Yg hc];refine zW ?_;intros;exact YS T (vs:=[.agg #[Ze,Ze,Zk 0,Zn,Zn],.iface 89 (Zk c1)]) ⟨⟨_,_,1,_,_,_,rfl,rfl,rfl,rfl,rfl,rfl⟩,rfl,trivial⟩ (fun fz3 hle3 hf3=>⟨rfl,YA hM hc YbB⟩)
  | ok f=>
   rw [hp] at hR4 hM;obtain ⟨rfl,rfl⟩:=hR4;simp only at hM;refine zW ?_;intros
   ((refine zG ?_);refine WJ (Ynx hE4 (YeP _ hv.sm hp)) (fun f2=>?_) (fun f2=>?_))
   ·rw [if_pos (Zt f2)] at hM;refine zW ?_;exact YS T (vs:=[.agg #[Zy f.op,Zy f.name,Zk f.n,Zc B1 m1 d1,Zc B2 m2 d2],.nilIface]) ⟨⟨_,_,1,_,_,_,rfl,rfl,rfl,rfl,rfl,rfl⟩,rfl,trivial⟩ (fun fz3 hle3 hf3=>⟨rfl,XQ hM (exprL.mono hle3 hr4)⟩)
   rw [if_neg (Zf f2)] at hM;refine zW ?_;exact YS T (vs:=[.agg #[Ze,Ze,Zk 0,Zn,Zn],.iface 89 (Zk 5)]) ⟨⟨_,_,1,_,_,_,rfl,rfl,rfl,rfl,rfl,rfl⟩,rfl,trivial⟩ (fun fz3 hle3 hf3=>⟨rfl,YA hM Zh YbB⟩)
 rw [if_neg (Zf f1)] at hM;refine zW ?_;exact YS T (vs:=[.agg #[Ze,Ze,Zk 0,Zn,Zn],.iface 89 (Zk 2)]) ⟨⟨_,_,0,_,_,_,rfl,rfl,rfl,rfl,rfl,rfl⟩,rfl,trivial⟩ (fun fz3 hle3 hf3=>⟨rfl,YA hM Zh YbB⟩)
theorem YeY {fz:FZ} {k v l c:Int}:QFn prog 177 [.agg #[Zk k,Zk v,Zk l,Zk c,Zy s,vk]] fz (Zo (decide (k=1))):=by
 refine qF Tryz.func177 Tryz.ntmps177 (fun w0=>?_);refine zW ?_;intros;refine zC ?_ ?_<;>intro c1
 ·exact wR (h:=by exact Yu c1)
 exact wR (h:=by exact Yl c1)
theorem Ydh {fz:FZ} {x:Sexpr} (h:YT fz x vk):QFn prog 117 [.agg #[Zk x.kind,Zk x.value,Zk x.line,Zk x.column,Zy x.text,vk]] fz (Zo (XP x).isSome):=by
 obtain ⟨A,n,c,rfl,ik⟩:=h.kids;have hl:=ik.len;refine qF Tryz.func117 Tryz.ntmps117 (fun w0=>?_);refine zW ?_;intros;refine zC ?_ ?_<;>intro c1
 ·refine wC ?_ ?_<;>intro c2
  ·obtain ⟨w,r,hk⟩:∃ w r,x.kids=w::r:=by
    cases hx:x.kids with
    | nil=>rw [hx] at hl;simp at hl;omega
    | cons w r=>exact ⟨w,r,rfl⟩
   have hk0:x.kids[0]?=some w:=by rw [hk];rfl
   refine wI ik hk0 (fun p hp=>?_);refine zL hp ?_;intro cs hcs;obtain ⟨vw,rfl,hw⟩:=Yf hcs;refine zb YeY (fun f1=>?_) (fun f1=>?_)
   ·have:=Zt f1;exact wR (h:=by unfold XP;rw [hk];simp only;rw [if_pos ⟨c1,this⟩];rfl)
   have:=Zf f1;exact wR (h:=by unfold XP;rw [hk];simp only;rw [if_neg (fun h=>this h.2)];rfl)
  have hk:x.kids=[]:=List.eq_nil_of_length_eq_zero Zi;exact wR (h:=by unfold XP;rw [hk];rfl)
 exact wR (h:=by unfold XP;split;rfl;rw [if_neg (fun h=>c1 h.1)];rfl)
def Ycz (x:Sexpr):Except Int (Bs × List Bs):=match XP x with
 | none=>.error 2
 | some (w,r)=>if Xc w then match Ybk r with
  | .error c=>.error c
  | .ok a=>.ok (w,a)
  else .error 8
def AtmV (fz:FZ) (m:Except Int (Bs × List Bs)) (v:Value):Prop:=match m with
 | .error c=>v=.tuple #[.string ⟨#[]⟩,.slice none 0 0,.iface 89 (.int .i64 c)]/\c≠0
 | .ok (w,a)=>∃ A n c,v=.tuple #[.string w,.slice A n c,.nilIface]/\Sl strL fz A n c a/\Short w
theorem Yme {fz:FZ} {x:Sexpr} (hs:XSm x) (h:YT fz x vk):
 GFn prog 317 [.agg #[Zk x.kind,Zk x.value,Zk x.line,Zk x.column,Zy x.text,vk]] fz [] (fun r fz' H'=>H'=[]/\AtmV fz' (Ycz x) r):=by
 obtain ⟨A,n,c,rfl,ik⟩:=h.kids;have hl:=ik.len;have hM:Ycz x=match XP x with
 | none=>.error 2
 | some (w,r)=>if Xc w then match Ybk r with
  | .error c=>.error c
  | .ok a=>.ok (w,a)
  else .error 8:=rfl
 have bad:∀ c,c≠0->Ycz x=.error c->∀ fz',AtmV fz' (Ycz x) (.tuple #[Ze,Zn,.iface 89 (Zk c)]):=fun c hc e fz'=>by rw [e];exact ⟨rfl,hc⟩
 have hbeg:=Ydh h;refine zF Tryz.func317 Tryz.ntmps317 (fun w0=>?_);refine zW ?_;intros;cases hh:XP x with
 | none=>
  rw [hh] at hM hbeg;refine zc hbeg ?_;refine zW ?_;exact YS T (vs:=[Ze,Zn,.iface 89 (Zk 2)]) ⟨rfl,rfl,rfl,trivial⟩ (fun fz3 hle3 hf3=>⟨rfl,bad 2 Zh hM _⟩)
 | some wr=>
  obtain ⟨w,r⟩:=wr;rw [hh] at hM hbeg;simp only at hM;obtain ⟨y,hk,rfl,hk3,hk1⟩:=XW hh;have hrs:=WU hs hh;have hk0:x.kids[0]?=some y:=by rw [hk];rfl
  rw [hk,List.length_cons] at hl;refine zc hbeg ?_;refine wI ik hk0 (fun p hp=>?_);refine wH hp.Sexpr_text (fun hst=>?_);refine wb (WN hst) (fun f1=>?_) (fun f1=>?_)
  ·rw [if_pos (Zt f1)] at hM;refine wG ?_;refine Xy (j:=1) ik (fun A' hA'=>?_);rw [hk,List.drop_one,List.tail_cons] at hA';refine zW ?_;rename_i g1;refine Yi (fun q σ fz' H'=>∃ (k:Nat) (v:Value) (Hs:HP) (out:List Bs),k<=n - 1/\q=n - 1 - k/\σ=[(24,Zk k),(23,Zk (n - 1:Nat)),(22,Zc A' (n - 1) (c - 1)),(5,v),(1,Zp g1)]/\fz=fz'/\H'=(g1,Zu #[Zk x.kind,Zk x.value,Zk x.line,Zk x.column,Zy x.text,Zc A n c] 86)::Hs/\Grow strL 9 fz v k Hs out/\Ybk r=exA out (Ybk (r.drop k))) ⟨0,_,[],[],Z0 _,rfl,rfl,rfl,rfl,Grow.nil _ _ _,by rw [YdL];rfl⟩ Zw Zb ?_;rintro q σ fz' H' ⟨k,v,Hs,out,hkn,rfl,rfl,rfl,rfl,hG,hT⟩;obtain ⟨Av,cv,rfl,_,_⟩:=hG.form;refine wC ?_ ?_<;>intro c1
   ·obtain ⟨z,hz⟩:=Ye (l:=r) (k:=k) Zi;rw [Ycn hz,Ybk] at hT;refine wI hA' hz (fun p2 hp2=>?_);refine zL hp2 ?_;intro cs hcs;obtain ⟨vz,rfl,hRz⟩:=Yf hcs;obtain ⟨Az,nz,cz,rfl,iz⟩:=hRz.kids;refine zW ?_;intros;rename_i g7;refine zb YeY (fun f2=>?_) (fun f2=>?_)
    ·rw [if_neg (Classical.not_not.2 (Zt f2))] at hT;refine wb (Yqt hRz.text) (fun f3=>?_) (fun f3=>?_)
     ·rw [if_neg (Classical.not_not.2 (Zt f3)),Yhn] at hT;refine zW ?_;refine Ya (Yb (cs:=[Zy z.text]) (fun gb=>?_));refine Ya (YN (d:=z.text) (cs:=[Zy z.text]) (Hr:=[(gb,_),(g7,_),(g1,_)]) (Zr _) hG YdW (.head _) ⟨rfl,hRz.text⟩ (fun v' Hs' hG'=>?_));exact wP (h:=by exact ⟨k+1,v',Hs',out++ [z.text],by omega,rfl,rfl,rfl,rfl,hG',hT⟩)
     rw [if_pos (Zf f3)] at hT;rw [show Ybk r=.error 8 from hT] at hM;refine zW ?_;exact YS T (vs:=[Ze,Zn,.iface 89 (Zk 8)]) ⟨rfl,rfl,rfl,trivial⟩ (fun fz3 hle3 hf3=>⟨rfl,bad 8 Zh hM _⟩)
    rw [if_pos (Zf f2)] at hT;rw [show Ybk r=.error 2 from hT] at hM;refine zW ?_;exact YS T (vs:=[Ze,Zn,.iface 89 (Zk 2)]) ⟨rfl,rfl,rfl,trivial⟩ (fun fz3 hle3 hf3=>⟨rfl,bad 2 Zh hM _⟩)
   rw [List.drop_eq_nil_of_le Zi,Ybk,exA,List.append_nil] at hT;rw [hT] at hM;refine wI ik hk0 (fun p4 hp4=>?_);refine wH hp4.Sexpr_text (fun hst4=>?_);refine zW ?_;refine YS T (vs:=[Zy y.text,Zc Av k cv,.nilIface]) ⟨rfl,rfl,rfl,trivial⟩ (fun fz3 hle3 hf3=>⟨rfl,?_⟩);obtain ⟨A1,c1',hv1,hS1⟩:=hG.sl hle3 (fun p hp=>hf3 p (by simp [hp])) Zi;injection hv1 with hv1 hv2 hv3
   subst hv1 hv3;rw [hM];exact ⟨_,_,_,rfl,hS1,hst⟩
  rw [if_neg (Zf f1)] at hM;refine zW ?_;exact YS T (vs:=[Ze,Zn,.iface 89 (Zk 8)]) ⟨rfl,rfl,rfl,trivial⟩ (fun fz3 hle3 hf3=>⟨rfl,bad 8 Zh hM _⟩)
def YeU (w:Bs):Int:=if w=Yeq then 3 else if w=Yb2 then 4 else if w=Yb3 then 5 else 0
theorem kinds_q {fz:FZ} {w:Bs}:QFn prog 313 [Zy w] fz (Zk (YeU w)):=by
 refine qF Tryz.func313 Tryz.ntmps313 (fun w0=>?_);refine wC ?_ ?_<;>intro c0
 ·exact wR (h:=by rw [YeU,if_pos (show w=Yeq from c0)])
 have n0:¬w=Yeq:=c0;refine wC ?_ ?_<;>intro c1
 ·exact wR (h:=by rw [YeU,if_neg n0,if_pos (show w=Yb2 from c1)])
 have n1:¬w=Yb2:=c1;refine wC ?_ ?_<;>intro c2
 ·exact wR (h:=by rw [YeU,if_neg n0,if_neg n1,if_pos (show w=Yb3 from c2)])
 exact wR (h:=by rw [YeU,if_neg n0,if_neg n1,if_neg (show ¬w=Yb3 from c2)])
theorem YhA {fz:FZ} {l:List Formula} (h:Sl YK fz A n c l) (hn:n<=1000000000):
 GFn prog 57 [Zc A n c] fz [] (fun v fz' H'=>Grow YK 35 fz' v n H' l):=by
 have l1:=h.len;refine zF Tryz.func57 Tryz.ntmps57 (fun w0=>?_);refine vG ?_;refine WI (fun eA=>?_) (fun eA=>?_)
 ·subst eA;have hl:l=[]:=by
   rcases h.elem with h0 | ⟨_,h0,_⟩
   ·exact List.eq_nil_of_length_eq_zero Zi
   cases h0
  subst hl;simp at l1;subst l1;refine zV ?_;refine Yel (H':=[]) (H2:=[]) rfl rfl (Zr _) (fun fz3 hle3 _=>Grow.nil _ _ _)
 refine zV ?_;refine Ya (W7 (fun gb=>?_));refine zV ?_;refine Ya (WZ T (Hr:=[]) (n:=0) (l:=[]) Zz Zz Zz Zz Zz Zz Zz Zz (Zr _) (Grow.block (ys:=[]) rfl rfl (by intro p hp;cases hp) rfl) Ye1 h (by show _*128<=_;omega) Zi (fun v' Hs' hO'=>?_));obtain ⟨Av',cv',rfl,_,_⟩:=hO'.form;refine zV ?_;refine Yel (H':=Hs') (H2:=[]) rfl rfl (by simp) (fun fz3 hle3 _=>(hO'.mono hle3).of (by simp) Zi)
def whenM:List Formula->Formula
 | []=>XV
 | [f]=>f
 | f::g::r=>.mk kAnd ⟨#[]⟩ [] [] [] (f::g::r)
def chgM (ps:List Param) (ws:List Formula) (kind:Int) (name:Bs) (args:List Bs) (e:Lx.Expr):Change:=⟨kind,ps,whenM ws,name,args,e⟩
theorem Ymn {fz:FZ} {ps:List Param} {w u:Bs} {a1:List Bs} {p1:List Param} {e1:List Lx.Expr} {k1:List Formula} {kind:Int} {name:Bs} {args:List Bs} {e:Lx.Expr} {v8:Value}
 (h1:I64 kind) (h2:IsSl paramL fz v1 ps) (h3:FormulaR fz (.mk w u a1 p1 e1 k1) v2 v3 v4 v5) (h4:Short name) (h5:IsSl strL fz v6 args) (h6:ExprR fz e v7 v8):
 changeL.rep fz ⟨kind,ps,.mk w u a1 p1 e1 k1,name,args,e⟩ [Zk kind,v1,Zy w,Zy u,v2,v3,v4,v5,Zy name,v6,Zy e.op,Zy e.name,Zk e.n,v7,v8]:=Yf9 (x:=⟨kind,ps,.mk w u a1 p1 e1 k1,name,args,e⟩) ⟨h1,h2,h3,h4,h5,h6⟩
theorem _root_.Go.Lx.Grow.fz {α:Type} {L:Lay α} {e:Nat} {fz fz':FZ} {A:Option Addr} {n c:Nat} {Hs:HP} {l:List α} (hg:Grow L e fz (Zc A n c) n Hs l) (hle:Le fz fz') (hf:∀ p∈Hs,fz' p.1=some p.2) (hn:n<=140737488355328):Sl L fz' A n c l:=by
 obtain ⟨A1,c1,hv,h⟩:=hg.sl hle hf hn;injection hv with h1 h2 h3
 subst h1 h3;exact h
theorem Yi3 {a b c d:Nat × Obj}:([a,b,c]++(d::H)).Perm (a::(H++ [b,d,c])):=by
 refine List.Perm.cons _ ?_;refine List.Perm.trans ?_ (Zq (l₁:=[b,d,c]) (l₂:=H));exact List.Perm.cons _ (List.Perm.swap _ _ _)
theorem Ypo {a b c d:Nat × Obj}:([a,b,c]++(d::H)).Perm (H++ [a,b,d,c]):=by
 refine List.Perm.trans ?_ (Zq (l₁:=[a,b,d,c]) (l₂:=H));exact (List.Perm.cons _ (List.Perm.cons _ (List.Perm.swap _ _ _)))
theorem YjH {fz:FZ} {Ap Aw Aa:Option Addr} {np cp nw cw na ca:Nat} {ps:List Param} {ws:List Formula} {kind:Int} {name:Bs} {args:List Bs} {e:Lx.Expr}
 (hp:Sl paramL fz Ap np cp ps) (hnp:np<=1000000000) (hw:Sl YK fz Aw nw cw ws) (hnw:nw<=1000000000) (hk:I64 kind) (hname:Short name) (ha:Sl strL fz Aa na ca args) (he:ExprR fz e v1 v2):
 GFn prog 318 [.agg #[Zc Ap np cp,Zc Aw nw cw],Zk kind,Zy name,Zc Aa na ca,.agg #[Zy e.op,Zy e.name,Zk e.n,v1,v2]] fz []
  (fun r fz' H'=>H'=[]/\∃ cs,r=.agg (List.toArray cs)/\changeL.rep fz' (chgM ps ws kind name args e) cs):=by
 obtain ⟨⟨Ba,ma,ba,rfl,ie1⟩,⟨Ca,oa,da,rfl,ie2⟩⟩:=he.sls;have hwl:=hw.len;refine zF Tryz.func318 Tryz.ntmps318 (fun w0=>?_);refine zWX ?_;refine Yr ?_;refine zWX ?_;intros;rename_i g5 g9 g10;refine Yr (YY (fun σ fz' H'=>∃ g11 Ap2 cp2,σ=[(11,Zp g11),(10,Zp g10),(5,Zp g5)]/\Le fz fz'/\H'=[(g11,Zu #[Zk kind,Zc Ap2 np cp2,Zy kAnd,Ze,Zn,Zn,Zn,Zn,Zy name,Zc Aa na ca,Zy e.op,Zy e.name,Zk e.n,Zc Ba ma ba,Zc Ca oa da] 114),(g10,Zu #[Zk 0,Zn,Ze,Ze,Zn,Zn,Zn,Zn,Ze,Zn,Ze,Ze,Zk 0,Zn,Zn] 114),(g5,Zu #[Zc Ap np cp,Zc Aw nw cw] 337)]/\Sl paramL fz' Ap2 np cp2 ps) ?_ ?_)
 ·refine zWX ?_;refine WP [] [_,_,_] ?_;refine zW ?_;refine Yn (Yn ?_);refine zW ?_;refine pT ?_;refine XD ?_ ?_
  ·refine Yd (Ym [] [(g10,_),(g9,_),(g5,_)] Zz (Ybb hp hnp) (fun v15 fz1 Hc hle1 hR1=>⟨⟨hle1,by intro p hp;exact List.mem_append_right _ hp⟩,?_⟩));obtain ⟨Ap2,cp2,rfl,_,_⟩:=hR1.form;refine XD ?_ ?_
   ·refine PoS.qk ⟨hle1,by intro p hp;exact List.mem_append_right _ hp⟩ (YF YaK ?_);refine XD ?_ ?_
    ·refine PoS.qk ⟨hle1,by intro p hp;exact List.mem_append_right _ hp⟩ (YaY ?_);refine Yh ?_;refine Yd (Y7 (fun g11=>⟨⟨hle1,by intro p hp;exact List.mem_cons_of_mem _ (List.mem_append_right _ hp)⟩,?_⟩));refine Yh ?_;refine PoS.hard0 (Yaz (pre:=[]) (cs':=[Zk kind,Zc Ap2 np cp2,Zy kAnd,Ze,Zn,Zn,Zn,Zn,Zy name,Zc Aa na ca,Zy e.op,Zy e.name,Zk e.n,Zc Ba ma ba,Zc Ca oa da]) rfl ?_);refine Po.done ?_;refine zW ?_;exact midF (H':=[(g11,_),(g10,_),(g5,_)]) (H2:=(g9,_)::Hc) (by exact Yi3) (fun fz3 hle3 hf3=>⟨g11,Ap2,cp2,rfl,hle1.trans hle3,rfl,hR1.fz hle3 (fun p hp=>hf3 p (List.mem_cons_of_mem _ hp)) Zi⟩) Zw
    refine Yd (Y7 (fun g11=>⟨⟨hle1,by intro p hp;exact List.mem_cons_of_mem _ (List.mem_append_right _ hp)⟩,?_⟩));refine Yh ?_;refine PoS.qk ⟨hle1,by intro p hp;exact List.mem_cons_of_mem _ (List.mem_append_right _ hp)⟩ (YaY ?_);refine Yh ?_;refine PoS.hard0 (Yaz (pre:=[]) (cs':=[Zk kind,Zc Ap2 np cp2,Zy kAnd,Ze,Zn,Zn,Zn,Zn,Zy name,Zc Aa na ca,Zy e.op,Zy e.name,Zk e.n,Zc Ba ma ba,Zc Ca oa da]) rfl ?_);refine Po.done ?_;refine zW ?_;exact midF (H':=[(g11,_),(g10,_),(g5,_)]) (H2:=(g9,_)::Hc) (by exact Yi3) (fun fz3 hle3 hf3=>⟨g11,Ap2,cp2,rfl,hle1.trans hle3,rfl,hR1.fz hle3 (fun p hp=>hf3 p (List.mem_cons_of_mem _ hp)) Zi⟩) Zw
   refine Yd (Y7 (fun g11=>⟨⟨hle1,by intro p hp;exact List.mem_cons_of_mem _ (List.mem_append_right _ hp)⟩,?_⟩));refine Yh ?_;refine PoS.qk ⟨hle1,by intro p hp;exact List.mem_cons_of_mem _ (List.mem_append_right _ hp)⟩ (YF YaK ?_);refine Yh ?_;refine PoS.qk ⟨hle1,by intro p hp;exact List.mem_cons_of_mem _ (List.mem_append_right _ hp)⟩ (YaY ?_);refine Yh ?_;refine PoS.hard0 (Yaz (pre:=[]) (cs':=[Zk kind,Zc Ap2 np cp2,Zy kAnd,Ze,Zn,Zn,Zn,Zn,Zy name,Zc Aa na ca,Zy e.op,Zy e.name,Zk e.n,Zc Ba ma ba,Zc Ca oa da]) rfl ?_);refine Po.done ?_;refine zW ?_;exact midF (H':=[(g11,_),(g10,_),(g5,_)]) (H2:=(g9,_)::Hc) (by exact Yi3) (fun fz3 hle3 hf3=>⟨g11,Ap2,cp2,rfl,hle1.trans hle3,rfl,hR1.fz hle3 (fun p hp=>hf3 p (List.mem_cons_of_mem _ hp)) Zi⟩) Zw
  refine Yd (Y7 (fun g11=>⟨⟨Zd,by intro p hp;exact List.mem_cons_of_mem _ hp⟩,?_⟩));refine Yh ?_;refine Yd (Ym [] [(g11,_),(g10,_),(g9,_),(g5,_)] Zz (Ybb hp hnp) (fun v15 fz1 Hc hle1 hR1=>⟨⟨hle1,by intro p hp;exact List.mem_append_right _ (List.mem_cons_of_mem _ hp)⟩,?_⟩));obtain ⟨Ap2,cp2,rfl,_,_⟩:=hR1.form;refine Yh ?_;refine PoS.qk ⟨hle1,by intro p hp;exact List.mem_append_right _ (List.mem_cons_of_mem _ hp)⟩ (YF YaK ?_);refine Yh ?_;refine PoS.qk ⟨hle1,by intro p hp;exact List.mem_append_right _ (List.mem_cons_of_mem _ hp)⟩ (YaY ?_);refine Yh ?_;refine PoS.hard0 (Yaz (pre:=Hc) (cs':=[Zk kind,Zc Ap2 np cp2,Zy kAnd,Ze,Zn,Zn,Zn,Zn,Zy name,Zc Aa na ca,Zy e.op,Zy e.name,Zk e.n,Zc Ba ma ba,Zc Ca oa da]) rfl ?_);refine Po.done ?_;refine zW ?_;exact midF (H':=[(g11,_),(g10,_),(g5,_)]) (H2:=(g9,_)::Hc) (by exact Ypo) (fun fz3 hle3 hf3=>⟨g11,Ap2,cp2,rfl,hle1.trans hle3,rfl,hR1.fz hle3 (fun p hp=>hf3 p (List.mem_cons_of_mem _ hp)) Zi⟩) Zw
 rintro σ fz' H' ⟨g11,Ap2,cp2,rfl,hle,rfl,hp2⟩;refine wC ?_ ?_<;>intro c1
 ·have hws:ws=[]:=List.eq_nil_of_length_eq_zero Zi;subst hws;refine zW ?_;refine XJ (i:=1) rfl (fun fz3 hle3 hf3=>⟨rfl,[Zk kind,Zc Ap2 np cp2,Zy kAnd,Ze,Zn,Zn,Zn,Zn,Zy name,Zc Aa na ca,Zy e.op,Zy e.name,Zk e.n,Zc Ba ma ba,Zc Ca oa da],rfl,?_⟩);exact Ymn hk ⟨_,_,_,rfl,hp2.mono hle3⟩ Ydr hname ⟨_,_,_,rfl,ha.mono (hle.trans hle3)⟩ (he.mono (hle.trans hle3))
 refine wC ?_ ?_<;>intro c2
 ·have hnw1:nw=1:=by omega
  obtain ⟨f,rfl⟩:∃ f,ws=[f]:=by
   match ws,hwl.trans hnw1 with
   | [f],_=>exact ⟨f,rfl⟩
  have hf0: [f][0]?=some f:=rfl;refine wI (hw.mono hle) hf0 (fun p hpf=>?_);refine zL hpf ?_;intro cs hcs;obtain ⟨u1,u2,u3,u4,rfl,hF⟩:=Yv hcs;obtain ⟨⟨B1,m1,d1,rfl,j1⟩,⟨B2,m2,d2,rfl,j2⟩,⟨B3,m3,d3,rfl,j3⟩,⟨B4,m4,d4,rfl,j4⟩⟩:=hF.sls;refine zW ?_;refine XJ (i:=1) rfl (fun fz3 hle3 hf3=>⟨rfl,[Zk kind,Zc Ap2 np cp2,Zy f.op,Zy f.name,Zc B1 m1 d1,Zc B2 m2 d2,Zc B3 m3 d3,Zc B4 m4 d4,Zy name,Zc Aa na ca,Zy e.op,Zy e.name,Zk e.n,Zc Ba ma ba,Zc Ca oa da],rfl,?_⟩);have hF3:=hF.mono hle3;cases f;exact Ymn hk ⟨_,_,_,rfl,hp2.mono hle3⟩ hF3 hname ⟨_,_,_,rfl,ha.mono (hle.trans hle3)⟩ (he.mono (hle.trans hle3))
 refine wK (q:=YhA (hw.mono hle) hnw) (h:=fun r2 fz2 H2 hle2 hR2=>?_);obtain ⟨A2,c2',rfl,_,_⟩:=hR2.form;refine Seq.freezeAll (H1:=[(g11,_),(g10,_),(g5,_)]) (H2:=H2) Zq (fun fz4 hle4 hf4=>?_);have hS:=hR2.fz hle4 hf4 Zi;refine zW ?_;refine XJ (i:=1) rfl (fun fz3 hle3 hf3=>⟨rfl,[Zk kind,Zc Ap2 np cp2,Zy kAnd,Ze,Zn,Zn,Zn,Zc A2 nw c2',Zy name,Zc Aa na ca,Zy e.op,Zy e.name,Zk e.n,Zc Ba ma ba,Zc Ca oa da],rfl,?_⟩)
 match ws,hwl with
 | [],hwl=>exact absurd (by rw [<- hwl];rfl) c1
 | [f],hwl=>exact absurd (by rw [<- hwl];rfl) c2
 | f::g::r,hwl=>exact Ymn hk ⟨_,_,_,rfl,hp2.mono (hle2.trans (hle4.trans hle3))⟩ ⟨by show Short kAnd;unfold Short;decide,Wc,IsSl.nil,IsSl.nil,IsSl.nil,⟨_,_,_,rfl,hS.mono hle3⟩⟩ hname ⟨_,_,_,rfl,ha.mono (hle.trans (hle2.trans (hle4.trans hle3)))⟩ (he.mono (hle.trans (hle2.trans (hle4.trans hle3))))
def Yh5:Lx.Expr:=.mk ⟨#[]⟩ ⟨#[]⟩ 0 [] []
def numM (ps:List Param) (ws:List Formula) (kind:Int):List Sexpr->Except Int (List Change)
 | [y,z]=>match Ycz y with
  | .error c=>.error c
  | .ok (nm,a)=>match YgW z with
   | .error c=>.error c
   | .ok e=>.ok [chgM ps ws kind nm a e]
 | _=>.error 2
def whnM (E:List Param->List Formula->Sexpr->Except Int (List Change)) (ps:List Param) (ws:List Formula):List Sexpr->Except Int (List Change)
 | [y,z]=>match YaF y with
  | .error c=>.error c
  | .ok f=>E ps (ws++ [f]) z
 | _=>.error 2
def allM (E:List Param->List Formula->Sexpr->Except Int (List Change)) (ps:List Param) (ws:List Formula):List Sexpr->Except Int (List Change)
 | [y,z]=>if y.kind≠3 then .error 2 else match parM true y.kids [] [] with
  | .error c=>.error c
  | .ok l=>E (ps++l) ws z
 | _=>.error 2
def mapC {α β:Type} (f:α->Except Int (List β)):List α->Except Int (List β)
 | []=>.ok []
 | x::r=>match f x with
  | .error c=>.error c
  | .ok y=>exA y (mapC f r)
def effB (E:List Param->List Formula->Sexpr->Except Int (List Change)) (ps:List Param) (ws:List Formula) (w:Bs) (r:List Sexpr) (x:Sexpr):Except Int (List Change):=
 if 0<YeU w then numM ps ws (YeU w) r
 else if w=YkO then whnM E ps ws r
 else if w=kForall then allM E ps ws r
 else if w=kAnd then mapC (E ps ws) r
 else if w=kNot then match r with
  | [y]=>match Ycz y with
   | .error c=>.error c
   | .ok (nm,a)=>.ok [chgM ps ws 2 nm a Yh5]
  | _=>.error 2
 else match Ycz x with
  | .error c=>.error c
  | .ok (nm,a)=>.ok [chgM ps ws 1 nm a Yh5]
def effD:Nat->List Param->List Formula->Sexpr->Except Int (List Change)
 | 0,_,_,_=>.error 2
 | d+1,ps,ws,x=>if x.kind=3/\x.kids=[] then .ok [] else match XP x with
  | none=>.error 2
  | some (w,r)=>effB (effD d) ps ws w r x
theorem Yhu {d:Nat} {ps:List Param} {ws:List Formula} {x:Sexpr}:effD (d+1) ps ws x=if x.kind=3/\x.kids=[] then .ok [] else match XP x with
 | none=>.error 2
 | some (w,r)=>effB (effD d) ps ws w r x:=rfl
theorem chg_one:OneC changeL:=by
 intro fz d cs h u hu;obtain ⟨v1,v2,v3,v4,v5,v6,v7,v8,rfl,hR⟩:=Y8 h;obtain ⟨A1,n1,c1,rfl,_⟩:=hR.params;obtain ⟨⟨A2,n2,c2,rfl,_⟩,⟨A3,n3,c3,rfl,_⟩,⟨A4,n4,c4,rfl,_⟩,⟨A5,n5,c5,rfl,_⟩⟩:=hR.when_.sls;obtain ⟨A6,n6,c6,rfl,_⟩:=hR.args;obtain ⟨⟨A7,n7,c7,rfl,_⟩,⟨A8,n8,c8,rfl,_⟩⟩:=hR.value.sls;simp at hu;rcases hu with rfl | rfl | rfl | rfl | rfl | rfl | rfl | rfl | rfl | rfl | rfl | rfl | rfl | rfl | rfl<;>rfl
theorem ResS.form {fz:FZ} {m:Except Int (List α)} (h:ResS L fz m v):∃ a b,v=.tuple #[a,b]:=by
 cases m with
 | error c=>exact ⟨_,_,h.1⟩
 | ok l=>obtain ⟨A,n,c,h,_⟩:=h;exact ⟨_,_,h⟩
theorem Ym0 {a b c d:Nat × Obj}:([a,b]++(c::d::H)).Perm ([c,d,a,b]++H):=by
 refine List.Perm.append_right H (l₁:=[a,b,c,d]) (l₂:=[c,d,a,b]) ?_;exact Zq (l₁:=[a,b]) (l₂:=[c,d])
theorem YlV {fz3 fz:FZ} {gb:Nat} {m:Except Int (List Change)} {ch:Change} (hM:m=.ok [ch]) (hle:Le fz fz3) (hr:changeL.rep fz ch cs) (hg:fz3 gb=some (Zu cs.toArray 114)):ResS changeL fz3 m (.tuple #[Zv gb 1 1,.nilIface]):=by
 rw [hM];exact ⟨_,_,_,rfl,Wb (m:=1) (ys:=[(ch,cs)]) hg (by simp) rfl (by intro p hp;simp only [List.mem_cons,List.not_mem_nil,or_false] at hp;subst hp;exact changeL.mono hle hr) rfl Zh⟩
def EffW (d:Nat):Prop:=∀ (fz:FZ) (Ap Aw:Option Addr) (np cp nw cw:Nat) (ps:List Param) (ws:List Formula) (x:Sexpr) (vk:Value),SizeOf.sizeOf x<=d->XSm x->YT fz x vk->Sl paramL fz Ap np cp ps->Sl YK fz Aw nw cw ws->np+xcount x<=100000000->nw+xcount x<=100000000->
 GFn prog 286 [.agg #[Zc Ap np cp,Zc Aw nw cw],.agg #[Zk x.kind,Zk x.value,Zk x.line,Zk x.column,Zy x.text,vk]] fz [] (fun r fz' H'=>H'=[]/\ResS changeL fz' (effD d ps ws x) r)
theorem Ypy {fz:FZ} {Ap Aw:Option Addr} {np cp nw cw:Nat} {ps:List Param} {ws:List Formula} {x w0:Sexpr} {r:List Sexpr} {kind:Int} (hk:x.kids=w0::r) (hkind:I64 kind) (hs:XSm x) (hR:YT fz x vk) (hp:Sl paramL fz Ap np cp ps) (hw:Sl YK fz Aw nw cw ws) (hnp:np<=1000000000) (hnw:nw<=1000000000):
 GFn prog 314 [.agg #[Zc Ap np cp,Zc Aw nw cw],Zk kind,.agg #[Zk x.kind,Zk x.value,Zk x.line,Zk x.column,Zy x.text,vk]] fz [] (fun r2 fz' H'=>H'=[]/\ResS changeL fz' (numM ps ws kind r) r2):=by
 obtain ⟨A,n,c,rfl,ik⟩:=hR.kids;have hl:=ik.len;rw [hk,List.length_cons] at hl;refine zF Tryz.func314 Tryz.ntmps314 (fun w0=>?_);refine zW ?_;intros;refine zC ?_ ?_<;>intro c1
 ·have hM:numM ps ws kind r=.error 2:=by
   unfold numM;split
   ·simp at hl;omega
   rfl
  exact wS (h:=by exact ⟨rfl,by rw [hM];exact ⟨rfl,by decide⟩⟩)
 obtain ⟨y,z,rfl⟩:∃ y z,r=[y,z]:=by
  have h3:r.length=2:=by omega
  match r,h3 with
  | [y,z],_=>exact ⟨y,z,rfl⟩
 have hM:numM ps ws kind [y,z]=match Ycz y with
  | .error c=>.error c
  | .ok (nm,a)=>match YgW z with
   | .error c=>.error c
   | .ok e=>.ok [chgM ps ws kind nm a e]:=rfl
 have hy:x.kids[1]?=some y:=by rw [hk];rfl
 have hz:x.kids[2]?=some z:=by rw [hk];rfl
 have hsy:=(Xe.1 hs).2 y (Zm hy);refine wI ik hy (fun p hp1=>?_);refine zL hp1 ?_;intro cs hcs;obtain ⟨vy,rfl,hRy⟩:=Yf hcs;refine wK (q:=Yme hsy hRy) (h:=fun r1 fz1 H1 hle1 hR1=>?_);obtain ⟨rfl,hR1⟩:=hR1;cases ha:Ycz y with
 | error c=>
  rw [ha] at hM hR1;obtain ⟨rfl,hc⟩:=hR1;exact wS (h:=by exact ⟨rfl,by rw [hM];exact ⟨by rw [Yg hc];rfl,hc⟩⟩)
 | ok na=>
  obtain ⟨nm,a⟩:=na;rw [ha] at hM hR1;obtain ⟨A3,n3,c3,rfl,ia,hnm⟩:=hR1;simp only at hM;refine wI (ik.mono hle1) hz (fun p2 hp2=>?_);refine zL hp2 ?_;intro cs2 hcs2;obtain ⟨vz,rfl,hRz⟩:=Yf hcs2;refine wK (q:=eParse_f hRz) (h:=fun r4 fz4 H4 hle4 hR4=>?_);obtain ⟨rfl,e4,cs4,hr4,hR4⟩:=hR4;obtain ⟨v1,v2,rfl,hE4⟩:=YD hr4;obtain ⟨⟨B1,m1,d1,rfl,j1⟩,⟨B2,m2,d2,rfl,j2⟩⟩:=hE4.sls;cases he:YgW z with
  | error c=>
   rw [he] at hM hR4;obtain ⟨rfl,hc⟩:=hR4;rw [Yg hc];refine zW ?_;intros;exact wS (h:=by exact ⟨rfl,by rw [hM];exact ⟨by rw [Yg hc];rfl,hc⟩⟩)
  | ok e=>
   rw [he] at hM hR4;obtain ⟨rfl,rfl⟩:=hR4;refine zW ?_;intros;refine wK (q:=YjH (hp.mono (hle1.trans hle4)) hnp (hw.mono (hle1.trans hle4)) hnw hkind hnm (ia.mono hle4) hE4) (h:=fun r5 fz5 H5 hle5 hR5=>?_);obtain ⟨rfl,cs5,rfl,hr5⟩:=hR5;simp only at hM;generalize hchg:chgM ps ws kind nm a e=ch at*;have hr5':=hr5;obtain ⟨u1,u2,u3,u4,u5,u6,u7,u8,rfl,hC⟩:=Y8 hr5;obtain ⟨C1,o1,q1,rfl,_⟩:=hC.params;obtain ⟨C2,o2,q2,rfl,_⟩:=hC.when_.args;obtain ⟨C3,o3,q3,rfl,_⟩:=hC.when_.params;obtain ⟨C4,o4,q4,rfl,_⟩:=hC.when_.exprs;obtain ⟨C5,o5,q5,rfl,_⟩:=hC.when_.kids;obtain ⟨C6,o6,q6,rfl,_⟩:=hC.args;obtain ⟨C7,o7,q7,rfl,_⟩:=hC.value.args;obtain ⟨C8,o8,q8,rfl,_⟩:=hC.value.kids;refine Ya (Yb (cs:=([Zk ch.kind,Zc C1 o1 q1,Zy ch.when_.op,Zy ch.when_.name,Zc C2 o2 q2,Zc C3 o3 q3,Zc C4 o4 q4,Zc C5 o5 q5,Zy ch.name,Zc C6 o6 q6,Zy ch.value.op,Zy ch.value.name,Zk ch.value.n,Zc C7 o7 q7,Zc C8 o8 q8])) (fun gb=>?_));refine zW ?_;exact YlG rfl rfl rfl (fun fz3 hle3 hf3=>⟨rfl,YlV hM hle3 hr5' (hf3 (gb,_) (.head _))⟩)
theorem when_f {d:Nat} (ih:EffW d) {fz:FZ} {Ap Aw:Option Addr} {np cp nw cw:Nat} {ps:List Param} {ws:List Formula} {x w0:Sexpr} {r:List Sexpr} (hk:x.kids=w0::r) (hsz:∀ y∈r,SizeOf.sizeOf y<=d) (hs:XSm x) (hR:YT fz x vk) (hp:Sl paramL fz Ap np cp ps) (hw:Sl YK fz Aw nw cw ws) (hnp:np+xcount x<=100000000) (hnw:nw+xcount x<=100000000):
 GFn prog 315 [.agg #[Zc Ap np cp,Zc Aw nw cw],.agg #[Zk x.kind,Zk x.value,Zk x.line,Zk x.column,Zy x.text,vk]] fz [] (fun r2 fz' H'=>H'=[]/\ResS changeL fz' (whnM (effD d) ps ws r) r2):=by
 obtain ⟨A,n,c,rfl,ik⟩:=hR.kids;have hl:=ik.len;rw [hk,List.length_cons] at hl;refine zF Tryz.func315 Tryz.ntmps315 (fun w0=>?_);refine zW ?_;intros;refine zC ?_ ?_<;>intro c1
 ·have hM:whnM (effD d) ps ws r=.error 2:=by
   unfold whnM;split
   ·simp at hl;omega
   rfl
  exact wS (h:=by exact ⟨rfl,by rw [hM];exact ⟨rfl,by decide⟩⟩)
 obtain ⟨y,z,rfl⟩:∃ y z,r=[y,z]:=by
  have h3:r.length=2:=by omega
  match r,h3 with
  | [y,z],_=>exact ⟨y,z,rfl⟩
 have hM:whnM (effD d) ps ws [y,z]=match YaF y with
  | .error c=>.error c
  | .ok f=>effD d ps (ws++ [f]) z:=rfl
 have hy:x.kids[1]?=some y:=by rw [hk];rfl
 have hz:x.kids[2]?=some z:=by rw [hk];rfl
 have hsz2:=(Xe.1 hs).2 z (Zm hz);have hcx:=Xj x;rw [hk] at hcx;have hcy:=Xj y;simp only [xcountL] at hcx;refine zW ?_;rename_i g2 g3;refine zI ik hy (fun p hp1=>?_);refine zL hp1 ?_;intro cs hcs;obtain ⟨vy,rfl,hRy⟩:=Yf hcs;refine wK (q:=Yd4 hRy) (h:=fun r4 fz4 H4 hle4 hR4=>?_);obtain ⟨rfl,f4,cs4,hr4,hR4⟩:=hR4;obtain ⟨v1,v2,v3,v4,rfl,hE4⟩:=Yv hr4;obtain ⟨⟨B1,m1,d1,rfl,j1⟩,⟨B2,m2,d2,rfl,j2⟩,⟨B3,m3,d3,rfl,j3⟩,⟨B4,m4,d4,rfl,j4⟩⟩:=hE4.sls;cases he:YaF y with
 | error c=>
  rw [he] at hM hR4;obtain ⟨rfl,hc⟩:=hR4;rw [Yg hc];refine zW ?_;intros;exact wS (h:=by exact ⟨rfl,by rw [hM];exact ⟨by rw [Yg hc];rfl,hc⟩⟩)
 | ok f=>
  rw [he] at hM hR4;obtain ⟨rfl,rfl⟩:=hR4;simp only at hM;rw [List.nil_append];refine zWX ?_;intros;refine Yr ?_;refine zWX ?_;rename_i g6;refine Yr ?_;refine zWX ?_;refine Yr (YY (fun σ fz' H'=>∃ Aw2 cw2,σ=[(3,Zp g3),(2,Zp g2)]/\Le fz4 fz'/\H'=[(g3,Zu #[Zk x.kind,Zk x.value,Zk x.line,Zk x.column,Zy x.text,Zc A n c] 86),(g2,Zu #[Zc Ap np cp,Zc Aw2 (nw+1) cw2] 337)]/\Sl YK fz' Aw2 (nw+1) cw2 (ws++ [f])) ?_ ?_)
  ·refine WP [6] [_,_,_] ?_;refine zW ?_;refine Yn ?_;refine zW ?_;refine Yn (Yn ?_);refine PK.p Zz (fun fz'=>by first | exact XC rfl | exact YU Zz rfl | exact Yt rfl | exact W4 Zz Zz (YQ Zi) rfl | exact Yw rfl) ?_;refine pT ?_;refine XD ?_ ?_
   ·refine Yd (Ym [] [(g6,_),(g3,_),(g2,_)] Zz (YhA (hw.mono hle4) Zi) (fun v26 fz6 Hc hle6 hR6=>⟨⟨hle6,by intro p hp;exact List.mem_append_right _ hp⟩,?_⟩));obtain ⟨Aw2,cw2,rfl,_,_⟩:=hR6.form;refine Yh ?_;refine Yd (Yb (cs:=[Zy f.op,Zy f.name,Zc B1 m1 d1,Zc B2 m2 d2,Zc B3 m3 d3,Zc B4 m4 d4]) (fun gb=>⟨⟨hle6,by intro p hp;exact List.mem_cons_of_mem _ (List.mem_append_right _ hp)⟩,?_⟩));refine Yh ?_;refine Yd (YN (d:=f) (cs:=[Zy f.op,Zy f.name,Zc B1 m1 d1,Zc B2 m2 d2,Zc B3 m3 d3,Zc B4 m4 d4]) (Hr:=(gb,_)::(g6,_)::(g3,_):: [(g2,_)]) (List.Perm.cons _ Zq) hR6 Ye1 (.head _) (YK.mono hle6 hr4) (fun v' Hs' hG'=>⟨⟨hle6,by intro p hp;exact List.mem_append_left _ (List.mem_cons_of_mem _ hp)⟩,?_⟩));obtain ⟨Aw3,cw3,rfl,_,_⟩:=hG'.form;refine Yh ?_;refine PoS.hard0 (WS ?_);refine Po.done ?_;refine zW ?_;exact midF (H':=[(g3,_),(g2,_)]) (H2:=(gb,_)::(g6,_)::Hs') (by exact Ym0) (fun fz7 hle7 hf7=>⟨Aw3,cw3,rfl,hle6.trans hle7,rfl,hG'.fz hle7 (fun p hp=>hf7 p (List.mem_cons_of_mem _ (List.mem_cons_of_mem _ hp))) Zi⟩) Zw
   refine Yd (Yb (cs:=[Zy f.op,Zy f.name,Zc B1 m1 d1,Zc B2 m2 d2,Zc B3 m3 d3,Zc B4 m4 d4]) (fun gb=>⟨⟨Zd,by intro p hp;exact List.mem_cons_of_mem _ hp⟩,?_⟩));refine Yh ?_;refine Yd (Ym [] [(gb,_),(g6,_),(g3,_),(g2,_)] Zz (YhA (hw.mono hle4) Zi) (fun v26 fz6 Hc hle6 hR6=>⟨⟨hle6,by intro p hp;exact List.mem_append_right _ (List.mem_cons_of_mem _ hp)⟩,?_⟩));obtain ⟨Aw2,cw2,rfl,_,_⟩:=hR6.form;refine Yh ?_;refine Yd (YN (d:=f) (cs:=[Zy f.op,Zy f.name,Zc B1 m1 d1,Zc B2 m2 d2,Zc B3 m3 d3,Zc B4 m4 d4]) (Hr:=(gb,_)::(g6,_)::(g3,_):: [(g2,_)]) Zq hR6 Ye1 (List.mem_append_right _ (.head _)) (YK.mono hle6 hr4) (fun v' Hs' hG'=>⟨⟨hle6,by intro p hp;exact List.mem_append_left _ (List.mem_cons_of_mem _ hp)⟩,?_⟩));obtain ⟨Aw3,cw3,rfl,_,_⟩:=hG'.form;refine Yh ?_;refine PoS.hard0 (WS ?_);refine Po.done ?_;refine zW ?_;exact midF (H':=[(g3,_),(g2,_)]) (H2:=(gb,_)::(g6,_)::Hs') (by exact Ym0) (fun fz7 hle7 hf7=>⟨Aw3,cw3,rfl,hle6.trans hle7,rfl,hG'.fz hle7 (fun p hp=>hf7 p (List.mem_cons_of_mem _ (List.mem_cons_of_mem _ hp))) Zi⟩) Zw
  rintro σ fz' H' ⟨Aw2,cw2,rfl,hle5,rfl,hw5⟩;refine Yr ?_;refine WP [] [_,_] ?_;refine wI (ik.mono (hle4.trans hle5)) hz (fun p2 hp2=>?_);refine zL hp2 ?_;intro cs2 hcs2;obtain ⟨vz,rfl,hRz⟩:=Yf hcs2;refine pT ?_;refine Yh ?_;refine Yd (Ym [] [_,_] Zz (ih _ _ _ _ _ _ _ _ _ _ _ (hsz z (by simp)) hsz2 hRz (hp.mono (hle4.trans hle5)) hw5 Zi Zi) (fun r8 fz8 H8 hle8 hR8=>?_));obtain ⟨rfl,hR8⟩:=hR8;obtain ⟨ra,rb,rfl⟩:=hR8.form;rw [<- hM] at hR8;refine ⟨⟨hle8,Zp2⟩,?_⟩;refine XD ?_ ?_
  ·refine PoS.qk ⟨hle8,Zp2⟩ (Wl ?_);refine Yh ?_;refine PoS.qk ⟨hle8,Zp2⟩ (Wl ?_);refine Yh ?_;refine PoS.qk ⟨hle8,Zp2⟩ (YV ?_);refine Yh ?_;refine PoS.qk ⟨hle8,Zp2⟩ (YV ?_);refine Po.done ?_;exact wS (h:=by exact ⟨rfl,hR8⟩)
  refine PoS.qk ⟨hle8,Zp2⟩ (Wl ?_);refine Yh ?_;refine PoS.qk ⟨hle8,Zp2⟩ (Wl ?_);refine Yh ?_;refine PoS.qk ⟨hle8,Zp2⟩ (YV ?_);refine Yh ?_;refine PoS.qk ⟨hle8,Zp2⟩ (YV ?_);refine Po.done ?_;exact wS (h:=by exact ⟨rfl,hR8⟩)
theorem forall_f {d:Nat} (ih:EffW d) {fz:FZ} {Ap Aw:Option Addr} {np cp nw cw:Nat} {ps:List Param} {ws:List Formula} {x w0:Sexpr} {r:List Sexpr} (hk:x.kids=w0::r) (hsz:∀ y∈r,SizeOf.sizeOf y<=d) (hs:XSm x) (hR:YT fz x vk) (hp:Sl paramL fz Ap np cp ps) (hw:Sl YK fz Aw nw cw ws) (hnp:np+xcount x<=100000000) (hnw:nw+xcount x<=100000000):
 GFn prog 316 [.agg #[Zc Ap np cp,Zc Aw nw cw],.agg #[Zk x.kind,Zk x.value,Zk x.line,Zk x.column,Zy x.text,vk]] fz [] (fun r2 fz' H'=>H'=[]/\ResS changeL fz' (allM (effD d) ps ws r) r2):=by
 obtain ⟨A,n,c,rfl,ik⟩:=hR.kids;have hl:=ik.len;rw [hk,List.length_cons] at hl;have bad:(∀ y z,r=[y,z]->y.kind≠3)->allM (effD d) ps ws r=.error 2:=fun h=>by
  unfold allM;split
  ·rename_i y z;rw [if_pos (h y z rfl)]
  rfl
 refine zF Tryz.func316 Tryz.ntmps316 (fun w0=>?_);refine zW ?_;intros;refine zC ?_ ?_<;>intro c1
 ·exact wS (h:=by exact ⟨rfl,by rw [bad (fun y z e=>by rw [e] at hl;simp at hl;omega)];exact ⟨rfl,by decide⟩⟩)
 obtain ⟨y,z,rfl⟩:∃ y z,r=[y,z]:=by
  have h3:r.length=2:=by omega
  match r,h3 with
  | [y,z],_=>exact ⟨y,z,rfl⟩
 have hM:allM (effD d) ps ws [y,z]=if y.kind≠3 then .error 2 else match parM true y.kids [] [] with
  | .error c=>.error c
  | .ok l=>effD d (ps++l) ws z:=rfl
 have hy:x.kids[1]?=some y:=by rw [hk];rfl
 have hz:x.kids[2]?=some z:=by rw [hk];rfl
 have hsz2:=(Xe.1 hs).2 z (Zm hz);have hsy:=(Xe.1 hs).2 y (Zm hy);have hyl:y.kids.length<=1000000:=(Xe.1 hsy).1;have hcx:=Xj x;rw [hk] at hcx;have hcy:=Xj y;have hcyl:=Wt (l:=y.kids);simp only [xcountL] at hcx;refine zW ?_;rename_i g2 g3;refine zI ik hy (fun p hp1=>?_);refine wG ?_;refine Xz T Zz Zz Zz hp1.Sexpr_kind (fun i1=>?_);refine zC ?_ ?_<;>intro c2
 ·rw [if_pos c2] at hM;exact wS (h:=by exact ⟨rfl,by rw [hM];exact ⟨rfl,by decide⟩⟩)
 rw [if_neg (Classical.not_not.2 c2)] at hM;refine wI ik hy (fun p3 hp3=>?_);refine wG ?_;refine YbX hp3.Sexpr_kids (fun Ay ny cy iy=>?_);have hyn:=iy.len;refine wK (q:=Ybn (b:=true) iy) (h:=fun r4 fz4 H4 hle4 hR4=>?_);obtain ⟨rfl,hR4⟩:=hR4;cases hps:parM true y.kids [] [] with
 | error c=>
  rw [hps] at hM hR4;obtain ⟨rfl,hc⟩:=hR4;rw [Yg hc];exact wS (h:=by exact ⟨rfl,by rw [hM];exact ⟨by rw [Yg hc];rfl,hc⟩⟩)
 | ok l=>
  rw [hps] at hM hR4;obtain ⟨A5,n5,c5,rfl,il⟩:=hR4;have hll:=Yfw hps;have hn5:=il.len;simp only [List.length_nil] at hll;simp only at hM;rw [List.nil_append];refine wK (q:=Ybb (hp.mono hle4) Zi) (h:=fun r6 fz6 Hc hle6 hR6=>?_);obtain ⟨Ap2,cp2,rfl,_,_⟩:=hR6.form;refine zW ?_;refine Ya (WZ T (Hr:=[(g3,_),(g2,_)]) Zz Zz Zz Zz Zz Zz Zz Zz Zq hR6 WY (il.mono hle6) (by show _*32<=_;omega) Zi (fun v' Hs' hG'=>?_));obtain ⟨Ap3,cp3,rfl,_,_⟩:=hG'.form;refine zWN ?_;refine Wp.freezeAll (H1:=[(g3,_),(g2,_)]) (H2:=Hs') (Zr _) (fun fz7 hle7 hf7=>?_);have hp7:=hG'.fz hle7 hf7 Zi;have hle5:=hle6.trans hle7;refine WP [] [_,_] ?_;refine wI (ik.mono (hle4.trans hle5)) hz (fun p2 hp2=>?_);refine zL hp2 ?_;intro cs2 hcs2;obtain ⟨vz,rfl,hRz⟩:=Yf hcs2;refine pT ?_;refine Yh ?_;refine Yd (Ym [] [_,_] Zz (ih _ _ _ _ _ _ _ _ _ _ _ (hsz z (by simp)) hsz2 hRz hp7 (hw.mono (hle4.trans hle5)) Zi Zi) (fun r8 fz8 H8 hle8 hR8=>?_));obtain ⟨rfl,hR8⟩:=hR8;obtain ⟨ra,rb,rfl⟩:=hR8.form;rw [<- hM] at hR8;refine ⟨⟨hle8,Zp2⟩,?_⟩;refine XD ?_ ?_
  ·refine PoS.qk ⟨hle8,Zp2⟩ (Wl ?_);refine Yh ?_;refine PoS.qk ⟨hle8,Zp2⟩ (Wl ?_);refine Yh ?_;refine PoS.qk ⟨hle8,Zp2⟩ (YV ?_);refine Yh ?_;refine PoS.qk ⟨hle8,Zp2⟩ (YV ?_);refine Po.done ?_;exact wS (h:=by exact ⟨rfl,hR8⟩)
  refine PoS.qk ⟨hle8,Zp2⟩ (Wl ?_);refine Yh ?_;refine PoS.qk ⟨hle8,Zp2⟩ (Wl ?_);refine Yh ?_;refine PoS.qk ⟨hle8,Zp2⟩ (YV ?_);refine Yh ?_;refine PoS.qk ⟨hle8,Zp2⟩ (YV ?_);refine Po.done ?_;exact wS (h:=by exact ⟨rfl,hR8⟩)
end Go.Proofs.YtiligkgjcmokbaaGreatDoor
