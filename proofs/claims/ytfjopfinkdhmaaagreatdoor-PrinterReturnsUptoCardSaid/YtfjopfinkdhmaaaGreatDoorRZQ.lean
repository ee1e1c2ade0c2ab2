/- The texts RL, RM, YK, RN, RO, laid together. Conditions: none. -/
import Derived.Test.YtfjopfinkdhmaaaGreatDoorRZP
set_option linter.all false
noncomputable section
set_option maxRecDepth 20000
namespace Go.Proofs.YtfjopfinkdhmaaaGreatDoor
open Go.Lx Go.RowKit
attribute [local instance 10] Classical.propDecidable
open Go.Proofs.Tryz (prog)
def OpQ (w:Bs):Prop:=w=XL\/w=WJ
def OpB (w:Bs):Prop:=w=kNot\/w=YgK\/w=kAnd\/w=kOr
def OpC (w:Bs):Prop:=w=kEq\/w=kLt\/w=kLe\/w=kGt\/w=kGe
def Ycu (P:Sexpr->Except Int Formula) (w:Bs) (r:List Sexpr):Except Int Formula:=
 if OpQ w then match r with
  | []=>.error 2
  | y::r'=>if y.kind≠3 then .error 2 else match parM true y.kids [] [] with
   | .error c=>.error c
   | .ok ps=>match mapE P r' with
    | .error c=>.error c
    | .ok ks=>.ok (.mk w ⟨#[]⟩ [] ps [] ks)
 else if OpB w then match mapE P r with
  | .error c=>.error c
  | .ok ks=>.ok (.mk w ⟨#[]⟩ [] [] [] ks)
 else if OpC w then match r with
  | [y,z]=>cmpM w y z
  | _=>.error 2
 else if YX w then match Yal r with
  | .error c=>.error c
  | .ok a=>.ok (.mk kAtom w a [] [] [])
 else .error 8
section
variable {P:Sexpr->Except Int Formula} {w:Bs} {r:List Sexpr} {y z:Sexpr}
theorem formB_Q (h:OpQ w):Ycu P w (y::r)=if y.kind≠3 then .error 2 else match parM true y.kids [] [] with
 | .error c=>.error c
 | .ok ps=>match mapE P r with
  | .error c=>.error c
  | .ok ks=>.ok (.mk w ⟨#[]⟩ [] ps [] ks):=by unfold Ycu;rw [if_pos h]
theorem formB_B (h0:¬OpQ w) (h:OpB w):Ycu P w r=match mapE P r with
 | .error c=>.error c
 | .ok ks=>.ok (.mk w ⟨#[]⟩ [] [] [] ks):=by unfold Ycu;rw [if_neg h0,if_pos h]
theorem formB_C (h0:¬OpQ w) (h1:¬OpB w) (h:OpC w):Ycu P w [y,z]=cmpM w y z:=by unfold Ycu;rw [if_neg h0,if_neg h1,if_pos h]
theorem formB_N (h0:¬OpQ w) (h1:¬OpB w) (h2:¬OpC w):Ycu P w r=if YX w then match Yal r with
 | .error c=>.error c
 | .ok a=>.ok (.mk kAtom w a [] [] [])
 else .error 8:=by unfold Ycu;rw [if_neg h0,if_neg h1,if_neg h2]
end
def Yas:Nat->Sexpr->Except Int Formula
 | 0,_=>.error 2
 | d+1,x=>if x.kind=3/\x.kids=[] then .ok (.mk kAnd ⟨#[]⟩ [] [] [] []) else match Xw x with
  | none=>.error 2
  | some (w,r)=>if 0<=cntM w/\cntM w≠r.length then .error 2 else Ycu (Yas d) w r
theorem Ydl {d:Nat} {x:Sexpr}:Yas (d+1) x=if x.kind=3/\x.kids=[] then .ok (.mk kAnd ⟨#[]⟩ [] [] [] []) else match Xw x with
 | none=>.error 2
 | some (w,r)=>if 0<=cntM w/\cntM w≠r.length then .error 2 else Ycu (Yas d) w r:=rfl
def ParseW (d:Nat):Prop:=∀ (fz:FZ) (x:Sexpr) (vk:Value),SizeOf.sizeOf x<=d->XSm x->YS fz x vk->
 GFn prog 185 [.agg #[Zk x.kind,Zk x.value,Zk x.line,Zk x.column,.string x.text,vk]] fz [] (fun r fz' H'=>H'=[]/\ResL YW fz' (Yas d x) r)
variable {A:Option Addr} {c n:Nat}
set_option maxHeartbeats 8000000 in
theorem kids_f {d:Nat} (ih:ParseW d) {fz:FZ} {l:List Sexpr} (h:Sl Yz fz A n c l) (hn:n<=1000000) (hz:∀ y∈l,SizeOf.sizeOf y<=d/\XSm y):
 GFn prog 216 [.slice A n c] fz [] (fun r fz' H'=>H'=[]/\ResS YW fz' (mapE (Yas d) l) r):=by
 have hl:=h.len;refine zF Tryz.func216 Tryz.ntmps216 (fun w0=>?_);refine zW ?_;refine Ym (fun q σ fz' H'=>∃ (k:Nat) (v:Value) (Hs:HP) (out:List Formula),k<=n/\q=n - k/\σ=[(11,Zk k),(10,Zk n),(9,.slice A n c),(4,v)]/\Le fz fz'/\H'=Hs/\Grow YW 38 fz' v k Hs out/\mapE (Yas d) l=exA out (mapE (Yas d) (l.drop k))) ⟨0,_,[],[],Z0 _,rfl,rfl,Le.refl _,rfl,Grow.nil _ _ _,by rw [YcL];rfl⟩ Zw Zb ?_;rintro q σ fz' H' ⟨k,v,Hs,out,hk,rfl,rfl,hle,rfl,hG,hM⟩;obtain ⟨Av,cv,rfl,_,_⟩:=hG.form;refine wC (fun c1=>?_) (fun c1=>?_)
 ·obtain ⟨y,hy⟩:=Yl (l:=l) (k:=k) Zi;have hyz:=hz y (Zm hy);refine wI (h.mono hle) hy (fun p hp=>?_);refine zL hp ?_;intro cs hcs;obtain ⟨vy,rfl,hRy⟩:=Yi hcs;obtain ⟨Ay,ny,cy,rfl,iy⟩:=hRy.kids;refine zW ?_;intros;rename_i g6;refine wK (q:=ih _ _ _ hyz.1 hyz.2 hRy) (h:=fun r2 fz2 H2 hle2 hR2=>?_);obtain ⟨rfl,de,cs2,hr2,hR2⟩:=hR2;obtain ⟨v1,v2,v3,v4,rfl,hE2⟩:=YA hr2;obtain ⟨A1,n1,b1,rfl,j1⟩:=hE2.args;obtain ⟨A2,n2,b2,rfl,j2⟩:=hE2.params;obtain ⟨A3,n3,b3,rfl,j3⟩:=hE2.exprs;obtain ⟨A4,n4,b4,rfl,j4⟩:=hE2.kids;cases hx:Yas d y with
  | error c'=>
   rw [hx] at hR2;obtain ⟨rfl,hc⟩:=hR2;have hm:=Ye0 hy hM hx;rw [Yk hc];refine zW ?_;intros;exact wS (h:=by exact ⟨rfl,by rw [hm];exact ⟨by rw [Yk hc];rfl,hc⟩⟩)
  | ok z=>
   rw [hx] at hR2;obtain ⟨rfl,rfl⟩:=hR2;have hm:=Yhv hy hM hx;refine zW ?_;intros;rename_i g7;refine Ya Zz (Yb T (cs:=[.string z.op,.string z.name,.slice A1 n1 b1,.slice A2 n2 b2,.slice A3 n3 b3,.slice A4 n4 b4]) Zz Zz Zz Zz Zz Zz Zz Zz (fun gb=>?_));refine Ya Zz (YP T (d:=z) (cs:=[.string z.op,.string z.name,.slice A1 n1 b1,.slice A2 n2 b2,.slice A3 n3 b3,.slice A4 n4 b4]) (Hr:=(gb,_)::(g7,_):: [(g6,_)]) Zz Zz Zz Zz Zz Zz Zz Zz (Zr _) (hG.mono hle2) YdT (.head _) hr2 (by show _*128<=_;omega) Zi (fun v' Hs' hG'=>?_));exact wP (h:=by exact ⟨k+1,v',Hs',out++ [z],by omega,rfl,rfl,hle.trans hle2,rfl,hG',hm⟩)
 have hm:=Ye1 Zi hM;refine zW ?_;refine YjC rfl rfl rfl (fun fz3 hle3 hf3=>⟨rfl,?_⟩);obtain ⟨A1,c1',hv1,hS1⟩:=hG.sl hle3 hf3 Zi;injection hv1 with hv1 hv2 hv3
 subst hv1 hv3;rw [hm];exact ⟨_,_,_,rfl,hS1⟩
def FrmR (fz:FZ) (m:Except Int Formula) (ev:Value) (cs:List Value):Prop:=
 (∃ a1 a2 A1 n1 c1 A2 n2 c2 A3 n3 c3 A4 n4 c4,cs=[.string a1,.string a2,.slice A1 n1 c1,.slice A2 n2 c2,.slice A3 n3 c3,.slice A4 n4 c4])/\
 ((∃ c,c≠0/\m=.error c/\ev=.iface 65 (Zk c))\/∃ f,m=.ok f/\ev=.nilIface/\YW.rep fz f cs)
set_option maxHeartbeats 16000000 in
theorem fparse_f (d:Nat):ParseW d:=by
 induction d with
 | zero=>intro fz x vk hz _ _;cases x;simp at hz
 | succ d ih=>
  intro fz x vk hz hs hR;obtain ⟨A,n,c,rfl,ik⟩:=hR.kids;have hl:=ik.len;have hM:=Ydl (d:=d) (x:=x);refine zF Tryz.func185 Tryz.ntmps185 (fun w0=>?_);refine zWX ?_;refine Yj ?_;refine zWX ?_;intros;rename_i g1 g2;refine Yj ?_;refine Yj (Wp.mid (fun σ fz' H'=>∃ bb:Bool,σ=[(18,.bool bb),(2,Zp g2),(1,Zp g1)]/\fz=fz'/\H'=[(g2,.cells #[Ze,Ze,Zn,Zn,Zn,Zn] 38 (0,0)),(g1,.cells #[Zk x.kind,Zk x.value,Zk x.line,Zk x.column,.string x.text,.slice A n c] 57 (0,0))]/\(bb=true↔x.kind=3/\x.kids=[])) ?_ ?_)
  ·refine zW ?_;refine zC (fun c1=>?_) (fun c1=>?_)
   ·refine zW ?_;refine zC (fun c2=>?_) (fun c2=>?_)
    ·refine zW ?_;exact midN ⟨true,rfl,rfl,rfl,iff_of_true rfl ⟨c1,List.eq_nil_of_length_eq_zero Zi⟩⟩ Zw Zb
    refine zW ?_;exact midN ⟨false,rfl,rfl,rfl,iff_of_false Zh (fun h=>c2 (by rw [h.2] at hl;simp at hl;omega))⟩ Zw Zb
   refine zW ?_;exact midN ⟨false,rfl,rfl,rfl,iff_of_false Zh (fun h=>c1 h.1)⟩ Zw Zb
  rintro σ fz' H' ⟨bb,rfl,rfl,rfl,hb⟩;cases bb with
  | true=>
   rw [if_pos (hb.1 rfl)] at hM;refine zW ?_;exact YN T (vs:=[.agg #[.string kAnd,Ze,Zn,Zn,Zn,Zn],.nilIface]) Zz ⟨⟨_,_,0,_,_,_,rfl,rfl,rfl,rfl,rfl,rfl⟩,rfl,trivial⟩ (fun fz3 hle3 hf3=>⟨rfl,ResL.fine hM (YaG (by unfold Short;decide) XV IsSl.nil IsSl.nil IsSl.nil IsSl.nil)⟩)
  | false=>
   rw [if_neg (fun h=>absurd (hb.2 h) Zh)] at hM;refine zW ?_;refine Ya Zz (Yx [] _ Zz Zz Zz (head_f hR) (fun r1 fz1 H1 hle1 hR1=>?_));obtain ⟨rfl,rfl,hR1⟩:=hR1;unfold Ydy at hR1;cases hh:Xw x with
   | none=>
    rw [hh] at hR1 hM;subst hR1;refine zW ?_;exact YN T (vs:=[.agg #[Ze,Ze,Zn,Zn,Zn,Zn],.iface 65 (Zk 2)]) Zz ⟨⟨_,_,0,_,_,_,rfl,rfl,rfl,rfl,rfl,rfl⟩,rfl,trivial⟩ (fun fz3 hle3 hf3=>⟨rfl,ResL.err hM Zh YaC⟩)
   | some wr=>
    obtain ⟨w,r⟩:=wr;rw [hh] at hR1 hM;obtain ⟨A',n',c',rfl,ir,hw⟩:=hR1;simp only at hM;have hrl:=ir.len;have hrs:=WA hs hh;have hrz:∀ y∈r,SizeOf.sizeOf y<=d/\XSm y:=fun y hy=>⟨by have:=YjX hh hy;omega,Wf hs hh hy⟩
    refine zW ?_;refine zc (count_q (w:=w)) ?_;refine zWX ?_;refine Yj (Wp.mid (fun σ fz' H'=>∃ bb:Bool,σ=[(39,.bool bb),(5,.slice A' n' c'),(4,.string w),(2,Zp g2)]/\fz1=fz'/\H'=[(g2,.cells #[Ze,Ze,Zn,Zn,Zn,Zn] 38 (0,0))]/\(bb=true↔0<=cntM w/\cntM w≠r.length)) ?_ ?_)
    ·refine zW ?_;refine zC (fun c3=>?_) (fun c3=>?_)
     ·refine zW ?_;refine zC (fun c4=>?_) (fun c4=>?_)
      ·refine zW ?_;exact midN ⟨true,rfl,rfl,rfl,iff_of_true rfl ⟨c3,by rw [hrl];exact c4⟩⟩ Zw Zb
      refine zW ?_;exact midN ⟨false,rfl,rfl,rfl,iff_of_false Zh (fun h=>h.2 (by rw [hrl];exact c4))⟩ Zw Zb
     refine zW ?_;exact midN ⟨false,rfl,rfl,rfl,iff_of_false Zh (fun h=>c3 h.1)⟩ Zw Zb
    rintro σ fz' H' ⟨bb,rfl,rfl,rfl,hb39⟩;cases bb with
    | true=>
     rw [if_pos (hb39.1 rfl)] at hM;refine zW ?_;exact YN T (vs:=[.agg #[Ze,Ze,Zn,Zn,Zn,Zn],.iface 65 (Zk 2)]) Zz ⟨⟨_,_,0,_,_,_,rfl,rfl,rfl,rfl,rfl,rfl⟩,rfl,trivial⟩ (fun fz3 hle3 hf3=>⟨rfl,ResL.err hM Zh YaC⟩)
    | false=>
     have hcnt:¬(0<=cntM w/\cntM w≠r.length):=fun h=>absurd (hb39.2 h) Zh
     rw [if_neg hcnt] at hM;have two:Cnt2 w->¬w=kNot->∃ y z,r=[y,z]:=fun h1 h2=>by
      unfold cntM at hcnt;rw [if_neg h2,if_pos h1] at hcnt;have h3:r.length=2:=by omega
      match r,h3 with
      | [y,z],_=>exact ⟨y,z,rfl⟩
     refine zWX ?_;refine Yj ?_;refine zWX ?_;intros;rename_i g8;refine Yj ?_;refine zWX ?_;refine Yj (Wp.mid (fun σ fz' H'=>∃ ev cs,σ=[(9,ev),(8,Zp g8),(2,Zp g2)]/\Le fz1 fz'/\H'=[(g8,.cells (List.toArray cs) 38 (0,0)),(g2,.cells #[Ze,Ze,Zn,Zn,Zn,Zn] 38 (0,0))]/\FrmR fz' (Yas (d+1) x) ev cs) ?_ ?_)
     ·refine zWX ?_;refine Yj ?_;refine zWX ?_;refine Yj (Wp.mid (fun σ fz' H'=>∃ bb:Bool,σ=[(59,.bool bb),(44,.string w),(9,.nilIface),(8,Zp g8),(5,.slice A' n' c'),(4,.string w),(2,Zp g2)]/\fz1=fz'/\H'=[(g8,.cells #[.string w,Ze,Zn,Zn,Zn,Zn] 38 (0,0)),(g2,.cells #[Ze,Ze,Zn,Zn,Zn,Zn] 38 (0,0))]/\(bb=true↔OpQ w)) ?_ ?_)
      ·refine zW ?_;refine zC (fun c5=>?_) (fun c5=>?_)
       ·refine zW ?_;exact midN ⟨true,rfl,rfl,rfl,iff_of_true rfl (.inl c5)⟩ Zw Zb
       refine zW ?_;refine zC (fun c6=>?_) (fun c6=>?_)
       ·refine zW ?_;exact midN ⟨true,rfl,rfl,rfl,iff_of_true rfl (.inr c6)⟩ Zw Zb
       refine zW ?_;exact midN ⟨false,rfl,rfl,rfl,iff_of_false Zh (fun h=>h.elim c5 c6)⟩ Zw Zb
      rintro σ fz' H' ⟨bb,rfl,rfl,rfl,hbQ⟩;cases bb with
      | true=>
       have hQ:=hbQ.1 rfl;obtain ⟨y,z,rfl⟩:=two (by rcases hQ with h | h;exact .inr (.inl h);exact .inr (.inr (.inl h))) (by rcases hQ with rfl | rfl<;>exact fun h=>absurd (congrArg ByteArray.size h) Zh);simp only [List.length_cons,List.length_nil] at hrl;rw [formB_Q hQ] at hM;have hy0: [y,z][0]?=some y:=rfl;refine zW ?_;refine zI ir hy0 (fun p hp=>?_);refine zW ?_
       ((refine zG ?_);refine XG T Zz Zz Zz hp.Sexpr_kind (fun i1=>?_));refine zC (fun c7=>?_) (fun c7=>?_)
       ·rw [if_pos c7] at hM;refine zW ?_;exact YN T (vs:=[.agg #[Ze,Ze,Zn,Zn,Zn,Zn],.iface 65 (Zk 2)]) Zz ⟨⟨_,_,1,_,_,_,rfl,rfl,rfl,rfl,rfl,rfl⟩,rfl,trivial⟩ (fun fz3 hle3 hf3=>⟨rfl,ResL.err hM Zh YaC⟩)
       rw [if_neg (Classical.not_not.2 c7)] at hM;have hys:=(hrz y (by simp)).2;have hyl:y.kids.length<=1000000:=(Y2.1 hys).1;refine zW ?_;refine zI ir hy0 (fun p2 hp2=>?_);refine zW ?_
       ((refine zG ?_);refine Ybh T Zz Zz Zz hp2.Sexpr_kids (fun Ay ny cy iy=>?_));have hyn:=iy.len;refine Ya Zz (Yx [] _ Zz Zz Zz (YaN (b:=true) iy Zi) (fun r2 fz2 H2 hle2 hR2=>?_));obtain ⟨rfl,hR2⟩:=hR2;cases hps:parM true y.kids [] [] with
       | error c1=>
        rw [hps] at hM hR2;obtain ⟨rfl,hc⟩:=hR2;rw [Yk hc];refine zW ?_;exact midN ⟨_,_,rfl,hle2,rfl,⟨_,_,_,_,_,_,_,_,_,_,_,_,_,_,rfl⟩,.inl ⟨c1,hc,hM,rfl⟩⟩ Zw Zb
       | ok ps=>
        rw [hps] at hM hR2;obtain ⟨A3,n3,c3,rfl,ia⟩:=hR2;simp only at hM;refine zW ?_;refine zG ?_;refine XC (j:=1) T Zz Zz Zz Zz Zz Zz (ir.mono hle2) Zi (fun A4 hA4=>?_);refine Ya Zz (Yx [] _ Zz Zz Zz (kids_f ih hA4 Zi (fun k hk=>hrz k (List.mem_of_mem_drop hk))) (fun r5 fz5 H5 hle5 hR5=>?_));obtain ⟨rfl,hR5⟩:=hR5;have hdr: [y,z].drop 1=[z]:=rfl;rw [hdr] at hR5;cases hks:mapE (Yas d) [z] with
        | error c1=>
         rw [hks] at hM hR5;obtain ⟨rfl,hc⟩:=hR5;rw [Yk hc];refine zW ?_;exact midN ⟨_,_,rfl,hle2.trans hle5,rfl,⟨_,_,_,_,_,_,_,_,_,_,_,_,_,_,rfl⟩,.inl ⟨c1,hc,hM,rfl⟩⟩ Zw Zb
        | ok ks=>
         rw [hks] at hM hR5;obtain ⟨A6,n6,c6,rfl,ik6⟩:=hR5;refine zW ?_;exact midN ⟨_,_,rfl,hle2.trans hle5,rfl,⟨_,_,_,_,_,_,_,_,_,_,_,_,_,_,rfl⟩,.inr ⟨_,hM,rfl,YaG hw XV IsSl.nil ⟨_,_,_,rfl,ia.mono hle5⟩ IsSl.nil ⟨_,_,_,rfl,ik6⟩⟩⟩ Zw Zb
      | false=>
       have hQ:¬OpQ w:=fun h=>absurd (hbQ.2 h) Zh
       refine zWX ?_;refine Yj (Wp.mid (fun σ fz' H'=>∃ bb:Bool,σ=[(87,.bool bb),(44,.string w),(9,.nilIface),(8,Zp g8),(5,.slice A' n' c'),(4,.string w),(2,Zp g2)]/\fz1=fz'/\H'=[(g8,.cells #[.string w,Ze,Zn,Zn,Zn,Zn] 38 (0,0)),(g2,.cells #[Ze,Ze,Zn,Zn,Zn,Zn] 38 (0,0))]/\(bb=true↔OpB w)) ?_ ?_)
       ·refine zW ?_;refine zC (fun c5=>?_) (fun c5=>?_)
        ·refine zW ?_;exact midN ⟨true,rfl,rfl,rfl,iff_of_true rfl (.inl c5)⟩ Zw Zb
        refine zW ?_;refine zC (fun c6=>?_) (fun c6=>?_)
        ·refine zW ?_;exact midN ⟨true,rfl,rfl,rfl,iff_of_true rfl (.inr (.inl c6))⟩ Zw Zb
        refine zW ?_;refine zC (fun c7=>?_) (fun c7=>?_)
        ·refine zW ?_;exact midN ⟨true,rfl,rfl,rfl,iff_of_true rfl (.inr (.inr (.inl c7)))⟩ Zw Zb
        refine zW ?_;refine zC (fun c8=>?_) (fun c8=>?_)
        ·refine zW ?_;exact midN ⟨true,rfl,rfl,rfl,iff_of_true rfl (.inr (.inr (.inr c8)))⟩ Zw Zb
        refine zW ?_;exact midN ⟨false,rfl,rfl,rfl,iff_of_false Zh (fun h=>by rcases h with h | h | h | h;exact c5 h;exact c6 h;exact c7 h;exact c8 h)⟩ Zw Zb
       rintro σ fz' H' ⟨bb,rfl,rfl,rfl,hbB⟩;cases bb with
       | true=>
        rw [formB_B hQ (hbB.1 rfl)] at hM;refine zW ?_;refine Ya Zz (Yx [] _ Zz Zz Zz (kids_f ih ir Zi hrz) (fun r5 fz5 H5 hle5 hR5=>?_));obtain ⟨rfl,hR5⟩:=hR5;cases hks:mapE (Yas d) r with
        | error c1=>
         rw [hks] at hM hR5;obtain ⟨rfl,hc⟩:=hR5;rw [Yk hc];refine zW ?_;exact midN ⟨_,_,rfl,hle5,rfl,⟨_,_,_,_,_,_,_,_,_,_,_,_,_,_,rfl⟩,.inl ⟨c1,hc,hM,rfl⟩⟩ Zw Zb
        | ok ks=>
         rw [hks] at hM hR5;obtain ⟨A6,n6,c6,rfl,ik6⟩:=hR5;refine zW ?_;exact midN ⟨_,_,rfl,hle5,rfl,⟨_,_,_,_,_,_,_,_,_,_,_,_,_,_,rfl⟩,.inr ⟨_,hM,rfl,YaG hw XV IsSl.nil IsSl.nil IsSl.nil ⟨_,_,_,rfl,ik6⟩⟩⟩ Zw Zb
       | false=>
        have hB:¬OpB w:=fun h=>absurd (hbB.2 h) Zh
        refine zWX ?_;refine Yj (Wp.mid (fun σ fz' H'=>∃ bb:Bool,σ=[(98,.bool bb),(44,.string w),(9,.nilIface),(8,Zp g8),(5,.slice A' n' c'),(4,.string w),(2,Zp g2)]/\fz1=fz'/\H'=[(g8,.cells #[.string w,Ze,Zn,Zn,Zn,Zn] 38 (0,0)),(g2,.cells #[Ze,Ze,Zn,Zn,Zn,Zn] 38 (0,0))]/\(bb=true↔OpC w)) ?_ ?_)
        ·refine zW ?_;refine zC (fun c5=>?_) (fun c5=>?_)
         ·refine zW ?_;exact midN ⟨true,rfl,rfl,rfl,iff_of_true rfl (.inl c5)⟩ Zw Zb
         refine zW ?_;refine zC (fun c6=>?_) (fun c6=>?_)
         ·refine zW ?_;exact midN ⟨true,rfl,rfl,rfl,iff_of_true rfl (.inr (.inl c6))⟩ Zw Zb
         refine zW ?_;refine zC (fun c7=>?_) (fun c7=>?_)
         ·refine zW ?_;exact midN ⟨true,rfl,rfl,rfl,iff_of_true rfl (.inr (.inr (.inl c7)))⟩ Zw Zb
         refine zW ?_;refine zC (fun c8=>?_) (fun c8=>?_)
         ·refine zW ?_;exact midN ⟨true,rfl,rfl,rfl,iff_of_true rfl (.inr (.inr (.inr (.inl c8))))⟩ Zw Zb
         refine zW ?_;refine zC (fun c9=>?_) (fun c9=>?_)
         ·refine zW ?_;exact midN ⟨true,rfl,rfl,rfl,iff_of_true rfl (.inr (.inr (.inr (.inr c9))))⟩ Zw Zb
         refine zW ?_;exact midN ⟨false,rfl,rfl,rfl,iff_of_false Zh (fun h=>by rcases h with h | h | h | h | h;exact c5 h;exact c6 h;exact c7 h;exact c8 h;exact c9 h)⟩ Zw Zb
        rintro σ fz' H' ⟨bb,rfl,rfl,rfl,hbC⟩;cases bb with
        | true=>
         have hC:=hbC.1 rfl;obtain ⟨y,z,rfl⟩:=two (by rcases hC with h | h | h | h | h;exact .inr (.inr (.inr (.inl h)));exact .inr (.inr (.inr (.inr (.inl h))));exact .inr (.inr (.inr (.inr (.inr (.inl h)))));exact .inr (.inr (.inr (.inr (.inr (.inr (.inl h))))));exact .inr (.inr (.inr (.inr (.inr (.inr (.inr h))))))) (by rcases hC with rfl | rfl | rfl | rfl | rfl<;>exact fun h=>absurd (congrArg ByteArray.size h) Zh);simp only [List.length_cons,List.length_nil] at hrl;rw [formB_C hQ hB hC] at hM;have hy0: [y,z][0]?=some y:=rfl;have hz1: [y,z][1]?=some z:=rfl;refine zWX ?_;refine Wp.drawP [] (Hq:=[_,_]) T.mixed Zj Zj Zb ?_;refine zW ?_;refine zI ir hy0 (fun p hp=>?_);refine zL hp ?_;intro cs hcs;obtain ⟨vy,rfl,hRy⟩:=Yi hcs;refine zW ?_;refine zI ir hz1 (fun p2 hp2=>?_);refine zL hp2 ?_;intro cs2 hcs2;obtain ⟨vz,rfl,hRz⟩:=Yi hcs2;refine Ye ?_;refine Ye ?_;refine Ye ?_;refine Ye ?_;refine Ye ?_;refine Ye ?_;refine PK.done ⟨by kernel_rfl,?_⟩;refine Yc Zz Zz ?_;refine Yd (Yx [] [_,_] Zz Zz Zz (YlF hw (hrz y (by simp)).2 (hrz z (by simp)).2 hRy hRz) (fun r4 fz4 H4 hle4 hR4=>?_));obtain ⟨rfl,f4,cs4,hr4,hR4⟩:=hR4;obtain ⟨v1,v2,v3,v4,rfl,hE4⟩:=YA hr4;obtain ⟨B1,m1,d1,rfl,j1⟩:=hE4.args;obtain ⟨B2,m2,d2,rfl,j2⟩:=hE4.params;obtain ⟨B3,m3,d3,rfl,j3⟩:=hE4.exprs;obtain ⟨B4,m4,d4,rfl,j4⟩:=hE4.kids;obtain ⟨ev,rfl,hF⟩:∃ ev,r4=.tuple #[.agg #[.string f4.op,.string f4.name,.slice B1 m1 d1,.slice B2 m2 d2,.slice B3 m3 d3,.slice B4 m4 d4],ev]/\FrmR fz4 (Yas (d+1) x) ev [.string f4.op,.string f4.name,.slice B1 m1 d1,.slice B2 m2 d2,.slice B3 m3 d3,.slice B4 m4 d4]:=by
          rw [hM];cases hc4:cmpM w y z with
          | error c1=>
           rw [hc4] at hR4;exact ⟨_,hR4.1,⟨_,_,_,_,_,_,_,_,_,_,_,_,_,_,rfl⟩,.inl ⟨c1,hR4.2,rfl,Yk hR4.2⟩⟩
          | ok f5=>
           rw [hc4] at hR4;exact ⟨_,hR4.2,⟨_,_,_,_,_,_,_,_,_,_,_,_,_,_,rfl⟩,.inr ⟨f5,rfl,rfl,hR4.1 ▸ hr4⟩⟩
         refine ⟨(⟨hle4,Zp2⟩),?_⟩;refine Yc Zz Zz ?_;refine PoS.qk (⟨hle4,Zp2⟩) (WH Zz ?_);refine YI Zz Zz Zz ?_ ?_
         ·refine PoS.qk (⟨hle4,Zp2⟩) (Wh Zz Zz ?_);refine YI Zz Zz Zz ?_ ?_
          ·refine PoS.qk (⟨hle4,Zp2⟩) (Wh Zz Zz ?_);refine Yc Zz Zz ?_;refine PoS.hard0 Zj (YV T Zz Zz Zz Zz Zz Zz ?_);refine Yc Zz Zz ?_;refine PoS.hard Zj (DoesQ.does (YY Zz ?_));refine Po.done ?_;refine zW ?_;exact midN ⟨_,_,rfl,hle4,rfl,hF⟩ Zw Zb
          refine PoS.hard0 Zj (YV T Zz Zz Zz Zz Zz Zz ?_);refine Yc Zz Zz ?_;refine PoS.hard Zj (DoesQ.does (Wh Zz Zz ?_));refine Yc Zz Zz ?_;refine PoS.hard Zj (DoesQ.does (YY Zz ?_));refine Po.done ?_;refine zW ?_;exact midN ⟨_,_,rfl,hle4,rfl,hF⟩ Zw Zb
         refine PoS.qk (⟨hle4,Zp2⟩) (Wh Zz Zz ?_);refine Yc Zz Zz ?_;refine PoS.qk (⟨hle4,Zp2⟩) (Wh Zz Zz ?_);refine Yc Zz Zz ?_;refine PoS.hard0 Zj (YV T Zz Zz Zz Zz Zz Zz ?_);refine Yc Zz Zz ?_;refine PoS.hard Zj (DoesQ.does (YY Zz ?_));refine Po.done ?_;refine zW ?_;exact midN ⟨_,_,rfl,hle4,rfl,hF⟩ Zw Zb
        | false=>
         rw [formB_N hQ hB (fun h=>absurd (hbC.2 h) Zh)] at hM;refine zW ?_;refine zb (Ww hw) (fun f1=>?_) (fun f1=>?_)
         ·rw [if_pos (Zt f1)] at hM;refine zW ?_;refine Ya Zz (Yx [] _ Zz Zz Zz (Yjw ir Zi) (fun r2 fz2 H2 hle2 hR2=>?_));obtain ⟨rfl,hR2⟩:=hR2;cases ht:Yal r with
          | error c1=>
           rw [ht] at hM hR2;obtain ⟨rfl,hc⟩:=hR2;rw [Yk hc];refine zW ?_;exact midN ⟨_,_,rfl,hle2,rfl,⟨_,_,_,_,_,_,_,_,_,_,_,_,_,_,rfl⟩,.inl ⟨c1,hc,hM,rfl⟩⟩ Zw Zb
          | ok a=>
           rw [ht] at hM hR2;obtain ⟨A6,n6,c6,rfl,ia⟩:=hR2;exact wN (h:=by exact ⟨_,_,rfl,hle2,rfl,⟨_,_,_,_,_,_,_,_,_,_,_,_,_,_,rfl⟩,.inr ⟨_,hM,rfl,YaG (by unfold Short;decide) hw ⟨_,_,_,rfl,ia⟩ IsSl.nil IsSl.nil IsSl.nil⟩⟩)
         rw [if_neg (Zf f1)] at hM;refine zW ?_;exact YN T (vs:=[.agg #[Ze,Ze,Zn,Zn,Zn,Zn],.iface 65 (Zk 8)]) Zz ⟨⟨_,_,1,_,_,_,rfl,rfl,rfl,rfl,rfl,rfl⟩,rfl,trivial⟩ (fun fz3 hle3 hf3=>⟨rfl,ResL.err hM Zh YaC⟩)
     rintro σ fz' H' ⟨ev,cs,rfl,hle,rfl,⟨a1,a2,B1,m1,d1,B2,m2,d2,B3,m3,d3,B4,m4,d4,rfl⟩,hF⟩;rcases hF with ⟨c1,hc,hm,rfl⟩ | ⟨f,hm,rfl,hr⟩
     ·refine zW ?_;exact YN T (vs:=[.agg #[Ze,Ze,Zn,Zn,Zn,Zn],.iface 65 (Zk c1)]) Zz ⟨⟨_,_,1,_,_,_,rfl,rfl,rfl,rfl,rfl,rfl⟩,rfl,trivial⟩ (fun fz3 hle3 hf3=>⟨rfl,ResL.err hm hc YaC⟩)
     refine zW ?_;exact YN T (vs:=[.agg #[.string a1,.string a2,.slice B1 m1 d1,.slice B2 m2 d2,.slice B3 m3 d3,.slice B4 m4 d4],.nilIface]) Zz ⟨⟨_,_,1,_,_,_,rfl,rfl,rfl,rfl,rfl,rfl⟩,rfl,trivial⟩ (fun fz3 hle3 hf3=>⟨rfl,ResL.fine hm (YW.mono hle3 hr)⟩)
theorem Yi4 {α:Type} {o l:List α} {x:Except Int (List α)} (h:exA o x=.ok l):∃ r,x=.ok r/\l=o++r:=by
 cases x with
 | error c=>cases h
 | ok r=>injection h with h;exact ⟨r,rfl,h.symm⟩
theorem YdC:∀ {l:List Sexpr} {a:List Bs},Yal l=.ok a->a.length=l.length
 | [],a,h=>by rw [Yal] at h;injection h with h;subst h;rfl
 | x::r,a,h=>by
  rw [Yal] at h;split at h
  ·cases h
  split at h
  ·cases h
  obtain ⟨b,h1,rfl⟩:=Yi4 h;rw [List.length_append,YdC h1,List.length_cons,List.length_cons,List.length_nil];omega
theorem Yc2 {α β:Type} {f:α->Except Int β}:∀ {l:List α} {a:List β},mapE f l=.ok a->a.length=l.length/\∀ z∈a,∃ y∈l,f y=.ok z
 | [],a,h=>by rw [mapE] at h;injection h with h;subst h;exact ⟨rfl,fun z hz=>by cases hz⟩
 | x::r,a,h=>by
  rw [mapE] at h;split at h
  ·cases h
  rename_i y hy;obtain ⟨b,h1,rfl⟩:=Yi4 h;obtain ⟨h2,h3⟩:=Yc2 h1;refine ⟨by rw [List.length_append,h2,List.length_cons,List.length_cons,List.length_nil];omega,fun z hz=>?_⟩;rcases List.mem_append.1 hz with hz | hz
  ·simp at hz;subst hz;exact ⟨x,by simp,hy⟩
  obtain ⟨u,h4,h5⟩:=h3 z hz;exact ⟨u,List.mem_cons_of_mem _ h4,h5⟩
theorem Yeh {b:Bool}:∀ {l:List Sexpr} {done:List Param} {opn:List Bs} {a:List Param},parM b l done opn=.ok a->a.length<=done.length+opn.length+l.length
 | [],done,opn,a,h=>by rw [parM] at h;injection h with h;subst h;simp [parT]
 | x::r,done,opn,a,h=>by
  rw [YiD] at h;split at h
  ·cases h
  split at h
  ·split at h
   ·cases h
   have:=Yeh h;rw [List.length_append,List.length_singleton] at this;rw [List.length_cons];omega
  match r,h with
  | [],h=>cases h
  | y::r',h=>
   simp only at h;split at h
   ·cases h
   split at h
   ·cases h
   have:=Yeh h;rw [List.length_append] at this;simp only [parT,List.length_map,List.length_nil] at this;simp only [List.length_cons];omega
theorem xsm_of:∀ (s:Nat) {x:Sexpr},SizeOf.sizeOf x<=s->xcount x<=4096->XSm x
 | 0,x,h,_=>by cases x;simp at h
 | s+1,x,h,hc=>by
  have e:=Y4 x;have:=X9 (l:=x.kids);refine Y2.2 ⟨by show x.kids.length<=1000000;omega,fun k hk=>?_⟩;have:=Sexpr.kids_lt hk;have:=XX hk;exact xsm_of s Zi Zi
theorem XVal.sm {x:Sexpr} (h:XVal x):XSm x:=xsm_of _ (Zs _) h.2.2
theorem YdI:∀ (d:Nat) {x:Sexpr} {e:Lx.Expr},XSm x->Ydd d x=.ok e->ESm e
 | 0,x,e,_,h=>by cases h
 | d+1,x,e,hs,h=>by
  rw [Ydm] at h;split at h
  ·injection h with h;subst h;exact W0.2 ⟨by show 0<=_;omega,fun k hk=>by cases hk⟩
  split at h
  ·cases h
  rename_i w r hh;have hl:=WA hs hh;split at h
  ·split at h
   ·cases h
   split at h
   ·cases h
   rename_i l hm;injection h with h
   subst h;obtain ⟨_,h2⟩:=Yc2 hm;refine W0.2 ⟨by show 0<=_;omega,fun k hk=>?_⟩;obtain ⟨y,h3,h4⟩:=h2 k hk;exact YdI d (Wf hs hh h3) h4
  split at h
  ·split at h
   ·cases h
   rename_i a hm;injection h with h
   subst h;refine W0.2 ⟨by show a.length<=_;rw [YdC hm];omega,fun k hk=>by cases hk⟩
  cases h
variable {f:Formula}
theorem cmp_sm {w:Bs} {y z:Sexpr} (hy:XSm y) (hz:XSm z) (h:cmpM w y z=.ok f):FSm f:=by
 unfold cmpM at h;split at h
 ·split at h
  ·cases h
  rename_i a hm;injection h with h
  subst h;have:=YdC hm;exact Wc.2 ⟨⟨by show a.length<=_;rw [this,List.length_cons,List.length_cons,List.length_nil];omega,by show 0<=_;omega,by show 0<=_;omega⟩,fun e he=>(by cases he),fun k hk=>by cases hk⟩
 split at h
 ·cases h
 rename_i a ha;split at h
 ·cases h
 rename_i b hb;injection h with h
 have h1:=YdI _ hy ha;have h2:=YdI _ hz hb;have key:∀ (v:Bs) (l:List Lx.Expr),(∀ e∈l,ESm e)->FSm (.mk v ⟨#[]⟩ [] [] l []):=fun v l hl=>Wc.2 ⟨⟨by show 0<=_;omega,by show 0<=_;omega,by show 0<=_;omega⟩,hl,fun k hk=>by cases hk⟩
 unfold Yn2 at h;split at h
 ·subst h;exact key _ _ (by intro e he;simp at he;rcases he with rfl | rfl;exact h2;exact h1)
 split at h
 ·subst h;exact key _ _ (by intro e he;simp at he;rcases he with rfl | rfl;exact h2;exact h1)
 subst h;exact key _ _ (by intro e he;simp at he;rcases he with rfl | rfl;exact h1;exact h2)
theorem YeZ:∀ (d:Nat) {x:Sexpr} {f:Formula},XSm x->Yas d x=.ok f->FSm f
 | 0,x,f,_,h=>by cases h
 | d+1,x,f,hs,h=>by
  have zero:∀ (w v:Bs) (a:List Bs) (p:List Param) (k:List Formula),a.length<=1000000->p.length<=1000000->k.length<=1000000->(∀ y∈k,FSm y)->FSm (.mk w v a p [] k):=fun w v a p k h1 h2 h3 h4=>Wc.2 ⟨⟨by show a.length<=_;omega,by show p.length<=_;omega,by show k.length<=_;omega⟩,fun e he=>(by cases he),h4⟩
  rw [Ydl] at h;split at h
  ·injection h with h;subst h;exact zero _ _ _ _ _ Zh Zh Zh (fun y hy=>by cases hy)
  split at h
  ·cases h
  rename_i w r hh;have hl:=WA hs hh;split at h
  ·cases h
  unfold Ycu at h;split at h
  ·split at h
   ·cases h
   rename_i y r' _;split at h
   ·cases h
   split at h
   ·cases h
   rename_i ps hp;split at h
   ·cases h
   rename_i ks hk;injection h with h
   subst h;obtain ⟨h1,h2⟩:=Yc2 hk;have h3:=Yeh hp;have h4:=(Y2.1 (Wf hs hh (y:=y) (by simp))).1;unfold XSmN at h4;rw [List.length_cons] at hl;refine zero _ _ _ _ _ Zh (by simpa using Nat.le_trans h3 (by simpa using h4)) Zi (fun u hu=>?_);obtain ⟨v,h5,h6⟩:=h2 u hu;exact YeZ d (Wf hs hh (List.mem_cons_of_mem _ h5)) h6
  split at h
  ·split at h
   ·cases h
   rename_i ks hk;injection h with h
   subst h;obtain ⟨h1,h2⟩:=Yc2 hk;refine zero _ _ _ _ _ Zh Zh Zi (fun u hu=>?_);obtain ⟨v,h5,h6⟩:=h2 u hu;exact YeZ d (Wf hs hh h5) h6
  split at h
  ·split at h
   ·rename_i y z;exact cmp_sm (Wf hs hh (by simp)) (Wf hs hh (by simp)) h
   cases h
  split at h
  ·split at h
   ·cases h
   rename_i a ha;injection h with h
   subst h;exact zero _ _ _ _ _ (by rw [YdC ha];omega) Zh Zh (fun y hy=>by cases hy)
  cases h
def YmY (x:Sexpr):Except Int Formula:=Yas (SizeOf.sizeOf x) x
def WU (x:Sexpr):Except Int Formula:=if XVal x then match YmY x with
 | .error c=>.error c
 | .ok f=>if FVal f then .ok f else .error 5
 else .error 2
def YdJ (x:Sexpr):Except Int Lx.Expr:=if XVal x then match Yfu x with
 | .error c=>.error c
 | .ok e=>if EVal e then .ok e else .error 5
 else .error 2
variable {vk:Value}
set_option maxHeartbeats 4000000 in
theorem Yc3 {fz:FZ} {x:Sexpr} (hR:YS fz x vk):
 GFn prog 145 [.agg #[Zk x.kind,Zk x.value,Zk x.line,Zk x.column,.string x.text,vk]] fz [] (fun r fz' H'=>H'=[]/\ResL YW fz' (WU x) r):=by
 obtain ⟨A,n,c,rfl,ik⟩:=hR.kids;have hM:WU x=if XVal x then match YmY x with
  | .error c=>.error c
  | .ok f=>if FVal f then .ok f else .error 5
 else .error 2:=rfl
 refine zF Tryz.func145 Tryz.ntmps145 (fun w0=>?_);refine zW ?_;intros;refine zb (WZ hR) (fun f1=>?_) (fun f1=>?_)
 ·have hv:=Zt f1;rw [if_pos hv] at hM;refine wK (q:=fparse_f _ _ _ _ (Zs _) hv.sm hR) (h:=fun r4 fz4 H4 hle4 hR4=>?_);obtain ⟨rfl,f4,cs4,hr4,hR4⟩:=hR4;obtain ⟨v1,v2,v3,v4,rfl,hE4⟩:=YA hr4;obtain ⟨B1,m1,d1,rfl,j1⟩:=hE4.args;obtain ⟨B2,m2,d2,rfl,j2⟩:=hE4.params;obtain ⟨B3,m3,d3,rfl,j3⟩:=hE4.exprs;obtain ⟨B4,m4,d4,rfl,j4⟩:=hE4.kids;cases hp:Yas (SizeOf.sizeOf x) x with
  | error c1=>
   rw [hp] at hR4;rw [show YmY x=.error c1 from hp] at hM;obtain ⟨rfl,hc⟩:=hR4;rw [Yk hc];refine zW ?_;intros;exact YN T (vs:=[.agg #[Ze,Ze,Zn,Zn,Zn,Zn],.iface 65 (Zk c1)]) Zz ⟨⟨_,_,1,_,_,_,rfl,rfl,rfl,rfl,rfl,rfl⟩,rfl,trivial⟩ (fun fz3 hle3 hf3=>⟨rfl,ResL.err hM hc YaC⟩)
  | ok f=>
   rw [hp] at hR4;rw [show YmY x=.ok f from hp] at hM;obtain ⟨rfl,rfl⟩:=hR4;simp only at hM;refine zW ?_;intros
   ((refine zG ?_);refine We Zz Zz (Yk0 hE4 (YeZ _ hv.sm hp)) (fun f2=>?_) (fun f2=>?_))
   ·rw [if_pos (Zt f2)] at hM;refine zW ?_;exact YN T (vs:=[.agg #[.string f.op,.string f.name,.slice B1 m1 d1,.slice B2 m2 d2,.slice B3 m3 d3,.slice B4 m4 d4],.nilIface]) Zz ⟨⟨_,_,1,_,_,_,rfl,rfl,rfl,rfl,rfl,rfl⟩,rfl,trivial⟩ (fun fz3 hle3 hf3=>⟨rfl,ResL.fine hM (YW.mono hle3 hr4)⟩)
   rw [if_neg (Zf f2)] at hM;refine zW ?_;exact YN T (vs:=[.agg #[Ze,Ze,Zn,Zn,Zn,Zn],.iface 65 (Zk 5)]) Zz ⟨⟨_,_,1,_,_,_,rfl,rfl,rfl,rfl,rfl,rfl⟩,rfl,trivial⟩ (fun fz3 hle3 hf3=>⟨rfl,ResL.err hM Zh YaC⟩)
 rw [if_neg (Zf f1)] at hM;refine zW ?_;exact YN T (vs:=[.agg #[Ze,Ze,Zn,Zn,Zn,Zn],.iface 65 (Zk 2)]) Zz ⟨⟨_,_,0,_,_,_,rfl,rfl,rfl,rfl,rfl,rfl⟩,rfl,trivial⟩ (fun fz3 hle3 hf3=>⟨rfl,ResL.err hM Zh YaC⟩)
set_option maxHeartbeats 4000000 in
theorem eParse_f {fz:FZ} {x:Sexpr} (hR:YS fz x vk):
 GFn prog 240 [.agg #[Zk x.kind,Zk x.value,Zk x.line,Zk x.column,.string x.text,vk]] fz [] (fun r fz' H'=>H'=[]/\ResL exprL fz' (YdJ x) r):=by
 obtain ⟨A,n,c,rfl,ik⟩:=hR.kids;have hM:YdJ x=if XVal x then match Yfu x with
  | .error c=>.error c
  | .ok f=>if EVal f then .ok f else .error 5
 else .error 2:=rfl
 refine zF Tryz.func240 Tryz.ntmps240 (fun w0=>?_);refine zW ?_;intros;refine zb (WZ hR) (fun f1=>?_) (fun f1=>?_)
 ·have hv:=Zt f1;rw [if_pos hv] at hM;refine wK (q:=YjL hv.sm hR) (h:=fun r4 fz4 H4 hle4 hR4=>?_);obtain ⟨rfl,f4,cs4,hr4,hR4⟩:=hR4;obtain ⟨v1,v2,rfl,hE4⟩:=YK hr4;obtain ⟨B1,m1,d1,rfl,j1⟩:=hE4.args;obtain ⟨B2,m2,d2,rfl,j2⟩:=hE4.kids;cases hp:Yfu x with
  | error c1=>
   rw [hp] at hR4 hM;obtain ⟨rfl,hc⟩:=hR4;rw [Yk hc];refine zW ?_;intros;exact YN T (vs:=[.agg #[Ze,Ze,Zk 0,Zn,Zn],.iface 65 (Zk c1)]) Zz ⟨⟨_,_,1,_,_,_,rfl,rfl,rfl,rfl,rfl,rfl⟩,rfl,trivial⟩ (fun fz3 hle3 hf3=>⟨rfl,ResL.err hM hc YaW⟩)
  | ok f=>
   rw [hp] at hR4 hM;obtain ⟨rfl,rfl⟩:=hR4;simp only at hM;refine zW ?_;intros
   ((refine zG ?_);refine We Zz Zz (Ylc hE4 (YdI _ hv.sm hp)) (fun f2=>?_) (fun f2=>?_))
   ·rw [if_pos (Zt f2)] at hM;refine zW ?_;exact YN T (vs:=[.agg #[.string f.op,.string f.name,Zk f.n,.slice B1 m1 d1,.slice B2 m2 d2],.nilIface]) Zz ⟨⟨_,_,1,_,_,_,rfl,rfl,rfl,rfl,rfl,rfl⟩,rfl,trivial⟩ (fun fz3 hle3 hf3=>⟨rfl,ResL.fine hM (exprL.mono hle3 hr4)⟩)
   rw [if_neg (Zf f2)] at hM;refine zW ?_;exact YN T (vs:=[.agg #[Ze,Ze,Zk 0,Zn,Zn],.iface 65 (Zk 5)]) Zz ⟨⟨_,_,1,_,_,_,rfl,rfl,rfl,rfl,rfl,rfl⟩,rfl,trivial⟩ (fun fz3 hle3 hf3=>⟨rfl,ResL.err hM Zh YaW⟩)
 rw [if_neg (Zf f1)] at hM;refine zW ?_;exact YN T (vs:=[.agg #[Ze,Ze,Zk 0,Zn,Zn],.iface 65 (Zk 2)]) Zz ⟨⟨_,_,0,_,_,_,rfl,rfl,rfl,rfl,rfl,rfl⟩,rfl,trivial⟩ (fun fz3 hle3 hf3=>⟨rfl,ResL.err hM Zh YaW⟩)
end Go.Proofs.YtfjopfinkdhmaaaGreatDoor
namespace Go.Proofs.YtfjopfinkdhmaaaGreatDoor
open Go.Lx Go.RowKit
attribute [local instance 10] Classical.propDecidable
theorem Yfk {x y:Sexpr} (h:nopl x=nopl y):x.kind=y.kind/\x.value=y.value/\x.text=y.text/\x.kids.map nopl=y.kids.map nopl:=by
 rw [YcC x,YcC y] at h;injection h with h1 h2 _ _ h3 h4
 exact ⟨h1,h2,h3,h4⟩
theorem Yd9 {x:Sexpr} {s:Bs} (h:nopl x=nopl (Yg s)):x.kind=1/\x.text=s:=by
 obtain ⟨h1,_,h3,_⟩:=Yfk h;exact ⟨h1,h3⟩
theorem Ymo {x:Sexpr} {n:Int} (h:nopl x=nopl (numE n)):x.kind=2/\x.value=n:=by
 obtain ⟨h1,h2,_,_⟩:=Yfk h;exact ⟨h1,h2⟩
theorem Yjz {x:Sexpr} {l:List Sexpr} (h:nopl x=nopl (YD l)):x.kind=3/\x.kids.map nopl=l.map nopl:=by
 obtain ⟨h1,_,_,h4⟩:=Yfk h;exact ⟨h1,h4⟩
theorem XA {l:List Sexpr} (h:l.map nopl=([]:List Sexpr).map nopl):l=[]:=by
 cases l with
 | nil=>rfl
 | cons a r=>cases h
theorem YG {l r:List Sexpr} {x:Sexpr} (h:l.map nopl=(x::r).map nopl):∃ y m,l=y::m/\nopl y=nopl x/\m.map nopl=r.map nopl:=by
 cases l with
 | nil=>cases h
 | cons a m=>
  rw [List.map_cons,List.map_cons] at h;injection h with h1 h2
  exact ⟨a,m,rfl,h1,h2⟩
theorem sims_app {l a b:List Sexpr} (h:l.map nopl=(a++b).map nopl):∃ y m,l=y++m/\y.map nopl=a.map nopl/\m.map nopl=b.map nopl:=by
 rw [List.map_append] at h;refine ⟨l.take a.length,l.drop a.length,(List.take_append_drop _ _).symm,?_,?_⟩
 ·rw [List.map_take,h,List.take_left' (by simp)]
 rw [List.map_drop,h,List.drop_left' (by simp)]
theorem Yg7 {l r:List Sexpr} (h:l.map nopl=r.map nopl):l.length=r.length:=by
 have:=congrArg List.length h;simpa using this
theorem XB {x:Sexpr} {w:Bs} {r:List Sexpr} (h:nopl x=nopl (YD (Yg w::r))):∃ r',Xw x=some (w,r')/\r'.map nopl=r.map nopl/\x.kind=3/\x.kids≠ []/\∀ k∈r',k∈x.kids:=by
 obtain ⟨h1,h2⟩:=Yjz h;obtain ⟨y,m,h3,h4,h5⟩:=YG h2;obtain ⟨h6,h7⟩:=Yd9 h4;refine ⟨m,?_,h5,h1,by rw [h3];simp,fun k hk=>by rw [h3];exact List.mem_cons_of_mem _ hk⟩;unfold Xw;rw [h3];simp only;rw [if_pos ⟨h1,h6⟩,h7]
theorem node_sim {x y:Sexpr} (h:nopl x=nopl y) (hy:YeA y):YeA x:=by
 obtain ⟨h1,h2,h3,h4⟩:=Yfk h;have hk:y.kids=[]->x.kids=[]:=fun e=>by rw [e] at h4;exact XA h4
 rcases hy with ⟨a,b,c,d⟩ | ⟨a,b,c,d⟩ | ⟨a,b,c⟩
 ·exact .inl ⟨h1.trans a,h3 ▸ b,h2.trans c,hk d⟩
 ·exact .inr (.inl ⟨h1.trans a,h3.trans b,hk c,h2 ▸ d⟩)
 exact .inr (.inr ⟨h1.trans a,h3.trans b,h2.trans c⟩)
theorem sims_mem {l r:List Sexpr} (h:l.map nopl=r.map nopl) {x:Sexpr} (hx:x∈l):∃ y∈r,nopl x=nopl y:=by
 have h1:nopl x∈r.map nopl:=h ▸ List.mem_map_of_mem hx;obtain ⟨y,hy,e⟩:=List.mem_map.1 h1;exact ⟨y,hy,e.symm⟩
theorem YlP:∀ (s:Nat) {x y:Sexpr},SizeOf.sizeOf x<=s->nopl x=nopl y->XOk y->XOk x
 | 0,x,_,hs,_,_=>by cases x;simp at hs
 | s+1,x,y,hs,h,hy=>by
  have hy:=Y2.1 hy;refine Y2.2 ⟨node_sim h hy.1,fun k hk=>?_⟩;obtain ⟨j,hj,e⟩:=sims_mem (Yfk h).2.2.2 hk;exact YlP s (by have:=Sexpr.kids_lt hk;omega) e (hy.2 j hj)
theorem YnY:∀ (s:Nat) {x y:Sexpr},SizeOf.sizeOf x<=s->nopl x=nopl y->xcount x=xcount y/\xdepth x=xdepth y
 | 0,x,_,hs,_=>by cases x;simp at hs
 | s+1,x,y,hs,h=>by
  obtain ⟨h1,_,_,h4⟩:=Yfk h;have key:∀ l m:List Sexpr,(∀ k∈l,SizeOf.sizeOf k<=s)->l.map nopl=m.map nopl->xcountL l=xcountL m/\xdepthL l=xdepthL m:=by
   intro l
   induction l with
   | nil=>intro m _ h;rw [XA h.symm];exact ⟨rfl,rfl⟩
   | cons a r ih=>
    intro m hl h;obtain ⟨b,m',rfl,e1,e2⟩:=YG h.symm;have i1:=YnY s (hl a (by simp)) e1.symm;have i2:=ih m' (fun k hk=>hl k (by simp [hk])) e2.symm;simp only [xcountL,xdepthL];rw [i1.1,i1.2,i2.1,i2.2];exact ⟨rfl,rfl⟩
  have h5:=key x.kids y.kids (fun k hk=>by have:=Sexpr.kids_lt hk;omega) h4;rw [Y4,Y4,Ybd,Ybd,h5.1,h5.2,h1];exact ⟨rfl,rfl⟩
theorem YdA {x y:Sexpr} (h:nopl x=nopl y) (hy:XVal y):XVal x:=by
 have h1:=YnY _ (Zs _) h;exact ⟨YlP _ (Zs _) h hy.1,by rw [h1.2];exact hy.2.1,by rw [h1.1];exact hy.2.2⟩
theorem Yib:∀ {a:List Bs} {l:List Sexpr},l.map nopl=(a.map Yg).map nopl->(∀ s∈a,Ydx s)->Yal l=.ok a
 | [],l,h,_=>by rw [XA h,Yal]
 | s::a,l,h,ht=>by
  rw [List.map_cons] at h;obtain ⟨y,m,rfl,h1,h2⟩:=YG h;obtain ⟨h3,h4⟩:=Yd9 h1;rw [Yal,if_neg (by rw [h3];simp),if_neg (by rw [h4];exact fun h=>h (ht s (by simp))),Yib h2 (fun s hs=>ht s (by simp [hs])),h4];rfl
theorem Ydo {s k:Bs} (h:YX s) (hk:¬LetP (Yap k 0)) (h0:k.size≠0):s≠k:=by
 rintro rfl;have:=h.1 0 Zi;rcases this with h1 | ⟨h1,_⟩
 ·exact hk h1
 exact h1 rfl
theorem Ym6 {s:Bs} (h:YX s):s≠Wm:=Ydo h (by unfold LetP;decide) Zh
theorem var_dash {s:Bs} (h:VarP s):s≠Wm:=by
 rintro rfl;exact absurd h.1 Zh
theorem Yhn {b:Bool}:∀ {l:List Param} {x:List Sexpr} {done:List Param},x.map nopl=(WD l).map nopl->(∀ p∈l,WG b p)->(∀ k∈x,XVal k)->parM b x done []=.ok (done++l)
 | [],x,done,h,_,_=>by
  rw [XA h,parM];simp [parT]
 | p::l,x,done,h,hp,hv=>by
  have e:WD (p::l)=Yg p.name::Yg Wm::Yg p.typ::WD l:=rfl;rw [e] at h;obtain ⟨x1,m1,rfl,h1,h⟩:=YG h;obtain ⟨x2,m2,rfl,h2,h⟩:=YG h;obtain ⟨x3,m3,rfl,h3,h⟩:=YG h;obtain ⟨a1,b1⟩:=Yd9 h1;obtain ⟨a2,b2⟩:=Yd9 h2;obtain ⟨a3,b3⟩:=Yd9 h3;have hk:=hp p (by simp);have hnd:x1.text≠Wm:=by
   rw [b1];have:=hk.1;cases b with
   | true=>exact var_dash (by simpa using this)
   | false=>exact Ym6 (by simpa using this)
  have hnb:¬PBad b x1.text:=by
   rw [b1];have:=hk.1;rintro (⟨h5,h6⟩ | ⟨h5,h6⟩)
   ·subst h5;exact h6 (by simpa using this)
   subst h5;exact h6 (by simpa using this)
  rw [parM.eq_def];simp only;rw [if_neg (fun h=>h ⟨a1,hv x1 (by simp)⟩),if_pos hnd,if_neg hnb,List.nil_append,parM.eq_def];simp only;rw [if_neg (fun h=>h ⟨a2,hv x2 (by simp)⟩),if_neg (fun h=>h b2),if_neg (by
   rintro (h5 | h5)
   ·cases h5
   exact h5 ⟨a3,hv x3 (by simp)⟩),if_neg (fun h5=>h5 (by rw [b3];exact hk.2)),Yhn h (fun q hq=>hp q (by simp [hq])) (fun k hk=>hv k (by simp [hk]))]
  rw [b1,b3];simp [parT]
theorem YgH {α:Type} {f:Sexpr->Except Int α} {w:α->Sexpr}:∀ {a:List α} {l:List Sexpr},l.map nopl=(a.map w).map nopl->(∀ k∈l,∀ y∈a,nopl k=nopl (w y)->f k=.ok y)->mapE f l=.ok a
 | [],l,h,_=>by rw [XA h,mapE]
 | y::a,l,h,hf=>by
  rw [List.map_cons] at h;obtain ⟨k,m,rfl,h1,h2⟩:=YG h;rw [mapE,hf k (by simp) y (by simp) h1,YgH h2 (fun k hk y hy=>hf k (by simp [hk]) y (by simp [hy]))];rfl
theorem bin_ope {w:Bs} (h:BinP w):OpE w:=h
theorem name_ope {w:Bs} (h:YX w):¬OpE w:=by
 rintro (h1 | h1 | h1)
 ·exact Ydo h (by unfold LetP;decide) Zh h1
 ·exact Ydo h (by unfold LetP;decide) Zh h1
 exact Ydo h (by unfold LetP;decide) Zh h1
theorem len2 {α:Type} {l:List α} (h:l.length=2):∃ a b,l=[a,b]:=by
 match l,h with
 | [a,b],_=>exact ⟨a,b,rfl⟩
theorem expr_p:∀ (d:Nat) {x:Sexpr} {e:Lx.Expr},SizeOf.sizeOf x<=d->nopl x=nopl (XU e)->EOk e->Ydd d x=.ok e
 | 0,x,_,hs,_,_=>by cases x;simp at hs
 | d+1,x,e,hs,h,he=>by
  have hE:=W0.1 he;rw [Ye9] at h;rw [Ydm];obtain ⟨op,name,n,args,kids⟩:=e;by_cases c1:op=kNumber
  ·rw [if_pos (show (Lx.Expr.mk op name n args kids).op=kNumber from c1)] at h;obtain ⟨a1,a2,a3,_⟩:=(YdX (e:=.mk op name n args kids) c1).1 hE.1;obtain ⟨h1,h2⟩:=Ymo h;rw [if_pos h1,h2];simp only [Lx.Expr.name,Lx.Expr.args,Lx.Expr.kids,Lx.Expr.n] at a1 a2 a3 ⊢;rw [a1,a2,a3,c1];rfl
  rw [if_neg (show ¬(Lx.Expr.mk op name n args kids).op=kNumber from c1)] at h;by_cases c2:op=kFluent
  ·rw [if_pos (show (Lx.Expr.mk op name n args kids).op=kFluent from c2)] at h;obtain ⟨a1,a2,a3,a4⟩:=(YdY (e:=.mk op name n args kids) c2).1 hE.1;obtain ⟨r',h1,h2,h3,_⟩:=XB h;rw [if_neg Zi,h1];simp only;rw [if_neg (name_ope a3),if_pos a3,Yib h2 a4];simp only [Lx.Expr.name,Lx.Expr.args,Lx.Expr.kids,Lx.Expr.n] at a1 a2 ⊢;rw [a1,a2,c2]
  rw [if_neg (show ¬(Lx.Expr.mk op name n args kids).op=kFluent from c2)] at h;obtain ⟨a1,a2,a3,a4,a5⟩:=(YdZ (e:=.mk op name n args kids) c1 c2).1 hE.1;obtain ⟨r',h1,h2,h3,_,h5⟩:=XB h;rw [if_neg Zi,h1];simp only;have hl:=Yg7 h2;rw [List.length_map] at hl;rw [if_pos (bin_ope a1),if_neg Zi,YgH h2 (fun k hk y hy hky=>expr_p d (by have:=Sexpr.kids_lt (h5 k hk);omega) hky (hE.2 y hy))];simp only [Lx.Expr.name,Lx.Expr.args,Lx.Expr.kids,Lx.Expr.n,Lx.Expr.op] at a2 a3 a4 ⊢;rw [a2,a3,a4];rfl
theorem YjK {x:Sexpr} {e:Lx.Expr} (h:nopl x=nopl (XU e)) (he:EOk e):Yfu x=.ok e:=expr_p _ (Zs _) h he
theorem YnD {x:Sexpr} {e:Lx.Expr} (h:nopl x=nopl (XU e)):x.kind≠1:=by
 have h1:=(Yfk h).1;rw [Ye9] at h1;rw [h1];split
 ·exact (show (2:Int)≠1 by decide)
 split
 ·exact (show (3:Int)≠1 by decide)
 exact (show (3:Int)≠1 by decide)
theorem Ymx:kAnd∈XQ:=.head _
theorem rsv_or:kOr∈XQ:=.tail _ (.head _)
theorem YjA:kNot∈XQ:=.tail _ (.tail _ (.head _))
theorem Ymw:YgK∈XQ:=.tail _ (.tail _ (.tail _ (.head _)))
theorem YjB:XL∈XQ:=.tail _ (.tail _ (.tail _ (.tail _ (.head _))))
theorem rsv_ex:WJ∈XQ:=.tail _ (.tail _ (.tail _ (.tail _ (.tail _ (.head _)))))
theorem Yk3 (f:Formula):f=.mk f.op f.name f.args f.params f.exprs f.kids:=by cases f;rfl
theorem Wj {s k:Bs} (h:YX s) (hk:k∈XQ):s≠k:=fun e=>h.2.2.2 (e ▸ hk)
theorem name_cnt {w:Bs} (h:YX w):cntM w= -1:=by
 have n1:w≠kNot:=Wj h YjA;have n2:¬Cnt2 w:=by
  have hs:∀ k:Bs,¬LetP (Yap k 0)->k.size≠0->w≠k:=fun k a b=>Ydo h a b
  rintro (h1 | h1 | h1 | h1 | h1 | h1 | h1 | h1)
  ·exact Wj h Ymw h1
  ·exact Wj h YjB h1
  ·exact Wj h rsv_ex h1
  ·exact hs kEq (by unfold LetP;decide) Zh h1
  ·exact hs kLt (by unfold LetP;decide) Zh h1
  ·exact hs kLe (by unfold LetP;decide) Zh h1
  ·exact hs kGt (by unfold LetP;decide) Zh h1
  exact hs kGe (by unfold LetP;decide) Zh h1
 rw [cntM,if_neg n1,if_neg n2]
theorem name_ops {w:Bs} (h:YX w):¬OpQ w/\¬OpB w/\¬OpC w:=by
 have hs:∀ k:Bs,¬LetP (Yap k 0)->k.size≠0->w≠k:=fun k a b=>Ydo h a b
 refine ⟨?_,?_,?_⟩
 ·rintro (h1 | h1)
  ·exact Wj h YjB h1
  exact Wj h rsv_ex h1
 ·rintro (h1 | h1 | h1 | h1)
  ·exact Wj h YjA h1
  ·exact Wj h Ymw h1
  ·exact Wj h Ymx h1
  exact Wj h rsv_or h1
 rintro (h1 | h1 | h1 | h1 | h1)
 ·exact hs kEq (by unfold LetP;decide) Zh h1
 ·exact hs kLt (by unfold LetP;decide) Zh h1
 ·exact hs kLe (by unfold LetP;decide) Zh h1
 ·exact hs kGt (by unfold LetP;decide) Zh h1
 exact hs kGe (by unfold LetP;decide) Zh h1
theorem ps_ok {l:List Param} (h:∀ p∈l,VarP p.name/\YcT p.typ):∀ p∈l,WG true p:=fun p hp=>⟨by rw [if_pos rfl];exact (h p hp).1,(h p hp).2⟩
theorem YnZ {w:Bs} (h:CmpOp w):¬OpQ w/\¬OpB w/\OpC w/\cntM w=2/\w≠kGt/\w≠kGe:=by
 rcases h with rfl | rfl | rfl
 ·exact ⟨by unfold OpQ;decide,by unfold OpB;decide,.inr (.inl rfl),by rw [cntM,if_neg Zh,if_pos (by unfold Cnt2;decide)],by decide,by decide⟩
 ·exact ⟨by unfold OpQ;decide,by unfold OpB;decide,.inr (.inr (.inl rfl)),by rw [cntM,if_neg Zh,if_pos (by unfold Cnt2;decide)],by decide,by decide⟩
 exact ⟨by unfold OpQ;decide,by unfold OpB;decide,.inl rfl,by rw [cntM,if_neg Zh,if_pos (by unfold Cnt2;decide)],by decide,by decide⟩
theorem Ynx:∀ (d:Nat) {x:Sexpr} {f:Formula},SizeOf.sizeOf x<=d->nopl x=nopl (Xc f)->FOk f->XVal x->Yas d x=.ok f
 | 0,x,_,hs,_,_,_=>by cases x;simp at hs
 | d+1,x,f,hs,h,hf,hv=>by
  have hF:=Wc.1 hf;obtain ⟨⟨hh,⟨k,hk,hr⟩,hps⟩,hes,hks⟩:=hF;rw [Ye8] at h;rw [Ydl];have e:=Yk3 f;obtain ⟨g1,g2,g3⟩:=hh;obtain ⟨r1,r2,r3,r4⟩:=hr;unfold YcK at hk;by_cases c1:f.op=kAtom
  ·rw [if_pos c1] at h;rw [if_pos (.inl c1)] at hk;injection hk with hk
   subst hk;have hn:=g1 c1;obtain ⟨r',h1,h2,h3,h4,_⟩:=XB h;have h5:=name_ops hn;rw [if_neg (fun h=>h4 h.2),h1];simp only;rw [name_cnt hn,if_neg (fun h=>absurd h.1 Zh),Ycu.eq_def,if_neg h5.1,if_neg h5.2.1,if_neg h5.2.2,if_pos hn,Yib h2 (g3 (.inl c1))];rw [r4 rfl,List.eq_nil_of_length_eq_zero r2,List.eq_nil_of_length_eq_zero r3,c1] at e;exact congrArg Except.ok e.symm
  rw [if_neg c1] at h;by_cases c2:f.op=kSame
  ·rw [if_pos c2] at h;rw [if_pos (.inr c2)] at hk;injection hk with hk
   subst hk;obtain ⟨hn,hl⟩:=g2 c2;obtain ⟨a,b,hab⟩:=len2 hl;obtain ⟨r',h1,h2,h3,h4,_⟩:=XB h;have h2':=h2;rw [hab] at h2;have h2:r'.map nopl=[Yg a,Yg b].map nopl:=h2;obtain ⟨y,m,rfl,e1,h2⟩:=YG h2;obtain ⟨z,m,rfl,e2,h2⟩:=YG h2;obtain rfl:=XA h2;have h5:=YnZ (w:=kEq) (.inr (.inr rfl));rw [if_neg (fun h=>h4 h.2),h1];simp only;rw [h5.2.2.2.1,if_neg (fun h=>h.2 rfl),Ycu.eq_def,if_neg h5.1,if_neg h5.2.1,if_pos h5.2.2.1];simp only;rw [cmpM,if_pos ⟨rfl,(Yd9 e1).1,(Yd9 e2).1⟩,Yib h2' (g3 (.inr c2))];rw [r4 rfl,List.eq_nil_of_length_eq_zero r2,List.eq_nil_of_length_eq_zero r3,c2,hn] at e;exact congrArg Except.ok e.symm
  rw [if_neg c2] at h;rw [if_neg (fun h=>h.elim c1 c2)] at hk;obtain ⟨n1,n2⟩:=r1 c1 c2;by_cases c3:CmpOp f.op
  ·rw [if_pos c3] at h hk;injection hk with hk
   subst hk;obtain ⟨a,b,hab⟩:=len2 r2;obtain ⟨r',h1,h2,h3,h4,_⟩:=XB h;rw [hab] at h2;have h2:r'.map nopl=[XU a,XU b].map nopl:=h2;obtain ⟨y,m,rfl,e1,h2⟩:=YG h2;obtain ⟨z,m,rfl,e2,h2⟩:=YG h2;obtain rfl:=XA h2;have h5:=YnZ c3;rw [if_neg (fun h=>h4 h.2),h1];simp only;rw [h5.2.2.2.1,if_neg (fun h=>h.2 rfl),Ycu.eq_def,if_neg h5.1,if_neg h5.2.1,if_pos h5.2.2.1];simp only;rw [cmpM,if_neg (fun h=>YnD e1 h.2.1),YjK e1 (hes a (by rw [hab];simp)),YjK e2 (hes b (by rw [hab];simp))];simp only;rw [Yn2,if_neg h5.2.2.2.2.1,if_neg h5.2.2.2.2.2];rw [r4 rfl,hab,List.eq_nil_of_length_eq_zero r3,n1,n2] at e;exact congrArg Except.ok e.symm
  rw [if_neg c3] at h hk
  -- the rest:and,or,not,imply,forall,exists
  have hB:∀ (w:Bs) (c:Int),f.op=w->OpB w->¬OpQ w->cntM w=c->(c<0\/c=f.kids.length)->f.params=[]->f.exprs=[]->nopl x=nopl (YD ([Yg w]++ []++f.kids.map Xc))->(if x.kind=3/\x.kids=[] then Except.ok (Formula.mk kAnd ⟨#[]⟩ [] [] [] []) else match Xw x with
   | none=>.error 2
   | some (w,r)=>if 0<=cntM w/\cntM w≠r.length then .error 2 else Ycu (Yas d) w r)=.ok f:=by
   intro w c b1 b2 b3 b4 b5 b6 b7 h;rw [List.append_nil] at h;obtain ⟨r',h1,h2,h3,h4,h5⟩:=XB (r:=f.kids.map Xc) h;have hl:=Yg7 h2;rw [List.length_map] at hl;rw [if_neg (fun h=>h4 h.2),h1];simp only;rw [b4,if_neg Zi,Ycu.eq_def,if_neg b3,if_pos b2,YgH h2 (fun k hk y hy hky=>Ynx d (by have:=Sexpr.kids_lt (h5 k hk);omega) hky (hks y hy) (Wb hv (h5 k hk)))];rw [b1,b6,b7,n1,n2] at e;exact congrArg Except.ok e.symm
  have hQ:∀ w:Bs,f.op=w->OpQ w->cntM w=2->f.kids.length=1->f.exprs=[]->nopl x=nopl (YD ([Yg w]++ [YD ((f.params.flatMap W1).map Yg)]++f.kids.map Xc))->(if x.kind=3/\x.kids=[] then Except.ok (Formula.mk kAnd ⟨#[]⟩ [] [] [] []) else match Xw x with
   | none=>.error 2
   | some (w,r)=>if 0<=cntM w/\cntM w≠r.length then .error 2 else Ycu (Yas d) w r)=.ok f:=by
   intro w b1 b3 b4 b5 b7 h;obtain ⟨r',h1,h2,h3,h4,h5⟩:=XB (r:=YD ((f.params.flatMap W1).map Yg)::f.kids.map Xc) h;obtain ⟨y,m,rfl,e1,h2⟩:=YG h2;obtain ⟨k3,kp⟩:=Yjz e1;have hl:=Yg7 h2;rw [List.length_map] at hl;have hvy:=Wb hv (h5 y (by simp));rw [if_neg (fun h=>h4 h.2),h1];simp only;rw [b4,if_neg (by rw [List.length_cons];omega),Ycu.eq_def,if_pos b3];simp only;rw [if_neg (by rw [k3];simp),Yhn (b:=true) (l:=f.params) (done:=[]) kp (ps_ok hps) (fun k hk=>Wb hvy hk)];rw [YgH h2 (fun k hk y hy hky=>Ynx d (by have:=Sexpr.kids_lt (h5 k (by simp [hk]));omega) hky (hks y hy) (Wb hv (h5 k (by simp [hk]))))];rw [b1,b7,n1,n2] at e;exact congrArg Except.ok e.symm
  have q1:¬kAnd=XL:=by decide
  have q2:¬kAnd=WJ:=by decide
  by_cases c4:f.op=kAnd
  ·rw [if_pos (.inl c4)] at hk;injection hk with hk
   subst hk;by_cases hks0:f.kids=[]
   ·rw [if_neg (fun h=>h.elim (fun h=>h c4) (fun h=>h hks0)),if_neg (by rw [c4];exact fun h=>h.elim q1 q2),hks0] at h;obtain ⟨a1,a2⟩:=Yjz h;rw [if_pos ⟨a1,XA a2⟩];rw [r4 rfl,hks0,List.eq_nil_of_length_eq_zero r2,c4,n1,n2] at e;exact congrArg Except.ok e.symm
   rw [if_pos (.inr hks0),if_neg (by rw [c4];exact fun h=>h.elim q1 q2),c4] at h;exact hB kAnd (-1) c4 (by unfold OpB;decide) (by unfold OpQ;decide) (by rw [cntM,if_neg Zh,if_neg (by unfold Cnt2;decide)]) (.inl Zh) (r4 rfl) (List.eq_nil_of_length_eq_zero r2) h
  rw [if_pos (.inl c4)] at h;by_cases c5:f.op=kOr
  ·rw [if_pos (.inr c5)] at hk;injection hk with hk
   subst hk;rw [if_neg (by rw [c5];decide),c5] at h;exact hB kOr (-1) c5 (by unfold OpB;decide) (by unfold OpQ;decide) (by rw [cntM,if_neg Zh,if_neg (by unfold Cnt2;decide)]) (.inl Zh) (r4 rfl) (List.eq_nil_of_length_eq_zero r2) h
  rw [if_neg (fun h=>h.elim c4 c5)] at hk;by_cases c6:f.op=kNot
  ·rw [if_pos c6] at hk;injection hk with hk
   subst hk;rw [if_neg (by rw [c6];decide),c6] at h;exact hB kNot 1 c6 (by unfold OpB;decide) (by unfold OpQ;decide) (by rw [cntM,if_pos rfl]) (.inr (by have h:f.kids.length=_:=r3;rw [h];rfl)) (r4 rfl) (List.eq_nil_of_length_eq_zero r2) h
  rw [if_neg c6] at hk;by_cases c7:f.op=YgK
  ·rw [if_pos c7] at hk;injection hk with hk
   subst hk;rw [if_neg (by rw [c7];decide),c7] at h;exact hB YgK 2 c7 (by unfold OpB;decide) (by unfold OpQ;decide) (by rw [cntM,if_neg Zh,if_pos (by unfold Cnt2;decide)]) (.inr (by have h:f.kids.length=_:=r3;rw [h];rfl)) (r4 rfl) (List.eq_nil_of_length_eq_zero r2) h
  rw [if_neg c7] at hk;by_cases c8:f.op=XL\/f.op=WJ
  ·rw [if_pos c8] at hk;injection hk with hk
   subst hk;rw [if_pos c8] at h;rcases c8 with c8 | c8
   ·rw [c8] at h;exact hQ XL c8 (.inl rfl) (by rw [cntM,if_neg Zh,if_pos (by unfold Cnt2;decide)]) r3 (List.eq_nil_of_length_eq_zero r2) h
   rw [c8] at h;exact hQ WJ c8 (.inr rfl) (by rw [cntM,if_neg Zh,if_pos (by unfold Cnt2;decide)]) r3 (List.eq_nil_of_length_eq_zero r2) h
  rw [if_neg c8] at hk;cases hk
variable {f:Formula}
theorem Yc0 {x:Sexpr} (h:nopl x=nopl (Xc f)) (hf:FVal f):WU x=.ok f:=by
 have hx:=YdA h hf.2;rw [WU,if_pos hx,YmY,Ynx _ (Zs _) h hf.1 hx];simp only;rw [if_pos hf]
theorem parseE_p {x:Sexpr} {e:Lx.Expr} (h:nopl x=nopl (XU e)) (he:EVal e):YdJ x=.ok e:=by
 have hx:=YdA h he.2;rw [YdJ,if_pos hx,YjK h he.1];simp only;rw [if_pos he]
end Go.Proofs.YtfjopfinkdhmaaaGreatDoor
namespace Go.Proofs.YtfjopfinkdhmaaaGreatDoor
open Go.Lx Go.RowKit
attribute [local instance 10] Classical.propDecidable
open Go.Proofs.Tryz (prog)
variable {vk:Value}
theorem YdR {fz:FZ} {k v l c:Int} {s:Bs}:QFn prog 89 [.agg #[Zk k,Zk v,Zk l,Zk c,.string s,vk]] fz (.bool (decide (k=1))):=by
 refine GFn.quiet ?_;refine zF Tryz.func89 Tryz.ntmps89 (fun w0=>?_);refine zW ?_;intros;refine zC (fun c1=>?_) (fun c1=>?_)
 ·exact wR (h:=by exact Yw c1)
 exact wR (h:=by exact Yn c1)
theorem Ycp {fz:FZ} {x:Sexpr} (h:YS fz x vk):QFn prog 36 [.agg #[Zk x.kind,Zk x.value,Zk x.line,Zk x.column,.string x.text,vk]] fz (.bool (Xw x).isSome):=by
 obtain ⟨A,n,c,rfl,ik⟩:=h.kids;have hl:=ik.len;refine GFn.quiet ?_;refine zF Tryz.func36 Tryz.ntmps36 (fun w0=>?_);refine zW ?_;intros;refine zC (fun c1=>?_) (fun c1=>?_)
 ·refine wC (fun c2=>?_) (fun c2=>?_)
  ·obtain ⟨w,r,hk⟩:∃ w r,x.kids=w::r:=by
    cases hx:x.kids with
    | nil=>rw [hx] at hl;simp at hl;omega
    | cons w r=>exact ⟨w,r,rfl⟩
   have hk0:x.kids[0]?=some w:=by rw [hk];rfl
   refine wI ik hk0 (fun p hp=>?_);refine zL hp ?_;intro cs hcs;obtain ⟨vw,rfl,hw⟩:=Yi hcs;refine zb YdR (fun f1=>?_) (fun f1=>?_)
   ·have:=Zt f1;exact wR (h:=by unfold Xw;rw [hk];simp only;rw [if_pos ⟨c1,this⟩];rfl)
   have:=Zf f1;exact wR (h:=by unfold Xw;rw [hk];simp only;rw [if_neg (fun h=>this h.2)];rfl)
  have hk:x.kids=[]:=List.eq_nil_of_length_eq_zero Zi;exact wR (h:=by unfold Xw;rw [hk];rfl)
 exact wR (h:=by unfold Xw;split;rfl;rw [if_neg (fun h=>c1 h.1)];rfl)
def Ybg (x:Sexpr):Except Int (Bs × List Bs):=match Xw x with
 | none=>.error 2
 | some (w,r)=>if YX w then match Yal r with
  | .error c=>.error c
  | .ok a=>.ok (w,a)
  else .error 8
def AtmV (fz:FZ) (m:Except Int (Bs × List Bs)) (v:Value):Prop:=match m with
 | .error c=>v=.tuple #[.string ⟨#[]⟩,.slice none 0 0,.iface 65 (.int .i64 c)]/\c≠0
 | .ok (w,a)=>∃ A n c,v=.tuple #[.string w,.slice A n c,.nilIface]/\Sl strL fz A n c a/\Short w
set_option maxHeartbeats 4000000 in
theorem Yj7 {fz:FZ} {x:Sexpr} (hs:XSm x) (h:YS fz x vk):
 GFn prog 223 [.agg #[Zk x.kind,Zk x.value,Zk x.line,Zk x.column,.string x.text,vk]] fz [] (fun r fz' H'=>H'=[]/\AtmV fz' (Ybg x) r):=by
 obtain ⟨A,n,c,rfl,ik⟩:=h.kids;have hl:=ik.len;have hM:Ybg x=match Xw x with
 | none=>.error 2
 | some (w,r)=>if YX w then match Yal r with
  | .error c=>.error c
  | .ok a=>.ok (w,a)
  else .error 8:=rfl
 have bad:∀ c,c≠0->Ybg x=.error c->∀ fz',AtmV fz' (Ybg x) (.tuple #[Ze,Zn,.iface 65 (Zk c)]):=fun c hc e fz'=>by rw [e];exact ⟨rfl,hc⟩
 have hbeg:=Ycp h;refine zF Tryz.func223 Tryz.ntmps223 (fun w0=>?_);refine zW ?_;intros;cases hh:Xw x with
 | none=>
  rw [hh] at hM hbeg;refine zc hbeg ?_;refine zW ?_;exact YN T (vs:=[Ze,Zn,.iface 65 (Zk 2)]) Zz ⟨rfl,rfl,rfl,trivial⟩ (fun fz3 hle3 hf3=>⟨rfl,bad 2 Zh hM _⟩)
 | some wr=>
  obtain ⟨w,r⟩:=wr;rw [hh] at hM hbeg;simp only at hM;obtain ⟨y,hk,rfl,hk3,hk1⟩:=XR hh;have hrs:=WA hs hh;have hk0:x.kids[0]?=some y:=by rw [hk];rfl
  rw [hk,List.length_cons] at hl;refine zc hbeg ?_;refine wI ik hk0 (fun p hp=>?_);refine wH hp.Sexpr_text (fun hst=>?_);refine wb (Ww hst) (fun f1=>?_) (fun f1=>?_)
  ·rw [if_pos (Zt f1)] at hM;refine wG ?_;refine XC (j:=1) T Zz Zz Zz Zz Zz Zz ik Zi (fun A' hA'=>?_);rw [hk,List.drop_one,List.tail_cons] at hA';refine zW ?_;rename_i g1;refine Ym (fun q σ fz' H'=>∃ (k:Nat) (v:Value) (Hs:HP) (out:List Bs),k<=n - 1/\q=n - 1 - k/\σ=[(24,Zk k),(23,Zk (n - 1:Nat)),(22,.slice A' (n - 1) (c - 1)),(5,v),(1,Zp g1)]/\fz=fz'/\H'=(g1,.cells #[Zk x.kind,Zk x.value,Zk x.line,Zk x.column,.string x.text,.slice A n c] 57 (0,0))::Hs/\Grow strL 9 fz v k Hs out/\Yal r=exA out (Yal (r.drop k))) ⟨0,_,[],[],Z0 _,rfl,rfl,rfl,rfl,Grow.nil _ _ _,by rw [YcL];rfl⟩ Zw Zb ?_;rintro q σ fz' H' ⟨k,v,Hs,out,hkn,rfl,rfl,rfl,rfl,hG,hT⟩;obtain ⟨Av,cv,rfl,_,_⟩:=hG.form;refine wC (fun c1=>?_) (fun c1=>?_)
   ·obtain ⟨z,hz⟩:=Yl (l:=r) (k:=k) Zi;rw [YbG hz,Yal] at hT;refine wI hA' hz (fun p2 hp2=>?_);refine zL hp2 ?_;intro cs hcs;obtain ⟨vz,rfl,hRz⟩:=Yi hcs;obtain ⟨Az,nz,cz,rfl,iz⟩:=hRz.kids;refine zW ?_;intros;rename_i g7;refine zb YdR (fun f2=>?_) (fun f2=>?_)
    ·rw [if_neg (Classical.not_not.2 (Zt f2))] at hT;refine wb (YnS hRz.text) (fun f3=>?_) (fun f3=>?_)
     ·rw [if_neg (Classical.not_not.2 (Zt f3)),YfU] at hT;refine zW ?_;refine Ya Zz (Yb T (cs:=[.string z.text]) Zz Zz Zz Zz Zz Zz Zz Zz (fun gb=>?_));refine Ya Zz (YP T (d:=z.text) (cs:=[.string z.text]) (Hr:=[(gb,_),(g7,_),(g1,_)]) Zz Zz Zz Zz Zz Zz Zz Zz (Zr _) hG YcX (.head _) ⟨rfl,hRz.text⟩ (by show _*16<=_;omega) Zi (fun v' Hs' hG'=>?_));exact wP (h:=by exact ⟨k+1,v',Hs',out++ [z.text],by omega,rfl,rfl,rfl,rfl,hG',hT⟩)
     rw [if_pos (Zf f3)] at hT;rw [show Yal r=.error 8 from hT] at hM;refine zW ?_;exact YN T (vs:=[Ze,Zn,.iface 65 (Zk 8)]) Zz ⟨rfl,rfl,rfl,trivial⟩ (fun fz3 hle3 hf3=>⟨rfl,bad 8 Zh hM _⟩)
    rw [if_pos (Zf f2)] at hT;rw [show Yal r=.error 2 from hT] at hM;refine zW ?_;exact YN T (vs:=[Ze,Zn,.iface 65 (Zk 2)]) Zz ⟨rfl,rfl,rfl,trivial⟩ (fun fz3 hle3 hf3=>⟨rfl,bad 2 Zh hM _⟩)
   rw [List.drop_eq_nil_of_le Zi,Yal,exA,List.append_nil] at hT;rw [hT] at hM;refine wI ik hk0 (fun p4 hp4=>?_);refine wH hp4.Sexpr_text (fun hst4=>?_);refine zW ?_;refine YN T (vs:=[.string y.text,.slice Av k cv,.nilIface]) Zz ⟨rfl,rfl,rfl,trivial⟩ (fun fz3 hle3 hf3=>⟨rfl,?_⟩);obtain ⟨A1,c1',hv1,hS1⟩:=hG.sl hle3 (fun p hp=>hf3 p (by simp [hp])) Zi;injection hv1 with hv1 hv2 hv3
   subst hv1 hv3;rw [hM];exact ⟨_,_,_,rfl,hS1,hst⟩
  rw [if_neg (Zf f1)] at hM;refine zW ?_;exact YN T (vs:=[Ze,Zn,.iface 65 (Zk 8)]) Zz ⟨rfl,rfl,rfl,trivial⟩ (fun fz3 hle3 hf3=>⟨rfl,bad 8 Zh hM _⟩)
def WW (w:Bs):Int:=if w=YcI then 3 else if w=YaR then 4 else if w=YaS then 5 else 0
theorem kinds_q {fz:FZ} {w:Bs}:QFn prog 219 [.string w] fz (Zk (WW w)):=by
 refine GFn.quiet ?_;refine zF Tryz.func219 Tryz.ntmps219 (fun w0=>?_);refine wC (fun c0=>?_) (fun c0=>?_)
 ·exact wR (h:=by rw [WW,if_pos (show w=YcI from c0)])
 have n0:¬w=YcI:=c0;refine wC (fun c1=>?_) (fun c1=>?_)
 ·exact wR (h:=by rw [WW,if_neg n0,if_pos (show w=YaR from c1)])
 have n1:¬w=YaR:=c1;refine wC (fun c2=>?_) (fun c2=>?_)
 ·exact wR (h:=by rw [WW,if_neg n0,if_neg n1,if_pos (show w=YaS from c2)])
 exact wR (h:=by rw [WW,if_neg n0,if_neg n1,if_neg (show ¬w=YaS from c2)])
variable {A:Option Addr} {c n:Nat}
theorem Yf2 {fz:FZ} {l:List Formula} (h:Sl YW fz A n c l) (hn:n<=1000000000):
 GFn prog 241 [.slice A n c] fz [] (fun v fz' H'=>Grow YW 38 fz' v n H' l):=by
 have l1:=h.len;refine zF Tryz.func241 Tryz.ntmps241 (fun w0=>?_);refine vG ?_;refine YbD T Zz Zz Zz Zz (fun eA=>?_) (fun eA=>?_)
 ·subst eA;have hl:l=[]:=by
   rcases h.elem with h0 | ⟨_,h0,_⟩
   ·exact List.eq_nil_of_length_eq_zero Zi
   cases h0
  subst hl;simp at l1;subst l1;refine zV ?_;refine YjD (H':=[]) (H2:=[]) rfl rfl (Zr _) (fun fz3 hle3 _=>Grow.nil _ _ _)
 refine zV ?_;refine Ya Zz (Yci T Zz Zz Zz (fun gb=>?_));refine zV ?_;refine Ya Zz (WX T (Hr:=[]) (n:=0) (l:=[]) Zz Zz Zz Zz Zz Zz Zz Zz (Zr _) (Grow.block (ys:=[]) rfl rfl (by intro p hp;cases hp) rfl Zh) YdT h (by show _*128<=_;omega) Zi (fun v' Hs' hO'=>?_));obtain ⟨Av',cv',rfl,_,_⟩:=hO'.form;refine zV ?_;refine YjD (H':=Hs') (H2:=[]) rfl rfl (by simp) (fun fz3 hle3 _=>(hO'.mono hle3).of (by simp) Zi)
def whenM:List Formula->Formula
 | []=>Y5
 | [f]=>f
 | f::g::r=>.mk kAnd ⟨#[]⟩ [] [] [] (f::g::r)
def chgM (ps:List Param) (ws:List Formula) (kind:Int) (name:Bs) (args:List Bs) (e:Lx.Expr):Change:=⟨kind,ps,whenM ws,name,args,e⟩
variable {v1 v2 v3 v4 v5 v6 v7:Value}
theorem Ykb {fz:FZ} {ps:List Param} {w u:Bs} {a1:List Bs} {p1:List Param} {e1:List Lx.Expr} {k1:List Formula} {kind:Int} {name:Bs} {args:List Bs} {e:Lx.Expr} {v8:Value}
 (h1:I64 kind) (h2:IsSl paramL fz v1 ps) (h3:FormulaR fz (.mk w u a1 p1 e1 k1) v2 v3 v4 v5) (h4:Short name) (h5:IsSl strL fz v6 args) (h6:ExprR fz e v7 v8):
 changeL.rep fz ⟨kind,ps,.mk w u a1 p1 e1 k1,name,args,e⟩ [Zk kind,v1,.string w,.string u,v2,v3,v4,v5,.string name,v6,.string e.op,.string e.name,Zk e.n,v7,v8]:=Yjf (x:=⟨kind,ps,.mk w u a1 p1 e1 k1,name,args,e⟩) ⟨h1,h2,h3,h4,h5,h6⟩
variable {Hs:HP} {fz':FZ}
theorem _root_.Go.Lx.Grow.fz {α:Type} {L:Lay α} {e:Nat} {fz:FZ} {l:List α} (hg:Grow L e fz (.slice A n c) n Hs l) (hle:Le fz fz') (hf:∀ p∈Hs,fz' p.1=some p.2) (hn:n<=140737488355328):Sl L fz' A n c l:=by
 obtain ⟨A1,c1,hv,h⟩:=hg.sl hle hf hn;injection hv with h1 h2 h3
 subst h1 h3;exact h
variable {H:HP}
theorem Yhm {a b c d:Nat × Obj}:([a,b,c]++(d::H)).Perm (a::(H++ [b,d,c])):=by
 refine List.Perm.cons _ ?_;refine List.Perm.trans ?_ (Zq (l₁:=[b,d,c]) (l₂:=H));exact List.Perm.cons _ (List.Perm.swap _ _ _)
theorem YmR {a b c d:Nat × Obj}:([a,b,c]++(d::H)).Perm (H++ [a,b,d,c]):=by
 refine List.Perm.trans ?_ (Zq (l₁:=[a,b,d,c]) (l₂:=H));exact (List.Perm.cons _ (List.Perm.cons _ (List.Perm.swap _ _ _)))
set_option maxHeartbeats 8000000 in
theorem YhU {fz:FZ} {Ap Aw Aa:Option Addr} {np cp nw cw na ca:Nat} {ps:List Param} {ws:List Formula} {kind:Int} {name:Bs} {args:List Bs} {e:Lx.Expr}
 (hp:Sl paramL fz Ap np cp ps) (hnp:np<=1000000000) (hw:Sl YW fz Aw nw cw ws) (hnw:nw<=1000000000) (hk:I64 kind) (hname:Short name) (ha:Sl strL fz Aa na ca args) (he:ExprR fz e v1 v2):
 GFn prog 224 [.agg #[.slice Ap np cp,.slice Aw nw cw],Zk kind,.string name,.slice Aa na ca,.agg #[.string e.op,.string e.name,Zk e.n,v1,v2]] fz []
  (fun r fz' H'=>H'=[]/\∃ cs,r=.agg (List.toArray cs)/\changeL.rep fz' (chgM ps ws kind name args e) cs):=by
 obtain ⟨Ba,ma,ba,rfl,ie1⟩:=he.args;obtain ⟨Ca,oa,da,rfl,ie2⟩:=he.kids;have hwl:=hw.len;refine zF Tryz.func224 Tryz.ntmps224 (fun w0=>?_);refine zWX ?_;refine Yj ?_;refine zWX ?_;intros;rename_i g5 g9 g10;refine Yj (Wp.mid (fun σ fz' H'=>∃ g11 Ap2 cp2,σ=[(11,Zp g11),(10,Zp g10),(5,Zp g5)]/\Le fz fz'/\H'=[(g11,.cells #[Zk kind,.slice Ap2 np cp2,.string kAnd,Ze,Zn,Zn,Zn,Zn,.string name,.slice Aa na ca,.string e.op,.string e.name,Zk e.n,.slice Ba ma ba,.slice Ca oa da] 123 (0,0)),(g10,.cells #[Zk 0,Zn,Ze,Ze,Zn,Zn,Zn,Zn,Ze,Zn,Ze,Ze,Zk 0,Zn,Zn] 123 (0,0)),(g5,.cells #[.slice Ap np cp,.slice Aw nw cw] 264 (0,0))]/\Sl paramL fz' Ap2 np cp2 ps) ?_ ?_)
 ·refine zWX ?_;refine Wp.drawP [] (Hq:=[_,_,_]) T.mixed Zj Zj Zb ?_;refine zW ?_;refine Ye ?_;refine Ye ?_;refine zW ?_;refine Ye ?_;refine Ye ?_;refine Ye ?_;refine PK.done ⟨by kernel_rfl,?_⟩;refine YI Zz Zz Zz ?_ ?_
  ·refine Yd (Yx [] [(g10,_),(g9,_),(g5,_)] Zz Zz Zz (Ybc hp hnp) (fun v15 fz1 Hc hle1 hR1=>⟨⟨hle1,by intro p hp;exact List.mem_append_right _ hp⟩,?_⟩));obtain ⟨Ap2,cp2,rfl,_,_⟩:=hR1.form;refine YI Zz Zz Zz ?_ ?_
   ·refine PoS.qk ⟨hle1,by intro p hp;exact List.mem_append_right _ hp⟩ (Yv Zz Zz Yaf ?_);refine YI Zz Zz Zz ?_ ?_
    ·refine PoS.qk ⟨hle1,by intro p hp;exact List.mem_append_right _ hp⟩ (Yee T Zz Zz Zz Zz Zz ?_);refine Yc Zz Zz ?_;refine Yd (Y6 T Zz Zz (fun g11=>⟨⟨hle1,by intro p hp;exact List.mem_cons_of_mem _ (List.mem_append_right _ hp)⟩,?_⟩));refine Yc Zz Zz ?_;refine PoS.hard0 Zj (XZ T (pre:=[]) (cs':=[Zk kind,.slice Ap2 np cp2,.string kAnd,Ze,Zn,Zn,Zn,Zn,.string name,.slice Aa na ca,.string e.op,.string e.name,Zk e.n,.slice Ba ma ba,.slice Ca oa da]) Zz Zz Zz rfl Zz Zz Zz ?_);refine Po.done ?_;refine zW ?_;exact midF (H':=[(g11,_),(g10,_),(g5,_)]) (H2:=(g9,_)::Hc) (by exact Yhm) (fun fz3 hle3 hf3=>⟨g11,Ap2,cp2,rfl,hle1.trans hle3,rfl,hR1.fz hle3 (fun p hp=>hf3 p (List.mem_cons_of_mem _ hp)) Zi⟩) Zw
    refine Yd (Y6 T Zz Zz (fun g11=>⟨⟨hle1,by intro p hp;exact List.mem_cons_of_mem _ (List.mem_append_right _ hp)⟩,?_⟩));refine Yc Zz Zz ?_;refine PoS.qk ⟨hle1,by intro p hp;exact List.mem_cons_of_mem _ (List.mem_append_right _ hp)⟩ (Yee T Zz Zz Zz Zz Zz ?_);refine Yc Zz Zz ?_;refine PoS.hard0 Zj (XZ T (pre:=[]) (cs':=[Zk kind,.slice Ap2 np cp2,.string kAnd,Ze,Zn,Zn,Zn,Zn,.string name,.slice Aa na ca,.string e.op,.string e.name,Zk e.n,.slice Ba ma ba,.slice Ca oa da]) Zz Zz Zz rfl Zz Zz Zz ?_);refine Po.done ?_;refine zW ?_;exact midF (H':=[(g11,_),(g10,_),(g5,_)]) (H2:=(g9,_)::Hc) (by exact Yhm) (fun fz3 hle3 hf3=>⟨g11,Ap2,cp2,rfl,hle1.trans hle3,rfl,hR1.fz hle3 (fun p hp=>hf3 p (List.mem_cons_of_mem _ hp)) Zi⟩) Zw
   refine Yd (Y6 T Zz Zz (fun g11=>⟨⟨hle1,by intro p hp;exact List.mem_cons_of_mem _ (List.mem_append_right _ hp)⟩,?_⟩));refine Yc Zz Zz ?_;refine PoS.qk ⟨hle1,by intro p hp;exact List.mem_cons_of_mem _ (List.mem_append_right _ hp)⟩ (Yv Zz Zz Yaf ?_);refine Yc Zz Zz ?_;refine PoS.qk ⟨hle1,by intro p hp;exact List.mem_cons_of_mem _ (List.mem_append_right _ hp)⟩ (Yee T Zz Zz Zz Zz Zz ?_);refine Yc Zz Zz ?_;refine PoS.hard0 Zj (XZ T (pre:=[]) (cs':=[Zk kind,.slice Ap2 np cp2,.string kAnd,Ze,Zn,Zn,Zn,Zn,.string name,.slice Aa na ca,.string e.op,.string e.name,Zk e.n,.slice Ba ma ba,.slice Ca oa da]) Zz Zz Zz rfl Zz Zz Zz ?_);refine Po.done ?_;refine zW ?_;exact midF (H':=[(g11,_),(g10,_),(g5,_)]) (H2:=(g9,_)::Hc) (by exact Yhm) (fun fz3 hle3 hf3=>⟨g11,Ap2,cp2,rfl,hle1.trans hle3,rfl,hR1.fz hle3 (fun p hp=>hf3 p (List.mem_cons_of_mem _ hp)) Zi⟩) Zw
  refine Yd (Y6 T Zz Zz (fun g11=>⟨⟨(Le.refl _),by intro p hp;exact List.mem_cons_of_mem _ hp⟩,?_⟩));refine Yc Zz Zz ?_;refine Yd (Yx [] [(g11,_),(g10,_),(g9,_),(g5,_)] Zz Zz Zz (Ybc hp hnp) (fun v15 fz1 Hc hle1 hR1=>⟨⟨hle1,by intro p hp;exact List.mem_append_right _ (List.mem_cons_of_mem _ hp)⟩,?_⟩));obtain ⟨Ap2,cp2,rfl,_,_⟩:=hR1.form;refine Yc Zz Zz ?_;refine PoS.qk ⟨hle1,by intro p hp;exact List.mem_append_right _ (List.mem_cons_of_mem _ hp)⟩ (Yv Zz Zz Yaf ?_);refine Yc Zz Zz ?_;refine PoS.qk ⟨hle1,by intro p hp;exact List.mem_append_right _ (List.mem_cons_of_mem _ hp)⟩ (Yee T Zz Zz Zz Zz Zz ?_);refine Yc Zz Zz ?_;refine PoS.hard0 Zj (XZ T (pre:=Hc) (cs':=[Zk kind,.slice Ap2 np cp2,.string kAnd,Ze,Zn,Zn,Zn,Zn,.string name,.slice Aa na ca,.string e.op,.string e.name,Zk e.n,.slice Ba ma ba,.slice Ca oa da]) Zz Zz Zz rfl Zz Zz Zz ?_);refine Po.done ?_;refine zW ?_;exact midF (H':=[(g11,_),(g10,_),(g5,_)]) (H2:=(g9,_)::Hc) (by exact YmR) (fun fz3 hle3 hf3=>⟨g11,Ap2,cp2,rfl,hle1.trans hle3,rfl,hR1.fz hle3 (fun p hp=>hf3 p (List.mem_cons_of_mem _ hp)) Zi⟩) Zw
 rintro σ fz' H' ⟨g11,Ap2,cp2,rfl,hle,rfl,hp2⟩;refine wC (fun c1=>?_) (fun c1=>?_)
 ·have hws:ws=[]:=List.eq_nil_of_length_eq_zero Zi;subst hws;refine zW ?_;refine Wg T (i:=1) rfl Zz Zz Zz Zz Zz (fun fz3 hle3 hf3=>⟨rfl,[Zk kind,.slice Ap2 np cp2,.string kAnd,Ze,Zn,Zn,Zn,Zn,.string name,.slice Aa na ca,.string e.op,.string e.name,Zk e.n,.slice Ba ma ba,.slice Ca oa da],rfl,?_⟩);exact Ykb hk ⟨_,_,_,rfl,hp2.mono hle3⟩ Ycw hname ⟨_,_,_,rfl,ha.mono (hle.trans hle3)⟩ (he.mono (hle.trans hle3))
 refine wC (fun c2=>?_) (fun c2=>?_)
 ·have hnw1:nw=1:=by omega
  obtain ⟨f,rfl⟩:∃ f,ws=[f]:=by
   match ws,hwl.trans hnw1 with
   | [f],_=>exact ⟨f,rfl⟩
  have hf0: [f][0]?=some f:=rfl;refine wI (hw.mono hle) hf0 (fun p hpf=>?_);refine zL hpf ?_;intro cs hcs;obtain ⟨u1,u2,u3,u4,rfl,hF⟩:=YA hcs;obtain ⟨B1,m1,d1,rfl,j1⟩:=hF.args;obtain ⟨B2,m2,d2,rfl,j2⟩:=hF.params;obtain ⟨B3,m3,d3,rfl,j3⟩:=hF.exprs;obtain ⟨B4,m4,d4,rfl,j4⟩:=hF.kids;refine zW ?_;refine Wg T (i:=1) rfl Zz Zz Zz Zz Zz (fun fz3 hle3 hf3=>⟨rfl,[Zk kind,.slice Ap2 np cp2,.string f.op,.string f.name,.slice B1 m1 d1,.slice B2 m2 d2,.slice B3 m3 d3,.slice B4 m4 d4,.string name,.slice Aa na ca,.string e.op,.string e.name,Zk e.n,.slice Ba ma ba,.slice Ca oa da],rfl,?_⟩);have hF3:=hF.mono hle3;cases f;exact Ykb hk ⟨_,_,_,rfl,hp2.mono hle3⟩ hF3 hname ⟨_,_,_,rfl,ha.mono (hle.trans hle3)⟩ (he.mono (hle.trans hle3))
 refine wK (q:=Yf2 (hw.mono hle) hnw) (h:=fun r2 fz2 H2 hle2 hR2=>?_);obtain ⟨A2,c2',rfl,_,_⟩:=hR2.form;refine Seq.freezeAll (H1:=[(g11,_),(g10,_),(g5,_)]) (H2:=H2) Zq (fun fz4 hle4 hf4=>?_);have hS:=hR2.fz hle4 hf4 Zi;refine zW ?_;refine Wg T (i:=1) rfl Zz Zz Zz Zz Zz (fun fz3 hle3 hf3=>⟨rfl,[Zk kind,.slice Ap2 np cp2,.string kAnd,Ze,Zn,Zn,Zn,.slice A2 nw c2',.string name,.slice Aa na ca,.string e.op,.string e.name,Zk e.n,.slice Ba ma ba,.slice Ca oa da],rfl,?_⟩)
 match ws,hwl with
 | [],hwl=>exact absurd (by rw [<- hwl];rfl) c1
 | [f],hwl=>exact absurd (by rw [<- hwl];rfl) c2
 | f::g::r,hwl=>exact Ykb hk ⟨_,_,_,rfl,hp2.mono (hle2.trans (hle4.trans hle3))⟩ ⟨by show Short kAnd;unfold Short;decide,XV,IsSl.nil,IsSl.nil,IsSl.nil,⟨_,_,_,rfl,hS.mono hle3⟩⟩ hname ⟨_,_,_,rfl,ha.mono (hle.trans (hle2.trans (hle4.trans hle3)))⟩ (he.mono (hle.trans (hle2.trans (hle4.trans hle3))))
end Go.Proofs.YtfjopfinkdhmaaaGreatDoor
